import Derived.Test.YtngdbblgnimogaaWire7
namespace Go.Proofs.Ytngdbblgnimogaa
open Go.RowKit

def sl (s : ByteArray) : List UInt8 := s.data.toList
theorem sl_length (s : ByteArray) : (sl s).length = s.size := by simp [sl]

theorem rd_bytesRow (w : World) (s : ByteArray) (cap : Nat) (e : TypeId) (fr : Nat × Nat) (h1 : s.size ≤ cap) (h2 : cap ≤ maxLen) : Rd (w.drew.alloc (.cells (bytesRow s cap) e fr)) (some ⟨w.heap.size, 0, none⟩) s.size cap 1 (bcs (sl s)) := by
  refine ⟨by rw [bcs_length, sl_length]; omega, h1, h2, by simp, fun j u hu => ⟨_, rfl, ?_⟩⟩
  have hb : (w.drew.alloc (.cells (bytesRow s cap) e fr)).heap[w.heap.size]? = some (.cells (bytesRow s cap) e fr) := heap_alloc_new w.drew _
  rw [Addr.add_mid, cell_of_row _ _ _ _ _ _ hb]
  have hj : j < s.size := by have := (List.getElem?_eq_some_iff.1 hu).1; rw [bcs_length, sl_length] at this; exact this
  rw [← hu]
  have hs : s.data.size = s.size := rfl
  simp [bytesRow, bcs, sl, Array.getElem?_append, hs, hj, bcell]

/-- Out.Text -/
theorem otext_any (p : Nat) (bs : List UInt8) (F : List Nat) (s : ByteArray) (w : World) (h : OutAt w p bs F) (hl : bs.length ≤ 2147483648) (hll : s.size ≤ 2147483648) (hF : ∀ x ∈ F, x < w.heap.size) :
    Calls Try.prog 30 #[.pointer (some ⟨p, 0, none⟩), .string s] w fun e w' => e = .returned (.pointer (some ⟨p, 0, none⟩)) ∧ ∃ F', OutAt w' p (bs ++ (be 4 s.size ++ sl s)) F' ∧ Adv F F' w w' := by
  have hcv := run_bytes_of_string (P := Try.prog) w 9 22 5 s Try.underlying9 Try.underlying22 Try.underlying5
  have hg1 := grownCap_ge w s.size 0 5
  have hg2 := grownCap_le_maxLen w s.size 0 5 (by unfold maxLen; omega)
  obtain ⟨cap, hcap⟩ : ∃ cap, cap = grownCap w s.size 0 5 := ⟨_, rfl⟩
  rw [← hcap] at hcv hg1 hg2
  clear hcap
  have hrd := rd_bytesRow w s cap 5 ((bytesRow s cap).size, (bytesRow s cap).size + 1) hg1 hg2
  obtain ⟨ob, hob⟩ : ∃ ob, ob = Obj.cells (bytesRow s cap) 5 ((bytesRow s cap).size, (bytesRow s cap).size + 1) := ⟨_, rfl⟩
  rw [← hob] at hcv hrd
  have HRD := Lib.hid hrd
  have H := Lib.hid h
  have HF := Lib.hid hF
  clear hrd h hF hob hg2
  go_enter Try.func30, Try.ntmps30
  go_wp2_with fail
  have hk : Kp [] w (w.drew.alloc ob) := (Kp.refl [] w).drew.alloc _
  have hO : OutAt (w.drew.alloc ob) p bs F := by
    obtain ⟨v, hv, rfl⟩ := H.out
    exact ⟨v, ⟨(hk.block _ (lt_of_block hv.1) (by simp)).trans hv.1, own_kept hv.2 hk (by simp)⟩, rfl⟩
  have hcall := obytes_any p bs F (some ⟨w.heap.size, 0, none⟩) cap (sl s) (w.drew.alloc ob) hO hl (by rw [sl_length]; exact HRD.out) (by rw [sl_length]; exact hll) (by intro x hx hx2; have := HF.out x hx2; simp [aF] at hx; omega)
  rw [sl_length] at hcall
  refine hcall.mono ?_
  rintro e w1 ⟨rfl, F', h1, k1⟩
  have H1 := Lib.hid h1
  have K1 := Lib.hid k1
  clear h1 k1 hO hcall
  go_wp2
  go_ret
  refine ⟨rfl, F', H1.out, ⟨(hk.mono (by simp)).trans K1.out.kp (fun x hx _ => hx), fun x hx => ?_⟩⟩
  rcases K1.out.gr x hx with h | h
  · exact .inl h
  · right; have := hk.size; omega

/-- Out.Bool -/
theorem obool_any (p : Nat) (bs : List UInt8) (F : List Nat) (b : Bool) (w : World) (h : OutAt w p bs F) (hl : bs.length ≤ 4294967296) :
    Calls Try.prog 34 #[.pointer (some ⟨p, 0, none⟩), .bool b] w fun e w' => e = .returned (.pointer (some ⟨p, 0, none⟩)) ∧ ∃ F', OutAt w' p (bs ++ [if b then 1 else 0]) F' ∧ Adv F F' w w' := by
  obtain ⟨i0, T⟩ := Try.tbytes
  obtain ⟨a, c, hv, rfl⟩ := h.cell
  have hcell : w.cell? ⟨p, 0, none⟩ = some (.slice a bs.length c) := cell_of_one hv.1
  have hplt := lt_of_block hv.1
  have hca : ∀ o, (w.alloc o).cell? ⟨p, 0, none⟩ = some (.slice a bs.length c) := fun o => by rw [World.cell?_alloc_past _ _ _ hplt]; exact hcell
  have HV := Lib.hid hv
  clear h hv
  cases b
  all_goals
    go_enter Try.func34, Try.ntmps34
    go_wp2_with (at_builtin; refine wpList_append_rd T rfl rfl rfl (HV.out.2.alloc _) rfl (rd_alloc (m := 1) rfl (by simp [maxLen])) (by simp [Value.oneCell']) (by omega) (by simp [maxLen]; omega) ?_; intro a2 c2 w1 hown hgrow hg; have hb1 := out_keep HV.out ((Kp.refl _ _).alloc _) hgrow; have hc1 := cell_of_one hb1; have hf1 := free_of_one hb1; have HO := Lib.hid hown; have HW := Lib.hid hgrow; have HG := Lib.hid hg; clear hown hgrow hg hb1)
    go_ret
  · have P := out_put (new := [0]) HV.out ((Kp.refl _ _).alloc _) rfl HO.out HW.out HG.out
    exact ⟨rfl, _, P.1, P.2⟩
  · have P := out_put (new := [1]) HV.out ((Kp.refl _ _).alloc _) rfl HO.out HW.out HG.out
    exact ⟨rfl, _, P.1, P.2⟩

/-- Out.Hash -/
theorem ohash_any (p : Nat) (bs : List UInt8) (F : List Nat) (h : Hsh) (w : World) (ho : OutAt w p bs F) (hl : bs.length ≤ 4294967296) :
    Calls Try.prog 32 #[.pointer (some ⟨p, 0, none⟩), hv h] w fun e w' => e = .returned (.pointer (some ⟨p, 0, none⟩)) ∧ ∃ F', OutAt w' p (bs ++ h.1) F' ∧ Adv F F' w w' := by
  obtain ⟨i0, T⟩ := Try.tbytes
  obtain ⟨a, c, hv', rfl⟩ := ho.cell
  have hcell : w.cell? ⟨p, 0, none⟩ = some (.slice a bs.length c) := cell_of_one hv'.1
  have hplt := lt_of_block hv'.1
  have hca : ∀ o, (w.alloc o).cell? ⟨p, 0, none⟩ = some (.slice a bs.length c) := fun o => by rw [World.cell?_alloc_past _ _ _ hplt]; exact hcell
  have HV := Lib.hid hv'
  clear ho hv'
  go_enter Try.func32, Try.ntmps32
  go_wp2
  have hbA : (w.alloc (.cells (hvA h) 39)).drew.heap[w.heap.size]? = some (.cells (hvA h) 39 (0, 0)) := heap_alloc_new w _
  go_region_law ((refine step_append_rd T rfl rfl rfl ((HV.out.2.alloc _).drew) rfl (rd_block (m := 32) hbA (hvA_size h) (by simp [maxLen])) (hvA_one h) (by omega) (by simp [maxLen]; omega) ?_); intro a2 c2 w1 hown hgrow hg; have hb1 := out_keep HV.out ((Kp.refl _ _).alloc _).drew hgrow; have hc1 := cell_of_one hb1; have hf1 := free_of_one hb1; have HO := Lib.hid hown; have HW := Lib.hid hgrow; have HG := Lib.hid hg; clear hown hgrow hg hb1)
  all_goals
    go_wp2
    go_ret
    have P := out_put (new := h.1) HV.out ((Kp.refl _ _).alloc _).drew (by rw [h.2]) HO.out HW.out HG.out
    exact ⟨rfl, _, P.1, P.2⟩

/-- The bytes of hashes, one behind the other. -/
def hb (l : List Hsh) : List UInt8 := l.flatMap (·.1)
theorem hb_length (l : List Hsh) : (hb l).length = l.length * 32 := by
  induction l with
  | nil => rfl
  | cons h l ih => simp only [hb, List.flatMap_cons, List.length_append, h.2, List.length_cons] at *; omega
theorem hb_take_succ (l : List Hsh) (k : Nat) (hk : k < l.length) : hb (l.take (k + 1)) = hb (l.take k) ++ l[k].1 := by
  rw [List.take_succ_eq_append_getElem hk]; unfold hb; rw [List.flatMap_append]; simp

/-- Where the hash k of a list lies. -/
theorem rd_hash {w : World} {b off : Nat} {l : List Hsh} (hc : ∀ j u, (hsc l)[j]? = some u → w.cell? ⟨b, off + j, none⟩ = some u) (k : Nat) (hk : k < l.length) : w.rangeAt b (off + k * 32) (hcs l[k]) := by
  intro j v hj
  rw [Nat.add_assoc]
  exact hc _ _ (hsc_at l k hk j v hj)

set_option maxHeartbeats 400000 in
/-- Out.Hashes -/
theorem ohashes_any (p : Nat) (bs : List UInt8) (F : List Nat) (a : Option Addr) (c : Nat) (l : List Hsh) (w : World) (ho : OutAt w p bs F) (hl : bs.length ≤ 2147483648) (hr : Rd w a l.length c 32 (hsc l)) (hll : l.length ≤ 16777216) (hF : 0 < l.length → ∀ x ∈ aF a, x ∉ F) (hFw : ∀ x ∈ F, x < w.heap.size) :
    Calls Try.prog 33 #[.pointer (some ⟨p, 0, none⟩), .slice a l.length c] w fun e w' => e = .returned (.pointer (some ⟨p, 0, none⟩)) ∧ ∃ F', OutAt w' p (bs ++ (be 4 l.length ++ hb l)) F' ∧ Adv F F' w w' := by
  have HR := Lib.hid hr
  have HF := Lib.hid hF
  have HW := Lib.hid hFw
  clear hr hF hFw
  go_enter Try.func33, Try.ntmps33
  go_wp2_with fail
  refine (ocount_any p bs F l.length _ ho (by omega)).mono ?_
  rintro e w1 ⟨rfl, F1, h1, k1⟩
  have H1 := Lib.hid h1
  have K1 := Lib.hid k1
  clear h1 k1 ho
  go_wp2
  go_loopw [13] (fun i wr => ∃ (k : Nat) (F' : List Nat), k ≤ l.length ∧ i = .int .i64 k ∧ OutAt wr p (bs ++ be 4 l.length ++ hb (l.take k)) F' ∧ Adv F F' w wr) (fun i _ => l.length - (intOf i).toNat)
  case atStart => exact ⟨0, F1, by omega, rfl, by simpa [hb] using H1.out, K1.out⟩
  case round =>
    obtain ⟨k, F', hk, rfl, hO, hA⟩ := hrel
    by_cases hlt : k < l.length
    · have hrd := HR.out.kept hA.kp (HF.out (by omega))
      obtain ⟨b, off, rfl, hb', hcs⟩ := hrd.spot (by rw [hsc_length]; omega)
      have hra := rd_hash hcs k hlt
      obtain ⟨hh, hhd⟩ : ∃ hh, hh = l[k] := ⟨_, rfl⟩
      rw [← hhd] at hra
      have HH := Lib.hid hhd
      obtain ⟨m, hm⟩ : ∃ m, m = bs ++ be 4 l.length ++ hb (l.take k) := ⟨_, rfl⟩
      rw [← hm] at hO
      have hml : m.length = bs.length + 4 + k * 32 := by rw [hm, List.length_append, List.length_append, be_length, hb_length, List.length_take]; omega
      have hml2 : m.length ≤ 4294967296 := by omega
      have HM := Lib.hid hm
      have HO := Lib.hid hO
      have HA := Lib.hid hA
      have HRA := Lib.hid hra
      clear hrd hcs hra hm hO hA hml hhd
      go_wp2_with (first | (refine wpList_get_mid Try.thash rfl rfl HRA.out (hcs_length _) rfl ?_) | (refine wpList_set Try.thash rfl rfl (heap_alloc_new wr _) rfl (hvA_size hh) (hvA_one hh) rfl rfl ?_; intro w2 h2 k2 s2) | (refine wpList_get Try.thash rfl rfl h2 (hvA_size hh) rfl ?_))
      have kk : Kp [] wr w2 := ⟨k2.os, k2.tape, k2.output, by rw [s2]; simp, fun i hi _ => (k2.block i (by simp; omega) (by simp; omega)).trans (heap_alloc_old wr _ hi)⟩
      have hO2 : OutAt w2 p m F' := by
        obtain ⟨v, hv, rfl⟩ := HO.out
        exact ⟨v, ⟨(kk.block _ (lt_of_block hv.1) (by simp)).trans hv.1, own_kept hv.2 kk (by simp)⟩, rfl⟩
      refine (ohash_any p m F' hh w2 hO2 hml2).mono ?_
      rintro e w3 ⟨rfl, F3, h3, k3⟩
      have H3 := Lib.hid h3
      have K3 := Lib.hid k3
      have KK := Lib.hid kk
      clear h3 k3 kk hO2 h2 k2 s2
      go_wp2
      go_roundw
      case rel =>
        refine ⟨k + 1, F3, by omega, by go_num, by rw [hb_take_succ l k hlt, ← List.append_assoc, ← HM.out, ← HH.out]; exact H3.out, HA.out.trans ⟨(KK.out.mono (by simp)).trans K3.out.kp (fun x hx _ => hx), fun x hx => ?_⟩⟩
        rcases K3.out.gr x hx with h | h
        · exact .inl h
        · right; have := KK.out.size; omega
      case measure => simp [intOf]; omega
    · obtain rfl : k = l.length := by omega
      go_wp2
      go_ret
      exact ⟨rfl, F', by rw [← List.append_assoc]; simpa using hO, hA⟩

end Go.Proofs.Ytngdbblgnimogaa
