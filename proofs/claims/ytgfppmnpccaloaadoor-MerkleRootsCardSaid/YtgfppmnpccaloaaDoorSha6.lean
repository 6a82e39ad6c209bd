/-
  THE SUM: Digest.Copy, Digest.Sum, Sum.
-/
import Derived.Test.YtgfppmnpccaloaaDoorSha5
import Derived.Test.YtgfppmnpccaloaaDoorBytes
namespace Go.Proofs.YtgfppmnpccaloaaDoor
open Go.RowKit

/-- Digest.Write, whatever parts. -/
theorem write_any (p : Nat) (m : List UInt8) (F : List Nat) (ab : Option Addr) (cb : Nat) (b : List UInt8) (w : World) (h : DigAt w p m F) (hb : Rd w ab b.length cb 1 (bcs b)) (hF : 0 < b.length → ∀ x ∈ aF ab, x ∉ F) (hL : Laid w) (hF2 : ∀ x ∈ F, 2 ≤ x) :
    Calls Tryd.prog 15 #[.pointer (some ⟨p, 0, none⟩), .slice ab b.length cb] w fun e w' => e = .returned (.tuple #[]) ∧ ∃ F', DigAt w' p (m ++ b) F' ∧ Adv F F' w w' := by
  by_cases h0 : restOf m = []
  · exact write_whole p m F ab cb b w h h0 hb hF hL hF2
  · by_cases h1 : (restOf m).length + b.length < 64
    · exact write_short p m F ab cb b w h h0 h1 hb hF hF2
    · exact write_full p m F ab cb b w h h0 (by omega) hb hF hL hF2

theorem digA_one (s : S8) (a : Option Addr) (n c : Nat) (k : Int) : ∀ v ∈ (digA s (.slice a n c) k).toList, v.oneCell' = true := by
  intro v hv
  simp only [digA, List.mem_append, List.mem_cons, List.not_mem_nil, or_false] at hv
  rcases hv with h | rfl | rfl
  · exact wvs_one _ v h
  · rfl
  · rfl

/-- Digest.Copy -/
theorem copy_any (p : Nat) (m : List UInt8) (F : List Nat) (w : World) (h : DigAt w p m F) :
    Calls Tryd.prog 22 #[.pointer (some ⟨p, 0, none⟩)] w fun e w' => ∃ p' F', e = .returned (.pointer (some ⟨p', 0, none⟩)) ∧ DigAt w' p' m F' ∧ (∀ x ∈ F', w.heap.size ≤ x) ∧ Kp [] w w' := by
  obtain ⟨a, c, hp, hown, rfl⟩ := h
  have hrl : (restOf m).length < 64 := by rw [restOf_length]; omega
  obtain ⟨r, hr⟩ : ∃ r, r = restOf m := ⟨_, rfl⟩
  obtain ⟨s, hs⟩ : ∃ s, s = stOf m := ⟨_, rfl⟩
  rw [← hr] at hp hown hrl
  rw [← hs] at hp
  have HR := Lib.hid hr
  have HS := Lib.hid hs
  have HP := Lib.hid hp
  have HO := Lib.hid hown
  have hc8 := dig_c8 hp
  clear hp hown hr hs
  go_enter Tryd.func22, Tryd.ntmps22
  go_wp2_with (first | (refine wpList_gets Tryd.tdig rfl rfl HP.out (digA_size _ _ _) rfl ?_) | (refine wpList_sets Tryd.tdig rfl rfl (heap_alloc_new w _) rfl (digA_size _ _ _) (digA_one _ _ _ _ _) rfl rfl ?_; intro w2 h2 k2 s2; have KW := Lib.hid (kp_box k2 s2); have H2 := Lib.hid h2; have c8 := (KW.out.cell (p := ⟨p, 8, none⟩) (World.block_lt_of_cell? _ _ hc8) (by simp)).trans hc8; clear h2 k2 s2))
  refine (clone_any a c r _ (own_rd (own_kept HO.out KW.out (by simp))) (by omega)).mono ?_
  rintro e w3 ⟨a', c', rfl, h3, f3, k3⟩
  have hb3 := (k3.block _ (lt_of_block H2.out) (by simp)).trans H2.out
  have d8 := dig_c8 hb3
  have z8 := frozen_of_row w3 w.heap.size 8 _ _ hb3
  have HB3 := Lib.hid hb3
  have H3 := Lib.hid h3
  have F3 := Lib.hid f3
  have K3 := Lib.hid k3
  have HH2 := Lib.hid (lt_of_block H2.out)
  clear hb3 h3 f3 k3 c8
  go_wp2
  go_ret
  have hne : w.heap.size ∉ aF a' := fun hh => by have := F3.out _ hh; have := HH2.out; omega
  have hkv : Kp [w.heap.size] w3 (w3.setCell ⟨w.heap.size, 8, none⟩ (.slice a' r.length c')) := (Kp.refl _ w3).setCell (.inl (by simp)) _
  refine ⟨w.heap.size, w.heap.size :: aF a', rfl, ⟨a', c', ?_, ?_, rfl⟩, ?_, ?_⟩
  · rw [← HS.out, ← HR.out]; exact heap_setCell_same w3 w.heap.size 8 _ _ _ HB3.out
  · rw [← HR.out]; exact row_kept H3.out hkv (fun x hx hh => hne (by simp at hh; rwa [hh] at hx))
  · intro x hx
    simp only [List.mem_cons] at hx
    rcases hx with rfl | hx
    · exact Nat.le_refl _
    · have := F3.out x hx; have := HH2.out; omega
  · exact (KW.out.trans K3.out (by simp)).setCell (.inr (Nat.le_refl _)) _

theorem own_new (w : World) (cs : Array Value) (e n size : Nat) (hs : cs.size = n * size) (hm : n ≤ maxLen) : (w.alloc (.cells cs e)).ownsRow 0 e size (.slice (some ⟨w.heap.size, 0, none⟩) n n) n cs.toList :=
  ⟨by simpa using hs, .inr ⟨w.heap.size, n, cs, rfl, Nat.zero_le _, heap_alloc_new w _, Nat.le_refl _, hm, hs, List.take_of_length_le (by simp [hs])⟩⟩

/-! ### The padding -/
def pz (k : Nat) : List UInt8 := [128] ++ List.replicate k 0
theorem pz_length (k : Nat) : (pz k).length = 1 + k := by simp [pz]; omega
theorem pz_succ (k : Nat) : pz (k + 1) = pz k ++ [0] := by simp [pz, List.replicate_succ']
def padZ (n : Nat) : Nat := (119 - n % 64) % 64
def padOf (n : Nat) : List UInt8 := [128] ++ List.replicate (padZ n) 0 ++ be 8 ((8 * n : Nat) : Int)
def hashB (s : S8) : List UInt8 := s.l.flatMap fun x => [byteOf (wn x / 16777216), byteOf (wn x / 65536), byteOf (wn x / 256), byteOf (wn x)]
theorem hashB_length (s : S8) : (hashB s).length = 32 := rfl
theorem hash_set (s : S8) (k : Nat) (hk : k < 8) : (((((hashB s).take (4 * k) ++ List.replicate (32 - 4 * k) 0).set (4 * k) (byteOf (wn (s.l.getD k 0) / 16777216))).set (4 * k + 1) (byteOf (wn (s.l.getD k 0) / 65536))).set (4 * k + 2) (byteOf (wn (s.l.getD k 0) / 256))).set (4 * k + 3) (byteOf (wn (s.l.getD k 0))) = (hashB s).take (4 * (k + 1)) ++ List.replicate (32 - 4 * (k + 1)) 0 := by
  rcases (by omega : k = 0 ∨ k = 1 ∨ k = 2 ∨ k = 3 ∨ k = 4 ∨ k = 5 ∨ k = 6 ∨ k = 7) with rfl | rfl | rfl | rfl | rfl | rfl | rfl | rfl <;> rfl
theorem heap_alloc_size (w : World) (o : Obj) : (w.alloc o).heap.size = w.heap.size + 1 := by simp
/-- The sum of bytes. -/
def shaH (m : List UInt8) : Hsh := ⟨hashB (stOf (m ++ padOf m.length)), hashB_length _⟩

theorem cnt_is (n : Nat) : cnt n = ((n : Int) + 9223372036854775808) % 18446744073709551616 - 9223372036854775808 := by
  unfold cnt
  simp only [IntKind.wrap, IntKind.bits, IntKind.signed]
  simp
  split <;> omega
theorem cnt_tail (n j : Nat) : (wrap64 (wrap64 (cnt n + (1 + (j : Int))) + 8)).tmod 64 = 0 ↔ (n + 1 + j + 8) % 64 = 0 := by
  have h : (wrap64 (wrap64 (cnt n + (1 + (j : Int))) + 8)) % 64 = 0 ↔ (n + 1 + j + 8) % 64 = 0 := by rw [cnt_is]; unfold wrap64; omega
  rw [← h, ← Int.dvd_iff_tmod_eq_zero, ← Int.dvd_iff_emod_eq_zero]
theorem cnt_bits (n : Nat) : IntKind.u64.wrap (IntKind.u64.wrap (cnt n) * 8) = ((8 * n : Nat) : Int) % 18446744073709551616 := by
  rw [cnt_is]
  simp only [IntKind.wrap, IntKind.bits, IntKind.signed]
  simp
  omega
theorem byteOf_mod (x y : Int) (h : x % 256 = y % 256) : byteOf x = byteOf y := by unfold byteOf; rw [h]
theorem beTo_mod (x : Int) (k : Nat) (hk : k ≤ 8) : beTo 8 (x % 18446744073709551616) k = beTo 8 x k := by
  unfold beTo
  apply List.map_congr_left
  intro i hi
  have hi := List.mem_range.1 hi
  apply byteOf_mod
  rcases (by omega : i = 0 ∨ i = 1 ∨ i = 2 ∨ i = 3 ∨ i = 4 ∨ i = 5 ∨ i = 6 ∨ i = 7) with rfl | rfl | rfl | rfl | rfl | rfl | rfl | rfl <;> simp <;> omega

set_option maxRecDepth 100000 in
set_option maxHeartbeats 4000000 in
theorem dsum_any (p : Nat) (m : List UInt8) (F : List Nat) (w : World) (h : DigAt w p m F) (hL : Laid w) (hw2 : 2 ≤ w.heap.size) :
    Calls Tryd.prog 16 #[.pointer (some ⟨p, 0, none⟩)] w fun e w' => e = .returned (hv (shaH m)) ∧ Kp [] w w' := by
  obtain ⟨n, hn⟩ : ∃ n, n = m.length := ⟨_, rfl⟩
  have HN := Lib.hid hn
  obtain ⟨q9, hq9⟩ : ∃ q9, q9 = cnt n := ⟨_, rfl⟩
  have hc9 : w.cell? ⟨p, 9, none⟩ = some (.int .i64 q9) := by
    obtain ⟨a, c, hp, _, _⟩ := h
    rw [hq9, hn]; exact dig_c9 hp
  have hplt := h.flt p (by obtain ⟨a, c, _, _, rfl⟩ := h; simp)
  have HQ9 := Lib.hid hq9
  have HD := Lib.hid h
  have HL := Lib.hid hL
  obtain ⟨i0, T⟩ := Tryd.tbytes
  have HT := Lib.hid T
  have HC9 := Lib.hid hc9
  clear h hL T hn hc9 hq9
  go_enter Tryd.func16, Tryd.ntmps16
  go_wp2_with fail
  have HK0 := Lib.hid ((Kp.refl [] w).alloc (.cells (hvA zeroH) 24))
  refine (copy_any p m F _ (HD.out.kept HK0.out (by simp))).mono ?_
  rintro e w1 ⟨q, Fq, rfl, h1, f1, k1⟩
  have c9 : w1.cell? ⟨p, 9, none⟩ = some (.int .i64 q9) := ((HK0.out.trans k1 (by simp)).cell (p := ⟨p, 9, none⟩) hplt (by simp)).trans HC9.out
  have H1 := Lib.hid h1
  have F1 := Lib.hid f1
  have K1 := Lib.hid (HK0.out.trans k1 (by simp))
  have K10 := Lib.hid k1
  clear h1 f1 k1
  have HOP := Lib.hid (own_new w1 #[.int .u8 128] 5 1 1 rfl (by simp [maxLen]))
  have HK2 := Lib.hid (K1.out.alloc (.cells #[.int .u8 128] 5))
  have hszp := (Kp.refl [] w1).alloc (.cells #[.int .u8 128] 5)
  have HSZ1 := Lib.hid K1.out.size
  have HDQ := Lib.hid (H1.out.kept hszp (by simp))
  have HC9A := Lib.hid ((hszp.cell (p := ⟨p, 9, none⟩) (World.block_lt_of_cell? _ _ c9) (by simp)).trans c9)
  clear hszp
  go_wp2
  go_loopw [5] (fun v wr => ∃ (k : Nat) (a' : Option Addr) (c' : Nat), k ≤ padZ n ∧ v = .slice a' (1 + k) c' ∧ wr.ownsRow 0 5 1 (.slice a' (1 + k) c') (1 + k) (bcs (pz k)) ∧ (∀ x ∈ aF a', w1.heap.size ≤ x) ∧ Kp [] w1 wr) (fun v _ => match v with | .slice _ l _ => padZ n + 1 - l | _ => 0)
  case atStart => exact ⟨0, some ⟨w1.heap.size, 0, none⟩, 1, by omega, rfl, HOP.out, by simp [aF], (Kp.refl [] w1).alloc _⟩
  case round =>
    obtain ⟨k, a', c', hk, rfl, hown, hfa, hkp⟩ := hrel
    have d9 := (hkp.cell (p := ⟨p, 9, none⟩) (World.block_lt_of_cell? _ _ c9) (by simp)).trans c9
    have HOW := Lib.hid hown
    have HFA := Lib.hid hfa
    have HKP := Lib.hid hkp
    have hpz : padZ n < 64 := by unfold padZ; omega
    clear hown hfa hkp
    by_cases hlt : k < padZ n
    · have hm0 : ((wrap64 (wrap64 (q9 + (1 + (k : Int))) + 8)).tmod 64 != 0) = true := by rw [HQ9.out, bne_iff_ne, Ne, cnt_tail]; unfold padZ at hlt; omega
      go_wp2_with (at_builtin; refine wpList_append_rd HT.out rfl rfl rfl (HOW.out.alloc _) rfl (rd_alloc (m := 1) rfl (by simp [maxLen])) (by simp [Value.oneCell']) (by omega) (by unfold maxLen; omega) ?_; intro a3 c3 w3 h3 g3 f3; have H3 := Lib.hid h3; have G3 := Lib.hid g3; have F3 := Lib.hid f3; clear h3 g3 f3)
      go_roundw
      case rel =>
        refine ⟨k + 1, a3, c3, by omega, by rw [Nat.add_assoc], by rw [← Nat.add_assoc, pz_succ, bcs_app]; exact H3.out, fun x hx => ?_, (HKP.out.alloc _).pushed G3.out (fun x hx => .inr (HFA.out x hx))⟩
        rcases F3.out x hx with h | h
        · exact HFA.out x h
        · rw [h]; have := HKP.out.size; simp; omega
      case measure => simp; omega
    · obtain rfl : k = padZ n := by omega
      have hm0 : ((wrap64 (wrap64 (q9 + (1 + (padZ n : Int))) + 8)).tmod 64 != 0) = false := by rw [HQ9.out, bne_eq_false_iff_eq, cnt_tail]; unfold padZ; omega
      obtain ⟨z, hz⟩ : ∃ z, z = padZ n := ⟨_, rfl⟩
      have HZ := Lib.hid hz
      rw [← hz] at HOW hm0 hpz ⊢
      clear hz
      go_wp2
      obtain ⟨nn, hnn⟩ : ∃ nn : Int, nn = IntKind.u64.wrap (IntKind.u64.wrap q9 * 8) := ⟨_, rfl⟩
      rw [← hnn]
      have hnn0 : 0 ≤ nn := by rw [hnn, HQ9.out, cnt_bits]; omega
      have HNN := Lib.hid hnn
      clear hnn hm0
      go_loopw [5, 6] (fun v i wr => ∃ (k : Nat) (a' : Option Addr) (c' : Nat), k ≤ 8 ∧ v = .slice a' (1 + z + k) c' ∧ i = .int .i64 (7 - (k : Int)) ∧ wr.ownsRow 0 5 1 (.slice a' (1 + z + k) c') (1 + z + k) (bcs (pz z ++ beTo 8 nn k)) ∧ (∀ x ∈ aF a', w1.heap.size ≤ x) ∧ Kp [] w1 wr) (fun _ i _ => (intOf i + 1).toNat)
      case atStart => exact ⟨0, a', c', by omega, rfl, by go_num, by rw [Nat.add_zero, show beTo 8 nn 0 = [] from rfl, List.append_nil]; exact HOW.out, HFA.out, HKP.out⟩
      case round =>
        obtain ⟨k, a4, c4, hk, rfl, rfl, hown, hfa, hkp⟩ := hrel
        have HOW4 := Lib.hid hown
        have HFA4 := Lib.hid hfa
        have HKP4 := Lib.hid hkp
        clear hown hfa hkp
        by_cases hlt : k < 8
        · have e2 : IntKind.i64.wrap (8 * (7 - (k : Int))) = 8 * (7 - (k : Int)) := IntWalk.i64_in _ (by omega)
          have b1 : 0 ≤ 8 * (7 - (k : Int)) := by omega
          have b2 : 8 * (7 - (k : Int)) < 64 := by omega
          have b3 : (0 : Int) ≤ 7 - (k : Int) := by omega
          go_wp2_with (at_builtin; refine wpList_append_rd HT.out rfl rfl rfl (HOW4.out.alloc _) rfl (rd_alloc (m := 1) rfl (by simp [maxLen])) (by simp [Value.oneCell']) (by omega) (by unfold maxLen; omega) ?_; intro a3 c3 w3 h3 g3 f3; have H3 := Lib.hid h3; have G3 := Lib.hid g3; have F3 := Lib.hid f3; clear h3 g3 f3)
          clear e2 b1 b2 b3
          go_wp2
          go_roundw
          case rel =>
            have eb : bcs (beTo 8 nn (k + 1)) = bcs (beTo 8 nn k) ++ [.int .u8 (nn / 2 ^ (8 * (7 - k)) % 256)] := by
              rw [beTo_succ, bcs_app, show (8 * (((8 : Nat) : Int) - 1 - (k : Int))).toNat = 8 * (7 - k) by omega]
              rw [show bcs [byteOf (nn / 2 ^ (8 * (7 - k)))] = [bcell (byteOf (nn / 2 ^ (8 * (7 - k))))] from rfl, bcell_byteOf]
              simp [IntKind.wrap, IntKind.bits, IntKind.signed]
            refine ⟨k + 1, a3, c3, by omega, by rw [← Nat.add_assoc], by congr 1; omega, ?_, fun x hx => ?_, (HKP4.out.alloc _).pushed G3.out (fun x hx => .inr (HFA4.out x hx))⟩
            · rw [← Nat.add_assoc, bcs_app, eb, ← List.append_assoc, ← bcs_app]; exact H3.out
            · rcases F3.out x hx with h | h
              · exact HFA4.out x h
              · rw [h]; have := HKP4.out.size; simp; omega
          case measure => simp [intOf]; omega
        · obtain rfl : k = 8 := by omega
          have HPB := Lib.hid (show padOf n = pz z ++ beTo 8 nn 8 by unfold padOf pz be; rw [HZ.out, HNN.out, HQ9.out, cnt_bits, beTo_mod _ _ (Nat.le_refl _)])
          have hpl : (padOf n).length = 1 + z + 8 := by rw [HPB.out, List.length_append, pz_length, beTo_length]
          have hrd := own_rd HOW4.out
          rw [← HPB.out, ← hpl] at hrd
          rw [← hpl]
          have hDq := H1.out.kept HKP4.out (by simp)
          have HF1 := Lib.hid (show ∀ x ∈ Fq, w.heap.size ≤ x from fun x hx => by have := F1.out x hx; have := HK0.out.size; omega)
          have hcall := write_any q m Fq a4 c4 (padOf n) wr hDq hrd (fun _ x hx hh => by have := HFA4.out x hx; have := H1.out.flt x hh; omega) (HL.out.below (K1.out.trans HKP4.out (by simp))) (fun x hx => Nat.le_trans hw2 (HF1.out x hx))
          have HCALL := Lib.hid hcall
          have HPL := Lib.hid hpl
          clear hcall hDq hrd hpl
          go_wp2_with fail
          refine HCALL.out.mono ?_
          rintro e w5 ⟨rfl, F5, h5, k5⟩
          obtain ⟨st, hst⟩ : ∃ st, st = stOf (m ++ padOf n) := ⟨_, rfl⟩
          have hr5 : w5.rangeAt q 0 (wvs st.l) := by
            obtain ⟨a5, c5, hq5, _, _⟩ := h5
            intro j v hv
            rw [cell_of_row w5 q _ _ _ _ hq5, Nat.zero_add]
            have hj : j < 8 := (List.getElem?_eq_some_iff.1 hv).1
            unfold digA
            rw [List.getElem?_toArray, List.getElem?_append_left (by rw [wvs_length]; exact hj), ← hst]
            exact hv
          have hk05 : Kp [] (w.alloc (.cells (hvA zeroH) 24)) w5 := (K10.out.trans HKP4.out (by simp)).trans k5.kp (fun x hx hlt => by have := F1.out x hx; omega)
          have HST := Lib.hid (show shaH m = ⟨hashB st, hashB_length st⟩ by unfold shaH; rw [hst, HN.out])
          have HR5 := Lib.hid (rangeAt_kept hr5 ((Kp.refl [] w5).alloc (.cells (hvA zeroH) 24)) (by simp))
          have HK5 := Lib.hid hk05
          have HG5 := Lib.hid (heap_alloc_new w5 (.cells (hvA zeroH) 24))
          clear h5 k5 hst hr5 hk05
          go_wp2_with (refine wpList_get_mid Tryd.t8w rfl rfl HR5.out rfl rfl ?_)
          go_loopw [51] (fun i wr => ∃ (k : Nat), k ≤ 8 ∧ i = .int .i64 k ∧ wr.heap[w5.heap.size]? = some (.cells (bcs ((hashB st).take (4 * k) ++ List.replicate (32 - 4 * k) 0)).toArray 24 (0, 0)) ∧ Kp [] (w.alloc (.cells (hvA zeroH) 24)) wr ∧ w5.heap.size < wr.heap.size) (fun i _ => 8 - (intOf i).toNat)
          case atStart => exact ⟨0, by omega, rfl, HG5.out, HK5.out.alloc _, by simp⟩
          case round =>
            obtain ⟨k, hk, rfl, hG, hkp, hlt5⟩ := hrel
            have HG6 := Lib.hid hG
            have HK6 := Lib.hid hkp
            by_cases hlt : k < 8
            · obtain ⟨x, hx⟩ : ∃ x, x = st.l.getD k 0 := ⟨_, rfl⟩
              have hix : ∀ W, (Instr.index 50 (.agg (wvs st.l).toArray) (.int .i64 (k : Int))).run Tryd.prog W = .ok (.int .u32 (wn x)) W := by
                rw [hx]
                rcases (by omega : k = 0 ∨ k = 1 ∨ k = 2 ∨ k = 3 ∨ k = 4 ∨ k = 5 ∨ k = 6 ∨ k = 7) with rfl | rfl | rfl | rfl | rfl | rfl | rfl | rfl <;> intro W <;> kernel_rfl
              have hls : ∀ j, j < 32 → ∃ u, wr.cell? ⟨w5.heap.size, j, none⟩ = some u := fun j hj => by
                rw [cell_of_row _ _ j _ _ _ hG, List.getElem?_toArray]
                refine ⟨_, List.getElem?_eq_getElem ?_⟩
                rw [bcs_length, List.length_append, List.length_take, hashB_length, List.length_replicate]; omega
              obtain ⟨u0, s0⟩ := hls (4 * k) (by omega)
              obtain ⟨u1, s1⟩ := hls (4 * k + 1) (by omega)
              obtain ⟨u2, s2⟩ := hls (4 * k + 2) (by omega)
              obtain ⟨u3, s3⟩ := hls (4 * k + 3) (by omega)
              have z0 := frozen_of_row wr w5.heap.size (4 * k) _ _ hG
              have z1 := frozen_of_row wr w5.heap.size (4 * k + 1) _ _ hG
              have z2 := frozen_of_row wr w5.heap.size (4 * k + 2) _ _ hG
              have z3 := frozen_of_row wr w5.heap.size (4 * k + 3) _ _ hG
              have HX := Lib.hid hx
              have q0 : (0 : Int) ≤ 4 * (k : Int) := by omega
              have q1 : 4 * (k : Int) < 32 := by omega
              have q2 : 4 * (k : Int) + 1 < 32 := by omega
              have q3 : 4 * (k : Int) + 2 < 32 := by omega
              have q4 : 4 * (k : Int) + 3 < 32 := by omega
              have t0 : (4 * (k : Int)).toNat = 4 * k := by omega
              have t1 : (4 * (k : Int) + 1).toNat = 4 * k + 1 := by omega
              have t2 : (4 * (k : Int) + 2).toNat = 4 * k + 2 := by omega
              have t3 : (4 * (k : Int) + 3).toNat = 4 * k + 3 := by omega
              clear hG hkp hls hx
              go_wp2
              clear q0 q1 q2 q3 q4 t0 t1 t2 t3 hix s0 s1 s2 s3 z0 z1 z2 z3
              go_roundw
              case rel =>
                have hgs := HK5.out.size
                have hb : ∀ y : Int, bcell (byteOf y) = .int .u8 (y % 256) := fun y => by rw [bcell_byteOf]; simp [IntKind.wrap, IntKind.bits, IntKind.signed]
                have r0 := heap_setCell_same wr w5.heap.size (4 * k) _ _ (.int .u8 (wn x / 16777216 % 256)) HG6.out
                have r1 := heap_setCell_same _ w5.heap.size (4 * k + 1) _ _ (.int .u8 (wn x / 65536 % 256)) r0
                have r2 := heap_setCell_same _ w5.heap.size (4 * k + 2) _ _ (.int .u8 (wn x / 256 % 256)) r1
                have r3 := heap_setCell_same _ w5.heap.size (4 * k + 3) _ _ (.int .u8 (wn x % 256)) r2
                rw [← hb, ← hb, ← hb, ← hb, bcs_set, bcs_set, bcs_set, bcs_set, HX.out, hash_set st k hlt] at r3
                rw [← HX.out, hb, hb, hb, hb] at r3
                exact ⟨k + 1, by omega, by go_num, r3, (((HK6.out.setCell (.inr hgs) _).setCell (.inr hgs) _).setCell (.inr hgs) _).setCell (.inr hgs) _, by simpa using hlt5⟩
              case measure => simp [intOf]; omega
            · obtain rfl : k = 8 := by omega
              have hG' : wr.heap[w5.heap.size]? = some (.cells (hvA ⟨hashB st, hashB_length st⟩) 24 (0, 0)) := by
                rw [hG, List.take_of_length_le (by rw [hashB_length]; decide), Nat.sub_self, List.replicate_zero, List.append_nil]; rfl
              have HGF := Lib.hid hG'
              have HGR := Lib.hid ((hkp.block w.heap.size (by simp) (by simp)).trans (heap_alloc_new w (.cells (hvA zeroH) 24)))
              clear hG hkp hG'
              go_wp2_with (first | (refine wpList_get Tryd.thash rfl rfl HGF.out (hvA_size _) rfl ?_) | (refine wpList_set Tryd.thash rfl rfl HGR.out (hvA_size _) (hvA_size _) (hvA_one _) rfl rfl ?_; intro w9 h9 k9 s9))
              refine ret_block Tryd.thash rfl h9 (hvA_size _) rfl rfl ⟨by rw [HST.out], ?_⟩
              exact (HK0.out.trans HK6.out (by simp)).trans k9 (fun x hx hlt => by simp at hx; omega)
end Go.Proofs.YtgfppmnpccaloaaDoor
