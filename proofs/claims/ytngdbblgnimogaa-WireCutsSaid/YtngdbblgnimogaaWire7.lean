import Derived.Test.YtngdbblgnimogaaWire6
namespace Go.Proofs.Ytngdbblgnimogaa
open Go.RowKit

theorem be_length (s : Nat) (n : Int) : (be s n).length = s := beTo_length s n s
theorem OutAt.cell {w : World} {p : Nat} {bs : List UInt8} {F : List Nat} (h : OutAt w p bs F) : ∃ a c, OutIs w p (.slice a bs.length c) bs ∧ F = p :: aF a := by
  obtain ⟨v, hv, rfl⟩ := h
  rcases hv.2.2 with ⟨rfl, h0⟩ | ⟨g, cap, cur, rfl, _⟩
  · exact ⟨none, 0, by rw [h0]; exact hv, by simp [rowF, aF]⟩
  · exact ⟨_, _, hv, by rw [rowF_slice]⟩

/-- What an append leaves of an Out. -/
theorem out_put {w W w1 : World} {p : Nat} {a a' : Option Addr} {c c' : Nat} {bs new : List UInt8} {n : Nat} (h : OutIs w p (.slice a bs.length c) bs) (hW : Kp [] w W) (hn : n = bs.length + new.length)
    (hown : w1.ownsRow 0 5 1 (.slice a' n c') n (bcs bs ++ bcs new)) (hgrow : W.grownBy w1 (Value.ownBlock (.slice a bs.length c))) (hg : ∀ x ∈ aF a', x ∈ aF a ∨ x = W.heap.size) :
    OutAt (w1.setCell ⟨p, 0, none⟩ (.slice a' n c')) p (bs ++ new) (p :: aF a') ∧ Adv (p :: aF a) (p :: aF a') w (w1.setCell ⟨p, 0, none⟩ (.slice a' n c')) := by
  subst hn
  have hb := out_keep h hW hgrow
  have hne := own_ne hb hown (by decide)
  have hpw := lt_of_block h.1
  refine ⟨⟨_, ⟨one_setCell hb, ?_⟩, by rw [rowF_slice]⟩, ((hW.mono (by simp)).grown hgrow ?_).setCell (.inl (by simp)) _, ?_⟩
  · have := ownsRow_setCell_other hown (a := ⟨p, 0, none⟩) hne (.slice a' (bs.length + new.length) c')
    rw [List.length_append, bcs_app]
    exact this
  · intro k hk
    cases a with
    | none => simp [Value.ownBlock] at hk
    | some b => simp [Value.ownBlock] at hk; simp [aF, hk]
  · intro x hx
    simp only [List.mem_cons] at hx
    rcases hx with rfl | hx
    · simp
    · rcases hg x hx with h1 | h1
      · left; simp [h1]
      · right; rw [h1]; exact hW.size

theorem oint_any (p : Nat) (bs : List UInt8) (F : List Nat) (n : Int) (w : World) (h : OutAt w p bs F) (hl : bs.length ≤ 4294967296) :
    Calls Try.prog 9 #[.pointer (some ⟨p, 0, none⟩), .int .i64 n] w fun e w' => e = .returned (.pointer (some ⟨p, 0, none⟩)) ∧ ∃ F', OutAt w' p (bs ++ be 8 n) F' ∧ Adv F F' w w' := by
  go_enter Try.func9, Try.ntmps9
  go_wp2_with fail
  refine (number_any p bs F n 8 _ h hl (by decide)).mono ?_
  rintro e w1 ⟨rfl, F', h1, k1⟩
  have H := Lib.hid h1
  have K := Lib.hid k1
  clear h1 k1
  go_wp2
  go_ret
  exact ⟨rfl, F', H.out, K.out⟩

theorem ocount_any (p : Nat) (bs : List UInt8) (F : List Nat) (n : Int) (w : World) (h : OutAt w p bs F) (hl : bs.length ≤ 4294967296) :
    Calls Try.prog 39 #[.pointer (some ⟨p, 0, none⟩), .int .i64 n] w fun e w' => e = .returned (.tuple #[]) ∧ ∃ F', OutAt w' p (bs ++ be 4 n) F' ∧ Adv F F' w w' := by
  go_enter Try.func39, Try.ntmps39
  go_wp2_with fail
  refine (number_any p bs F n 4 _ h hl (by decide)).mono ?_
  rintro e w1 ⟨rfl, F', h1, k1⟩
  have H := Lib.hid h1
  have K := Lib.hid k1
  clear h1 k1
  go_wp2
  go_end0
  exact ⟨rfl, F', H.out, K.out⟩

theorem oall_any (p : Nat) (bs : List UInt8) (F : List Nat) (w : World) (h : OutAt w p bs F) (hl : bs.length ≤ 4294967296) :
    Calls Try.prog 10 #[.pointer (some ⟨p, 0, none⟩)] w fun e w' => ∃ a c, e = .returned (.slice a bs.length c) ∧ w'.ownsRow 0 5 1 (.slice a bs.length c) bs.length (bcs bs) ∧ (∀ x ∈ aF a, w.heap.size ≤ x) ∧ Kp [] w w' := by
  obtain ⟨a, c, hv, rfl⟩ := h.cell
  have hc : w.cell? ⟨p, 0, none⟩ = some (.slice a bs.length c) := cell_of_one hv.1
  have HV := Lib.hid hv
  clear h hv
  go_enter Try.func10, Try.ntmps10
  go_wp2_with fail
  refine (clone_any a c bs _ (own_rd HV.out.2) (by omega)).mono ?_
  rintro e w1 ⟨a', c', rfl, hown, hF, hk⟩
  have HO := Lib.hid hown
  have HF := Lib.hid hF
  have HK := Lib.hid hk
  clear hown hF hk
  go_wp2
  go_ret
  exact ⟨a', c', rfl, HO.out, HF.out, HK.out⟩

theorem Adv.mem {F F' : List Nat} {w w' : World} (h : Adv F F' w w') {x : Nat} (hx : x ∈ F') (hlt : x < w.heap.size) : x ∈ F := by
  rcases h.gr x hx with h1 | h1
  · exact h1
  · omega

/-- Out.Bytes -/
theorem obytes_any (p : Nat) (bs : List UInt8) (F : List Nat) (a : Option Addr) (c : Nat) (l : List UInt8) (w : World) (h : OutAt w p bs F) (hl : bs.length ≤ 2147483648) (hr : Rd w a l.length c 1 (bcs l)) (hll : l.length ≤ 2147483648) (hF : ∀ x ∈ aF a, x ∉ F) :
    Calls Try.prog 38 #[.pointer (some ⟨p, 0, none⟩), .slice a l.length c] w fun e w' => e = .returned (.pointer (some ⟨p, 0, none⟩)) ∧ ∃ F', OutAt w' p (bs ++ (be 4 l.length ++ l)) F' ∧ Adv F F' w w' := by
  obtain ⟨i0, T⟩ := Try.tbytes
  have HR := Lib.hid hr
  have HF := Lib.hid hF
  clear hr hF
  go_enter Try.func38, Try.ntmps38
  go_wp2_with fail
  refine (ocount_any p bs F l.length _ h (by omega)).mono ?_
  rintro e w1 ⟨rfl, F', h1, k1⟩
  have hrd := HR.out.kept k1.kp HF.out
  have K := Lib.hid k1
  obtain ⟨a1, c1, hv, rfl⟩ := h1.cell
  obtain ⟨m, hm⟩ : ∃ m, m = bs ++ be 4 l.length := ⟨_, rfl⟩
  rw [← hm] at hv
  have hml : m.length = bs.length + 4 := by rw [hm, List.length_append, be_length]
  have hml2 : m.length ≤ 2147483652 := by omega
  have hcell : w1.cell? ⟨p, 0, none⟩ = some (.slice a1 m.length c1) := cell_of_one hv.1
  have HV := Lib.hid hv
  have HRD := Lib.hid hrd
  have HM := Lib.hid hm
  clear h1 k1 hv hrd hm hml
  go_wp2_with (at_builtin; refine wpList_append_rd T rfl rfl rfl HV.out.2 rfl HRD.out (bcs_one _) (by omega) (by simp [maxLen]; omega) ?_; intro a2 c2 w2 hown hgrow hg; have hb1 := out_keep HV.out (Kp.refl _ _) hgrow; have hc1 := cell_of_one hb1; have hf1 := free_of_one hb1; have P1 := Lib.hid (out_put HV.out (Kp.refl _ _) rfl hown hgrow hg); clear hown hgrow hg hb1)
  go_ret
  refine ⟨rfl, _, by rw [← List.append_assoc, ← HM.out]; exact P1.out.1, K.out.trans P1.out.2⟩

end Go.Proofs.Ytngdbblgnimogaa
