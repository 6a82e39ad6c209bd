import Derived.Test.YtngdbblgnimogaaRef1
namespace Go.Proofs.Ytngdbblgnimogaa
open Go.RowKit

/-- A row of bytes that was made anew. -/
def NewB (w : World) (e : Ending) (w' : World) (bs : List UInt8) : Prop :=
  ∃ a c, e = .returned (.slice a bs.length c) ∧ w'.ownsRow 0 5 1 (.slice a bs.length c) bs.length (bcs bs) ∧ (∀ x ∈ aF a, w.heap.size ≤ x) ∧ Kp [] w w'

theorem rint_any (n : Int) (w : World) : Calls Try.prog 35 #[.int .i64 n] w fun e w' => NewB w e w' (be 8 n) := by
  go_enter Try.func35, Try.ntmps35
  go_wp2_with fail
  refine (number2_any n 8 _ (by decide)).mono ?_
  rintro e w1 ⟨a, c, rfl, h⟩
  have H := Lib.hid h
  clear h
  go_wp2
  go_ret
  exact ⟨a, c, by rw [be_length]; rfl, by rw [be_length]; exact H.out⟩

theorem rcount_any (n : Int) (w : World) : Calls Try.prog 42 #[.int .i64 n] w fun e w' => NewB w e w' (be 4 n) := by
  go_enter Try.func42, Try.ntmps42
  go_wp2_with fail
  refine (number2_any n 4 _ (by decide)).mono ?_
  rintro e w1 ⟨a, c, rfl, h⟩
  have H := Lib.hid h
  clear h
  go_wp2
  go_ret
  exact ⟨a, c, by rw [be_length]; rfl, by rw [be_length]; exact H.out⟩

theorem rbytes_any (a : Option Addr) (c : Nat) (l : List UInt8) (w : World) (hr : Rd w a l.length c 1 (bcs l)) (hll : l.length ≤ 2147483648) :
    Calls Try.prog 41 #[.slice a l.length c] w fun e w' => NewB w e w' (be 4 l.length ++ l) := by
  obtain ⟨i0, T⟩ := Try.tbytes
  have HR := Lib.hid hr
  clear hr
  go_enter Try.func41, Try.ntmps41
  go_wp2_with fail
  refine (rcount_any l.length _).mono ?_
  rintro e w1 ⟨a1, c1, rfl, hown, hF, k1⟩
  have hrd := HR.out.below k1
  rw [be_length] at hown
  rw [be_length]
  have HF := Lib.hid hF
  have HO := Lib.hid hown
  have HRD := Lib.hid hrd
  have K1 := Lib.hid k1
  clear hown hF hrd k1
  go_wp2_with (at_builtin; refine wpList_append_rd T rfl rfl rfl HO.out rfl HRD.out (bcs_one _) (by omega) (by simp [maxLen]; omega) ?_; intro a2 c2 w2 hown2 hgrow hg)
  go_ret
  refine ⟨a2, c2, by rw [List.length_append, be_length]; rfl, by rw [List.length_append, be_length, bcs_app]; exact hown2, fun x hx => ?_, ?_⟩
  · rcases hg x hx with h | h
    · exact HF.out x h
    · rw [h]; exact K1.out.size
  · refine K1.out.grown hgrow fun k hk => .inr ?_
    cases a1 with
    | none => simp [Value.ownBlock] at hk
    | some b => simp [Value.ownBlock] at hk; exact HF.out k (by simp [aF, hk])

theorem rtext_any (s : ByteArray) (w : World) (hll : s.size ≤ 2147483648) :
    Calls Try.prog 36 #[.string s] w fun e w' => NewB w e w' (be 4 s.size ++ sl s) := by
  have hcv := run_bytes_of_string (P := Try.prog) w 9 22 5 s Try.underlying9 Try.underlying22 Try.underlying5
  have hg1 := grownCap_ge w s.size 0 5
  have hg2 := grownCap_le_maxLen w s.size 0 5 (by unfold maxLen; omega)
  obtain ⟨cap, hcap⟩ : ∃ cap, cap = grownCap w s.size 0 5 := ⟨_, rfl⟩
  rw [← hcap] at hcv hg1 hg2
  clear hcap
  have hrd := rd_bytesRow w s cap 5 ((bytesRow s cap).size, (bytesRow s cap).size + 1) hg1 hg2
  obtain ⟨ob, hob⟩ : ∃ ob, ob = Obj.cells (bytesRow s cap) 5 ((bytesRow s cap).size, (bytesRow s cap).size + 1) := ⟨_, rfl⟩
  rw [← hob] at hcv hrd
  have HRD := Lib.hid hrd
  clear hrd hob hg2
  go_enter Try.func36, Try.ntmps36
  go_wp2_with fail
  have hk : Kp [] w (w.drew.alloc ob) := (Kp.refl [] w).drew.alloc _
  have hcall := rbytes_any (some ⟨w.heap.size, 0, none⟩) cap (sl s) (w.drew.alloc ob) (by rw [sl_length]; exact HRD.out) (by rw [sl_length]; exact hll)
  rw [sl_length] at hcall
  refine hcall.mono ?_
  rintro e w1 ⟨a, c, rfl, h1, h2, k1⟩
  rw [List.length_append, be_length, sl_length] at h1
  rw [List.length_append, be_length, sl_length]
  have H1 := Lib.hid h1
  have H2 := Lib.hid h2
  have K1 := Lib.hid k1
  clear h1 h2 k1 hcall
  go_wp2
  go_ret
  exact ⟨a, c, by rw [List.length_append, be_length, sl_length]; rfl, by rw [List.length_append, be_length, sl_length]; exact H1.out, fun x hx => Nat.le_trans hk.size (H2.out x hx), hk.trans K1.out (by simp)⟩
end Go.Proofs.Ytngdbblgnimogaa
