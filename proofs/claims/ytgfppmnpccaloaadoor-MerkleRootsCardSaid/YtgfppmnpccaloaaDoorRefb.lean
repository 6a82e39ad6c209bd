/-
  The reference's Root: in which order a root is put together.
-/
import Derived.Test.YtgfppmnpccaloaaDoorRefa
namespace Go.Proofs.YtgfppmnpccaloaaDoor
open Go.RowKit

def ivs (l : List Int) : List Value := l.map (Value.int .i64)
theorem ivs_length (l : List Int) : (ivs l).length = l.length := by simp [ivs]
theorem ivs_app (a b : List Int) : ivs (a ++ b) = ivs a ++ ivs b := by simp [ivs]
theorem ivs_one (l : List Int) : ∀ v ∈ ivs l, v.oneCell' = true := by
  intro v hv; simp only [ivs, List.mem_map] at hv; obtain ⟨x, _, rfl⟩ := hv; rfl
theorem ivs_at (l : List Int) (k : Nat) (h : k < l.length) : (ivs l)[k]? = some (.int .i64 l[k]) := by simp [ivs, h]
theorem Tryd.tints : ∃ i, SlT Tryd.prog 34 3 i (.int .i64 0) 1 8 := SlT.mk' Tryd.underlying34 (by kernel_rfl) rfl (by decide)

/-- Numbers in memory made anew. -/
def NewIs (w : World) (v : Value) (w' : World) (l : List Int) : Prop :=
  ∃ a c, v = .slice a l.length c ∧ w'.ownsRow 0 3 1 (.slice a l.length c) l.length (ivs l) ∧ (∀ x ∈ aF a, w.heap.size ≤ x) ∧ Kp [] w w'

def rops : Nat → Nat → Nat → List Int
  | 0, _, _ => []
  | f + 1, a, n => if n ≤ 1 then [(a : Int)] else rops f a (sp n) ++ rops f (a + sp n) (n - sp n) ++ [-1]
theorem rops_more : ∀ (f g a n : Nat), n ≤ f → n ≤ g → 1 ≤ n → n ≤ 1099511627776 → rops f a n = rops g a n
  | 0, _, _, _, h, _, h1, _ => by omega
  | _, 0, _, _, _, h, h1, _ => by omega
  | f + 1, g + 1, a, n, h1, h2, h3, hb => by
    unfold rops
    by_cases hn : n ≤ 1
    · simp [hn]
    · obtain ⟨_, _, s1, s2, s3⟩ := sp_spec n (by omega) (by omega)
      rw [if_neg hn, if_neg hn, rops_more f g a (sp n) (by omega) (by omega) (by omega) (by omega), rops_more f g (a + sp n) (n - sp n) (by omega) (by omega) (by omega) (by omega)]
theorem rops_length : ∀ (f a n : Nat), n ≤ f → 1 ≤ n → n ≤ 1099511627776 → (rops f a n).length + 1 = 2 * n
  | 0, _, _, h, h1, _ => by omega
  | f + 1, a, n, h1, h3, hb => by
    unfold rops
    by_cases hn : n ≤ 1
    · simp [hn]; omega
    · obtain ⟨_, _, s1, s2, s3⟩ := sp_spec n (by omega) (by omega)
      have e1 := rops_length f a (sp n) (by omega) (by omega) (by omega)
      have e2 := rops_length f (a + sp n) (n - sp n) (by omega) (by omega) (by omega)
      rw [if_neg hn]
      simp only [List.length_append, List.length_cons, List.length_nil]
      omega

set_option maxHeartbeats 1000000 in
theorem refRoot_all : ∀ (f a n : Nat) (w : World), n ≤ f → 1 ≤ n → a + n ≤ 1048576 →
    Calls Tryd.prog 11 #[.int .i64 a, .int .i64 ((a + n : Nat) : Int)] w fun e w' => ∃ v, e = .returned v ∧ NewIs w v w' (rops f a n) := by
  intro f
  induction f with
  | zero => intro a n w h1 h2; omega
  | succ f ih =>
    intro a n w h1 h2 h3
    obtain ⟨i0, T⟩ := Tryd.tints
    have HT := Lib.hid T
    clear T
    have d0 : IntKind.i64.wrap (((a + n : Nat) : Int) - a) = n := by rw [show ((a + n : Nat) : Int) - a = n by omega]; exact IntWalk.i64_in _ (by omega)
    obtain ⟨b, hb⟩ : ∃ b, b = a + n := ⟨_, rfl⟩
    rw [← hb] at d0 ⊢
    by_cases hn : n = 1
    · subst hn
      have d1 : (b : Int) - a = 1 := by omega
      have hr : rops (f + 1) a 1 = [(a : Int)] := by simp [rops]
      rw [hr]
      clear hr ih hb
      go_enter Tryd.func11, Tryd.ntmps11
      go_wp2_with (refine wpList_lit HT.out rfl rfl [.int .i64 a] rfl (by first | rfl | (simp [Act.eval]; done) | (simp [Act.eval]; rfl)) (by simp [Value.cells]) (by simp) ?_)
      go_ret
      refine ⟨_, rfl, some ⟨w.heap.size, 0, none⟩, 1, rfl, ?_, by simp [aF], (Kp.refl [] w).alloc _⟩
      exact own_new w #[.int .i64 a] 3 1 1 rfl (by simp [maxLen])
    · have hr : rops (f + 1) a n = rops f a (sp n) ++ rops f (a + sp n) (n - sp n) ++ [-1] := by rw [rops, if_neg (by omega)]
      obtain ⟨_, _, s1, s2, s3⟩ := sp_spec n (by omega) (by omega)
      have hsp := fun w => refSplit_any n w (by omega) (by omega)
      have hA := fun w => ih a (sp n) w (by omega) (by omega) (by omega)
      have hB := fun w => ih (a + sp n) (n - sp n) w (by omega) (by omega) (by omega)
      have l1 := rops_length f a (sp n) (by omega) (by omega) (by omega)
      have l2 := rops_length f (a + sp n) (n - sp n) (by omega) (by omega) (by omega)
      obtain ⟨k, hk⟩ : ∃ k, k = sp n := ⟨_, rfl⟩
      rw [← hk] at hr hsp hA hB s1 s2 s3 l1 l2
      rw [show a + k + (n - k) = b by omega] at hB
      rw [hr]
      obtain ⟨ra, hra⟩ : ∃ ra, ra = rops f a k := ⟨_, rfl⟩
      obtain ⟨rb, hrb⟩ : ∃ rb, rb = rops f (a + k) (n - k) := ⟨_, rfl⟩
      rw [← hra] at hA l1 ⊢
      rw [← hrb] at hB l2 ⊢
      obtain ⟨rr, hrr⟩ : ∃ rr, rr = ra ++ rb ++ [-1] := ⟨_, rfl⟩
      rw [← hrr]
      have HRR := Lib.hid hrr
      clear hrr
      have d1 : ((b : Int) - a == 1) = false := by simp; omega
      have d2 : (b : Int) - a = n := by omega
      have d3 : IntKind.i64.wrap ((a : Int) + k) = ((a + k : Nat) : Int) := by rw [IntWalk.i64_in _ (by omega)]; omega
      have hn1 : ¬ (n : Int) = 1 := by omega
      have hlen : ra.length + rb.length + 1 ≤ 16777216 := by omega
      have HSP := Lib.hid hsp
      have HA := Lib.hid hA
      have HB := Lib.hid hB
      clear hr hra hrb hsp hA hB ih hk hb l1 l2 s1 s2 s3
      go_enter Tryd.func11, Tryd.ntmps11
      go_wp2_with fail
      refine (HSP.out _).mono ?_
      rintro e w1 ⟨rfl, rfl⟩
      go_wp2_with fail
      refine (HA.out _).mono ?_
      rintro e w1 ⟨v, rfl, aA, cA, rfl, oA, fA, kA⟩
      have OA := Lib.hid (own_rd oA)
      have KA := Lib.hid kA
      clear oA fA kA
      go_wp2_with (at_builtin; refine wpList_append_rd HT.out rfl rfl rfl (World.ownsRow_nil _ _ _ _) rfl OA.out (ivs_one ra) (by omega) (by unfold maxLen; omega) ?_; intro a2 c2 w2 o2 g2 f2; simp only [Nat.zero_add, List.nil_append] at o2 ⊢; have O2 := Lib.hid o2; have G2 := Lib.hid g2; have F2 := Lib.hid f2; clear o2 g2 f2)
      have K2 := Lib.hid (KA.out.pushed G2.out (fun y hy => by simp [aF] at hy))
      have FF2 := Lib.hid (show ∀ y ∈ aF a2, w.heap.size ≤ y from fun y hy => by
        rcases F2.out y hy with h | h
        · simp [aF] at h
        · rw [h]; exact KA.out.size)
      refine (HB.out _).mono ?_
      rintro e w3 ⟨v, rfl, aB, cB, rfl, oB, fB, kB⟩
      have OB := Lib.hid (own_rd oB)
      have K3 := Lib.hid (K2.out.trans kB (by simp))
      have O3 := Lib.hid (own_kept O2.out kB (by simp))
      clear oB fB kB
      go_wp2_with (first
        | (at_builtin; refine wpList_append_rd HT.out rfl rfl rfl O3.out rfl OB.out (ivs_one rb) (by omega) (by unfold maxLen; omega) ?_; intro a4 c4 w4 o4 g4 f4; have O4 := Lib.hid o4; have G4 := Lib.hid g4; have F4 := Lib.hid f4; clear o4 g4 f4)
        | (refine wpList_lit HT.out rfl rfl [.int .i64 (-1)] rfl (by first | rfl | (simp [Act.eval]; done) | (simp [Act.eval]; rfl)) (by simp [Value.cells]) (by simp) ?_)
        | (at_builtin; refine wpList_append_rd HT.out rfl rfl rfl (O4.out.alloc _) rfl (rd_alloc (m := 1) rfl (by simp [maxLen])) (by intro u hu; simp [flatV, Value.cells] at hu; subst hu; rfl) (by omega) (by unfold maxLen; omega) ?_; intro a6 c6 w6 o6 g6 f6; have O6 := Lib.hid o6; have G6 := Lib.hid g6; have F6 := Lib.hid f6; clear o6 g6 f6))
      have K4 := Lib.hid (K3.out.pushed G4.out (fun y hy => .inr (FF2.out y hy)))
      have FF4 : ∀ y ∈ aF a4, w.heap.size ≤ y := fun y hy => by
        rcases F4.out y hy with h | h
        · exact FF2.out y h
        · rw [h]; exact K3.out.size
      go_ret
      have hl : rr.length = ra.length + rb.length + 1 := by rw [HRR.out]; simp [Nat.add_assoc]
      refine ⟨.slice a6 (ra.length + rb.length + 1) c6, rfl, a6, c6, by rw [hl], ?_, fun y hy => ?_, (K4.out.alloc _).pushed G6.out (fun y hy => .inr (FF4 y hy))⟩
      · rw [hl, HRR.out, ivs_app, ivs_app]; exact O6.out
      · rcases F6.out y hy with h | h
        · exact FF4 y h
        · rw [h]; have := K4.out.size; simp; omega
end Go.Proofs.YtgfppmnpccaloaaDoor
