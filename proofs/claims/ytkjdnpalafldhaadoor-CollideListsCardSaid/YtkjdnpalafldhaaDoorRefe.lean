/-
  The reference's Path, walked: the pairs of rpath.
-/
import Derived.Test.YtkjdnpalafldhaaDoorRefd
namespace Go.Proofs.YtkjdnpalafldhaaDoor
open Go.RowKit

theorem flatV_pair (p : Nat × Nat) : flatV [pairV p] = pairC p := by simp [flatV, pairV, Value.cells]
set_option maxHeartbeats 1000000 in
theorem refPath_all : ∀ (f a n i : Nat) (w : World), n ≤ f → 1 ≤ n → a + n ≤ 1048576 → a ≤ i → i < a + n →
    Calls Tryd.prog 20 #[.int .i64 a, .int .i64 ((a + n : Nat) : Int), .int .i64 i] w fun e w' => ∃ v, e = .returned v ∧ NewPs w v w' (rpath f a n i) := by
  intro f
  induction f with
  | zero => intro a n i w h1 h2; omega
  | succ f ih =>
    intro a n i w h1 h2 h3 hi1 hi2
    obtain ⟨i0, T⟩ := Tryd.tpairs
    have HT := Lib.hid T
    clear T
    have d0 : IntKind.i64.wrap (((a + n : Nat) : Int) - a) = n := by rw [show ((a + n : Nat) : Int) - a = n by omega]; exact IntWalk.i64_in _ (by omega)
    obtain ⟨b, hb⟩ : ∃ b, b = a + n := ⟨_, rfl⟩
    rw [← hb] at d0 ⊢
    by_cases hn : n = 1
    · subst hn
      have hr : rpath (f + 1) a 1 i = [] := by simp [rpath]
      have d1 : (b : Int) - a = 1 := by omega
      rw [hr]
      clear hr ih hb
      go_enter Tryd.func20, Tryd.ntmps20
      go_wp2
      go_ret
      exact ⟨_, rfl, none, 0, rfl, World.ownsRow_nil _ _ _ _, by simp [aF], Kp.refl [] w⟩
    · obtain ⟨_, _, s1, s2, s3⟩ := sp_spec n (by omega) (by omega)
      have hsp := fun w => refSplit_any n w (by omega) (by omega)
      have hr : rpath (f + 1) a n i = if i < a + sp n then rpath f a (sp n) i ++ [(a + sp n, a + n)] else rpath f (a + sp n) (n - sp n) i ++ [(a, a + sp n)] := by rw [rpath, if_neg (by omega)]
      obtain ⟨k, hk⟩ : ∃ k, k = sp n := ⟨_, rfl⟩
      rw [← hk] at hr hsp s1 s2 s3
      rw [← hb] at hr
      have d1 : ((b : Int) - a == 1) = false := by simp; omega
      have d2 : (b : Int) - a = n := by omega
      have d3 : IntKind.i64.wrap ((a : Int) + k) = ((a + k : Nat) : Int) := by rw [IntWalk.i64_in _ (by omega)]; omega
      have hn1 : ¬ (n : Int) = 1 := by omega
      by_cases hlt : i < a + k
      · have hA := fun w => ih a k i w (by omega) (by omega) (by omega) hi1 hlt
        have l1 := rpath_length f a k i (by omega) (by omega)
        rw [if_pos hlt] at hr
        obtain ⟨ra, hra⟩ : ∃ ra, ra = rpath f a k i := ⟨_, rfl⟩
        rw [← hra] at hA l1 hr
        rw [hr]
        obtain ⟨ak, hak⟩ : ∃ ak, ak = a + k := ⟨_, rfl⟩
        rw [← hak] at hA d3 hlt ⊢
        have d4 : (i : Int) < (ak : Int) := by omega
        have hlen : ra.length + 1 ≤ 16777216 := by omega
        have HSP := Lib.hid hsp
        have HA := Lib.hid hA
        clear hr hra hsp hA ih hk hb l1 s1 s2 s3 hlt hak hi1 hi2
        go_enter Tryd.func20, Tryd.ntmps20
        go_wp2_with fail
        refine (HSP.out _).mono ?_
        rintro e w1 ⟨rfl, rfl⟩
        go_wp2_with fail
        refine (HA.out _).mono ?_
        rintro e w1 ⟨v, rfl, aA, cA, rfl, oA, fA, kA⟩
        have OA := Lib.hid oA
        have KA := Lib.hid kA
        have FA := Lib.hid fA
        clear oA fA kA
        go_wp2_with (first
          | (refine wpList_lit HT.out rfl rfl [pairV (ak, b)] rfl (by first | rfl | (simp [Act.eval]; done) | (simp [Act.eval]; rfl)) (by simp [pairV, pairC, Value.cells]) (by simp) ?_)
          | (at_builtin; refine wpList_append_rd HT.out rfl rfl rfl (((own_kept OA.out (Kp.refl [] _) (by simp))).alloc _) rfl (rd_alloc (m := 1) rfl (by simp [maxLen])) (by intro u hu; simp [flatV, pairV, pairC, Value.cells] at hu; rcases hu with rfl | rfl <;> rfl) (by omega) (by unfold maxLen; omega) ?_; intro a6 c6 w6 o6 g6 f6; have O6 := Lib.hid o6; have G6 := Lib.hid g6; have F6 := Lib.hid f6; clear o6 g6 f6))
        go_ret
        refine ⟨.slice a6 (ra.length + 1) c6, rfl, a6, c6, by simp, ?_, fun y hy => ?_, (KA.out.alloc _).pushed G6.out (fun y hy => .inr (FA.out y hy))⟩
        · rw [prs_snoc, ← flatV_pair]; simpa using O6.out
        · rcases F6.out y hy with h | h
          · exact FA.out y h
          · rw [h]; have := KA.out.size; simp; omega
      · have hA := fun w => ih (a + k) (n - k) i w (by omega) (by omega) (by omega) (by omega) (by omega)
        rw [show a + k + (n - k) = b by omega] at hA
        have l1 := rpath_length f (a + k) (n - k) i (by omega) (by omega)
        rw [if_neg hlt] at hr
        obtain ⟨ra, hra⟩ : ∃ ra, ra = rpath f (a + k) (n - k) i := ⟨_, rfl⟩
        rw [← hra] at hA l1 hr
        rw [hr]
        obtain ⟨ak, hak⟩ : ∃ ak, ak = a + k := ⟨_, rfl⟩
        rw [← hak] at hA d3 hlt ⊢
        have d4 : ¬ (i : Int) < (ak : Int) := by omega
        have hlen : ra.length + 1 ≤ 16777216 := by omega
        have HSP := Lib.hid hsp
        have HA := Lib.hid hA
        clear hr hra hsp hA ih hk hb l1 s1 s2 s3 hlt hak hi1 hi2
        go_enter Tryd.func20, Tryd.ntmps20
        go_wp2_with fail
        refine (HSP.out _).mono ?_
        rintro e w1 ⟨rfl, rfl⟩
        go_wp2_with fail
        refine (HA.out _).mono ?_
        rintro e w1 ⟨v, rfl, aA, cA, rfl, oA, fA, kA⟩
        have OA := Lib.hid oA
        have KA := Lib.hid kA
        have FA := Lib.hid fA
        clear oA fA kA
        go_wp2_with (first
          | (refine wpList_lit HT.out rfl rfl [pairV (a, ak)] rfl (by first | rfl | (simp [Act.eval]; done) | (simp [Act.eval]; rfl)) (by simp [pairV, pairC, Value.cells]) (by simp) ?_)
          | (at_builtin; refine wpList_append_rd HT.out rfl rfl rfl (((own_kept OA.out (Kp.refl [] _) (by simp))).alloc _) rfl (rd_alloc (m := 1) rfl (by simp [maxLen])) (by intro u hu; simp [flatV, pairV, pairC, Value.cells] at hu; rcases hu with rfl | rfl <;> rfl) (by omega) (by unfold maxLen; omega) ?_; intro a6 c6 w6 o6 g6 f6; have O6 := Lib.hid o6; have G6 := Lib.hid g6; have F6 := Lib.hid f6; clear o6 g6 f6))
        go_ret
        refine ⟨.slice a6 (ra.length + 1) c6, rfl, a6, c6, by simp, ?_, fun y hy => ?_, (KA.out.alloc _).pushed G6.out (fun y hy => .inr (FA.out y hy))⟩
        · rw [prs_snoc, ← flatV_pair]; simpa using O6.out
        · rcases F6.out y hy with h | h
          · exact FA.out y h
          · rw [h]; have := KA.out.size; simp; omega
end Go.Proofs.YtkjdnpalafldhaaDoor
