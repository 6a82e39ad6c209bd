/-
  The reference's Sides and Steps, walked.
-/
import Derived.Test.YtkjdnpalafldhaaDoorPrf5
import Derived.Test.YtkjdnpalafldhaaDoorPrf8
import Derived.Test.YtkjdnpalafldhaaDoorRefe
namespace Go.Proofs.YtkjdnpalafldhaaDoor
open Go.RowKit

def bvs (l : List Bool) : List Value := l.map Value.bool
theorem bvs_length (l : List Bool) : (bvs l).length = l.length := by simp [bvs]
theorem bvs_snoc (l : List Bool) (b : Bool) : bvs (l ++ [b]) = bvs l ++ [Value.bool b] := by simp [bvs]
theorem bvs_at (l : List Bool) (k : Nat) (h : k < l.length) : (bvs l)[k]? = some (.bool l[k]) := by simp [bvs, h]
theorem Tryd.tbools : ∃ i, SlT Tryd.prog 52 4 i (.bool false) 1 1 := SlT.mk' Tryd.underlying52 (by kernel_rfl) rfl (by decide)
/-- A new list of bools. -/
def NewBs (w : World) (v : Value) (w' : World) (l : List Bool) : Prop :=
  ∃ a c, v = .slice a l.length c ∧ w'.ownsRow 0 4 1 (.slice a l.length c) l.length (bvs l) ∧ (∀ x ∈ aF a, w.heap.size ≤ x) ∧ Kp [] w w'

theorem sideF_length (f i n : Nat) (h : n ≤ f) (hi : i < n) (hb : n ≤ 1152921504606846976) : (sideF f i n).length ≤ 120 := by
  rw [sideF_is f i n h hi (by omega)]
  exact sideL_le i (n - 1) (by omega) (by omega)
theorem stepF_length (f m n : Nat) (h : n ≤ f) (h1 : 1 ≤ m) (hm : m ≤ n) (hb : n ≤ 1152921504606846976) : (stepF f m n).length ≤ 120 := by
  by_cases he : m = n
  · obtain ⟨g, rfl⟩ : ∃ g, f = g + 1 := ⟨f - 1, by omega⟩
    rw [stepF, if_pos (by omega)]; simp
  · rw [(stepF_is f m n h h1 (by omega) (by omega)).1]
    unfold gL
    have := st_le (m - 1) (n - 1) (by omega)
    exact sideL_le _ _ this.1 (by omega)
set_option maxHeartbeats 1000000 in
theorem refSides_all : ∀ (f i n : Nat) (w : World), n ≤ f → 1 ≤ n → n ≤ 1152921504606846976 → i < n →
    Calls Tryd.prog 32 #[.int .i64 i, .int .i64 n] w fun e w' => ∃ v, e = .returned v ∧ NewBs w v w' (sideF f i n) := by
  intro f
  induction f with
  | zero => intro i n w h1 h2; omega
  | succ f ih =>
    intro i n w h1 h2 h3 hi
    obtain ⟨i0, T⟩ := Tryd.tbools
    have HT := Lib.hid T
    clear T
    by_cases hn : n = 1
    · subst hn
      have hr : sideF (f + 1) i 1 = [] := by simp [sideF]
      rw [hr]
      clear hr ih
      go_enter Tryd.func32, Tryd.ntmps32
      go_wp2
      go_ret
      exact ⟨_, rfl, none, 0, rfl, World.ownsRow_nil _ _ _ _, by simp [aF], Kp.refl [] w⟩
    · obtain ⟨_, _, s1, s2, s3⟩ := sp_spec n (by omega) (by omega)
      have hsp := fun w => refSplit_any n w (by omega) (by omega)
      have hr : sideF (f + 1) i n = if i < sp n then sideF f i (sp n) ++ [false] else sideF f (i - sp n) (n - sp n) ++ [true] := by rw [sideF, if_neg (by omega)]
      obtain ⟨k, hk⟩ : ∃ k, k = sp n := ⟨_, rfl⟩
      rw [← hk] at hr hsp s1 s2 s3
      have hn1 : ¬ (n : Int) = 1 := by omega
      by_cases hlt : i < k
      · have hA := fun w => ih i k w (by omega) (by omega) (by omega) hlt
        have l1 := sideF_length f i k (by omega) hlt (by omega)
        rw [if_pos hlt] at hr
        obtain ⟨ra, hra⟩ : ∃ ra, ra = sideF f i k := ⟨_, rfl⟩
        rw [← hra] at hA l1 hr
        rw [hr]
        have d4 : (i : Int) < (k : Int) := by omega
        have HSP := Lib.hid hsp
        have HA := Lib.hid hA
        clear hr hra hsp hA ih hk s1 s2 s3 hlt
        go_enter Tryd.func32, Tryd.ntmps32
        go_wp2_with fail
        refine (HSP.out _).mono ?_
        rintro e w1 ⟨rfl, rfl⟩
        go_wp2_with fail
        refine (HA.out _).mono ?_
        rintro e w1 ⟨v, rfl, aA, cA, rfl, oA, fA, kA⟩
        have OA := Lib.hid oA
        have KA := Lib.hid kA
        have FA := Lib.hid fA
        clear oA fA kA
        go_wp2_with (first
          | (refine wpList_lit HT.out rfl rfl [Value.bool false] rfl (by first | rfl | (simp [Act.eval]; done) | (simp [Act.eval]; rfl)) (by simp [Value.cells]) (by simp) ?_)
          | (at_builtin; refine wpList_append_rd HT.out rfl rfl rfl (((own_kept OA.out (Kp.refl [] _) (by simp))).alloc _) rfl (rd_alloc (m := 1) rfl (by simp [maxLen])) (by intro u hu; simp [flatV, Value.cells] at hu; rcases hu with rfl; rfl) (by omega) (by unfold maxLen; omega) ?_; intro a6 c6 w6 o6 g6 f6; have O6 := Lib.hid o6; have G6 := Lib.hid g6; have F6 := Lib.hid f6; clear o6 g6 f6))
        go_ret
        refine ⟨.slice a6 (ra.length + 1) c6, rfl, a6, c6, by simp, ?_, fun y hy => ?_, (KA.out.alloc _).pushed G6.out (fun y hy => .inr (FA.out y hy))⟩
        · rw [bvs_snoc]; simpa [flatV, Value.cells] using O6.out
        · rcases F6.out y hy with h | h
          · exact FA.out y h
          · rw [h]; have := KA.out.size; simp; omega
      · have hA := fun w => ih (i - k) (n - k) w (by omega) (by omega) (by omega) (by omega)
        have l1 := sideF_length f (i - k) (n - k) (by omega) (by omega) (by omega)
        rw [if_neg hlt] at hr
        obtain ⟨ra, hra⟩ : ∃ ra, ra = sideF f (i - k) (n - k) := ⟨_, rfl⟩
        rw [← hra] at hA l1 hr
        rw [hr]
        have d4 : ¬ (i : Int) < (k : Int) := by omega
        have d5 : IntKind.i64.wrap ((i : Int) - k) = ((i - k : Nat) : Int) := by rw [IntWalk.i64_in _ (by omega)]; omega
        have d6 : IntKind.i64.wrap ((n : Int) - k) = ((n - k : Nat) : Int) := by rw [IntWalk.i64_in _ (by omega)]; omega
        have HSP := Lib.hid hsp
        have HA := Lib.hid hA
        clear hr hra hsp hA ih hk s1 s2 s3 hlt
        go_enter Tryd.func32, Tryd.ntmps32
        go_wp2_with fail
        refine (HSP.out _).mono ?_
        rintro e w1 ⟨rfl, rfl⟩
        go_wp2_with fail
        refine (HA.out _).mono ?_
        rintro e w1 ⟨v, rfl, aA, cA, rfl, oA, fA, kA⟩
        have OA := Lib.hid oA
        have KA := Lib.hid kA
        have FA := Lib.hid fA
        clear oA fA kA
        go_wp2_with (first
          | (refine wpList_lit HT.out rfl rfl [Value.bool true] rfl (by first | rfl | (simp [Act.eval]; done) | (simp [Act.eval]; rfl)) (by simp [Value.cells]) (by simp) ?_)
          | (at_builtin; refine wpList_append_rd HT.out rfl rfl rfl (((own_kept OA.out (Kp.refl [] _) (by simp))).alloc _) rfl (rd_alloc (m := 1) rfl (by simp [maxLen])) (by intro u hu; simp [flatV, Value.cells] at hu; rcases hu with rfl; rfl) (by omega) (by unfold maxLen; omega) ?_; intro a6 c6 w6 o6 g6 f6; have O6 := Lib.hid o6; have G6 := Lib.hid g6; have F6 := Lib.hid f6; clear o6 g6 f6))
        go_ret
        refine ⟨.slice a6 (ra.length + 1) c6, rfl, a6, c6, by simp, ?_, fun y hy => ?_, (KA.out.alloc _).pushed G6.out (fun y hy => .inr (FA.out y hy))⟩
        · rw [bvs_snoc]; simpa [flatV, Value.cells] using O6.out
        · rcases F6.out y hy with h | h
          · exact FA.out y h
          · rw [h]; have := KA.out.size; simp; omega
set_option maxHeartbeats 1000000 in
theorem refSteps_all : ∀ (f m n : Nat) (wh : Bool) (w : World), n ≤ f → 1 ≤ m → m ≤ n → n ≤ 1152921504606846976 →
    Calls Tryd.prog 59 #[.int .i64 m, .int .i64 n, .bool wh] w fun e w' => ∃ v, e = .returned (.tuple #[.bool (ownF f m n wh), v]) ∧ NewBs w v w' (stepF f m n) := by
  intro f
  induction f with
  | zero => intro m n wh w h1 h2 h3; omega
  | succ f ih =>
    intro m n wh w h1 h2 hm h3
    obtain ⟨i0, T⟩ := Tryd.tbools
    have HT := Lib.hid T
    clear T
    by_cases hn : m = n
    · subst hn
      have hr : stepF (f + 1) m m = [] := by rw [stepF, if_pos (Nat.le_refl _)]
      have ho : ownF (f + 1) m m wh = !wh := by rw [ownF, if_pos (Nat.le_refl _)]
      rw [hr, ho]
      clear hr ho ih
      go_enter Tryd.func59, Tryd.ntmps59
      go_wp2
      go_ret2
      exact ⟨_, rfl, none, 0, rfl, World.ownsRow_nil _ _ _ _, by simp [aF], Kp.refl [] w⟩
    · obtain ⟨_, _, s1, s2, s3⟩ := sp_spec n (by omega) (by omega)
      have hsp := fun w => refSplit_any n w (by omega) (by omega)
      have hr : stepF (f + 1) m n = if m ≤ sp n then stepF f m (sp n) ++ [false] else stepF f (m - sp n) (n - sp n) ++ [true] := by rw [stepF, if_neg (by omega)]
      have ho : ownF (f + 1) m n wh = if m ≤ sp n then ownF f m (sp n) wh else ownF f (m - sp n) (n - sp n) false := by rw [ownF, if_neg (by omega)]
      obtain ⟨k, hk⟩ : ∃ k, k = sp n := ⟨_, rfl⟩
      rw [← hk] at hr ho hsp s1 s2 s3
      have hn1 : ((m : Int) == (n : Int)) = false := by rw [beq_eq_false_iff_ne]; omega
      clear hn
      by_cases hlt : m ≤ k
      · have hA := fun w => ih m k wh w (by omega) h2 hlt (by omega)
        have l1 := stepF_length f m k (by omega) h2 hlt (by omega)
        rw [if_pos hlt] at hr
        obtain ⟨ra, hra⟩ : ∃ ra, ra = stepF f m k := ⟨_, rfl⟩
        rw [← hra] at hA l1 hr
        rw [hr]
        rw [if_pos hlt] at ho
        obtain ⟨ob, hob⟩ : ∃ ob, ob = ownF f m k wh := ⟨_, rfl⟩
        rw [← hob] at hA ho
        rw [ho]
        clear ho hob
        have d4 : (m : Int) ≤ (k : Int) := by omega
        have HSP := Lib.hid hsp
        have HA := Lib.hid hA
        clear hr hra hsp hA ih hk s1 s2 s3 hlt
        go_enter Tryd.func59, Tryd.ntmps59
        go_wp2_with fail
        refine (HSP.out _).mono ?_
        rintro e w1 ⟨rfl, rfl⟩
        go_wp2_with fail
        refine (HA.out _).mono ?_
        rintro e w1 ⟨v, rfl, aA, cA, rfl, oA, fA, kA⟩
        have OA := Lib.hid oA
        have KA := Lib.hid kA
        have FA := Lib.hid fA
        clear oA fA kA
        go_wp2_with (first
          | (refine wpList_lit HT.out rfl rfl [Value.bool false] rfl (by first | rfl | (simp [Act.eval]; done) | (simp [Act.eval]; rfl)) (by simp [Value.cells]) (by simp) ?_)
          | (at_builtin; refine wpList_append_rd HT.out rfl rfl rfl (((own_kept OA.out (Kp.refl [] _) (by simp))).alloc _) rfl (rd_alloc (m := 1) rfl (by simp [maxLen])) (by intro u hu; simp [flatV, Value.cells] at hu; rcases hu with rfl; rfl) (by omega) (by unfold maxLen; omega) ?_; intro a6 c6 w6 o6 g6 f6; have O6 := Lib.hid o6; have G6 := Lib.hid g6; have F6 := Lib.hid f6; clear o6 g6 f6))
        go_ret2
        refine ⟨.slice a6 (ra.length + 1) c6, rfl, a6, c6, by simp, ?_, fun y hy => ?_, (KA.out.alloc _).pushed G6.out (fun y hy => .inr (FA.out y hy))⟩
        · rw [bvs_snoc]; simpa [flatV, Value.cells] using O6.out
        · rcases F6.out y hy with h | h
          · exact FA.out y h
          · rw [h]; have := KA.out.size; simp; omega
      · have hA := fun w => ih (m - k) (n - k) false w (by omega) (by omega) (by omega) (by omega)
        have l1 := stepF_length f (m - k) (n - k) (by omega) (by omega) (by omega) (by omega)
        rw [if_neg hlt] at hr
        obtain ⟨ra, hra⟩ : ∃ ra, ra = stepF f (m - k) (n - k) := ⟨_, rfl⟩
        rw [← hra] at hA l1 hr
        rw [hr]
        rw [if_neg hlt] at ho
        obtain ⟨ob, hob⟩ : ∃ ob, ob = ownF f (m - k) (n - k) false := ⟨_, rfl⟩
        rw [← hob] at hA ho
        rw [ho]
        clear ho hob
        have d4 : ¬ (m : Int) ≤ (k : Int) := by omega
        have d5 : IntKind.i64.wrap ((m : Int) - k) = ((m - k : Nat) : Int) := by rw [IntWalk.i64_in _ (by omega)]; omega
        have d6 : IntKind.i64.wrap ((n : Int) - k) = ((n - k : Nat) : Int) := by rw [IntWalk.i64_in _ (by omega)]; omega
        have HSP := Lib.hid hsp
        have HA := Lib.hid hA
        clear hr hra hsp hA ih hk s1 s2 s3 hlt
        go_enter Tryd.func59, Tryd.ntmps59
        go_wp2_with fail
        refine (HSP.out _).mono ?_
        rintro e w1 ⟨rfl, rfl⟩
        go_wp2_with fail
        refine (HA.out _).mono ?_
        rintro e w1 ⟨v, rfl, aA, cA, rfl, oA, fA, kA⟩
        have OA := Lib.hid oA
        have KA := Lib.hid kA
        have FA := Lib.hid fA
        clear oA fA kA
        go_wp2_with (first
          | (refine wpList_lit HT.out rfl rfl [Value.bool true] rfl (by first | rfl | (simp [Act.eval]; done) | (simp [Act.eval]; rfl)) (by simp [Value.cells]) (by simp) ?_)
          | (at_builtin; refine wpList_append_rd HT.out rfl rfl rfl (((own_kept OA.out (Kp.refl [] _) (by simp))).alloc _) rfl (rd_alloc (m := 1) rfl (by simp [maxLen])) (by intro u hu; simp [flatV, Value.cells] at hu; rcases hu with rfl; rfl) (by omega) (by unfold maxLen; omega) ?_; intro a6 c6 w6 o6 g6 f6; have O6 := Lib.hid o6; have G6 := Lib.hid g6; have F6 := Lib.hid f6; clear o6 g6 f6))
        go_ret2
        refine ⟨.slice a6 (ra.length + 1) c6, rfl, a6, c6, by simp, ?_, fun y hy => ?_, (KA.out.alloc _).pushed G6.out (fun y hy => .inr (FA.out y hy))⟩
        · rw [bvs_snoc]; simpa [flatV, Value.cells] using O6.out
        · rcases F6.out y hy with h | h
          · exact FA.out y h
          · rw [h]; have := KA.out.size; simp; omega
end Go.Proofs.YtkjdnpalafldhaaDoor
