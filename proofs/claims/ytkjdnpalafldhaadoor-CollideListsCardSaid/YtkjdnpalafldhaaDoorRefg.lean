/-
  The reference's Sub: of which places the roots stand in a proof.
-/
import Derived.Test.YtkjdnpalafldhaaDoorRefe
import Derived.Test.YtkjdnpalafldhaaDoorMerk5
namespace Go.Proofs.YtkjdnpalafldhaaDoor
open Go.RowKit

def rsub : Nat → Nat → Nat → Nat → Bool → List (Nat × Nat)
  | 0, _, _, _, _ => []
  | f + 1, a, n, m, wh => if n ≤ m then (if wh then [] else [(a, a + n)]) else if m ≤ sp n then rsub f a (sp n) m wh ++ [(a + sp n, a + n)] else rsub f (a + sp n) (n - sp n) (m - sp n) false ++ [(a, a + sp n)]
theorem rsub_length : ∀ (f a n m : Nat) (wh : Bool), n ≤ 1099511627776 → 1 ≤ m → m ≤ n → (rsub f a n m wh).length ≤ n
  | 0, _, _, _, _, _, _, _ => by simp [rsub]
  | f + 1, a, n, m, wh, hb, h1, h2 => by
    unfold rsub
    by_cases hn : n ≤ m
    · rw [if_pos hn]; split <;> simp <;> omega
    · obtain ⟨_, _, s1, s2, s3⟩ := sp_spec n (by omega) (by omega)
      rw [if_neg hn]
      split
      · have e1 := rsub_length f a (sp n) m wh (by omega) h1 (by omega)
        simp; omega
      · have e2 := rsub_length f (a + sp n) (n - sp n) (m - sp n) false (by omega) (by omega) (by omega)
        simp; omega
theorem rsub_ok : ∀ (f a n m : Nat) (wh : Bool), n ≤ 1099511627776 → 1 ≤ m → m ≤ n → ∀ p ∈ rsub f a n m wh, a ≤ p.1 ∧ p.1 < p.2 ∧ p.2 ≤ a + n
  | 0, _, _, _, _, _, _, _ => by simp [rsub]
  | f + 1, a, n, m, wh, hb, h1, h2 => by
    unfold rsub
    by_cases hn : n ≤ m
    · rw [if_pos hn]
      intro p hp
      split at hp
      · simp at hp
      · simp at hp; subst hp; simp; omega
    · obtain ⟨_, _, s1, s2, s3⟩ := sp_spec n (by omega) (by omega)
      rw [if_neg hn]
      intro p hp
      split at hp
      · rcases List.mem_append.1 hp with h | h
        · have := rsub_ok f a (sp n) m wh (by omega) h1 (by omega) p h; omega
        · simp at h; subst h; simp; omega
      · rcases List.mem_append.1 hp with h | h
        · have := rsub_ok f (a + sp n) (n - sp n) (m - sp n) false (by omega) (by omega) (by omega) p h; omega
        · simp at h; subst h; simp; omega
/-- Their roots are the proof. -/
theorem rsub_roots (l : List Hsh) : ∀ (f a n m : Nat) (wh : Bool), n ≤ f → n ≤ 1099511627776 → 1 ≤ m → m ≤ n → a + n ≤ l.length →
    (rsub f a n m wh).map (fun p => rootH ((l.drop p.1).take (p.2 - p.1))) = (besQ ((l.drop a).take n) m wh).reverse
  | 0, _, _, _, _, h, _, h1, h2, _ => by omega
  | f + 1, a, n, m, wh, hf, hb, h1, h2, hl => by
    have hlen : ((l.drop a).take n).length = n := by rw [List.length_take, List.length_drop]; omega
    unfold rsub
    by_cases hn : n ≤ m
    · rw [if_pos hn, besQ_end _ _ _ (by omega) (by omega)]
      cases wh with
      | true => rfl
      | false => simp
    · obtain ⟨_, _, s1, s2, s3⟩ := sp_spec n (by omega) (by omega)
      have e1 : ((l.drop a).take n).take (sp n) = (l.drop a).take (sp n) := by rw [List.take_take]; congr 1; omega
      have e2 : ((l.drop a).take n).drop (sp n) = (l.drop (a + sp n)).take (n - sp n) := by rw [List.drop_take, List.drop_drop]
      rw [if_neg hn]
      by_cases hi : m ≤ sp n
      · have hbes := besQ_left ((l.drop a).take n) m wh (by omega) (by omega) h1 (by omega) (by rw [hlen]; omega)
        rw [hlen, e1, e2] at hbes
        have ih := rsub_roots l f a (sp n) m wh (by omega) (by omega) h1 hi (by omega)
        rw [if_pos hi, List.map_append, ih, hbes]
        simp only [List.reverse_cons, List.map_cons, List.map_nil]
        rw [show a + n - (a + sp n) = n - sp n by omega]
      · have hbes := besQ_right ((l.drop a).take n) m wh (by omega) (by omega) (by omega) (by rw [hlen]; omega)
        rw [hlen, e1, e2] at hbes
        have ih := rsub_roots l f (a + sp n) (n - sp n) (m - sp n) false (by omega) (by omega) (by omega) (by omega) (by omega)
        rw [if_neg hi, List.map_append, ih, hbes]
        simp only [List.reverse_cons, List.map_cons, List.map_nil]
        rw [show a + sp n - a = sp n by omega]

set_option maxHeartbeats 1000000 in
theorem refSub_all : ∀ (f a n i : Nat) (wh : Bool) (w : World), n ≤ f → 1 ≤ i → i ≤ n → a + n ≤ 1048576 →
    Calls Tryd.prog 27 #[.int .i64 a, .int .i64 ((a + n : Nat) : Int), .int .i64 i, .bool wh] w fun e w' => ∃ v, e = .returned v ∧ NewPs w v w' (rsub f a n i wh) := by
  intro f
  induction f with
  | zero => intro a n i wh w h1 h2; omega
  | succ f ih =>
    intro a n i wh w h1 h2 hin h3
    obtain ⟨i0, T⟩ := Tryd.tpairs
    have HT := Lib.hid T
    clear T
    have d0 : IntKind.i64.wrap (((a + n : Nat) : Int) - a) = n := by rw [show ((a + n : Nat) : Int) - a = n by omega]; exact IntWalk.i64_in _ (by omega)
    obtain ⟨b, hb⟩ : ∃ b, b = a + n := ⟨_, rfl⟩
    rw [← hb] at d0 ⊢
    by_cases hn : n = i
    · subst hn
      have hr : rsub (f + 1) a n n wh = if wh then [] else [(a, b)] := by rw [rsub, if_pos (Nat.le_refl _), hb]
      have d1 : (b : Int) - a = n := by omega
      rw [hr]
      clear hr ih hb hin
      cases wh with
      | true =>
        go_enter Tryd.func27, Tryd.ntmps27
        go_wp2
        go_ret
        exact ⟨_, rfl, none, 0, rfl, World.ownsRow_nil _ _ _ _, by simp [aF], Kp.refl [] w⟩
      | false =>
        go_enter Tryd.func27, Tryd.ntmps27
        go_wp2_with (refine wpList_lit HT.out rfl rfl [pairV (a, b)] rfl (by first | rfl | (simp [Act.eval]; done) | (simp [Act.eval]; rfl)) (by simp [pairV, pairC, Value.cells]) (by simp) ?_)
        go_ret
        refine ⟨_, rfl, some ⟨w.heap.size, 0, none⟩, 1, rfl, ?_, by simp [aF], (Kp.refl [] w).alloc _⟩
        exact own_new w (flatV [pairV (a, b)]).toArray 77 1 2 rfl (by simp [maxLen])
    · obtain ⟨_, _, s1, s2, s3⟩ := sp_spec n (by omega) (by omega)
      have hsp := fun w => refSplit_any n w (by omega) (by omega)
      have hr : rsub (f + 1) a n i wh = if i ≤ sp n then rsub f a (sp n) i wh ++ [(a + sp n, a + n)] else rsub f (a + sp n) (n - sp n) (i - sp n) false ++ [(a, a + sp n)] := by rw [rsub, if_neg (by omega)]
      obtain ⟨k, hk⟩ : ∃ k, k = sp n := ⟨_, rfl⟩
      rw [← hk] at hr hsp s1 s2 s3
      rw [← hb] at hr
      have d1 : ((i : Int) == (n : Int)) = false := by simp; omega
      have d2 : (b : Int) - a = n := by omega
      have d3 : IntKind.i64.wrap ((a : Int) + k) = ((a + k : Nat) : Int) := by rw [IntWalk.i64_in _ (by omega)]; omega
      have hn1 : ¬ (i : Int) = n := by omega
      by_cases hlt : i ≤ k
      · have hA := fun w => ih a k i wh w (by omega) (by omega) hlt (by omega)
        have l1 := rsub_length f a k i wh (by omega) (by omega) hlt
        rw [if_pos hlt] at hr
        obtain ⟨ra, hra⟩ : ∃ ra, ra = rsub f a k i wh := ⟨_, rfl⟩
        rw [← hra] at hA l1 hr
        rw [hr]
        obtain ⟨ak, hak⟩ : ∃ ak, ak = a + k := ⟨_, rfl⟩
        rw [← hak] at hA d3 ⊢
        have d4 : (i : Int) ≤ (k : Int) := by omega
        have hlen : ra.length + 1 ≤ 16777216 := by omega
        have HSP := Lib.hid hsp
        have HA := Lib.hid hA
        clear hr hra hsp hA ih hk hb l1 s1 s2 s3 hlt hak
        go_enter Tryd.func27, Tryd.ntmps27
        go_wp2_with fail
        refine (HSP.out _).mono ?_
        rintro e w1 ⟨rfl, rfl⟩
        go_wp2_with fail
        refine (HA.out _).mono ?_
        rintro e w1 ⟨v, rfl, aA, cA, rfl, oA, fA, kA⟩
        have OA := Lib.hid oA
        have KA := Lib.hid kA
        have FA := Lib.hid fA
        clear oA fA kA
        go_wp2_with (first
          | (refine wpList_lit HT.out rfl rfl [pairV (ak, b)] rfl (by first | rfl | (simp [Act.eval]; done) | (simp [Act.eval]; rfl)) (by simp [pairV, pairC, Value.cells]) (by simp) ?_)
          | (at_builtin; refine wpList_append_rd HT.out rfl rfl rfl (((own_kept OA.out (Kp.refl [] _) (by simp))).alloc _) rfl (rd_alloc (m := 1) rfl (by simp [maxLen])) (by intro u hu; simp [flatV, pairV, pairC, Value.cells] at hu; rcases hu with rfl | rfl <;> rfl) (by omega) (by unfold maxLen; omega) ?_; intro a6 c6 w6 o6 g6 f6; have O6 := Lib.hid o6; have G6 := Lib.hid g6; have F6 := Lib.hid f6; clear o6 g6 f6))
        go_ret
        refine ⟨.slice a6 (ra.length + 1) c6, rfl, a6, c6, by simp, ?_, fun y hy => ?_, (KA.out.alloc _).pushed G6.out (fun y hy => .inr (FA.out y hy))⟩
        · rw [prs_snoc, ← flatV_pair]; simpa using O6.out
        · rcases F6.out y hy with h | h
          · exact FA.out y h
          · rw [h]; have := KA.out.size; simp; omega
      · have hA := fun w => ih (a + k) (n - k) (i - k) false w (by omega) (by omega) (by omega) (by omega)
        rw [show a + k + (n - k) = b by omega] at hA
        have l1 := rsub_length f (a + k) (n - k) (i - k) false (by omega) (by omega) (by omega)
        have d5 : IntKind.i64.wrap ((i : Int) - k) = ((i - k : Nat) : Int) := by rw [IntWalk.i64_in _ (by omega)]; omega
        rw [if_neg hlt] at hr
        obtain ⟨ra, hra⟩ : ∃ ra, ra = rsub f (a + k) (n - k) (i - k) false := ⟨_, rfl⟩
        rw [← hra] at hA l1 hr
        rw [hr]
        obtain ⟨ak, hak⟩ : ∃ ak, ak = a + k := ⟨_, rfl⟩
        rw [← hak] at hA d3 ⊢
        have d4 : ¬ (i : Int) ≤ (k : Int) := by omega
        have hlen : ra.length + 1 ≤ 16777216 := by omega
        have HSP := Lib.hid hsp
        have HA := Lib.hid hA
        clear hr hra hsp hA ih hk hb l1 s1 s2 s3 hlt hak
        go_enter Tryd.func27, Tryd.ntmps27
        go_wp2_with fail
        refine (HSP.out _).mono ?_
        rintro e w1 ⟨rfl, rfl⟩
        go_wp2_with fail
        refine (HA.out _).mono ?_
        rintro e w1 ⟨v, rfl, aA, cA, rfl, oA, fA, kA⟩
        have OA := Lib.hid oA
        have KA := Lib.hid kA
        have FA := Lib.hid fA
        clear oA fA kA
        go_wp2_with (first
          | (refine wpList_lit HT.out rfl rfl [pairV (a, ak)] rfl (by first | rfl | (simp [Act.eval]; done) | (simp [Act.eval]; rfl)) (by simp [pairV, pairC, Value.cells]) (by simp) ?_)
          | (at_builtin; refine wpList_append_rd HT.out rfl rfl rfl (((own_kept OA.out (Kp.refl [] _) (by simp))).alloc _) rfl (rd_alloc (m := 1) rfl (by simp [maxLen])) (by intro u hu; simp [flatV, pairV, pairC, Value.cells] at hu; rcases hu with rfl | rfl <;> rfl) (by omega) (by unfold maxLen; omega) ?_; intro a6 c6 w6 o6 g6 f6; have O6 := Lib.hid o6; have G6 := Lib.hid g6; have F6 := Lib.hid f6; clear o6 g6 f6))
        go_ret
        refine ⟨.slice a6 (ra.length + 1) c6, rfl, a6, c6, by simp, ?_, fun y hy => ?_, (KA.out.alloc _).pushed G6.out (fun y hy => .inr (FA.out y hy))⟩
        · rw [prs_snoc, ← flatV_pair]; simpa using O6.out
        · rcases F6.out y hy with h | h
          · exact FA.out y h
          · rw [h]; have := KA.out.size; simp; omega
end Go.Proofs.YtkjdnpalafldhaaDoor
