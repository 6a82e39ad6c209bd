/-
  law08's both: the two roots that a step leads to, as the document says. (Printed by sx_both.py.)
-/
import Derived.Test.YtkjdnpalafldhaaDoorSx
import Derived.Test.YtkjdnpalafldhaaDoorPrf10
import Derived.Test.YtkjdnpalafldhaaDoorPrf11
import Derived.Test.YtkjdnpalafldhaaDoorPrf12
namespace Go.Proofs.YtkjdnpalafldhaaDoor
open Go.RowKit

def stepsR (own : Bool) (sd : List Bool) (old : Hsh) (ps : List Hsh) : Option (Hsh × Hsh) := if own then (match ps with
  | [] => none
  | q :: qs => if qs.length = sd.length then some (foldA q qs sd, foldS q qs sd) else none) else if ps.length = sd.length then some (foldA old ps sd, foldS old ps sd) else none
theorem stepsR_none {sd : List Bool} {old : Hsh} {ps : List Hsh} (h : ps.length ≠ sd.length) : stepsR false sd old ps = none := by unfold stepsR; rw [if_neg (by simp), if_neg h]
theorem stepsR_some {sd : List Bool} {old : Hsh} {ps : List Hsh} (h : ps.length = sd.length) : stepsR false sd old ps = some (foldA old ps sd, foldS old ps sd) := by unfold stepsR; rw [if_neg (by simp), if_pos h]
theorem stepsR_none1 {sd : List Bool} {old q : Hsh} {ps : List Hsh} (h : ps.length ≠ sd.length) : stepsR true sd old (q :: ps) = none := by
  show (if ps.length = sd.length then _ else _) = _
  rw [if_neg h]
theorem stepsR_some1 {sd : List Bool} {old q : Hsh} {ps : List Hsh} (h : ps.length = sd.length) : stepsR true sd old (q :: ps) = some (foldA q ps sd, foldS q ps sd) := by
  show (if ps.length = sd.length then _ else _) = _
  rw [if_pos h]
theorem bothAll_steps (M N : Nat) (old : Hsh) (ps : List Hsh) (h1 : 1 ≤ M) (h2 : M ≤ N) (hb : N ≤ 1152921504606846976) : bothAll M N old ps = stepsR (ownF N M N true) (stepF N M N) old ps := by
  unfold bothAll stepsR
  by_cases he : M = N
  · subst he
    obtain ⟨f, hf⟩ : ∃ f, M = f + 1 := ⟨M - 1, by omega⟩
    have e1 : ownF M M M true = false := by rw [show ownF M M M true = ownF (f + 1) M M true by rw [← hf], ownF, if_pos (Nat.le_refl _)]; rfl
    have e2 : stepF M M M = [] := by rw [show stepF M M M = stepF (f + 1) M M by rw [← hf], stepF, if_pos (Nat.le_refl _)]
    rw [e1, e2, if_pos (.inr rfl)]
    cases ps with
    | nil => rfl
    | cons q qs => simp
  · obtain ⟨e1, e2⟩ := stepF_is N M N (Nat.le_refl _) h1 (by omega) (by omega)
    have hle := st_le (M - 1) (N - 1) (by omega)
    rw [e1, e2, if_neg (by omega)]
    unfold bothR gL
    by_cases ho : 0 < (st (M - 1) (N - 1)).1
    · rw [if_pos ho, decide_eq_true ho]
      cases ps with
      | nil => rfl
      | cons q qs => exact bothF_is _ _ _ _ _ hle.1
    · rw [if_neg ho, decide_eq_false ho]
      exact bothF_is _ _ _ _ _ hle.1
def bothV8 : Option (Hsh × Hsh) → Value
  | some (f, s) => .tuple #[.agg (hvA f), .agg (hvA s), .bool true]
  | none => .tuple #[.agg (hvA zeroH), .agg (hvA zeroH), .bool false]
def bothV' : Option (Hsh × Hsh) → Value
  | some (f, s) => .tuple #[.agg (hvA f), .agg (hvA s), .int .i64 0]
  | none => .tuple #[.agg (hvA zeroH), .agg (hvA zeroH), .int .i64 22]
theorem bothV_eq (o : Option (Hsh × Hsh)) : bothV o = bothV' o := by cases o <;> rfl
theorem both_all' (m n : Nat) (old : Hsh) (ps : List Hsh) (a : Option Addr) (c : Nat) (w : World) (hr : Rd w a ps.length c 32 (hsc ps)) (hmn : m ≤ n) (hb : n ≤ 1152921504606846976) (hL : Laid w) (h2 : 2 ≤ w.heap.size) :
    Calls Tryd.prog 35 #[.int .i64 m, .int .i64 n, hv old, .slice a ps.length c] w fun e w' => e = .returned (bothV' (bothAll m n old ps)) ∧ Kp [] w w' := by
  rw [← bothV_eq]; exact both_all m n old ps a c w hr hmn hb hL h2
theorem both_bad' (m n : Int) (old : Hsh) (v : Value) (w : World) (h : m < 0 ∨ n < m) :
    Calls Tryd.prog 35 #[.int .i64 m, .int .i64 n, hv old, v] w fun e w' => e = .returned (.tuple #[.agg (hvA zeroH), .agg (hvA zeroH), .int .i64 11]) ∧ Kp [] w w' := both_bad m n old v w h
/-- A Step, part by part. -/
abbrev stS (M N : Int) (old root : Hsh) (a : Option Addr) (n c : Nat) : List (Nat × Value) := [(1, .int .i64 M), (1, .int .i64 N), (32, hv old), (32, hv root), (1, .slice a n c)]
theorem stA_sg (M N : Int) (old root : Hsh) (a : Option Addr) (n c : Nat) : stA M N old root a n c = sgA (stS M N old root a n c) := by
  simp [stA, stC, sgA, sgL, stS, Value.cells, hvA]
theorem rd_tail {w : World} {a : Option Addr} {c : Nat} {q : Hsh} {qs : List Hsh} (hr : Rd w a (q :: qs).length c 32 (hsc (q :: qs))) : Rd w (cutA a 1 c 32) qs.length (c - 1) 32 (hsc qs) := by
  have := hr.drop 1 (by simp)
  rw [hsc_drop _ 1 (by simp)] at this
  simpa [cutA] using this
theorem drop_at {α : Type} {l : List α} {k : Nat} {x : α} (h : l[k]? = some x) : l.drop k = x :: l.drop (k + 1) := by
  obtain ⟨hk, rfl⟩ := List.getElem?_eq_some_iff.1 h
  exact List.drop_eq_getElem_cons hk
theorem ag38 : AgT Tryd.prog 38 32 := AgT.mk' Tryd.underlying38 rfl (by kernel_rfl)
theorem fd59x0 : FdT Tryd.prog 59 0 0 := FdT.mk' (k := 0) Tryd.underlying59 (by kernel_rfl)
theorem fd59x1 : FdT Tryd.prog 59 1 1 := FdT.mk' (k := 0) Tryd.underlying59 (by kernel_rfl)
theorem fd59x2 : FdT Tryd.prog 59 2 2 := FdT.mk' (k := 31) Tryd.underlying59 (by kernel_rfl)
theorem fd59x4 : FdT Tryd.prog 59 4 66 := FdT.mk' (k := 0) Tryd.underlying59 (by kernel_rfl)
theorem sc3 : ScT Tryd.prog 3 := ScT.mk' Tryd.underlying3 rfl (by kernel_rfl)
theorem sc4 : ScT Tryd.prog 4 := ScT.mk' Tryd.underlying4 rfl (by kernel_rfl)
theorem sc25 : ScT Tryd.prog 25 := ScT.mk' Tryd.underlying25 rfl (by kernel_rfl)
theorem sz4 : (Tryd.prog.info? 4).map (·.size) = some 1 := by kernel_rfl
theorem sz38 : (Tryd.prog.info? 38).map (·.size) = some 32 := by kernel_rfl
theorem ze38 : ZeS Tryd.prog 38 [(32, hv zeroH)] := ⟨hv zeroH, ZeT.mk' (by kernel_rfl), (sgA_h zeroH).symm⟩
theorem zt38 : ZeT Tryd.prog 38 (hv zeroH) := ZeT.mk' (by kernel_rfl)
set_option maxRecDepth 10000 in
theorem both8_any (M N : Nat) (old root : Hsh) (ps : List Hsh) (a : Option Addr) (c : Nat) (w0 : World) (hr : Rd w0 a ps.length c 32 (hsc ps)) (hm1 : 1 ≤ M) (hmn : M ≤ N) (hN : N ≤ 1152921504606846976) (hpl : ps.length ≤ 1000) (hL : Laid w0) (h2 : 2 ≤ w0.heap.size) :
    Calls Tryd.prog 38 #[.agg (sgA (stS M N old root a ps.length c))] w0 fun e w' => e = .returned (bothV8 (bothAll M N old ps)) ∧ Kp [] w0 w' := by
  have HSD := fun W => refSteps_all N M N true W (Nat.le_refl _) hm1 hmn hN
  have hsl := stepF_length N M N (Nat.le_refl _) hm1 hmn hN
  rw [bothAll_steps M N old ps hm1 hmn hN]
  generalize stepF N M N = sd at *
  generalize ownF N M N true = own at *
  refine calls_st (F := []) (args := [.agg (sgA (stS M N old root a ps.length c))]) Tryd.func38 rfl (n := 67) rfl rfl ?_
  intro ac w HF HS
  refine wp_seq ?_
  refine wp_region_lit ?_
  refine sx_ef HF (ef_boxs HS rfl) rfl rfl ?_; clear HF HS ac; rintro _ w ac ⟨g1, rfl, HS⟩ HF
  refine sx_ef HF (ef_alloc HS ze38) rfl rfl ?_; clear HF HS ac; rintro _ w ac ⟨g2, rfl, HS⟩ HF
  refine sx_ef HF (ef_alloc HS ze38) rfl rfl ?_; clear HF HS ac; rintro _ w ac ⟨g3, rfl, HS⟩ HF
  refine sx_y HF HS (yl_assign rfl) rfl rfl ?_; clear HF ac; intro ac HF
  refine wpList_nil ?_
  refine then_n ?_
  refine wp_seq ?_
  refine wp_region_lit ?_
  refine sx_y HF HS (fa_st fd59x0 rfl) rfl rfl ?_; clear HF ac; intro ac HF
  refine sx_y HF HS (ld_sc sc3 rfl rfl rfl) rfl rfl ?_; clear HF ac; intro ac HF
  refine sx_y HF HS (fa_st fd59x1 rfl) rfl rfl ?_; clear HF ac; intro ac HF
  refine sx_y HF HS (ld_sc sc3 rfl rfl rfl) rfl rfl ?_; clear HF ac; intro ac HF
  refine sx_call HF Tryd.func59 (by kernel_rfl) (by kernel_rfl) rfl (HSD _) rfl rfl ?_; clear HF ac
  rintro _ w ⟨_, rfl, a7, c7, rfl, o7, f7, k7⟩
  refine ⟨_, rfl, fun ac HF => ?_⟩
  replace HS := HS.addRow k7 o7 f7
  clear o7 f7 k7
  refine sx_y HF HS (yl_move rfl) rfl rfl ?_; clear HF ac; intro ac HF
  refine sx_y HF HS (yl_extract rfl rfl) rfl rfl ?_; clear HF ac; intro ac HF
  refine sx_y HF HS (yl_extract rfl rfl) rfl rfl ?_; clear HF ac; intro ac HF
  refine sx_y HF HS (yl_assign rfl) rfl rfl ?_; clear HF ac; intro ac HF
  refine sx_y HF HS (yl_assign rfl) rfl rfl ?_; clear HF ac; intro ac HF
  refine wpList_nil ?_
  refine then_n ?_
  refine wp_seq ?_
  refine wp_region_lit ?_
  refine sx_y HF HS (fa_st fd59x4 rfl) rfl rfl ?_; clear HF ac; intro ac HF
  refine sx_y HF HS (ld_sc sc25 rfl rfl rfl) rfl rfl ?_; clear HF ac; intro ac HF
  refine sx_y HF HS (yl_assign rfl) rfl rfl ?_; clear HF ac; intro ac HF
  refine wpList_nil ?_
  refine then_n ?_
  refine wp_seq ?_
  refine wp_region_lit ?_
  refine sx_y HF HS (fa_st fd59x2 rfl) rfl rfl ?_; clear HF ac; intro ac HF
  refine sx_y HF HS (ld_ag ag38 rfl rfl) rfl rfl ?_; clear HF ac; intro ac HF
  refine sx_ef HF (ef_alloc HS ze38) rfl rfl ?_; clear HF HS ac; rintro _ w ac ⟨g8, rfl, HS⟩ HF
  refine sx_ef0 HF (ef_store HS sz38 rfl rfl rfl) rfl ?_; clear HS; rintro _ w HS
  refine wpList_nil ?_
  refine then_n ?_
  refine wp_seq ?_
  refine wp_seq ?_
  refine wp_region_lit ?_
  refine sx_y HF HS (yl_move rfl) rfl rfl ?_; clear HF ac; intro ac HF
  refine wpList_nil ?_
  refine then_n ?_
  refine cx_split HF rfl ?_ ?_ <;> intro hc4
  · refine wp_seq ?_
    refine wp_seq ?_
    refine wp_region_lit ?_
    refine sx_y HF HS (yl_move rfl) rfl rfl ?_; clear HF ac; intro ac HF
    refine sx_y HF HS (yl_len_slice Tryd.underlying25 rfl) rfl rfl ?_; clear HF ac; intro ac HF
    refine sx_dec HF HS (yl_eql rfl rfl rfl) rfl rfl ?_ ?_ <;> clear HF ac <;> intro h5x2 ac HF
    · refine wpList_nil ?_
      refine then_n ?_
      refine cx_true HF rfl ?_
      refine wp_seq ?_
      refine wp_region_lit ?_
      refine sx_y HF HS (bd_zero (cs := hvA zeroH) zt38 Tryd.underlying38 (by kernel_rfl) rfl) rfl rfl ?_; clear HF ac; intro ac HF
      refine sx_y HF HS (bd_zero (cs := hvA zeroH) zt38 Tryd.underlying38 (by kernel_rfl) rfl) rfl rfl ?_; clear HF ac; intro ac HF
      refine sx_ef0 HF (ef_store HS sz38 rfl rfl rfl) rfl ?_; clear HS; rintro _ w HS
      refine sx_ef0 HF (ef_store HS sz38 rfl rfl rfl) rfl ?_; clear HS; rintro _ w HS
      refine sx_y HF HS (yl_assign rfl) rfl rfl ?_; clear HF ac; intro ac HF
      refine wpList_nil ?_
      refine then_n ?_
      refine wp_ret ?_
      refine then_r ?_
      refine then_r ?_
      exact rt3 rfl HF HS ⟨⟨_, rfl⟩, ld_ag ag38 rfl rfl⟩ ⟨⟨_, rfl⟩, ld_ag ag38 rfl rfl⟩ rfl ⟨by
        have : ps = [] := List.eq_nil_of_length_eq_zero (by omega)
        subst this; rw [hc4]; rfl, HS.kp⟩
    · obtain ⟨q, qs, rfl⟩ : ∃ q qs, ps = q :: qs := by
        cases ps with
        | nil => exact absurd rfl h5x2
        | cons q qs => exact ⟨q, qs, rfl⟩
      have hcap := hr.le
      have hr1 : Rd w0 (cutA a 1 c 32) qs.length (c - 1) 32 (hsc qs) := rd_tail hr
      have hlen : (q :: qs).length = qs.length + 1 := rfl
      refine wpList_nil ?_
      refine then_n ?_
      refine cx_false HF rfl ?_
      refine wp_skip ?_
      refine then_n ?_
      refine dx_region 5 (by kernel_rfl) HS.drew (fun _ h => h) ?_; clear HS; intro w HS
      have HH := HS
      refine dx_p (i := 0) HF rfl (by kernel_rfl) (by kernel_rfl) (by kernel_rfl) (by decide) (fun _ _ _ h => h) (fun _ => HH) (yl_move rfl) rfl rfl ?_; clear HF ac; intro ac HF
      refine dx_p (i := 1) HF rfl (by kernel_rfl) (by kernel_rfl) (by kernel_rfl) (by decide) (fun _ _ _ h => h) (fun _ => HH) (ix_sl (k := 0) Tryd.underlying25 sz38 rfl rfl (by omega) hr.nil0) rfl rfl ?_; clear HF ac; intro ac HF
      refine dx_k (i := 2) HF rfl (by kernel_rfl) (by kernel_rfl) (by kernel_rfl) (by kernel_rfl) (by kernel_rfl) (fun _ _ _ h => h) HH (ld_elH ag38 rfl (h := q) rfl (fun w h => hr.below h.kp)) rfl rfl ?_; clear HF ac; intro ac HF
      refine dx_p (i := 3) HF rfl (by kernel_rfl) (by kernel_rfl) (by kernel_rfl) (by decide) (fun _ _ _ h => h) (fun _ => HH) (yl_move rfl) rfl rfl ?_; clear HF ac; intro ac HF
      refine dx_p (i := 4) HF rfl (by kernel_rfl) (by kernel_rfl) (by kernel_rfl) (by decide) (fun _ _ _ h => h) (fun _ => HH) (sl_lo (k := 1) (r := qs.length) Tryd.underlying25 sz38 rfl rfl (by omega) (by simp)) rfl rfl ?_; clear HF ac; intro ac HF
      refine dx_one (i := 5) (by kernel_rfl) ?_
      refine op_ef0 (i := 5) HF rfl rfl (ef_store HS sz38 rfl rfl rfl) ?_; clear HS; rintro _ w HS
      refine ⟨fun h => absurd h (by decide), ?_⟩
      refine dx_p (i := 6) HF rfl (by kernel_rfl) (by kernel_rfl) (by kernel_rfl) (by decide) (fun _ _ _ h => h) (fun h => absurd h (by decide)) (yl_assign rfl) rfl rfl ?_; clear HF ac; intro ac HF
      refine dx_done (by kernel_rfl) ?_
      clear HH
      refine then_n ?_
      refine wp_seq ?_
      refine wp_seq ?_
      refine wp_region_lit ?_
      refine sx_y HF HS (yl_move rfl) rfl rfl ?_; clear HF ac; intro ac HF
      refine sx_y HF HS (yl_len_slice Tryd.underlying25 rfl) rfl rfl ?_; clear HF ac; intro ac HF
      refine sx_y HF HS (yl_move rfl) rfl rfl ?_; clear HF ac; intro ac HF
      refine sx_y HF HS (yl_len_slice Tryd.underlying52 rfl) rfl rfl ?_; clear HF ac; intro ac HF
      refine sx_dec HF HS (yl_neq rfl rfl rfl) rfl rfl ?_ ?_ <;> clear HF ac <;> intro h8x4 ac HF
      · refine wpList_nil ?_
        refine then_n ?_
        refine cx_true HF rfl ?_
        refine wp_seq ?_
        refine wp_region_lit ?_
        refine sx_y HF HS (bd_zero (cs := hvA zeroH) zt38 Tryd.underlying38 (by kernel_rfl) rfl) rfl rfl ?_; clear HF ac; intro ac HF
        refine sx_y HF HS (bd_zero (cs := hvA zeroH) zt38 Tryd.underlying38 (by kernel_rfl) rfl) rfl rfl ?_; clear HF ac; intro ac HF
        refine sx_ef0 HF (ef_store HS sz38 rfl rfl rfl) rfl ?_; clear HS; rintro _ w HS
        refine sx_ef0 HF (ef_store HS sz38 rfl rfl rfl) rfl ?_; clear HS; rintro _ w HS
        refine sx_y HF HS (yl_assign rfl) rfl rfl ?_; clear HF ac; intro ac HF
        refine wpList_nil ?_
        refine then_n ?_
        refine wp_ret ?_
        refine then_r ?_
        exact rt3 rfl HF HS ⟨⟨_, rfl⟩, ld_ag ag38 rfl rfl⟩ ⟨⟨_, rfl⟩, ld_ag ag38 rfl rfl⟩ rfl ⟨by
          rw [hc4, stepsR_none1 (by omega)]; rfl, HS.kp⟩
      · have hK : qs.length = sd.length := by have := Decidable.not_not.1 h8x4; omega
        refine wpList_nil ?_
        refine then_n ?_
        refine cx_false HF rfl ?_
        refine wp_skip ?_
        refine then_n ?_
        refine wp_seq ?_
        refine wp_region_lit ?_
        refine sx_y HF HS (ld_ag ag38 rfl rfl) rfl rfl ?_; clear HF ac; intro ac HF
        refine sx_ef HF (ef_alloc HS ze38) rfl rfl ?_; clear HF HS ac; rintro _ w ac ⟨g9, rfl, HS⟩ HF
        refine sx_ef0 HF (ef_store HS sz38 rfl rfl rfl) rfl ?_; clear HS; rintro _ w HS
        refine wpList_nil ?_
        refine then_n ?_
        refine wp_seq ?_
        refine wp_seq ?_
        refine wp_region_lit ?_
        refine sx_y HF HS (yl_move rfl) rfl rfl ?_; clear HF ac; intro ac HF
        refine sx_y HF HS (yl_len_slice Tryd.underlying52 rfl) rfl rfl ?_; clear HF ac; intro ac HF
        refine sx_y HF HS (yl_move rfl) rfl rfl ?_; clear HF ac; intro ac HF
        refine wpList_nil ?_
        refine then_n ?_
        refine wp_block ?_
        replace HF := HF.sub (m' := [(2, _), (3, _), (4, _), (7, _), (8, _), (9, _), (43, _), (44, _), (45, _)]) (by repeat (first | exact ag_nil | refine ag_cons rfl ?_))
        refine cx_loop (m := [(2, _), (3, _), (4, _), (7, _), (8, _), (9, _), (43, _), (44, _)]) (HF.sub (by repeat (first | exact ag_nil | refine ag_cons rfl ?_))) (fun m d ac w => ∃ (k : Nat) (f s : Hsh), k ≤ sd.length ∧ foldA f (qs.drop k) (sd.drop k) = foldA q qs sd ∧ foldS s (qs.drop k) (sd.drop k) = foldS q qs sd ∧ d = sd.length - k ∧ Fr ((45, .int .i64 (k : Int)) :: m) 67 ac ∧ St [] w0 [⟨g9, sgA [(32, hv s)], 38⟩, ⟨g8, sgA [(32, hv f)], 38⟩, ⟨g3, sgA [(32, hv zeroH)], 38⟩, ⟨g2, sgA [(32, hv zeroH)], 38⟩, ⟨g1, sgA (stS M N old root a (q :: qs).length c), 59⟩] [⟨4, 1, a7, sd.length, c7, bvs sd⟩] w) ?_ ?_
        · exact ⟨_, 0, q, q, Nat.zero_le _, rfl, rfl, rfl, HF.sub (by repeat (first | exact ag_nil | refine ag_cons rfl ?_)), HS⟩
        · clear HF HS ac w
          rintro d ac w ⟨k, f, s, hk, hfa, hfs, rfl, HF, HS⟩
          refine wp_seq ?_
          refine wp_region_lit ?_
          refine sx_dec HF HS (yl_lss rfl rfl rfl) rfl rfl ?_ ?_ <;> clear HF ac <;> intro h12x0 ac HF
          · obtain ⟨p, hlk⟩ : ∃ p, qs[k]? = some p := ⟨_, List.getElem?_eq_getElem (by omega)⟩
            obtain ⟨bo, hsk⟩ : ∃ b, sd[k]? = some b := ⟨_, List.getElem?_eq_getElem (by omega)⟩
            have hbv : (bvs sd)[k]? = some (.bool bo) := by rw [bvs, List.getElem?_map, hsk]; rfl
            rw [drop_at hlk, drop_at hsk, foldA] at hfa
            rw [drop_at hlk, drop_at hsk, foldS] at hfs
            refine wpList_nil ?_
            refine then_n ?_
            refine wp_seq ?_
            refine cx_true HF rfl ?_
            refine wp_skip ?_
            refine then_n ?_
            refine wp_seq ?_
            refine wp_block ?_
            refine wp_seq ?_
            refine wp_region_lit ?_
            refine sx_y HF HS (yl_move rfl) rfl rfl ?_; clear HF ac; intro ac HF
            refine sx_y HF HS (ix_sl Tryd.underlying52 sz4 rfl rfl (by omega) (own_rd (HS.row _ List.mem_cons_self)).nil0) rfl rfl ?_; clear HF ac; intro ac HF
            refine sx_y HF HS (ld_elC sc4 rfl hbv (fun w h => own_rd (h.row _ List.mem_cons_self))) rfl rfl ?_; clear HF ac; intro ac HF
            refine sx_y HF HS (yl_assign rfl) rfl rfl ?_; clear HF ac; intro ac HF
            refine sx_y HF HS (yl_assign rfl) rfl rfl ?_; clear HF ac; intro ac HF
            refine wpList_nil ?_
            refine then_n ?_
            refine wp_seq ?_
            refine wp_seq ?_
            refine wp_region_lit ?_
            refine sx_y HF HS (yl_move rfl) rfl rfl ?_; clear HF ac; intro ac HF
            refine wpList_nil ?_
            refine then_n ?_
            refine cx_split HF rfl ?_ ?_ <;> intro hc14
            · subst hc14
              refine dx_region 6 (by kernel_rfl) HS.drew (fun _ h => h) ?_; clear HS; intro w HS
              have HH := HS
              refine dx_p (i := 0) HF rfl (by kernel_rfl) (by kernel_rfl) (by kernel_rfl) (by decide) (fun _ _ _ h => h) (fun _ => HH) (yl_move rfl) rfl rfl ?_; clear HF ac; intro ac HF
              refine dx_p (i := 1) HF rfl (by kernel_rfl) (by kernel_rfl) (by kernel_rfl) (by decide) (fun _ _ _ h => h) (fun _ => HH) (yl_move rfl) rfl rfl ?_; clear HF ac; intro ac HF
              refine dx_p (i := 2) HF rfl (by kernel_rfl) (by kernel_rfl) (by kernel_rfl) (by decide) (fun _ _ _ h => h) (fun _ => HH) (ix_sl Tryd.underlying25 sz38 rfl rfl (by omega) hr1.nil0) rfl rfl ?_; clear HF ac; intro ac HF
              refine dx_k (i := 3) HF rfl (by kernel_rfl) (by kernel_rfl) (by kernel_rfl) (by kernel_rfl) (by kernel_rfl) (fun _ _ _ h => h) HH (ld_elH ag38 rfl hlk (fun w h => hr1.below h.kp)) rfl rfl ?_; clear HF ac; intro ac HF
              refine dx_k (i := 4) HF rfl (by kernel_rfl) (by kernel_rfl) (by kernel_rfl) (by kernel_rfl) (by kernel_rfl) (fun _ _ _ h => h) HH (ld_ag ag38 rfl rfl) rfl rfl ?_; clear HF ac; intro ac HF
              refine dx_one (i := 5) (by kernel_rfl) ?_
              refine op_call (i := 5) HF rfl Tryd.func34 (by kernel_rfl) (by kernel_rfl) rfl (node_any p f w (hL.below HS.kp) (Nat.le_trans h2 HS.kp.size)) rfl rfl ?_; clear HF ac
              rintro _ w ⟨rfl, k1⟩
              refine ⟨_, rfl, fun ac HF => ?_⟩
              replace HH := HH.call k1
              replace HS := HS.call k1
              clear k1
              refine ⟨fun _ => HH, ?_⟩
              refine dx_one (i := 6) (by kernel_rfl) ?_
              refine op_ef0 (i := 6) HF rfl rfl (ef_store HS sz38 rfl rfl rfl) ?_; clear HS; rintro _ w HS
              refine ⟨fun h => absurd h (by decide), ?_⟩
              refine dx_done (by kernel_rfl) ?_
              clear HH
              refine then_n ?_
              refine dx_region 7 (by kernel_rfl) HS.drew (fun _ h => h) ?_; clear HS; intro w HS
              have HH := HS
              refine dx_k (i := 0) HF rfl (by kernel_rfl) (by kernel_rfl) (by kernel_rfl) (by kernel_rfl) (by kernel_rfl) (fun _ _ _ h => h) HH (ld_ag ag38 rfl rfl) rfl rfl ?_; clear HF ac; intro ac HF
              refine dx_p (i := 1) HF rfl (by kernel_rfl) (by kernel_rfl) (by kernel_rfl) (by decide) (fun _ _ _ h => h) (fun _ => HH) (yl_move rfl) rfl rfl ?_; clear HF ac; intro ac HF
              refine dx_p (i := 2) HF rfl (by kernel_rfl) (by kernel_rfl) (by kernel_rfl) (by decide) (fun _ _ _ h => h) (fun _ => HH) (yl_move rfl) rfl rfl ?_; clear HF ac; intro ac HF
              refine dx_p (i := 3) HF rfl (by kernel_rfl) (by kernel_rfl) (by kernel_rfl) (by decide) (fun _ _ _ h => h) (fun _ => HH) (ix_sl Tryd.underlying25 sz38 rfl rfl (by omega) hr1.nil0) rfl rfl ?_; clear HF ac; intro ac HF
              refine dx_k (i := 4) HF rfl (by kernel_rfl) (by kernel_rfl) (by kernel_rfl) (by kernel_rfl) (by kernel_rfl) (fun _ _ _ h => h) HH (ld_elH ag38 rfl hlk (fun w h => hr1.below h.kp)) rfl rfl ?_; clear HF ac; intro ac HF
              refine dx_p (i := 5) HF rfl (by kernel_rfl) (by kernel_rfl) (by kernel_rfl) (by decide) (fun _ _ _ h => h) (fun _ => HH) (yl_move rfl) rfl rfl ?_; clear HF ac; intro ac HF
              refine dx_one (i := 6) (by kernel_rfl) ?_
              refine op_call (i := 6) HF rfl Tryd.func33 (by kernel_rfl) (by kernel_rfl) rfl (join_any s p _ w (hL.below HS.kp) (Nat.le_trans h2 HS.kp.size)) rfl rfl ?_; clear HF ac
              rintro _ w ⟨rfl, k1⟩
              refine ⟨_, rfl, fun ac HF => ?_⟩
              replace HH := HH.call k1
              replace HS := HS.call k1
              clear k1
              refine ⟨fun _ => HH, ?_⟩
              refine dx_one (i := 7) (by kernel_rfl) ?_
              refine op_ef0 (i := 7) HF rfl rfl (ef_store HS sz38 rfl rfl rfl) ?_; clear HS; rintro _ w HS
              refine ⟨fun h => absurd h (by decide), ?_⟩
              refine dx_done (by kernel_rfl) ?_
              clear HH
              refine blk_n ?_
              refine then_n ?_
              refine wp_region_lit ?_
              refine sx_y HF HS (yl_add64 (r := ((k + 1 : Nat) : Int)) rfl rfl (by omega) (by omega)) rfl rfl ?_; clear HF ac; intro ac HF
              refine sx_y HF HS (yl_move rfl) rfl rfl ?_; clear HF ac; intro ac HF
              refine wpList_nil ?_
              refine then_n ?_
              refine ⟨_, ?_, k + 1, _, _, by omega, hfa, hfs, rfl, HF.sub (by repeat (first | exact ag_nil | refine ag_cons rfl ?_)), HS⟩
              omega
            · subst hc14
              refine wp_skip ?_
              refine then_n ?_
              refine dx_region 7 (by kernel_rfl) HS.drew (fun _ h => h) ?_; clear HS; intro w HS
              have HH := HS
              refine dx_k (i := 0) HF rfl (by kernel_rfl) (by kernel_rfl) (by kernel_rfl) (by kernel_rfl) (by kernel_rfl) (fun _ _ _ h => h) HH (ld_ag ag38 rfl rfl) rfl rfl ?_; clear HF ac; intro ac HF
              refine dx_p (i := 1) HF rfl (by kernel_rfl) (by kernel_rfl) (by kernel_rfl) (by decide) (fun _ _ _ h => h) (fun _ => HH) (yl_move rfl) rfl rfl ?_; clear HF ac; intro ac HF
              refine dx_p (i := 2) HF rfl (by kernel_rfl) (by kernel_rfl) (by kernel_rfl) (by decide) (fun _ _ _ h => h) (fun _ => HH) (yl_move rfl) rfl rfl ?_; clear HF ac; intro ac HF
              refine dx_p (i := 3) HF rfl (by kernel_rfl) (by kernel_rfl) (by kernel_rfl) (by decide) (fun _ _ _ h => h) (fun _ => HH) (ix_sl Tryd.underlying25 sz38 rfl rfl (by omega) hr1.nil0) rfl rfl ?_; clear HF ac; intro ac HF
              refine dx_k (i := 4) HF rfl (by kernel_rfl) (by kernel_rfl) (by kernel_rfl) (by kernel_rfl) (by kernel_rfl) (fun _ _ _ h => h) HH (ld_elH ag38 rfl hlk (fun w h => hr1.below h.kp)) rfl rfl ?_; clear HF ac; intro ac HF
              refine dx_p (i := 5) HF rfl (by kernel_rfl) (by kernel_rfl) (by kernel_rfl) (by decide) (fun _ _ _ h => h) (fun _ => HH) (yl_move rfl) rfl rfl ?_; clear HF ac; intro ac HF
              refine dx_one (i := 6) (by kernel_rfl) ?_
              refine op_call (i := 6) HF rfl Tryd.func33 (by kernel_rfl) (by kernel_rfl) rfl (join_any s p _ w (hL.below HS.kp) (Nat.le_trans h2 HS.kp.size)) rfl rfl ?_; clear HF ac
              rintro _ w ⟨rfl, k1⟩
              refine ⟨_, rfl, fun ac HF => ?_⟩
              replace HH := HH.call k1
              replace HS := HS.call k1
              clear k1
              refine ⟨fun _ => HH, ?_⟩
              refine dx_one (i := 7) (by kernel_rfl) ?_
              refine op_ef0 (i := 7) HF rfl rfl (ef_store HS sz38 rfl rfl rfl) ?_; clear HS; rintro _ w HS
              refine ⟨fun h => absurd h (by decide), ?_⟩
              refine dx_done (by kernel_rfl) ?_
              clear HH
              refine blk_n ?_
              refine then_n ?_
              refine wp_region_lit ?_
              refine sx_y HF HS (yl_add64 (r := ((k + 1 : Nat) : Int)) rfl rfl (by omega) (by omega)) rfl rfl ?_; clear HF ac; intro ac HF
              refine sx_y HF HS (yl_move rfl) rfl rfl ?_; clear HF ac; intro ac HF
              refine wpList_nil ?_
              refine then_n ?_
              refine ⟨_, ?_, k + 1, _, _, by omega, hfa, hfs, rfl, HF.sub (by repeat (first | exact ag_nil | refine ag_cons rfl ?_)), HS⟩
              omega
          · obtain rfl : k = sd.length := by omega
            rw [List.drop_length, List.drop_eq_nil_of_le (by omega)] at hfa hfs
            refine wpList_nil ?_
            refine then_n ?_
            refine wp_seq ?_
            refine cx_false HF rfl ?_
            refine wp_exit ?_
            refine then_x ?_
            refine then_x ?_
            refine blk_hit ?_
            refine then_n ?_
            refine wp_seq ?_
            refine dx_region 2 (by kernel_rfl) HS.drew (fun _ h => h) ?_; clear HS; intro w HS
            have HH := HS
            refine dx_k (i := 0) HF rfl (by kernel_rfl) (by kernel_rfl) (by kernel_rfl) (by kernel_rfl) (by kernel_rfl) (fun _ _ _ h => h) HH (ld_ag ag38 rfl rfl) rfl rfl ?_; clear HF ac; intro ac HF
            refine dx_two (i := 1) (j := 2) (by kernel_rfl) ?_ ?_
            · refine op_y (i := 1) HF rfl rfl rfl HS (ld_ag ag38 rfl rfl) ?_; clear HF ac; intro ac HF
              refine ⟨fun _ => HH, ?_⟩
              refine dx_one (i := 2) (by kernel_rfl) ?_
              refine op_ef0 (i := 2) HF rfl rfl (ef_store HS sz38 rfl rfl rfl) ?_; clear HS; rintro _ w HS
              refine ⟨fun h => absurd h (by decide), ?_⟩
              refine dx_one (i := 3) (by kernel_rfl) ?_
              refine op_ef0 (i := 3) HF rfl rfl (ef_store HS sz38 rfl rfl rfl) ?_; clear HS; rintro _ w HS
              refine ⟨fun h => absurd h (by decide), ?_⟩
              refine dx_p (i := 4) HF rfl (by kernel_rfl) (by kernel_rfl) (by kernel_rfl) (by decide) (fun _ _ _ h => h) (fun h => absurd h (by decide)) (yl_assign rfl) rfl rfl ?_; clear HF ac; intro ac HF
              refine dx_done (by kernel_rfl) ?_
              clear HH
              refine then_n ?_
              refine wp_ret ?_
              exact rt3 rfl HF HS ⟨⟨_, rfl⟩, ld_ag ag38 rfl rfl⟩ ⟨⟨_, rfl⟩, ld_ag ag38 rfl rfl⟩ rfl ⟨by
                rw [hc4, stepsR_some1 hK, ← hfa, ← hfs]; rfl, HS.kp⟩
            · refine op_ef0 (i := 2) HF rfl rfl (ef_store HS sz38 rfl rfl rfl) ?_; clear HS; rintro _ w HS
              refine ⟨fun h => absurd h (by decide), ?_⟩
              refine dx_one (i := 1) (by kernel_rfl) ?_
              refine op_y (i := 1) HF rfl rfl rfl HS (ld_ag ag38 rfl rfl) ?_; clear HF ac; intro ac HF
              refine ⟨fun h => absurd h (by decide), ?_⟩
              refine dx_one (i := 3) (by kernel_rfl) ?_
              refine op_ef0 (i := 3) HF rfl rfl (ef_store HS sz38 rfl rfl rfl) ?_; clear HS; rintro _ w HS
              refine ⟨fun h => absurd h (by decide), ?_⟩
              refine dx_p (i := 4) HF rfl (by kernel_rfl) (by kernel_rfl) (by kernel_rfl) (by decide) (fun _ _ _ h => h) (fun h => absurd h (by decide)) (yl_assign rfl) rfl rfl ?_; clear HF ac; intro ac HF
              refine dx_done (by kernel_rfl) ?_
              clear HH
              refine then_n ?_
              refine wp_ret ?_
              exact rt3 rfl HF HS ⟨⟨_, rfl⟩, ld_ag ag38 rfl rfl⟩ ⟨⟨_, rfl⟩, ld_ag ag38 rfl rfl⟩ rfl ⟨by
                rw [hc4, stepsR_some1 hK, ← hfa, ← hfs]; rfl, HS.kp⟩
  · have hr1 : True := trivial
    refine wp_skip ?_
    refine then_n ?_
    refine wp_seq ?_
    refine wp_seq ?_
    refine wp_region_lit ?_
    refine sx_y HF HS (yl_move rfl) rfl rfl ?_; clear HF ac; intro ac HF
    refine sx_y HF HS (yl_len_slice Tryd.underlying25 rfl) rfl rfl ?_; clear HF ac; intro ac HF
    refine sx_y HF HS (yl_move rfl) rfl rfl ?_; clear HF ac; intro ac HF
    refine sx_y HF HS (yl_len_slice Tryd.underlying52 rfl) rfl rfl ?_; clear HF ac; intro ac HF
    refine sx_dec HF HS (yl_neq rfl rfl rfl) rfl rfl ?_ ?_ <;> clear HF ac <;> intro h8x4 ac HF
    · refine wpList_nil ?_
      refine then_n ?_
      refine cx_true HF rfl ?_
      refine wp_seq ?_
      refine wp_region_lit ?_
      refine sx_y HF HS (bd_zero (cs := hvA zeroH) zt38 Tryd.underlying38 (by kernel_rfl) rfl) rfl rfl ?_; clear HF ac; intro ac HF
      refine sx_y HF HS (bd_zero (cs := hvA zeroH) zt38 Tryd.underlying38 (by kernel_rfl) rfl) rfl rfl ?_; clear HF ac; intro ac HF
      refine sx_ef0 HF (ef_store HS sz38 rfl rfl rfl) rfl ?_; clear HS; rintro _ w HS
      refine sx_ef0 HF (ef_store HS sz38 rfl rfl rfl) rfl ?_; clear HS; rintro _ w HS
      refine sx_y HF HS (yl_assign rfl) rfl rfl ?_; clear HF ac; intro ac HF
      refine wpList_nil ?_
      refine then_n ?_
      refine wp_ret ?_
      refine then_r ?_
      exact rt3 rfl HF HS ⟨⟨_, rfl⟩, ld_ag ag38 rfl rfl⟩ ⟨⟨_, rfl⟩, ld_ag ag38 rfl rfl⟩ rfl ⟨by
        rw [hc4, stepsR_none (by omega)]; rfl, HS.kp⟩
    · have hK : ps.length = sd.length := by have := Decidable.not_not.1 h8x4; omega
      refine wpList_nil ?_
      refine then_n ?_
      refine cx_false HF rfl ?_
      refine wp_skip ?_
      refine then_n ?_
      refine wp_seq ?_
      refine wp_region_lit ?_
      refine sx_y HF HS (ld_ag ag38 rfl rfl) rfl rfl ?_; clear HF ac; intro ac HF
      refine sx_ef HF (ef_alloc HS ze38) rfl rfl ?_; clear HF HS ac; rintro _ w ac ⟨g9, rfl, HS⟩ HF
      refine sx_ef0 HF (ef_store HS sz38 rfl rfl rfl) rfl ?_; clear HS; rintro _ w HS
      refine wpList_nil ?_
      refine then_n ?_
      refine wp_seq ?_
      refine wp_seq ?_
      refine wp_region_lit ?_
      refine sx_y HF HS (yl_move rfl) rfl rfl ?_; clear HF ac; intro ac HF
      refine sx_y HF HS (yl_len_slice Tryd.underlying52 rfl) rfl rfl ?_; clear HF ac; intro ac HF
      refine sx_y HF HS (yl_move rfl) rfl rfl ?_; clear HF ac; intro ac HF
      refine wpList_nil ?_
      refine then_n ?_
      refine wp_block ?_
      replace HF := HF.sub (m' := [(2, _), (3, _), (4, _), (7, _), (8, _), (9, _), (43, _), (44, _), (45, _)]) (by repeat (first | exact ag_nil | refine ag_cons rfl ?_))
      refine cx_loop (m := [(2, _), (3, _), (4, _), (7, _), (8, _), (9, _), (43, _), (44, _)]) (HF.sub (by repeat (first | exact ag_nil | refine ag_cons rfl ?_))) (fun m d ac w => ∃ (k : Nat) (f s : Hsh), k ≤ sd.length ∧ foldA f (ps.drop k) (sd.drop k) = foldA old ps sd ∧ foldS s (ps.drop k) (sd.drop k) = foldS old ps sd ∧ d = sd.length - k ∧ Fr ((45, .int .i64 (k : Int)) :: m) 67 ac ∧ St [] w0 [⟨g9, sgA [(32, hv s)], 38⟩, ⟨g8, sgA [(32, hv f)], 38⟩, ⟨g3, sgA [(32, hv zeroH)], 38⟩, ⟨g2, sgA [(32, hv zeroH)], 38⟩, ⟨g1, sgA (stS M N old root a ps.length c), 59⟩] [⟨4, 1, a7, sd.length, c7, bvs sd⟩] w) ?_ ?_
      · exact ⟨_, 0, old, old, Nat.zero_le _, rfl, rfl, rfl, HF.sub (by repeat (first | exact ag_nil | refine ag_cons rfl ?_)), HS⟩
      · clear HF HS ac w
        rintro d ac w ⟨k, f, s, hk, hfa, hfs, rfl, HF, HS⟩
        refine wp_seq ?_
        refine wp_region_lit ?_
        refine sx_dec HF HS (yl_lss rfl rfl rfl) rfl rfl ?_ ?_ <;> clear HF ac <;> intro h12x0 ac HF
        · obtain ⟨p, hlk⟩ : ∃ p, ps[k]? = some p := ⟨_, List.getElem?_eq_getElem (by omega)⟩
          obtain ⟨bo, hsk⟩ : ∃ b, sd[k]? = some b := ⟨_, List.getElem?_eq_getElem (by omega)⟩
          have hbv : (bvs sd)[k]? = some (.bool bo) := by rw [bvs, List.getElem?_map, hsk]; rfl
          rw [drop_at hlk, drop_at hsk, foldA] at hfa
          rw [drop_at hlk, drop_at hsk, foldS] at hfs
          refine wpList_nil ?_
          refine then_n ?_
          refine wp_seq ?_
          refine cx_true HF rfl ?_
          refine wp_skip ?_
          refine then_n ?_
          refine wp_seq ?_
          refine wp_block ?_
          refine wp_seq ?_
          refine wp_region_lit ?_
          refine sx_y HF HS (yl_move rfl) rfl rfl ?_; clear HF ac; intro ac HF
          refine sx_y HF HS (ix_sl Tryd.underlying52 sz4 rfl rfl (by omega) (own_rd (HS.row _ List.mem_cons_self)).nil0) rfl rfl ?_; clear HF ac; intro ac HF
          refine sx_y HF HS (ld_elC sc4 rfl hbv (fun w h => own_rd (h.row _ List.mem_cons_self))) rfl rfl ?_; clear HF ac; intro ac HF
          refine sx_y HF HS (yl_assign rfl) rfl rfl ?_; clear HF ac; intro ac HF
          refine sx_y HF HS (yl_assign rfl) rfl rfl ?_; clear HF ac; intro ac HF
          refine wpList_nil ?_
          refine then_n ?_
          refine wp_seq ?_
          refine wp_seq ?_
          refine wp_region_lit ?_
          refine sx_y HF HS (yl_move rfl) rfl rfl ?_; clear HF ac; intro ac HF
          refine wpList_nil ?_
          refine then_n ?_
          refine cx_split HF rfl ?_ ?_ <;> intro hc14
          · subst hc14
            refine dx_region 6 (by kernel_rfl) HS.drew (fun _ h => h) ?_; clear HS; intro w HS
            have HH := HS
            refine dx_p (i := 0) HF rfl (by kernel_rfl) (by kernel_rfl) (by kernel_rfl) (by decide) (fun _ _ _ h => h) (fun _ => HH) (yl_move rfl) rfl rfl ?_; clear HF ac; intro ac HF
            refine dx_p (i := 1) HF rfl (by kernel_rfl) (by kernel_rfl) (by kernel_rfl) (by decide) (fun _ _ _ h => h) (fun _ => HH) (yl_move rfl) rfl rfl ?_; clear HF ac; intro ac HF
            refine dx_p (i := 2) HF rfl (by kernel_rfl) (by kernel_rfl) (by kernel_rfl) (by decide) (fun _ _ _ h => h) (fun _ => HH) (ix_sl Tryd.underlying25 sz38 rfl rfl (by omega) hr.nil0) rfl rfl ?_; clear HF ac; intro ac HF
            refine dx_k (i := 3) HF rfl (by kernel_rfl) (by kernel_rfl) (by kernel_rfl) (by kernel_rfl) (by kernel_rfl) (fun _ _ _ h => h) HH (ld_elH ag38 rfl hlk (fun w h => hr.below h.kp)) rfl rfl ?_; clear HF ac; intro ac HF
            refine dx_k (i := 4) HF rfl (by kernel_rfl) (by kernel_rfl) (by kernel_rfl) (by kernel_rfl) (by kernel_rfl) (fun _ _ _ h => h) HH (ld_ag ag38 rfl rfl) rfl rfl ?_; clear HF ac; intro ac HF
            refine dx_one (i := 5) (by kernel_rfl) ?_
            refine op_call (i := 5) HF rfl Tryd.func34 (by kernel_rfl) (by kernel_rfl) rfl (node_any p f w (hL.below HS.kp) (Nat.le_trans h2 HS.kp.size)) rfl rfl ?_; clear HF ac
            rintro _ w ⟨rfl, k1⟩
            refine ⟨_, rfl, fun ac HF => ?_⟩
            replace HH := HH.call k1
            replace HS := HS.call k1
            clear k1
            refine ⟨fun _ => HH, ?_⟩
            refine dx_one (i := 6) (by kernel_rfl) ?_
            refine op_ef0 (i := 6) HF rfl rfl (ef_store HS sz38 rfl rfl rfl) ?_; clear HS; rintro _ w HS
            refine ⟨fun h => absurd h (by decide), ?_⟩
            refine dx_done (by kernel_rfl) ?_
            clear HH
            refine then_n ?_
            refine dx_region 7 (by kernel_rfl) HS.drew (fun _ h => h) ?_; clear HS; intro w HS
            have HH := HS
            refine dx_k (i := 0) HF rfl (by kernel_rfl) (by kernel_rfl) (by kernel_rfl) (by kernel_rfl) (by kernel_rfl) (fun _ _ _ h => h) HH (ld_ag ag38 rfl rfl) rfl rfl ?_; clear HF ac; intro ac HF
            refine dx_p (i := 1) HF rfl (by kernel_rfl) (by kernel_rfl) (by kernel_rfl) (by decide) (fun _ _ _ h => h) (fun _ => HH) (yl_move rfl) rfl rfl ?_; clear HF ac; intro ac HF
            refine dx_p (i := 2) HF rfl (by kernel_rfl) (by kernel_rfl) (by kernel_rfl) (by decide) (fun _ _ _ h => h) (fun _ => HH) (yl_move rfl) rfl rfl ?_; clear HF ac; intro ac HF
            refine dx_p (i := 3) HF rfl (by kernel_rfl) (by kernel_rfl) (by kernel_rfl) (by decide) (fun _ _ _ h => h) (fun _ => HH) (ix_sl Tryd.underlying25 sz38 rfl rfl (by omega) hr.nil0) rfl rfl ?_; clear HF ac; intro ac HF
            refine dx_k (i := 4) HF rfl (by kernel_rfl) (by kernel_rfl) (by kernel_rfl) (by kernel_rfl) (by kernel_rfl) (fun _ _ _ h => h) HH (ld_elH ag38 rfl hlk (fun w h => hr.below h.kp)) rfl rfl ?_; clear HF ac; intro ac HF
            refine dx_p (i := 5) HF rfl (by kernel_rfl) (by kernel_rfl) (by kernel_rfl) (by decide) (fun _ _ _ h => h) (fun _ => HH) (yl_move rfl) rfl rfl ?_; clear HF ac; intro ac HF
            refine dx_one (i := 6) (by kernel_rfl) ?_
            refine op_call (i := 6) HF rfl Tryd.func33 (by kernel_rfl) (by kernel_rfl) rfl (join_any s p _ w (hL.below HS.kp) (Nat.le_trans h2 HS.kp.size)) rfl rfl ?_; clear HF ac
            rintro _ w ⟨rfl, k1⟩
            refine ⟨_, rfl, fun ac HF => ?_⟩
            replace HH := HH.call k1
            replace HS := HS.call k1
            clear k1
            refine ⟨fun _ => HH, ?_⟩
            refine dx_one (i := 7) (by kernel_rfl) ?_
            refine op_ef0 (i := 7) HF rfl rfl (ef_store HS sz38 rfl rfl rfl) ?_; clear HS; rintro _ w HS
            refine ⟨fun h => absurd h (by decide), ?_⟩
            refine dx_done (by kernel_rfl) ?_
            clear HH
            refine blk_n ?_
            refine then_n ?_
            refine wp_region_lit ?_
            refine sx_y HF HS (yl_add64 (r := ((k + 1 : Nat) : Int)) rfl rfl (by omega) (by omega)) rfl rfl ?_; clear HF ac; intro ac HF
            refine sx_y HF HS (yl_move rfl) rfl rfl ?_; clear HF ac; intro ac HF
            refine wpList_nil ?_
            refine then_n ?_
            refine ⟨_, ?_, k + 1, _, _, by omega, hfa, hfs, rfl, HF.sub (by repeat (first | exact ag_nil | refine ag_cons rfl ?_)), HS⟩
            omega
          · subst hc14
            refine wp_skip ?_
            refine then_n ?_
            refine dx_region 7 (by kernel_rfl) HS.drew (fun _ h => h) ?_; clear HS; intro w HS
            have HH := HS
            refine dx_k (i := 0) HF rfl (by kernel_rfl) (by kernel_rfl) (by kernel_rfl) (by kernel_rfl) (by kernel_rfl) (fun _ _ _ h => h) HH (ld_ag ag38 rfl rfl) rfl rfl ?_; clear HF ac; intro ac HF
            refine dx_p (i := 1) HF rfl (by kernel_rfl) (by kernel_rfl) (by kernel_rfl) (by decide) (fun _ _ _ h => h) (fun _ => HH) (yl_move rfl) rfl rfl ?_; clear HF ac; intro ac HF
            refine dx_p (i := 2) HF rfl (by kernel_rfl) (by kernel_rfl) (by kernel_rfl) (by decide) (fun _ _ _ h => h) (fun _ => HH) (yl_move rfl) rfl rfl ?_; clear HF ac; intro ac HF
            refine dx_p (i := 3) HF rfl (by kernel_rfl) (by kernel_rfl) (by kernel_rfl) (by decide) (fun _ _ _ h => h) (fun _ => HH) (ix_sl Tryd.underlying25 sz38 rfl rfl (by omega) hr.nil0) rfl rfl ?_; clear HF ac; intro ac HF
            refine dx_k (i := 4) HF rfl (by kernel_rfl) (by kernel_rfl) (by kernel_rfl) (by kernel_rfl) (by kernel_rfl) (fun _ _ _ h => h) HH (ld_elH ag38 rfl hlk (fun w h => hr.below h.kp)) rfl rfl ?_; clear HF ac; intro ac HF
            refine dx_p (i := 5) HF rfl (by kernel_rfl) (by kernel_rfl) (by kernel_rfl) (by decide) (fun _ _ _ h => h) (fun _ => HH) (yl_move rfl) rfl rfl ?_; clear HF ac; intro ac HF
            refine dx_one (i := 6) (by kernel_rfl) ?_
            refine op_call (i := 6) HF rfl Tryd.func33 (by kernel_rfl) (by kernel_rfl) rfl (join_any s p _ w (hL.below HS.kp) (Nat.le_trans h2 HS.kp.size)) rfl rfl ?_; clear HF ac
            rintro _ w ⟨rfl, k1⟩
            refine ⟨_, rfl, fun ac HF => ?_⟩
            replace HH := HH.call k1
            replace HS := HS.call k1
            clear k1
            refine ⟨fun _ => HH, ?_⟩
            refine dx_one (i := 7) (by kernel_rfl) ?_
            refine op_ef0 (i := 7) HF rfl rfl (ef_store HS sz38 rfl rfl rfl) ?_; clear HS; rintro _ w HS
            refine ⟨fun h => absurd h (by decide), ?_⟩
            refine dx_done (by kernel_rfl) ?_
            clear HH
            refine blk_n ?_
            refine then_n ?_
            refine wp_region_lit ?_
            refine sx_y HF HS (yl_add64 (r := ((k + 1 : Nat) : Int)) rfl rfl (by omega) (by omega)) rfl rfl ?_; clear HF ac; intro ac HF
            refine sx_y HF HS (yl_move rfl) rfl rfl ?_; clear HF ac; intro ac HF
            refine wpList_nil ?_
            refine then_n ?_
            refine ⟨_, ?_, k + 1, _, _, by omega, hfa, hfs, rfl, HF.sub (by repeat (first | exact ag_nil | refine ag_cons rfl ?_)), HS⟩
            omega
        · obtain rfl : k = sd.length := by omega
          rw [List.drop_length, List.drop_eq_nil_of_le (by omega)] at hfa hfs
          refine wpList_nil ?_
          refine then_n ?_
          refine wp_seq ?_
          refine cx_false HF rfl ?_
          refine wp_exit ?_
          refine then_x ?_
          refine then_x ?_
          refine blk_hit ?_
          refine then_n ?_
          refine wp_seq ?_
          refine dx_region 2 (by kernel_rfl) HS.drew (fun _ h => h) ?_; clear HS; intro w HS
          have HH := HS
          refine dx_k (i := 0) HF rfl (by kernel_rfl) (by kernel_rfl) (by kernel_rfl) (by kernel_rfl) (by kernel_rfl) (fun _ _ _ h => h) HH (ld_ag ag38 rfl rfl) rfl rfl ?_; clear HF ac; intro ac HF
          refine dx_two (i := 1) (j := 2) (by kernel_rfl) ?_ ?_
          · refine op_y (i := 1) HF rfl rfl rfl HS (ld_ag ag38 rfl rfl) ?_; clear HF ac; intro ac HF
            refine ⟨fun _ => HH, ?_⟩
            refine dx_one (i := 2) (by kernel_rfl) ?_
            refine op_ef0 (i := 2) HF rfl rfl (ef_store HS sz38 rfl rfl rfl) ?_; clear HS; rintro _ w HS
            refine ⟨fun h => absurd h (by decide), ?_⟩
            refine dx_one (i := 3) (by kernel_rfl) ?_
            refine op_ef0 (i := 3) HF rfl rfl (ef_store HS sz38 rfl rfl rfl) ?_; clear HS; rintro _ w HS
            refine ⟨fun h => absurd h (by decide), ?_⟩
            refine dx_p (i := 4) HF rfl (by kernel_rfl) (by kernel_rfl) (by kernel_rfl) (by decide) (fun _ _ _ h => h) (fun h => absurd h (by decide)) (yl_assign rfl) rfl rfl ?_; clear HF ac; intro ac HF
            refine dx_done (by kernel_rfl) ?_
            clear HH
            refine then_n ?_
            refine wp_ret ?_
            exact rt3 rfl HF HS ⟨⟨_, rfl⟩, ld_ag ag38 rfl rfl⟩ ⟨⟨_, rfl⟩, ld_ag ag38 rfl rfl⟩ rfl ⟨by
              rw [hc4, stepsR_some hK, ← hfa, ← hfs]; rfl, HS.kp⟩
          · refine op_ef0 (i := 2) HF rfl rfl (ef_store HS sz38 rfl rfl rfl) ?_; clear HS; rintro _ w HS
            refine ⟨fun h => absurd h (by decide), ?_⟩
            refine dx_one (i := 1) (by kernel_rfl) ?_
            refine op_y (i := 1) HF rfl rfl rfl HS (ld_ag ag38 rfl rfl) ?_; clear HF ac; intro ac HF
            refine ⟨fun h => absurd h (by decide), ?_⟩
            refine dx_one (i := 3) (by kernel_rfl) ?_
            refine op_ef0 (i := 3) HF rfl rfl (ef_store HS sz38 rfl rfl rfl) ?_; clear HS; rintro _ w HS
            refine ⟨fun h => absurd h (by decide), ?_⟩
            refine dx_p (i := 4) HF rfl (by kernel_rfl) (by kernel_rfl) (by kernel_rfl) (by decide) (fun _ _ _ h => h) (fun h => absurd h (by decide)) (yl_assign rfl) rfl rfl ?_; clear HF ac; intro ac HF
            refine dx_done (by kernel_rfl) ?_
            clear HH
            refine then_n ?_
            refine wp_ret ?_
            exact rt3 rfl HF HS ⟨⟨_, rfl⟩, ld_ag ag38 rfl rfl⟩ ⟨⟨_, rfl⟩, ld_ag ag38 rfl rfl⟩ rfl ⟨by
              rw [hc4, stepsR_some hK, ← hfa, ← hfs]; rfl, HS.kp⟩
end Go.Proofs.YtkjdnpalafldhaaDoor
