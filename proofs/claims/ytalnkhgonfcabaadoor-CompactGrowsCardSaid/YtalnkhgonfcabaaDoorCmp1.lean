/-
  compact: the range as it lies in memory; New, Size, Peaks, one, Append. (Printed by sx_cmp1.py.)
-/
import Derived.Test.YtalnkhgonfcabaaDoorSy
import Derived.Test.YtalnkhgonfcabaaDoorTz
import Derived.Test.YtalnkhgonfcabaaDoorPeak
namespace Go.Proofs.YtalnkhgonfcabaaDoor
open Go.RowKit

/-! ### Types -/
namespace Cmp1
theorem ag33 : AgT Tryd.prog 33 32 := AgT.mk' Tryd.underlying33 rfl (by kernel_rfl)
theorem fd101x0 : FdT Tryd.prog 101 0 0 := FdT.mk' (k := 0) Tryd.underlying101 (by kernel_rfl)
theorem fd101x1 : FdT Tryd.prog 101 1 1 := FdT.mk' (k := 0) Tryd.underlying101 (by kernel_rfl)
theorem sc3 : ScT Tryd.prog 3 := ScT.mk' Tryd.underlying3 rfl (by kernel_rfl)
theorem sc22 : ScT Tryd.prog 22 := ScT.mk' Tryd.underlying22 rfl (by kernel_rfl)
theorem sl22 : SlT Tryd.prog 22 33 Tryd.t33 (hv zeroH) 32 32 := ⟨Tryd.underlying22, by kernel_rfl, by kernel_rfl, rfl, rfl, hvA_size _, by decide⟩
theorem sz3 : (Tryd.prog.info? 3).map (·.size) = some 1 := by kernel_rfl
theorem sz22 : (Tryd.prog.info? 22).map (·.size) = some 1 := by kernel_rfl
theorem sz33 : (Tryd.prog.info? 33).map (·.size) = some 32 := by kernel_rfl
theorem ze101 : ZeS Tryd.prog 101 [(1, .int .i64 0), (1, .slice none 0 0)] := ⟨.agg _, ZeT.mk' (by kernel_rfl), rfl⟩
end Cmp1
open Go.Proofs.YtalnkhgonfcabaaDoor.Cmp1

/-- A Range, part by part. -/
abbrev rgS (n : Int) (a : Option Addr) (k c : Nat) : List (Nat × Value) := [(1, .int .i64 n), (1, .slice a k c)]
/-- A Range in memory: so many leaves, these peaks. -/
structure RgA (w : World) (g n : Nat) (ps : List Hsh) (a : Option Addr) (c : Nat) : Prop where
  b : w.heap[g]? = some (.cells (sgA (rgS n a ps.length c)) 101 (0, 0))
  r : w.ownsRow 0 33 32 (.slice a ps.length c) ps.length (hsc ps)
theorem RgA.st {w : World} {g n : Nat} {ps : List Hsh} {a : Option Addr} {c : Nat} (h : RgA w g n ps a c) : St (ids [⟨g, sgA (rgS n a ps.length c), 101⟩] [⟨33, 32, a, ps.length, c, hsc ps⟩]) w [⟨g, sgA (rgS n a ps.length c), 101⟩] [⟨33, 32, a, ps.length, c, hsc ps⟩] w := St.ofObj h.b h.r (by decide)
theorem RgA.of {F : List Nat} {w0 w : World} {L : List Bk} {R : List Rw} {g n : Nat} {ps : List Hsh} {a : Option Addr} {c : Nat} (h : St F w0 (⟨g, sgA (rgS n a ps.length c), 101⟩ :: L) (⟨33, 32, a, ps.length, c, hsc ps⟩ :: R) w) : RgA w g n ps a c := ⟨h.blk _ List.mem_cons_self, h.row _ List.mem_cons_self⟩
theorem RgA.rd {w : World} {g n : Nat} {ps : List Hsh} {a : Option Addr} {c : Nat} (h : RgA w g n ps a c) : Rd w a ps.length c 32 (hsc ps) := own_rd h.r
theorem RgA.kept {F : List Nat} {w w' : World} {g n : Nat} {ps : List Hsh} {a : Option Addr} {c : Nat} (h : RgA w g n ps a c) (k : Kp F w w') (hF : ∀ x ∈ F, x ≠ g ∧ x ∉ aF a) : RgA w' g n ps a c :=
  ⟨by rw [k.block g (Array.getElem?_eq_some_iff.1 h.b).1 (fun hh => (hF g hh).1 rfl)]; exact h.b, own_kept h.r k (by rw [rowF_slice]; exact fun x hx hh => (hF x hh).2 hx)⟩
/-- Carried along so many times. -/
def carryT : Nat → List Hsh → Hsh → List Hsh
  | 0, ps, h => ps ++ [h]
  | t + 1, ps, h => carryT t ps.dropLast (nodeH (ps.getLast?.getD zeroH) h)
theorem carry_T : ∀ (f n : Nat) (ps : List Hsh) (h : Hsh), carry f n ps h = carryT (tons f n) ps h
  | 0, _, _, _ => rfl
  | f + 1, n, ps, h => by
    rw [carry, tons]
    by_cases ho : n % 2 = 1
    · rw [if_pos ho, if_pos ho, carry_T f, Nat.add_comm 1, carryT]
    · rw [if_neg ho, if_neg ho, carryT]
theorem tons_more : ∀ (f g n : Nat), n ≤ f → n ≤ g → tons f n = tons g n
  | 0, 0, _, _, _ => rfl
  | 0, g + 1, n, h, _ => by rw [tons, tons, if_neg (by omega)]
  | f + 1, 0, n, _, h => by rw [tons, tons, if_neg (by omega)]
  | f + 1, g + 1, n, h, h' => by
    rw [tons, tons]
    by_cases ho : n % 2 = 1
    · rw [if_pos ho, if_pos ho, tons_more f g (n / 2) (by omega) (by omega)]
    · rw [if_neg ho, if_neg ho]
theorem tons_pow : ∀ (f g n : Nat), n < 2 ^ f → f ≤ g → tons g n = tons f n
  | 0, g, n, h, _ => by
    obtain rfl : n = 0 := by simpa using h
    cases g <;> rfl
  | f + 1, 0, n, _, h => by omega
  | f + 1, g + 1, n, h, hg => by
    have e := Nat.pow_succ' (m := f) (n := 2)
    rw [tons, tons]
    by_cases ho : n % 2 = 1
    · rw [if_pos ho, if_pos ho, tons_pow f g (n / 2) (by omega) (by omega)]
    · rw [if_neg ho, if_neg ho]
/-- A leaf more, by the ones at the number's end. -/
theorem peaks_T (l : List Hsh) (h : Hsh) (hb : l.length < 9223372036854775807) : peaksOf (l ++ [h]) = carryT (tons 64 l.length) (peaksOf l) h := by
  rw [peaks_snoc l h hb, carry_T]
  have h1 : l.length < 2 ^ l.length := Nat.lt_two_pow_self
  rcases Nat.le_total l.length 64 with hle | hle
  · rw [tons_pow l.length 64 l.length h1 hle]
  · rw [tons_pow 64 l.length l.length (by omega) hle]
theorem carryT_len : ∀ (t : Nat) (ps : List Hsh) (h : Hsh), t ≤ ps.length → (carryT t ps h).length + t = ps.length + 1
  | 0, ps, h, _ => by rw [carryT, List.length_append]; rfl
  | t + 1, ps, h, hl => by
    rw [carryT]
    have := carryT_len t ps.dropLast (nodeH (ps.getLast?.getD zeroH) h) (by rw [List.length_dropLast]; omega)
    rw [List.length_dropLast] at this
    omega
/-- How many peaks so many leaves have. -/
theorem tons_pop : ∀ (f n : Nat), n < 2 ^ f → pop (n + 1) + tons f n = pop n + 1
  | 0, n, h => by obtain rfl : n = 0 := by simpa using h
                  rfl
  | f + 1, n, h => by
    have e := Nat.pow_succ' (m := f) (n := 2)
    rw [tons, pop_step (n + 1), pop_step n]
    by_cases ho : n % 2 = 1
    · rw [if_pos ho, show (n + 1) % 2 = 0 by omega, show (n + 1) / 2 = n / 2 + 1 by omega]
      have := tons_pop f (n / 2) (by omega)
      omega
    · rw [if_neg ho, show (n + 1) % 2 = 1 by omega, show (n + 1) / 2 = n / 2 by omega]; omega
theorem tons_le (n : Nat) (h : n < 18446744073709551616) : tons 64 n ≤ pop n := by
  have h1 := tons_pop 64 n (by omega)
  have h2 : 1 ≤ pop (n + 1) := by
    rcases Nat.eq_zero_or_pos (pop (n + 1)) with h0 | h0
    · exfalso
      have key : ∀ (f x : Nat), x ≤ f → pop x = 0 → x = 0 := by
        intro f
        induction f with
        | zero => intro x hx _; omega
        | succ f ih =>
          intro x hx h0
          rw [pop_step] at h0
          have := ih (x / 2)
          by_cases hz : x = 0
          · exact hz
          · have := this (by omega) (by omega)
            omega
      have := key (n + 1) (n + 1) (Nat.le_refl _) h0
      omega
    · exact h0
  omega

set_option maxRecDepth 100000 in
theorem new9_any (w0 : World) :
    Calls Tryd.prog 16 #[] w0 fun e w' => ∃ g, e = .returned (.pointer (some ⟨g, 0, none⟩)) ∧ St [] w0 [⟨g, sgA (rgS ((0 : Nat) : Int) none 0 0), 101⟩] [⟨33, 32, none, 0, 0, []⟩] w' := by
  refine calls_st (F := []) (args := []) Tryd.func16 rfl (n := 3) rfl rfl ?_
  intro ac w HF HS
  refine wp_seq ?_
  refine wp_region_lit ?_
  refine sx_y HF HS (yl_assign rfl) rfl rfl ?_; clear HF ac; intro ac HF
  refine wpList_nil ?_
  refine then_n ?_
  refine wp_seq ?_
  refine wp_region_lit ?_
  refine sx_y HF HS (bd_st (parts := #[]) Tryd.underlying101 (by kernel_rfl) ze101 evs_nil (pl := [(0, 1), (1, 1)]) (by kernel_rfl) (szs := []) rfl (inferInstance : SgW []) rfl) rfl rfl ?_; clear HF ac; intro ac HF
  refine sx_ef HF (ef_boxs HS rfl) rfl rfl ?_; clear HF HS ac; rintro _ w ac ⟨g2, rfl, HS⟩ HF
  refine sx_y HF HS (yl_assign rfl) rfl rfl ?_; clear HF ac; intro ac HF
  refine wpList_nil ?_
  refine then_n ?_
  refine wp_ret ?_
  exact rt1 rfl HF HS rfl ⟨g2, rfl, HS.nilRow 33 32⟩

set_option maxRecDepth 100000 in
theorem size9_any (g : Nat) (n : Int) (a : Option Addr) (k c : Nat) (w0 : World) (hg : w0.heap[g]? = some (.cells (sgA (rgS n a k c)) 101 (0, 0))) :
    Calls Tryd.prog 20 #[.pointer (some ⟨g, 0, none⟩)] w0 fun e w' => e = .returned (.int .i64 n) ∧ Kp [] w0 w' := by
  refine calls_stL (args := [.pointer (some ⟨g, 0, none⟩)]) (St.ofBlk hg) Tryd.func20 rfl (n := 7) rfl rfl ?_
  intro ac w HF HS
  refine wp_seq ?_
  refine wp_region_lit ?_
  refine sx_y HF HS (yl_assign rfl) rfl rfl ?_; clear HF ac; intro ac HF
  refine wpList_nil ?_
  refine then_n ?_
  refine wp_seq ?_
  refine wp_region_lit ?_
  refine sx_y HF HS (yl_move rfl) rfl rfl ?_; clear HF ac; intro ac HF
  refine sx_y HF HS (yl_nilCheck rfl) rfl rfl ?_; clear HF ac; intro ac HF
  refine sx_y HF HS (fa_st fd101x0 rfl) rfl rfl ?_; clear HF ac; intro ac HF
  refine sx_y HF HS (ld_sc sc3 rfl rfl rfl) rfl rfl ?_; clear HF ac; intro ac HF
  refine sx_y HF HS (yl_assign rfl) rfl rfl ?_; clear HF ac; intro ac HF
  refine wpList_nil ?_
  refine then_n ?_
  refine wp_ret ?_
  exact rt1 rfl HF HS rfl ⟨rfl, kp_own1 HS hg⟩

set_option maxRecDepth 100000 in
theorem cloneH_nil (a : Option Addr) (c : Nat) (l : List Hsh) (w0 : World) (hr : Rd w0 a l.length c 32 (hsc l)) (hn : a.isNone = true) :
    Calls Tryd.prog 71 #[.slice a l.length c] w0 fun e w' => ∃ a' c', e = .returned (.slice a' l.length c') ∧ St [] w0 [] [⟨33, 32, a', l.length, c', hsc l⟩] w' := by
  refine calls_st (F := []) (args := [.slice a l.length c]) Tryd.func71 rfl (n := 8) rfl rfl ?_
  intro ac w HF HS
  refine wp_seq ?_
  refine wp_region_lit ?_
  refine sx_y HF HS (yl_assign rfl) rfl rfl ?_; clear HF ac; intro ac HF
  refine wpList_nil ?_
  refine then_n ?_
  refine wp_seq ?_
  refine wp_seq ?_
  refine wp_region_lit ?_
  refine sx_y HF HS (yl_move rfl) rfl rfl ?_; clear HF ac; intro ac HF
  refine sx_y HF HS (yl_eqNil Tryd.underlying22 rfl rfl (by exact hn)) rfl rfl ?_; clear HF ac; intro ac HF
  refine wpList_nil ?_
  refine then_n ?_
  refine cx_true HF rfl ?_
  refine wp_seq ?_
  refine wp_region_lit ?_
  refine sx_y HF HS (yl_assign rfl) rfl rfl ?_; clear HF ac; intro ac HF
  refine wpList_nil ?_
  refine then_n ?_
  refine wp_ret ?_
  refine then_r ?_
  have hl0 : l.length = 0 := hr.nil0 (Option.isNone_iff_eq_none.1 hn)
  obtain rfl := List.eq_nil_of_length_eq_zero hl0
  exact rt1 rfl HF HS rfl ⟨none, 0, rfl, HS.nilRow 33 32⟩

set_option maxRecDepth 100000 in
theorem cloneH_some (a : Option Addr) (c : Nat) (l : List Hsh) (w0 : World) (hr : Rd w0 a l.length c 32 (hsc l)) (hl : l.length ≤ 1099511627776) (hn : a.isNone = false) :
    Calls Tryd.prog 71 #[.slice a l.length c] w0 fun e w' => ∃ a' c', e = .returned (.slice a' l.length c') ∧ St [] w0 [] [⟨33, 32, a', l.length, c', hsc l⟩] w' := by
  refine calls_st (F := []) (args := [.slice a l.length c]) Tryd.func71 rfl (n := 8) rfl rfl ?_
  intro ac w HF HS
  refine wp_seq ?_
  refine wp_region_lit ?_
  refine sx_y HF HS (yl_assign rfl) rfl rfl ?_; clear HF ac; intro ac HF
  refine wpList_nil ?_
  refine then_n ?_
  refine wp_seq ?_
  refine wp_seq ?_
  refine wp_region_lit ?_
  refine sx_y HF HS (yl_move rfl) rfl rfl ?_; clear HF ac; intro ac HF
  refine sx_y HF HS (yl_eqNil Tryd.underlying22 rfl rfl (by exact hn)) rfl rfl ?_; clear HF ac; intro ac HF
  refine wpList_nil ?_
  refine then_n ?_
  refine cx_false HF rfl ?_
  refine wp_skip ?_
  refine then_n ?_
  refine wp_seq ?_
  refine wp_region_lit ?_
  refine sx_ef HF (ef_lit (n := 0) HS sl22 (parts := #[]) evs_nil rfl rfl (s := []) rfl (by simp)) rfl rfl ?_; clear HF HS ac; rintro _ w ac ⟨g5, rfl, HS⟩ HF
  replace HS := HS.toRow (n := 0) (size := 32) (ys := []) rfl (by decide) rfl
  refine sx_y HF HS (yl_move rfl) rfl rfl ?_; clear HF ac; intro ac HF
  refine sx_ef HF (ef_append HS sl22 rfl rfl (hr.below HS.kp) (hsc_one l) (Nat.zero_add _) (by omega) (List.nil_append _)) rfl rfl ?_; clear HF HS ac; rintro _ w ac ⟨a7, c7, rfl, HS⟩ HF
  refine sx_y HF HS (yl_assign rfl) rfl rfl ?_; clear HF ac; intro ac HF
  refine wpList_nil ?_
  refine then_n ?_
  refine wp_ret ?_
  exact rt1 rfl HF HS rfl ⟨_, _, rfl, HS⟩

theorem cloneH_any (a : Option Addr) (c : Nat) (l : List Hsh) (w0 : World) (hr : Rd w0 a l.length c 32 (hsc l)) (hl : l.length ≤ 1099511627776) :
    Calls Tryd.prog 71 #[.slice a l.length c] w0 fun e w' => ∃ a' c', e = .returned (.slice a' l.length c') ∧ St [] w0 [] [⟨33, 32, a', l.length, c', hsc l⟩] w' := by
  by_cases hn : a.isNone = true
  · exact cloneH_nil a c l w0 hr hn
  · exact cloneH_some a c l w0 hr hl (by cases a <;> simp_all)

set_option maxRecDepth 100000 in
theorem peaks9_any (g n : Nat) (ps : List Hsh) (a : Option Addr) (c : Nat) (w0 : World) (h : RgA w0 g n ps a c) (hl : ps.length ≤ 1099511627776) :
    Calls Tryd.prog 22 #[.pointer (some ⟨g, 0, none⟩)] w0 fun e w' => ∃ a' c', e = .returned (.slice a' ps.length c') ∧ St [] w0 [] [⟨33, 32, a', ps.length, c', hsc ps⟩] w' := by
  refine calls_stL (args := [.pointer (some ⟨g, 0, none⟩)]) (St.ofBlk h.b) Tryd.func22 rfl (n := 8) rfl rfl ?_
  intro ac w HF HS
  refine wp_seq ?_
  refine wp_region_lit ?_
  refine sx_y HF HS (yl_assign rfl) rfl rfl ?_; clear HF ac; intro ac HF
  refine wpList_nil ?_
  refine then_n ?_
  refine wp_seq ?_
  refine wp_region_lit ?_
  refine sx_y HF HS (yl_move rfl) rfl rfl ?_; clear HF ac; intro ac HF
  refine sx_y HF HS (yl_nilCheck rfl) rfl rfl ?_; clear HF ac; intro ac HF
  refine sx_y HF HS (fa_st fd101x1 rfl) rfl rfl ?_; clear HF ac; intro ac HF
  refine sx_y HF HS (ld_sc sc22 rfl rfl rfl) rfl rfl ?_; clear HF ac; intro ac HF
  refine sx_call HF Tryd.func71 (by kernel_rfl) (by kernel_rfl) (evs_cons rfl evs_nil) (cloneH_any a c ps w (h.rd.below (kp_own1 HS h.b)) hl) rfl rfl ?_; clear HF ac
  rintro _ w ⟨a1, c1, rfl, k1⟩
  refine ⟨_, rfl, fun ac HF => ?_⟩
  replace HS := HS.joinR1 k1
  clear k1
  refine sx_y HF HS (yl_assign rfl) rfl rfl ?_; clear HF ac; intro ac HF
  refine wpList_nil ?_
  refine then_n ?_
  refine wp_ret ?_
  exact rt1 rfl HF HS rfl ⟨_, _, rfl, St.own1 (L := []) (b := ⟨g, _, _⟩) HS (kp_own1 HS h.b)⟩

set_option maxRecDepth 100000 in
set_option maxHeartbeats 1000000 in
theorem one9_any (g n : Nat) (ps : List Hsh) (a : Option Addr) (c : Nat) (h : Hsh) (w0 : World) (hg : RgA w0 g n ps a c) (hn : n ≤ 4611686018427387904) (hl : tons 64 n ≤ ps.length) (hps : ps.length ≤ 1099511627776) (hF4 : ∀ x ∈ ids [⟨g, sgA (rgS n a ps.length c), 101⟩] [⟨33, 32, a, ps.length, c, hsc ps⟩], 4 ≤ x) (hT : Tab w0) (hL : Laid w0) (h2 : 4 ≤ w0.heap.size) :
    Calls Tryd.prog 68 #[.pointer (some ⟨g, 0, none⟩), hv h] w0 fun e w' => e = .returned (.tuple #[]) ∧ ∃ a' c', St (ids [⟨g, sgA (rgS n a ps.length c), 101⟩] [⟨33, 32, a, ps.length, c, hsc ps⟩]) w0 [⟨g, sgA (rgS ((n + 1 : Nat) : Int) a' (carryT (tons 64 n) ps h).length c'), 101⟩] [⟨33, 32, a', (carryT (tons 64 n) ps h).length, c', hsc (carryT (tons 64 n) ps h)⟩] w' := by
  obtain ⟨Fo, hFF⟩ : ∃ F, F = ids [⟨g, sgA (rgS n a ps.length c), 101⟩] [⟨33, 32, a, ps.length, c, hsc ps⟩] := ⟨_, rfl⟩
  have HS0 := hg.st
  rw [← hFF] at HS0 hF4 ⊢
  have hFo := hF4
  obtain ⟨t, ht⟩ : ∃ t, t = tons 64 n := ⟨_, rfl⟩
  rw [← ht] at hl
  refine calls_stL (args := [.pointer (some ⟨g, 0, none⟩), hv h]) (HS0) Tryd.func68 rfl (n := 56) rfl rfl ?_
  intro ac w HF HS
  refine wp_seq ?_
  refine wp_region_lit ?_
  refine sx_ef HF (ef_box (n := 32) HS rfl) rfl rfl ?_; clear HF HS ac; rintro _ w ac ⟨g3, rfl, HS⟩ HF
  refine wpList_nil ?_
  refine then_n ?_
  refine wp_seq ?_
  refine wp_seq ?_
  refine wp_region_lit ?_
  refine sx_y HF HS (yl_move rfl) rfl rfl ?_; clear HF ac; intro ac HF
  refine sx_y HF HS (yl_nilCheck rfl) rfl rfl ?_; clear HF ac; intro ac HF
  refine sx_y HF HS (fa_st fd101x0 rfl) rfl rfl ?_; clear HF ac; intro ac HF
  refine sx_y HF HS (ld_sc sc3 rfl rfl rfl) rfl rfl ?_; clear HF ac; intro ac HF
  refine sx_y HF HS (yl_iconvN rfl (by kernel_rfl) Tryd.underlying120 (wrap_u64n (by omega))) rfl rfl ?_; clear HF ac; intro ac HF
  refine sx_y HF HS (yl_com64 (by omega) rfl) rfl rfl ?_; clear HF ac; intro ac HF
  refine sx_call HF Tryd.func111 (by kernel_rfl) (by kernel_rfl) (evs_cons rfl evs_nil) (tzc_any n (by omega) w (hT.kept HS.kp hFo)) rfl rfl ?_; clear HF ac
  rintro _ w ⟨rfl, rfl⟩
  refine ⟨_, rfl, fun ac HF => ?_⟩
  refine sx_y HF HS (yl_move rfl) rfl rfl ?_; clear HF ac; intro ac HF
  refine wpList_nil ?_
  refine then_n ?_
  refine wp_block ?_
  rw [← ht] at HF
  replace HF := HF.sub (m' := [(0, _), (3, _), (11, _), (12, _)]) (by repeat (first | exact ag_nil | refine ag_cons rfl ?_))
  refine cx_loop (m := [(0, _), (3, _), (11, _)]) (HF.sub (by repeat (first | exact ag_nil | refine ag_cons rfl ?_))) (fun m d ac w => ∃ (i : Nat) (qs : List Hsh) (x : Hsh), i ≤ t ∧ t ≤ i + qs.length ∧ qs.length ≤ 1099511627776 ∧ carryT (t - i) qs x = (carryT (tons 64 n) ps h) ∧ d = t - i ∧ Fr ([(12, .int .i64 (i : Int))] ++ m) 56 ac ∧ St Fo w0 [⟨g3, sgA [(32, hv x)], 33⟩, ⟨g, sgA (rgS n a qs.length c), 101⟩] [⟨33, 32, a, qs.length, c, hsc qs⟩] w) ?_ ?_
  · exact ⟨_, 0, ps, h, Nat.zero_le _, by omega, hps, by rw [ht]; rfl, rfl, HF.sub (by repeat (first | exact ag_nil | refine ag_cons rfl ?_)), HS⟩
  · clear HF HS ac w
    rintro d ac w ⟨i, qs, x, hi0, hil, hqs, hqe, rfl, HF, HS⟩
    refine wp_seq ?_
    refine wp_region_lit ?_
    refine sx_dec HF HS (yl_lss rfl rfl rfl) rfl rfl ?_ ?_ <;> clear HF ac <;> intro h2x0 ac HF
    · have hi : i + 1 ≤ t := by omega
      have hq1 : 1 ≤ qs.length := by omega
      have hx : qs[qs.length - 1]? = some (qs.getLast?.getD zeroH) := by rw [List.getLast?_eq_getElem?, List.getElem?_eq_getElem (by omega)]; rfl
      have hlast : (qs.getLast?.getD zeroH) = (qs.getLast?.getD zeroH) := rfl
      have hlt : (qs.take (qs.length - 1)).length = qs.length - 1 := by rw [List.length_take]; omega
      refine wpList_nil ?_
      refine then_n ?_
      refine wp_seq ?_
      refine cx_true HF rfl ?_
      refine wp_skip ?_
      refine then_n ?_
      refine wp_seq ?_
      refine wp_block ?_
      refine wp_seq ?_
      refine wp_region_lit ?_
      refine sx_y HF HS (yl_move rfl) rfl rfl ?_; clear HF ac; intro ac HF
      refine sx_y HF HS (yl_nilCheck rfl) rfl rfl ?_; clear HF ac; intro ac HF
      refine sx_y HF HS (fa_st fd101x1 rfl) rfl rfl ?_; clear HF ac; intro ac HF
      refine sx_y HF HS (ld_sc sc22 rfl rfl rfl) rfl rfl ?_; clear HF ac; intro ac HF
      refine sx_y HF HS (yl_len_slice Tryd.underlying22 rfl) rfl rfl ?_; clear HF ac; intro ac HF
      refine sx_y HF HS (yl_sub64 (r := ((qs.length - 1 : Nat) : Int)) rfl rfl (by omega) (by omega)) rfl rfl ?_; clear HF ac; intro ac HF
      refine sx_y HF HS (yl_assign rfl) rfl rfl ?_; clear HF ac; intro ac HF
      refine wpList_nil ?_
      refine then_n ?_
      refine wp_seq ?_
      refine dx_region 9 (by kernel_rfl) HS.drew (fun _ h => h) ?_; clear HS; intro w HS
      have HH := HS
      refine dx_p (i := 0) HF rfl (by kernel_rfl) (by kernel_rfl) (by kernel_rfl) (by decide) (fun _ _ _ h => h) (fun _ => HH) (yl_move rfl) rfl rfl ?_; clear HF ac; intro ac HF
      refine dx_p (i := 1) HF rfl (by kernel_rfl) (by kernel_rfl) (by kernel_rfl) (by decide) (fun _ _ _ h => h) (fun _ => HH) (yl_nilCheck rfl) rfl rfl ?_; clear HF ac; intro ac HF
      refine dx_p (i := 2) HF rfl (by kernel_rfl) (by kernel_rfl) (by kernel_rfl) (by decide) (fun _ _ _ h => h) (fun _ => HH) (fa_st fd101x1 rfl) rfl rfl ?_; clear HF ac; intro ac HF
      refine dx_k (i := 3) HF rfl (by kernel_rfl) (by kernel_rfl) (by kernel_rfl) (by kernel_rfl) (by kernel_rfl) (fun _ _ _ h => h) HH (ld_sc sc22 rfl rfl rfl) rfl rfl ?_; clear HF ac; intro ac HF
      refine dx_p (i := 4) HF rfl (by kernel_rfl) (by kernel_rfl) (by kernel_rfl) (by decide) (fun _ _ _ h => h) (fun _ => HH) (yl_move rfl) rfl rfl ?_; clear HF ac; intro ac HF
      refine dx_p (i := 5) HF rfl (by kernel_rfl) (by kernel_rfl) (by kernel_rfl) (by decide) (fun _ _ _ h => h) (fun _ => HH) (ix_sl (k := (qs.length - 1)) Tryd.underlying22 sz33 rfl rfl (by omega) HS.row0.nil0) rfl rfl ?_; clear HF ac; intro ac HF
      refine dx_k (i := 6) HF rfl (by kernel_rfl) (by kernel_rfl) (by kernel_rfl) (by kernel_rfl) (by kernel_rfl) (fun _ _ _ h => h) HH (ld_elH ag33 rfl hx (fun w h => h.row0)) rfl rfl ?_; clear HF ac; intro ac HF
      refine dx_k (i := 7) HF rfl (by kernel_rfl) (by kernel_rfl) (by kernel_rfl) (by kernel_rfl) (by kernel_rfl) (fun _ _ _ h => h) HH (ld_ag ag33 rfl rfl) rfl rfl ?_; clear HF ac; intro ac HF
      refine dx_one (i := 8) (by kernel_rfl) ?_
      refine op_call (i := 8) HF rfl Tryd.func37 (by kernel_rfl) (by kernel_rfl) (evs_cons rfl (evs_cons rfl evs_nil)) (node_any _ x w (hL.kept HS.kp hFo) (Nat.le_trans h2 HS.kp.size)) rfl rfl ?_; clear HF ac
      rintro _ w ⟨rfl, k1⟩
      refine ⟨_, rfl, fun ac HF => ?_⟩
      replace HH := HH.call k1
      replace HS := HS.call k1
      clear k1
      refine ⟨fun _ => HH, ?_⟩
      refine dx_one (i := 9) (by kernel_rfl) ?_
      refine op_ef0 (i := 9) HF rfl rfl (ef_store HS sz33 rfl rfl rfl) ?_; clear HS; rintro _ w HS
      refine ⟨fun h => absurd h (by decide), ?_⟩
      refine dx_done (by kernel_rfl) ?_
      clear HH
      refine then_n ?_
      refine wp_region_lit ?_
      refine sx_y HF HS (yl_move rfl) rfl rfl ?_; clear HF ac; intro ac HF
      refine sx_y HF HS (yl_move rfl) rfl rfl ?_; clear HF ac; intro ac HF
      refine sx_y HF HS (yl_nilCheck rfl) rfl rfl ?_; clear HF ac; intro ac HF
      refine sx_y HF HS (fa_st fd101x1 rfl) rfl rfl ?_; clear HF ac; intro ac HF
      refine sx_y HF HS (ld_sc sc22 rfl rfl rfl) rfl rfl ?_; clear HF ac; intro ac HF
      refine sx_y HF HS (yl_move rfl) rfl rfl ?_; clear HF ac; intro ac HF
      have hlm := HS.row0.lim
      refine sx_y HF HS (sl_hi (r := (qs.take (qs.length - 1)).length) Tryd.underlying22 sz33 rfl rfl (by omega) (by omega)) rfl rfl ?_; clear HF ac; intro ac HF
      refine sx_y HF HS (yl_nilCheck rfl) rfl rfl ?_; clear HF ac; intro ac HF
      refine sx_y HF HS (fa_st fd101x1 rfl) rfl rfl ?_; clear HF ac; intro ac HF
      refine sx_ef0 HF (ef_store HS sz22 rfl rfl rfl) rfl ?_; clear HS; rintro _ w HS
      replace HS := HS.cutH (e := 33) (a := a) (c := c) (s := qs) (m := qs.length - 1) (by omega)
      refine wpList_nil ?_
      refine blk_n ?_
      refine then_n ?_
      refine wp_region_lit ?_
      refine sx_y HF HS (yl_add64 rfl rfl rfl (by omega)) rfl rfl ?_; clear HF ac; intro ac HF
      refine sx_y HF HS (yl_move rfl) rfl rfl ?_; clear HF ac; intro ac HF
      refine wpList_nil ?_
      refine then_n ?_
      refine ⟨_, ?_, i + 1, qs.take (qs.length - 1), _, hi, by omega, by omega, ?_, rfl, HF.sub (by repeat (first | exact ag_nil | refine ag_cons rfl ?_)), HS⟩
      · omega
      · rw [← hqe, show t - i = t - (i + 1) + 1 by omega, carryT, List.dropLast_eq_take, hlast]
    · obtain rfl : i = t := by omega
      rw [Nat.sub_self] at hqe
      refine wpList_nil ?_
      refine then_n ?_
      refine wp_seq ?_
      refine cx_false HF rfl ?_
      refine wp_exit ?_
      refine then_x ?_
      refine then_x ?_
      refine blk_hit ?_
      refine then_n ?_
      refine wp_seq ?_
      refine dx_region 7 (by kernel_rfl) HS.drew (fun _ h => h) ?_; clear HS; intro w HS
      have HH := HS
      refine dx_p (i := 0) HF rfl (by kernel_rfl) (by kernel_rfl) (by kernel_rfl) (by decide) (fun _ _ _ h => h) (fun _ => HH) (yl_move rfl) rfl rfl ?_; clear HF ac; intro ac HF
      refine dx_p (i := 1) HF rfl (by kernel_rfl) (by kernel_rfl) (by kernel_rfl) (by decide) (fun _ _ _ h => h) (fun _ => HH) (yl_move rfl) rfl rfl ?_; clear HF ac; intro ac HF
      refine dx_p (i := 2) HF rfl (by kernel_rfl) (by kernel_rfl) (by kernel_rfl) (by decide) (fun _ _ _ h => h) (fun _ => HH) (yl_nilCheck rfl) rfl rfl ?_; clear HF ac; intro ac HF
      refine dx_p (i := 3) HF rfl (by kernel_rfl) (by kernel_rfl) (by kernel_rfl) (by decide) (fun _ _ _ h => h) (fun _ => HH) (fa_st fd101x1 rfl) rfl rfl ?_; clear HF ac; intro ac HF
      refine dx_k (i := 4) HF rfl (by kernel_rfl) (by kernel_rfl) (by kernel_rfl) (by kernel_rfl) (by kernel_rfl) (fun _ _ _ h => h) HH (ld_sc sc22 rfl rfl rfl) rfl rfl ?_; clear HF ac; intro ac HF
      refine dx_one (i := 5) (by kernel_rfl) ?_
      refine op_y (i := 5) HF rfl rfl rfl HS (ld_ag ag33 rfl rfl) ?_; clear HF ac; intro ac HF
      refine ⟨fun _ => HH, ?_⟩
      refine dx_one (i := 6) (by kernel_rfl) ?_
      refine op_ef (i := 6) HF rfl rfl rfl (ef_lit (n := 1) HS sl22 (parts := #[(0, .tmp 44)]) (evs_cons rfl evs_nil) rfl rfl (s := [(32, _)]) rfl (by simp)) ?_; clear HF HS ac; rintro _ w ac ⟨g45, rfl, HS⟩ HF
      replace HH := HS.d1
      refine ⟨fun _ => HH, ?_⟩
      refine dx_one (i := 7) (by kernel_rfl) ?_
      refine op_ef (i := 7) HF rfl rfl rfl (ef_append1 (n' := (qs ++ [x]).length) (ys := hsc (qs ++ [x])) HS sl22 rfl rfl rfl (by simp) (by simp; omega) (hsc_app1 _ _)) ?_; clear HF HS ac; rintro _ w ac ⟨a46, c46, rfl, HS⟩ HF
      refine ⟨fun h => absurd h (by decide), ?_⟩
      refine dx_p (i := 8) HF rfl (by kernel_rfl) (by kernel_rfl) (by kernel_rfl) (by decide) (fun _ _ _ h => h) (fun h => absurd h (by decide)) (yl_nilCheck rfl) rfl rfl ?_; clear HF ac; intro ac HF
      refine dx_p (i := 9) HF rfl (by kernel_rfl) (by kernel_rfl) (by kernel_rfl) (by decide) (fun _ _ _ h => h) (fun h => absurd h (by decide)) (fa_st fd101x1 rfl) rfl rfl ?_; clear HF ac; intro ac HF
      refine dx_one (i := 10) (by kernel_rfl) ?_
      refine op_ef0 (i := 10) HF rfl rfl (ef_store HS sz22 rfl rfl rfl) ?_; clear HS; rintro _ w HS
      refine ⟨fun h => absurd h (by decide), ?_⟩
      refine dx_done (by kernel_rfl) ?_
      clear HH
      refine then_n ?_
      refine wp_region_lit ?_
      refine sx_y HF HS (yl_move rfl) rfl rfl ?_; clear HF ac; intro ac HF
      refine sx_y HF HS (yl_nilCheck rfl) rfl rfl ?_; clear HF ac; intro ac HF
      refine sx_y HF HS (fa_st fd101x0 rfl) rfl rfl ?_; clear HF ac; intro ac HF
      refine sx_y HF HS (ld_sc sc3 rfl rfl rfl) rfl rfl ?_; clear HF ac; intro ac HF
      refine sx_y HF HS (yl_add64 (r := ((n + 1 : Nat) : Int)) rfl rfl (by omega) (by omega)) rfl rfl ?_; clear HF ac; intro ac HF
      refine sx_y HF HS (yl_nilCheck rfl) rfl rfl ?_; clear HF ac; intro ac HF
      refine sx_y HF HS (fa_st fd101x0 rfl) rfl rfl ?_; clear HF ac; intro ac HF
      refine sx_ef0 HF (ef_store HS sz3 rfl rfl rfl) rfl ?_; clear HS; rintro _ w HS
      refine wpList_nil ?_
      refine bp_n ?_
      rw [show qs ++ [x] = (carryT (tons 64 n) ps h) from hqe] at HS
      exact rt0 rfl HF ⟨rfl, a46, c46, HS.d2⟩

end Go.Proofs.YtalnkhgonfcabaaDoor
