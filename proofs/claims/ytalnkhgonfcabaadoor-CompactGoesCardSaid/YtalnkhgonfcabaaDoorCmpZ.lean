/-
  Cmp1, Cmp2, It1, Cmp3, Cmp4, Cmp5, Root09, Cmp6, put into one text.
-/
import Derived.Test.YtalnkhgonfcabaaDoorSy
import Derived.Test.YtalnkhgonfcabaaDoorTz
import Derived.Test.YtalnkhgonfcabaaDoorPeak
import Derived.Test.YtalnkhgonfcabaaDoorR
import Derived.Test.YtalnkhgonfcabaaDoorWireZ
import Derived.Test.YtalnkhgonfcabaaDoorSx
import Derived.Test.YtalnkhgonfcabaaDoorRefc
namespace Go.Proofs.YtalnkhgonfcabaaDoor
open Go.RowKit

/-! ### Types -/
namespace Cmp1
theorem ag33 : AgT Tryd.prog 33 32 := AgT.mk' Tryd.underlying33 rfl (by kernel_rfl)
theorem fd101x0 : FdT Tryd.prog 101 0 0 := FdT.mk' (k := 0) Tryd.underlying101 (by kernel_rfl)
theorem fd101x1 : FdT Tryd.prog 101 1 1 := FdT.mk' (k := 0) Tryd.underlying101 (by kernel_rfl)
theorem sc3 : ScT Tryd.prog 3 := ScT.mk' Tryd.underlying3 rfl (by kernel_rfl)
theorem sc22 : ScT Tryd.prog 22 := ScT.mk' Tryd.underlying22 rfl (by kernel_rfl)
theorem sl22 : SlT Tryd.prog 22 33 Tryd.t33 (hv zeroH) 32 32 := ⟨Tryd.underlying22, by kernel_rfl, by kernel_rfl, rfl, rfl, hvA_size _, by decide⟩
theorem sz3 : (Tryd.prog.info? 3).map (·.size) = some 1 := by kernel_rfl
theorem sz22 : (Tryd.prog.info? 22).map (·.size) = some 1 := by kernel_rfl
theorem sz33 : (Tryd.prog.info? 33).map (·.size) = some 32 := by kernel_rfl
theorem ze101 : ZeS Tryd.prog 101 [(1, .int .i64 0), (1, .slice none 0 0)] := ⟨.agg _, ZeT.mk' (by kernel_rfl), rfl⟩
end Cmp1
open Go.Proofs.YtalnkhgonfcabaaDoor.Cmp1

/-- A Range, part by part. -/
abbrev rgS (n : Int) (a : Option Addr) (k c : Nat) : List (Nat × Value) := [(1, .int .i64 n), (1, .slice a k c)]
/-- A Range in memory: so many leaves, these peaks. -/
structure RgA (w : World) (g n : Nat) (ps : List Hsh) (a : Option Addr) (c : Nat) : Prop where
  b : w.heap[g]? = some (.cells (sgA (rgS n a ps.length c)) 101 (0, 0))
  r : w.ownsRow 0 33 32 (.slice a ps.length c) ps.length (hsc ps)
theorem RgA.st {w : World} {g n : Nat} {ps : List Hsh} {a : Option Addr} {c : Nat} (h : RgA w g n ps a c) : St (ids [⟨g, sgA (rgS n a ps.length c), 101⟩] [⟨33, 32, a, ps.length, c, hsc ps⟩]) w [⟨g, sgA (rgS n a ps.length c), 101⟩] [⟨33, 32, a, ps.length, c, hsc ps⟩] w := St.ofObj h.b h.r (by decide)
theorem RgA.of {F : List Nat} {w0 w : World} {L : List Bk} {R : List Rw} {g n : Nat} {ps : List Hsh} {a : Option Addr} {c : Nat} (h : St F w0 (⟨g, sgA (rgS n a ps.length c), 101⟩ :: L) (⟨33, 32, a, ps.length, c, hsc ps⟩ :: R) w) : RgA w g n ps a c := ⟨h.blk _ List.mem_cons_self, h.row _ List.mem_cons_self⟩
theorem RgA.rd {w : World} {g n : Nat} {ps : List Hsh} {a : Option Addr} {c : Nat} (h : RgA w g n ps a c) : Rd w a ps.length c 32 (hsc ps) := own_rd h.r
theorem RgA.kept {F : List Nat} {w w' : World} {g n : Nat} {ps : List Hsh} {a : Option Addr} {c : Nat} (h : RgA w g n ps a c) (k : Kp F w w') (hF : ∀ x ∈ F, x ≠ g ∧ x ∉ aF a) : RgA w' g n ps a c :=
  ⟨by rw [k.block g (Array.getElem?_eq_some_iff.1 h.b).1 (fun hh => (hF g hh).1 rfl)]; exact h.b, own_kept h.r k (by rw [rowF_slice]; exact fun x hx hh => (hF x hh).2 hx)⟩
/-- Carried along so many times. -/
def carryT : Nat → List Hsh → Hsh → List Hsh
  | 0, ps, h => ps ++ [h]
  | t + 1, ps, h => carryT t ps.dropLast (nodeH (ps.getLast?.getD zeroH) h)
theorem carry_T : ∀ (f n : Nat) (ps : List Hsh) (h : Hsh), carry f n ps h = carryT (tons f n) ps h
  | 0, _, _, _ => rfl
  | f + 1, n, ps, h => by
    rw [carry, tons]
    by_cases ho : n % 2 = 1
    · rw [if_pos ho, if_pos ho, carry_T f, Nat.add_comm 1, carryT]
    · rw [if_neg ho, if_neg ho, carryT]
theorem tons_more : ∀ (f g n : Nat), n ≤ f → n ≤ g → tons f n = tons g n
  | 0, 0, _, _, _ => rfl
  | 0, g + 1, n, h, _ => by rw [tons, tons, if_neg (by omega)]
  | f + 1, 0, n, _, h => by rw [tons, tons, if_neg (by omega)]
  | f + 1, g + 1, n, h, h' => by
    rw [tons, tons]
    by_cases ho : n % 2 = 1
    · rw [if_pos ho, if_pos ho, tons_more f g (n / 2) (by omega) (by omega)]
    · rw [if_neg ho, if_neg ho]
theorem tons_pow : ∀ (f g n : Nat), n < 2 ^ f → f ≤ g → tons g n = tons f n
  | 0, g, n, h, _ => by
    obtain rfl : n = 0 := by simpa using h
    cases g <;> rfl
  | f + 1, 0, n, _, h => by omega
  | f + 1, g + 1, n, h, hg => by
    have e := Nat.pow_succ' (m := f) (n := 2)
    rw [tons, tons]
    by_cases ho : n % 2 = 1
    · rw [if_pos ho, if_pos ho, tons_pow f g (n / 2) (by omega) (by omega)]
    · rw [if_neg ho, if_neg ho]
/-- A leaf more, by the ones at the number's end. -/
theorem peaks_T (l : List Hsh) (h : Hsh) (hb : l.length < 9223372036854775807) : peaksOf (l ++ [h]) = carryT (tons 64 l.length) (peaksOf l) h := by
  rw [peaks_snoc l h hb, carry_T]
  have h1 : l.length < 2 ^ l.length := Nat.lt_two_pow_self
  rcases Nat.le_total l.length 64 with hle | hle
  · rw [tons_pow l.length 64 l.length h1 hle]
  · rw [tons_pow 64 l.length l.length (by omega) hle]
theorem carryT_len : ∀ (t : Nat) (ps : List Hsh) (h : Hsh), t ≤ ps.length → (carryT t ps h).length + t = ps.length + 1
  | 0, ps, h, _ => by rw [carryT, List.length_append]; rfl
  | t + 1, ps, h, hl => by
    rw [carryT]
    have := carryT_len t ps.dropLast (nodeH (ps.getLast?.getD zeroH) h) (by rw [List.length_dropLast]; omega)
    rw [List.length_dropLast] at this
    omega
/-- How many peaks so many leaves have. -/
theorem tons_pop : ∀ (f n : Nat), n < 2 ^ f → pop (n + 1) + tons f n = pop n + 1
  | 0, n, h => by obtain rfl : n = 0 := by simpa using h
                  rfl
  | f + 1, n, h => by
    have e := Nat.pow_succ' (m := f) (n := 2)
    rw [tons, pop_step (n + 1), pop_step n]
    by_cases ho : n % 2 = 1
    · rw [if_pos ho, show (n + 1) % 2 = 0 by omega, show (n + 1) / 2 = n / 2 + 1 by omega]
      have := tons_pop f (n / 2) (by omega)
      omega
    · rw [if_neg ho, show (n + 1) % 2 = 1 by omega, show (n + 1) / 2 = n / 2 by omega]; omega
theorem tons_le (n : Nat) (h : n < 18446744073709551616) : tons 64 n ≤ pop n := by
  have h1 := tons_pop 64 n (by omega)
  have h2 : 1 ≤ pop (n + 1) := by
    rcases Nat.eq_zero_or_pos (pop (n + 1)) with h0 | h0
    · exfalso
      have key : ∀ (f x : Nat), x ≤ f → pop x = 0 → x = 0 := by
        intro f
        induction f with
        | zero => intro x hx _; omega
        | succ f ih =>
          intro x hx h0
          rw [pop_step] at h0
          have := ih (x / 2)
          by_cases hz : x = 0
          · exact hz
          · have := this (by omega) (by omega)
            omega
      have := key (n + 1) (n + 1) (Nat.le_refl _) h0
      omega
    · exact h0
  omega

set_option maxRecDepth 100000 in
theorem new9_any (w0 : World) :
    Calls Tryd.prog 16 #[] w0 fun e w' => ∃ g, e = .returned (.pointer (some ⟨g, 0, none⟩)) ∧ St [] w0 [⟨g, sgA (rgS ((0 : Nat) : Int) none 0 0), 101⟩] [⟨33, 32, none, 0, 0, []⟩] w' := by
  refine calls_st (F := []) (args := []) Tryd.func16 rfl (n := 3) rfl rfl ?_
  intro ac w HF HS
  refine wp_seq ?_
  refine wp_region_lit ?_
  refine sx_y HF HS (yl_assign rfl) rfl rfl ?_; clear HF ac; intro ac HF
  refine wpList_nil ?_
  refine then_n ?_
  refine wp_seq ?_
  refine wp_region_lit ?_
  refine sx_y HF HS (bd_st (parts := #[]) Tryd.underlying101 (by kernel_rfl) ze101 evs_nil (pl := [(0, 1), (1, 1)]) (by kernel_rfl) (szs := []) rfl (inferInstance : SgW []) rfl) rfl rfl ?_; clear HF ac; intro ac HF
  refine sx_ef HF (ef_boxs HS rfl) rfl rfl ?_; clear HF HS ac; rintro _ w ac ⟨g2, rfl, HS⟩ HF
  refine sx_y HF HS (yl_assign rfl) rfl rfl ?_; clear HF ac; intro ac HF
  refine wpList_nil ?_
  refine then_n ?_
  refine wp_ret ?_
  exact rt1 rfl HF HS rfl ⟨g2, rfl, HS.nilRow 33 32⟩

set_option maxRecDepth 100000 in
theorem size9_any (g : Nat) (n : Int) (a : Option Addr) (k c : Nat) (w0 : World) (hg : w0.heap[g]? = some (.cells (sgA (rgS n a k c)) 101 (0, 0))) :
    Calls Tryd.prog 20 #[.pointer (some ⟨g, 0, none⟩)] w0 fun e w' => e = .returned (.int .i64 n) ∧ Kp [] w0 w' := by
  refine calls_stL (args := [.pointer (some ⟨g, 0, none⟩)]) (St.ofBlk hg) Tryd.func20 rfl (n := 7) rfl rfl ?_
  intro ac w HF HS
  refine wp_seq ?_
  refine wp_region_lit ?_
  refine sx_y HF HS (yl_assign rfl) rfl rfl ?_; clear HF ac; intro ac HF
  refine wpList_nil ?_
  refine then_n ?_
  refine wp_seq ?_
  refine wp_region_lit ?_
  refine sx_y HF HS (yl_move rfl) rfl rfl ?_; clear HF ac; intro ac HF
  refine sx_y HF HS (yl_nilCheck rfl) rfl rfl ?_; clear HF ac; intro ac HF
  refine sx_y HF HS (fa_st fd101x0 rfl) rfl rfl ?_; clear HF ac; intro ac HF
  refine sx_y HF HS (ld_sc sc3 rfl rfl rfl) rfl rfl ?_; clear HF ac; intro ac HF
  refine sx_y HF HS (yl_assign rfl) rfl rfl ?_; clear HF ac; intro ac HF
  refine wpList_nil ?_
  refine then_n ?_
  refine wp_ret ?_
  exact rt1 rfl HF HS rfl ⟨rfl, kp_own1 HS hg⟩

set_option maxRecDepth 100000 in
theorem cloneH_nil (a : Option Addr) (c : Nat) (l : List Hsh) (w0 : World) (hr : Rd w0 a l.length c 32 (hsc l)) (hn : a.isNone = true) :
    Calls Tryd.prog 71 #[.slice a l.length c] w0 fun e w' => ∃ a' c', e = .returned (.slice a' l.length c') ∧ St [] w0 [] [⟨33, 32, a', l.length, c', hsc l⟩] w' := by
  refine calls_st (F := []) (args := [.slice a l.length c]) Tryd.func71 rfl (n := 8) rfl rfl ?_
  intro ac w HF HS
  refine wp_seq ?_
  refine wp_region_lit ?_
  refine sx_y HF HS (yl_assign rfl) rfl rfl ?_; clear HF ac; intro ac HF
  refine wpList_nil ?_
  refine then_n ?_
  refine wp_seq ?_
  refine wp_seq ?_
  refine wp_region_lit ?_
  refine sx_y HF HS (yl_move rfl) rfl rfl ?_; clear HF ac; intro ac HF
  refine sx_y HF HS (yl_eqNil Tryd.underlying22 rfl rfl (by exact hn)) rfl rfl ?_; clear HF ac; intro ac HF
  refine wpList_nil ?_
  refine then_n ?_
  refine cx_true HF rfl ?_
  refine wp_seq ?_
  refine wp_region_lit ?_
  refine sx_y HF HS (yl_assign rfl) rfl rfl ?_; clear HF ac; intro ac HF
  refine wpList_nil ?_
  refine then_n ?_
  refine wp_ret ?_
  refine then_r ?_
  have hl0 : l.length = 0 := hr.nil0 (Option.isNone_iff_eq_none.1 hn)
  obtain rfl := List.eq_nil_of_length_eq_zero hl0
  exact rt1 rfl HF HS rfl ⟨none, 0, rfl, HS.nilRow 33 32⟩

set_option maxRecDepth 100000 in
theorem cloneH_some (a : Option Addr) (c : Nat) (l : List Hsh) (w0 : World) (hr : Rd w0 a l.length c 32 (hsc l)) (hl : l.length ≤ 1099511627776) (hn : a.isNone = false) :
    Calls Tryd.prog 71 #[.slice a l.length c] w0 fun e w' => ∃ a' c', e = .returned (.slice a' l.length c') ∧ St [] w0 [] [⟨33, 32, a', l.length, c', hsc l⟩] w' := by
  refine calls_st (F := []) (args := [.slice a l.length c]) Tryd.func71 rfl (n := 8) rfl rfl ?_
  intro ac w HF HS
  refine wp_seq ?_
  refine wp_region_lit ?_
  refine sx_y HF HS (yl_assign rfl) rfl rfl ?_; clear HF ac; intro ac HF
  refine wpList_nil ?_
  refine then_n ?_
  refine wp_seq ?_
  refine wp_seq ?_
  refine wp_region_lit ?_
  refine sx_y HF HS (yl_move rfl) rfl rfl ?_; clear HF ac; intro ac HF
  refine sx_y HF HS (yl_eqNil Tryd.underlying22 rfl rfl (by exact hn)) rfl rfl ?_; clear HF ac; intro ac HF
  refine wpList_nil ?_
  refine then_n ?_
  refine cx_false HF rfl ?_
  refine wp_skip ?_
  refine then_n ?_
  refine wp_seq ?_
  refine wp_region_lit ?_
  refine sx_ef HF (ef_lit (n := 0) HS sl22 (parts := #[]) evs_nil rfl rfl (s := []) rfl (by simp)) rfl rfl ?_; clear HF HS ac; rintro _ w ac ⟨g5, rfl, HS⟩ HF
  replace HS := HS.toRow (n := 0) (size := 32) (ys := []) rfl (by decide) rfl
  refine sx_y HF HS (yl_move rfl) rfl rfl ?_; clear HF ac; intro ac HF
  refine sx_ef HF (ef_append HS sl22 rfl rfl (hr.below HS.kp) (hsc_one l) (Nat.zero_add _) (by omega) (List.nil_append _)) rfl rfl ?_; clear HF HS ac; rintro _ w ac ⟨a7, c7, rfl, HS⟩ HF
  refine sx_y HF HS (yl_assign rfl) rfl rfl ?_; clear HF ac; intro ac HF
  refine wpList_nil ?_
  refine then_n ?_
  refine wp_ret ?_
  exact rt1 rfl HF HS rfl ⟨_, _, rfl, HS⟩

theorem cloneH_any (a : Option Addr) (c : Nat) (l : List Hsh) (w0 : World) (hr : Rd w0 a l.length c 32 (hsc l)) (hl : l.length ≤ 1099511627776) :
    Calls Tryd.prog 71 #[.slice a l.length c] w0 fun e w' => ∃ a' c', e = .returned (.slice a' l.length c') ∧ St [] w0 [] [⟨33, 32, a', l.length, c', hsc l⟩] w' := by
  by_cases hn : a.isNone = true
  · exact cloneH_nil a c l w0 hr hn
  · exact cloneH_some a c l w0 hr hl (by cases a <;> simp_all)

set_option maxRecDepth 100000 in
theorem peaks9_any (g n : Nat) (ps : List Hsh) (a : Option Addr) (c : Nat) (w0 : World) (h : RgA w0 g n ps a c) (hl : ps.length ≤ 1099511627776) :
    Calls Tryd.prog 22 #[.pointer (some ⟨g, 0, none⟩)] w0 fun e w' => ∃ a' c', e = .returned (.slice a' ps.length c') ∧ St [] w0 [] [⟨33, 32, a', ps.length, c', hsc ps⟩] w' := by
  refine calls_stL (args := [.pointer (some ⟨g, 0, none⟩)]) (St.ofBlk h.b) Tryd.func22 rfl (n := 8) rfl rfl ?_
  intro ac w HF HS
  refine wp_seq ?_
  refine wp_region_lit ?_
  refine sx_y HF HS (yl_assign rfl) rfl rfl ?_; clear HF ac; intro ac HF
  refine wpList_nil ?_
  refine then_n ?_
  refine wp_seq ?_
  refine wp_region_lit ?_
  refine sx_y HF HS (yl_move rfl) rfl rfl ?_; clear HF ac; intro ac HF
  refine sx_y HF HS (yl_nilCheck rfl) rfl rfl ?_; clear HF ac; intro ac HF
  refine sx_y HF HS (fa_st fd101x1 rfl) rfl rfl ?_; clear HF ac; intro ac HF
  refine sx_y HF HS (ld_sc sc22 rfl rfl rfl) rfl rfl ?_; clear HF ac; intro ac HF
  refine sx_call HF Tryd.func71 (by kernel_rfl) (by kernel_rfl) (evs_cons rfl evs_nil) (cloneH_any a c ps w (h.rd.below (kp_own1 HS h.b)) hl) rfl rfl ?_; clear HF ac
  rintro _ w ⟨a1, c1, rfl, k1⟩
  refine ⟨_, rfl, fun ac HF => ?_⟩
  replace HS := HS.joinR1 k1
  clear k1
  refine sx_y HF HS (yl_assign rfl) rfl rfl ?_; clear HF ac; intro ac HF
  refine wpList_nil ?_
  refine then_n ?_
  refine wp_ret ?_
  exact rt1 rfl HF HS rfl ⟨_, _, rfl, St.own1 (L := []) (b := ⟨g, _, _⟩) HS (kp_own1 HS h.b)⟩

set_option maxRecDepth 100000 in
set_option maxHeartbeats 1000000 in
theorem one9_any (g n : Nat) (ps : List Hsh) (a : Option Addr) (c : Nat) (h : Hsh) (w0 : World) (hg : RgA w0 g n ps a c) (hn : n ≤ 4611686018427387904) (hl : tons 64 n ≤ ps.length) (hps : ps.length ≤ 1099511627776) (hF4 : ∀ x ∈ ids [⟨g, sgA (rgS n a ps.length c), 101⟩] [⟨33, 32, a, ps.length, c, hsc ps⟩], 4 ≤ x) (hT : Tab w0) (hL : Laid w0) (h2 : 4 ≤ w0.heap.size) :
    Calls Tryd.prog 68 #[.pointer (some ⟨g, 0, none⟩), hv h] w0 fun e w' => e = .returned (.tuple #[]) ∧ ∃ a' c', St (ids [⟨g, sgA (rgS n a ps.length c), 101⟩] [⟨33, 32, a, ps.length, c, hsc ps⟩]) w0 [⟨g, sgA (rgS ((n + 1 : Nat) : Int) a' (carryT (tons 64 n) ps h).length c'), 101⟩] [⟨33, 32, a', (carryT (tons 64 n) ps h).length, c', hsc (carryT (tons 64 n) ps h)⟩] w' := by
  obtain ⟨Fo, hFF⟩ : ∃ F, F = ids [⟨g, sgA (rgS n a ps.length c), 101⟩] [⟨33, 32, a, ps.length, c, hsc ps⟩] := ⟨_, rfl⟩
  have HS0 := hg.st
  rw [← hFF] at HS0 hF4 ⊢
  have hFo := hF4
  obtain ⟨t, ht⟩ : ∃ t, t = tons 64 n := ⟨_, rfl⟩
  rw [← ht] at hl
  refine calls_stL (args := [.pointer (some ⟨g, 0, none⟩), hv h]) (HS0) Tryd.func68 rfl (n := 56) rfl rfl ?_
  intro ac w HF HS
  refine wp_seq ?_
  refine wp_region_lit ?_
  refine sx_ef HF (ef_box (n := 32) HS rfl) rfl rfl ?_; clear HF HS ac; rintro _ w ac ⟨g3, rfl, HS⟩ HF
  refine wpList_nil ?_
  refine then_n ?_
  refine wp_seq ?_
  refine wp_seq ?_
  refine wp_region_lit ?_
  refine sx_y HF HS (yl_move rfl) rfl rfl ?_; clear HF ac; intro ac HF
  refine sx_y HF HS (yl_nilCheck rfl) rfl rfl ?_; clear HF ac; intro ac HF
  refine sx_y HF HS (fa_st fd101x0 rfl) rfl rfl ?_; clear HF ac; intro ac HF
  refine sx_y HF HS (ld_sc sc3 rfl rfl rfl) rfl rfl ?_; clear HF ac; intro ac HF
  refine sx_y HF HS (yl_iconvN rfl (by kernel_rfl) Tryd.underlying120 (wrap_u64n (by omega))) rfl rfl ?_; clear HF ac; intro ac HF
  refine sx_y HF HS (yl_com64 (by omega) rfl) rfl rfl ?_; clear HF ac; intro ac HF
  refine sx_call HF Tryd.func111 (by kernel_rfl) (by kernel_rfl) (evs_cons rfl evs_nil) (tzc_any n (by omega) w (hT.kept HS.kp hFo)) rfl rfl ?_; clear HF ac
  rintro _ w ⟨rfl, rfl⟩
  refine ⟨_, rfl, fun ac HF => ?_⟩
  refine sx_y HF HS (yl_move rfl) rfl rfl ?_; clear HF ac; intro ac HF
  refine wpList_nil ?_
  refine then_n ?_
  refine wp_block ?_
  rw [← ht] at HF
  replace HF := HF.sub (m' := [(0, _), (3, _), (11, _), (12, _)]) (by repeat (first | exact ag_nil | refine ag_cons rfl ?_))
  refine cx_loop (m := [(0, _), (3, _), (11, _)]) (HF.sub (by repeat (first | exact ag_nil | refine ag_cons rfl ?_))) (fun m d ac w => ∃ (i : Nat) (qs : List Hsh) (x : Hsh), i ≤ t ∧ t ≤ i + qs.length ∧ qs.length ≤ 1099511627776 ∧ carryT (t - i) qs x = (carryT (tons 64 n) ps h) ∧ d = t - i ∧ Fr ([(12, .int .i64 (i : Int))] ++ m) 56 ac ∧ St Fo w0 [⟨g3, sgA [(32, hv x)], 33⟩, ⟨g, sgA (rgS n a qs.length c), 101⟩] [⟨33, 32, a, qs.length, c, hsc qs⟩] w) ?_ ?_
  · exact ⟨_, 0, ps, h, Nat.zero_le _, by omega, hps, by rw [ht]; rfl, rfl, HF.sub (by repeat (first | exact ag_nil | refine ag_cons rfl ?_)), HS⟩
  · clear HF HS ac w
    rintro d ac w ⟨i, qs, x, hi0, hil, hqs, hqe, rfl, HF, HS⟩
    refine wp_seq ?_
    refine wp_region_lit ?_
    refine sx_dec HF HS (yl_lss rfl rfl rfl) rfl rfl ?_ ?_ <;> clear HF ac <;> intro h2x0 ac HF
    · have hi : i + 1 ≤ t := by omega
      have hq1 : 1 ≤ qs.length := by omega
      have hx : qs[qs.length - 1]? = some (qs.getLast?.getD zeroH) := by rw [List.getLast?_eq_getElem?, List.getElem?_eq_getElem (by omega)]; rfl
      have hlast : (qs.getLast?.getD zeroH) = (qs.getLast?.getD zeroH) := rfl
      have hlt : (qs.take (qs.length - 1)).length = qs.length - 1 := by rw [List.length_take]; omega
      refine wpList_nil ?_
      refine then_n ?_
      refine wp_seq ?_
      refine cx_true HF rfl ?_
      refine wp_skip ?_
      refine then_n ?_
      refine wp_seq ?_
      refine wp_block ?_
      refine wp_seq ?_
      refine wp_region_lit ?_
      refine sx_y HF HS (yl_move rfl) rfl rfl ?_; clear HF ac; intro ac HF
      refine sx_y HF HS (yl_nilCheck rfl) rfl rfl ?_; clear HF ac; intro ac HF
      refine sx_y HF HS (fa_st fd101x1 rfl) rfl rfl ?_; clear HF ac; intro ac HF
      refine sx_y HF HS (ld_sc sc22 rfl rfl rfl) rfl rfl ?_; clear HF ac; intro ac HF
      refine sx_y HF HS (yl_len_slice Tryd.underlying22 rfl) rfl rfl ?_; clear HF ac; intro ac HF
      refine sx_y HF HS (yl_sub64 (r := ((qs.length - 1 : Nat) : Int)) rfl rfl (by omega) (by omega)) rfl rfl ?_; clear HF ac; intro ac HF
      refine sx_y HF HS (yl_assign rfl) rfl rfl ?_; clear HF ac; intro ac HF
      refine wpList_nil ?_
      refine then_n ?_
      refine wp_seq ?_
      refine dx_region 9 (by kernel_rfl) HS.drew (fun _ h => h) ?_; clear HS; intro w HS
      have HH := HS
      refine dx_p (i := 0) HF rfl (by kernel_rfl) (by kernel_rfl) (by kernel_rfl) (by decide) (fun _ _ _ h => h) (fun _ => HH) (yl_move rfl) rfl rfl ?_; clear HF ac; intro ac HF
      refine dx_p (i := 1) HF rfl (by kernel_rfl) (by kernel_rfl) (by kernel_rfl) (by decide) (fun _ _ _ h => h) (fun _ => HH) (yl_nilCheck rfl) rfl rfl ?_; clear HF ac; intro ac HF
      refine dx_p (i := 2) HF rfl (by kernel_rfl) (by kernel_rfl) (by kernel_rfl) (by decide) (fun _ _ _ h => h) (fun _ => HH) (fa_st fd101x1 rfl) rfl rfl ?_; clear HF ac; intro ac HF
      refine dx_k (i := 3) HF rfl (by kernel_rfl) (by kernel_rfl) (by kernel_rfl) (by kernel_rfl) (by kernel_rfl) (fun _ _ _ h => h) HH (ld_sc sc22 rfl rfl rfl) rfl rfl ?_; clear HF ac; intro ac HF
      refine dx_p (i := 4) HF rfl (by kernel_rfl) (by kernel_rfl) (by kernel_rfl) (by decide) (fun _ _ _ h => h) (fun _ => HH) (yl_move rfl) rfl rfl ?_; clear HF ac; intro ac HF
      refine dx_p (i := 5) HF rfl (by kernel_rfl) (by kernel_rfl) (by kernel_rfl) (by decide) (fun _ _ _ h => h) (fun _ => HH) (ix_sl (k := (qs.length - 1)) Tryd.underlying22 sz33 rfl rfl (by omega) HS.row0.nil0) rfl rfl ?_; clear HF ac; intro ac HF
      refine dx_k (i := 6) HF rfl (by kernel_rfl) (by kernel_rfl) (by kernel_rfl) (by kernel_rfl) (by kernel_rfl) (fun _ _ _ h => h) HH (ld_elH ag33 rfl hx (fun w h => h.row0)) rfl rfl ?_; clear HF ac; intro ac HF
      refine dx_k (i := 7) HF rfl (by kernel_rfl) (by kernel_rfl) (by kernel_rfl) (by kernel_rfl) (by kernel_rfl) (fun _ _ _ h => h) HH (ld_ag ag33 rfl rfl) rfl rfl ?_; clear HF ac; intro ac HF
      refine dx_one (i := 8) (by kernel_rfl) ?_
      refine op_call (i := 8) HF rfl Tryd.func37 (by kernel_rfl) (by kernel_rfl) (evs_cons rfl (evs_cons rfl evs_nil)) (node_any _ x w (hL.kept HS.kp hFo) (Nat.le_trans h2 HS.kp.size)) rfl rfl ?_; clear HF ac
      rintro _ w ⟨rfl, k1⟩
      refine ⟨_, rfl, fun ac HF => ?_⟩
      replace HH := HH.call k1
      replace HS := HS.call k1
      clear k1
      refine ⟨fun _ => HH, ?_⟩
      refine dx_one (i := 9) (by kernel_rfl) ?_
      refine op_ef0 (i := 9) HF rfl rfl (ef_store HS sz33 rfl rfl rfl) ?_; clear HS; rintro _ w HS
      refine ⟨fun h => absurd h (by decide), ?_⟩
      refine dx_done (by kernel_rfl) ?_
      clear HH
      refine then_n ?_
      refine wp_region_lit ?_
      refine sx_y HF HS (yl_move rfl) rfl rfl ?_; clear HF ac; intro ac HF
      refine sx_y HF HS (yl_move rfl) rfl rfl ?_; clear HF ac; intro ac HF
      refine sx_y HF HS (yl_nilCheck rfl) rfl rfl ?_; clear HF ac; intro ac HF
      refine sx_y HF HS (fa_st fd101x1 rfl) rfl rfl ?_; clear HF ac; intro ac HF
      refine sx_y HF HS (ld_sc sc22 rfl rfl rfl) rfl rfl ?_; clear HF ac; intro ac HF
      refine sx_y HF HS (yl_move rfl) rfl rfl ?_; clear HF ac; intro ac HF
      have hlm := HS.row0.lim
      refine sx_y HF HS (sl_hi (r := (qs.take (qs.length - 1)).length) Tryd.underlying22 sz33 rfl rfl (by omega) (by omega)) rfl rfl ?_; clear HF ac; intro ac HF
      refine sx_y HF HS (yl_nilCheck rfl) rfl rfl ?_; clear HF ac; intro ac HF
      refine sx_y HF HS (fa_st fd101x1 rfl) rfl rfl ?_; clear HF ac; intro ac HF
      refine sx_ef0 HF (ef_store HS sz22 rfl rfl rfl) rfl ?_; clear HS; rintro _ w HS
      replace HS := HS.cutH (e := 33) (a := a) (c := c) (s := qs) (m := qs.length - 1) (by omega)
      refine wpList_nil ?_
      refine blk_n ?_
      refine then_n ?_
      refine wp_region_lit ?_
      refine sx_y HF HS (yl_add64 rfl rfl rfl (by omega)) rfl rfl ?_; clear HF ac; intro ac HF
      refine sx_y HF HS (yl_move rfl) rfl rfl ?_; clear HF ac; intro ac HF
      refine wpList_nil ?_
      refine then_n ?_
      refine ⟨_, ?_, i + 1, qs.take (qs.length - 1), _, hi, by omega, by omega, ?_, rfl, HF.sub (by repeat (first | exact ag_nil | refine ag_cons rfl ?_)), HS⟩
      · omega
      · rw [← hqe, show t - i = t - (i + 1) + 1 by omega, carryT, List.dropLast_eq_take, hlast]
    · obtain rfl : i = t := by omega
      rw [Nat.sub_self] at hqe
      refine wpList_nil ?_
      refine then_n ?_
      refine wp_seq ?_
      refine cx_false HF rfl ?_
      refine wp_exit ?_
      refine then_x ?_
      refine then_x ?_
      refine blk_hit ?_
      refine then_n ?_
      refine wp_seq ?_
      refine dx_region 7 (by kernel_rfl) HS.drew (fun _ h => h) ?_; clear HS; intro w HS
      have HH := HS
      refine dx_p (i := 0) HF rfl (by kernel_rfl) (by kernel_rfl) (by kernel_rfl) (by decide) (fun _ _ _ h => h) (fun _ => HH) (yl_move rfl) rfl rfl ?_; clear HF ac; intro ac HF
      refine dx_p (i := 1) HF rfl (by kernel_rfl) (by kernel_rfl) (by kernel_rfl) (by decide) (fun _ _ _ h => h) (fun _ => HH) (yl_move rfl) rfl rfl ?_; clear HF ac; intro ac HF
      refine dx_p (i := 2) HF rfl (by kernel_rfl) (by kernel_rfl) (by kernel_rfl) (by decide) (fun _ _ _ h => h) (fun _ => HH) (yl_nilCheck rfl) rfl rfl ?_; clear HF ac; intro ac HF
      refine dx_p (i := 3) HF rfl (by kernel_rfl) (by kernel_rfl) (by kernel_rfl) (by decide) (fun _ _ _ h => h) (fun _ => HH) (fa_st fd101x1 rfl) rfl rfl ?_; clear HF ac; intro ac HF
      refine dx_k (i := 4) HF rfl (by kernel_rfl) (by kernel_rfl) (by kernel_rfl) (by kernel_rfl) (by kernel_rfl) (fun _ _ _ h => h) HH (ld_sc sc22 rfl rfl rfl) rfl rfl ?_; clear HF ac; intro ac HF
      refine dx_one (i := 5) (by kernel_rfl) ?_
      refine op_y (i := 5) HF rfl rfl rfl HS (ld_ag ag33 rfl rfl) ?_; clear HF ac; intro ac HF
      refine ⟨fun _ => HH, ?_⟩
      refine dx_one (i := 6) (by kernel_rfl) ?_
      refine op_ef (i := 6) HF rfl rfl rfl (ef_lit (n := 1) HS sl22 (parts := #[(0, .tmp 44)]) (evs_cons rfl evs_nil) rfl rfl (s := [(32, _)]) rfl (by simp)) ?_; clear HF HS ac; rintro _ w ac ⟨g45, rfl, HS⟩ HF
      replace HH := HS.d1
      refine ⟨fun _ => HH, ?_⟩
      refine dx_one (i := 7) (by kernel_rfl) ?_
      refine op_ef (i := 7) HF rfl rfl rfl (ef_append1 (n' := (qs ++ [x]).length) (ys := hsc (qs ++ [x])) HS sl22 rfl rfl rfl (by simp) (by simp; omega) (hsc_app1 _ _)) ?_; clear HF HS ac; rintro _ w ac ⟨a46, c46, rfl, HS⟩ HF
      refine ⟨fun h => absurd h (by decide), ?_⟩
      refine dx_p (i := 8) HF rfl (by kernel_rfl) (by kernel_rfl) (by kernel_rfl) (by decide) (fun _ _ _ h => h) (fun h => absurd h (by decide)) (yl_nilCheck rfl) rfl rfl ?_; clear HF ac; intro ac HF
      refine dx_p (i := 9) HF rfl (by kernel_rfl) (by kernel_rfl) (by kernel_rfl) (by decide) (fun _ _ _ h => h) (fun h => absurd h (by decide)) (fa_st fd101x1 rfl) rfl rfl ?_; clear HF ac; intro ac HF
      refine dx_one (i := 10) (by kernel_rfl) ?_
      refine op_ef0 (i := 10) HF rfl rfl (ef_store HS sz22 rfl rfl rfl) ?_; clear HS; rintro _ w HS
      refine ⟨fun h => absurd h (by decide), ?_⟩
      refine dx_done (by kernel_rfl) ?_
      clear HH
      refine then_n ?_
      refine wp_region_lit ?_
      refine sx_y HF HS (yl_move rfl) rfl rfl ?_; clear HF ac; intro ac HF
      refine sx_y HF HS (yl_nilCheck rfl) rfl rfl ?_; clear HF ac; intro ac HF
      refine sx_y HF HS (fa_st fd101x0 rfl) rfl rfl ?_; clear HF ac; intro ac HF
      refine sx_y HF HS (ld_sc sc3 rfl rfl rfl) rfl rfl ?_; clear HF ac; intro ac HF
      refine sx_y HF HS (yl_add64 (r := ((n + 1 : Nat) : Int)) rfl rfl (by omega) (by omega)) rfl rfl ?_; clear HF ac; intro ac HF
      refine sx_y HF HS (yl_nilCheck rfl) rfl rfl ?_; clear HF ac; intro ac HF
      refine sx_y HF HS (fa_st fd101x0 rfl) rfl rfl ?_; clear HF ac; intro ac HF
      refine sx_ef0 HF (ef_store HS sz3 rfl rfl rfl) rfl ?_; clear HS; rintro _ w HS
      refine wpList_nil ?_
      refine bp_n ?_
      rw [show qs ++ [x] = (carryT (tons 64 n) ps h) from hqe] at HS
      exact rt0 rfl HF ⟨rfl, a46, c46, HS.d2⟩

end Go.Proofs.YtalnkhgonfcabaaDoor

namespace Go.Proofs.YtalnkhgonfcabaaDoor
open Go.RowKit

/-! ### Types -/
namespace Cmp2
theorem ag33 : AgT Tryd.prog 33 32 := AgT.mk' Tryd.underlying33 rfl (by kernel_rfl)
theorem fd101x0 : FdT Tryd.prog 101 0 0 := FdT.mk' (k := 0) Tryd.underlying101 (by kernel_rfl)
theorem fd101x1 : FdT Tryd.prog 101 1 1 := FdT.mk' (k := 0) Tryd.underlying101 (by kernel_rfl)
theorem sc3 : ScT Tryd.prog 3 := ScT.mk' Tryd.underlying3 rfl (by kernel_rfl)
theorem sc22 : ScT Tryd.prog 22 := ScT.mk' Tryd.underlying22 rfl (by kernel_rfl)
theorem sz33 : (Tryd.prog.info? 33).map (·.size) = some 32 := by kernel_rfl
theorem ze33 : ZeS Tryd.prog 33 [(32, hv zeroH)] := ⟨hv zeroH, ZeT.mk' (by kernel_rfl), (sgA_h zeroH).symm⟩
theorem ze101 : ZeS Tryd.prog 101 [(1, .int .i64 0), (1, .slice none 0 0)] := ⟨.agg _, ZeT.mk' (by kernel_rfl), rfl⟩
end Cmp2
open Go.Proofs.YtalnkhgonfcabaaDoor.Cmp2

theorem _root_.Go.Proofs.YtalnkhgonfcabaaDoor.St.low {F : List Nat} {w0 w : World} {L : List Bk} {R : List Rw} {B : Nat} (h : St F w0 L R w) (hF : ∀ x ∈ F, B ≤ x) (hB : B ≤ w0.heap.size) : ∀ x ∈ ids L R, B ≤ x := fun x hx => by
  rcases h.new x hx with h1 | h1
  · omega
  · exact hF x h1
theorem pop_le : ∀ (f x : Nat), x ≤ f → pop x ≤ x
  | 0, x, h => by obtain rfl : x = 0 := by omega
                  exact Nat.le_refl _
  | f + 1, x, h => by
    rw [pop_step]
    by_cases h0 : x = 0
    · subst h0; exact Nat.le_refl _
    · have := pop_le f (x / 2) (by omega)
      omega
/-- So many leaves more. -/
def appT : Nat → List Hsh → List Hsh → List Hsh
  | _, ps, [] => ps
  | n, ps, h :: l => appT (n + 1) (carryT (tons 64 n) ps h) l
theorem appT_len : ∀ (l : List Hsh) (n : Nat) (ps : List Hsh), ps.length = pop n → n + l.length < 18446744073709551616 → (appT n ps l).length = pop (n + l.length)
  | [], n, ps, h, _ => h
  | x :: l, n, ps, h, hb => by
    rw [List.length_cons] at hb ⊢
    have h1 := carryT_len (tons 64 n) ps x (by rw [h]; exact tons_le n (by omega))
    have h2 := tons_pop 64 n (by omega)
    rw [appT, appT_len l (n + 1) _ (by omega) (by omega)]
    congr 1; omega
theorem appT_peaks : ∀ (l L : List Hsh), (L ++ l).length < 9223372036854775807 → appT L.length (peaksOf L) l = peaksOf (L ++ l)
  | [], L, _ => by rw [List.append_nil]; rfl
  | x :: l, L, h => by
    rw [List.length_append, List.length_cons] at h
    have e : (L ++ [x]).length = L.length + 1 := by simp
    rw [appT, ← peaks_T L x (by omega), ← e, appT_peaks l (L ++ [x]) (by rw [List.length_append, e]; omega), List.append_assoc]
    rfl
theorem peaksOf_pop (L : List Hsh) (h : L.length < 9223372036854775807) : (peaksOf L).length = pop L.length := by
  have h1 := appT_peaks L [] (by simpa using h)
  have h2 := appT_len L 0 [] rfl (by omega)
  rw [List.nil_append] at h1
  rw [← h1]
  simpa [peaksOf_nil] using h2

set_option maxRecDepth 100000 in
theorem append9_many (g n : Nat) (ps l : List Hsh) (a b : Option Addr) (c e : Nat) (w0 : World) (hg : RgA w0 g n ps a c) (hr : Rd w0 b l.length e 32 (hsc l)) (h : 1048576 < n + l.length) (hn : n ≤ 1048576) :
    Calls Tryd.prog 17 #[.pointer (some ⟨g, 0, none⟩), .slice b l.length e] w0 fun e w' => e = .returned (.int .i64 12) ∧ Kp [] w0 w' := by
  have hlm := hr.lim
  refine calls_stL (args := [.pointer (some ⟨g, 0, none⟩), .slice b l.length e]) (St.ofBlk hg.b) Tryd.func17 rfl (n := 25) rfl rfl ?_
  intro ac w HF HS
  refine wp_seq ?_
  refine wp_region_lit ?_
  refine sx_y HF HS (yl_assign rfl) rfl rfl ?_; clear HF ac; intro ac HF
  refine wpList_nil ?_
  refine then_n ?_
  refine wp_seq ?_
  refine wp_seq ?_
  refine wp_region_lit ?_
  refine sx_y HF HS (yl_move rfl) rfl rfl ?_; clear HF ac; intro ac HF
  refine sx_y HF HS (yl_len_slice Tryd.underlying22 rfl) rfl rfl ?_; clear HF ac; intro ac HF
  refine sx_y HF HS (yl_move rfl) rfl rfl ?_; clear HF ac; intro ac HF
  refine sx_y HF HS (yl_nilCheck rfl) rfl rfl ?_; clear HF ac; intro ac HF
  refine sx_y HF HS (fa_st fd101x0 rfl) rfl rfl ?_; clear HF ac; intro ac HF
  refine sx_y HF HS (ld_sc sc3 rfl rfl rfl) rfl rfl ?_; clear HF ac; intro ac HF
  refine sx_y HF HS (yl_sub64 (r := ((1048576 - n : Nat) : Int)) rfl rfl (by omega) (by omega)) rfl rfl ?_; clear HF ac; intro ac HF
  refine sx_y HF HS (yl_gtr rfl rfl (decide_eq_true (by omega))) rfl rfl ?_; clear HF ac; intro ac HF
  refine wpList_nil ?_
  refine then_n ?_
  refine cx_true HF rfl ?_
  refine wp_seq ?_
  refine wp_region_lit ?_
  refine sx_y HF HS (yl_assign rfl) rfl rfl ?_; clear HF ac; intro ac HF
  refine wpList_nil ?_
  refine then_n ?_
  refine wp_ret ?_
  refine then_r ?_
  exact rt1 rfl HF HS rfl ⟨rfl, kp_own1 HS hg.b⟩

set_option maxRecDepth 100000 in
set_option maxHeartbeats 1000000 in
theorem append9_any (g n : Nat) (ps l : List Hsh) (a b : Option Addr) (c e : Nat) (w0 : World) (hg : RgA w0 g n ps a c) (hr : Rd w0 b l.length e 32 (hsc l)) (h : n + l.length ≤ 1048576) (hpl : ps.length = pop n) (hF4 : ∀ x ∈ ids [⟨g, sgA (rgS n a ps.length c), 101⟩] [⟨33, 32, a, ps.length, c, hsc ps⟩], 4 ≤ x) (hdis : 0 < l.length → ∀ x ∈ aF b, x ∉ ids [⟨g, sgA (rgS n a ps.length c), 101⟩] [⟨33, 32, a, ps.length, c, hsc ps⟩]) (hT : Tab w0) (hL : Laid w0) (h2 : 4 ≤ w0.heap.size) :
    Calls Tryd.prog 17 #[.pointer (some ⟨g, 0, none⟩), .slice b l.length e] w0 fun e w' => e = .returned (.int .i64 0) ∧ ∃ a' c', St (ids [⟨g, sgA (rgS n a ps.length c), 101⟩] [⟨33, 32, a, ps.length, c, hsc ps⟩]) w0 [⟨g, sgA (rgS ((n + l.length : Nat) : Int) a' (appT n ps l).length c'), 101⟩] [⟨33, 32, a', (appT n ps l).length, c', hsc (appT n ps l)⟩] w' := by
  obtain ⟨Fo, hFF⟩ : ∃ F, F = ids [⟨g, sgA (rgS n a ps.length c), 101⟩] [⟨33, 32, a, ps.length, c, hsc ps⟩] := ⟨_, rfl⟩
  have HS0 := hg.st
  rw [← hFF] at HS0 hF4 hdis ⊢
  refine calls_stL (args := [.pointer (some ⟨g, 0, none⟩), .slice b l.length e]) (HS0) Tryd.func17 rfl (n := 25) rfl rfl ?_
  intro ac w HF HS
  refine wp_seq ?_
  refine wp_region_lit ?_
  refine sx_y HF HS (yl_assign rfl) rfl rfl ?_; clear HF ac; intro ac HF
  refine wpList_nil ?_
  refine then_n ?_
  refine wp_seq ?_
  refine wp_seq ?_
  refine wp_region_lit ?_
  refine sx_y HF HS (yl_move rfl) rfl rfl ?_; clear HF ac; intro ac HF
  refine sx_y HF HS (yl_len_slice Tryd.underlying22 rfl) rfl rfl ?_; clear HF ac; intro ac HF
  refine sx_y HF HS (yl_move rfl) rfl rfl ?_; clear HF ac; intro ac HF
  refine sx_y HF HS (yl_nilCheck rfl) rfl rfl ?_; clear HF ac; intro ac HF
  refine sx_y HF HS (fa_st fd101x0 rfl) rfl rfl ?_; clear HF ac; intro ac HF
  refine sx_y HF HS (ld_sc sc3 rfl rfl rfl) rfl rfl ?_; clear HF ac; intro ac HF
  refine sx_y HF HS (yl_sub64 (r := ((1048576 - n : Nat) : Int)) rfl rfl (by omega) (by omega)) rfl rfl ?_; clear HF ac; intro ac HF
  refine sx_y HF HS (yl_gtr rfl rfl (decide_eq_false (by omega))) rfl rfl ?_; clear HF ac; intro ac HF
  refine wpList_nil ?_
  refine then_n ?_
  refine cx_false HF rfl ?_
  refine wp_skip ?_
  refine then_n ?_
  refine wp_seq ?_
  refine wp_seq ?_
  refine wp_region_lit ?_
  refine sx_y HF HS (yl_move rfl) rfl rfl ?_; clear HF ac; intro ac HF
  refine sx_y HF HS (yl_len_slice Tryd.underlying22 rfl) rfl rfl ?_; clear HF ac; intro ac HF
  refine sx_y HF HS (yl_move rfl) rfl rfl ?_; clear HF ac; intro ac HF
  refine wpList_nil ?_
  refine then_n ?_
  refine wp_block ?_
  replace HF := HF.sub (m' := [(0, _), (4, _), (15, _), (16, _), (17, _)]) (by repeat (first | exact ag_nil | refine ag_cons rfl ?_))
  refine cx_loop (m := [(0, _), (4, _), (15, _), (16, _)]) (HF.sub (by repeat (first | exact ag_nil | refine ag_cons rfl ?_))) (fun m d ac w => ∃ (i : Nat) (qs : List Hsh) (a1 : Option Addr) (c1 : Nat), i ≤ l.length ∧ qs.length = pop (n + i) ∧ appT (n + i) qs (l.drop i) = appT n ps l ∧ d = l.length - i ∧ Fr ([(17, .int .i64 (i : Int))] ++ m) 25 ac ∧ St Fo w0 [⟨g, sgA (rgS ((n + i : Nat) : Int) a1 qs.length c1), 101⟩] [⟨33, 32, a1, qs.length, c1, hsc qs⟩] w) ?_ ?_
  · exact ⟨_, 0, ps, a, c, Nat.zero_le _, hpl, rfl, rfl, HF.sub (by repeat (first | exact ag_nil | refine ag_cons rfl ?_)), HS⟩
  · clear HF HS ac w
    rintro d ac w ⟨i, qs, a1, c1, hi0, hql, hqe, rfl, HF, HS⟩
    refine wp_seq ?_
    refine wp_region_lit ?_
    refine sx_dec HF HS (yl_lss rfl rfl rfl) rfl rfl ?_ ?_ <;> clear HF ac <;> intro h4x0 ac HF
    · have hi : i + 1 ≤ l.length := by omega
      obtain ⟨x, hx⟩ : ∃ x, l[i]? = some x := ⟨_, List.getElem?_eq_getElem (by omega)⟩
      have htl := tons_le (n + i) (by omega)
      have htp := tons_pop 64 (n + i) (by omega)
      have hcl := carryT_len (tons 64 (n + i)) qs x (by omega)
      have hpl2 := pop_le (n + i) (n + i) (Nat.le_refl _)
      have hlm := hr.lim
      have hbd := hdis (by omega)
      refine wpList_nil ?_
      refine then_n ?_
      refine wp_seq ?_
      refine cx_true HF rfl ?_
      refine wp_skip ?_
      refine then_n ?_
      refine wp_seq ?_
      refine wp_block ?_
      refine wp_seq ?_
      refine wp_region_lit ?_
      refine sx_y HF HS (ix_sl (k := i) Tryd.underlying22 sz33 rfl rfl (by omega) (hr.kept HS.kp hbd).nil0) rfl rfl ?_; clear HF ac; intro ac HF
      refine sx_y HF HS (ld_elH ag33 rfl hx (fun w h => hr.kept h.kp hbd)) rfl rfl ?_; clear HF ac; intro ac HF
      refine sx_ef HF (ef_alloc HS ze33) rfl rfl ?_; clear HF HS ac; rintro _ w ac ⟨g6, rfl, HS⟩ HF
      refine sx_ef0 HF (ef_store HS sz33 rfl rfl rfl) rfl ?_; clear HS; rintro _ w HS
      refine wpList_nil ?_
      refine then_n ?_
      refine wp_region_lit ?_
      refine sx_y HF HS (yl_move rfl) rfl rfl ?_; clear HF ac; intro ac HF
      refine sx_y HF HS (ld_ag ag33 rfl rfl) rfl rfl ?_; clear HF ac; intro ac HF
      refine sx_call HF Tryd.func68 (by kernel_rfl) (by kernel_rfl) (evs_cons rfl (evs_cons rfl evs_nil)) (one9_any g (n + i) qs a1 c1 x w ⟨HS.blk _ (List.mem_cons_of_mem _ List.mem_cons_self), HS.row _ List.mem_cons_self⟩ (by omega) (by omega) (by omega) (HS.d1.low hF4 h2) (hT.kept HS.kp hF4) (hL.kept HS.kp hF4) (Nat.le_trans h2 HS.kp.size)) rfl rfl ?_; clear HF ac
      rintro _ w ⟨rfl, a9, c9, k1⟩
      refine ⟨_, rfl, fun ac HF => ?_⟩
      replace HS : St Fo w0 [⟨g, _, _⟩] _ w := (St.upd (L1 := [_]) (L := [⟨g6, _, _⟩]) (R1 := [_]) (R := []) HS.swap k1).swap.d1
      clear k1
      refine wpList_nil ?_
      refine blk_n ?_
      refine then_n ?_
      refine wp_region_lit ?_
      refine sx_y HF HS (yl_add64 rfl rfl rfl (by omega)) rfl rfl ?_; clear HF ac; intro ac HF
      refine sx_y HF HS (yl_move rfl) rfl rfl ?_; clear HF ac; intro ac HF
      refine wpList_nil ?_
      refine then_n ?_
      refine ⟨_, ?_, i + 1, _, a9, c9, hi, ?_, ?_, rfl, HF.sub (by repeat (first | exact ag_nil | refine ag_cons rfl ?_)), HS⟩
      · omega
      · rw [← Nat.add_assoc]; omega
      · rw [← hqe, drop_at hx, appT]; rfl
    · obtain rfl : i = l.length := by omega
      rw [List.drop_length] at hqe
      obtain rfl : qs = appT n ps l := hqe
      refine wpList_nil ?_
      refine then_n ?_
      refine wp_seq ?_
      refine cx_false HF rfl ?_
      refine wp_exit ?_
      refine then_x ?_
      refine then_x ?_
      refine blk_hit ?_
      refine then_n ?_
      refine wp_seq ?_
      refine wp_region_lit ?_
      refine sx_y HF HS (yl_assign rfl) rfl rfl ?_; clear HF ac; intro ac HF
      refine wpList_nil ?_
      refine then_n ?_
      refine wp_ret ?_
      subst hFF
      exact rt1 rfl HF HS rfl ⟨rfl, _, _, HS⟩

set_option maxRecDepth 100000 in
theorem copy9_any (g n : Nat) (ps : List Hsh) (a : Option Addr) (c : Nat) (w0 : World) (h : RgA w0 g n ps a c) (hl : ps.length ≤ 1099511627776) :
    Calls Tryd.prog 28 #[.pointer (some ⟨g, 0, none⟩)] w0 fun e w' => ∃ g' a' c', e = .returned (.pointer (some ⟨g', 0, none⟩)) ∧ St [] w0 [⟨g', sgA (rgS n a' ps.length c'), 101⟩] [⟨33, 32, a', ps.length, c', hsc ps⟩] w' := by
  refine calls_stL (args := [.pointer (some ⟨g, 0, none⟩)]) (St.ofBlk h.b) Tryd.func28 rfl (n := 14) rfl rfl ?_
  intro ac w HF HS
  refine wp_seq ?_
  refine wp_region_lit ?_
  refine sx_y HF HS (yl_assign rfl) rfl rfl ?_; clear HF ac; intro ac HF
  refine wpList_nil ?_
  refine then_n ?_
  refine wp_seq ?_
  refine dx_region 12 (by kernel_rfl) HS.drew (fun _ h => h) ?_; clear HS; intro w HS
  have HH := HS
  refine dx_p (i := 0) HF rfl (by kernel_rfl) (by kernel_rfl) (by kernel_rfl) (by decide) (fun _ _ _ h => h) (fun _ => HH) (yl_move rfl) rfl rfl ?_; clear HF ac; intro ac HF
  refine dx_p (i := 1) HF rfl (by kernel_rfl) (by kernel_rfl) (by kernel_rfl) (by decide) (fun _ _ _ h => h) (fun _ => HH) (yl_nilCheck rfl) rfl rfl ?_; clear HF ac; intro ac HF
  refine dx_p (i := 2) HF rfl (by kernel_rfl) (by kernel_rfl) (by kernel_rfl) (by decide) (fun _ _ _ h => h) (fun _ => HH) (fa_st fd101x0 rfl) rfl rfl ?_; clear HF ac; intro ac HF
  refine dx_k (i := 3) HF rfl (by kernel_rfl) (by kernel_rfl) (by kernel_rfl) (by kernel_rfl) (by kernel_rfl) (fun _ _ _ h => h) HH (ld_sc sc3 rfl rfl rfl) rfl rfl ?_; clear HF ac; intro ac HF
  refine dx_p (i := 4) HF rfl (by kernel_rfl) (by kernel_rfl) (by kernel_rfl) (by decide) (fun _ _ _ h => h) (fun _ => HH) (yl_move rfl) rfl rfl ?_; clear HF ac; intro ac HF
  refine dx_p (i := 5) HF rfl (by kernel_rfl) (by kernel_rfl) (by kernel_rfl) (by decide) (fun _ _ _ h => h) (fun _ => HH) (yl_nilCheck rfl) rfl rfl ?_; clear HF ac; intro ac HF
  refine dx_p (i := 6) HF rfl (by kernel_rfl) (by kernel_rfl) (by kernel_rfl) (by decide) (fun _ _ _ h => h) (fun _ => HH) (fa_st fd101x1 rfl) rfl rfl ?_; clear HF ac; intro ac HF
  refine dx_k (i := 7) HF rfl (by kernel_rfl) (by kernel_rfl) (by kernel_rfl) (by kernel_rfl) (by kernel_rfl) (fun _ _ _ h => h) HH (ld_sc sc22 rfl rfl rfl) rfl rfl ?_; clear HF ac; intro ac HF
  refine dx_one (i := 8) (by kernel_rfl) ?_
  refine op_call (i := 8) HF rfl Tryd.func71 (by kernel_rfl) (by kernel_rfl) (evs_cons rfl evs_nil) (cloneH_any a c ps w (h.rd.below (kp_own1 HS h.b)) hl) rfl rfl ?_; clear HF ac
  rintro _ w ⟨a1, c1, rfl, k1⟩
  refine ⟨_, rfl, fun ac HF => ?_⟩
  replace HH := HH.call k1.kp
  replace HS := HS.joinR1 k1
  clear k1
  refine ⟨fun _ => HH, ?_⟩
  refine dx_p (i := 9) HF rfl (by kernel_rfl) (by kernel_rfl) (by kernel_rfl) (by decide) (fun _ _ _ h => h) (fun _ => HH) (bd_st (parts := #[(0, .tmp 6), (1, .tmp 11)]) Tryd.underlying101 (by kernel_rfl) ze101 (evs_cons rfl (evs_cons rfl evs_nil)) (pl := [(0, 1), (1, 1)]) (by kernel_rfl) (szs := [1, 1]) rfl (inferInstance : SgW [(1, _), (1, _)]) rfl) rfl rfl ?_; clear HF ac; intro ac HF
  refine dx_one (i := 10) (by kernel_rfl) ?_
  refine op_ef (i := 10) HF rfl rfl rfl (ef_boxs HS rfl) ?_; clear HF HS ac; rintro _ w ac ⟨g13, rfl, HS⟩ HF
  replace HH := HS.d1.r1
  refine ⟨fun _ => HH, ?_⟩
  refine dx_p (i := 11) HF rfl (by kernel_rfl) (by kernel_rfl) (by kernel_rfl) (by decide) (fun _ _ _ h => h) (fun _ => HH) (yl_assign rfl) rfl rfl ?_; clear HF ac; intro ac HF
  refine dx_done (by kernel_rfl) ?_
  clear HH
  refine then_n ?_
  refine wp_ret ?_
  exact rt1 rfl HF HS rfl ⟨_, _, _, rfl, St.own1 (L := [_]) (b := ⟨g, _, _⟩) HS (kp_own1 HS h.b)⟩

set_option maxRecDepth 100000 in
theorem equalH_any (l r : List Hsh) (a b : Option Addr) (c e : Nat) (w0 : World) (hr : Rd w0 a l.length c 32 (hsc l)) (hs : Rd w0 b r.length e 32 (hsc r)) :
    Calls Tryd.prog 82 #[.slice a l.length c, .slice b r.length e] w0 fun e w' => e = .returned (.bool (decide (l = r))) ∧ Kp [] w0 w' := by
  refine calls_st (F := []) (args := [.slice a l.length c, .slice b r.length e]) Tryd.func82 rfl (n := 26) rfl rfl ?_
  intro ac w HF HS
  refine wp_seq ?_
  refine wp_region_lit ?_
  refine sx_y HF HS (yl_assign rfl) rfl rfl ?_; clear HF ac; intro ac HF
  refine wpList_nil ?_
  refine then_n ?_
  refine wp_seq ?_
  refine wp_seq ?_
  refine wp_region_lit ?_
  refine sx_y HF HS (yl_move rfl) rfl rfl ?_; clear HF ac; intro ac HF
  refine sx_y HF HS (yl_len_slice Tryd.underlying22 rfl) rfl rfl ?_; clear HF ac; intro ac HF
  refine sx_y HF HS (yl_move rfl) rfl rfl ?_; clear HF ac; intro ac HF
  refine sx_y HF HS (yl_len_slice Tryd.underlying22 rfl) rfl rfl ?_; clear HF ac; intro ac HF
  refine sx_dec HF HS (yl_neq rfl rfl rfl) rfl rfl ?_ ?_ <;> clear HF ac <;> intro h1x4 ac HF
  · have hne : ¬ l = r := fun h => by subst h; omega
    refine wpList_nil ?_
    refine then_n ?_
    refine cx_true HF rfl ?_
    refine wp_seq ?_
    refine wp_region_lit ?_
    refine sx_y HF HS (yl_assign rfl) rfl rfl ?_; clear HF ac; intro ac HF
    refine wpList_nil ?_
    refine then_n ?_
    refine wp_ret ?_
    refine then_r ?_
    exact rt1 rfl HF HS rfl ⟨by rw [decide_eq_false hne], HS.kp⟩
  · have hlr : l.length = r.length := by omega
    refine wpList_nil ?_
    refine then_n ?_
    refine cx_false HF rfl ?_
    refine wp_skip ?_
    refine then_n ?_
    refine wp_seq ?_
    refine wp_seq ?_
    refine wp_region_lit ?_
    refine sx_y HF HS (yl_move rfl) rfl rfl ?_; clear HF ac; intro ac HF
    refine sx_y HF HS (yl_len_slice Tryd.underlying22 rfl) rfl rfl ?_; clear HF ac; intro ac HF
    refine sx_y HF HS (yl_move rfl) rfl rfl ?_; clear HF ac; intro ac HF
    refine wpList_nil ?_
    refine then_n ?_
    refine wp_block ?_
    replace HF := HF.sub (m' := [(0, _), (1, _), (12, _), (13, _)]) (by repeat (first | exact ag_nil | refine ag_cons rfl ?_))
    refine cx_loop (m := [(0, _), (1, _), (12, _)]) (HF.sub (by repeat (first | exact ag_nil | refine ag_cons rfl ?_))) (fun m d ac w => ∃ i : Nat, i ≤ l.length ∧ l.take i = r.take i ∧ d = l.length - i ∧ Fr ([(13, .int .i64 (i : Int))] ++ m) 26 ac ∧ St [] w0 [] [] w) ?_ ?_
    · exact ⟨_, 0, Nat.zero_le _, rfl, rfl, HF.sub (by repeat (first | exact ag_nil | refine ag_cons rfl ?_)), HS⟩
    · clear HF HS ac w
      rintro d ac w ⟨i, hi0, htk, rfl, HF, HS⟩
      refine wp_seq ?_
      refine wp_region_lit ?_
      refine sx_dec HF HS (yl_lss rfl rfl rfl) rfl rfl ?_ ?_ <;> clear HF ac <;> intro h4x0 ac HF
      · have hlm := hr.lim
        have hlm2 := hs.lim
        have hi : i + 1 ≤ l.length := by omega
        obtain ⟨x, hx⟩ : ∃ x, l[i]? = some x := ⟨_, List.getElem?_eq_getElem (by omega)⟩
        obtain ⟨y, hy⟩ : ∃ y, r[i]? = some y := ⟨_, List.getElem?_eq_getElem (by omega)⟩
        refine wpList_nil ?_
        refine then_n ?_
        refine wp_seq ?_
        refine cx_true HF rfl ?_
        refine wp_skip ?_
        refine then_n ?_
        refine wp_seq ?_
        refine wp_block ?_
        refine wp_seq ?_
        refine wp_region_lit ?_
        refine sx_y HF HS (yl_move rfl) rfl rfl ?_; clear HF ac; intro ac HF
        refine sx_y HF HS (yl_assign rfl) rfl rfl ?_; clear HF ac; intro ac HF
        refine wpList_nil ?_
        refine then_n ?_
        refine wp_seq ?_
        refine dx_region 9 (by kernel_rfl) HS.drew (fun _ h => h) ?_; clear HS; intro w HS
        have HH := HS
        refine dx_p (i := 0) HF rfl (by kernel_rfl) (by kernel_rfl) (by kernel_rfl) (by decide) (fun _ _ _ h => h) (fun _ => HH) (yl_move rfl) rfl rfl ?_; clear HF ac; intro ac HF
        refine dx_p (i := 1) HF rfl (by kernel_rfl) (by kernel_rfl) (by kernel_rfl) (by decide) (fun _ _ _ h => h) (fun _ => HH) (yl_move rfl) rfl rfl ?_; clear HF ac; intro ac HF
        refine dx_p (i := 2) HF rfl (by kernel_rfl) (by kernel_rfl) (by kernel_rfl) (by decide) (fun _ _ _ h => h) (fun _ => HH) (ix_sl (k := i) Tryd.underlying22 sz33 rfl rfl (by omega) hr.nil0) rfl rfl ?_; clear HF ac; intro ac HF
        refine dx_k (i := 3) HF rfl (by kernel_rfl) (by kernel_rfl) (by kernel_rfl) (by kernel_rfl) (by kernel_rfl) (fun _ _ _ h => h) HH (ld_elH ag33 rfl hx (fun w h => hr.below h.kp)) rfl rfl ?_; clear HF ac; intro ac HF
        refine dx_p (i := 4) HF rfl (by kernel_rfl) (by kernel_rfl) (by kernel_rfl) (by decide) (fun _ _ _ h => h) (fun _ => HH) (yl_move rfl) rfl rfl ?_; clear HF ac; intro ac HF
        refine dx_p (i := 5) HF rfl (by kernel_rfl) (by kernel_rfl) (by kernel_rfl) (by decide) (fun _ _ _ h => h) (fun _ => HH) (yl_move rfl) rfl rfl ?_; clear HF ac; intro ac HF
        refine dx_p (i := 6) HF rfl (by kernel_rfl) (by kernel_rfl) (by kernel_rfl) (by decide) (fun _ _ _ h => h) (fun _ => HH) (ix_sl (k := i) Tryd.underlying22 sz33 rfl rfl (by omega) hs.nil0) rfl rfl ?_; clear HF ac; intro ac HF
        refine dx_k (i := 7) HF rfl (by kernel_rfl) (by kernel_rfl) (by kernel_rfl) (by kernel_rfl) (by kernel_rfl) (fun _ _ _ h => h) HH (ld_elH ag33 rfl hy (fun w h => hs.below h.kp)) rfl rfl ?_; clear HF ac; intro ac HF
        refine dx_p (i := 8) HF rfl (by kernel_rfl) (by kernel_rfl) (by kernel_rfl) (by decide) (fun _ _ _ h => h) (fun _ => HH) (Tryd.yl_neH rfl rfl rfl) rfl rfl ?_; clear HF ac; intro ac HF
        refine dx_done (by kernel_rfl) ?_
        clear HH
        refine then_n ?_
        refine cx_split HF rfl ?_ ?_ <;> intro hc6
        · have hxy : ¬ x = y := of_decide_eq_true hc6
          have hne : ¬ l = r := fun h => by subst h; exact hxy (Option.some.inj (hx.symm.trans hy))
          refine wp_seq ?_
          refine wp_region_lit ?_
          refine sx_y HF HS (yl_assign rfl) rfl rfl ?_; clear HF ac; intro ac HF
          refine wpList_nil ?_
          refine then_n ?_
          refine wp_ret ?_
          refine blk_r ?_
          refine then_r ?_
          refine then_r ?_
          refine blk_r ?_
          refine then_r ?_
          exact rt1 rfl HF HS rfl ⟨by rw [decide_eq_false hne], HS.kp⟩
        · have hxy : x = y := Decidable.not_not.1 (of_decide_eq_false hc6)
          refine wp_skip ?_
          refine blk_n ?_
          refine then_n ?_
          refine wp_region_lit ?_
          refine sx_y HF HS (yl_add64 rfl rfl rfl (by omega)) rfl rfl ?_; clear HF ac; intro ac HF
          refine sx_y HF HS (yl_move rfl) rfl rfl ?_; clear HF ac; intro ac HF
          refine wpList_nil ?_
          refine then_n ?_
          refine ⟨_, ?_, i + 1, hi, ?_, rfl, HF.sub (by repeat (first | exact ag_nil | refine ag_cons rfl ?_)), HS⟩
          · omega
          · rw [List.take_add_one, List.take_add_one, htk, hx, hy, hxy]
      · have heq : l = r := by
          have hil : i = l.length := by omega
          rw [hil, List.take_length, hlr, List.take_length] at htk
          exact htk
        refine wpList_nil ?_
        refine then_n ?_
        refine wp_seq ?_
        refine cx_false HF rfl ?_
        refine wp_exit ?_
        refine then_x ?_
        refine then_x ?_
        refine blk_hit ?_
        refine then_n ?_
        refine wp_seq ?_
        refine wp_region_lit ?_
        refine sx_y HF HS (yl_assign rfl) rfl rfl ?_; clear HF ac; intro ac HF
        refine wpList_nil ?_
        refine then_n ?_
        refine wp_ret ?_
        exact rt1 rfl HF HS rfl ⟨by rw [decide_eq_true heq], HS.kp⟩

set_option maxRecDepth 100000 in
theorem same9_any (l r : List Hsh) (a b : Option Addr) (c e : Nat) (w0 : World) (hr : Rd w0 a l.length c 32 (hsc l)) (hs : Rd w0 b r.length e 32 (hsc r)) :
    Calls Tryd.prog 21 #[.slice a l.length c, .slice b r.length e] w0 fun e w' => e = .returned (.bool (decide (l = r))) ∧ Kp [] w0 w' := by
  refine calls_st (F := []) (args := [.slice a l.length c, .slice b r.length e]) Tryd.func21 rfl (n := 26) rfl rfl ?_
  intro ac w HF HS
  refine wp_seq ?_
  refine wp_region_lit ?_
  refine sx_y HF HS (yl_assign rfl) rfl rfl ?_; clear HF ac; intro ac HF
  refine wpList_nil ?_
  refine then_n ?_
  refine wp_seq ?_
  refine wp_seq ?_
  refine wp_region_lit ?_
  refine sx_y HF HS (yl_move rfl) rfl rfl ?_; clear HF ac; intro ac HF
  refine sx_y HF HS (yl_len_slice Tryd.underlying22 rfl) rfl rfl ?_; clear HF ac; intro ac HF
  refine sx_y HF HS (yl_move rfl) rfl rfl ?_; clear HF ac; intro ac HF
  refine sx_y HF HS (yl_len_slice Tryd.underlying22 rfl) rfl rfl ?_; clear HF ac; intro ac HF
  refine sx_dec HF HS (yl_neq rfl rfl rfl) rfl rfl ?_ ?_ <;> clear HF ac <;> intro h1x4 ac HF
  · have hne : ¬ l = r := fun h => by subst h; omega
    refine wpList_nil ?_
    refine then_n ?_
    refine cx_true HF rfl ?_
    refine wp_seq ?_
    refine wp_region_lit ?_
    refine sx_y HF HS (yl_assign rfl) rfl rfl ?_; clear HF ac; intro ac HF
    refine wpList_nil ?_
    refine then_n ?_
    refine wp_ret ?_
    refine then_r ?_
    exact rt1 rfl HF HS rfl ⟨by rw [decide_eq_false hne], HS.kp⟩
  · have hlr : l.length = r.length := by omega
    refine wpList_nil ?_
    refine then_n ?_
    refine cx_false HF rfl ?_
    refine wp_skip ?_
    refine then_n ?_
    refine wp_seq ?_
    refine wp_seq ?_
    refine wp_region_lit ?_
    refine sx_y HF HS (yl_move rfl) rfl rfl ?_; clear HF ac; intro ac HF
    refine sx_y HF HS (yl_len_slice Tryd.underlying22 rfl) rfl rfl ?_; clear HF ac; intro ac HF
    refine sx_y HF HS (yl_move rfl) rfl rfl ?_; clear HF ac; intro ac HF
    refine wpList_nil ?_
    refine then_n ?_
    refine wp_block ?_
    replace HF := HF.sub (m' := [(0, _), (1, _), (12, _), (13, _)]) (by repeat (first | exact ag_nil | refine ag_cons rfl ?_))
    refine cx_loop (m := [(0, _), (1, _), (12, _)]) (HF.sub (by repeat (first | exact ag_nil | refine ag_cons rfl ?_))) (fun m d ac w => ∃ i : Nat, i ≤ l.length ∧ l.take i = r.take i ∧ d = l.length - i ∧ Fr ([(13, .int .i64 (i : Int))] ++ m) 26 ac ∧ St [] w0 [] [] w) ?_ ?_
    · exact ⟨_, 0, Nat.zero_le _, rfl, rfl, HF.sub (by repeat (first | exact ag_nil | refine ag_cons rfl ?_)), HS⟩
    · clear HF HS ac w
      rintro d ac w ⟨i, hi0, htk, rfl, HF, HS⟩
      refine wp_seq ?_
      refine wp_region_lit ?_
      refine sx_dec HF HS (yl_lss rfl rfl rfl) rfl rfl ?_ ?_ <;> clear HF ac <;> intro h4x0 ac HF
      · have hlm := hr.lim
        have hlm2 := hs.lim
        have hi : i + 1 ≤ l.length := by omega
        obtain ⟨x, hx⟩ : ∃ x, l[i]? = some x := ⟨_, List.getElem?_eq_getElem (by omega)⟩
        obtain ⟨y, hy⟩ : ∃ y, r[i]? = some y := ⟨_, List.getElem?_eq_getElem (by omega)⟩
        refine wpList_nil ?_
        refine then_n ?_
        refine wp_seq ?_
        refine cx_true HF rfl ?_
        refine wp_skip ?_
        refine then_n ?_
        refine wp_seq ?_
        refine wp_block ?_
        refine wp_seq ?_
        refine wp_region_lit ?_
        refine sx_y HF HS (yl_move rfl) rfl rfl ?_; clear HF ac; intro ac HF
        refine sx_y HF HS (yl_assign rfl) rfl rfl ?_; clear HF ac; intro ac HF
        refine wpList_nil ?_
        refine then_n ?_
        refine wp_seq ?_
        refine dx_region 9 (by kernel_rfl) HS.drew (fun _ h => h) ?_; clear HS; intro w HS
        have HH := HS
        refine dx_p (i := 0) HF rfl (by kernel_rfl) (by kernel_rfl) (by kernel_rfl) (by decide) (fun _ _ _ h => h) (fun _ => HH) (yl_move rfl) rfl rfl ?_; clear HF ac; intro ac HF
        refine dx_p (i := 1) HF rfl (by kernel_rfl) (by kernel_rfl) (by kernel_rfl) (by decide) (fun _ _ _ h => h) (fun _ => HH) (yl_move rfl) rfl rfl ?_; clear HF ac; intro ac HF
        refine dx_p (i := 2) HF rfl (by kernel_rfl) (by kernel_rfl) (by kernel_rfl) (by decide) (fun _ _ _ h => h) (fun _ => HH) (ix_sl (k := i) Tryd.underlying22 sz33 rfl rfl (by omega) hr.nil0) rfl rfl ?_; clear HF ac; intro ac HF
        refine dx_k (i := 3) HF rfl (by kernel_rfl) (by kernel_rfl) (by kernel_rfl) (by kernel_rfl) (by kernel_rfl) (fun _ _ _ h => h) HH (ld_elH ag33 rfl hx (fun w h => hr.below h.kp)) rfl rfl ?_; clear HF ac; intro ac HF
        refine dx_p (i := 4) HF rfl (by kernel_rfl) (by kernel_rfl) (by kernel_rfl) (by decide) (fun _ _ _ h => h) (fun _ => HH) (yl_move rfl) rfl rfl ?_; clear HF ac; intro ac HF
        refine dx_p (i := 5) HF rfl (by kernel_rfl) (by kernel_rfl) (by kernel_rfl) (by decide) (fun _ _ _ h => h) (fun _ => HH) (yl_move rfl) rfl rfl ?_; clear HF ac; intro ac HF
        refine dx_p (i := 6) HF rfl (by kernel_rfl) (by kernel_rfl) (by kernel_rfl) (by decide) (fun _ _ _ h => h) (fun _ => HH) (ix_sl (k := i) Tryd.underlying22 sz33 rfl rfl (by omega) hs.nil0) rfl rfl ?_; clear HF ac; intro ac HF
        refine dx_k (i := 7) HF rfl (by kernel_rfl) (by kernel_rfl) (by kernel_rfl) (by kernel_rfl) (by kernel_rfl) (fun _ _ _ h => h) HH (ld_elH ag33 rfl hy (fun w h => hs.below h.kp)) rfl rfl ?_; clear HF ac; intro ac HF
        refine dx_p (i := 8) HF rfl (by kernel_rfl) (by kernel_rfl) (by kernel_rfl) (by decide) (fun _ _ _ h => h) (fun _ => HH) (Tryd.yl_neH rfl rfl rfl) rfl rfl ?_; clear HF ac; intro ac HF
        refine dx_done (by kernel_rfl) ?_
        clear HH
        refine then_n ?_
        refine cx_split HF rfl ?_ ?_ <;> intro hc6
        · have hxy : ¬ x = y := of_decide_eq_true hc6
          have hne : ¬ l = r := fun h => by subst h; exact hxy (Option.some.inj (hx.symm.trans hy))
          refine wp_seq ?_
          refine wp_region_lit ?_
          refine sx_y HF HS (yl_assign rfl) rfl rfl ?_; clear HF ac; intro ac HF
          refine wpList_nil ?_
          refine then_n ?_
          refine wp_ret ?_
          refine blk_r ?_
          refine then_r ?_
          refine then_r ?_
          refine blk_r ?_
          refine then_r ?_
          exact rt1 rfl HF HS rfl ⟨by rw [decide_eq_false hne], HS.kp⟩
        · have hxy : x = y := Decidable.not_not.1 (of_decide_eq_false hc6)
          refine wp_skip ?_
          refine blk_n ?_
          refine then_n ?_
          refine wp_region_lit ?_
          refine sx_y HF HS (yl_add64 rfl rfl rfl (by omega)) rfl rfl ?_; clear HF ac; intro ac HF
          refine sx_y HF HS (yl_move rfl) rfl rfl ?_; clear HF ac; intro ac HF
          refine wpList_nil ?_
          refine then_n ?_
          refine ⟨_, ?_, i + 1, hi, ?_, rfl, HF.sub (by repeat (first | exact ag_nil | refine ag_cons rfl ?_)), HS⟩
          · omega
          · rw [List.take_add_one, List.take_add_one, htk, hx, hy, hxy]
      · have heq : l = r := by
          have hil : i = l.length := by omega
          rw [hil, List.take_length, hlr, List.take_length] at htk
          exact htk
        refine wpList_nil ?_
        refine then_n ?_
        refine wp_seq ?_
        refine cx_false HF rfl ?_
        refine wp_exit ?_
        refine then_x ?_
        refine then_x ?_
        refine blk_hit ?_
        refine then_n ?_
        refine wp_seq ?_
        refine wp_region_lit ?_
        refine sx_y HF HS (yl_assign rfl) rfl rfl ?_; clear HF ac; intro ac HF
        refine wpList_nil ?_
        refine then_n ?_
        refine wp_ret ?_
        exact rt1 rfl HF HS rfl ⟨by rw [decide_eq_true heq], HS.kp⟩

set_option maxRecDepth 100000 in
theorem equal9_n (g n : Nat) (ps : List Hsh) (a : Option Addr) (c : Nat) (g2 n2 : Nat) (qs : List Hsh) (b : Option Addr) (e : Nat) (w0 : World) (h : RgA w0 g n ps a c) (h2 : RgA w0 g2 n2 qs b e) (hne : g ≠ g2) (hn : n ≠ n2) :
    Calls Tryd.prog 29 #[.pointer (some ⟨g, 0, none⟩), .pointer (some ⟨g2, 0, none⟩)] w0 fun e w' => e = .returned (.bool false) ∧ Kp [] w0 w' := by
  have HK : ∀ w, St [g, g2] w0 [⟨g, sgA (rgS n a ps.length c), 101⟩, ⟨g2, sgA (rgS n2 b qs.length e), 101⟩] [] w → Kp [] w0 w := fun w HS => kp_own HS (fun x hx => by
      simp only [List.mem_cons, List.not_mem_nil, or_false] at hx
      rcases hx with rfl | rfl
      · exact ⟨_, List.mem_cons_self, rfl, h.b⟩
      · exact ⟨_, List.mem_cons_of_mem _ List.mem_cons_self, rfl, h2.b⟩)
  refine calls_stL (args := [.pointer (some ⟨g, 0, none⟩), .pointer (some ⟨g2, 0, none⟩)]) (St.ofBlk2 h.b h2.b hne) Tryd.func29 rfl (n := 25) rfl rfl ?_
  intro ac w HF HS
  refine wp_seq ?_
  refine wp_region_lit ?_
  refine sx_y HF HS (yl_assign rfl) rfl rfl ?_; clear HF ac; intro ac HF
  refine wpList_nil ?_
  refine then_n ?_
  refine wp_seq ?_
  refine dx_region 21 (by kernel_rfl) HS.drew (fun _ h => h) ?_; clear HS; intro w HS
  have HH := HS
  refine dx_p (i := 0) HF rfl (by kernel_rfl) (by kernel_rfl) (by kernel_rfl) (by decide) (fun _ _ _ h => h) (fun _ => HH) (yl_move rfl) rfl rfl ?_; clear HF ac; intro ac HF
  refine dx_p (i := 1) HF rfl (by kernel_rfl) (by kernel_rfl) (by kernel_rfl) (by decide) (fun _ _ _ h => h) (fun _ => HH) (yl_nilCheck rfl) rfl rfl ?_; clear HF ac; intro ac HF
  refine dx_p (i := 2) HF rfl (by kernel_rfl) (by kernel_rfl) (by kernel_rfl) (by decide) (fun _ _ _ h => h) (fun _ => HH) (fa_st fd101x0 rfl) rfl rfl ?_; clear HF ac; intro ac HF
  refine dx_k (i := 3) HF rfl (by kernel_rfl) (by kernel_rfl) (by kernel_rfl) (by kernel_rfl) (by kernel_rfl) (fun _ _ _ h => h) HH (ld_sc sc3 rfl rfl rfl) rfl rfl ?_; clear HF ac; intro ac HF
  refine dx_p (i := 4) HF rfl (by kernel_rfl) (by kernel_rfl) (by kernel_rfl) (by decide) (fun _ _ _ h => h) (fun _ => HH) (yl_move rfl) rfl rfl ?_; clear HF ac; intro ac HF
  refine dx_p (i := 5) HF rfl (by kernel_rfl) (by kernel_rfl) (by kernel_rfl) (by decide) (fun _ _ _ h => h) (fun _ => HH) (yl_nilCheck rfl) rfl rfl ?_; clear HF ac; intro ac HF
  refine dx_p (i := 6) HF rfl (by kernel_rfl) (by kernel_rfl) (by kernel_rfl) (by decide) (fun _ _ _ h => h) (fun _ => HH) (fa_st fd101x0 rfl) rfl rfl ?_; clear HF ac; intro ac HF
  refine dx_k (i := 7) HF rfl (by kernel_rfl) (by kernel_rfl) (by kernel_rfl) (by kernel_rfl) (by kernel_rfl) (fun _ _ _ h => h) HH (ld_sc sc3 rfl rfl rfl) rfl rfl ?_; clear HF ac; intro ac HF
  refine dx_p (i := 8) HF rfl (by kernel_rfl) (by kernel_rfl) (by kernel_rfl) (by decide) (fun _ _ _ h => h) (fun _ => HH) (yl_eql rfl rfl (decide_eq_false (by omega))) rfl rfl ?_; clear HF ac; intro ac HF
  refine dx_p (i := 9) HF rfl (by kernel_rfl) (by kernel_rfl) (by kernel_rfl) (by decide) (fun _ _ _ h => h) (fun _ => HH) (yl_move rfl) rfl rfl ?_; clear HF ac; intro ac HF
  refine dx_off (i := 10) HF rfl (by kernel_rfl) (by kernel_rfl) (by kernel_rfl) (by decide) (fun _ _ _ h => h) (fun _ => HH) rfl rfl ?_; clear HF ac; intro ac HF
  refine dx_off (i := 11) HF rfl (by kernel_rfl) (by kernel_rfl) (by kernel_rfl) (by decide) (fun _ _ _ h => h) (fun _ => HH) rfl rfl ?_; clear HF ac; intro ac HF
  refine dx_off (i := 12) HF rfl (by kernel_rfl) (by kernel_rfl) (by kernel_rfl) (by decide) (fun _ _ _ h => h) (fun _ => HH) rfl rfl ?_; clear HF ac; intro ac HF
  refine dx_off (i := 13) HF rfl (by kernel_rfl) (by kernel_rfl) (by kernel_rfl) (by decide) (fun _ _ _ h => h) (fun _ => HH) rfl rfl ?_; clear HF ac; intro ac HF
  refine dx_off (i := 14) HF rfl (by kernel_rfl) (by kernel_rfl) (by kernel_rfl) (by decide) (fun _ _ _ h => h) (fun _ => HH) rfl rfl ?_; clear HF ac; intro ac HF
  refine dx_off (i := 15) HF rfl (by kernel_rfl) (by kernel_rfl) (by kernel_rfl) (by decide) (fun _ _ _ h => h) (fun _ => HH) rfl rfl ?_; clear HF ac; intro ac HF
  refine dx_off (i := 16) HF rfl (by kernel_rfl) (by kernel_rfl) (by kernel_rfl) (by decide) (fun _ _ _ h => h) (fun _ => HH) rfl rfl ?_; clear HF ac; intro ac HF
  refine dx_off (i := 17) HF rfl (by kernel_rfl) (by kernel_rfl) (by kernel_rfl) (by decide) (fun _ _ _ h => h) (fun _ => HH) rfl rfl ?_; clear HF ac; intro ac HF
  refine dx_off (i := 18) HF rfl (by kernel_rfl) (by kernel_rfl) (by kernel_rfl) (by decide) (fun _ _ _ h => h) (fun _ => HH) rfl rfl ?_; clear HF ac; intro ac HF
  refine dx_p (i := 19) HF rfl (by kernel_rfl) (by kernel_rfl) (by kernel_rfl) (by decide) (fun _ _ _ h => h) (fun _ => HH) (yl_pick (b := false) rfl rfl) rfl rfl ?_; clear HF ac; intro ac HF
  refine dx_p (i := 20) HF rfl (by kernel_rfl) (by kernel_rfl) (by kernel_rfl) (by decide) (fun _ _ _ h => h) (fun _ => HH) (yl_assign rfl) rfl rfl ?_; clear HF ac; intro ac HF
  refine dx_done (by kernel_rfl) ?_
  clear HH
  refine then_n ?_
  refine wp_ret ?_
  exact rt1 rfl HF HS rfl ⟨rfl, HK w HS⟩

set_option maxRecDepth 100000 in
theorem equal9_p (g n : Nat) (ps : List Hsh) (a : Option Addr) (c : Nat) (g2 n2 : Nat) (qs : List Hsh) (b : Option Addr) (e : Nat) (w0 : World) (h : RgA w0 g n ps a c) (h2 : RgA w0 g2 n2 qs b e) (hne : g ≠ g2) (hn : n = n2) :
    Calls Tryd.prog 29 #[.pointer (some ⟨g, 0, none⟩), .pointer (some ⟨g2, 0, none⟩)] w0 fun e w' => e = .returned (.bool (decide (ps = qs))) ∧ Kp [] w0 w' := by
  have HK : ∀ w, St [g, g2] w0 [⟨g, sgA (rgS n a ps.length c), 101⟩, ⟨g2, sgA (rgS n2 b qs.length e), 101⟩] [] w → Kp [] w0 w := fun w HS => kp_own HS (fun x hx => by
      simp only [List.mem_cons, List.not_mem_nil, or_false] at hx
      rcases hx with rfl | rfl
      · exact ⟨_, List.mem_cons_self, rfl, h.b⟩
      · exact ⟨_, List.mem_cons_of_mem _ List.mem_cons_self, rfl, h2.b⟩)
  refine calls_stL (args := [.pointer (some ⟨g, 0, none⟩), .pointer (some ⟨g2, 0, none⟩)]) (St.ofBlk2 h.b h2.b hne) Tryd.func29 rfl (n := 25) rfl rfl ?_
  intro ac w HF HS
  refine wp_seq ?_
  refine wp_region_lit ?_
  refine sx_y HF HS (yl_assign rfl) rfl rfl ?_; clear HF ac; intro ac HF
  refine wpList_nil ?_
  refine then_n ?_
  refine wp_seq ?_
  refine dx_region 21 (by kernel_rfl) HS.drew (fun _ h => h) ?_; clear HS; intro w HS
  have HH := HS
  refine dx_p (i := 0) HF rfl (by kernel_rfl) (by kernel_rfl) (by kernel_rfl) (by decide) (fun _ _ _ h => h) (fun _ => HH) (yl_move rfl) rfl rfl ?_; clear HF ac; intro ac HF
  refine dx_p (i := 1) HF rfl (by kernel_rfl) (by kernel_rfl) (by kernel_rfl) (by decide) (fun _ _ _ h => h) (fun _ => HH) (yl_nilCheck rfl) rfl rfl ?_; clear HF ac; intro ac HF
  refine dx_p (i := 2) HF rfl (by kernel_rfl) (by kernel_rfl) (by kernel_rfl) (by decide) (fun _ _ _ h => h) (fun _ => HH) (fa_st fd101x0 rfl) rfl rfl ?_; clear HF ac; intro ac HF
  refine dx_k (i := 3) HF rfl (by kernel_rfl) (by kernel_rfl) (by kernel_rfl) (by kernel_rfl) (by kernel_rfl) (fun _ _ _ h => h) HH (ld_sc sc3 rfl rfl rfl) rfl rfl ?_; clear HF ac; intro ac HF
  refine dx_p (i := 4) HF rfl (by kernel_rfl) (by kernel_rfl) (by kernel_rfl) (by decide) (fun _ _ _ h => h) (fun _ => HH) (yl_move rfl) rfl rfl ?_; clear HF ac; intro ac HF
  refine dx_p (i := 5) HF rfl (by kernel_rfl) (by kernel_rfl) (by kernel_rfl) (by decide) (fun _ _ _ h => h) (fun _ => HH) (yl_nilCheck rfl) rfl rfl ?_; clear HF ac; intro ac HF
  refine dx_p (i := 6) HF rfl (by kernel_rfl) (by kernel_rfl) (by kernel_rfl) (by decide) (fun _ _ _ h => h) (fun _ => HH) (fa_st fd101x0 rfl) rfl rfl ?_; clear HF ac; intro ac HF
  refine dx_k (i := 7) HF rfl (by kernel_rfl) (by kernel_rfl) (by kernel_rfl) (by kernel_rfl) (by kernel_rfl) (fun _ _ _ h => h) HH (ld_sc sc3 rfl rfl rfl) rfl rfl ?_; clear HF ac; intro ac HF
  refine dx_p (i := 8) HF rfl (by kernel_rfl) (by kernel_rfl) (by kernel_rfl) (by decide) (fun _ _ _ h => h) (fun _ => HH) (yl_eql rfl rfl (decide_eq_true (by omega))) rfl rfl ?_; clear HF ac; intro ac HF
  refine dx_p (i := 9) HF rfl (by kernel_rfl) (by kernel_rfl) (by kernel_rfl) (by decide) (fun _ _ _ h => h) (fun _ => HH) (yl_move rfl) rfl rfl ?_; clear HF ac; intro ac HF
  refine dx_p (i := 10) HF rfl (by kernel_rfl) (by kernel_rfl) (by kernel_rfl) (by decide) (fun _ _ _ h => h) (fun _ => HH) (yl_move rfl) rfl rfl ?_; clear HF ac; intro ac HF
  refine dx_p (i := 11) HF rfl (by kernel_rfl) (by kernel_rfl) (by kernel_rfl) (by decide) (fun _ _ _ h => h) (fun _ => HH) (yl_nilCheck rfl) rfl rfl ?_; clear HF ac; intro ac HF
  refine dx_p (i := 12) HF rfl (by kernel_rfl) (by kernel_rfl) (by kernel_rfl) (by decide) (fun _ _ _ h => h) (fun _ => HH) (fa_st fd101x1 rfl) rfl rfl ?_; clear HF ac; intro ac HF
  refine dx_k (i := 13) HF rfl (by kernel_rfl) (by kernel_rfl) (by kernel_rfl) (by kernel_rfl) (by kernel_rfl) (fun _ _ _ h => h) HH (ld_sc sc22 rfl rfl rfl) rfl rfl ?_; clear HF ac; intro ac HF
  refine dx_p (i := 14) HF rfl (by kernel_rfl) (by kernel_rfl) (by kernel_rfl) (by decide) (fun _ _ _ h => h) (fun _ => HH) (yl_move rfl) rfl rfl ?_; clear HF ac; intro ac HF
  refine dx_p (i := 15) HF rfl (by kernel_rfl) (by kernel_rfl) (by kernel_rfl) (by decide) (fun _ _ _ h => h) (fun _ => HH) (yl_nilCheck rfl) rfl rfl ?_; clear HF ac; intro ac HF
  refine dx_p (i := 16) HF rfl (by kernel_rfl) (by kernel_rfl) (by kernel_rfl) (by decide) (fun _ _ _ h => h) (fun _ => HH) (fa_st fd101x1 rfl) rfl rfl ?_; clear HF ac; intro ac HF
  refine dx_k (i := 17) HF rfl (by kernel_rfl) (by kernel_rfl) (by kernel_rfl) (by kernel_rfl) (by kernel_rfl) (fun _ _ _ h => h) HH (ld_sc sc22 rfl rfl rfl) rfl rfl ?_; clear HF ac; intro ac HF
  refine dx_one (i := 18) (by kernel_rfl) ?_
  refine op_call (i := 18) HF rfl Tryd.func82 (by kernel_rfl) (by kernel_rfl) (evs_cons rfl (evs_cons rfl evs_nil)) (equalH_any ps qs a b c e w (h.rd.below (HK w HS)) (h2.rd.below (HK w HS))) rfl rfl ?_; clear HF ac
  rintro _ w ⟨rfl, k1⟩
  refine ⟨_, rfl, fun ac HF => ?_⟩
  replace HH := HH.call k1
  replace HS := HS.call k1
  clear k1
  refine ⟨fun _ => HH, ?_⟩
  refine dx_p (i := 19) HF rfl (by kernel_rfl) (by kernel_rfl) (by kernel_rfl) (by decide) (fun _ _ _ h => h) (fun _ => HH) (yl_pick (b := true) rfl rfl) rfl rfl ?_; clear HF ac; intro ac HF
  refine dx_p (i := 20) HF rfl (by kernel_rfl) (by kernel_rfl) (by kernel_rfl) (by decide) (fun _ _ _ h => h) (fun _ => HH) (yl_assign rfl) rfl rfl ?_; clear HF ac; intro ac HF
  refine dx_done (by kernel_rfl) ?_
  clear HH
  refine then_n ?_
  refine wp_ret ?_
  exact rt1 rfl HF HS rfl ⟨rfl, HK w HS⟩

theorem equal9_any (g n : Nat) (ps : List Hsh) (a : Option Addr) (c : Nat) (g2 n2 : Nat) (qs : List Hsh) (b : Option Addr) (e : Nat) (w0 : World) (h : RgA w0 g n ps a c) (h2 : RgA w0 g2 n2 qs b e) (hne : g ≠ g2) :
    Calls Tryd.prog 29 #[.pointer (some ⟨g, 0, none⟩), .pointer (some ⟨g2, 0, none⟩)] w0 fun e w' => e = .returned (.bool (decide (n = n2 ∧ ps = qs))) ∧ Kp [] w0 w' := by
  by_cases hn : n = n2
  · have := equal9_p g n ps a c g2 n2 qs b e w0 h h2 hne hn
    rw [show decide (n = n2 ∧ ps = qs) = decide (ps = qs) by simp [hn]]
    exact this
  · have := equal9_n g n ps a c g2 n2 qs b e w0 h h2 hne hn
    rw [show decide (n = n2 ∧ ps = qs) = false by simp [hn]]
    exact this

end Go.Proofs.YtalnkhgonfcabaaDoor

namespace Go.Proofs.YtalnkhgonfcabaaDoor.R
open Go.RowKit Go.Proofs.YtalnkhgonfcabaaDoor

/-! ### Types -/
namespace It1
theorem ag33 : AgT Tryd.prog 33 32 := AgT.mk' Tryd.underlying33 rfl (by kernel_rfl)
theorem sc22 : ScT Tryd.prog 22 := ScT.mk' Tryd.underlying22 rfl (by kernel_rfl)
theorem sz33 : (Tryd.prog.info? 33).map (·.size) = some 32 := by kernel_rfl
end It1
open Go.Proofs.YtalnkhgonfcabaaDoor.R.It1

set_option maxRecDepth 100000 in
theorem back_iter (l : List Hsh) (g : Nat) (a : Option Addr) (c : Nat) (W0 : World) (hg : W0.heap[g]? = some (.cells (sgA [(1, .slice a l.length c)]) 22 (0, 0))) (hr : Rd W0 a l.length c 32 (hsc l)) :
    Iter Tryd.prog 116 [.pointer (some ⟨g, 0, none⟩)] (fun k => [.int .i64 ((l.length - 1 - k : Nat) : Int), hv (l.getD (l.length - 1 - k) zeroH)]) l.length (g :: aF a) W0 := by
  intro lr J Jx G0 hJ hJx hG0 hj0 hY
  have hgl : g < W0.heap.size := (Array.getElem?_eq_some_iff.1 hg).1
  have haG : ∀ x ∈ aF a, x ∉ G0 := fun x hx hh => hG0 x hh (List.mem_cons_of_mem _ hx)
  have hlm := hr.lim
  refine callsIn_it (args := [.func (.yield lr) #[] #[], .pointer (some ⟨g, 0, none⟩)]) Tryd.func116 rfl (n := 19) rfl rfl ?_
  intro ac w HF hw
  have HS := St.ofBlk (hw ▸ hg)
  have hi : It J G0 W0 0 G0 w := by rw [hw]; exact It.start hj0
  clear hw
  refine wp_seq ?_
  refine wp_region_lit ?_
  refine sx_y HF HS (ld_sc sc22 rfl rfl rfl) rfl rfl ?_; clear HF ac; intro ac HF
  refine sx_y HF HS (yl_len_slice Tryd.underlying22 rfl) rfl rfl ?_; clear HF ac; intro ac HF
  refine sx_y HF HS (yl_sub64 (r := ((l.length : Int) - 1)) rfl rfl (by omega) (by omega)) rfl rfl ?_; clear HF ac; intro ac HF
  refine sx_y HF HS (yl_assign rfl) rfl rfl ?_; clear HF ac; intro ac HF
  refine wpList_nil ?_
  refine then_n ?_
  refine wp_block ?_
  rw [show (l.length : Int) - 1 = (l.length : Int) - 1 - ((0 : Nat) : Int) by simp] at HF
  replace HF := HF.sub (m' := [(0, _), (1, _), (3, _)]) (by repeat (first | exact ag_nil | refine ag_cons rfl ?_))
  refine cx_loop (m := [(0, _), (1, _)]) (HF.sub (by repeat (first | exact ag_nil | refine ag_cons rfl ?_))) (fun m d ac w => ∃ (k : Nat) (G : List Nat), k ≤ l.length ∧ It J G0 W0 k G w ∧ d = l.length - k ∧ Fr [] ([(3, .int .i64 ((l.length : Int) - 1 - k))] ++ m) 19 ac ∧ St [g] w [⟨g, sgA [(1, .slice a l.length c)], 22⟩] [] w) ?_ ?_
  · exact ⟨_, 0, G0, Nat.zero_le _, hi, rfl, HF.sub (by repeat (first | exact ag_nil | refine ag_cons rfl ?_)), HS.rebase⟩
  · clear hi HF HS ac w
    rintro d ac w ⟨k, G, hk0, hi, rfl, HF, HS⟩
    refine wp_seq ?_
    refine wp_seq ?_
    refine wp_region_lit ?_
    refine sx_y HF HS (yl_move rfl) rfl rfl ?_; clear HF ac; intro ac HF
    refine sx_dec HF HS (yl_geq rfl rfl rfl) rfl rfl ?_ ?_ <;> clear HF ac <;> intro h1x1 ac HF
    · have hk : k < l.length := by omega
      have hix : (l.length : Int) - 1 - k = ((l.length - 1 - k : Nat) : Int) := by omega
      rw [hix] at HF
      have hx : l[l.length - 1 - k]? = some (l.getD (l.length - 1 - k) zeroH) := by rw [List.getD_eq_getElem?_getD, List.getElem?_eq_getElem (by omega)]; rfl
      have hrw := hr.kept hi.kp haG
      refine wpList_nil ?_
      refine then_n ?_
      refine cx_true HF rfl ?_
      refine wp_skip ?_
      refine then_n ?_
      refine wp_seq ?_
      refine wp_block ?_
      refine wp_seq ?_
      refine wp_region_lit ?_
      refine sx_y HF HS (yl_move rfl) rfl rfl ?_; clear HF ac; intro ac HF
      refine sx_y HF HS (yl_move rfl) rfl rfl ?_; clear HF ac; intro ac HF
      refine sx_y HF HS (ld_sc sc22 rfl rfl rfl) rfl rfl ?_; clear HF ac; intro ac HF
      refine sx_y HF HS (yl_move rfl) rfl rfl ?_; clear HF ac; intro ac HF
      refine sx_y HF HS (ix_sl (k := (l.length - 1 - k)) Tryd.underlying22 sz33 rfl rfl (by omega) hrw.nil0) rfl rfl ?_; clear HF ac; intro ac HF
      refine sx_y HF HS (ld_elH ag33 rfl hx (fun w h => hrw.below (kp_nil HS h (by simp)))) rfl rfl ?_; clear HF ac; intro ac HF
      refine sx_yield (lr := lr) HF rfl (evs_cons rfl (evs_cons rfl evs_nil)) (hY k G w hk hi.j) rfl rfl ?_; clear HF ac
      rintro _ w (⟨rfl, G, hj, hadv⟩ | ⟨rfl, G, hj⟩)
      · refine ⟨_, rfl, fun ac HF => ?_⟩
        have HS := HS.at' hadv.kp (fun x hx hh => by simp [ids] at hh; subst hh; exact hi.out hG0 List.mem_cons_self hgl hx)
        replace hi := hi.next hj hadv
        refine sx_y HF HS (yl_not rfl) rfl rfl ?_; clear HF ac; intro ac HF
        refine wpList_nil ?_
        refine then_n ?_
        refine cx_false HF rfl ?_
        refine wp_skip ?_
        refine blk_n ?_
        refine then_n ?_
        refine wp_region_lit ?_
        refine sx_y HF HS (yl_move rfl) rfl rfl ?_; clear HF ac; intro ac HF
        refine sx_y HF HS (yl_sub64 (r := ((l.length : Int) - 1 - (k + 1 : Nat))) rfl rfl (by omega) (by omega)) rfl rfl ?_; clear HF ac; intro ac HF
        refine sx_y HF HS (yl_assign rfl) rfl rfl ?_; clear HF ac; intro ac HF
        refine wpList_nil ?_
        refine then_n ?_
        refine ⟨_, ?_, k + 1, G, hk, hi, rfl, HF.sub (by repeat (first | exact ag_nil | refine ag_cons rfl ?_)), HS⟩
        omega
      · refine ⟨_, rfl, fun ac HF => ?_⟩
        have HS := St.start [] w
        refine sx_y HF HS (yl_not rfl) rfl rfl ?_; clear HF ac; intro ac HF
        refine wpList_nil ?_
        refine then_n ?_
        refine cx_true HF rfl ?_
        refine wp_ret ?_
        refine blk_r ?_
        refine then_r ?_
        refine then_r ?_
        refine blk_r ?_
        exact leave0 HF (rt0 rfl HF.fr ⟨⟨_, rfl⟩, .inr ⟨k, G, hk, hj⟩⟩)
    · obtain rfl : k = l.length := by omega
      refine wpList_nil ?_
      refine then_n ?_
      refine cx_false HF rfl ?_
      refine wp_exit ?_
      refine then_x ?_
      refine then_x ?_
      refine blk_hit ?_
      refine bp_n ?_
      exact leave0 HF (rt0 rfl HF.fr ⟨⟨_, rfl⟩, .inl ⟨G, hi.j⟩⟩)

end Go.Proofs.YtalnkhgonfcabaaDoor.R

namespace Go.Proofs.YtalnkhgonfcabaaDoor
open Go.RowKit

set_option maxRecDepth 100000 in
theorem backward_any (a : Option Addr) (n c : Nat) (w0 : World) :
    Calls Tryd.prog 72 #[.slice a n c] w0 fun e w' => ∃ g, e = .returned (.func (.func 116) #[] [.pointer (some ⟨g, 0, none⟩)].toArray) ∧ St [] w0 [⟨g, sgA [(1, .slice a n c)], 22⟩] [] w' := by
  refine calls_st (F := []) (args := [.slice a n c]) Tryd.func72 rfl (n := 4) rfl rfl ?_
  intro ac w HF HS
  refine wp_seq ?_
  refine wp_region_lit ?_
  refine sx_ef HF (ef_box (n := 1) HS rfl) rfl rfl ?_; clear HF HS ac; rintro _ w ac ⟨g1, rfl, HS⟩ HF
  refine sx_y HF HS (yl_assign rfl) rfl rfl ?_; clear HF ac; intro ac HF
  refine wpList_nil ?_
  refine then_n ?_
  refine wp_seq ?_
  refine wp_region_lit ?_
  refine sx_y HF HS (yl_makeFunc evs_nil (evs_cons rfl evs_nil)) rfl rfl ?_; clear HF ac; intro ac HF
  refine sx_y HF HS (yl_assign rfl) rfl rfl ?_; clear HF ac; intro ac HF
  refine wpList_nil ?_
  refine then_n ?_
  refine wp_ret ?_
  exact rt1 rfl HF HS rfl ⟨g1, rfl, HS⟩

end Go.Proofs.YtalnkhgonfcabaaDoor

namespace Go.Proofs.YtalnkhgonfcabaaDoor.R
open Go.RowKit Go.Proofs.YtalnkhgonfcabaaDoor

/-! ### Types -/
namespace Cmp4
theorem ag33 : AgT Tryd.prog 33 32 := AgT.mk' Tryd.underlying33 rfl (by kernel_rfl)
theorem fd101x0 : FdT Tryd.prog 101 0 0 := FdT.mk' (k := 0) Tryd.underlying101 (by kernel_rfl)
theorem fd101x1 : FdT Tryd.prog 101 1 1 := FdT.mk' (k := 0) Tryd.underlying101 (by kernel_rfl)
theorem sc3 : ScT Tryd.prog 3 := ScT.mk' Tryd.underlying3 rfl (by kernel_rfl)
theorem sc22 : ScT Tryd.prog 22 := ScT.mk' Tryd.underlying22 rfl (by kernel_rfl)
theorem sz33 : (Tryd.prog.info? 33).map (·.size) = some 32 := by kernel_rfl
theorem ze33 : ZeS Tryd.prog 33 [(32, hv zeroH)] := ⟨hv zeroH, ZeT.mk' (by kernel_rfl), (sgA_h zeroH).symm⟩
end Cmp4
open Go.Proofs.YtalnkhgonfcabaaDoor.R.Cmp4

theorem peaksR_drop (ps : List Hsh) (k : Nat) (hk : k + 2 ≤ ps.length) : nodeH ((ps.take (ps.length - 1)).getD (ps.length - 1 - 1 - k) zeroH) (peaksR (ps.drop (ps.length - 1 - k))) = peaksR (ps.drop (ps.length - 1 - (k + 1))) := by
  have h1 : ps.length - 1 - 1 - k < ps.length := by omega
  have e : ps.drop (ps.length - 1 - (k + 1)) = ps[ps.length - 1 - 1 - k] :: ps.drop (ps.length - 1 - k) := by
    rw [show ps.length - 1 - (k + 1) = ps.length - 1 - 1 - k by omega, List.drop_eq_getElem_cons h1, show ps.length - 1 - 1 - k + 1 = ps.length - 1 - k by omega]
  have hne : ps.drop (ps.length - 1 - k) ≠ [] := by
    intro h
    have := congrArg List.length h
    rw [List.length_drop] at this
    simp at this; omega
  rw [e, peaksR_cons _ hne, List.getD_eq_getElem?_getD, List.getElem?_take, if_pos (by omega), List.getElem?_eq_getElem h1]
  rfl
theorem peaksR_last (ps : List Hsh) (x : Hsh) (hx : ps[ps.length - 1]? = some x) : peaksR (ps.drop (ps.length - 1)) = x := by
  rw [drop_at hx, List.drop_eq_nil_of_le (by omega)]; rfl

set_option maxRecDepth 100000 in
theorem root9_some (g n : Nat) (ps : List Hsh) (a : Option Addr) (c : Nat) (w0 : World) (hg : RgA w0 g n ps a c) (hn : n ≠ 0) (hne : 1 ≤ ps.length) (hL : Laid w0) (h2 : 4 ≤ w0.heap.size) :
    Calls Tryd.prog 23 #[.pointer (some ⟨g, 0, none⟩)] w0 fun e w' => e = .returned (hv (peaksR ps)) ∧ Kp [] w0 w' := by
  have hr0 := hg.rd
  have hlm := hr0.lim
  obtain ⟨x, hx⟩ : ∃ x, ps[ps.length - 1]? = some x := ⟨_, List.getElem?_eq_getElem (by omega)⟩
  have hlt : (ps.take (ps.length - 1)).length = ps.length - 1 := by rw [List.length_take]; omega
  refine calls_stL (args := [.pointer (some ⟨g, 0, none⟩)]) (St.ofBlk hg.b) Tryd.func23 rfl (n := 39) rfl rfl ?_
  intro ac w HF HS
  refine wp_seq ?_
  refine wp_region_lit ?_
  refine sx_ef HF (ef_alloc HS ze33) rfl rfl ?_; clear HF HS ac; rintro _ w ac ⟨g2, rfl, HS⟩ HF
  refine wpList_nil ?_
  refine then_n ?_
  refine wp_seq ?_
  refine wp_seq ?_
  refine wp_region_lit ?_
  refine sx_y HF HS (yl_move rfl) rfl rfl ?_; clear HF ac; intro ac HF
  refine sx_y HF HS (yl_nilCheck rfl) rfl rfl ?_; clear HF ac; intro ac HF
  refine sx_y HF HS (fa_st fd101x0 rfl) rfl rfl ?_; clear HF ac; intro ac HF
  refine sx_y HF HS (ld_sc sc3 rfl rfl rfl) rfl rfl ?_; clear HF ac; intro ac HF
  refine sx_y HF HS (yl_eql rfl rfl (decide_eq_false (by omega))) rfl rfl ?_; clear HF ac; intro ac HF
  refine wpList_nil ?_
  refine then_n ?_
  refine cx_false HF rfl ?_
  refine wp_skip ?_
  refine then_n ?_
  refine wp_seq ?_
  refine wp_region_lit ?_
  refine sx_y HF HS (yl_move rfl) rfl rfl ?_; clear HF ac; intro ac HF
  refine sx_y HF HS (yl_nilCheck rfl) rfl rfl ?_; clear HF ac; intro ac HF
  refine sx_y HF HS (fa_st fd101x1 rfl) rfl rfl ?_; clear HF ac; intro ac HF
  refine sx_y HF HS (ld_sc sc22 rfl rfl rfl) rfl rfl ?_; clear HF ac; intro ac HF
  refine sx_y HF HS (yl_len_slice Tryd.underlying22 rfl) rfl rfl ?_; clear HF ac; intro ac HF
  refine sx_y HF HS (yl_sub64 (r := ((ps.length - 1 : Nat) : Int)) rfl rfl (by omega) (by omega)) rfl rfl ?_; clear HF ac; intro ac HF
  refine sx_y HF HS (yl_assign rfl) rfl rfl ?_; clear HF ac; intro ac HF
  refine wpList_nil ?_
  refine then_n ?_
  refine wp_seq ?_
  refine wp_region_lit ?_
  refine sx_y HF HS (yl_move rfl) rfl rfl ?_; clear HF ac; intro ac HF
  refine sx_y HF HS (yl_nilCheck rfl) rfl rfl ?_; clear HF ac; intro ac HF
  refine sx_y HF HS (fa_st fd101x1 rfl) rfl rfl ?_; clear HF ac; intro ac HF
  refine sx_y HF HS (ld_sc sc22 rfl rfl rfl) rfl rfl ?_; clear HF ac; intro ac HF
  refine sx_y HF HS (yl_move rfl) rfl rfl ?_; clear HF ac; intro ac HF
  refine sx_y HF HS (ix_sl (k := ps.length - 1) Tryd.underlying22 sz33 rfl rfl (by omega) hr0.nil0) rfl rfl ?_; clear HF ac; intro ac HF
  refine sx_y HF HS (ld_elH ag33 rfl hx (fun w h => hr0.below (kp_own1 h hg.b))) rfl rfl ?_; clear HF ac; intro ac HF
  refine sx_ef HF (ef_alloc HS ze33) rfl rfl ?_; clear HF HS ac; rintro _ w ac ⟨g4, rfl, HS⟩ HF
  refine sx_ef0 HF (ef_store HS sz33 rfl rfl rfl) rfl ?_; clear HS; rintro _ w HS
  refine wpList_nil ?_
  refine then_n ?_
  refine wp_seq ?_
  refine wp_seq ?_
  refine wp_region_lit ?_
  refine sx_y HF HS (yl_move rfl) rfl rfl ?_; clear HF ac; intro ac HF
  refine sx_y HF HS (yl_nilCheck rfl) rfl rfl ?_; clear HF ac; intro ac HF
  refine sx_y HF HS (fa_st fd101x1 rfl) rfl rfl ?_; clear HF ac; intro ac HF
  refine sx_y HF HS (ld_sc sc22 rfl rfl rfl) rfl rfl ?_; clear HF ac; intro ac HF
  refine sx_y HF HS (yl_move rfl) rfl rfl ?_; clear HF ac; intro ac HF
  refine sx_y HF HS (sl_hi (r := (ps.take (ps.length - 1)).length) Tryd.underlying22 sz33 rfl rfl (by omega) (by rw [List.length_take]; omega)) rfl rfl ?_; clear HF ac; intro ac HF
  refine sx_call HF Tryd.func72 (by kernel_rfl) (by kernel_rfl) (evs_cons rfl evs_nil) (backward_any a (ps.take (ps.length - 1)).length c w) rfl rfl ?_; clear HF ac
  rintro _ w ⟨g9, rfl, k1⟩
  refine ⟨_, rfl, fun ac HF => ?_⟩
  have hk9 := kp_own1 HS hg.b
  replace HS : St [g] w0 (⟨g9, sgA [(1, .slice a (ps.take (ps.length - 1)).length c)], 22⟩ :: [⟨g4, sgA [(32, hv x)], 33⟩, ⟨g2, sgA [(32, hv zeroH)], 33⟩] ++ [⟨g, sgA (rgS n a ps.length c), 101⟩]) [] w := HS.join k1
  clear k1
  refine wpList_nil ?_
  refine then_n ?_
  refine wp_block ?_
  replace HS : St [g] w0 [⟨g9, sgA [(1, .slice a (ps.take (ps.length - 1)).length c)], 22⟩, ⟨g4, sgA [(32, hv x)], 33⟩, ⟨g2, sgA [(32, hv zeroH)], 33⟩, ⟨g, sgA (rgS n a ps.length c), 101⟩] [] w := HS
  have hk0 : Kp [] w0 w := kp_own1 (g := g) (s := rgS n a ps.length c) (bt := 101) HS hg.b
  have hb9 : w.heap[g9]? = some (.cells (sgA [(1, .slice a (ps.take (ps.length - 1)).length c)]) 22 (0, 0)) := HS.blk _ List.mem_cons_self
  have hnd := HS.nd
  have hnew := HS.new
  replace HS : St (ids [⟨g4, sgA [(32, hv x)], 33⟩, ⟨g2, sgA [(32, hv zeroH)], 33⟩] []) w [⟨g4, sgA [(32, hv x)], 33⟩, ⟨g2, sgA [(32, hv zeroH)], 33⟩] [] w := (HS.sub (L' := [⟨g4, sgA [(32, hv x)], 33⟩, ⟨g2, sgA [(32, hv zeroH)], 33⟩]) (R' := []) (List.Sublist.cons _ (List.Sublist.cons_cons _ (List.Sublist.cons_cons _ (List.Sublist.cons _ List.Sublist.slnil)))) (List.Sublist.refl _)).rebase
  have hfr : w0.heap.size ≤ g4 ∧ w0.heap.size ≤ g2 ∧ g9 ≠ g4 ∧ g9 ≠ g2 := by
    have h4 := hnew g4 (by simp [ids])
    have h22 := hnew g2 (by simp [ids])
    simp [ids] at hnd
    simp at h4 h22
    omega
  have haw : ∀ y ∈ aF a, y < w0.heap.size := hr0.lt (by rw [hsc_length]; omega)
  have hRs : ∀ y ∈ ids [⟨g4, sgA [(32, hv x)], 33⟩, ⟨g2, sgA [(32, hv zeroH)], 33⟩] [], y ∉ (g9 :: aF a) := by
    intro y hy hh
    simp [ids] at hy hh
    rcases hh with hh | hh
    · omega
    · have := haw y hh
      omega
  have hRl : ∀ y ∈ (g9 :: aF a), y < w.heap.size := by
    intro y hy
    rcases List.mem_cons.1 hy with rfl | hy
    · exact (Array.getElem?_eq_some_iff.1 hb9).1
    · have := haw y hy
      have := hk0.size
      omega
  have hLp := hL.below hk0
  have h2p := Nat.le_trans h2 hk0.size
  have HKK : ∀ w', Kp (ids [⟨g4, sgA [(32, hv x)], 33⟩, ⟨g2, sgA [(32, hv zeroH)], 33⟩] []) w w' → Kp [] w0 w' := fun w' k => hk0.trans k (fun y hy hlt2 => by simp [ids] at hy; omega)
  replace HF := HF.sub (m' := [(2, _), (4, _), (32, _)]) (by repeat (first | exact ag_nil | refine ag_cons rfl ?_))
  refine wp_range (B := w.heap.size) (args := fun k => [.int .i64 ((((ps.take (ps.length - 1)).length - 1 - k : Nat)) : Int), hv ((ps.take (ps.length - 1)).getD ((ps.take (ps.length - 1)).length - 1 - k) zeroH)]) (N := (ps.take (ps.length - 1)).length) (Rs := (g9 :: aF a)) HF HS Marks.nil (Nat.le_refl _) rfl Tryd.func116 (by kernel_rfl) (by kernel_rfl) (fun w1 k => back_iter (ps.take (ps.length - 1)) g9 a c w1 (by rw [k.block g9 (Array.getElem?_eq_some_iff.1 hb9).1 (by simp)]; exact hb9) ((hr0.takeH (ps.length - 1) (by omega)).below (hk0.trans k (by simp)))) hRs hRl (fun _ => rfl) (by kernel_rfl) (fun _ => rfl) (fun k L R => ∃ x, x = peaksR (ps.drop (ps.length - 1 - k)) ∧ L = [⟨g4, sgA [(32, hv x)], 33⟩, ⟨g2, sgA [(32, hv zeroH)], 33⟩] ∧ R = []) (fun _ _ _ => False) ⟨x, (peaksR_last ps x hx).symm, rfl, rfl⟩ ?_ ?_ ?_
  · rintro lr k L1 R1 ac Fb wb w hw hFb hk ⟨x, hxe, rfl, rfl⟩ HF HS HK; clear hw hFb
    replace HF := HF.sub (m' := [(33, _), (34, _), (2, _), (4, _), (32, _)]) (by repeat (first | exact ag_nil | refine ag_cons rfl ?_))
    refine wp_region_lit ?_
    refine sx_ef HF (ef_alloc HS ze33) rfl rfl ?_; clear HF HS ac; rintro _ w ac ⟨g6, rfl, HS⟩ HF
    refine sx_ef0 HF (ef_store HS sz33 rfl rfl rfl) rfl ?_; clear HS; rintro _ w HS
    refine wpList_nil ?_
    refine then_n ?_
    refine ⟨_, _, _, HF, HS, ?_⟩; clear HF HS HK
    rintro ac Fb wb w hw hFb HF HS HK; clear hw hFb
    refine wp_block ?_
    refine wp_region_lit ?_
    refine sx_y HF HS (ld_ag ag33 rfl rfl) rfl rfl ?_; clear HF ac; intro ac HF
    refine sx_y HF HS (ld_ag ag33 rfl rfl) rfl rfl ?_; clear HF ac; intro ac HF
    refine sx_call HF Tryd.func37 (by kernel_rfl) (by kernel_rfl) (evs_cons rfl (evs_cons rfl evs_nil)) (node_any _ x w (hL.below (HKK _ (HK _ HS.kp))) (Nat.le_trans h2 (HKK _ (HK _ HS.kp)).size)) rfl rfl ?_; clear HF ac
    rintro _ w ⟨rfl, k1⟩
    refine ⟨_, rfl, fun ac HF => ?_⟩
    replace HS := HS.call k1
    clear k1
    refine sx_ef0 HF (ef_store HS sz33 rfl rfl rfl) rfl ?_; clear HS; rintro _ w HS
    refine wpList_nil ?_
    refine blk_n ?_
    refine rq_n ?_
    refine ⟨_, _, ⟨_, ?_, rfl, rfl⟩, HS.d1⟩
    rw [hxe, hlt]; exact peaksR_drop ps k (by omega)
  · rintro Db L1 R1 ac Fb wb w hw hFb ⟨x, hxe, rfl, rfl⟩ HF HS HK HN HM hsz; clear hw hFb
    rw [hlt, Nat.sub_self, List.drop_zero] at hxe
    subst hxe
    have HN2 : ∀ y ∈ Fb, w0.heap.size ≤ y ∨ y ∈ [] := by
      intro y hy
      rcases HN y hy with h | h
      · exact .inl (Nat.le_trans hk0.size h)
      · simp [ids] at h
        left
        omega
    refine blk_n ?_
    refine then_n ?_
    refine wp_seq ?_
    refine wp_region_lit ?_
    refine sx_y HF HS (ld_ag ag33 rfl rfl) rfl rfl ?_; clear HF ac; intro ac HF
    refine sx_ef0 HF (ef_store HS sz33 rfl rfl rfl) rfl ?_; clear HS; rintro _ w HS
    refine wpList_nil ?_
    refine then_n ?_
    refine wp_ret ?_
    exact leave HF (fun b hb => ⟨(HM _ HS.kp b hb).1, Nat.le_trans hk0.size (HM _ HS.kp b hb).2⟩) (HS.back (Nat.le_trans hk0.size hsz) HN2 (HKK _ (HK _ HS.kp))) fun w HS => rt1 rfl HF.fr HS ⟨⟨_, rfl⟩, ld_ag ag33 rfl rfl⟩ ⟨rfl, HS.kp⟩
  · rintro _ _ _ _ _ _ _ _ _ _ h; exact h.elim

end Go.Proofs.YtalnkhgonfcabaaDoor.R

namespace Go.Proofs.YtalnkhgonfcabaaDoor
open Go.RowKit

/-! ### Types -/
namespace Cmp5
theorem ag33 : AgT Tryd.prog 33 32 := AgT.mk' Tryd.underlying33 rfl (by kernel_rfl)
theorem fd101x0 : FdT Tryd.prog 101 0 0 := FdT.mk' (k := 0) Tryd.underlying101 (by kernel_rfl)
theorem fd101x1 : FdT Tryd.prog 101 1 1 := FdT.mk' (k := 0) Tryd.underlying101 (by kernel_rfl)
theorem sc3 : ScT Tryd.prog 3 := ScT.mk' Tryd.underlying3 rfl (by kernel_rfl)
theorem sc22 : ScT Tryd.prog 22 := ScT.mk' Tryd.underlying22 rfl (by kernel_rfl)
theorem sc39 : ScT Tryd.prog 39 := ScT.mk' Tryd.underlying39 rfl (by kernel_rfl)
theorem sl29 : SlT Tryd.prog 29 31 Tryd.t31 (.agg (sgA [(1, .int .i64 0), (1, .int .i64 0)])) 2 16 := ⟨Tryd.underlying29, by kernel_rfl, by kernel_rfl, rfl, rfl, rfl, by decide⟩
theorem sl39 : SlT Tryd.prog 39 5 Tryd.t5 (.int .u8 0) 1 1 := ⟨Tryd.underlying39, by kernel_rfl, by kernel_rfl, rfl, rfl, rfl, by decide⟩
theorem sl61 : SlT Tryd.prog 61 39 Tryd.t39 (.slice none 0 0) 1 24 := ⟨Tryd.underlying61, by kernel_rfl, by kernel_rfl, rfl, rfl, rfl, by decide⟩
theorem sl113 : SlT Tryd.prog 113 32 Tryd.t32 (hv zeroH) 32 32 := ⟨Tryd.underlying113, by kernel_rfl, by kernel_rfl, rfl, rfl, hvA_size _, by decide⟩
theorem sz3 : (Tryd.prog.info? 3).map (·.size) = some 1 := by kernel_rfl
theorem sz33 : (Tryd.prog.info? 33).map (·.size) = some 32 := by kernel_rfl
theorem sz39 : (Tryd.prog.info? 39).map (·.size) = some 1 := by kernel_rfl
theorem ze31 : ZeS Tryd.prog 31 [(1, .int .i64 0), (1, .int .i64 0)] := ⟨.agg _, ZeT.mk' (by kernel_rfl), rfl⟩
theorem ze33 : ZeS Tryd.prog 33 [(32, hv zeroH)] := ⟨hv zeroH, ZeT.mk' (by kernel_rfl), (sgA_h zeroH).symm⟩
theorem ze110 : ZeS Tryd.prog 110 [(1, .slice none 0 0)] := ⟨.agg _, ZeT.mk' (by kernel_rfl), rfl⟩
end Cmp5
open Go.Proofs.YtalnkhgonfcabaaDoor.Cmp5

theorem flatB_tk (l : List Pt) (i : Nat) (x : Pt) (hx : l[i]? = some x) : flatB (l.take (i + 1)) = flatB (l.take i) ++ x.l := by
  rw [List.take_add_one, hx]; simp [flatB]
theorem flatB_tk_le (l : List Pt) (i : Nat) : (flatB (l.take i)).length ≤ (flatB l).length := by
  have h : flatB l = flatB (l.take i) ++ flatB (l.drop i) := by
    rw [flatB, flatB, flatB, ← List.flatMap_append, List.take_append_drop]
  rw [h, List.length_append]; omega
/-- A range's bytes. -/
def rgB (n : Nat) (ps : List Hsh) : List UInt8 := be 8 n ++ (be 4 ps.length ++ hb ps)
theorem rgB_len (n : Nat) (ps : List Hsh) : (rgB n ps).length = 12 + ps.length * 32 := by
  rw [rgB, List.length_append, List.length_append, be_length, be_length, hb_length]; omega
theorem out_st {F : List Nat} {w0 w : World} {L : List Bk} {R : List Rw} {p : Nat} {a : Option Addr} {c : Nat} {bs : List UInt8} (h : St F w0 (⟨p, sgA [(1, .slice a bs.length c)], 110⟩ :: L) (⟨5, 1, a, bs.length, c, bcs bs⟩ :: R) w) : OutAt w p bs (p :: aF a) :=
  ⟨_, ⟨h.blk _ List.mem_cons_self, h.row _ List.mem_cons_self⟩, by rw [rowF_slice]⟩
theorem out_upd {F F' : List Nat} {w0 w w' : World} {L : List Bk} {R : List Rw} {p : Nat} {a : Option Addr} {c : Nat} {bs bs' : List UInt8} (h : St F w0 (⟨p, sgA [(1, .slice a bs.length c)], 110⟩ :: L) (⟨5, 1, a, bs.length, c, bcs bs⟩ :: R) w) (h' : OutAt w' p bs' F') (ha : Adv (p :: aF a) F' w w') :
    ∃ a' c', St F w0 (⟨p, sgA [(1, .slice a' bs'.length c')], 110⟩ :: L) (⟨5, 1, a', bs'.length, c', bcs bs'⟩ :: R) w' := by
  obtain ⟨a', c', ⟨h1, h2⟩, rfl⟩ := h'.cell
  have hi : ids [⟨p, sgA [(1, .slice a bs.length c)], 110⟩] [⟨5, 1, a, bs.length, c, bcs bs⟩] = p :: aF a := by simp [ids]
  have k0 : St (p :: aF a') w' [⟨p, sgA [(1, .slice a' bs'.length c')], 110⟩] [⟨5, 1, a', bs'.length, c', bcs bs'⟩] w' := by
    have := St.ofObj (cs := sgA [(1, .slice a' bs'.length c')]) h1 h2 (by decide)
    have e : ids [⟨p, sgA [(1, .slice a' bs'.length c')], 110⟩] [⟨5, 1, a', bs'.length, c', bcs bs'⟩] = p :: aF a' := by simp [ids]
    rw [e] at this
    exact this
  have k : St (ids [⟨p, sgA [(1, .slice a bs.length c)], 110⟩] [⟨5, 1, a, bs.length, c, bcs bs⟩]) w [⟨p, sgA [(1, .slice a' bs'.length c')], 110⟩] [⟨5, 1, a', bs'.length, c', bcs bs'⟩] w' := by
    rw [hi]
    refine ⟨ha.kp, k0.blk, k0.row, fun x hx => ?_, k0.nd⟩
    have hx' : x ∈ p :: aF a' := by simpa [ids] using hx
    rcases ha.gr x hx' with h3 | h3
    · exact .inr h3
    · exact .inl h3
  exact ⟨a', c', St.upd (L1 := [_]) (R1 := [_]) (L := L) (R := R) h k⟩

set_option maxRecDepth 100000 in
theorem join3_any (l : List Pt) (a : Option Addr) (c : Nat) (w0 : World) (hr : Rd w0 a l.length c 1 (pts l)) (hp : ∀ p ∈ l, Rd w0 p.a p.l.length p.c 1 (bcs p.l)) (ht : (flatB l).length ≤ 1099511627776) :
    Calls Tryd.prog 52 #[.slice a l.length c] w0 fun e w' => ∃ a' c', e = .returned (.slice a' (flatB l).length c') ∧ St [] w0 [] [⟨5, 1, a', (flatB l).length, c', bcs (flatB l)⟩] w' := by
  refine calls_st (F := []) (args := [.slice a l.length c]) Tryd.func52 rfl (n := 18) rfl rfl ?_
  intro ac w HF HS
  refine wp_seq ?_
  refine wp_region_lit ?_
  refine sx_y HF HS (yl_assign rfl) rfl rfl ?_; clear HF ac; intro ac HF
  refine wpList_nil ?_
  refine then_n ?_
  refine wp_seq ?_
  refine wp_region_lit ?_
  refine sx_y HF HS (yl_assign rfl) rfl rfl ?_; clear HF ac; intro ac HF
  replace HS := HS.nilRow 5 1
  refine wpList_nil ?_
  refine then_n ?_
  refine wp_seq ?_
  refine wp_seq ?_
  refine wp_region_lit ?_
  refine sx_y HF HS (yl_assign rfl) rfl rfl ?_; clear HF ac; intro ac HF
  refine wpList_nil ?_
  refine then_n ?_
  refine wp_block ?_
  replace HF := HF.sub (m' := [(0, _), (2, _), (3, _), (4, _)]) (by repeat (first | exact ag_nil | refine ag_cons rfl ?_))
  refine cx_loop (m := [(0, _), (2, _)]) (HF.sub (by repeat (first | exact ag_nil | refine ag_cons rfl ?_))) (fun m d ac w => ∃ (i : Nat) (a3 : Option Addr) (c3 : Nat), i ≤ l.length ∧ d = l.length - i ∧ Fr ([(3, .slice a3 (flatB (l.take i)).length c3), (4, .int .i64 (i : Int))] ++ m) 18 ac ∧ St [] w0 [] [⟨5, 1, a3, (flatB (l.take i)).length, c3, bcs (flatB (l.take i))⟩] w) ?_ ?_
  · exact ⟨_, 0, none, 0, Nat.zero_le _, rfl, HF.sub (by repeat (first | exact ag_nil | refine ag_cons rfl ?_)), HS⟩
  · clear HF HS ac w
    rintro d ac w ⟨i, a3, c3, hi0, rfl, HF, HS⟩
    refine wp_seq ?_
    refine wp_seq ?_
    refine wp_region_lit ?_
    refine sx_y HF HS (yl_move rfl) rfl rfl ?_; clear HF ac; intro ac HF
    refine sx_y HF HS (yl_move rfl) rfl rfl ?_; clear HF ac; intro ac HF
    refine sx_y HF HS (yl_len_slice Tryd.underlying61 rfl) rfl rfl ?_; clear HF ac; intro ac HF
    refine sx_dec HF HS (yl_lss rfl rfl rfl) rfl rfl ?_ ?_ <;> clear HF ac <;> intro h3x3 ac HF
    · have hi : i + 1 ≤ l.length := by omega
      have hlm := hr.lim
      obtain ⟨x, hx⟩ : ∃ x, l[i]? = some x := ⟨_, List.getElem?_eq_getElem (by omega)⟩
      have hbx : (pts l)[i]? = some (.slice x.a x.l.length x.c) := by rw [pts, List.getElem?_map, hx]; rfl
      have hpx := hp x (List.mem_of_getElem? hx)
      have hle := flatB_tk_le l (i + 1)
      have hcat := flatB_tk l i x hx
      have hcl : (flatB (l.take i)).length + x.l.length = (flatB (l.take (i + 1))).length := by rw [hcat, List.length_append]
      refine wpList_nil ?_
      refine then_n ?_
      refine cx_true HF rfl ?_
      refine wp_skip ?_
      refine then_n ?_
      refine wp_seq ?_
      refine wp_block ?_
      refine wp_region_lit ?_
      refine sx_y HF HS (yl_move rfl) rfl rfl ?_; clear HF ac; intro ac HF
      refine sx_y HF HS (yl_move rfl) rfl rfl ?_; clear HF ac; intro ac HF
      refine sx_y HF HS (yl_move rfl) rfl rfl ?_; clear HF ac; intro ac HF
      refine sx_y HF HS (ix_sl (k := i) Tryd.underlying61 sz39 rfl rfl (by omega) hr.nil0) rfl rfl ?_; clear HF ac; intro ac HF
      refine sx_y HF HS (ld_elC sc39 rfl hbx (fun w h => hr.below h.kp)) rfl rfl ?_; clear HF ac; intro ac HF
      refine sx_ef HF (ef_append (n' := (flatB (l.take (i + 1))).length) (ys := bcs (flatB (l.take (i + 1)))) HS sl39 rfl rfl (hpx.below HS.kp) (bcs_one _) hcl (by omega) (by rw [hcat, bcs_app])) rfl rfl ?_; clear HF HS ac; rintro _ w ac ⟨a16, c16, rfl, HS⟩ HF
      refine sx_y HF HS (yl_assign rfl) rfl rfl ?_; clear HF ac; intro ac HF
      refine wpList_nil ?_
      refine blk_n ?_
      refine then_n ?_
      refine wp_region_lit ?_
      refine sx_y HF HS (yl_move rfl) rfl rfl ?_; clear HF ac; intro ac HF
      refine sx_y HF HS (yl_add64 rfl rfl rfl (by omega)) rfl rfl ?_; clear HF ac; intro ac HF
      refine sx_y HF HS (yl_assign rfl) rfl rfl ?_; clear HF ac; intro ac HF
      refine wpList_nil ?_
      refine then_n ?_
      refine ⟨_, ?_, i + 1, _, _, hi, rfl, HF.sub (by repeat (first | exact ag_nil | refine ag_cons rfl ?_)), HS⟩
      omega
    · obtain rfl : i = l.length := by omega
      rw [List.take_length] at HS HF
      refine wpList_nil ?_
      refine then_n ?_
      refine cx_false HF rfl ?_
      refine wp_exit ?_
      refine then_x ?_
      refine then_x ?_
      refine blk_hit ?_
      refine then_n ?_
      refine wp_seq ?_
      refine wp_region_lit ?_
      refine sx_y HF HS (yl_move rfl) rfl rfl ?_; clear HF ac; intro ac HF
      refine sx_y HF HS (yl_assign rfl) rfl rfl ?_; clear HF ac; intro ac HF
      refine wpList_nil ?_
      refine then_n ?_
      refine wp_ret ?_
      exact rt1 rfl HF HS rfl ⟨_, _, rfl, HS⟩

set_option maxRecDepth 100000 in
theorem bytes9_any (n : Nat) (l : List Hsh) (a : Option Addr) (c : Nat) (w0 : World) (hr : Rd w0 a l.length c 32 (hsc l)) (hl : l.length ≤ 1000000) :
    Calls Tryd.prog 25 #[.int .i64 (n : Int), .slice a l.length c] w0 fun e w' => e = .returned (.string ⟨(rgB n l).toArray⟩) ∧ Kp [] w0 w' := by
  refine calls_st (F := []) (args := [.int .i64 (n : Int), .slice a l.length c]) Tryd.func25 rfl (n := 26) rfl rfl ?_
  intro ac w HF HS
  refine wp_seq ?_
  refine wp_region_lit ?_
  refine sx_y HF HS (yl_assign rfl) rfl rfl ?_; clear HF ac; intro ac HF
  refine wpList_nil ?_
  refine then_n ?_
  refine wp_seq ?_
  refine wp_region_lit ?_
  refine sx_y HF HS (yl_assign rfl) rfl rfl ?_; clear HF ac; intro ac HF
  replace HS := HS.nilRow 32 32
  refine wpList_nil ?_
  refine then_n ?_
  refine wp_seq ?_
  refine wp_seq ?_
  refine wp_region_lit ?_
  refine sx_y HF HS (yl_move rfl) rfl rfl ?_; clear HF ac; intro ac HF
  refine sx_y HF HS (yl_len_slice Tryd.underlying22 rfl) rfl rfl ?_; clear HF ac; intro ac HF
  refine sx_y HF HS (yl_move rfl) rfl rfl ?_; clear HF ac; intro ac HF
  refine wpList_nil ?_
  refine then_n ?_
  refine wp_block ?_
  replace HF := HF.sub (m' := [(0, _), (4, _), (8, _), (9, _), (5, _), (10, _)]) (by repeat (first | exact ag_nil | refine ag_cons rfl ?_))
  refine cx_loop (m := [(0, _), (4, _), (8, _), (9, _)]) (HF.sub (by repeat (first | exact ag_nil | refine ag_cons rfl ?_))) (fun m d ac w => ∃ (i : Nat) (a5 : Option Addr) (c5 : Nat), i ≤ l.length ∧ d = l.length - i ∧ Fr ([(5, .slice a5 (l.take i).length c5), (10, .int .i64 (i : Int))] ++ m) 26 ac ∧ St [] w0 [] [⟨32, 32, a5, (l.take i).length, c5, hsc (l.take i)⟩] w) ?_ ?_
  · exact ⟨_, 0, none, 0, Nat.zero_le _, rfl, HF.sub (by repeat (first | exact ag_nil | refine ag_cons rfl ?_)), HS⟩
  · clear HF HS ac w
    rintro d ac w ⟨i, a5, c5, hi0, rfl, HF, HS⟩
    refine wp_seq ?_
    refine wp_region_lit ?_
    refine sx_dec HF HS (yl_lss rfl rfl rfl) rfl rfl ?_ ?_ <;> clear HF ac <;> intro h3x0 ac HF
    · have hi : i + 1 ≤ l.length := by omega
      have hlm := hr.lim
      obtain ⟨x, hx⟩ : ∃ x, l[i]? = some x := ⟨_, List.getElem?_eq_getElem (by omega)⟩
      have hts : l.take (i + 1) = l.take i ++ [x] := by rw [List.take_add_one, hx]; rfl
      have htl : (l.take i).length = i := by rw [List.length_take]; omega
      refine wpList_nil ?_
      refine then_n ?_
      refine wp_seq ?_
      refine cx_true HF rfl ?_
      refine wp_skip ?_
      refine then_n ?_
      refine wp_seq ?_
      refine wp_block ?_
      refine wp_seq ?_
      refine wp_region_lit ?_
      refine sx_y HF HS (ix_sl (k := i) Tryd.underlying22 sz33 rfl rfl (by omega) hr.nil0) rfl rfl ?_; clear HF ac; intro ac HF
      refine sx_y HF HS (ld_elH ag33 rfl hx (fun w h => hr.below h.kp)) rfl rfl ?_; clear HF ac; intro ac HF
      refine sx_ef HF (ef_alloc HS ze33) rfl rfl ?_; clear HF HS ac; rintro _ w ac ⟨g7, rfl, HS⟩ HF
      refine sx_ef0 HF (ef_store HS sz33 rfl rfl rfl) rfl ?_; clear HS; rintro _ w HS
      refine wpList_nil ?_
      refine then_n ?_
      refine wp_region_lit ?_
      refine sx_y HF HS (yl_move rfl) rfl rfl ?_; clear HF ac; intro ac HF
      refine sx_y HF HS (ld_ag ag33 rfl rfl) rfl rfl ?_; clear HF ac; intro ac HF
      refine sx_ef HF (ef_lit (n := 1) HS sl113 (parts := #[(0, .tmp 15)]) (evs_cons rfl evs_nil) rfl rfl (s := [(32, _)]) rfl (by simp)) rfl rfl ?_; clear HF HS ac; rintro _ w ac ⟨g16, rfl, HS⟩ HF
      refine sx_ef HF (ef_append1 (n' := ((l.take i) ++ [x]).length) (ys := hsc ((l.take i) ++ [x])) HS sl113 rfl rfl rfl (by simp) (by simp; omega) (hsc_app1 _ _)) rfl rfl ?_; clear HF HS ac; rintro _ w ac ⟨a17, c17, rfl, HS⟩ HF
      refine sx_y HF HS (yl_assign rfl) rfl rfl ?_; clear HF ac; intro ac HF
      refine wpList_nil ?_
      refine blk_n ?_
      refine then_n ?_
      refine wp_region_lit ?_
      refine sx_y HF HS (yl_add64 rfl rfl rfl (by omega)) rfl rfl ?_; clear HF ac; intro ac HF
      refine sx_y HF HS (yl_move rfl) rfl rfl ?_; clear HF ac; intro ac HF
      refine wpList_nil ?_
      refine then_n ?_
      rw [← hts] at HS HF
      refine ⟨_, ?_, i + 1, _, _, hi, rfl, HF.sub (by repeat (first | exact ag_nil | refine ag_cons rfl ?_)), HS.d2⟩
      omega
    · obtain rfl : i = l.length := by omega
      rw [List.take_length] at HS HF
      have hb8 : (be 8 n).length = 8 := be_length 8 n
      have hbl := rgB_len n l
      have hfl : flatB [⟨none, 0, be 8 n⟩, ⟨none, 0, be 4 l.length ++ hb l⟩] = rgB n l := by simp [flatB, rgB]
      refine wpList_nil ?_
      refine then_n ?_
      refine wp_seq ?_
      refine cx_false HF rfl ?_
      refine wp_exit ?_
      refine then_x ?_
      refine then_x ?_
      refine blk_hit ?_
      refine then_n ?_
      refine wp_seq ?_
      refine wp_region_lit ?_
      refine sx_y HF HS (yl_move rfl) rfl rfl ?_; clear HF ac; intro ac HF
      refine sx_call HF Tryd.func53 (by kernel_rfl) (by kernel_rfl) (evs_cons rfl evs_nil) (rint_any n w) rfl rfl ?_; clear HF ac
      rintro _ w ⟨a20, c20, rfl, o7, f7, k7⟩
      refine ⟨_, rfl, fun ac HF => ?_⟩
      replace HS := HS.addRow k7 o7 f7
      clear o7 f7 k7
      refine sx_y HF HS (yl_move rfl) rfl rfl ?_; clear HF ac; intro ac HF
      refine sx_call HF Tryd.func76 (by kernel_rfl) (by kernel_rfl) (evs_cons rfl evs_nil) (rhashes_any a5 c5 l w HS.row1 (by omega)) rfl rfl ?_; clear HF ac
      rintro _ w ⟨a22, c22, rfl, o7, f7, k7⟩
      refine ⟨_, rfl, fun ac HF => ?_⟩
      replace HS := HS.addRow k7 o7 f7
      clear o7 f7 k7
      refine sx_ef HF (ef_lit (n := 2) HS sl61 (parts := #[(0, .tmp 20), (1, .tmp 22)]) (evs_cons rfl (evs_cons rfl evs_nil)) rfl rfl (s := [(1, _), (1, _)]) rfl (by simp)) rfl rfl ?_; clear HF HS ac; rintro _ w ac ⟨g23, rfl, HS⟩ HF
      refine sx_call HF Tryd.func52 (by kernel_rfl) (by kernel_rfl) (evs_cons rfl evs_nil) (join3_any [⟨a20, c20, be 8 n⟩, ⟨a22, c22, be 4 l.length ++ hb l⟩] (some ⟨g23, 0, none⟩) 2 w (by have := HS.rdL (g := g23) (k := 2) (size := 1) rfl (by decide); simpa [sgL, Value.cells, pts, ptV] using this) (fun p hm => by simp only [List.mem_cons, List.not_mem_nil, or_false] at hm; rcases hm with rfl | rfl; exact HS.row1; exact HS.row0) (by rw [show flatB [⟨a20, c20, be 8 n⟩, ⟨a22, c22, be 4 l.length ++ hb l⟩] = rgB n l from hfl]; omega)) rfl rfl ?_; clear HF ac
      rintro _ w ⟨a24, c24, rfl, k1⟩
      rw [show flatB [⟨a20, c20, be 8 n⟩, ⟨a22, c22, be 4 l.length ++ hb l⟩] = rgB n l from hfl] at k1 ⊢
      refine ⟨_, rfl, fun ac HF => ?_⟩
      replace HS := HS.joinR1 k1
      clear k1
      refine sx_y HF HS (yl_str Tryd.underlying39 Tryd.underlying5 Tryd.underlying9 rfl (fun w h => h.row0)) rfl rfl ?_; clear HF ac; intro ac HF
      refine sx_y HF HS (yl_assign rfl) rfl rfl ?_; clear HF ac; intro ac HF
      refine wpList_nil ?_
      refine then_n ?_
      refine wp_ret ?_
      exact rt1 rfl HF HS rfl ⟨rfl, HS.kp⟩

/-- Of which places the roots are the peaks: from a place on, so many leaves. -/
def pkF : Nat → Nat → Nat → List (Nat × Nat)
  | 0, _, _ => []
  | f + 1, from_, r => if r = 0 then [] else (from_, from_ + hp r) :: pkF f (from_ + hp r) (r - hp r)
theorem pkF_more : ∀ (f g fr r : Nat), r ≤ f → r ≤ g → r < 9223372036854775808 → pkF f fr r = pkF g fr r
  | 0, 0, _, _, _, _, _ => rfl
  | 0, g + 1, fr, r, h, _, _ => by rw [pkF, pkF, if_pos (by omega)]
  | f + 1, 0, fr, r, _, h, _ => by rw [pkF, pkF, if_pos (by omega)]
  | f + 1, g + 1, fr, r, h, h', hb => by
    rw [pkF, pkF]
    by_cases h0 : r = 0
    · rw [if_pos h0, if_pos h0]
    · obtain ⟨h1, _, _⟩ := hp_spec r (by omega) hb
      rw [if_neg h0, if_neg h0, pkF_more f g _ _ (by omega) (by omega) (by omega)]
theorem pkF_step {n fr : Nat} (h : fr < n) (hb : n < 9223372036854775808) : pkF n fr (n - fr) = (fr, fr + hp (n - fr)) :: pkF n (fr + hp (n - fr)) (n - (fr + hp (n - fr))) := by
  obtain ⟨h1, h2, _⟩ := hp_spec (n - fr) (by omega) (by omega)
  obtain ⟨f, hf⟩ : ∃ f, n = f + 1 := ⟨n - 1, by omega⟩
  rw [pkF_more n (f + 1) fr (n - fr) (by omega) (by omega) (by omega), pkF, if_neg (by omega), Nat.sub_sub, pkF_more f n _ (n - (fr + hp (n - fr))) (by omega) (by omega) (by omega)]
theorem pkF_none {n fr : Nat} (h : n ≤ fr) : pkF n fr (n - fr) = [] := by
  rw [show n - fr = 0 by omega]
  cases n <;> rfl
theorem pkF_len : ∀ (f fr r : Nat), (pkF f fr r).length ≤ f
  | 0, _, _ => Nat.le_refl _
  | f + 1, fr, r => by
    rw [pkF]
    split
    · simp
    · rw [List.length_cons]; have := pkF_len f (fr + hp r) (r - hp r); omega
/-- The roots of these places. -/
theorem pk_peaks (l : List Hsh) : ∀ (f fr r : Nat), r ≤ f → fr + r = l.length → l.length < 9223372036854775808 → (pkF f fr r).map (fun p => rootH ((l.take p.2).drop p.1)) = peaksF f (l.drop fr)
  | 0, fr, r, h, hl, _ => rfl
  | f + 1, fr, r, h, hl, hb => by
    have hd : (l.drop fr).length = r := by rw [List.length_drop]; omega
    rw [pkF, peaksF, hd]
    by_cases h0 : r = 0
    · rw [if_pos h0, if_pos h0]; rfl
    · obtain ⟨h1, h2, _⟩ := hp_spec r (by omega) (by omega)
      rw [if_neg h0, if_neg h0, List.map_cons, List.drop_drop, pk_peaks l f (fr + hp r) (r - hp r) (by omega) (by omega) hb, List.drop_take, Nat.add_sub_cancel_left]
theorem pk_root (l : List Hsh) (n : Nat) (hn : n ≤ l.length) (hb : l.length < 9223372036854775808) : (pkF n 0 n).map (fun p => rootH ((l.take p.2).drop p.1)) = peaksOf (l.take n) := by
  have hl : (l.take n).length = n := by rw [List.length_take]; omega
  have h := pk_peaks (l.take n) n 0 n (Nat.le_refl _) (by omega) (by omega)
  rw [List.drop_zero] at h
  unfold peaksOf
  rw [hl, ← h]
  apply List.map_congr_left
  intro p hm
  have key : ∀ (f fr r : Nat), r ≤ f → fr + r = n → ∀ q ∈ pkF f fr r, q.1 ≤ q.2 ∧ q.2 ≤ n := by
    intro f
    induction f with
    | zero => intro fr r _ _ q hq; cases hq
    | succ f ih =>
      intro fr r h1 h2 q hq
      rw [pkF] at hq
      by_cases h0 : r = 0
      · rw [if_pos h0] at hq; cases hq
      · obtain ⟨h3, h4, _⟩ := hp_spec r (by omega) (by omega)
        rw [if_neg h0] at hq
        rcases List.mem_cons.1 hq with rfl | hq
        · exact ⟨by simp, by simp; omega⟩
        · exact ih (fr + Go.Proofs.YtalnkhgonfcabaaDoor.hp r) (r - Go.Proofs.YtalnkhgonfcabaaDoor.hp r) (by omega) (by omega) q hq
  have := (key n 0 n (Nat.le_refl _) (by omega) p hm).2
  rw [List.take_take, Nat.min_eq_left this]

set_option maxRecDepth 100000 in
theorem refPeaks_any (n : Nat) (w0 : World) (hn : n ≤ 1099511627776) :
    Calls Tryd.prog 18 #[.int .i64 (n : Int)] w0 fun e w' => ∃ a c, e = .returned (.slice a (pkF n 0 n).length c) ∧ St [] w0 [] [⟨31, 2, a, (pkF n 0 n).length, c, pvs (pkF n 0 n)⟩] w' := by
  refine calls_st (F := []) (args := [.int .i64 (n : Int)]) Tryd.func18 rfl (n := 29) rfl rfl ?_
  intro ac w HF HS
  refine wp_seq ?_
  refine wp_region_lit ?_
  refine sx_y HF HS (yl_assign rfl) rfl rfl ?_; clear HF ac; intro ac HF
  refine wpList_nil ?_
  refine then_n ?_
  refine wp_seq ?_
  refine wp_region_lit ?_
  refine sx_y HF HS (yl_assign rfl) rfl rfl ?_; clear HF ac; intro ac HF
  replace HS := HS.nilRow 31 2
  refine wpList_nil ?_
  refine then_n ?_
  refine wp_seq ?_
  refine wp_region_lit ?_
  refine sx_y HF HS (yl_assign rfl) rfl rfl ?_; clear HF ac; intro ac HF
  refine wpList_nil ?_
  refine then_n ?_
  refine wp_seq ?_
  refine wp_block ?_
  replace HF := HF.sub (m' := [(0, _), (2, _), (3, _), (4, _)]) (by repeat (first | exact ag_nil | refine ag_cons rfl ?_))
  refine cx_loop (m := [(0, _), (2, _)]) (HF.sub (by repeat (first | exact ag_nil | refine ag_cons rfl ?_))) (fun m d ac w => ∃ (fr : Nat) (acc : List (Nat × Nat)) (a3 : Option Addr) (c3 : Nat), fr ≤ n ∧ acc.length ≤ fr ∧ acc ++ pkF n fr (n - fr) = pkF n 0 n ∧ d = n - fr ∧ Fr ([(3, .slice a3 acc.length c3), (4, .int .i64 (fr : Int))] ++ m) 29 ac ∧ St [] w0 [] [⟨31, 2, a3, acc.length, c3, pvs acc⟩] w) ?_ ?_
  · exact ⟨_, 0, [], none, 0, Nat.zero_le _, Nat.le_refl _, rfl, rfl, HF.sub (by repeat (first | exact ag_nil | refine ag_cons rfl ?_)), HS⟩
  · clear HF HS ac w
    rintro d ac w ⟨fr, acc, a3, c3, hfr, hal, hacc, rfl, HF, HS⟩
    refine wp_seq ?_
    refine wp_seq ?_
    refine wp_region_lit ?_
    refine sx_y HF HS (yl_move rfl) rfl rfl ?_; clear HF ac; intro ac HF
    refine sx_y HF HS (yl_move rfl) rfl rfl ?_; clear HF ac; intro ac HF
    refine sx_dec HF HS (yl_lss rfl rfl rfl) rfl rfl ?_ ?_ <;> clear HF ac <;> intro h3x2 ac HF
    · have hlt : fr < n := by omega
      have hst := pkF_step hlt (by omega)
      obtain ⟨hp1, hp2, hp3⟩ := hp_spec (n - fr) (by omega) (by omega)
      refine wpList_nil ?_
      refine then_n ?_
      refine cx_true HF rfl ?_
      refine wp_skip ?_
      refine then_n ?_
      refine wp_block ?_
      refine wp_seq ?_
      refine wp_region_lit ?_
      refine sx_y HF HS (yl_assign rfl) rfl rfl ?_; clear HF ac; intro ac HF
      refine wpList_nil ?_
      refine then_n ?_
      refine wp_seq ?_
      refine wp_block ?_
      replace HF := HF.sub (m' := [(0, _), (2, _), (3, _), (4, _), (5, _)]) (by repeat (first | exact ag_nil | refine ag_cons rfl ?_))
      refine cx_loop (m := [(0, _), (2, _), (3, _), (4, _)]) (HF.sub (by repeat (first | exact ag_nil | refine ag_cons rfl ?_))) (fun m d ac w => ∃ (j k : Nat), k = 2 ^ j ∧ k ≤ n - fr ∧ d = n - fr - k ∧ Fr ([(5, .int .i64 (k : Int))] ++ m) 29 ac ∧ St [] w0 [] [⟨31, 2, a3, acc.length, c3, pvs acc⟩] w) ?_ ?_
      · exact ⟨_, 0, 1, rfl, by omega, rfl, HF.sub (by repeat (first | exact ag_nil | refine ag_cons rfl ?_)), HS⟩
      · clear HF HS ac w
        rintro d ac w ⟨j, k, hkj, hkr, rfl, HF, HS⟩
        refine wp_seq ?_
        refine wp_seq ?_
        refine wp_region_lit ?_
        refine sx_y HF HS (yl_move rfl) rfl rfl ?_; clear HF ac; intro ac HF
        refine sx_y HF HS (yl_mul64 (r := ((2 * k : Nat) : Int)) rfl rfl (by omega) (by omega)) rfl rfl ?_; clear HF ac; intro ac HF
        refine sx_y HF HS (yl_move rfl) rfl rfl ?_; clear HF ac; intro ac HF
        refine sx_y HF HS (yl_move rfl) rfl rfl ?_; clear HF ac; intro ac HF
        refine sx_y HF HS (yl_sub64 (r := ((n - fr : Nat) : Int)) rfl rfl (by omega) (by omega)) rfl rfl ?_; clear HF ac; intro ac HF
        refine sx_dec HF HS (yl_leq rfl rfl rfl) rfl rfl ?_ ?_ <;> clear HF ac <;> intro h5x5 ac HF
        · refine wpList_nil ?_
          refine then_n ?_
          refine cx_true HF rfl ?_
          refine wp_skip ?_
          refine then_n ?_
          refine wp_block ?_
          refine wp_region_lit ?_
          refine sx_y HF HS (yl_move rfl) rfl rfl ?_; clear HF ac; intro ac HF
          refine sx_y HF HS (yl_mul64 (r := ((2 * k : Nat) : Int)) rfl rfl (by omega) (by omega)) rfl rfl ?_; clear HF ac; intro ac HF
          refine sx_y HF HS (yl_assign rfl) rfl rfl ?_; clear HF ac; intro ac HF
          refine wpList_nil ?_
          refine blk_n ?_
          refine then_n ?_
          refine ⟨_, ?_, j + 1, 2 * k, by rw [hkj, Nat.pow_succ'], by omega, rfl, HF.sub (by repeat (first | exact ag_nil | refine ag_cons rfl ?_)), HS⟩
          have := Nat.one_le_two_pow (n := j)
          omega
        · obtain rfl : k = hp (n - fr) := by rw [hkj]; exact (hp_is (by rw [← hkj]; exact hkr) (by rw [← hkj]; omega) (by omega)).symm
          refine wpList_nil ?_
          refine then_n ?_
          refine cx_false HF rfl ?_
          refine wp_exit ?_
          refine then_x ?_
          refine then_x ?_
          refine blk_hit ?_
          refine then_n ?_
          refine wp_seq ?_
          refine wp_region_lit ?_
          refine sx_y HF HS (yl_move rfl) rfl rfl ?_; clear HF ac; intro ac HF
          refine sx_y HF HS (yl_move rfl) rfl rfl ?_; clear HF ac; intro ac HF
          refine sx_y HF HS (yl_move rfl) rfl rfl ?_; clear HF ac; intro ac HF
          refine sx_y HF HS (yl_move rfl) rfl rfl ?_; clear HF ac; intro ac HF
          refine sx_y HF HS (yl_add64 (r := ((fr + hp (n - fr) : Nat) : Int)) rfl rfl (by omega) (by omega)) rfl rfl ?_; clear HF ac; intro ac HF
          refine sx_y HF HS (bd_ar (parts := #[(0, .tmp 18), (1, .tmp 21)]) Tryd.underlying31 sz3 ze31 (evs_cons rfl (evs_cons rfl evs_nil)) (pl := [(0, 1), (1, 1)]) (by decide) (inferInstance : SgW [(1, _), (1, _)]) rfl) rfl rfl ?_; clear HF ac; intro ac HF
          refine sx_ef HF (ef_lit (n := 1) HS sl29 (parts := #[(0, .tmp 22)]) (evs_cons rfl evs_nil) rfl rfl (s := [(2, _)]) rfl (by simp)) rfl rfl ?_; clear HF HS ac; rintro _ w ac ⟨g23, rfl, HS⟩ HF
          refine sx_ef HF (ef_append1 (n' := (acc ++ [(fr, (fr + hp (n - fr)))]).length) (ys := pvs (acc ++ [(fr, (fr + hp (n - fr)))])) HS sl29 rfl rfl rfl (by simp) (by simp; omega) (pvs_app _ _ _)) rfl rfl ?_; clear HF HS ac; rintro _ w ac ⟨a24, c24, rfl, HS⟩ HF
          refine sx_y HF HS (yl_assign rfl) rfl rfl ?_; clear HF ac; intro ac HF
          refine wpList_nil ?_
          refine then_n ?_
          refine wp_region_lit ?_
          refine sx_y HF HS (yl_move rfl) rfl rfl ?_; clear HF ac; intro ac HF
          refine sx_y HF HS (yl_move rfl) rfl rfl ?_; clear HF ac; intro ac HF
          refine sx_y HF HS (yl_add64 (r := ((fr + hp (n - fr) : Nat) : Int)) rfl rfl (by omega) (by omega)) rfl rfl ?_; clear HF ac; intro ac HF
          refine sx_y HF HS (yl_assign rfl) rfl rfl ?_; clear HF ac; intro ac HF
          refine wpList_nil ?_
          refine blk_n ?_
          refine then_n ?_
          refine ⟨_, ?_, fr + hp (n - fr), _, _, _, by omega, ?_, ?_, rfl, HF.sub (by repeat (first | exact ag_nil | refine ag_cons rfl ?_)), HS.d1⟩
          · omega
          · simp; omega
          · rw [← hacc, hst, List.append_assoc]; rfl
    · rw [pkF_none (by omega), List.append_nil] at hacc
      subst hacc
      refine wpList_nil ?_
      refine then_n ?_
      refine cx_false HF rfl ?_
      refine wp_exit ?_
      refine then_x ?_
      refine then_x ?_
      refine blk_hit ?_
      refine then_n ?_
      refine wp_seq ?_
      refine wp_region_lit ?_
      refine sx_y HF HS (yl_move rfl) rfl rfl ?_; clear HF ac; intro ac HF
      refine sx_y HF HS (yl_assign rfl) rfl rfl ?_; clear HF ac; intro ac HF
      refine wpList_nil ?_
      refine then_n ?_
      refine wp_ret ?_
      exact rt1 rfl HF HS rfl ⟨_, _, rfl, HS⟩

set_option maxRecDepth 100000 in
theorem cbytes_any (g n : Nat) (ps : List Hsh) (a : Option Addr) (c : Nat) (w0 : World) (h : RgA w0 g n ps a c) (hl : ps.length ≤ 1000000) :
    Calls Tryd.prog 24 #[.pointer (some ⟨g, 0, none⟩)] w0 fun e w' => ∃ a' c', e = .returned (.slice a' (rgB n ps).length c') ∧ St [] w0 [] [⟨5, 1, a', (rgB n ps).length, c', bcs (rgB n ps)⟩] w' := by
  have HGA : ∀ {w : World} {a1 : Option Addr} {c1 g5 : Nat} {bs : List UInt8}, St [g] w0 [⟨g5, sgA [(1, .slice a1 bs.length c1)], 110⟩, ⟨g, sgA (rgS n a ps.length c), 101⟩] [⟨5, 1, a1, bs.length, c1, bcs bs⟩] w → 0 < ps.length → ∀ x ∈ aF a, x ∉ g5 :: aF a1 := by
    intro w a1 c1 g5 bs HS hp x hx hh
    have hlt := h.rd.lt (by rw [hsc_length]; omega) x hx
    have hxg : x ≠ g := by
      rintro rfl
      have hne := own_ne h.b h.r (by decide)
      cases a with
      | none => simp [aF] at hx
      | some b =>
        simp only [aF, List.mem_singleton] at hx
        rcases h.r.2 with ⟨h1, _⟩ | ⟨gg, cap, cur, h1, _, _, _⟩
        · simp at h1
        · simp only [Value.slice.injEq, Option.some.injEq] at h1
          exact hne (by rw [hx, h1.1]; rfl)
    have h1 := HS.new x (by
      simp only [ids, List.map_cons, List.map_nil, List.flatMap_cons, List.flatMap_nil, List.append_nil, List.cons_append, List.mem_cons, List.nil_append] at hh ⊢
      rcases hh with hh | hh
      · exact .inl hh
      · exact .inr (.inr hh))
    simp at h1
    omega
  refine calls_stL (args := [.pointer (some ⟨g, 0, none⟩)]) (St.ofBlk h.b) Tryd.func24 rfl (n := 18) rfl rfl ?_
  intro ac w HF HS
  refine wp_seq ?_
  refine wp_region_lit ?_
  refine sx_y HF HS (yl_assign rfl) rfl rfl ?_; clear HF ac; intro ac HF
  refine wpList_nil ?_
  refine then_n ?_
  refine wp_seq ?_
  refine wp_region_lit ?_
  refine sx_y HF HS (bd_st (parts := #[]) Tryd.underlying110 (by kernel_rfl) ze110 evs_nil (pl := [(0, 1)]) (by kernel_rfl) (szs := []) rfl (inferInstance : SgW []) rfl) rfl rfl ?_; clear HF ac; intro ac HF
  refine sx_ef HF (ef_boxs HS rfl) rfl rfl ?_; clear HF HS ac; rintro _ w ac ⟨g5, rfl, HS⟩ HF
  refine sx_y HF HS (yl_assign rfl) rfl rfl ?_; clear HF ac; intro ac HF
  refine wpList_nil ?_
  refine then_n ?_
  refine wp_seq ?_
  refine dx_region 13 (by kernel_rfl) HS.drew (fun _ h => h.sub (List.Sublist.cons _ (List.Sublist.cons_cons _ List.Sublist.slnil)) (List.Sublist.refl _)) ?_; clear HS; intro w HS
  have HH := HS.sub (List.Sublist.cons _ (List.Sublist.cons_cons _ List.Sublist.slnil)) (List.Sublist.refl _)
  refine dx_p (i := 0) HF rfl (by kernel_rfl) (by kernel_rfl) (by kernel_rfl) (by decide) (fun _ _ _ h => h) (fun _ => HH) (yl_move rfl) rfl rfl ?_; clear HF ac; intro ac HF
  refine dx_p (i := 1) HF rfl (by kernel_rfl) (by kernel_rfl) (by kernel_rfl) (by decide) (fun _ _ _ h => h) (fun _ => HH) (yl_move rfl) rfl rfl ?_; clear HF ac; intro ac HF
  refine dx_p (i := 2) HF rfl (by kernel_rfl) (by kernel_rfl) (by kernel_rfl) (by decide) (fun _ _ _ h => h) (fun _ => HH) (yl_nilCheck rfl) rfl rfl ?_; clear HF ac; intro ac HF
  refine dx_p (i := 3) HF rfl (by kernel_rfl) (by kernel_rfl) (by kernel_rfl) (by decide) (fun _ _ _ h => h) (fun _ => HH) (fa_st fd101x0 rfl) rfl rfl ?_; clear HF ac; intro ac HF
  refine dx_k (i := 4) HF rfl (by kernel_rfl) (by kernel_rfl) (by kernel_rfl) (by kernel_rfl) (by kernel_rfl) (fun _ _ _ h => h) HH (ld_sc sc3 rfl rfl rfl) rfl rfl ?_; clear HF ac; intro ac HF
  refine dx_p (i := 6) HF rfl (by kernel_rfl) (by kernel_rfl) (by kernel_rfl) (by decide) (fun _ _ _ h => h) (fun _ => HH) (yl_move rfl) rfl rfl ?_; clear HF ac; intro ac HF
  refine dx_p (i := 7) HF rfl (by kernel_rfl) (by kernel_rfl) (by kernel_rfl) (by decide) (fun _ _ _ h => h) (fun _ => HH) (yl_nilCheck rfl) rfl rfl ?_; clear HF ac; intro ac HF
  refine dx_p (i := 8) HF rfl (by kernel_rfl) (by kernel_rfl) (by kernel_rfl) (by decide) (fun _ _ _ h => h) (fun _ => HH) (fa_st fd101x1 rfl) rfl rfl ?_; clear HF ac; intro ac HF
  refine dx_k (i := 9) HF rfl (by kernel_rfl) (by kernel_rfl) (by kernel_rfl) (by kernel_rfl) (by kernel_rfl) (fun _ _ _ h => h) HH (ld_sc sc22 rfl rfl rfl) rfl rfl ?_; clear HF ac; intro ac HF
  refine dx_one (i := 5) (by kernel_rfl) ?_
  replace HS := HS.nilRow 5 1
  refine op_call (i := 5) HF rfl Tryd.func73 (by kernel_rfl) (by kernel_rfl) (evs_cons rfl (evs_cons rfl evs_nil)) (oint_any g5 [] _ n w (out_st (bs := []) (a := none) (c := 0) HS) (by simp)) rfl rfl ?_; clear HF ac
  rintro _ w ⟨rfl, F1, o1, ad1⟩
  refine ⟨_, rfl, fun ac HF => ?_⟩
  obtain ⟨a1, c1, HS⟩ := out_upd (bs := []) (a := none) (c := 0) HS o1 ad1
  replace HH := HS.sub (L' := [⟨g, sgA (rgS n a ps.length c), 101⟩]) (R' := []) (List.Sublist.cons _ (List.Sublist.refl _)) (List.nil_sublist _)
  clear o1 ad1
  refine ⟨fun _ => HH, ?_⟩
  refine dx_one (i := 10) (by kernel_rfl) ?_
  refine op_call (i := 10) HF rfl Tryd.func74 (by kernel_rfl) (by kernel_rfl) (evs_cons rfl (evs_cons rfl evs_nil)) (ohashes_any g5 ([] ++ be 8 n) _ a c ps w (out_st HS) (by rw [List.nil_append, be_length]; omega) (h.rd.below (kp_own1 HS h.b)) (by omega) (fun hp x hx hh => HGA HS (by omega) x hx hh) (fun x hx => HS.lt x (by simp [ids] at hx ⊢; rcases hx with hx | hx <;> simp [hx]))) rfl rfl ?_; clear HF ac
  rintro _ w ⟨rfl, F1, o1, ad1⟩
  refine ⟨_, rfl, fun ac HF => ?_⟩
  obtain ⟨a2, c2, HS⟩ := out_upd HS o1 ad1
  replace HH := HS.sub (L' := [⟨g, sgA (rgS n a ps.length c), 101⟩]) (R' := []) (List.Sublist.cons _ (List.Sublist.refl _)) (List.nil_sublist _)
  clear o1 ad1
  refine ⟨fun _ => HH, ?_⟩
  refine dx_one (i := 11) (by kernel_rfl) ?_
  refine op_call (i := 11) HF rfl Tryd.func75 (by kernel_rfl) (by kernel_rfl) (evs_cons rfl evs_nil) (oall_any g5 _ _ w (out_st HS) (by simp only [List.nil_append, List.length_append, be_length, hb_length]; omega)) rfl rfl ?_; clear HF ac
  rintro _ w ⟨a9, c9, rfl, o7, f7, k7⟩
  refine ⟨_, rfl, fun ac HF => ?_⟩
  replace HH := HH.call k7
  replace HS := HS.addRow k7 o7 f7
  clear o7 f7 k7
  refine ⟨fun _ => HH, ?_⟩
  refine dx_p (i := 12) HF rfl (by kernel_rfl) (by kernel_rfl) (by kernel_rfl) (by decide) (fun _ _ _ h => h) (fun _ => HH) (yl_assign rfl) rfl rfl ?_; clear HF ac; intro ac HF
  refine dx_done (by kernel_rfl) ?_
  clear HH
  refine then_n ?_
  refine wp_ret ?_
  exact rt1 rfl HF HS rfl ⟨_, _, rfl, St.own1 (L := []) (b := ⟨g, _, _⟩) (HS.sub (List.Sublist.cons _ (List.Sublist.refl _)) (List.Sublist.cons_cons _ (List.nil_sublist _))) (kp_own1 HS h.b)⟩

end Go.Proofs.YtalnkhgonfcabaaDoor

namespace Go.Proofs.YtalnkhgonfcabaaDoor
open Go.RowKit

/-! ### Types -/
namespace Root09
theorem ag33 : AgT Tryd.prog 33 32 := AgT.mk' Tryd.underlying33 rfl (by kernel_rfl)
theorem sc3 : ScT Tryd.prog 3 := ScT.mk' Tryd.underlying3 rfl (by kernel_rfl)
theorem sl22 : SlT Tryd.prog 22 33 Tryd.t33 (hv zeroH) 32 32 := ⟨Tryd.underlying22, by kernel_rfl, by kernel_rfl, rfl, rfl, hvA_size _, by decide⟩
theorem sz3 : (Tryd.prog.info? 3).map (·.size) = some 1 := by kernel_rfl
theorem sz33 : (Tryd.prog.info? 33).map (·.size) = some 32 := by kernel_rfl
theorem ze33 : ZeS Tryd.prog 33 [(32, hv zeroH)] := ⟨hv zeroH, ZeT.mk' (by kernel_rfl), (sgA_h zeroH).symm⟩
end Root09
open Go.Proofs.YtalnkhgonfcabaaDoor.Root09

theorem rops_run09 (l : List Hsh) (hll : l.length ≤ 1000) (hne : l ≠ []) : (rops l.length 0 l.length).foldl (stepH l) (some []) = some [rootH l] := by
  have hl1 : 1 ≤ l.length := List.length_pos_iff.2 hne
  have hrun := run_rops l l.length 0 l.length [] (Nat.le_refl _) hl1 (by omega) (by omega)
  rw [List.drop_zero, List.take_length, List.nil_append] at hrun
  exact hrun
theorem stepH_pos09 {l s s' : List Hsh} {j : Nat} (h : stepH l (some s) (j : Int) = some s') : ∃ x, l[j]? = some x ∧ s' = s ++ [x] := by
  rw [stepH, Option.bind_some, if_pos (by omega)] at h
  obtain ⟨x, hx, rfl⟩ := Option.map_eq_some_iff.1 h
  exact ⟨x, by simpa using hx, rfl⟩
theorem stepH_neg09 {l s s' : List Hsh} {op : Int} (ho : ¬ op ≥ 0) (h : stepH l (some s) op = some s') : 2 ≤ s.length ∧ ∃ x y, s[s.length - 2]? = some x ∧ s[s.length - 1]? = some y ∧ s' = s.take (s.length - 2) ++ [nodeH x y] := by
  rw [stepH, Option.bind_some, if_neg (by omega)] at h
  by_cases h2 : 2 ≤ s.length
  · rw [if_pos h2] at h
    have e1 : s[s.length - 2]? = some (s.getD (s.length - 2) zeroH) := by rw [List.getD_eq_getElem?_getD, List.getElem?_eq_getElem (by omega)]; rfl
    have e2 : s[s.length - 1]? = some (s.getD (s.length - 1) zeroH) := by rw [List.getD_eq_getElem?_getD, List.getElem?_eq_getElem (by omega)]; rfl
    exact ⟨h2, _, _, e1, e2, (Option.some.inj h).symm⟩
  · rw [if_neg h2] at h; cases h

set_option maxRecDepth 100000 in
theorem root09_any (l : List Hsh) (a : Option Addr) (c : Nat) (w0 : World) (hr : Rd w0 a l.length c 32 (hsc l)) (hll : l.length ≤ 1000) (hL : Laid w0) (h2 : 4 ≤ w0.heap.size) :
    Calls Tryd.prog 19 #[.slice a l.length c] w0 fun e w' => e = .returned (hv (rootH l)) ∧ Kp [] w0 w' := by
  refine calls_st (F := []) (args := [.slice a l.length c]) Tryd.func19 rfl (n := 53) rfl rfl ?_
  intro ac w HF HS
  refine wp_seq ?_
  refine wp_region_lit ?_
  refine sx_ef HF (ef_alloc HS ze33) rfl rfl ?_; clear HF HS ac; rintro _ w ac ⟨g2, rfl, HS⟩ HF
  refine wpList_nil ?_
  refine then_n ?_
  refine wp_seq ?_
  refine wp_seq ?_
  refine wp_region_lit ?_
  refine sx_y HF HS (yl_move rfl) rfl rfl ?_; clear HF ac; intro ac HF
  refine sx_y HF HS (yl_len_slice Tryd.underlying22 rfl) rfl rfl ?_; clear HF ac; intro ac HF
  refine sx_dec HF HS (yl_eql rfl rfl rfl) rfl rfl ?_ ?_ <;> clear HF ac <;> intro h1x2 ac HF
  · obtain rfl : l = [] := List.eq_nil_of_length_eq_zero (by omega)
    refine wpList_nil ?_
    refine then_n ?_
    refine cx_true HF rfl ?_
    refine wp_seq ?_
    refine wp_region_lit ?_
    refine sx_call HF Tryd.func69 (by kernel_rfl) (by kernel_rfl) (evs_cons rfl evs_nil) (sum_any none 0 [] w (nil_rd w 1) (hL.below HS.kp) (Nat.le_trans h2 HS.kp.size)) rfl rfl ?_; clear HF ac
    rintro _ w ⟨rfl, k1⟩
    refine ⟨_, rfl, fun ac HF => ?_⟩
    replace HS := HS.call k1
    clear k1
    refine sx_ef0 HF (ef_store HS sz33 rfl rfl rfl) rfl ?_; clear HS; rintro _ w HS
    refine wpList_nil ?_
    refine then_n ?_
    refine wp_ret ?_
    refine then_r ?_
    exact rt1 rfl HF HS ⟨⟨_, rfl⟩, ld_ag ag33 rfl rfl⟩ ⟨rfl, HS.kp⟩
  · have hne : l ≠ [] := by rintro rfl; exact h1x2 rfl
    have hl1 : 1 ≤ l.length := List.length_pos_iff.2 hne
    have hrun := rops_run09 l hll hne
    have hlen := rops_length l.length 0 l.length (Nat.le_refl _) hl1 (by omega)
    have hcall := fun w => refRoot_all l.length 0 l.length w (Nat.le_refl _) hl1 (by omega)
    simp only [Nat.zero_add] at hcall
    generalize rops l.length 0 l.length = ops at *
    refine wpList_nil ?_
    refine then_n ?_
    refine cx_false HF rfl ?_
    refine wp_skip ?_
    refine then_n ?_
    refine wp_seq ?_
    refine wp_region_lit ?_
    refine sx_y HF HS (yl_assign rfl) rfl rfl ?_; clear HF ac; intro ac HF
    replace HS := HS.nilRow 33 32
    refine wpList_nil ?_
    refine then_n ?_
    refine wp_seq ?_
    refine wp_seq ?_
    refine wp_region_lit ?_
    refine sx_y HF HS (yl_move rfl) rfl rfl ?_; clear HF ac; intro ac HF
    refine sx_y HF HS (yl_len_slice Tryd.underlying22 rfl) rfl rfl ?_; clear HF ac; intro ac HF
    refine sx_call HF Tryd.func70 (by kernel_rfl) (by kernel_rfl) (evs_cons rfl (evs_cons rfl evs_nil)) (hcall w) rfl rfl ?_; clear HF ac
    rintro _ w ⟨_, rfl, a13, c13, rfl, o7, f7, k7⟩
    refine ⟨_, rfl, fun ac HF => ?_⟩
    replace HS := HS.addRow k7 o7 f7
    clear o7 f7 k7
    refine sx_y HF HS (yl_len_slice Tryd.underlying23 rfl) rfl rfl ?_; clear HF ac; intro ac HF
    refine sx_y HF HS (yl_move rfl) rfl rfl ?_; clear HF ac; intro ac HF
    refine wpList_nil ?_
    refine then_n ?_
    refine wp_block ?_
    replace HF := HF.sub (m' := [(0, _), (2, _), (13, _), (14, _), (15, _), (3, _)]) (by repeat (first | exact ag_nil | refine ag_cons rfl ?_))
    refine cx_loop (m := [(0, _), (2, _), (13, _), (14, _)]) (HF.sub (by repeat (first | exact ag_nil | refine ag_cons rfl ?_))) (fun m d ac w => ∃ (k : Nat) (s : List Hsh) (a3 : Option Addr) (c3 : Nat), k ≤ ops.length ∧ (ops.take k).foldl (stepH l) (some []) = some s ∧ s.length ≤ k ∧ d = ops.length - k ∧ Fr ([(15, .int .i64 (k : Int)), (3, .slice a3 s.length c3)] ++ m) 53 ac ∧ St [] w0 [⟨g2, sgA [(32, hv zeroH)], 33⟩] [⟨3, 1, a13, ops.length, c13, ivs ops⟩, ⟨33, 32, a3, s.length, c3, hsc s⟩] w) ?_ ?_
    · exact ⟨_, 0, [], none, 0, Nat.zero_le _, rfl, Nat.le_refl _, rfl, HF.sub (by repeat (first | exact ag_nil | refine ag_cons rfl ?_)), HS⟩
    · clear HF HS ac w
      rintro d ac w ⟨k, s, a3, c3, hk, hs, hsk, rfl, HF, HS⟩
      refine wp_seq ?_
      refine wp_region_lit ?_
      refine sx_dec HF HS (yl_lss rfl rfl rfl) rfl rfl ?_ ?_ <;> clear HF ac <;> intro h5x0 ac HF
      · obtain ⟨op, hop⟩ : ∃ op, ops[k]? = some op := ⟨_, List.getElem?_eq_getElem (by omega)⟩
        have hbv : (ivs ops)[k]? = some (.int .i64 op) := by rw [ivs, List.getElem?_map, hop]; rfl
        obtain ⟨s0, s2, hs0, hst, hs2⟩ := run_at l ops _ hrun k (by omega)
        obtain rfl : s0 = s := Option.some.inj (hs0.symm.trans hs)
        rw [(List.getElem?_eq_some_iff.1 hop).2] at hst
        refine wpList_nil ?_
        refine then_n ?_
        refine wp_seq ?_
        refine cx_true HF rfl ?_
        refine wp_skip ?_
        refine then_n ?_
        refine wp_seq ?_
        refine wp_block ?_
        refine wp_seq ?_
        refine wp_region_lit ?_
        refine sx_y HF HS (ix_sl Tryd.underlying23 sz3 rfl rfl (by omega) HS.row0.nil0) rfl rfl ?_; clear HF ac; intro ac HF
        refine sx_y HF HS (ld_elC sc3 rfl hbv (fun w h => h.row0)) rfl rfl ?_; clear HF ac; intro ac HF
        refine sx_y HF HS (yl_assign rfl) rfl rfl ?_; clear HF ac; intro ac HF
        refine wpList_nil ?_
        refine then_n ?_
        refine wp_seq ?_
        refine wp_seq ?_
        refine wp_region_lit ?_
        refine sx_y HF HS (yl_move rfl) rfl rfl ?_; clear HF ac; intro ac HF
        refine sx_dec HF HS (yl_geq rfl rfl rfl) rfl rfl ?_ ?_ <;> clear HF ac <;> intro h7x1 ac HF
        · obtain ⟨j, rfl⟩ : ∃ j : Nat, op = j := ⟨op.toNat, by omega⟩
          obtain ⟨x, hx, rfl⟩ := stepH_pos09 hst
          have hj := (List.getElem?_eq_some_iff.1 hx).1
          refine wpList_nil ?_
          refine then_n ?_
          refine cx_true HF rfl ?_
          refine wp_seq ?_
          refine wp_region_lit ?_
          refine sx_y HF HS (yl_move rfl) rfl rfl ?_; clear HF ac; intro ac HF
          refine sx_y HF HS (yl_move rfl) rfl rfl ?_; clear HF ac; intro ac HF
          refine sx_y HF HS (yl_move rfl) rfl rfl ?_; clear HF ac; intro ac HF
          refine sx_y HF HS (ix_sl Tryd.underlying22 sz33 rfl rfl (by omega) hr.nil0) rfl rfl ?_; clear HF ac; intro ac HF
          refine sx_y HF HS (ld_elH ag33 rfl hx (fun w h => hr.below h.kp)) rfl rfl ?_; clear HF ac; intro ac HF
          refine sx_ef HF (ef_lit (n := 1) HS sl22 (parts := #[(0, .tmp 25)]) (evs_cons rfl evs_nil) rfl rfl (s := [(32, _)]) rfl (by simp)) rfl rfl ?_; clear HF HS ac; rintro _ w ac ⟨g26, rfl, HS⟩ HF
          refine sx_ef HF (ef_append1 (n' := (s0 ++ [x]).length) (ys := hsc (s0 ++ [x])) HS sl22 rfl rfl rfl (by simp) (by simp; omega) (hsc_app1 _ _)) rfl rfl ?_; clear HF HS ac; rintro _ w ac ⟨a27, c27, rfl, HS⟩ HF
          refine sx_y HF HS (yl_assign rfl) rfl rfl ?_; clear HF ac; intro ac HF
          refine wpList_nil ?_
          refine then_n ?_
          refine wp_exit ?_
          refine then_x ?_
          refine blk_hit ?_
          refine then_n ?_
          refine wp_region_lit ?_
          refine sx_y HF HS (yl_add64 (r := ((k + 1 : Nat) : Int)) rfl rfl (by omega) (by omega)) rfl rfl ?_; clear HF ac; intro ac HF
          refine sx_y HF HS (yl_move rfl) rfl rfl ?_; clear HF ac; intro ac HF
          refine wpList_nil ?_
          refine then_n ?_
          refine ⟨_, ?_, k + 1, _, _, _, by omega, hs2, ?_, rfl, HF.sub (by repeat (first | exact ag_nil | refine ag_cons rfl ?_)), HS.sub (List.Sublist.cons _ (List.Sublist.refl _)) (List.Sublist.refl _)⟩
          · omega
          · simp; omega
        · obtain ⟨hs3, x, y, hx, hy, rfl⟩ := stepH_neg09 h7x1 hst
          refine wpList_nil ?_
          refine then_n ?_
          refine cx_false HF rfl ?_
          refine wp_skip ?_
          refine then_n ?_
          refine wp_seq ?_
          refine wp_region_lit ?_
          refine sx_y HF HS (yl_move rfl) rfl rfl ?_; clear HF ac; intro ac HF
          refine sx_y HF HS (yl_len_slice Tryd.underlying22 rfl) rfl rfl ?_; clear HF ac; intro ac HF
          refine sx_y HF HS (yl_sub64 (r := ((s0.length - 2 : Nat) : Int)) rfl rfl (by omega) (by omega)) rfl rfl ?_; clear HF ac; intro ac HF
          refine sx_y HF HS (yl_assign rfl) rfl rfl ?_; clear HF ac; intro ac HF
          refine wpList_nil ?_
          refine then_n ?_
          refine wp_seq ?_
          refine wp_seq ?_
          refine wp_region_lit ?_
          refine sx_y HF HS (yl_move rfl) rfl rfl ?_; clear HF ac; intro ac HF
          refine sx_y HF HS (yl_lss rfl rfl (decide_eq_false (by omega))) rfl rfl ?_; clear HF ac; intro ac HF
          refine wpList_nil ?_
          refine then_n ?_
          refine cx_false HF rfl ?_
          refine wp_skip ?_
          refine then_n ?_
          refine dx_region 12 (by kernel_rfl) HS.drew (fun _ h => h) ?_; clear HS; intro w HS
          have HH := HS
          refine dx_p (i := 0) HF rfl (by kernel_rfl) (by kernel_rfl) (by kernel_rfl) (by decide) (fun _ _ _ h => h) (fun _ => HH) (yl_move rfl) rfl rfl ?_; clear HF ac; intro ac HF
          refine dx_p (i := 1) HF rfl (by kernel_rfl) (by kernel_rfl) (by kernel_rfl) (by decide) (fun _ _ _ h => h) (fun _ => HH) (yl_move rfl) rfl rfl ?_; clear HF ac; intro ac HF
          have hlm := HS.row1.lim
          refine dx_p (i := 2) HF rfl (by kernel_rfl) (by kernel_rfl) (by kernel_rfl) (by decide) (fun _ _ _ h => h) (fun _ => HH) (sl_hi (r := (s0.take (s0.length - 2)).length) Tryd.underlying22 sz33 rfl rfl (by omega) (by simp)) rfl rfl ?_; clear HF ac; intro ac HF
          refine dx_p (i := 3) HF rfl (by kernel_rfl) (by kernel_rfl) (by kernel_rfl) (by decide) (fun _ _ _ h => h) (fun _ => HH) (yl_move rfl) rfl rfl ?_; clear HF ac; intro ac HF
          refine dx_p (i := 4) HF rfl (by kernel_rfl) (by kernel_rfl) (by kernel_rfl) (by decide) (fun _ _ _ h => h) (fun _ => HH) (yl_move rfl) rfl rfl ?_; clear HF ac; intro ac HF
          refine dx_p (i := 5) HF rfl (by kernel_rfl) (by kernel_rfl) (by kernel_rfl) (by decide) (fun _ _ _ h => h) (fun _ => HH) (ix_sl Tryd.underlying22 sz33 rfl rfl (by omega) HS.row1.nil0) rfl rfl ?_; clear HF ac; intro ac HF
          refine dx_k (i := 6) HF rfl (by kernel_rfl) (by kernel_rfl) (by kernel_rfl) (by kernel_rfl) (by kernel_rfl) (fun _ _ _ h => h) HH (ld_elH ag33 rfl hx (fun w h => h.row1)) rfl rfl ?_; clear HF ac; intro ac HF
          refine dx_p (i := 7) HF rfl (by kernel_rfl) (by kernel_rfl) (by kernel_rfl) (by decide) (fun _ _ _ h => h) (fun _ => HH) (yl_move rfl) rfl rfl ?_; clear HF ac; intro ac HF
          refine dx_p (i := 8) HF rfl (by kernel_rfl) (by kernel_rfl) (by kernel_rfl) (by decide) (fun _ _ _ h => h) (fun _ => HH) (yl_move rfl) rfl rfl ?_; clear HF ac; intro ac HF
          refine dx_p (i := 9) HF rfl (by kernel_rfl) (by kernel_rfl) (by kernel_rfl) (by decide) (fun _ _ _ h => h) (fun _ => HH) (yl_add64 (r := ((s0.length - 1 : Nat) : Int)) rfl rfl (by omega) (by omega)) rfl rfl ?_; clear HF ac; intro ac HF
          refine dx_p (i := 10) HF rfl (by kernel_rfl) (by kernel_rfl) (by kernel_rfl) (by decide) (fun _ _ _ h => h) (fun _ => HH) (ix_sl Tryd.underlying22 sz33 rfl rfl (by omega) HS.row1.nil0) rfl rfl ?_; clear HF ac; intro ac HF
          refine dx_k (i := 11) HF rfl (by kernel_rfl) (by kernel_rfl) (by kernel_rfl) (by kernel_rfl) (by kernel_rfl) (fun _ _ _ h => h) HH (ld_elH ag33 rfl hy (fun w h => h.row1)) rfl rfl ?_; clear HF ac; intro ac HF
          refine dx_one (i := 12) (by kernel_rfl) ?_
          refine op_call (i := 12) HF rfl Tryd.func37 (by kernel_rfl) (by kernel_rfl) (evs_cons rfl (evs_cons rfl evs_nil)) (node_any x y w (hL.below HS.kp) (Nat.le_trans h2 HS.kp.size)) rfl rfl ?_; clear HF ac
          rintro _ w ⟨rfl, k1⟩
          refine ⟨_, rfl, fun ac HF => ?_⟩
          replace HS := HS.call k1
          clear k1
          refine ⟨fun h => absurd h (by decide), ?_⟩
          refine dx_one (i := 13) (by kernel_rfl) ?_
          refine op_ef (i := 13) HF rfl rfl rfl (ef_lit (n := 1) HS sl22 (parts := #[(0, .tmp 46)]) (evs_cons rfl evs_nil) rfl rfl (s := [(32, _)]) rfl (by simp)) ?_; clear HF HS ac; rintro _ w ac ⟨g47, rfl, HS⟩ HF
          refine ⟨fun h => absurd h (by decide), ?_⟩
          refine dx_one (i := 14) (by kernel_rfl) ?_
          replace HS := HS.cutH (e := 33) (a := a3) (c := c3) (s := s0) (m := s0.length - 2) (by omega)
          refine op_ef (i := 14) HF rfl rfl rfl (ef_append1 (n' := ((s0.take (s0.length - 2)) ++ [(nodeH x y)]).length) (ys := hsc ((s0.take (s0.length - 2)) ++ [(nodeH x y)])) HS sl22 rfl rfl rfl (by simp) (by simp; omega) (hsc_app1 _ _)) ?_; clear HF HS ac; rintro _ w ac ⟨a48, c48, rfl, HS⟩ HF
          refine ⟨fun h => absurd h (by decide), ?_⟩
          refine dx_p (i := 15) HF rfl (by kernel_rfl) (by kernel_rfl) (by kernel_rfl) (by decide) (fun _ _ _ h => h) (fun h => absurd h (by decide)) (yl_assign rfl) rfl rfl ?_; clear HF ac; intro ac HF
          refine dx_done (by kernel_rfl) ?_
          clear HH
          refine blk_n ?_
          refine then_n ?_
          refine wp_region_lit ?_
          refine sx_y HF HS (yl_add64 (r := ((k + 1 : Nat) : Int)) rfl rfl (by omega) (by omega)) rfl rfl ?_; clear HF ac; intro ac HF
          refine sx_y HF HS (yl_move rfl) rfl rfl ?_; clear HF ac; intro ac HF
          refine wpList_nil ?_
          refine then_n ?_
          refine ⟨_, ?_, k + 1, _, _, _, by omega, hs2, ?_, rfl, HF.sub (by repeat (first | exact ag_nil | refine ag_cons rfl ?_)), HS.sub (List.Sublist.cons _ (List.Sublist.refl _)) (List.Sublist.refl _)⟩
          · omega
          · simp; omega
      · obtain rfl : k = ops.length := by omega
        rw [List.take_length, hrun] at hs
        obtain rfl := Option.some.inj hs
        have hone : [rootH l].length = 1 := rfl
        refine wpList_nil ?_
        refine then_n ?_
        refine wp_seq ?_
        refine cx_false HF rfl ?_
        refine wp_exit ?_
        refine then_x ?_
        refine then_x ?_
        refine blk_hit ?_
        refine then_n ?_
        refine wp_seq ?_
        refine wp_region_lit ?_
        refine sx_y HF HS (yl_move rfl) rfl rfl ?_; clear HF ac; intro ac HF
        refine sx_y HF HS (ix_sl (k := 0) Tryd.underlying22 sz33 rfl rfl (by omega) HS.row1.nil0) rfl rfl ?_; clear HF ac; intro ac HF
        refine sx_y HF HS (ld_elH ag33 rfl (h := rootH l) rfl (fun w h => h.row1)) rfl rfl ?_; clear HF ac; intro ac HF
        refine sx_ef0 HF (ef_store HS sz33 rfl rfl rfl) rfl ?_; clear HS; rintro _ w HS
        refine wpList_nil ?_
        refine then_n ?_
        refine wp_ret ?_
        exact rt1 rfl HF HS ⟨⟨_, rfl⟩, ld_ag ag33 rfl rfl⟩ ⟨rfl, HS.kp⟩

end Go.Proofs.YtalnkhgonfcabaaDoor

namespace Go.Proofs.YtalnkhgonfcabaaDoor
open Go.RowKit

/-! ### Types -/
namespace Cmp6
theorem ag33 : AgT Tryd.prog 33 32 := AgT.mk' Tryd.underlying33 rfl (by kernel_rfl)
theorem fd101x0 : FdT Tryd.prog 101 0 0 := FdT.mk' (k := 0) Tryd.underlying101 (by kernel_rfl)
theorem sc3 : ScT Tryd.prog 3 := ScT.mk' Tryd.underlying3 rfl (by kernel_rfl)
theorem sl22 : SlT Tryd.prog 22 33 Tryd.t33 (hv zeroH) 32 32 := ⟨Tryd.underlying22, by kernel_rfl, by kernel_rfl, rfl, rfl, hvA_size _, by decide⟩
theorem sz5 : (Tryd.prog.info? 5).map (·.size) = some 1 := by kernel_rfl
theorem sz33 : (Tryd.prog.info? 33).map (·.size) = some 32 := by kernel_rfl
theorem ze33 : ZeS Tryd.prog 33 [(32, hv zeroH)] := ⟨hv zeroH, ZeT.mk' (by kernel_rfl), (sgA_h zeroH).symm⟩
theorem zt33 : ZeT Tryd.prog 33 (hv zeroH) := ZeT.mk' (by kernel_rfl)
end Cmp6
open Go.Proofs.YtalnkhgonfcabaaDoor.Cmp6

set_option maxRecDepth 100000 in
theorem root9_zero (g : Nat) (a : Option Addr) (c : Nat) (w0 : World) (hg : RgA w0 g 0 [] a c) (hL : Laid w0) (h2 : 4 ≤ w0.heap.size) :
    Calls Tryd.prog 23 #[.pointer (some ⟨g, 0, none⟩)] w0 fun e w' => e = .returned (hv (peaksR [])) ∧ Kp [] w0 w' := by
  refine calls_stL (args := [.pointer (some ⟨g, 0, none⟩)]) (St.ofBlk hg.b) Tryd.func23 rfl (n := 39) rfl rfl ?_
  intro ac w HF HS
  refine wp_seq ?_
  refine wp_region_lit ?_
  refine sx_ef HF (ef_alloc HS ze33) rfl rfl ?_; clear HF HS ac; rintro _ w ac ⟨g2, rfl, HS⟩ HF
  refine wpList_nil ?_
  refine then_n ?_
  refine wp_seq ?_
  refine wp_seq ?_
  refine wp_region_lit ?_
  refine sx_y HF HS (yl_move rfl) rfl rfl ?_; clear HF ac; intro ac HF
  refine sx_y HF HS (yl_nilCheck rfl) rfl rfl ?_; clear HF ac; intro ac HF
  refine sx_y HF HS (fa_st fd101x0 rfl) rfl rfl ?_; clear HF ac; intro ac HF
  refine sx_y HF HS (ld_sc sc3 rfl rfl rfl) rfl rfl ?_; clear HF ac; intro ac HF
  refine sx_y HF HS (yl_eql rfl rfl (decide_eq_true (by omega))) rfl rfl ?_; clear HF ac; intro ac HF
  refine wpList_nil ?_
  refine then_n ?_
  refine cx_true HF rfl ?_
  refine wp_seq ?_
  refine wp_region_lit ?_
  refine sx_call HF Tryd.func69 (by kernel_rfl) (by kernel_rfl) (evs_cons rfl evs_nil) (sum_any none 0 [] w (nil_rd w 1) (hL.below (kp_own1 HS hg.b)) (Nat.le_trans h2 HS.kp.size)) rfl rfl ?_; clear HF ac
  rintro _ w ⟨rfl, k1⟩
  refine ⟨_, rfl, fun ac HF => ?_⟩
  replace HS := HS.call k1
  clear k1
  refine sx_ef0 HF (ef_store HS sz33 rfl rfl rfl) rfl ?_; clear HS; rintro _ w HS
  refine wpList_nil ?_
  refine then_n ?_
  refine wp_ret ?_
  refine then_r ?_
  exact rt1 rfl HF HS ⟨⟨_, rfl⟩, ld_ag ag33 rfl rfl⟩ ⟨rfl, kp_own1 HS hg.b⟩

theorem pop_pos (n : Nat) (h : n ≠ 0) (hb : n < 18446744073709551616) : 1 ≤ pop n := by
  obtain ⟨m, rfl⟩ : ∃ m, n = m + 1 := ⟨n - 1, by omega⟩
  have h1 := tons_pop 64 m (by omega)
  have h2 := tons_le m (by omega)
  omega
theorem root9_any (g n : Nat) (ps : List Hsh) (a : Option Addr) (c : Nat) (w0 : World) (hg : RgA w0 g n ps a c) (hp : ps.length = pop n) (hn : n < 18446744073709551616) (hL : Laid w0) (h2 : 4 ≤ w0.heap.size) :
    Calls Tryd.prog 23 #[.pointer (some ⟨g, 0, none⟩)] w0 fun e w' => e = .returned (hv (peaksR ps)) ∧ Kp [] w0 w' := by
  by_cases h0 : n = 0
  · subst h0
    obtain rfl : ps = [] := List.eq_nil_of_length_eq_zero hp
    exact root9_zero g a c w0 hg hL h2
  · exact R.root9_some g n ps a c w0 hg h0 (by have := pop_pos n h0 hn; omega) hL h2

set_option maxRecDepth 100000 in
theorem awake9_any (w0 : World) (hT : Tab w0) (hL : Laid w0) (h2 : 4 ≤ w0.heap.size) : Calls Tryd.prog 15 #[] w0 fun e w' => e = .returned (.bool true) ∧ Kp [] w0 w' := by
  refine calls_st (F := []) (args := []) Tryd.func15 rfl (n := 41) rfl rfl ?_
  intro ac w HF HS
  refine wp_seq ?_
  refine wp_region_lit ?_
  refine sx_y HF HS (yl_assign rfl) rfl rfl ?_; clear HF ac; intro ac HF
  refine wpList_nil ?_
  refine then_n ?_
  refine wp_seq ?_
  refine wp_region_lit ?_
  refine sx_call HF Tryd.func16 (by kernel_rfl) (by kernel_rfl) evs_nil (new9_any w) rfl rfl ?_; clear HF ac
  rintro _ w ⟨g5, rfl, k1⟩
  refine ⟨_, rfl, fun ac HF => ?_⟩
  replace HS : St [] w0 [⟨g5, sgA (rgS ((0 : Nat) : Int) none ([] : List Hsh).length 0), 101⟩] [⟨33, 32, none, ([] : List Hsh).length, 0, hsc ([] : List Hsh)⟩] w := HS.join k1
  clear k1
  refine sx_y HF HS (yl_assign rfl) rfl rfl ?_; clear HF ac; intro ac HF
  refine wpList_nil ?_
  refine then_n ?_
  refine wp_seq ?_
  refine wp_region_lit ?_
  refine sx_y HF HS (bd_h1 (b := 1) Tryd.underlying33 sz5 zt33 rfl) rfl rfl ?_; clear HF ac; intro ac HF
  refine sx_y HF HS (bd_h1 (b := 2) Tryd.underlying33 sz5 zt33 rfl) rfl rfl ?_; clear HF ac; intro ac HF
  refine sx_y HF HS (bd_h1 (b := 3) Tryd.underlying33 sz5 zt33 rfl) rfl rfl ?_; clear HF ac; intro ac HF
  refine sx_ef HF (ef_alloc HS ze33) rfl rfl ?_; clear HF HS ac; rintro _ w ac ⟨g2, rfl, HS⟩ HF
  refine sx_ef HF (ef_alloc HS ze33) rfl rfl ?_; clear HF HS ac; rintro _ w ac ⟨g3, rfl, HS⟩ HF
  refine sx_ef HF (ef_alloc HS ze33) rfl rfl ?_; clear HF HS ac; rintro _ w ac ⟨g4, rfl, HS⟩ HF
  refine sx_ef0 HF (ef_store HS sz33 rfl rfl rfl) rfl ?_; clear HS; rintro _ w HS
  refine sx_ef0 HF (ef_store HS sz33 rfl rfl rfl) rfl ?_; clear HS; rintro _ w HS
  refine sx_ef0 HF (ef_store HS sz33 rfl rfl rfl) rfl ?_; clear HS; rintro _ w HS
  obtain ⟨ha, hha⟩ : ∃ x, x = (toH (1 :: List.replicate 31 0)) := ⟨_, rfl⟩
  obtain ⟨hb, hhb⟩ : ∃ x, x = (toH (2 :: List.replicate 31 0)) := ⟨_, rfl⟩
  obtain ⟨hc, hhc⟩ : ∃ x, x = (toH (3 :: List.replicate 31 0)) := ⟨_, rfl⟩
  replace HS : St [] w0 [⟨g4, sgA [(32, hv hc)], 33⟩, ⟨g3, sgA [(32, hv hb)], 33⟩, ⟨g2, sgA [(32, hv ha)], 33⟩, ⟨g5, sgA (rgS ((0 : Nat) : Int) none ([] : List Hsh).length 0), 101⟩] [⟨33, 32, none, ([] : List Hsh).length, 0, hsc ([] : List Hsh)⟩] w := by rw [hha, hhb, hhc]; exact HS
  have hpl : (appT 0 [] [ha, hb, hc]).length = 2 := (appT_len _ _ _ rfl (by simp)).trans (show pop 3 = 2 by decide +kernel)
  have hroot : peaksR (appT 0 [] [ha, hb, hc]) = nodeH (nodeH ha hb) hc := rfl
  refine wpList_nil ?_
  refine then_n ?_
  refine wp_seq ?_
  refine dx_region 33 (by kernel_rfl) HS.drew (fun _ h => h.sub (List.Sublist.cons_cons _ (List.Sublist.cons_cons _ (List.Sublist.cons_cons _ (List.Sublist.cons _ List.Sublist.slnil)))) (List.nil_sublist _)) ?_; clear HS; intro w HS
  have HH := HS.sub (List.Sublist.cons_cons _ (List.Sublist.cons_cons _ (List.Sublist.cons_cons _ (List.Sublist.cons _ List.Sublist.slnil)))) (List.nil_sublist _)
  refine dx_p (i := 0) HF rfl (by kernel_rfl) (by kernel_rfl) (by kernel_rfl) (by decide) (fun _ _ _ h => h) (fun _ => HH) (yl_move rfl) rfl rfl ?_; clear HF ac; intro ac HF
  refine dx_p (i := 1) HF rfl (by kernel_rfl) (by kernel_rfl) (by kernel_rfl) (by decide) (fun _ _ _ h => h) (fun _ => HH) (yl_nePtr Tryd.underlying25 rfl rfl (by exact rfl)) rfl rfl ?_; clear HF ac; intro ac HF
  refine dx_p (i := 2) HF rfl (by kernel_rfl) (by kernel_rfl) (by kernel_rfl) (by decide) (fun _ _ _ h => h) (fun _ => HH) (yl_move rfl) rfl rfl ?_; clear HF ac; intro ac HF
  refine dx_p (i := 3) HF rfl (by kernel_rfl) (by kernel_rfl) (by kernel_rfl) (by decide) (fun _ _ _ h => h) (fun _ => HH) (yl_move rfl) rfl rfl ?_; clear HF ac; intro ac HF
  refine dx_k (i := 4) HF rfl (by kernel_rfl) (by kernel_rfl) (by kernel_rfl) (by kernel_rfl) (by kernel_rfl) (fun _ _ _ h => h) HH (ld_ag ag33 rfl rfl) rfl rfl ?_; clear HF ac; intro ac HF
  refine dx_k (i := 5) HF rfl (by kernel_rfl) (by kernel_rfl) (by kernel_rfl) (by kernel_rfl) (by kernel_rfl) (fun _ _ _ h => h) HH (ld_ag ag33 rfl rfl) rfl rfl ?_; clear HF ac; intro ac HF
  refine dx_k (i := 6) HF rfl (by kernel_rfl) (by kernel_rfl) (by kernel_rfl) (by kernel_rfl) (by kernel_rfl) (fun _ _ _ h => h) HH (ld_ag ag33 rfl rfl) rfl rfl ?_; clear HF ac; intro ac HF
  refine dx_one (i := 7) (by kernel_rfl) ?_
  refine op_ef (i := 7) HF rfl rfl rfl (ef_lit (n := 3) HS sl22 (parts := #[(0, .tmp 13), (1, .tmp 14), (2, .tmp 15)]) (evs_cons rfl (evs_cons rfl (evs_cons rfl evs_nil))) rfl rfl (s := [(32, _), (32, _), (32, _)]) rfl (by simp)) ?_; clear HF HS ac; rintro _ w ac ⟨g16, rfl, HS⟩ HF
  replace HH := HS.sub (List.Sublist.cons _ (List.Sublist.cons_cons _ (List.Sublist.cons_cons _ (List.Sublist.cons_cons _ (List.Sublist.cons _ List.Sublist.slnil))))) (List.nil_sublist _)
  refine ⟨fun _ => HH, ?_⟩
  refine dx_one (i := 8) (by kernel_rfl) ?_
  have hdis : 0 < [ha, hb, hc].length → ∀ x ∈ aF (some (⟨g16, 0, none⟩ : Addr)), x ∉ ids [⟨g5, sgA (rgS ((0 : Nat) : Int) none ([] : List Hsh).length 0), 101⟩] [⟨33, 32, none, ([] : List Hsh).length, 0, hsc ([] : List Hsh)⟩] := by
    intro _ x hx hh
    have hnd := HS.nd
    simp [ids, aF] at hx hh hnd
    omega
  refine op_call (i := 8) HF rfl Tryd.func17 (by kernel_rfl) (by kernel_rfl) (evs_cons rfl (evs_cons rfl evs_nil)) (append9_any g5 0 [] [ha, hb, hc] none (some ⟨g16, 0, none⟩) 0 3 w ⟨HS.blk _ (List.mem_cons_of_mem _ (List.mem_cons_of_mem _ (List.mem_cons_of_mem _ (List.mem_cons_of_mem _ List.mem_cons_self)))), HS.row _ List.mem_cons_self⟩ (by have := HS.rdL (g := g16) (k := 3) (size := 32) rfl (by decide); simpa [sgL, Value.cells, hsc, hcs, hvA] using this) (by simp) rfl ((HS.sub (L' := [⟨g5, sgA (rgS ((0 : Nat) : Int) none ([] : List Hsh).length 0), 101⟩]) (R' := [⟨33, 32, none, ([] : List Hsh).length, 0, hsc ([] : List Hsh)⟩]) (List.Sublist.cons _ (List.Sublist.cons _ (List.Sublist.cons _ (List.Sublist.cons _ (List.Sublist.refl _))))) (List.Sublist.refl _)).low (by simp) h2) hdis (hT.below HS.kp) (hL.below HS.kp) (Nat.le_trans h2 HS.kp.size)) rfl rfl ?_; clear HF ac
  rintro _ w ⟨rfl, a5, c5, k1⟩
  refine ⟨_, rfl, fun ac HF => ?_⟩
  skip
  replace HS := HS.perm (L' := [_, _, _, _, _]) (List.perm_append_comm (l₁ := [_]) (l₂ := [_, _, _, _]))
  replace HS := St.upd (L1 := [_]) (L := [_, _, _, _]) (R1 := [_]) (R := []) HS k1
  replace HS : St [] w0 [_, _, _, _, ⟨g5, sgA (rgS ((3 : Nat) : Int) a5 (appT 0 [] [ha, hb, hc]).length c5), 101⟩] [⟨33, 32, a5, (appT 0 [] [ha, hb, hc]).length, c5, hsc (appT 0 [] [ha, hb, hc])⟩] w := HS.perm (List.perm_append_comm (l₁ := [_, _, _, _]) (l₂ := [_]))
  replace HH := HS.sub (L' := [⟨g4, sgA [(32, hv hc)], 33⟩, ⟨g3, sgA [(32, hv hb)], 33⟩, ⟨g2, sgA [(32, hv ha)], 33⟩]) (R' := []) (List.Sublist.cons _ (List.Sublist.cons_cons _ (List.Sublist.cons_cons _ (List.Sublist.cons_cons _ (List.nil_sublist _))))) (List.nil_sublist _)
  clear k1
  refine ⟨fun _ => HH, ?_⟩
  refine dx_p (i := 9) HF rfl (by kernel_rfl) (by kernel_rfl) (by kernel_rfl) (by decide) (fun _ _ _ h => h) (fun _ => HH) (yl_eql rfl rfl (decide_eq_true (by exact rfl))) rfl rfl ?_; clear HF ac; intro ac HF
  refine dx_p (i := 10) HF rfl (by kernel_rfl) (by kernel_rfl) (by kernel_rfl) (by decide) (fun _ _ _ h => h) (fun _ => HH) (yl_pick (b := true) rfl rfl) rfl rfl ?_; clear HF ac; intro ac HF
  refine dx_p (i := 11) HF rfl (by kernel_rfl) (by kernel_rfl) (by kernel_rfl) (by decide) (fun _ _ _ h => h) (fun _ => HH) (yl_move rfl) rfl rfl ?_; clear HF ac; intro ac HF
  refine dx_p (i := 12) HF rfl (by kernel_rfl) (by kernel_rfl) (by kernel_rfl) (by decide) (fun _ _ _ h => h) (fun _ => HH) (yl_move rfl) rfl rfl ?_; clear HF ac; intro ac HF
  refine dx_one (i := 13) (by kernel_rfl) ?_
  refine op_call (i := 13) HF rfl Tryd.func20 (by kernel_rfl) (by kernel_rfl) (evs_cons rfl evs_nil) (size9_any g5 _ _ _ _ w (HS.blk _ (List.mem_cons_of_mem _ (List.mem_cons_of_mem _ (List.mem_cons_of_mem _ (List.mem_cons_of_mem _ List.mem_cons_self)))))) rfl rfl ?_; clear HF ac
  rintro _ w ⟨rfl, k1⟩
  refine ⟨_, rfl, fun ac HF => ?_⟩
  replace HH := HH.call k1
  replace HS := HS.call k1
  clear k1
  refine ⟨fun _ => HH, ?_⟩
  refine dx_p (i := 14) HF rfl (by kernel_rfl) (by kernel_rfl) (by kernel_rfl) (by decide) (fun _ _ _ h => h) (fun _ => HH) (yl_eql rfl rfl (decide_eq_true (by exact rfl))) rfl rfl ?_; clear HF ac; intro ac HF
  refine dx_p (i := 15) HF rfl (by kernel_rfl) (by kernel_rfl) (by kernel_rfl) (by decide) (fun _ _ _ h => h) (fun _ => HH) (yl_pick (b := true) rfl rfl) rfl rfl ?_; clear HF ac; intro ac HF
  refine dx_p (i := 16) HF rfl (by kernel_rfl) (by kernel_rfl) (by kernel_rfl) (by decide) (fun _ _ _ h => h) (fun _ => HH) (yl_move rfl) rfl rfl ?_; clear HF ac; intro ac HF
  refine dx_p (i := 17) HF rfl (by kernel_rfl) (by kernel_rfl) (by kernel_rfl) (by decide) (fun _ _ _ h => h) (fun _ => HH) (yl_move rfl) rfl rfl ?_; clear HF ac; intro ac HF
  refine dx_one (i := 18) (by kernel_rfl) ?_
  refine op_call (i := 18) HF rfl Tryd.func22 (by kernel_rfl) (by kernel_rfl) (evs_cons rfl evs_nil) (peaks9_any g5 3 (appT 0 [] [ha, hb, hc]) a5 c5 w ⟨HS.blk _ (List.mem_cons_of_mem _ (List.mem_cons_of_mem _ (List.mem_cons_of_mem _ (List.mem_cons_of_mem _ List.mem_cons_self)))), HS.row _ List.mem_cons_self⟩ (by rw [hpl]; decide)) rfl rfl ?_; clear HF ac
  rintro _ w ⟨a6, c6, rfl, k1⟩
  refine ⟨_, rfl, fun ac HF => ?_⟩
  replace HH := HH.call k1.kp
  replace HS := HS.call k1.kp
  clear k1
  refine ⟨fun _ => HH, ?_⟩
  refine dx_p (i := 19) HF rfl (by kernel_rfl) (by kernel_rfl) (by kernel_rfl) (by decide) (fun _ _ _ h => h) (fun _ => HH) (yl_len_slice Tryd.underlying22 rfl) rfl rfl ?_; clear HF ac; intro ac HF
  refine dx_p (i := 20) HF rfl (by kernel_rfl) (by kernel_rfl) (by kernel_rfl) (by decide) (fun _ _ _ h => h) (fun _ => HH) (yl_eql rfl rfl (decide_eq_true (by exact (by rw [hpl]; rfl)))) rfl rfl ?_; clear HF ac; intro ac HF
  refine dx_p (i := 21) HF rfl (by kernel_rfl) (by kernel_rfl) (by kernel_rfl) (by decide) (fun _ _ _ h => h) (fun _ => HH) (yl_pick (b := true) rfl rfl) rfl rfl ?_; clear HF ac; intro ac HF
  refine dx_p (i := 22) HF rfl (by kernel_rfl) (by kernel_rfl) (by kernel_rfl) (by decide) (fun _ _ _ h => h) (fun _ => HH) (yl_move rfl) rfl rfl ?_; clear HF ac; intro ac HF
  refine dx_p (i := 23) HF rfl (by kernel_rfl) (by kernel_rfl) (by kernel_rfl) (by decide) (fun _ _ _ h => h) (fun _ => HH) (yl_move rfl) rfl rfl ?_; clear HF ac; intro ac HF
  refine dx_k (i := 25) HF rfl (by kernel_rfl) (by kernel_rfl) (by kernel_rfl) (by kernel_rfl) (by kernel_rfl) (fun _ _ _ h => h) HH (ld_ag ag33 rfl rfl) rfl rfl ?_; clear HF ac; intro ac HF
  refine dx_k (i := 26) HF rfl (by kernel_rfl) (by kernel_rfl) (by kernel_rfl) (by kernel_rfl) (by kernel_rfl) (fun _ _ _ h => h) HH (ld_ag ag33 rfl rfl) rfl rfl ?_; clear HF ac; intro ac HF
  refine dx_k (i := 28) HF rfl (by kernel_rfl) (by kernel_rfl) (by kernel_rfl) (by kernel_rfl) (by kernel_rfl) (fun _ _ _ h => h) HH (ld_ag ag33 rfl rfl) rfl rfl ?_; clear HF ac; intro ac HF
  refine dx_one (i := 24) (by kernel_rfl) ?_
  refine op_call (i := 24) HF rfl Tryd.func23 (by kernel_rfl) (by kernel_rfl) (evs_cons rfl evs_nil) (root9_any g5 3 (appT 0 [] [ha, hb, hc]) a5 c5 w ⟨HS.blk _ (List.mem_cons_of_mem _ (List.mem_cons_of_mem _ (List.mem_cons_of_mem _ (List.mem_cons_of_mem _ List.mem_cons_self)))), HS.row _ List.mem_cons_self⟩ (by rw [hpl]; decide +kernel) (by decide) (hL.below HS.kp) (Nat.le_trans h2 HS.kp.size)) rfl rfl ?_; clear HF ac
  rintro _ w ⟨rfl, k1⟩
  refine ⟨_, rfl, fun ac HF => ?_⟩
  replace HH := HH.call k1
  replace HS := HS.call k1
  clear k1
  refine ⟨fun _ => HH, ?_⟩
  refine dx_one (i := 27) (by kernel_rfl) ?_
  refine op_call (i := 27) HF rfl Tryd.func37 (by kernel_rfl) (by kernel_rfl) (evs_cons rfl (evs_cons rfl evs_nil)) (node_any ha hb w (hL.below HS.kp) (Nat.le_trans h2 HS.kp.size)) rfl rfl ?_; clear HF ac
  rintro _ w ⟨rfl, k1⟩
  refine ⟨_, rfl, fun ac HF => ?_⟩
  replace HH := HH.call k1
  replace HS := HS.call k1
  clear k1
  refine ⟨fun _ => HH, ?_⟩
  refine dx_one (i := 29) (by kernel_rfl) ?_
  refine op_call (i := 29) HF rfl Tryd.func37 (by kernel_rfl) (by kernel_rfl) (evs_cons rfl (evs_cons rfl evs_nil)) (node_any (nodeH ha hb) hc w (hL.below HS.kp) (Nat.le_trans h2 HS.kp.size)) rfl rfl ?_; clear HF ac
  rintro _ w ⟨rfl, k1⟩
  refine ⟨_, rfl, fun ac HF => ?_⟩
  replace HH := HH.call k1
  replace HS := HS.call k1
  clear k1
  refine ⟨fun _ => HH, ?_⟩
  refine dx_p (i := 30) HF rfl (by kernel_rfl) (by kernel_rfl) (by kernel_rfl) (by decide) (fun _ _ _ h => h) (fun _ => HH) (Tryd.yl_eqH rfl rfl (decide_eq_true (by exact hroot))) rfl rfl ?_; clear HF ac; intro ac HF
  refine dx_p (i := 31) HF rfl (by kernel_rfl) (by kernel_rfl) (by kernel_rfl) (by decide) (fun _ _ _ h => h) (fun _ => HH) (yl_pick (b := true) rfl rfl) rfl rfl ?_; clear HF ac; intro ac HF
  refine dx_p (i := 32) HF rfl (by kernel_rfl) (by kernel_rfl) (by kernel_rfl) (by decide) (fun _ _ _ h => h) (fun _ => HH) (yl_assign rfl) rfl rfl ?_; clear HF ac; intro ac HF
  refine dx_done (by kernel_rfl) ?_
  clear HH
  refine then_n ?_
  refine wp_ret ?_
  exact rt1 rfl HF HS rfl ⟨rfl, HS.kp⟩

end Go.Proofs.YtalnkhgonfcabaaDoor
