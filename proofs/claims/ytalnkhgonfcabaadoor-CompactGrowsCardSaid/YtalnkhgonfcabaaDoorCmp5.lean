/-
  ref03.Join, law09's bytes, ref09's Peaks and Count; compact's Bytes. (Printed by sx_cmp5.py.)
-/
import Derived.Test.YtalnkhgonfcabaaDoorCmp2
import Derived.Test.YtalnkhgonfcabaaDoorWireZ
namespace Go.Proofs.YtalnkhgonfcabaaDoor
open Go.RowKit

/-! ### Types -/
namespace Cmp5
theorem ag33 : AgT Tryd.prog 33 32 := AgT.mk' Tryd.underlying33 rfl (by kernel_rfl)
theorem fd101x0 : FdT Tryd.prog 101 0 0 := FdT.mk' (k := 0) Tryd.underlying101 (by kernel_rfl)
theorem fd101x1 : FdT Tryd.prog 101 1 1 := FdT.mk' (k := 0) Tryd.underlying101 (by kernel_rfl)
theorem sc3 : ScT Tryd.prog 3 := ScT.mk' Tryd.underlying3 rfl (by kernel_rfl)
theorem sc22 : ScT Tryd.prog 22 := ScT.mk' Tryd.underlying22 rfl (by kernel_rfl)
theorem sc39 : ScT Tryd.prog 39 := ScT.mk' Tryd.underlying39 rfl (by kernel_rfl)
theorem sl29 : SlT Tryd.prog 29 31 Tryd.t31 (.agg (sgA [(1, .int .i64 0), (1, .int .i64 0)])) 2 16 := ⟨Tryd.underlying29, by kernel_rfl, by kernel_rfl, rfl, rfl, rfl, by decide⟩
theorem sl39 : SlT Tryd.prog 39 5 Tryd.t5 (.int .u8 0) 1 1 := ⟨Tryd.underlying39, by kernel_rfl, by kernel_rfl, rfl, rfl, rfl, by decide⟩
theorem sl61 : SlT Tryd.prog 61 39 Tryd.t39 (.slice none 0 0) 1 24 := ⟨Tryd.underlying61, by kernel_rfl, by kernel_rfl, rfl, rfl, rfl, by decide⟩
theorem sl113 : SlT Tryd.prog 113 32 Tryd.t32 (hv zeroH) 32 32 := ⟨Tryd.underlying113, by kernel_rfl, by kernel_rfl, rfl, rfl, hvA_size _, by decide⟩
theorem sz3 : (Tryd.prog.info? 3).map (·.size) = some 1 := by kernel_rfl
theorem sz33 : (Tryd.prog.info? 33).map (·.size) = some 32 := by kernel_rfl
theorem sz39 : (Tryd.prog.info? 39).map (·.size) = some 1 := by kernel_rfl
theorem ze31 : ZeS Tryd.prog 31 [(1, .int .i64 0), (1, .int .i64 0)] := ⟨.agg _, ZeT.mk' (by kernel_rfl), rfl⟩
theorem ze33 : ZeS Tryd.prog 33 [(32, hv zeroH)] := ⟨hv zeroH, ZeT.mk' (by kernel_rfl), (sgA_h zeroH).symm⟩
theorem ze110 : ZeS Tryd.prog 110 [(1, .slice none 0 0)] := ⟨.agg _, ZeT.mk' (by kernel_rfl), rfl⟩
end Cmp5
open Go.Proofs.YtalnkhgonfcabaaDoor.Cmp5

theorem flatB_tk (l : List Pt) (i : Nat) (x : Pt) (hx : l[i]? = some x) : flatB (l.take (i + 1)) = flatB (l.take i) ++ x.l := by
  rw [List.take_add_one, hx]; simp [flatB]
theorem flatB_tk_le (l : List Pt) (i : Nat) : (flatB (l.take i)).length ≤ (flatB l).length := by
  have h : flatB l = flatB (l.take i) ++ flatB (l.drop i) := by
    rw [flatB, flatB, flatB, ← List.flatMap_append, List.take_append_drop]
  rw [h, List.length_append]; omega
/-- A range's bytes. -/
def rgB (n : Nat) (ps : List Hsh) : List UInt8 := be 8 n ++ (be 4 ps.length ++ hb ps)
theorem rgB_len (n : Nat) (ps : List Hsh) : (rgB n ps).length = 12 + ps.length * 32 := by
  rw [rgB, List.length_append, List.length_append, be_length, be_length, hb_length]; omega
theorem out_st {F : List Nat} {w0 w : World} {L : List Bk} {R : List Rw} {p : Nat} {a : Option Addr} {c : Nat} {bs : List UInt8} (h : St F w0 (⟨p, sgA [(1, .slice a bs.length c)], 110⟩ :: L) (⟨5, 1, a, bs.length, c, bcs bs⟩ :: R) w) : OutAt w p bs (p :: aF a) :=
  ⟨_, ⟨h.blk _ List.mem_cons_self, h.row _ List.mem_cons_self⟩, by rw [rowF_slice]⟩
theorem out_upd {F F' : List Nat} {w0 w w' : World} {L : List Bk} {R : List Rw} {p : Nat} {a : Option Addr} {c : Nat} {bs bs' : List UInt8} (h : St F w0 (⟨p, sgA [(1, .slice a bs.length c)], 110⟩ :: L) (⟨5, 1, a, bs.length, c, bcs bs⟩ :: R) w) (h' : OutAt w' p bs' F') (ha : Adv (p :: aF a) F' w w') :
    ∃ a' c', St F w0 (⟨p, sgA [(1, .slice a' bs'.length c')], 110⟩ :: L) (⟨5, 1, a', bs'.length, c', bcs bs'⟩ :: R) w' := by
  obtain ⟨a', c', ⟨h1, h2⟩, rfl⟩ := h'.cell
  have hi : ids [⟨p, sgA [(1, .slice a bs.length c)], 110⟩] [⟨5, 1, a, bs.length, c, bcs bs⟩] = p :: aF a := by simp [ids]
  have k0 : St (p :: aF a') w' [⟨p, sgA [(1, .slice a' bs'.length c')], 110⟩] [⟨5, 1, a', bs'.length, c', bcs bs'⟩] w' := by
    have := St.ofObj (cs := sgA [(1, .slice a' bs'.length c')]) h1 h2 (by decide)
    have e : ids [⟨p, sgA [(1, .slice a' bs'.length c')], 110⟩] [⟨5, 1, a', bs'.length, c', bcs bs'⟩] = p :: aF a' := by simp [ids]
    rw [e] at this
    exact this
  have k : St (ids [⟨p, sgA [(1, .slice a bs.length c)], 110⟩] [⟨5, 1, a, bs.length, c, bcs bs⟩]) w [⟨p, sgA [(1, .slice a' bs'.length c')], 110⟩] [⟨5, 1, a', bs'.length, c', bcs bs'⟩] w' := by
    rw [hi]
    refine ⟨ha.kp, k0.blk, k0.row, fun x hx => ?_, k0.nd⟩
    have hx' : x ∈ p :: aF a' := by simpa [ids] using hx
    rcases ha.gr x hx' with h3 | h3
    · exact .inr h3
    · exact .inl h3
  exact ⟨a', c', St.upd (L1 := [_]) (R1 := [_]) (L := L) (R := R) h k⟩

set_option maxRecDepth 100000 in
theorem join3_any (l : List Pt) (a : Option Addr) (c : Nat) (w0 : World) (hr : Rd w0 a l.length c 1 (pts l)) (hp : ∀ p ∈ l, Rd w0 p.a p.l.length p.c 1 (bcs p.l)) (ht : (flatB l).length ≤ 1099511627776) :
    Calls Tryd.prog 52 #[.slice a l.length c] w0 fun e w' => ∃ a' c', e = .returned (.slice a' (flatB l).length c') ∧ St [] w0 [] [⟨5, 1, a', (flatB l).length, c', bcs (flatB l)⟩] w' := by
  refine calls_st (F := []) (args := [.slice a l.length c]) Tryd.func52 rfl (n := 18) rfl rfl ?_
  intro ac w HF HS
  refine wp_seq ?_
  refine wp_region_lit ?_
  refine sx_y HF HS (yl_assign rfl) rfl rfl ?_; clear HF ac; intro ac HF
  refine wpList_nil ?_
  refine then_n ?_
  refine wp_seq ?_
  refine wp_region_lit ?_
  refine sx_y HF HS (yl_assign rfl) rfl rfl ?_; clear HF ac; intro ac HF
  replace HS := HS.nilRow 5 1
  refine wpList_nil ?_
  refine then_n ?_
  refine wp_seq ?_
  refine wp_seq ?_
  refine wp_region_lit ?_
  refine sx_y HF HS (yl_assign rfl) rfl rfl ?_; clear HF ac; intro ac HF
  refine wpList_nil ?_
  refine then_n ?_
  refine wp_block ?_
  replace HF := HF.sub (m' := [(0, _), (2, _), (3, _), (4, _)]) (by repeat (first | exact ag_nil | refine ag_cons rfl ?_))
  refine cx_loop (m := [(0, _), (2, _)]) (HF.sub (by repeat (first | exact ag_nil | refine ag_cons rfl ?_))) (fun m d ac w => ∃ (i : Nat) (a3 : Option Addr) (c3 : Nat), i ≤ l.length ∧ d = l.length - i ∧ Fr ([(3, .slice a3 (flatB (l.take i)).length c3), (4, .int .i64 (i : Int))] ++ m) 18 ac ∧ St [] w0 [] [⟨5, 1, a3, (flatB (l.take i)).length, c3, bcs (flatB (l.take i))⟩] w) ?_ ?_
  · exact ⟨_, 0, none, 0, Nat.zero_le _, rfl, HF.sub (by repeat (first | exact ag_nil | refine ag_cons rfl ?_)), HS⟩
  · clear HF HS ac w
    rintro d ac w ⟨i, a3, c3, hi0, rfl, HF, HS⟩
    refine wp_seq ?_
    refine wp_seq ?_
    refine wp_region_lit ?_
    refine sx_y HF HS (yl_move rfl) rfl rfl ?_; clear HF ac; intro ac HF
    refine sx_y HF HS (yl_move rfl) rfl rfl ?_; clear HF ac; intro ac HF
    refine sx_y HF HS (yl_len_slice Tryd.underlying61 rfl) rfl rfl ?_; clear HF ac; intro ac HF
    refine sx_dec HF HS (yl_lss rfl rfl rfl) rfl rfl ?_ ?_ <;> clear HF ac <;> intro h3x3 ac HF
    · have hi : i + 1 ≤ l.length := by omega
      have hlm := hr.lim
      obtain ⟨x, hx⟩ : ∃ x, l[i]? = some x := ⟨_, List.getElem?_eq_getElem (by omega)⟩
      have hbx : (pts l)[i]? = some (.slice x.a x.l.length x.c) := by rw [pts, List.getElem?_map, hx]; rfl
      have hpx := hp x (List.mem_of_getElem? hx)
      have hle := flatB_tk_le l (i + 1)
      have hcat := flatB_tk l i x hx
      have hcl : (flatB (l.take i)).length + x.l.length = (flatB (l.take (i + 1))).length := by rw [hcat, List.length_append]
      refine wpList_nil ?_
      refine then_n ?_
      refine cx_true HF rfl ?_
      refine wp_skip ?_
      refine then_n ?_
      refine wp_seq ?_
      refine wp_block ?_
      refine wp_region_lit ?_
      refine sx_y HF HS (yl_move rfl) rfl rfl ?_; clear HF ac; intro ac HF
      refine sx_y HF HS (yl_move rfl) rfl rfl ?_; clear HF ac; intro ac HF
      refine sx_y HF HS (yl_move rfl) rfl rfl ?_; clear HF ac; intro ac HF
      refine sx_y HF HS (ix_sl (k := i) Tryd.underlying61 sz39 rfl rfl (by omega) hr.nil0) rfl rfl ?_; clear HF ac; intro ac HF
      refine sx_y HF HS (ld_elC sc39 rfl hbx (fun w h => hr.below h.kp)) rfl rfl ?_; clear HF ac; intro ac HF
      refine sx_ef HF (ef_append (n' := (flatB (l.take (i + 1))).length) (ys := bcs (flatB (l.take (i + 1)))) HS sl39 rfl rfl (hpx.below HS.kp) (bcs_one _) hcl (by omega) (by rw [hcat, bcs_app])) rfl rfl ?_; clear HF HS ac; rintro _ w ac ⟨a16, c16, rfl, HS⟩ HF
      refine sx_y HF HS (yl_assign rfl) rfl rfl ?_; clear HF ac; intro ac HF
      refine wpList_nil ?_
      refine blk_n ?_
      refine then_n ?_
      refine wp_region_lit ?_
      refine sx_y HF HS (yl_move rfl) rfl rfl ?_; clear HF ac; intro ac HF
      refine sx_y HF HS (yl_add64 rfl rfl rfl (by omega)) rfl rfl ?_; clear HF ac; intro ac HF
      refine sx_y HF HS (yl_assign rfl) rfl rfl ?_; clear HF ac; intro ac HF
      refine wpList_nil ?_
      refine then_n ?_
      refine ⟨_, ?_, i + 1, _, _, hi, rfl, HF.sub (by repeat (first | exact ag_nil | refine ag_cons rfl ?_)), HS⟩
      omega
    · obtain rfl : i = l.length := by omega
      rw [List.take_length] at HS HF
      refine wpList_nil ?_
      refine then_n ?_
      refine cx_false HF rfl ?_
      refine wp_exit ?_
      refine then_x ?_
      refine then_x ?_
      refine blk_hit ?_
      refine then_n ?_
      refine wp_seq ?_
      refine wp_region_lit ?_
      refine sx_y HF HS (yl_move rfl) rfl rfl ?_; clear HF ac; intro ac HF
      refine sx_y HF HS (yl_assign rfl) rfl rfl ?_; clear HF ac; intro ac HF
      refine wpList_nil ?_
      refine then_n ?_
      refine wp_ret ?_
      exact rt1 rfl HF HS rfl ⟨_, _, rfl, HS⟩

set_option maxRecDepth 100000 in
theorem bytes9_any (n : Nat) (l : List Hsh) (a : Option Addr) (c : Nat) (w0 : World) (hr : Rd w0 a l.length c 32 (hsc l)) (hl : l.length ≤ 1000000) :
    Calls Tryd.prog 25 #[.int .i64 (n : Int), .slice a l.length c] w0 fun e w' => e = .returned (.string ⟨(rgB n l).toArray⟩) ∧ Kp [] w0 w' := by
  refine calls_st (F := []) (args := [.int .i64 (n : Int), .slice a l.length c]) Tryd.func25 rfl (n := 26) rfl rfl ?_
  intro ac w HF HS
  refine wp_seq ?_
  refine wp_region_lit ?_
  refine sx_y HF HS (yl_assign rfl) rfl rfl ?_; clear HF ac; intro ac HF
  refine wpList_nil ?_
  refine then_n ?_
  refine wp_seq ?_
  refine wp_region_lit ?_
  refine sx_y HF HS (yl_assign rfl) rfl rfl ?_; clear HF ac; intro ac HF
  replace HS := HS.nilRow 32 32
  refine wpList_nil ?_
  refine then_n ?_
  refine wp_seq ?_
  refine wp_seq ?_
  refine wp_region_lit ?_
  refine sx_y HF HS (yl_move rfl) rfl rfl ?_; clear HF ac; intro ac HF
  refine sx_y HF HS (yl_len_slice Tryd.underlying22 rfl) rfl rfl ?_; clear HF ac; intro ac HF
  refine sx_y HF HS (yl_move rfl) rfl rfl ?_; clear HF ac; intro ac HF
  refine wpList_nil ?_
  refine then_n ?_
  refine wp_block ?_
  replace HF := HF.sub (m' := [(0, _), (4, _), (8, _), (9, _), (5, _), (10, _)]) (by repeat (first | exact ag_nil | refine ag_cons rfl ?_))
  refine cx_loop (m := [(0, _), (4, _), (8, _), (9, _)]) (HF.sub (by repeat (first | exact ag_nil | refine ag_cons rfl ?_))) (fun m d ac w => ∃ (i : Nat) (a5 : Option Addr) (c5 : Nat), i ≤ l.length ∧ d = l.length - i ∧ Fr ([(5, .slice a5 (l.take i).length c5), (10, .int .i64 (i : Int))] ++ m) 26 ac ∧ St [] w0 [] [⟨32, 32, a5, (l.take i).length, c5, hsc (l.take i)⟩] w) ?_ ?_
  · exact ⟨_, 0, none, 0, Nat.zero_le _, rfl, HF.sub (by repeat (first | exact ag_nil | refine ag_cons rfl ?_)), HS⟩
  · clear HF HS ac w
    rintro d ac w ⟨i, a5, c5, hi0, rfl, HF, HS⟩
    refine wp_seq ?_
    refine wp_region_lit ?_
    refine sx_dec HF HS (yl_lss rfl rfl rfl) rfl rfl ?_ ?_ <;> clear HF ac <;> intro h3x0 ac HF
    · have hi : i + 1 ≤ l.length := by omega
      have hlm := hr.lim
      obtain ⟨x, hx⟩ : ∃ x, l[i]? = some x := ⟨_, List.getElem?_eq_getElem (by omega)⟩
      have hts : l.take (i + 1) = l.take i ++ [x] := by rw [List.take_add_one, hx]; rfl
      have htl : (l.take i).length = i := by rw [List.length_take]; omega
      refine wpList_nil ?_
      refine then_n ?_
      refine wp_seq ?_
      refine cx_true HF rfl ?_
      refine wp_skip ?_
      refine then_n ?_
      refine wp_seq ?_
      refine wp_block ?_
      refine wp_seq ?_
      refine wp_region_lit ?_
      refine sx_y HF HS (ix_sl (k := i) Tryd.underlying22 sz33 rfl rfl (by omega) hr.nil0) rfl rfl ?_; clear HF ac; intro ac HF
      refine sx_y HF HS (ld_elH ag33 rfl hx (fun w h => hr.below h.kp)) rfl rfl ?_; clear HF ac; intro ac HF
      refine sx_ef HF (ef_alloc HS ze33) rfl rfl ?_; clear HF HS ac; rintro _ w ac ⟨g7, rfl, HS⟩ HF
      refine sx_ef0 HF (ef_store HS sz33 rfl rfl rfl) rfl ?_; clear HS; rintro _ w HS
      refine wpList_nil ?_
      refine then_n ?_
      refine wp_region_lit ?_
      refine sx_y HF HS (yl_move rfl) rfl rfl ?_; clear HF ac; intro ac HF
      refine sx_y HF HS (ld_ag ag33 rfl rfl) rfl rfl ?_; clear HF ac; intro ac HF
      refine sx_ef HF (ef_lit (n := 1) HS sl113 (parts := #[(0, .tmp 15)]) (evs_cons rfl evs_nil) rfl rfl (s := [(32, _)]) rfl (by simp)) rfl rfl ?_; clear HF HS ac; rintro _ w ac ⟨g16, rfl, HS⟩ HF
      refine sx_ef HF (ef_append1 (n' := ((l.take i) ++ [x]).length) (ys := hsc ((l.take i) ++ [x])) HS sl113 rfl rfl rfl (by simp) (by simp; omega) (hsc_app1 _ _)) rfl rfl ?_; clear HF HS ac; rintro _ w ac ⟨a17, c17, rfl, HS⟩ HF
      refine sx_y HF HS (yl_assign rfl) rfl rfl ?_; clear HF ac; intro ac HF
      refine wpList_nil ?_
      refine blk_n ?_
      refine then_n ?_
      refine wp_region_lit ?_
      refine sx_y HF HS (yl_add64 rfl rfl rfl (by omega)) rfl rfl ?_; clear HF ac; intro ac HF
      refine sx_y HF HS (yl_move rfl) rfl rfl ?_; clear HF ac; intro ac HF
      refine wpList_nil ?_
      refine then_n ?_
      rw [← hts] at HS HF
      refine ⟨_, ?_, i + 1, _, _, hi, rfl, HF.sub (by repeat (first | exact ag_nil | refine ag_cons rfl ?_)), HS.d2⟩
      omega
    · obtain rfl : i = l.length := by omega
      rw [List.take_length] at HS HF
      have hb8 : (be 8 n).length = 8 := be_length 8 n
      have hbl := rgB_len n l
      have hfl : flatB [⟨none, 0, be 8 n⟩, ⟨none, 0, be 4 l.length ++ hb l⟩] = rgB n l := by simp [flatB, rgB]
      refine wpList_nil ?_
      refine then_n ?_
      refine wp_seq ?_
      refine cx_false HF rfl ?_
      refine wp_exit ?_
      refine then_x ?_
      refine then_x ?_
      refine blk_hit ?_
      refine then_n ?_
      refine wp_seq ?_
      refine wp_region_lit ?_
      refine sx_y HF HS (yl_move rfl) rfl rfl ?_; clear HF ac; intro ac HF
      refine sx_call HF Tryd.func53 (by kernel_rfl) (by kernel_rfl) (evs_cons rfl evs_nil) (rint_any n w) rfl rfl ?_; clear HF ac
      rintro _ w ⟨a20, c20, rfl, o7, f7, k7⟩
      refine ⟨_, rfl, fun ac HF => ?_⟩
      replace HS := HS.addRow k7 o7 f7
      clear o7 f7 k7
      refine sx_y HF HS (yl_move rfl) rfl rfl ?_; clear HF ac; intro ac HF
      refine sx_call HF Tryd.func76 (by kernel_rfl) (by kernel_rfl) (evs_cons rfl evs_nil) (rhashes_any a5 c5 l w HS.row1 (by omega)) rfl rfl ?_; clear HF ac
      rintro _ w ⟨a22, c22, rfl, o7, f7, k7⟩
      refine ⟨_, rfl, fun ac HF => ?_⟩
      replace HS := HS.addRow k7 o7 f7
      clear o7 f7 k7
      refine sx_ef HF (ef_lit (n := 2) HS sl61 (parts := #[(0, .tmp 20), (1, .tmp 22)]) (evs_cons rfl (evs_cons rfl evs_nil)) rfl rfl (s := [(1, _), (1, _)]) rfl (by simp)) rfl rfl ?_; clear HF HS ac; rintro _ w ac ⟨g23, rfl, HS⟩ HF
      refine sx_call HF Tryd.func52 (by kernel_rfl) (by kernel_rfl) (evs_cons rfl evs_nil) (join3_any [⟨a20, c20, be 8 n⟩, ⟨a22, c22, be 4 l.length ++ hb l⟩] (some ⟨g23, 0, none⟩) 2 w (by have := HS.rdL (g := g23) (k := 2) (size := 1) rfl (by decide); simpa [sgL, Value.cells, pts, ptV] using this) (fun p hm => by simp only [List.mem_cons, List.not_mem_nil, or_false] at hm; rcases hm with rfl | rfl; exact HS.row1; exact HS.row0) (by rw [show flatB [⟨a20, c20, be 8 n⟩, ⟨a22, c22, be 4 l.length ++ hb l⟩] = rgB n l from hfl]; omega)) rfl rfl ?_; clear HF ac
      rintro _ w ⟨a24, c24, rfl, k1⟩
      rw [show flatB [⟨a20, c20, be 8 n⟩, ⟨a22, c22, be 4 l.length ++ hb l⟩] = rgB n l from hfl] at k1 ⊢
      refine ⟨_, rfl, fun ac HF => ?_⟩
      replace HS := HS.joinR1 k1
      clear k1
      refine sx_y HF HS (yl_str Tryd.underlying39 Tryd.underlying5 Tryd.underlying9 rfl (fun w h => h.row0)) rfl rfl ?_; clear HF ac; intro ac HF
      refine sx_y HF HS (yl_assign rfl) rfl rfl ?_; clear HF ac; intro ac HF
      refine wpList_nil ?_
      refine then_n ?_
      refine wp_ret ?_
      exact rt1 rfl HF HS rfl ⟨rfl, HS.kp⟩

/-- Of which places the roots are the peaks: from a place on, so many leaves. -/
def pkF : Nat → Nat → Nat → List (Nat × Nat)
  | 0, _, _ => []
  | f + 1, from_, r => if r = 0 then [] else (from_, from_ + hp r) :: pkF f (from_ + hp r) (r - hp r)
theorem pkF_more : ∀ (f g fr r : Nat), r ≤ f → r ≤ g → r < 9223372036854775808 → pkF f fr r = pkF g fr r
  | 0, 0, _, _, _, _, _ => rfl
  | 0, g + 1, fr, r, h, _, _ => by rw [pkF, pkF, if_pos (by omega)]
  | f + 1, 0, fr, r, _, h, _ => by rw [pkF, pkF, if_pos (by omega)]
  | f + 1, g + 1, fr, r, h, h', hb => by
    rw [pkF, pkF]
    by_cases h0 : r = 0
    · rw [if_pos h0, if_pos h0]
    · obtain ⟨h1, _, _⟩ := hp_spec r (by omega) hb
      rw [if_neg h0, if_neg h0, pkF_more f g _ _ (by omega) (by omega) (by omega)]
theorem pkF_step {n fr : Nat} (h : fr < n) (hb : n < 9223372036854775808) : pkF n fr (n - fr) = (fr, fr + hp (n - fr)) :: pkF n (fr + hp (n - fr)) (n - (fr + hp (n - fr))) := by
  obtain ⟨h1, h2, _⟩ := hp_spec (n - fr) (by omega) (by omega)
  obtain ⟨f, hf⟩ : ∃ f, n = f + 1 := ⟨n - 1, by omega⟩
  rw [pkF_more n (f + 1) fr (n - fr) (by omega) (by omega) (by omega), pkF, if_neg (by omega), Nat.sub_sub, pkF_more f n _ (n - (fr + hp (n - fr))) (by omega) (by omega) (by omega)]
theorem pkF_none {n fr : Nat} (h : n ≤ fr) : pkF n fr (n - fr) = [] := by
  rw [show n - fr = 0 by omega]
  cases n <;> rfl
theorem pkF_len : ∀ (f fr r : Nat), (pkF f fr r).length ≤ f
  | 0, _, _ => Nat.le_refl _
  | f + 1, fr, r => by
    rw [pkF]
    split
    · simp
    · rw [List.length_cons]; have := pkF_len f (fr + hp r) (r - hp r); omega
/-- The roots of these places. -/
theorem pk_peaks (l : List Hsh) : ∀ (f fr r : Nat), r ≤ f → fr + r = l.length → l.length < 9223372036854775808 → (pkF f fr r).map (fun p => rootH ((l.take p.2).drop p.1)) = peaksF f (l.drop fr)
  | 0, fr, r, h, hl, _ => rfl
  | f + 1, fr, r, h, hl, hb => by
    have hd : (l.drop fr).length = r := by rw [List.length_drop]; omega
    rw [pkF, peaksF, hd]
    by_cases h0 : r = 0
    · rw [if_pos h0, if_pos h0]; rfl
    · obtain ⟨h1, h2, _⟩ := hp_spec r (by omega) (by omega)
      rw [if_neg h0, if_neg h0, List.map_cons, List.drop_drop, pk_peaks l f (fr + hp r) (r - hp r) (by omega) (by omega) hb, List.drop_take, Nat.add_sub_cancel_left]
theorem pk_root (l : List Hsh) (n : Nat) (hn : n ≤ l.length) (hb : l.length < 9223372036854775808) : (pkF n 0 n).map (fun p => rootH ((l.take p.2).drop p.1)) = peaksOf (l.take n) := by
  have hl : (l.take n).length = n := by rw [List.length_take]; omega
  have h := pk_peaks (l.take n) n 0 n (Nat.le_refl _) (by omega) (by omega)
  rw [List.drop_zero] at h
  unfold peaksOf
  rw [hl, ← h]
  apply List.map_congr_left
  intro p hm
  have key : ∀ (f fr r : Nat), r ≤ f → fr + r = n → ∀ q ∈ pkF f fr r, q.1 ≤ q.2 ∧ q.2 ≤ n := by
    intro f
    induction f with
    | zero => intro fr r _ _ q hq; cases hq
    | succ f ih =>
      intro fr r h1 h2 q hq
      rw [pkF] at hq
      by_cases h0 : r = 0
      · rw [if_pos h0] at hq; cases hq
      · obtain ⟨h3, h4, _⟩ := hp_spec r (by omega) (by omega)
        rw [if_neg h0] at hq
        rcases List.mem_cons.1 hq with rfl | hq
        · exact ⟨by simp, by simp; omega⟩
        · exact ih (fr + Go.Proofs.YtalnkhgonfcabaaDoor.hp r) (r - Go.Proofs.YtalnkhgonfcabaaDoor.hp r) (by omega) (by omega) q hq
  have := (key n 0 n (Nat.le_refl _) (by omega) p hm).2
  rw [List.take_take, Nat.min_eq_left this]

set_option maxRecDepth 100000 in
theorem refPeaks_any (n : Nat) (w0 : World) (hn : n ≤ 1099511627776) :
    Calls Tryd.prog 18 #[.int .i64 (n : Int)] w0 fun e w' => ∃ a c, e = .returned (.slice a (pkF n 0 n).length c) ∧ St [] w0 [] [⟨31, 2, a, (pkF n 0 n).length, c, pvs (pkF n 0 n)⟩] w' := by
  refine calls_st (F := []) (args := [.int .i64 (n : Int)]) Tryd.func18 rfl (n := 29) rfl rfl ?_
  intro ac w HF HS
  refine wp_seq ?_
  refine wp_region_lit ?_
  refine sx_y HF HS (yl_assign rfl) rfl rfl ?_; clear HF ac; intro ac HF
  refine wpList_nil ?_
  refine then_n ?_
  refine wp_seq ?_
  refine wp_region_lit ?_
  refine sx_y HF HS (yl_assign rfl) rfl rfl ?_; clear HF ac; intro ac HF
  replace HS := HS.nilRow 31 2
  refine wpList_nil ?_
  refine then_n ?_
  refine wp_seq ?_
  refine wp_region_lit ?_
  refine sx_y HF HS (yl_assign rfl) rfl rfl ?_; clear HF ac; intro ac HF
  refine wpList_nil ?_
  refine then_n ?_
  refine wp_seq ?_
  refine wp_block ?_
  replace HF := HF.sub (m' := [(0, _), (2, _), (3, _), (4, _)]) (by repeat (first | exact ag_nil | refine ag_cons rfl ?_))
  refine cx_loop (m := [(0, _), (2, _)]) (HF.sub (by repeat (first | exact ag_nil | refine ag_cons rfl ?_))) (fun m d ac w => ∃ (fr : Nat) (acc : List (Nat × Nat)) (a3 : Option Addr) (c3 : Nat), fr ≤ n ∧ acc.length ≤ fr ∧ acc ++ pkF n fr (n - fr) = pkF n 0 n ∧ d = n - fr ∧ Fr ([(3, .slice a3 acc.length c3), (4, .int .i64 (fr : Int))] ++ m) 29 ac ∧ St [] w0 [] [⟨31, 2, a3, acc.length, c3, pvs acc⟩] w) ?_ ?_
  · exact ⟨_, 0, [], none, 0, Nat.zero_le _, Nat.le_refl _, rfl, rfl, HF.sub (by repeat (first | exact ag_nil | refine ag_cons rfl ?_)), HS⟩
  · clear HF HS ac w
    rintro d ac w ⟨fr, acc, a3, c3, hfr, hal, hacc, rfl, HF, HS⟩
    refine wp_seq ?_
    refine wp_seq ?_
    refine wp_region_lit ?_
    refine sx_y HF HS (yl_move rfl) rfl rfl ?_; clear HF ac; intro ac HF
    refine sx_y HF HS (yl_move rfl) rfl rfl ?_; clear HF ac; intro ac HF
    refine sx_dec HF HS (yl_lss rfl rfl rfl) rfl rfl ?_ ?_ <;> clear HF ac <;> intro h3x2 ac HF
    · have hlt : fr < n := by omega
      have hst := pkF_step hlt (by omega)
      obtain ⟨hp1, hp2, hp3⟩ := hp_spec (n - fr) (by omega) (by omega)
      refine wpList_nil ?_
      refine then_n ?_
      refine cx_true HF rfl ?_
      refine wp_skip ?_
      refine then_n ?_
      refine wp_block ?_
      refine wp_seq ?_
      refine wp_region_lit ?_
      refine sx_y HF HS (yl_assign rfl) rfl rfl ?_; clear HF ac; intro ac HF
      refine wpList_nil ?_
      refine then_n ?_
      refine wp_seq ?_
      refine wp_block ?_
      replace HF := HF.sub (m' := [(0, _), (2, _), (3, _), (4, _), (5, _)]) (by repeat (first | exact ag_nil | refine ag_cons rfl ?_))
      refine cx_loop (m := [(0, _), (2, _), (3, _), (4, _)]) (HF.sub (by repeat (first | exact ag_nil | refine ag_cons rfl ?_))) (fun m d ac w => ∃ (j k : Nat), k = 2 ^ j ∧ k ≤ n - fr ∧ d = n - fr - k ∧ Fr ([(5, .int .i64 (k : Int))] ++ m) 29 ac ∧ St [] w0 [] [⟨31, 2, a3, acc.length, c3, pvs acc⟩] w) ?_ ?_
      · exact ⟨_, 0, 1, rfl, by omega, rfl, HF.sub (by repeat (first | exact ag_nil | refine ag_cons rfl ?_)), HS⟩
      · clear HF HS ac w
        rintro d ac w ⟨j, k, hkj, hkr, rfl, HF, HS⟩
        refine wp_seq ?_
        refine wp_seq ?_
        refine wp_region_lit ?_
        refine sx_y HF HS (yl_move rfl) rfl rfl ?_; clear HF ac; intro ac HF
        refine sx_y HF HS (yl_mul64 (r := ((2 * k : Nat) : Int)) rfl rfl (by omega) (by omega)) rfl rfl ?_; clear HF ac; intro ac HF
        refine sx_y HF HS (yl_move rfl) rfl rfl ?_; clear HF ac; intro ac HF
        refine sx_y HF HS (yl_move rfl) rfl rfl ?_; clear HF ac; intro ac HF
        refine sx_y HF HS (yl_sub64 (r := ((n - fr : Nat) : Int)) rfl rfl (by omega) (by omega)) rfl rfl ?_; clear HF ac; intro ac HF
        refine sx_dec HF HS (yl_leq rfl rfl rfl) rfl rfl ?_ ?_ <;> clear HF ac <;> intro h5x5 ac HF
        · refine wpList_nil ?_
          refine then_n ?_
          refine cx_true HF rfl ?_
          refine wp_skip ?_
          refine then_n ?_
          refine wp_block ?_
          refine wp_region_lit ?_
          refine sx_y HF HS (yl_move rfl) rfl rfl ?_; clear HF ac; intro ac HF
          refine sx_y HF HS (yl_mul64 (r := ((2 * k : Nat) : Int)) rfl rfl (by omega) (by omega)) rfl rfl ?_; clear HF ac; intro ac HF
          refine sx_y HF HS (yl_assign rfl) rfl rfl ?_; clear HF ac; intro ac HF
          refine wpList_nil ?_
          refine blk_n ?_
          refine then_n ?_
          refine ⟨_, ?_, j + 1, 2 * k, by rw [hkj, Nat.pow_succ'], by omega, rfl, HF.sub (by repeat (first | exact ag_nil | refine ag_cons rfl ?_)), HS⟩
          have := Nat.one_le_two_pow (n := j)
          omega
        · obtain rfl : k = hp (n - fr) := by rw [hkj]; exact (hp_is (by rw [← hkj]; exact hkr) (by rw [← hkj]; omega) (by omega)).symm
          refine wpList_nil ?_
          refine then_n ?_
          refine cx_false HF rfl ?_
          refine wp_exit ?_
          refine then_x ?_
          refine then_x ?_
          refine blk_hit ?_
          refine then_n ?_
          refine wp_seq ?_
          refine wp_region_lit ?_
          refine sx_y HF HS (yl_move rfl) rfl rfl ?_; clear HF ac; intro ac HF
          refine sx_y HF HS (yl_move rfl) rfl rfl ?_; clear HF ac; intro ac HF
          refine sx_y HF HS (yl_move rfl) rfl rfl ?_; clear HF ac; intro ac HF
          refine sx_y HF HS (yl_move rfl) rfl rfl ?_; clear HF ac; intro ac HF
          refine sx_y HF HS (yl_add64 (r := ((fr + hp (n - fr) : Nat) : Int)) rfl rfl (by omega) (by omega)) rfl rfl ?_; clear HF ac; intro ac HF
          refine sx_y HF HS (bd_ar (parts := #[(0, .tmp 18), (1, .tmp 21)]) Tryd.underlying31 sz3 ze31 (evs_cons rfl (evs_cons rfl evs_nil)) (pl := [(0, 1), (1, 1)]) (by decide) (inferInstance : SgW [(1, _), (1, _)]) rfl) rfl rfl ?_; clear HF ac; intro ac HF
          refine sx_ef HF (ef_lit (n := 1) HS sl29 (parts := #[(0, .tmp 22)]) (evs_cons rfl evs_nil) rfl rfl (s := [(2, _)]) rfl (by simp)) rfl rfl ?_; clear HF HS ac; rintro _ w ac ⟨g23, rfl, HS⟩ HF
          refine sx_ef HF (ef_append1 (n' := (acc ++ [(fr, (fr + hp (n - fr)))]).length) (ys := pvs (acc ++ [(fr, (fr + hp (n - fr)))])) HS sl29 rfl rfl rfl (by simp) (by simp; omega) (pvs_app _ _ _)) rfl rfl ?_; clear HF HS ac; rintro _ w ac ⟨a24, c24, rfl, HS⟩ HF
          refine sx_y HF HS (yl_assign rfl) rfl rfl ?_; clear HF ac; intro ac HF
          refine wpList_nil ?_
          refine then_n ?_
          refine wp_region_lit ?_
          refine sx_y HF HS (yl_move rfl) rfl rfl ?_; clear HF ac; intro ac HF
          refine sx_y HF HS (yl_move rfl) rfl rfl ?_; clear HF ac; intro ac HF
          refine sx_y HF HS (yl_add64 (r := ((fr + hp (n - fr) : Nat) : Int)) rfl rfl (by omega) (by omega)) rfl rfl ?_; clear HF ac; intro ac HF
          refine sx_y HF HS (yl_assign rfl) rfl rfl ?_; clear HF ac; intro ac HF
          refine wpList_nil ?_
          refine blk_n ?_
          refine then_n ?_
          refine ⟨_, ?_, fr + hp (n - fr), _, _, _, by omega, ?_, ?_, rfl, HF.sub (by repeat (first | exact ag_nil | refine ag_cons rfl ?_)), HS.d1⟩
          · omega
          · simp; omega
          · rw [← hacc, hst, List.append_assoc]; rfl
    · rw [pkF_none (by omega), List.append_nil] at hacc
      subst hacc
      refine wpList_nil ?_
      refine then_n ?_
      refine cx_false HF rfl ?_
      refine wp_exit ?_
      refine then_x ?_
      refine then_x ?_
      refine blk_hit ?_
      refine then_n ?_
      refine wp_seq ?_
      refine wp_region_lit ?_
      refine sx_y HF HS (yl_move rfl) rfl rfl ?_; clear HF ac; intro ac HF
      refine sx_y HF HS (yl_assign rfl) rfl rfl ?_; clear HF ac; intro ac HF
      refine wpList_nil ?_
      refine then_n ?_
      refine wp_ret ?_
      exact rt1 rfl HF HS rfl ⟨_, _, rfl, HS⟩

set_option maxRecDepth 100000 in
theorem cbytes_any (g n : Nat) (ps : List Hsh) (a : Option Addr) (c : Nat) (w0 : World) (h : RgA w0 g n ps a c) (hl : ps.length ≤ 1000000) :
    Calls Tryd.prog 24 #[.pointer (some ⟨g, 0, none⟩)] w0 fun e w' => ∃ a' c', e = .returned (.slice a' (rgB n ps).length c') ∧ St [] w0 [] [⟨5, 1, a', (rgB n ps).length, c', bcs (rgB n ps)⟩] w' := by
  have HGA : ∀ {w : World} {a1 : Option Addr} {c1 g5 : Nat} {bs : List UInt8}, St [g] w0 [⟨g5, sgA [(1, .slice a1 bs.length c1)], 110⟩, ⟨g, sgA (rgS n a ps.length c), 101⟩] [⟨5, 1, a1, bs.length, c1, bcs bs⟩] w → 0 < ps.length → ∀ x ∈ aF a, x ∉ g5 :: aF a1 := by
    intro w a1 c1 g5 bs HS hp x hx hh
    have hlt := h.rd.lt (by rw [hsc_length]; omega) x hx
    have hxg : x ≠ g := by
      rintro rfl
      have hne := own_ne h.b h.r (by decide)
      cases a with
      | none => simp [aF] at hx
      | some b =>
        simp only [aF, List.mem_singleton] at hx
        rcases h.r.2 with ⟨h1, _⟩ | ⟨gg, cap, cur, h1, _, _, _⟩
        · simp at h1
        · simp only [Value.slice.injEq, Option.some.injEq] at h1
          exact hne (by rw [hx, h1.1]; rfl)
    have h1 := HS.new x (by
      simp only [ids, List.map_cons, List.map_nil, List.flatMap_cons, List.flatMap_nil, List.append_nil, List.cons_append, List.mem_cons, List.nil_append] at hh ⊢
      rcases hh with hh | hh
      · exact .inl hh
      · exact .inr (.inr hh))
    simp at h1
    omega
  refine calls_stL (args := [.pointer (some ⟨g, 0, none⟩)]) (St.ofBlk h.b) Tryd.func24 rfl (n := 18) rfl rfl ?_
  intro ac w HF HS
  refine wp_seq ?_
  refine wp_region_lit ?_
  refine sx_y HF HS (yl_assign rfl) rfl rfl ?_; clear HF ac; intro ac HF
  refine wpList_nil ?_
  refine then_n ?_
  refine wp_seq ?_
  refine wp_region_lit ?_
  refine sx_y HF HS (bd_st (parts := #[]) Tryd.underlying110 (by kernel_rfl) ze110 evs_nil (pl := [(0, 1)]) (by kernel_rfl) (szs := []) rfl (inferInstance : SgW []) rfl) rfl rfl ?_; clear HF ac; intro ac HF
  refine sx_ef HF (ef_boxs HS rfl) rfl rfl ?_; clear HF HS ac; rintro _ w ac ⟨g5, rfl, HS⟩ HF
  refine sx_y HF HS (yl_assign rfl) rfl rfl ?_; clear HF ac; intro ac HF
  refine wpList_nil ?_
  refine then_n ?_
  refine wp_seq ?_
  refine dx_region 13 (by kernel_rfl) HS.drew (fun _ h => h.sub (List.Sublist.cons _ (List.Sublist.cons_cons _ List.Sublist.slnil)) (List.Sublist.refl _)) ?_; clear HS; intro w HS
  have HH := HS.sub (List.Sublist.cons _ (List.Sublist.cons_cons _ List.Sublist.slnil)) (List.Sublist.refl _)
  refine dx_p (i := 0) HF rfl (by kernel_rfl) (by kernel_rfl) (by kernel_rfl) (by decide) (fun _ _ _ h => h) (fun _ => HH) (yl_move rfl) rfl rfl ?_; clear HF ac; intro ac HF
  refine dx_p (i := 1) HF rfl (by kernel_rfl) (by kernel_rfl) (by kernel_rfl) (by decide) (fun _ _ _ h => h) (fun _ => HH) (yl_move rfl) rfl rfl ?_; clear HF ac; intro ac HF
  refine dx_p (i := 2) HF rfl (by kernel_rfl) (by kernel_rfl) (by kernel_rfl) (by decide) (fun _ _ _ h => h) (fun _ => HH) (yl_nilCheck rfl) rfl rfl ?_; clear HF ac; intro ac HF
  refine dx_p (i := 3) HF rfl (by kernel_rfl) (by kernel_rfl) (by kernel_rfl) (by decide) (fun _ _ _ h => h) (fun _ => HH) (fa_st fd101x0 rfl) rfl rfl ?_; clear HF ac; intro ac HF
  refine dx_k (i := 4) HF rfl (by kernel_rfl) (by kernel_rfl) (by kernel_rfl) (by kernel_rfl) (by kernel_rfl) (fun _ _ _ h => h) HH (ld_sc sc3 rfl rfl rfl) rfl rfl ?_; clear HF ac; intro ac HF
  refine dx_p (i := 6) HF rfl (by kernel_rfl) (by kernel_rfl) (by kernel_rfl) (by decide) (fun _ _ _ h => h) (fun _ => HH) (yl_move rfl) rfl rfl ?_; clear HF ac; intro ac HF
  refine dx_p (i := 7) HF rfl (by kernel_rfl) (by kernel_rfl) (by kernel_rfl) (by decide) (fun _ _ _ h => h) (fun _ => HH) (yl_nilCheck rfl) rfl rfl ?_; clear HF ac; intro ac HF
  refine dx_p (i := 8) HF rfl (by kernel_rfl) (by kernel_rfl) (by kernel_rfl) (by decide) (fun _ _ _ h => h) (fun _ => HH) (fa_st fd101x1 rfl) rfl rfl ?_; clear HF ac; intro ac HF
  refine dx_k (i := 9) HF rfl (by kernel_rfl) (by kernel_rfl) (by kernel_rfl) (by kernel_rfl) (by kernel_rfl) (fun _ _ _ h => h) HH (ld_sc sc22 rfl rfl rfl) rfl rfl ?_; clear HF ac; intro ac HF
  refine dx_one (i := 5) (by kernel_rfl) ?_
  replace HS := HS.nilRow 5 1
  refine op_call (i := 5) HF rfl Tryd.func73 (by kernel_rfl) (by kernel_rfl) (evs_cons rfl (evs_cons rfl evs_nil)) (oint_any g5 [] _ n w (out_st (bs := []) (a := none) (c := 0) HS) (by simp)) rfl rfl ?_; clear HF ac
  rintro _ w ⟨rfl, F1, o1, ad1⟩
  refine ⟨_, rfl, fun ac HF => ?_⟩
  obtain ⟨a1, c1, HS⟩ := out_upd (bs := []) (a := none) (c := 0) HS o1 ad1
  replace HH := HS.sub (L' := [⟨g, sgA (rgS n a ps.length c), 101⟩]) (R' := []) (List.Sublist.cons _ (List.Sublist.refl _)) (List.nil_sublist _)
  clear o1 ad1
  refine ⟨fun _ => HH, ?_⟩
  refine dx_one (i := 10) (by kernel_rfl) ?_
  refine op_call (i := 10) HF rfl Tryd.func74 (by kernel_rfl) (by kernel_rfl) (evs_cons rfl (evs_cons rfl evs_nil)) (ohashes_any g5 ([] ++ be 8 n) _ a c ps w (out_st HS) (by rw [List.nil_append, be_length]; omega) (h.rd.below (kp_own1 HS h.b)) (by omega) (fun hp x hx hh => HGA HS (by omega) x hx hh) (fun x hx => HS.lt x (by simp [ids] at hx ⊢; rcases hx with hx | hx <;> simp [hx]))) rfl rfl ?_; clear HF ac
  rintro _ w ⟨rfl, F1, o1, ad1⟩
  refine ⟨_, rfl, fun ac HF => ?_⟩
  obtain ⟨a2, c2, HS⟩ := out_upd HS o1 ad1
  replace HH := HS.sub (L' := [⟨g, sgA (rgS n a ps.length c), 101⟩]) (R' := []) (List.Sublist.cons _ (List.Sublist.refl _)) (List.nil_sublist _)
  clear o1 ad1
  refine ⟨fun _ => HH, ?_⟩
  refine dx_one (i := 11) (by kernel_rfl) ?_
  refine op_call (i := 11) HF rfl Tryd.func75 (by kernel_rfl) (by kernel_rfl) (evs_cons rfl evs_nil) (oall_any g5 _ _ w (out_st HS) (by simp only [List.nil_append, List.length_append, be_length, hb_length]; omega)) rfl rfl ?_; clear HF ac
  rintro _ w ⟨a9, c9, rfl, o7, f7, k7⟩
  refine ⟨_, rfl, fun ac HF => ?_⟩
  replace HH := HH.call k7
  replace HS := HS.addRow k7 o7 f7
  clear o7 f7 k7
  refine ⟨fun _ => HH, ?_⟩
  refine dx_p (i := 12) HF rfl (by kernel_rfl) (by kernel_rfl) (by kernel_rfl) (by decide) (fun _ _ _ h => h) (fun _ => HH) (yl_assign rfl) rfl rfl ?_; clear HF ac; intro ac HF
  refine dx_done (by kernel_rfl) ?_
  clear HH
  refine then_n ?_
  refine wp_ret ?_
  exact rt1 rfl HF HS rfl ⟨_, _, rfl, St.own1 (L := []) (b := ⟨g, _, _⟩) (HS.sub (List.Sublist.cons _ (List.Sublist.refl _)) (List.Sublist.cons_cons _ (List.nil_sublist _))) (kp_own1 HS h.b)⟩

end Go.Proofs.YtalnkhgonfcabaaDoor
