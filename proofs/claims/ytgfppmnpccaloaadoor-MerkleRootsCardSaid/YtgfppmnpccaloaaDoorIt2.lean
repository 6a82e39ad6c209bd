/-
  merkle.Each: its rounds, the roots of all first ones. (Printed by sx_each.py.)
-/
import Derived.Test.YtgfppmnpccaloaaDoorR
import Derived.Test.YtgfppmnpccaloaaDoorPeak
namespace Go.Proofs.YtgfppmnpccaloaaDoor.R
open Go.RowKit Go.Proofs.YtgfppmnpccaloaaDoor

/-! ### Types -/
namespace It2
theorem ag24 : AgT Tryd.prog 24 32 := AgT.mk' Tryd.underlying24 rfl (by kernel_rfl)
theorem sc22 : ScT Tryd.prog 22 := ScT.mk' Tryd.underlying22 rfl (by kernel_rfl)
theorem sl22 : SlT Tryd.prog 22 24 Tryd.t24 (hv zeroH) 32 32 := ⟨Tryd.underlying22, by kernel_rfl, by kernel_rfl, rfl, rfl, hvA_size _, by decide⟩
theorem sz24 : (Tryd.prog.info? 24).map (·.size) = some 32 := by kernel_rfl
theorem ze24 : ZeS Tryd.prog 24 [(32, hv zeroH)] := ⟨hv zeroH, ZeT.mk' (by kernel_rfl), (sgA_h zeroH).symm⟩
end It2
open Go.Proofs.YtgfppmnpccaloaaDoor.R.It2

/-- No panic comes out. -/
def calm (Q : Exit → Act → World → Prop) : Exit → Act → World → Prop
  | .panic _, _, _ => False
  | e, a, w => Q e a w
theorem wp_calm {ro : Option Nat} {P : Program} {Q : Exit → Act → World → Prop} {a : Act} {w : World} {c : Code} (h : c.wpIn (Wd ro) 0 P (calm Q) a w) : c.wpIn (Wd ro) 0 P Q a w := wpIn_mono h fun e a w hq => by
  cases e <;> first | exact hq | exact hq.elim

/-- On the way up: the trees ahead of the last one, and this one's root. -/
def Car (T : List Hsh) (nn : Nat) (qs : List Hsh) (x : Hsh) : Prop := ∃ j lp b, lp.length = 2 ^ j * nn ∧ b.length = 2 ^ j ∧ lp ++ b = T ∧ qs = peaksOf lp ∧ x = rootH b
theorem Car.start (l : List Hsh) (h : Hsh) : Car (l ++ [h]) l.length (peaksOf l) h := ⟨0, l, [h], by simp, rfl, rfl, rfl, (rootH_one h).symm⟩
theorem Car.odd {T : List Hsh} {nn : Nat} {qs : List Hsh} {x : Hsh} (h : Car T nn qs x) (ho : nn % 2 = 1) (hbd : T.length < 9223372036854775808) : ∃ q y, qs = q ++ [y] ∧ Car T (nn / 2) q (nodeH y x) := by
  obtain ⟨j, l, b, hl, hb, hT, rfl, rfl⟩ := h
  have hj : 1 ≤ 2 ^ j := Nat.one_le_two_pow
  have hj2 : 2 ^ (j + 1) = 2 * 2 ^ j := Nat.pow_succ'
  have hlb : l.length + b.length = T.length := by rw [← hT, List.length_append]
  obtain ⟨q, rfl⟩ : ∃ q, nn = 2 * q + 1 := ⟨nn / 2, by omega⟩
  have hl2 : l.length = 2 ^ (j + 1) * q + 2 ^ j := by rw [hl, hj2, Nat.mul_add, Nat.mul_one, Nat.mul_left_comm, Nat.mul_assoc]
  obtain ⟨l', b', rfl, hl', hb'⟩ : ∃ l' b', l = l' ++ b' ∧ l'.length = 2 ^ (j + 1) * q ∧ b'.length = 2 ^ j := by
    refine ⟨l.take (2 ^ (j + 1) * q), l.drop (2 ^ (j + 1) * q), (List.take_append_drop _ _).symm, by rw [List.length_take]; omega, ?_⟩
    rw [List.length_drop]; omega
  have hla : (l' ++ b').length = l'.length + b'.length := List.length_append
  have hbb : (b' ++ b).length = 2 ^ (j + 1) := by rw [List.length_append]; omega
  refine ⟨peaksOf l', rootH b', ?_, j + 1, l', b' ++ b, by rw [hl', show (2 * q + 1) / 2 = q by omega], hbb, by rw [← List.append_assoc]; exact hT, rfl, ?_⟩
  · rw [peaksOf_app (i := j + 1) (b := b') (by omega) l'.length q l' (Nat.le_refl _) hl' (by omega), peaksOf_one hb' (by omega)]
  · have h2 : 2 ≤ (b' ++ b).length := by omega
    have hs := rootH_split (b' ++ b) h2 (by omega)
    have hsp : sp (b' ++ b).length = 2 ^ j := by
      obtain ⟨_, _, s1, s2, s3⟩ := sp_spec (b' ++ b).length h2 (by omega)
      have e : sp (b' ++ b).length = 2 ^ (Lib.bitLen ((b' ++ b).length - 1) - 1) := rfl
      rw [e] at s1 s2 s3 ⊢
      have hu := pow_uniq (n := (b' ++ b).length - 1) (a := Lib.bitLen ((b' ++ b).length - 1) - 1) (b := j) (by omega) (by omega) (by omega) (by omega)
      rw [hu]
    rw [hsp, ← hb', List.take_left, List.drop_left] at hs
    exact hs.symm
theorem Car.even {T : List Hsh} {nn : Nat} {qs : List Hsh} {x : Hsh} (h : Car T nn qs x) (ho : ¬ nn % 2 = 1) (hbd : T.length < 9223372036854775808) : qs ++ [x] = peaksOf T := by
  obtain ⟨j, l, b, hl, hb, hT, rfl, rfl⟩ := h
  have hj : 1 ≤ 2 ^ j := Nat.one_le_two_pow
  have hj2 : 2 ^ (j + 1) = 2 * 2 ^ j := Nat.pow_succ'
  have hlb : l.length + b.length = T.length := by rw [← hT, List.length_append]
  obtain ⟨q, rfl⟩ : ∃ q, nn = 2 * q := ⟨nn / 2, by omega⟩
  rw [← hT, peaksOf_app (i := j + 1) (b := b) (by omega) l.length q l (Nat.le_refl _) (by rw [hl, hj2, Nat.mul_left_comm, Nat.mul_assoc]) (by rw [hT]; exact hbd), peaksOf_one hb (by omega)]
theorem peaksF_len : ∀ (f : Nat) (l : List Hsh), (peaksF f l).length ≤ f
  | 0, _ => Nat.le_refl _
  | f + 1, l => by
    rw [peaksF]
    split
    · simp
    · rw [List.length_cons]; have := peaksF_len f (l.drop (hp l.length)); omega
theorem peaksOf_len (l : List Hsh) : (peaksOf l).length ≤ l.length := peaksF_len _ _
theorem peaksR_at (ps : List Hsh) (q : Nat) (h1 : 1 ≤ q) (h2 : q + 1 ≤ ps.length) : nodeH (ps.getD (q - 1) zeroH) (peaksR (ps.drop q)) = peaksR (ps.drop (q - 1)) := by
  have hne : ps.drop q ≠ [] := by
    intro h
    have := congrArg List.length h
    rw [List.length_drop] at this
    simp at this; omega
  rw [List.drop_eq_getElem_cons (show q - 1 < ps.length by omega), show q - 1 + 1 = q by omega, peaksR_cons _ hne, List.getD_eq_getElem?_getD, List.getElem?_eq_getElem (by omega)]
  rfl
theorem peaksR_end (qs : List Hsh) (x : Hsh) : peaksR ((qs ++ [x]).drop ((qs ++ [x]).length - 1)) = x := by
  rw [show (qs ++ [x]).length - 1 = qs.length by simp, List.drop_left]; rfl

set_option maxRecDepth 100000 in
set_option maxHeartbeats 1000000 in
theorem each_iter (l : List Hsh) (g : Nat) (a : Option Addr) (c : Nat) (W0 : World) (hl : l.length ≤ 1000000) (hg : W0.heap[g]? = some (.cells (sgA [(1, .slice a l.length c)]) 22 (0, 0))) (hr : Rd W0 a l.length c 32 (hsc l)) (hL : Laid W0) (h2 : 2 ≤ W0.heap.size) :
    Iter Tryd.prog 13 [.pointer (some ⟨g, 0, none⟩)] (fun k => [.int .i64 (k : Int), hv (rootH (l.take k))]) (l.length + 1) (List.range 2 ++ (g :: if l.length = 0 then [] else aF a)) W0 := by
  intro lr J Jx G0 hJ hJx hG0 hj0 hY
  have hgl : g < W0.heap.size := (Array.getElem?_eq_some_iff.1 hg).1
  have hgR : g ∈ List.range 2 ++ (g :: if l.length = 0 then [] else aF a) := List.mem_append_right _ List.mem_cons_self
  have haG : 1 ≤ l.length → ∀ x ∈ aF a, x ∉ G0 := fun hl0 x hx hh => hG0 x hh (List.mem_append_right _ (List.mem_cons_of_mem _ (by rw [if_neg (by omega)]; exact hx)))
  have hG2 : ∀ x ∈ G0, 2 ≤ x := fun x hx => Nat.le_of_not_lt fun hh => hG0 x hx (List.mem_append_left _ (List.mem_range.2 hh))
  have haW : 1 ≤ l.length → ∀ y ∈ aF a, y < W0.heap.size := fun hl0 => hr.lt (by rw [hsc_length]; omega)
  have hLw : ∀ w, St [g] W0 [⟨g, sgA [(1, .slice a l.length c)], 22⟩] [] w → Laid w := fun w HS => hL.below (kp_nil (St.ofBlk hg) HS (by simp))
  have hw2 : ∀ w, St [g] W0 [⟨g, sgA [(1, .slice a l.length c)], 22⟩] [] w → 2 ≤ w.heap.size := fun w HS => Nat.le_trans h2 HS.kp.size
  refine callsIn_it (args := [.func (.yield lr) #[] #[], .pointer (some ⟨g, 0, none⟩)]) Tryd.func13 rfl (n := 64) rfl rfl ?_
  intro ac w HF hw
  have hi : It J G0 W0 0 G0 W0 := It.start hj0
  have HS : St [g] W0 [⟨g, sgA [(1, .slice a l.length c)], 22⟩] [] w := by rw [hw]; exact St.ofBlk hg
  clear hw
  refine wp_calm ?_
  refine wp_seq ?_
  refine wp_region_lit ?_
  refine sx_y HF HS (yl_assign rfl) rfl rfl ?_; clear HF ac; intro ac HF
  refine wpList_nil ?_
  refine then_n ?_
  refine wp_seq ?_
  refine wp_seq ?_
  refine wp_region_lit ?_
  refine sx_y HF HS (yl_move rfl) rfl rfl ?_; clear HF ac; intro ac HF
  refine sx_call HF Tryd.func8 (by kernel_rfl) (by kernel_rfl) (evs_cons rfl evs_nil) (sum_any none 0 [] w (nil_rd w 1) (hLw w HS) (hw2 w HS)) rfl rfl ?_; clear HF ac
  rintro _ w ⟨rfl, k1⟩
  refine ⟨_, rfl, fun ac HF => ?_⟩
  replace HS := HS.call k1
  clear k1
  have k1 := kp_nil (St.ofBlk hg) HS (by simp)
  replace hi := hi.step hJ k1 (Nat.le_refl _) (by simp)
  rw [show shaH [] = rootH (l.take 0) from rootH_nil.symm] at HF
  refine sx_yield (lr := lr) HF rfl (evs_cons rfl (evs_cons rfl evs_nil)) (hY 0 G0 w (by omega) hi.j) rfl rfl ?_; clear HF ac
  rintro _ w (⟨rfl, G, hj, hadv⟩ | ⟨rfl, G, hj⟩)
  · refine ⟨_, rfl, fun ac HF => ?_⟩
    replace HS := HS.at' hadv.kp (fun x hx hh => by simp [ids] at hh; subst hh; exact hG0 _ hx hgR)
    replace hi := hi.next hj hadv
    refine sx_y HF HS (yl_not rfl) rfl rfl ?_; clear HF ac; intro ac HF
    refine wpList_nil ?_
    refine then_n ?_
    refine cx_false HF rfl ?_
    refine wp_skip ?_
    refine then_n ?_
    refine wp_seq ?_
    refine wp_region_lit ?_
    refine sx_y HF HS (ld_sc sc22 rfl rfl rfl) rfl rfl ?_; clear HF ac; intro ac HF
    refine sx_y HF HS (yl_len_slice Tryd.underlying22 rfl) rfl rfl ?_; clear HF ac; intro ac HF
    refine sx_y HF HS (yl_move rfl) rfl rfl ?_; clear HF ac; intro ac HF
    refine wpList_nil ?_
    refine then_n ?_
    refine wp_block ?_
    replace HS : St [] w [] [] w := St.start [] w
    replace HS := HS.nilRow 24 32
    replace HF := HF.sub (m' := [(0, _), (14, _), (15, _), (3, _), (16, _)]) (by repeat (first | exact ag_nil | refine ag_cons rfl ?_))
    refine cx_loop (m := [(0, _), (14, _), (15, _)]) (HF.sub (by repeat (first | exact ag_nil | refine ag_cons rfl ?_))) (fun m d ac w => ∃ (k : Nat) (G : List Nat) (ar : Option Addr) (cr : Nat), k ≤ l.length ∧ It J G0 W0 (k + 1) G w ∧ (∀ x ∈ (ids [] [⟨24, 32, ar, (peaksOf (l.take k)).length, cr, hsc (peaksOf (l.take k))⟩]), x ∉ G ∧ W0.heap.size ≤ x) ∧ d = l.length - k ∧ Fr [] ([(3, .slice ar (peaksOf (l.take k)).length cr), (16, .int .i64 (k : Int))] ++ m) 64 ac ∧ St (ids [] [⟨24, 32, ar, (peaksOf (l.take k)).length, cr, hsc (peaksOf (l.take k))⟩]) w [] [⟨24, 32, ar, (peaksOf (l.take k)).length, cr, hsc (peaksOf (l.take k))⟩] w) ?_ ?_
    · exact ⟨_, 0, G, none, 0, Nat.zero_le _, hi, by simp [ids, aF], rfl, HF.sub (by repeat (first | exact ag_nil | refine ag_cons rfl ?_)), HS.rebase⟩
    · clear hi hadv hj HF HS ac w
      rintro d ac w ⟨k, G, ar, cr, hk0, hi, hown, rfl, HF, HS⟩
      refine wp_seq ?_
      refine wp_region_lit ?_
      refine sx_dec HF HS (yl_lss rfl rfl rfl) rfl rfl ?_ ?_ <;> clear HF ac <;> intro h3x0 ac HF
      · have hk : k + 1 ≤ l.length := by omega
        obtain ⟨h, hx⟩ : ∃ x, l[k]? = some x := ⟨_, List.getElem?_eq_getElem (by omega)⟩
        obtain ⟨wb, hwb⟩ : ∃ x, x = w := ⟨w, rfl⟩
        obtain ⟨Fo, hFo⟩ : ∃ F, F = (ids [] [⟨24, 32, ar, (peaksOf (l.take k)).length, cr, hsc (peaksOf (l.take k))⟩]) := ⟨_, rfl⟩
        replace HS : St Fo wb [] [⟨24, 32, ar, (peaksOf (l.take k)).length, cr, hsc (peaksOf (l.take k))⟩] w := by rw [hwb, hFo]; exact HS
        replace hi : It J G0 W0 (k + 1) G wb := by rw [hwb]; exact hi
        rw [← hFo] at hown
        clear hwb hFo
        have hLb := hL.kept hi.kp hG2
        have h2b := Nat.le_trans h2 hi.kp.size
        have hF4 : ∀ x ∈ Fo, 2 ≤ x := fun x hx => by have := (hown x hx).2; omega
        have hrb := hr.kept hi.kp (haG (by omega))
        have hbd : ∀ x ∈ aF a, x ∉ Fo := fun x hx hh => by have := (hown x hh).2; have := haW (by omega) x hx; omega
        have hGl : ∀ x ∈ G, x < wb.heap.size := hJ.2 _ _ _ hi.j
        have hT : (l.take (k + 1)).length = k + 1 := by rw [List.length_take]; omega
        have hTk : (l.take k).length = k := by rw [List.length_take]; omega
        have hpl := peaksOf_len (l.take k)
        have hcar : Car (l.take (k + 1)) k (peaksOf (l.take k)) h := by
          have := Car.start (l.take k) h
          rw [hTk] at this
          rw [List.take_add_one, hx]
          exact this
        obtain ⟨T, hTT⟩ : ∃ T, T = l.take (k + 1) := ⟨_, rfl⟩
        rw [← hTT] at hcar hT
        refine wpList_nil ?_
        refine then_n ?_
        refine wp_seq ?_
        refine cx_true HF rfl ?_
        refine wp_skip ?_
        refine then_n ?_
        refine wp_seq ?_
        refine wp_block ?_
        refine wp_seq ?_
        refine wp_region_lit ?_
        refine sx_y HF HS (yl_move rfl) rfl rfl ?_; clear HF ac; intro ac HF
        refine sx_y HF HS (ix_sl (k := k) Tryd.underlying22 sz24 rfl rfl (by omega) hrb.nil0) rfl rfl ?_; clear HF ac; intro ac HF
        refine sx_y HF HS (ld_elH ag24 rfl hx (fun w h => hrb.kept h.kp hbd)) rfl rfl ?_; clear HF ac; intro ac HF
        refine sx_ef HF (ef_alloc HS ze24) rfl rfl ?_; clear HF HS ac; rintro _ w ac ⟨g5, rfl, HS⟩ HF
        refine sx_y HF HS (yl_assign rfl) rfl rfl ?_; clear HF ac; intro ac HF
        refine sx_ef0 HF (ef_store HS sz24 rfl rfl rfl) rfl ?_; clear HS; rintro _ w HS
        refine wpList_nil ?_
        refine then_n ?_
        refine wp_seq ?_
        refine wp_seq ?_
        refine wp_region_lit ?_
        refine sx_y HF HS (yl_move rfl) rfl rfl ?_; clear HF ac; intro ac HF
        refine sx_y HF HS (yl_assign rfl) rfl rfl ?_; clear HF ac; intro ac HF
        refine wpList_nil ?_
        refine then_n ?_
        refine wp_block ?_
        replace HF := HF.sub (m' := [(0, _), (4, _), (5, _), (14, _), (15, _), (16, _), (3, _), (6, _)]) (by repeat (first | exact ag_nil | refine ag_cons rfl ?_))
        refine cx_loop (m := [(0, _), (4, _), (5, _), (14, _), (15, _), (16, _)]) (HF.sub (by repeat (first | exact ag_nil | refine ag_cons rfl ?_))) (fun m d ac w => ∃ (nn : Nat) (qs : List Hsh) (x : Hsh), nn ≤ k ∧ qs.length ≤ k ∧ Car T nn qs x ∧ d = 2 * nn ∧ Fr [] ([(3, .slice ar qs.length cr), (6, .int .i64 (nn : Int))] ++ m) 64 ac ∧ St Fo wb [⟨g5, sgA [(32, hv x)], 24⟩] [⟨24, 32, ar, qs.length, cr, hsc qs⟩] w) ?_ ?_
        · exact ⟨_, k, _, h, Nat.le_refl _, by omega, hcar, rfl, HF.sub (by repeat (first | exact ag_nil | refine ag_cons rfl ?_)), HS⟩
        · clear HF HS ac w
          rintro d ac w ⟨nn, qs, x, hn, hql, hcar, rfl, HF, HS⟩
          refine wp_seq ?_
          refine wp_seq ?_
          refine wp_region_lit ?_
          refine sx_y HF HS (yl_move rfl) rfl rfl ?_; clear HF ac; intro ac HF
          refine sx_y HF HS (yl_remN (q := 2) rfl rfl (by decide)) rfl rfl ?_; clear HF ac; intro ac HF
          refine sx_dec HF HS (yl_eql rfl rfl rfl) rfl rfl ?_ ?_ <;> clear HF ac <;> intro h6x2 ac HF
          · have ho : nn % 2 = 1 := by omega
            obtain ⟨q, y, rfl, hc2⟩ := hcar.odd ho (by omega)
            have hql2 : (q ++ [y]).length = q.length + 1 := by simp
            have hy : (q ++ [y])[q.length]? = some y := by simp
            refine wpList_nil ?_
            refine then_n ?_
            refine cx_true HF rfl ?_
            refine wp_skip ?_
            refine then_n ?_
            refine wp_seq ?_
            refine wp_block ?_
            refine wp_seq ?_
            refine wp_region_lit ?_
            refine sx_y HF HS (yl_move rfl) rfl rfl ?_; clear HF ac; intro ac HF
            refine sx_y HF HS (yl_len_slice Tryd.underlying22 rfl) rfl rfl ?_; clear HF ac; intro ac HF
            refine sx_y HF HS (yl_sub64 (r := (q.length : Int)) rfl rfl (by omega) (by omega)) rfl rfl ?_; clear HF ac; intro ac HF
            refine sx_y HF HS (yl_assign rfl) rfl rfl ?_; clear HF ac; intro ac HF
            refine wpList_nil ?_
            refine then_n ?_
            refine wp_seq ?_
            refine dx_region 5 (by kernel_rfl) HS.drew (fun _ h => h) ?_; clear HS; intro w HS
            have HH := HS
            refine dx_p (i := 0) HF rfl (by kernel_rfl) (by kernel_rfl) (by kernel_rfl) (by decide) (fun _ _ _ h => h) (fun _ => HH) (yl_move rfl) rfl rfl ?_; clear HF ac; intro ac HF
            refine dx_p (i := 1) HF rfl (by kernel_rfl) (by kernel_rfl) (by kernel_rfl) (by decide) (fun _ _ _ h => h) (fun _ => HH) (yl_move rfl) rfl rfl ?_; clear HF ac; intro ac HF
            refine dx_p (i := 2) HF rfl (by kernel_rfl) (by kernel_rfl) (by kernel_rfl) (by decide) (fun _ _ _ h => h) (fun _ => HH) (ix_sl (k := q.length) Tryd.underlying22 sz24 rfl rfl (by omega) HS.row0.nil0) rfl rfl ?_; clear HF ac; intro ac HF
            refine dx_k (i := 3) HF rfl (by kernel_rfl) (by kernel_rfl) (by kernel_rfl) (by kernel_rfl) (by kernel_rfl) (fun _ _ _ h => h) HH (ld_elH ag24 rfl hy (fun w h => h.row0)) rfl rfl ?_; clear HF ac; intro ac HF
            refine dx_k (i := 4) HF rfl (by kernel_rfl) (by kernel_rfl) (by kernel_rfl) (by kernel_rfl) (by kernel_rfl) (fun _ _ _ h => h) HH (ld_ag ag24 rfl rfl) rfl rfl ?_; clear HF ac; intro ac HF
            refine dx_one (i := 5) (by kernel_rfl) ?_
            refine op_call (i := 5) HF rfl Tryd.func10 (by kernel_rfl) (by kernel_rfl) (evs_cons rfl (evs_cons rfl evs_nil)) (node_any y x w (hLb.kept HS.kp hF4) (Nat.le_trans h2b HS.kp.size)) rfl rfl ?_; clear HF ac
            rintro _ w ⟨rfl, k1⟩
            refine ⟨_, rfl, fun ac HF => ?_⟩
            replace HS := HS.call k1
            clear k1
            refine ⟨fun h => absurd h (by decide), ?_⟩
            refine dx_one (i := 6) (by kernel_rfl) ?_
            refine op_ef0 (i := 6) HF rfl rfl (ef_store HS sz24 rfl rfl rfl) ?_; clear HS; rintro _ w HS
            refine ⟨fun h => absurd h (by decide), ?_⟩
            refine dx_done (by kernel_rfl) ?_
            clear HH
            refine then_n ?_
            refine wp_region_lit ?_
            refine sx_y HF HS (yl_move rfl) rfl rfl ?_; clear HF ac; intro ac HF
            refine sx_y HF HS (yl_move rfl) rfl rfl ?_; clear HF ac; intro ac HF
            have hlm := HS.row0.lim
            refine sx_y HF HS (sl_hi (r := ((q ++ [y]).take q.length).length) Tryd.underlying22 sz24 rfl rfl (by omega) (by simp)) rfl rfl ?_; clear HF ac; intro ac HF
            refine sx_y HF HS (yl_assign rfl) rfl rfl ?_; clear HF ac; intro ac HF
            replace HS := HS.cutH (e := 24) (a := ar) (c := cr) (s := q ++ [y]) (m := q.length) (by omega)
            rw [List.take_left] at HS HF
            refine wpList_nil ?_
            refine blk_n ?_
            refine then_n ?_
            refine wp_region_lit ?_
            refine sx_y HF HS (yl_move rfl) rfl rfl ?_; clear HF ac; intro ac HF
            refine sx_y HF HS (yl_quoN (q := 2) rfl rfl (by decide) (by omega)) rfl rfl ?_; clear HF ac; intro ac HF
            refine sx_y HF HS (yl_assign rfl) rfl rfl ?_; clear HF ac; intro ac HF
            refine wpList_nil ?_
            refine then_n ?_
            refine ⟨_, ?_, nn / 2, q, _, by omega, by omega, hc2, rfl, HF.sub (by repeat (first | exact ag_nil | refine ag_cons rfl ?_)), HS⟩
            omega
          · have ho : ¬ nn % 2 = 1 := by omega
            have hpe := hcar.even ho (by omega)
            refine wpList_nil ?_
            refine then_n ?_
            refine cx_false HF rfl ?_
            refine wp_exit ?_
            refine then_x ?_
            refine then_x ?_
            refine blk_hit ?_
            refine then_n ?_
            refine wp_seq ?_
            refine wp_region_lit ?_
            refine sx_y HF HS (yl_move rfl) rfl rfl ?_; clear HF ac; intro ac HF
            refine sx_y HF HS (ld_ag ag24 rfl rfl) rfl rfl ?_; clear HF ac; intro ac HF
            refine sx_ef HF (ef_lit (n := 1) HS sl22 (parts := #[(0, .tmp 40)]) (evs_cons rfl evs_nil) rfl rfl (s := [(32, _)]) rfl (by simp)) rfl rfl ?_; clear HF HS ac; rintro _ w ac ⟨g41, rfl, HS⟩ HF
            refine sx_ef HF (ef_append1 (n' := (qs ++ [x]).length) (ys := hsc (qs ++ [x])) HS sl22 rfl rfl rfl (by simp) (by simp; omega) (hsc_app1 _ _)) rfl rfl ?_; clear HF HS ac; rintro _ w ac ⟨a42, c42, rfl, HS⟩ HF
            refine sx_y HF HS (yl_assign rfl) rfl rfl ?_; clear HF ac; intro ac HF
            obtain ⟨ps, hps⟩ : ∃ ps, ps = qs ++ [x] := ⟨_, rfl⟩
            have hpl1 : 1 ≤ ps.length := by rw [hps]; simp
            have hpx : peaksR (ps.drop (ps.length - 1)) = x := by rw [hps]; exact peaksR_end qs x
            have hpl2 : ps.length ≤ k + 1 := by rw [hps]; simp; omega
            rw [← hps] at HS HF hpe
            clear hps
            refine wpList_nil ?_
            refine then_n ?_
            refine wp_seq ?_
            refine wp_region_lit ?_
            refine sx_y HF HS (ld_ag ag24 rfl rfl) rfl rfl ?_; clear HF ac; intro ac HF
            refine sx_ef HF (ef_alloc HS ze24) rfl rfl ?_; clear HF HS ac; rintro _ w ac ⟨g8, rfl, HS⟩ HF
            refine sx_ef0 HF (ef_store HS sz24 rfl rfl rfl) rfl ?_; clear HS; rintro _ w HS
            refine wpList_nil ?_
            refine then_n ?_
            refine wp_seq ?_
            refine wp_seq ?_
            refine wp_region_lit ?_
            refine sx_y HF HS (yl_move rfl) rfl rfl ?_; clear HF ac; intro ac HF
            refine sx_y HF HS (yl_len_slice Tryd.underlying22 rfl) rfl rfl ?_; clear HF ac; intro ac HF
            refine sx_y HF HS (yl_sub64 (r := ((ps.length - 1 : Nat) : Int) - 1) rfl rfl (by omega) (by omega)) rfl rfl ?_; clear HF ac; intro ac HF
            refine sx_y HF HS (yl_assign rfl) rfl rfl ?_; clear HF ac; intro ac HF
            refine wpList_nil ?_
            refine then_n ?_
            refine wp_block ?_
            replace HS : St Fo wb [⟨g8, sgA [(32, hv x)], 24⟩] [⟨24, 32, a42, ps.length, c42, hsc ps⟩] w := HS.sub (List.Sublist.cons_cons _ (List.nil_sublist _)) (List.Sublist.refl _)
            replace HF := HF.sub (m' := [(0, _), (3, _), (4, _), (8, _), (14, _), (15, _), (16, _), (9, _)]) (by repeat (first | exact ag_nil | refine ag_cons rfl ?_))
            refine cx_loop (m := [(0, _), (3, _), (4, _), (8, _), (14, _), (15, _), (16, _)]) (HF.sub (by repeat (first | exact ag_nil | refine ag_cons rfl ?_))) (fun m d ac w => ∃ (q : Nat) (z : Hsh), q ≤ ps.length - 1 ∧ z = peaksR (ps.drop q) ∧ d = 2 * q ∧ Fr [] ([(9, .int .i64 ((q : Int) - 1))] ++ m) 64 ac ∧ St Fo wb [⟨g8, sgA [(32, hv z)], 24⟩] [⟨24, 32, a42, ps.length, c42, hsc ps⟩] w) ?_ ?_
            · exact ⟨_, ps.length - 1, x, Nat.le_refl _, hpx.symm, rfl, HF.sub (by repeat (first | exact ag_nil | refine ag_cons rfl ?_)), HS⟩
            · clear HF HS ac w
              rintro d ac w ⟨q, z, hq0, hz, rfl, HF, HS⟩
              refine wp_seq ?_
              refine wp_seq ?_
              refine wp_region_lit ?_
              refine sx_y HF HS (yl_move rfl) rfl rfl ?_; clear HF ac; intro ac HF
              refine sx_dec HF HS (yl_geq rfl rfl rfl) rfl rfl ?_ ?_ <;> clear HF ac <;> intro h14x1 ac HF
              · have hq : 1 ≤ q := by omega
                have hix : (q : Int) - 1 = ((q - 1 : Nat) : Int) := by omega
                rw [hix] at HF
                have hy : ps[q - 1]? = some (ps.getD (q - 1) zeroH) := by rw [List.getD_eq_getElem?_getD, List.getElem?_eq_getElem (by omega)]; rfl
                refine wpList_nil ?_
                refine then_n ?_
                refine cx_true HF rfl ?_
                refine wp_skip ?_
                refine then_n ?_
                refine wp_seq ?_
                refine wp_block ?_
                refine dx_region 5 (by kernel_rfl) HS.drew (fun _ h => h) ?_; clear HS; intro w HS
                have HH := HS
                refine dx_p (i := 0) HF rfl (by kernel_rfl) (by kernel_rfl) (by kernel_rfl) (by decide) (fun _ _ _ h => h) (fun _ => HH) (yl_move rfl) rfl rfl ?_; clear HF ac; intro ac HF
                refine dx_p (i := 1) HF rfl (by kernel_rfl) (by kernel_rfl) (by kernel_rfl) (by decide) (fun _ _ _ h => h) (fun _ => HH) (yl_move rfl) rfl rfl ?_; clear HF ac; intro ac HF
                refine dx_p (i := 2) HF rfl (by kernel_rfl) (by kernel_rfl) (by kernel_rfl) (by decide) (fun _ _ _ h => h) (fun _ => HH) (ix_sl (k := (q - 1)) Tryd.underlying22 sz24 rfl rfl (by omega) HS.row0.nil0) rfl rfl ?_; clear HF ac; intro ac HF
                refine dx_k (i := 3) HF rfl (by kernel_rfl) (by kernel_rfl) (by kernel_rfl) (by kernel_rfl) (by kernel_rfl) (fun _ _ _ h => h) HH (ld_elH ag24 rfl hy (fun w h => h.row0)) rfl rfl ?_; clear HF ac; intro ac HF
                refine dx_k (i := 4) HF rfl (by kernel_rfl) (by kernel_rfl) (by kernel_rfl) (by kernel_rfl) (by kernel_rfl) (fun _ _ _ h => h) HH (ld_ag ag24 rfl rfl) rfl rfl ?_; clear HF ac; intro ac HF
                refine dx_one (i := 5) (by kernel_rfl) ?_
                refine op_call (i := 5) HF rfl Tryd.func10 (by kernel_rfl) (by kernel_rfl) (evs_cons rfl (evs_cons rfl evs_nil)) (node_any _ z w (hLb.kept HS.kp hF4) (Nat.le_trans h2b HS.kp.size)) rfl rfl ?_; clear HF ac
                rintro _ w ⟨rfl, k1⟩
                refine ⟨_, rfl, fun ac HF => ?_⟩
                replace HS := HS.call k1
                clear k1
                refine ⟨fun h => absurd h (by decide), ?_⟩
                refine dx_one (i := 6) (by kernel_rfl) ?_
                refine op_ef0 (i := 6) HF rfl rfl (ef_store HS sz24 rfl rfl rfl) ?_; clear HS; rintro _ w HS
                refine ⟨fun h => absurd h (by decide), ?_⟩
                refine dx_done (by kernel_rfl) ?_
                clear HH
                refine blk_n ?_
                refine then_n ?_
                refine wp_region_lit ?_
                refine sx_y HF HS (yl_move rfl) rfl rfl ?_; clear HF ac; intro ac HF
                refine sx_y HF HS (yl_sub64 rfl rfl rfl (by omega)) rfl rfl ?_; clear HF ac; intro ac HF
                refine sx_y HF HS (yl_assign rfl) rfl rfl ?_; clear HF ac; intro ac HF
                refine wpList_nil ?_
                refine then_n ?_
                refine ⟨_, ?_, q - 1, _, by omega, ?_, rfl, HF.sub (by repeat (first | exact ag_nil | refine ag_cons rfl ?_)), HS⟩
                · omega
                · rw [hz]; exact peaksR_at ps q hq (by omega)
              · obtain rfl : q = 0 := by omega
                rw [List.drop_zero, hpe, ← root_peaks T.length T (Nat.le_refl _) (by omega), hTT] at hz
                subst hz
                rw [hpe, hTT] at HS HF
                refine wpList_nil ?_
                refine then_n ?_
                refine cx_false HF rfl ?_
                refine wp_exit ?_
                refine then_x ?_
                refine then_x ?_
                refine blk_hit ?_
                refine then_n ?_
                refine wp_seq ?_
                refine wp_region_lit ?_
                refine sx_y HF HS (yl_move rfl) rfl rfl ?_; clear HF ac; intro ac HF
                refine sx_y HF HS (yl_move rfl) rfl rfl ?_; clear HF ac; intro ac HF
                refine sx_y HF HS (yl_add64 (r := ((k + 1 : Nat) : Int)) rfl rfl (by omega) (by omega)) rfl rfl ?_; clear HF ac; intro ac HF
                refine sx_y HF HS (ld_ag ag24 rfl rfl) rfl rfl ?_; clear HF ac; intro ac HF
                have hlw := HS.lt
                have hnG : ∀ x ∈ ids [⟨g8, sgA [(32, hv (rootH (l.take (k + 1))))], 24⟩] [⟨24, 32, a42, (peaksOf (l.take (k + 1))).length, c42, hsc (peaksOf (l.take (k + 1)))⟩], x ∉ G := fun x hx hh => by
                  rcases HS.new x hx with h1 | h1
                  · have := hGl x hh; omega
                  · exact (hown x h1).1 hh
                have hnW : ∀ x ∈ ids [⟨g8, sgA [(32, hv (rootH (l.take (k + 1))))], 24⟩] [⟨24, 32, a42, (peaksOf (l.take (k + 1))).length, c42, hsc (peaksOf (l.take (k + 1)))⟩], W0.heap.size ≤ x := fun x hx => by
                  rcases HS.new x hx with h1 | h1
                  · exact Nat.le_trans hi.kp.size h1
                  · exact (hown x h1).2
                replace hi := hi.step hJ HS.kp (Nat.le_refl _) hown
                have hnGo := hnG
                clear hnG
                refine sx_yield (lr := lr) HF rfl (evs_cons rfl (evs_cons rfl evs_nil)) (hY (k + 1) G w (by omega) hi.j) rfl rfl ?_; clear HF ac
                rintro _ w (⟨rfl, G, hj, hadv⟩ | ⟨rfl, G, hj⟩)
                · refine ⟨_, rfl, fun ac HF => ?_⟩
                  have hown9 : ∀ x ∈ ids [] [⟨24, 32, a42, (peaksOf (l.take (k + 1))).length, c42, hsc (peaksOf (l.take (k + 1)))⟩], x ∉ G ∧ W0.heap.size ≤ x := fun x hx => by
                    have hm : x ∈ ids [⟨g8, sgA [(32, hv (rootH (l.take (k + 1))))], 24⟩] [⟨24, 32, a42, (peaksOf (l.take (k + 1))).length, c42, hsc (peaksOf (l.take (k + 1)))⟩] := by simp only [ids, List.mem_append]; simp only [ids, List.map_nil, List.nil_append] at hx; exact .inr hx
                    refine ⟨fun hh => ?_, hnW x hm⟩
                    rcases hadv.gr x hh with h1 | h1
                    · exact hnGo x hm h1
                    · have := hlw x hm; omega
                  replace HS := (HS.at' hadv.kp (fun x hx hh => hnGo x hh hx)).d1
                  replace hi := hi.next hj hadv
                  refine sx_y HF HS (yl_not rfl) rfl rfl ?_; clear HF ac; intro ac HF
                  refine wpList_nil ?_
                  refine then_n ?_
                  refine cx_false HF rfl ?_
                  refine wp_skip ?_
                  refine blk_n ?_
                  refine then_n ?_
                  refine wp_region_lit ?_
                  refine sx_y HF HS (yl_add64 rfl rfl rfl (by omega)) rfl rfl ?_; clear HF ac; intro ac HF
                  refine sx_y HF HS (yl_move rfl) rfl rfl ?_; clear HF ac; intro ac HF
                  refine wpList_nil ?_
                  refine then_n ?_
                  refine ⟨_, ?_, k + 1, G, _, _, hk, hi, hown9, rfl, HF.sub (by repeat (first | exact ag_nil | refine ag_cons rfl ?_)), HS.rebase⟩
                  omega
                · refine ⟨_, rfl, fun ac HF => ?_⟩
                  have HS := St.start [] w
                  refine sx_y HF HS (yl_not rfl) rfl rfl ?_; clear HF ac; intro ac HF
                  refine wpList_nil ?_
                  refine then_n ?_
                  refine cx_true HF rfl ?_
                  refine wp_ret ?_
                  refine blk_r ?_
                  refine then_r ?_
                  refine then_r ?_
                  refine blk_r ?_
                  exact leave0 HF (rt0 rfl HF.fr ⟨⟨_, rfl⟩, .inr ⟨k + 1, G, by omega, hj⟩⟩)
      · obtain rfl : k = l.length := by omega
        refine wpList_nil ?_
        refine then_n ?_
        refine wp_seq ?_
        refine cx_false HF rfl ?_
        refine wp_exit ?_
        refine then_x ?_
        refine then_x ?_
        refine blk_hit ?_
        refine bp_n ?_
        exact leave0 HF (rt0 rfl HF.fr ⟨⟨_, rfl⟩, .inl ⟨G, hi.j⟩⟩)
  · refine ⟨_, rfl, fun ac HF => ?_⟩
    have HS := St.start [] w
    refine sx_y HF HS (yl_not rfl) rfl rfl ?_; clear HF ac; intro ac HF
    refine wpList_nil ?_
    refine then_n ?_
    refine cx_true HF rfl ?_
    refine wp_ret ?_
    refine then_r ?_
    exact leave0 HF (rt0 rfl HF.fr ⟨⟨_, rfl⟩, .inr ⟨0, G, by omega, hj⟩⟩)

end Go.Proofs.YtgfppmnpccaloaaDoor.R
