/-
  proof.Lead: the root that a path leads to.
-/
import Derived.Test.YtalnkhgonfcabaaDoorPrf1
import Derived.Test.YtalnkhgonfcabaaDoorRoot7
namespace Go.Proofs.YtalnkhgonfcabaaDoor
open Go.RowKit

/-- The end of a function with a result in a block and one in a slot. -/
theorem ret_block_tmp {P : Program} {fn : Func} {R : Ending → World → Prop} {a : Act} {w : World} {p u : Tmp} {ty : TypeId} {n : Nat} (T : ArT P ty n) (hf : fn.results = #[.cell p ty, .tmp u])
    {g : Nat} {t : TypeId} {cs : Array Value} {fr : Nat × Nat} (hg : w.heap[g]? = some (.cells cs t fr)) (hn : cs.size = n) (hp : a.tmps.getD p undef = .pointer (some ⟨g, 0, none⟩)) (hd : a.defers = [])
    {v : Value} (hv : a.tmps.getD u undef = v) (hR : R (.returned (.tuple #[.agg cs, v])) w) : bodyPost P fn R .ret a w := by
  obtain ⟨⟨k, e, hu⟩, hs⟩ := T
  have hp' : a.tmps[p]?.getD undef = .pointer (some ⟨g, 0, none⟩) := by simpa using hp
  have hv' : a.tmps[u]?.getD undef = v := by simpa using hv
  refine bodyPost_ret (v := .tuple #[.agg cs, v]) ?_ hd hR
  simp [results, hf, hp', hv', asAddr, run_loadVar_row w g t ty cs fr _ hg hu rfl (by rw [hs, hn])]
/-- The end of a function with two results in blocks and one in a slot. -/
theorem ret_block2_tmp {P : Program} {fn : Func} {R : Ending → World → Prop} {a : Act} {w : World} {p q u : Tmp} {ty : TypeId} {n : Nat} (T : ArT P ty n) (hf : fn.results = #[.cell p ty, .cell q ty, .tmp u])
    {g : Nat} {t : TypeId} {cs : Array Value} {fr : Nat × Nat} (hg : w.heap[g]? = some (.cells cs t fr)) (hn : cs.size = n) (hp : a.tmps.getD p undef = .pointer (some ⟨g, 0, none⟩))
    {g2 : Nat} {t2 : TypeId} {cs2 : Array Value} {fr2 : Nat × Nat} (hg2 : w.heap[g2]? = some (.cells cs2 t2 fr2)) (hn2 : cs2.size = n) (hq : a.tmps.getD q undef = .pointer (some ⟨g2, 0, none⟩)) (hd : a.defers = [])
    {v : Value} (hv : a.tmps.getD u undef = v) (hR : R (.returned (.tuple #[.agg cs, .agg cs2, v])) w) : bodyPost P fn R .ret a w := by
  obtain ⟨⟨k, e, hu⟩, hs⟩ := T
  have hp' : a.tmps[p]?.getD undef = .pointer (some ⟨g, 0, none⟩) := by simpa using hp
  have hq' : a.tmps[q]?.getD undef = .pointer (some ⟨g2, 0, none⟩) := by simpa using hq
  have hv' : a.tmps[u]?.getD undef = v := by simpa using hv
  refine bodyPost_ret (v := .tuple #[.agg cs, .agg cs2, v]) ?_ hd hR
  simp [results, hf, hp', hq', hv', asAddr, run_loadVar_row w g t ty cs fr _ hg hu rfl (by rw [hs, hn]), run_loadVar_row w g2 t2 ty cs2 fr2 _ hg2 hu rfl (by rw [hs, hn2])]

theorem climb_odd (a z : Nat) (w : World) (h : a % 2 = 1) :
    Calls Tryd.prog 133 #[.int .i64 a, .int .i64 z] w fun e w' => e = .returned (.tuple #[.int .i64 a, .int .i64 z]) ∧ w = w' := by
  have h1 : ((a : Int) % 2 == 0) = false := by rw [beq_eq_false_iff_ne]; omega
  go_enter Tryd.func133, Tryd.ntmps133
  go_wp2
  go_loopw [0, 1] (fun v u wr => v = .int .i64 a ∧ u = .int .i64 z ∧ w = wr) (fun _ _ _ => 0)
  case atStart => exact ⟨rfl, rfl, rfl⟩
  case round =>
    obtain ⟨rfl, rfl, rfl⟩ := hrel
    go_wp2
    go_ret2
    exact ⟨rfl, rfl⟩
theorem climb_same (a : Nat) (w : World) (h : 0 < a) (hb : a ≤ 4611686018427387904) :
    Calls Tryd.prog 133 #[.int .i64 a, .int .i64 a] w fun e w' => e = .returned (.tuple #[.int .i64 (odd a : Nat), .int .i64 (odd a : Nat)]) ∧ w = w' := by
  go_enter Tryd.func133, Tryd.ntmps133
  go_wp2
  go_loopw [0, 1] (fun v u wr => ∃ x : Nat, v = .int .i64 x ∧ u = .int .i64 x ∧ 0 < x ∧ x ≤ a ∧ odd x = odd a ∧ w = wr) (fun v _ _ => (intOf v).toNat)
  case atStart => exact ⟨a, rfl, rfl, h, Nat.le_refl _, rfl, rfl⟩
  case round =>
    obtain ⟨x, rfl, rfl, hx, hxa, hod, rfl⟩ := hrel
    have HO := Lib.hid hod
    clear hod
    by_cases he : x % 2 = 0
    · have h1 : ((x : Int) % 2 == 0) = true := by rw [beq_iff_eq]; omega
      have h2 : (x : Int) > 0 := by omega
      have HE := Lib.hid he
      clear he
      go_wp2
      go_roundw
      case rel => exact ⟨x / 2, by congr 1, by congr 1, by have := HE.out; omega, by omega, by rw [← HO.out, odd_even x HE.out hx], trivial⟩
      case measure => simp [intOf]; omega
    · have h1 : ((x : Int) % 2 == 0) = false := by rw [beq_eq_false_iff_ne]; omega
      have HE := Lib.hid (odd_odd x (by omega))
      clear he
      go_wp2
      go_ret2
      exact ⟨by rw [← HO.out, HE.out]; rfl, rfl⟩

theorem alloc2 (w : World) (x y : Array Value) (t u : TypeId) : ((w.alloc (.cells x t)).alloc (.cells y u)).heap[w.heap.size + 1]? = some (.cells y u (0, 0)) := by
  have h := heap_alloc_new (w.alloc (.cells x t)) (.cells y u)
  rw [heap_alloc_size] at h
  exact h
theorem alloc1 (w : World) (x y : Array Value) (t u : TypeId) : ((w.alloc (.cells x t)).alloc (.cells y u)).heap[w.heap.size]? = some (.cells x t (0, 0)) :=
  (Below.heap_alloc _ _ _ (by simp)).trans (heap_alloc_new w _)

theorem alloc3 (w : World) (x y z : Array Value) (t u v : TypeId) : (((w.alloc (.cells x t)).alloc (.cells y u)).alloc (.cells z v)).heap[w.heap.size + 1 + 1]? = some (.cells z v (0, 0)) := by
  have h := alloc2 (w.alloc (.cells x t)) y z u v
  rw [heap_alloc_size] at h
  exact h

theorem lead_bad (leaf : Hsh) (i n : Int) (v : Value) (w : World) (h : i < 0 ∨ n ≤ i) :
    Calls Tryd.prog 103 #[hv leaf, .int .i64 i, .int .i64 n, v] w fun e w' => e = .returned (.tuple #[.agg (hcs zeroH).toArray, .int .i64 11]) ∧ Kp [] w w' := by
  have h' : i < 0 ∨ (¬ i < 0 ∧ n ≤ i) := by omega
  have HG := Lib.hid (alloc2 w (hvA leaf) (hvA zeroH) 33 33)
  clear h
  rcases h' with h | ⟨h0, h⟩
  all_goals
    go_enter Tryd.func103, Tryd.ntmps103
    go_wp2_with (refine wpList_set Tryd.thash rfl rfl HG.out (hvA_size _) (hvA_size zeroH) (hvA_one _) rfl rfl ?_; intro w9 h9 k9 s9)
    refine ret_block_tmp Tryd.thash rfl h9 (hvA_size _) rfl rfl rfl ⟨rfl, ?_⟩
    exact (((Kp.refl [] w).alloc _).alloc _).trans k9 (fun x hx hlt => by simp at hx; omega)

/-- What Lead returns. -/
def leadV : Option Hsh → Value
  | some r => .tuple #[.agg (hcs r).toArray, .int .i64 0]
  | none => .tuple #[.agg (hcs zeroH).toArray, .int .i64 22]

set_option maxRecDepth 100000 in
set_option maxHeartbeats 2000000 in
theorem lead_good (leaf : Hsh) (i n : Nat) (ps : List Hsh) (a : Option Addr) (c : Nat) (w : World) (hr : Rd w a ps.length c 32 (hsc ps)) (hin : i < n) (hb : n ≤ 1152921504606846976) (hL : Laid w) (h2 : 4 ≤ w.heap.size) :
    Calls Tryd.prog 103 #[hv leaf, .int .i64 i, .int .i64 n, .slice a ps.length c] w fun e w' => e = .returned (leadV (leadF i (n - 1) leaf ps)) ∧ Kp [] w w' := by
  have HR := Lib.hid hr
  have HL := Lib.hid hL
  have HG4 := Lib.hid (alloc1 w (hvA leaf) (hvA zeroH) 33 33)
  have HG8 := Lib.hid (alloc2 w (hvA leaf) (hvA zeroH) 33 33)
  have HG12 := Lib.hid (alloc3 w (hvA leaf) (hvA zeroH) (hvA zeroH) 33 33 33)
  have K0 := Lib.hid (((Kp.refl [] w).alloc (.cells (hvA leaf) 33)).alloc (.cells (hvA zeroH) 33))
  have HS0 := Lib.hid (show ((w.alloc (.cells (hvA leaf) 33)).alloc (.cells (hvA zeroH) 33)).heap.size = w.heap.size + 2 by simp)
  have d1 : ¬ (i : Int) < 0 := by omega
  have d2 : ¬ (i : Int) ≥ (n : Int) := by omega
  have d3 : IntKind.i64.wrap ((n : Int) - 1) = ((n - 1 : Nat) : Int) := by rw [IntWalk.i64_in _ (by omega)]; omega
  obtain ⟨z, hz⟩ : ∃ z, z = n - 1 := ⟨_, rfl⟩
  rw [← hz] at d3 ⊢
  have hiz : i ≤ z := by omega
  have hzb : z ≤ 1152921504606846976 := by omega
  have hmax := hr.le
  have hmax2 := hr.max
  unfold maxLen at hmax2
  clear hr hL hz
  go_enter Tryd.func103, Tryd.ntmps103
  go_wp2_with (first | (refine wpList_get Tryd.thash rfl rfl HG4.out (hvA_size _) rfl ?_) | (refine wpList_set Tryd.thash rfl rfl HG12.out (hvA_size _) (hvA_size leaf) (hvA_one _) rfl rfl ?_; intro w9 h9 k9 s9; have H9 := Lib.hid h9; have K9 := Lib.hid k9; have S9 := Lib.hid s9; clear h9 k9 s9))
  go_loopw [10, 11, 29] (fun v10 v11 v29 wr => ∃ (k x y : Nat) (h : Hsh), k ≤ ps.length ∧ v10 = .int .i64 x ∧ v11 = .int .i64 y ∧ x ≤ y ∧ y ≤ z ∧ v29 = .int .i64 k ∧ leadF x y h (ps.drop k) = leadF i z leaf ps ∧ wr.heap[w.heap.size + 1 + 1]? = some (.cells (hvA h) 33 (0, 0)) ∧ wr.heap[w.heap.size + 1]? = some (.cells (hvA zeroH) 33 (0, 0)) ∧ Kp [] w wr) (fun _ _ v29 _ => ps.length - (intOf v29).toNat)
  case atStart =>
    refine ⟨0, i, z, leaf, by omega, rfl, rfl, hiz, Nat.le_refl _, rfl, by rw [List.drop_zero], H9.out, ?_, ?_⟩
    · exact (K9.out.block (w.heap.size + 1) (by simp) (by simp)).trans ((Below.heap_alloc _ _ _ (by simp)).trans HG8.out)
    · exact (K0.out.alloc _).trans K9.out (fun x hx hlt => by simp at hx; omega)
  case round =>
    obtain ⟨k, x, y, h, hk, rfl, rfl, hxy, hyz, rfl, hld, g12, g8, hkp⟩ := hrel
    have HLD := Lib.hid hld
    have G12 := Lib.hid g12
    have G8 := Lib.hid g8
    have HKP := Lib.hid hkp
    clear hld g12 g8
    by_cases hlt : k < ps.length
    · obtain ⟨b, off, rfl, _, hcs⟩ := (HR.out.below hkp).spot (by rw [hsc_length]; omega)
      have hra := rd_hash hcs k hlt
      have hdr : ps.drop k = ps[k] :: ps.drop (k + 1) := List.drop_eq_getElem_cons hlt
      obtain ⟨p, hp⟩ : ∃ p, p = ps[k] := ⟨_, rfl⟩
      rw [← hp] at hra hdr
      have HRA := Lib.hid hra
      have HDR := Lib.hid hdr
      have HSZ := Lib.hid hkp.size
      have hlt12 : w.heap.size + 1 + 1 < wr.heap.size := lt_of_block G12.out
      have HLT12 := Lib.hid hlt12
      clear hkp hcs hra hdr hp hlt12
      by_cases hy0 : y = 0
      · subst hy0
        go_wp2_with (first | (refine wpList_get_mid Tryd.thash rfl rfl HRA.out (hcs_length _) rfl ?_) | (refine wpList_set Tryd.thash rfl rfl (heap_alloc_new wr _) (hvA_size zeroH) (hvA_size p) (hvA_one _) rfl rfl ?_; intro w5 h5 k5 s5; have K5 := Lib.hid (((Kp.refl [] wr).alloc (.cells (hvA zeroH) 33)).trans k5 (fun x hx hlt => by simp at hx; omega)); have G85 := Lib.hid ((K5.out.block _ (lt_of_block G8.out) (by simp)).trans G8.out); clear h5 k5 s5) | (refine wpList_set Tryd.thash rfl rfl G85.out (hvA_size _) (hvA_size zeroH) (hvA_one _) rfl rfl ?_; intro w7 h7 k7 s7))
        refine ret_block_tmp Tryd.thash rfl h7 (hvA_size _) rfl rfl rfl ⟨?_, ?_⟩
        · rw [← HLD.out, HDR.out, leadF, if_pos rfl]; rfl
        · exact (HKP.out.trans K5.out (by simp)).trans k7 (fun x hx hlt => by simp at hx; omega)
      · have hy1 : ((y : Int) == 0) = false := by rw [beq_eq_false_iff_ne]; omega
        have HY0 := Lib.hid hy0
        clear hy0
        by_cases hx : x % 2 = 1
        · have hx1 : ((x : Int) % 2 == 1) = true := by rw [beq_iff_eq]; omega
          have HX := Lib.hid hx
          go_wp2_with (first | (refine wpList_get_mid Tryd.thash rfl rfl HRA.out (hcs_length _) rfl ?_) | (refine wpList_set Tryd.thash rfl rfl (heap_alloc_new wr _) (hvA_size zeroH) (hvA_size p) (hvA_one _) rfl rfl ?_; intro w5 h5 k5 s5; have K5 := Lib.hid (((Kp.refl [] wr).alloc (.cells (hvA zeroH) 33)).trans k5 (fun x hx hlt => by simp at hx; omega)); have G85 := Lib.hid ((K5.out.block _ (lt_of_block G8.out) (by simp)).trans G8.out); have G125 := Lib.hid ((K5.out.block _ (lt_of_block G12.out) (by simp)).trans G12.out); have H5 := Lib.hid h5; clear h5 k5 s5) | (refine wpList_get Tryd.thash rfl rfl H5.out (hvA_size _) rfl ?_) | (refine wpList_get Tryd.thash rfl rfl G125.out (hvA_size _) rfl ?_))
          refine (node_any p h _ (HL.out.below (HKP.out.trans K5.out (by simp))) (Nat.le_trans h2 (HKP.out.trans K5.out (by simp)).size)).mono ?_
          rintro e w6 ⟨rfl, k6⟩
          have K6 := Lib.hid (K5.out.trans k6 (by simp))
          have G126 := Lib.hid ((k6.block _ (lt_of_block G125.out) (by simp)).trans G125.out)
          have G86 := Lib.hid ((k6.block _ (lt_of_block G85.out) (by simp)).trans G85.out)
          clear k6
          go_wp2_with (refine wpList_set Tryd.thash rfl rfl G126.out (hvA_size _) (hvA_size _) (hvA_one (nodeH p h)) rfl rfl ?_; intro w7 h7 k7 s7; have H7 := Lib.hid h7; have K7 := Lib.hid ((HKP.out.trans K6.out (by simp)).trans k7 (fun x hx hlt => by simp at hx; omega)); have G87 := Lib.hid ((k7.block _ (lt_of_block G86.out) (by simp)).trans G86.out); clear h7 k7 s7)
          refine (climb_odd x y _ HX.out).mono ?_
          rintro e w8 ⟨rfl, rfl⟩
          clear hx
          go_wp2
          go_roundw
          case rel =>
            refine ⟨k + 1, x / 2, y / 2, nodeH p h, by omega, by go_num, by go_num, by omega, by omega, by go_num, ?_, H7.out, G87.out, K7.out⟩
            rw [← HLD.out, HDR.out, leadF, if_neg HY0.out, if_pos HX.out]
          case measure => simp [intOf]; omega
        · have HX := Lib.hid hx
          by_cases hl : x = y
          · subst hl
            have hx1 : ((x : Int) % 2 == 1) = false := by rw [beq_eq_false_iff_ne]; omega
            have hxp : 0 < x := by have := HY0.out; omega
            have hod := odd_le x
            obtain ⟨o, ho⟩ : ∃ o, o = odd x := ⟨_, rfl⟩
            rw [← ho] at hod
            have HO := Lib.hid ho
            have HC := Lib.hid (fun W => climb_same x W hxp (by omega))
            rw [← ho] at HC
            clear hx ho
            go_wp2_with (first | (refine wpList_get_mid Tryd.thash rfl rfl HRA.out (hcs_length _) rfl ?_) | (refine wpList_set Tryd.thash rfl rfl (heap_alloc_new wr _) (hvA_size zeroH) (hvA_size p) (hvA_one _) rfl rfl ?_; intro w5 h5 k5 s5; have K5 := Lib.hid (((Kp.refl [] wr).alloc (.cells (hvA zeroH) 33)).trans k5 (fun x hx hlt => by simp at hx; omega)); have G85 := Lib.hid ((K5.out.block _ (lt_of_block G8.out) (by simp)).trans G8.out); have G125 := Lib.hid ((K5.out.block _ (lt_of_block G12.out) (by simp)).trans G12.out); have H5 := Lib.hid h5; clear h5 k5 s5) | (refine wpList_get Tryd.thash rfl rfl H5.out (hvA_size _) rfl ?_) | (refine wpList_get Tryd.thash rfl rfl G125.out (hvA_size _) rfl ?_))
            refine (node_any p h _ (HL.out.below (HKP.out.trans K5.out (by simp))) (Nat.le_trans h2 (HKP.out.trans K5.out (by simp)).size)).mono ?_
            rintro e w6 ⟨rfl, k6⟩
            have K6 := Lib.hid (K5.out.trans k6 (by simp))
            have G126 := Lib.hid ((k6.block _ (lt_of_block G125.out) (by simp)).trans G125.out)
            have G86 := Lib.hid ((k6.block _ (lt_of_block G85.out) (by simp)).trans G85.out)
            clear k6
            go_wp2_with (refine wpList_set Tryd.thash rfl rfl G126.out (hvA_size _) (hvA_size _) (hvA_one (nodeH p h)) rfl rfl ?_; intro w7 h7 k7 s7; have H7 := Lib.hid h7; have K7 := Lib.hid ((HKP.out.trans K6.out (by simp)).trans k7 (fun x hx hlt => by simp at hx; omega)); have G87 := Lib.hid ((k7.block _ (lt_of_block G86.out) (by simp)).trans G86.out); clear h7 k7 s7)
            refine (HC.out _).mono ?_
            rintro e w8 ⟨rfl, rfl⟩
            go_wp2
            go_roundw
            case rel =>
              refine ⟨k + 1, o / 2, o / 2, nodeH p h, by omega, by go_num, by go_num, by omega, by omega, by go_num, ?_, H7.out, G87.out, K7.out⟩
              rw [← HLD.out, HDR.out, leadF, if_neg HY0.out, if_neg HX.out, if_pos rfl, ← HO.out]
            case measure => simp [intOf]; omega
          · have hx1 : ((x : Int) % 2 == 1) = false := by rw [beq_eq_false_iff_ne]; omega
            have hl1 : ((x : Int) == (y : Int)) = false := by rw [beq_eq_false_iff_ne]; omega
            have HLN := Lib.hid hl
            clear hx hl
            go_wp2_with (first | (refine wpList_get_mid Tryd.thash rfl rfl HRA.out (hcs_length _) rfl ?_) | (refine wpList_set Tryd.thash rfl rfl (heap_alloc_new wr _) (hvA_size zeroH) (hvA_size p) (hvA_one _) rfl rfl ?_; intro w5 h5 k5 s5; have K5 := Lib.hid (((Kp.refl [] wr).alloc (.cells (hvA zeroH) 33)).trans k5 (fun x hx hlt => by simp at hx; omega)); have G85 := Lib.hid ((K5.out.block _ (lt_of_block G8.out) (by simp)).trans G8.out); have G125 := Lib.hid ((K5.out.block _ (lt_of_block G12.out) (by simp)).trans G12.out); have H5 := Lib.hid h5; clear h5 k5 s5) | (refine wpList_get Tryd.thash rfl rfl H5.out (hvA_size _) rfl ?_) | (refine wpList_get Tryd.thash rfl rfl G125.out (hvA_size _) rfl ?_))
            refine (node_any h p _ (HL.out.below (HKP.out.trans K5.out (by simp))) (Nat.le_trans h2 (HKP.out.trans K5.out (by simp)).size)).mono ?_
            rintro e w6 ⟨rfl, k6⟩
            have K6 := Lib.hid (K5.out.trans k6 (by simp))
            have G126 := Lib.hid ((k6.block _ (lt_of_block G125.out) (by simp)).trans G125.out)
            have G86 := Lib.hid ((k6.block _ (lt_of_block G85.out) (by simp)).trans G85.out)
            clear k6
            go_wp2_with (refine wpList_set Tryd.thash rfl rfl G126.out (hvA_size _) (hvA_size _) (hvA_one (nodeH h p)) rfl rfl ?_; intro w7 h7 k7 s7; have H7 := Lib.hid h7; have K7 := Lib.hid ((HKP.out.trans K6.out (by simp)).trans k7 (fun x hx hlt => by simp at hx; omega)); have G87 := Lib.hid ((k7.block _ (lt_of_block G86.out) (by simp)).trans G86.out); clear h7 k7 s7)
            go_roundw
            case rel =>
              refine ⟨k + 1, x / 2, y / 2, nodeH h p, by omega, by go_num, by go_num, by omega, by omega, by go_num, ?_, H7.out, G87.out, K7.out⟩
              rw [← HLD.out, HDR.out, leadF, if_neg HY0.out, if_neg HX.out, if_neg HLN.out]
            case measure => simp [intOf]; omega
    · obtain rfl : k = ps.length := by omega
      have HSZ := Lib.hid hkp.size
      clear hkp
      rw [List.drop_length] at HLD
      by_cases hy0 : y = 0
      · subst hy0
        go_wp2_with (first | (refine wpList_get Tryd.thash rfl rfl G12.out (hvA_size _) rfl ?_) | (refine wpList_set Tryd.thash rfl rfl G8.out (hvA_size _) (hvA_size h) (hvA_one _) rfl rfl ?_; intro w7 h7 k7 s7))
        refine ret_block_tmp Tryd.thash rfl h7 (hvA_size _) rfl rfl rfl ⟨?_, ?_⟩
        · rw [← HLD.out, leadF, if_pos rfl]; rfl
        · exact HKP.out.trans k7 (fun x hx hlt => by simp at hx; omega)
      · have hy1 : ((y : Int) == 0) = false := by rw [beq_eq_false_iff_ne]; omega
        go_wp2_with (refine wpList_set Tryd.thash rfl rfl G8.out (hvA_size _) (hvA_size zeroH) (hvA_one _) rfl rfl ?_; intro w7 h7 k7 s7)
        refine ret_block_tmp Tryd.thash rfl h7 (hvA_size _) rfl rfl rfl ⟨?_, ?_⟩
        · rw [← HLD.out, leadF, if_neg hy0]; rfl
        · exact HKP.out.trans k7 (fun x hx hlt => by simp at hx; omega)
end Go.Proofs.YtalnkhgonfcabaaDoor
