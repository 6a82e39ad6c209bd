/-
  SUMS that can't be taken for one another: sha.Sum, tag.sum, tag.Leaf, tag.Node.
-/
import Derived.Test.YtgfppmnpccaloaaDoorSha6
import Derived.Deep.RegionHeld3
namespace Go.Proofs.YtgfppmnpccaloaaDoor
open Go.RowKit

theorem sum_any (a : Option Addr) (c : Nat) (b : List UInt8) (w : World) (hb : Rd w a b.length c 1 (bcs b)) (hL : Laid w) (h2 : 2 ≤ w.heap.size) :
    Calls Tryd.prog 8 #[.slice a b.length c] w fun e w' => e = .returned (hv (shaH b)) ∧ Kp [] w w' := by
  have k0 := (Kp.refl [] w).alloc (.cells (hvA zeroH) 24)
  have HB := Lib.hid hb
  have HL := Lib.hid hL
  have K0 := Lib.hid k0
  clear hb hL k0
  go_enter Tryd.func8, Tryd.ntmps8
  go_wp2_with fail
  refine (new_any _ (HL.out.below K0.out)).mono ?_
  rintro e w1 ⟨rfl, h1, k1, s1⟩
  rw [heap_alloc_size] at h1
  obtain ⟨q, hq⟩ : ∃ q, q = w.heap.size + 1 := ⟨_, rfl⟩
  have hqw : w.heap.size < q := by omega
  rw [← hq] at h1
  have HQ := Lib.hid hq
  have H1 := Lib.hid h1
  have K1 := Lib.hid k1
  clear h1 k1 s1 hq
  go_wp2_with fail
  rw [← HQ.out]
  refine (write_any q [] [q] a c b _ H1.out ((HB.out.below K0.out).below K1.out) (fun h0 x hx hh => by have := HB.out.lt (by rw [bcs_length]; exact h0) x hx; simp at hh; omega) ((HL.out.below K0.out).below K1.out) (by simp; omega)).mono ?_
  rintro e w2 ⟨rfl, F2, h2', k2⟩
  have H2 := Lib.hid h2'
  have K2 := Lib.hid (((Kp.refl [] (w.alloc (.cells (hvA zeroH) 24))).trans K1.out (by simp)).trans k2.kp (fun x hx hlt => by simp at hx; rw [hx, HQ.out, heap_alloc_size] at hlt; omega))
  clear h2' k2
  go_wp2_with fail
  have hsz := K2.out.size
  refine (dsum_any q _ F2 _ H2.out ((HL.out.below K0.out).below K2.out) (Nat.le_trans h2 (Nat.le_trans K0.out.size hsz))).mono ?_
  rintro e w3 ⟨rfl, k3⟩
  have HGR := Lib.hid (((K2.out.trans k3 (by simp)).block w.heap.size (by simp) (by simp)).trans (heap_alloc_new w (.cells (hvA zeroH) 24)))
  have K3 := Lib.hid ((K0.out.trans K2.out (by simp)).trans k3 (by simp))
  clear k3 hsz
  go_wp2_with (refine wpList_set Tryd.thash rfl rfl HGR.out (hvA_size _) (hvA_size _) (hvA_one _) rfl rfl ?_; intro w9 h9 k9 s9)
  refine ret_block Tryd.thash rfl h9 (hvA_size _) rfl rfl ⟨rfl, ?_⟩
  exact K3.out.trans k9 (fun x hx hlt => by simp at hx; omega)

/-! ### Parts -/
structure Pt where
  (a : Option Addr) (c : Nat) (l : List UInt8)
def ptV (p : Pt) : Value := .slice p.a p.l.length p.c
def pts (l : List Pt) : List Value := l.map ptV
def flatB (l : List Pt) : List UInt8 := l.flatMap (·.l)
theorem pts_length (l : List Pt) : (pts l).length = l.length := by simp [pts]
theorem pts_one (l : List Pt) : ∀ v ∈ pts l, v.oneCell' = true := by
  intro v hv; simp only [pts, List.mem_map] at hv; obtain ⟨x, _, rfl⟩ := hv; rfl
theorem pts_at (l : List Pt) (k : Nat) (h : k < l.length) : (pts l)[k]? = some (.slice l[k].a l[k].l.length l[k].c) := by simp [pts, h, ptV]
theorem flatB_take (l : List Pt) (k : Nat) (h : k < l.length) : flatB (l.take (k + 1)) = flatB (l.take k) ++ l[k].l := by
  rw [List.take_succ_eq_append_getElem h]; unfold flatB; rw [List.flatMap_append]; simp
theorem flatB_take_le (l : List Pt) (k : Nat) : (flatB (l.take k)).length ≤ (flatB l).length := by
  have e : flatB l = flatB (l.take k) ++ flatB (l.drop k) := by
    have h : l = l.take k ++ l.drop k := (List.take_append_drop k l).symm
    exact (congrArg flatB h).trans (by unfold flatB; rw [List.flatMap_append])
  rw [e, List.length_append]; omega

set_option maxHeartbeats 1000000 in
theorem tagsum_any (kind : Int) (la : Option Addr) (lc : Nat) (ps : List Pt) (w : World) (hr : Rd w la ps.length lc 1 (pts ps)) (hp : ∀ p ∈ ps, Rd w p.a p.l.length p.c 1 (bcs p.l)) (hL : Laid w) (h2 : 2 ≤ w.heap.size) :
    Calls Tryd.prog 18 #[.int .i64 kind, .slice la ps.length lc] w fun e w' => e = .returned (hv (shaH (byteOf kind :: flatB ps))) ∧ Kp [] w w' := by
  have k0 := (Kp.refl [] w).alloc (.cells (hvA zeroH) 24)
  obtain ⟨w0, hw0⟩ : ∃ w0, w0 = w.alloc (.cells (hvA zeroH) 24) := ⟨_, rfl⟩
  have HR := Lib.hid hr
  have HP := Lib.hid hp
  have HL := Lib.hid hL
  rw [← hw0] at k0
  have K0 := Lib.hid k0
  have hmx := hr.le
  have hmx2 := hr.max
  unfold maxLen at hmx2
  have HGR0 := Lib.hid (show w0.heap[w.heap.size]? = some (.cells (hvA zeroH) 24 (0, 0)) by rw [hw0]; exact heap_alloc_new w _)
  have hs0 : w0.heap.size = w.heap.size + 1 := by rw [hw0]; simp
  have HS0 := Lib.hid hs0
  have HW0 := Lib.hid hw0
  clear hr hp hL k0 hs0 hw0
  go_enter Tryd.func18, Tryd.ntmps18
  go_wp2_with fail
  rw [zeroH_lit, show w.alloc (.cells (hvA zeroH) 24) = w0 from HW0.out.symm]
  refine (new_any w0 (HL.out.below K0.out)).mono ?_
  rintro e w1 ⟨rfl, h1, k1, s1⟩
  obtain ⟨q, hq⟩ : ∃ q, q = w0.heap.size := ⟨_, rfl⟩
  rw [← hq] at h1 s1
  have HQ := Lib.hid hq
  have H1 := Lib.hid h1
  have K1 := Lib.hid k1
  clear h1 k1 s1
  rw [← hq]
  clear hq
  go_wp2_with fail
  have hb1 : bcs [byteOf kind] = [.int .u8 (kind % 256)] := by
    rw [show bcs [byteOf kind] = [bcell (byteOf kind)] from rfl, bcell_byteOf]; simp [IntKind.wrap, IntKind.bits, IntKind.signed]
  have hrd1 : Rd (w1.alloc (.cells #[.int .u8 (kind % 256)] 5)) (some ⟨w1.heap.size, 0, none⟩) [byteOf kind].length 1 1 (bcs [byteOf kind]) := by
    rw [hb1]; exact rd_alloc (m := 1) rfl (by simp [maxLen])
  have ka := (Kp.refl [] w1).alloc (.cells #[.int .u8 (kind % 256)] 5)
  have hq1 : q < w1.heap.size := H1.out.flt q (by simp)
  refine (write_any q [] [q] (some ⟨w1.heap.size, 0, none⟩) 1 [byteOf kind] _ (H1.out.kept ka (by simp)) hrd1 (fun _ x hx hh => by simp [aF] at hx hh; omega) (((HL.out.below K0.out).below K1.out).below ka) (by rw [HQ.out, HS0.out] at *; simp; omega)).mono ?_
  rintro e w2 ⟨rfl, F2, h2', k2⟩
  have hkk : Kp [] w0 w2 := ((K1.out.trans ka (by simp)).trans k2.kp (fun x hx hlt => by simp at hx; rw [hx, HQ.out] at hlt; omega))
  have hF2 : ∀ x ∈ F2, w0.heap.size ≤ x := fun x hx => by
    rcases k2.gr x hx with h | h
    · simp at h; rw [h, HQ.out]; exact Nat.le_refl _
    · have := K1.out.size; have := ka.size; omega
  have H2 := Lib.hid h2'
  have K2 := Lib.hid hkk
  have HF2 := Lib.hid hF2
  clear h2' k2 hkk hF2 hb1 hrd1 ka hq1
  go_wp2
  go_loopw [7, 16] (fun _ i wr => ∃ (k : Nat) (F' : List Nat), k ≤ ps.length ∧ i = .int .i64 k ∧ DigAt wr q (byteOf kind :: flatB (ps.take k)) F' ∧ (∀ x ∈ F', w0.heap.size ≤ x) ∧ Kp [] w0 wr) (fun _ i _ => ps.length - (intOf i).toNat)
  case atStart => exact ⟨0, F2, by omega, rfl, H2.out, HF2.out, K2.out⟩
  case round =>
    obtain ⟨k, F', hk, rfl, hd, hF, hkp⟩ := hrel
    have HD := Lib.hid hd
    have HF := Lib.hid hF
    have HKP := Lib.hid hkp
    have hfl := flatB_take_le ps k
    by_cases hlt : k < ps.length
    · obtain ⟨b, off, rfl, _, hc⟩ := ((HR.out.below K0.out).below hkp).spot (by rw [pts_length]; omega)
      have hck := hc k _ (pts_at ps k hlt)
      have hft := flatB_take ps k hlt
      have hfl2 := flatB_take_le ps (k + 1)
      obtain ⟨y, hy⟩ : ∃ y, y = ps[k] := ⟨_, rfl⟩
      rw [← hy] at hck hft
      have hyr := HP.out y (by rw [hy]; exact List.getElem_mem hlt)
      rw [hft, List.length_append] at hfl2
      have HYR := Lib.hid hyr
      have HFT := Lib.hid hft
      have HFL := Lib.hid hfl2
      have HFL1 := Lib.hid hfl
      clear hd hF hkp hc hy hyr hft hfl2 hfl
      go_wp2_with fail
      refine (write_any q _ F' y.a y.c y.l _ HD.out ((HYR.out.below K0.out).below HKP.out) (fun h0 x hx hh => by have := HYR.out.lt (by rw [bcs_length]; exact h0) x hx; have := HF.out x hh; have := HS0.out; omega) ((HL.out.below K0.out).below HKP.out) (fun x hx => by have := HF.out x hx; have := HS0.out; omega)).mono ?_
      rintro e w3 ⟨rfl, F3, h3, k3⟩
      have H3 := Lib.hid h3
      have K3 := Lib.hid k3
      clear h3 k3
      go_wp2
      go_roundw
      case rel => exact ⟨k + 1, F3, by omega, by go_num, by rw [HFT.out, ← List.cons_append]; exact H3.out, K3.out.all HF.out HKP.out.size, HKP.out.trans K3.out.kp (fun x hx hlt => by have := HF.out x hx; omega)⟩
      case measure => simp [intOf]; omega
    · obtain rfl : k = ps.length := by omega
      rw [List.take_length] at HD
      clear hd hF hkp hfl
      go_wp2_with fail
      refine (dsum_any q _ F' _ HD.out ((HL.out.below K0.out).below HKP.out) (Nat.le_trans h2 (Nat.le_trans K0.out.size HKP.out.size))).mono ?_
      rintro e w3 ⟨rfl, k3⟩
      have HGR := Lib.hid (((HKP.out.trans k3 (by simp)).block w.heap.size (by rw [HS0.out]; omega) (by simp)).trans HGR0.out)
      have K3 := Lib.hid ((K0.out.trans HKP.out (by simp)).trans k3 (by simp))
      clear k3
      go_wp2_with (refine wpList_set Tryd.thash rfl rfl HGR.out (hvA_size _) (hvA_size _) (hvA_one _) rfl rfl ?_; intro w9 h9 k9 s9)
      refine ret_block Tryd.thash rfl h9 (hvA_size _) rfl rfl ⟨rfl, ?_⟩
      exact K3.out.trans k9 (fun x hx hlt => by simp at hx; omega)

def leafH (b : List UInt8) : Hsh := shaH (0 :: b)
def nodeH (a b : Hsh) : Hsh := shaH (1 :: (a.1 ++ b.1))


theorem rd_hv {w : World} {g : Nat} {x : Hsh} {t : TypeId} {fr : Nat × Nat} (h : w.heap[g]? = some (.cells (hvA x) t fr)) : Rd w (some ⟨g, 0, none⟩) x.1.length 32 1 (bcs x.1) := by
  rw [x.2]; exact rd_block (m := 32) h (hvA_size x) (by simp [maxLen])

theorem heap_setCells (g : Nat) (t : TypeId) : ∀ (vs : List Value) (o : Nat) (w : World) (cur : Array Value), w.heap[g]? = some (.cells cur t (0, 0)) → o + vs.length ≤ cur.size →
    (w.setCells g o vs).heap[g]? = some (.cells (cur.toList.take o ++ vs ++ cur.toList.drop (o + vs.length)).toArray t (0, 0))
  | [], o, w, cur, h, _ => by rw [World.setCells, h]; simp
  | v :: r, o, w, cur, h, hl => by
    rw [List.length_cons] at hl
    rw [World.setCells, heap_setCells g t r (o + 1) _ _ (heap_setCell_same w g o _ _ v h) (by simp; omega)]
    have hlt : o < cur.toList.length := by simp; omega
    simp only [Array.toList_setIfInBounds, List.length_cons]
    rw [List.take_succ_eq_append_getElem (by simpa using hlt), List.getElem_set_self, List.take_set_of_le (Nat.le_refl _), List.drop_set_of_lt (by omega)]
    rw [show o + 1 + r.length = o + (r.length + 1) by omega]
    simp
theorem kp_setCells (g : Nat) : ∀ (vs : List Value) (o : Nat) (w : World), Kp [g] w (w.setCells g o vs)
  | [], _, w => Kp.refl _ w
  | v :: r, o, w => ((Kp.refl [g] w).setCell (.inl (by simp)) v).trans (kp_setCells g r (o + 1) _) (fun x hx _ => hx)
/-- A hash stored whole. -/
theorem heap_setHash {w : World} {g : Nat} {t : TypeId} {cur : Array Value} (x : Hsh) (h : w.heap[g]? = some (.cells cur t (0, 0))) (hc : cur.size = 32) : (w.setCells g 0 (hcs x)).heap[g]? = some (.cells (hvA x) t (0, 0)) := by
  have := heap_setCells g t (hcs x) 0 w cur h (by rw [hcs_length, hc]; decide)
  rw [this, List.take_zero, List.nil_append, hcs_length, List.drop_eq_nil_of_le (by simp [hc]), List.append_nil]; rfl

theorem there_of {w : World} {g n : Nat} {cs : Array Value} {t : TypeId} (h : w.heap[g]? = some (.cells cs t (0, 0))) (hn : cs.size = n) : w.there g 0 n := fun j hj => by
  rw [Nat.zero_add]
  refine ⟨?_, frozen_of_row w g j _ _ h⟩
  rw [cell_of_row w g j _ _ _ h, Array.getElem?_eq_getElem (by omega)]; rfl
theorem there_kept {w w' : World} {g o n : Nat} {F : List Nat} (h : w.there g o n) (k : Kp F w w') (hg : g ∉ F) : w'.there g o n := fun j hj => by
  obtain ⟨h1, h2⟩ := h j hj
  obtain ⟨u, hu⟩ := Option.isSome_iff_exists.1 h1
  have hlt := World.block_lt_of_cell? _ _ hu
  exact ⟨by rw [k.cell (p := ⟨g, o + j, none⟩) hlt hg]; exact h1, by rw [k.frozen (p := ⟨g, o + j, none⟩) hlt hg]; exact h2⟩

theorem node_sum (x y : Hsh) (g : Nat) (w0 : World) (hL : Laid w0) (h2 : 2 ≤ w0.heap.size) (hs : w0.heap.size = g + 3) (G0 : w0.heap[g]? = some (.cells (hvA x) 24 (0, 0))) (G1 : w0.heap[g + 1]? = some (.cells (hvA y) 24 (0, 0))) :
    Calls Tryd.prog 18 #[.int .i64 1, .slice (some ⟨g + 3, 0, none⟩) 2 2] (w0.alloc (.cells #[.slice (some ⟨g, 0, none⟩) 32 32, .slice (some ⟨g + 1, 0, none⟩) 32 32] 40)) fun e w' => e = .returned (hv (nodeH x y)) ∧ Kp [] w0 w' := by
  have ka := (Kp.refl [] w0).alloc (.cells #[.slice (some ⟨g, 0, none⟩) 32 32, .slice (some ⟨g + 1, 0, none⟩) 32 32] 40)
  obtain ⟨ps, hps⟩ : ∃ ps, ps = [Pt.mk (some ⟨g, 0, none⟩) 32 x.1, Pt.mk (some ⟨g + 1, 0, none⟩) 32 y.1] := ⟨_, rfl⟩
  have hcs : (#[.slice (some ⟨g, 0, none⟩) 32 32, .slice (some ⟨g + 1, 0, none⟩) 32 32] : Array Value).toList = pts ps := by
    rw [hps]; simp [pts, ptV, x.2, y.2]
  have hrd := rd_alloc (w := w0) (m := 2) (size := 1) (cs := #[.slice (some ⟨g, 0, none⟩) 32 32, .slice (some ⟨g + 1, 0, none⟩) 32 32]) (et := 40) rfl (by simp [maxLen])
  rw [hcs, hs] at hrd
  have hfl : flatB ps = x.1 ++ y.1 := by rw [hps]; simp [flatB]
  have hpl : ps.length = 2 := by rw [hps]; rfl
  have h := tagsum_any 1 (some ⟨g + 3, 0, none⟩) 2 ps _ (by rw [hpl]; exact hrd) (fun p hp => by
    rw [hps] at hp
    simp only [List.mem_cons, List.not_mem_nil, or_false] at hp
    rcases hp with rfl | rfl
    · exact (rd_hv G0).below ka
    · exact (rd_hv G1).below ka) (hL.below ka) (Nat.le_trans h2 ka.size)
  rw [hfl, hpl] at h
  exact h.mono fun e w' ⟨h1, h3⟩ => ⟨h1, ka.trans h3 (by simp)⟩

set_option maxRecDepth 100000 in
set_option maxHeartbeats 1000000 in
theorem node_any (x y : Hsh) (w : World) (hL : Laid w) (h2 : 2 ≤ w.heap.size) :
    Calls Tryd.prog 10 #[hv x, hv y] w fun e w' => e = .returned (hv (nodeH x y)) ∧ Kp [] w w' := by
  have hw0 : ∃ w0, w0 = (((w.alloc (.cells (hvA x) 24)).alloc (.cells (hvA y) 24)).alloc (.cells (hvA zeroH) 24)).drew := ⟨_, rfl⟩
  obtain ⟨w0, hw0⟩ := hw0
  have k0 : Kp [] w w0 := by rw [hw0]; exact ((((Kp.refl [] w).alloc _).alloc _).alloc _).drew
  have hs0 : w0.heap.size = w.heap.size + 3 := by rw [hw0]; simp [World.drew]
  have g0 : w0.heap[w.heap.size]? = some (.cells (hvA x) 24 (0, 0)) := by
    rw [hw0]; exact (Below.heap_alloc _ _ _ (by simp; omega)).trans ((Below.heap_alloc _ _ _ (by simp)).trans (heap_alloc_new w _))
  have g1 : w0.heap[w.heap.size + 1]? = some (.cells (hvA y) 24 (0, 0)) := by
    rw [hw0, ← heap_alloc_size w (.cells (hvA x) 24)]; exact (Below.heap_alloc _ _ _ (by simp)).trans (heap_alloc_new _ _)
  have g2 : w0.heap[w.heap.size + 2]? = some (.cells (hvA zeroH) 24 (0, 0)) := by
    have := heap_alloc_new ((w.alloc (.cells (hvA x) 24)).alloc (.cells (hvA y) 24)) (.cells (hvA zeroH) 24)
    rw [heap_alloc_size, heap_alloc_size] at this
    rw [hw0]; exact this
  obtain ⟨r, hr⟩ : ∃ r, r = nodeH x y := ⟨_, rfl⟩
  rw [← hr]
  have HC := Lib.hid (node_sum x y w.heap.size w0 (hL.below k0) (Nat.le_trans h2 k0.size) hs0 g0 g1)
  rw [hw0, ← hr] at HC
  have K0 := Lib.hid k0
  have G2 := Lib.hid g2
  have HS0 := Lib.hid hs0
  have HW0 := Lib.hid hw0
  clear hL k0 hs0 g0 g1 g2 hw0 hr
  go_enter Tryd.func10, Tryd.ntmps10
  go_wp2_with fail
  rw [zeroH_lit]
  obtain ⟨wz, hwz⟩ : ∃ wz, wz = ((w.alloc (.cells (hvA x) 24)).alloc (.cells (hvA y) 24)).alloc (.cells (hvA zeroH) 24) := ⟨_, rfl⟩
  rw [← hwz]
  have hz0 : wz.heap.size = w.heap.size + 1 + 1 + 1 := by rw [hwz]; simp
  have hcall := HC.out
  rw [← hwz] at hcall HW0
  rw [HW0.out] at G2
  have hth0 : wz.drew.there (w.heap.size + 1 + 1) 0 (hcs r).toArray.size := there_of (show wz.drew.heap[w.heap.size + 1 + 1]? = some (.cells (hvA zeroH) 24 (0, 0)) from G2.out) ((hvA_size _).trans (hvA_size r).symm)
  have hsi : (Tryd.prog.info? 24).map (·.size) = some (hcs r).toArray.size := by rw [show (hcs r).toArray.size = 32 from hvA_size r]; exact Tryd.thash.s
  have hone : ∀ u ∈ hcs r, u.oneCell' = true := hcs_one r
  have hcall' : Calls Tryd.prog 18 #[.int .i64 1, .slice (some ⟨w.heap.size + 1 + 1 + 1, 0, none⟩) 2 2] (wz.alloc (.cells #[.slice (some ⟨w.heap.size, 0, none⟩) 32 32, .slice (some ⟨w.heap.size + 1, 0, none⟩) 32 32] 40)).drew fun e w' => e = .returned (.agg (hcs r).toArray) ∧ Kp [] wz.drew w' := hcall
  have hth1 : (wz.alloc (.cells #[.slice (some ⟨w.heap.size, 0, none⟩) 32 32, .slice (some ⟨w.heap.size + 1, 0, none⟩) 32 32] 40)).drew.there (w.heap.size + 1 + 1) 0 (hcs r).toArray.size := there_kept hth0 (show Kp [] wz.drew (wz.alloc (.cells #[.slice (some ⟨w.heap.size, 0, none⟩) 32 32, .slice (some ⟨w.heap.size + 1, 0, none⟩) 32 32] 40)).drew from (Kp.refl [] wz.drew).alloc _) (by simp)
  have HCC := Lib.hid hcall'
  clear hcall hcall' hwz HC
  go_region_held3 (fun w' => w'.there (w.heap.size + 1 + 1) 0 (hcs r).toArray.size) (first | exact hth1 | exact hth0 | exact hth5 | exact World.there_setCells hth5 _ _ _) (first | (go_at_call 18; refine HCC.out.mono ?_; rintro e w5 ⟨rfl, k5⟩; have hth5 := there_kept hth0 k5 (by simp)))
  all_goals
    have hk5 : Kp [] wz.drew w5 := k5
    have hg5 := (hk5.block (w.heap.size + 1 + 1) (by show _ < wz.heap.size; omega) (by simp)).trans G2.out
    have hk6 := kp_setCells (w.heap.size + 1 + 1) (hcs r) 0 w5
    have HG6 := Lib.hid (heap_setHash r hg5 (hvA_size _))
    have HK6 := Lib.hid ((((HW0.out ▸ K0.out : Kp [] w wz.drew)).trans hk5 (by simp)).trans hk6 (fun x hx hlt => by simp at hx; omega))
    clear hk5 hg5 hk6 k5
    go_wp2
    exact ret_block Tryd.thash rfl HG6.out (hvA_size _) rfl rfl ⟨rfl, HK6.out⟩
end Go.Proofs.YtgfppmnpccaloaaDoor