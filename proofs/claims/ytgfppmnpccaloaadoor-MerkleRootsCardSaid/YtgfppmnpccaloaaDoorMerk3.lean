/-
  merkle.Root, any list.
-/
import Derived.Test.YtgfppmnpccaloaaDoorMerk2
namespace Go.Proofs.YtgfppmnpccaloaaDoor
open Go.RowKit

set_option maxRecDepth 100000 in
set_option maxHeartbeats 2000000 in
theorem root_split (l : List Hsh) (h : 2 ≤ l.length) (hb : l.length ≤ 9223372036854775807) (hA : RootC (l.take (sp l.length))) (hB : RootC (l.drop (sp l.length))) : RootC l := by
  intro a c w hr hL h2
  obtain ⟨_, _, hs1, hs2, hs3⟩ := sp_spec l.length h (by omega)
  have HRT := Lib.hid (rootH_split l h (by omega))
  obtain ⟨b, off, rfl, _, _⟩ := hr.spot (by rw [hsc_length]; omega)
  have HSP := Lib.hid (fun W => split_any l.length W h hb)
  obtain ⟨k, hk⟩ : ∃ k, k = sp l.length := ⟨_, rfl⟩
  rw [← hk] at hs1 hs2 hs3 HRT HSP hA hB
  have hcap := hr.le
  have hmax := hr.max
  unfold maxLen at hmax
  have htk := hr.take k c (by omega) (by omega) (Nat.le_refl _)
  rw [hsc_take l k (by omega)] at htk
  have hdr := hr.drop k (by omega)
  rw [hsc_drop l k (by omega), if_neg (by omega), Option.map_some, Addr.add_mid] at hdr
  have hlt : (l.take k).length = k := by rw [List.length_take]; omega
  have hld : (l.drop k).length = l.length - k := by rw [List.length_drop]
  obtain ⟨n, hn⟩ : ∃ n, n = l.length := ⟨_, rfl⟩
  obtain ⟨r1, hr1⟩ : ∃ r, r = rootH (l.take k) := ⟨_, rfl⟩
  obtain ⟨r2, hr2⟩ : ∃ r, r = rootH (l.drop k) := ⟨_, rfl⟩
  obtain ⟨r, hrr⟩ : ∃ r, r = nodeH r1 r2 := ⟨_, rfl⟩
  rw [HRT.out, ← hr1, ← hr2, ← hrr]
  rw [← hn] at hs2 hs3 hcap HSP hdr hld h hb ⊢
  have k0 := (Kp.refl [] w).alloc (.cells (hvA zeroH) 24)
  obtain ⟨wz, hwz⟩ : ∃ wz, wz = w.alloc (.cells (hvA zeroH) 24) := ⟨_, rfl⟩
  rw [← hwz] at k0
  have HA := Lib.hid (show ∀ W, Kp [] wz W → Calls Tryd.prog 4 #[.slice (some ⟨b, off, none⟩) k c] W fun e w' => e = .returned (hv r1) ∧ Kp [] W w' from fun W hW => by
    have kW := k0.trans hW (by simp)
    have := hA (some ⟨b, off, none⟩) c W (by rw [hlt]; exact htk.below kW) (hL.below kW) (Nat.le_trans h2 kW.size)
    rw [hlt, ← hr1] at this
    exact this)
  have HB := Lib.hid (show ∀ W, Kp [] wz W → Calls Tryd.prog 4 #[.slice (some ⟨b, off + k * 32, none⟩) (n - k) (c - k)] W fun e w' => e = .returned (hv r2) ∧ Kp [] W w' from fun W hW => by
    have kW := k0.trans hW (by simp)
    have := hB (some ⟨b, off + k * 32, none⟩) (c - k) W (by rw [hld]; exact hdr.below kW) (hL.below kW) (Nat.le_trans h2 kW.size)
    rw [hld, ← hr2] at this
    exact this)
  have HN := Lib.hid (show ∀ W, Kp [] wz W → Calls Tryd.prog 10 #[hv r1, hv r2] W fun e w' => e = .returned (.agg (hcs r).toArray) ∧ Kp [] W w' from fun W hW => by
    have kW := k0.trans hW (by simp)
    have := node_any r1 r2 W (hL.below kW) (Nat.le_trans h2 kW.size)
    rw [← hrr] at this
    exact this)
  have HGR := Lib.hid (show wz.drew.heap[w.heap.size]? = some (.cells (hvA zeroH) 24 (0, 0)) by rw [hwz]; exact heap_alloc_new w _)
  have hth0 : wz.drew.there w.heap.size 0 (hcs r).toArray.size := there_of HGR.out ((hvA_size _).trans (hvA_size r).symm)
  have hwzs : w.heap.size < wz.heap.size := by rw [hwz]; simp
  have K0 := Lib.hid k0
  have HWZ := Lib.hid hwz
  have HTH := Lib.hid hth0
  have hkn : (k : Int) ≤ (n : Int) := by omega
  have hk0 : (0 : Int) ≤ (k : Int) := by omega
  have hkc : (k : Int) ≤ (c : Int) := by omega
  have hnc : (n : Int) ≤ (c : Int) := by omega
  have hck : ¬ c = k := by omega
  have hne0 : ((n : Int) == 0) = false := by simp; omega
  have hne1 : ((n : Int) == 1) = false := by simp; omega
  clear hA hB hr hL htk hdr hlt hld hn hr1 hr2 hrr k0 hwz hth0 hk hs1 hs2 hs3 HRT
  go_enter Tryd.func4, Tryd.ntmps4
  go_wp2_with fail
  rw [zeroH_lit, ← HWZ.out]
  refine (HSP.out _).mono ?_
  rintro e w' ⟨rfl, rfl⟩
  go_wp2_with fail
  have hth0 := HTH.out
  have hsi : (Tryd.prog.info? 24).map (·.size) = some (hcs r).toArray.size := by rw [show (hcs r).toArray.size = 32 from hvA_size r]; exact Tryd.thash.s
  have hone : ∀ u ∈ hcs r, u.oneCell' = true := hcs_one r
  have tok1 : True := trivial
  go_region_held3 (fun w' => w'.there w.heap.size 0 (hcs r).toArray.size) (first | exact World.there_setCells hth7 _ _ _ | exact hth7 | exact hth6 | exact hth5 | exact hth0) (first
    | (go_at_call 4; have _t := tok1; clear tok1; refine (HA.out _ ((Kp.refl [] wz).drew)).mono ?_; rintro e w5 ⟨rfl, k5⟩; have hk5 : Kp [] wz w5 := ((Kp.refl [] wz).drew).trans k5 (by simp); have hth5 := there_kept hth0 k5 (by simp); have HK5 := Lib.hid hk5; clear k5 hk5)
    | (go_at_call 4; refine (HB.out _ HK5.out).mono ?_; rintro e w6 ⟨rfl, k6⟩; have hk6 : Kp [] wz w6 := HK5.out.trans k6 (by simp); have hth6 := there_kept hth5 k6 (by simp); have HK6 := Lib.hid hk6; clear k6 hk6)
    | (go_at_call 10; refine (HN.out _ HK6.out).mono ?_; rintro e w7 ⟨rfl, k7⟩; have hk7 : Kp [] wz w7 := HK6.out.trans k7 (by simp); have hth7 := there_kept hth6 k7 (by simp); have HK7 := Lib.hid hk7; clear k7 hk7))
  all_goals
    have hg7 := (HK7.out.block w.heap.size hwzs (by simp)).trans HGR.out
    have hk8 := kp_setCells w.heap.size (hcs r) 0 w7
    have HG8 := Lib.hid (heap_setHash r hg7 (hvA_size _))
    have HK8 := Lib.hid ((K0.out.trans HK7.out (by simp)).trans hk8 (fun x hx hlt => by simp at hx; omega))
    clear hg7 hk8
    go_wp2
    exact ret_block Tryd.thash rfl HG8.out (hvA_size _) rfl rfl ⟨rfl, HK8.out⟩

theorem root_all : ∀ (n : Nat) (l : List Hsh), l.length ≤ n → l.length ≤ 9223372036854775807 → RootC l := by
  intro n
  induction n with
  | zero =>
    intro l hl _
    have : l = [] := List.eq_nil_of_length_eq_zero (by omega)
    subst this; exact root_nil
  | succ n ih =>
    intro l hl hb
    match l with
    | [] => exact root_nil
    | [x] => exact root_one x
    | x :: y :: r =>
      have h2 : 2 ≤ (x :: y :: r).length := by simp
      obtain ⟨_, _, hs1, hs2, hs3⟩ := sp_spec (x :: y :: r).length h2 (by omega)
      exact root_split _ h2 hb (ih _ (by rw [List.length_take]; omega) (by rw [List.length_take]; omega)) (ih _ (by rw [List.length_drop]; omega) (by rw [List.length_drop]; omega))

theorem root_any (l : List Hsh) (a : Option Addr) (c : Nat) (w : World) (hr : Rd w a l.length c 32 (hsc l)) (hL : Laid w) (h2 : 2 ≤ w.heap.size) :
    Calls Tryd.prog 4 #[.slice a l.length c] w fun e w' => e = .returned (hv (rootH l)) ∧ Kp [] w w' :=
  root_all l.length l (Nat.le_refl _) (by have := hr.le; have := hr.max; unfold maxLen at this; omega) a c w hr hL h2
end Go.Proofs.YtgfppmnpccaloaaDoor
