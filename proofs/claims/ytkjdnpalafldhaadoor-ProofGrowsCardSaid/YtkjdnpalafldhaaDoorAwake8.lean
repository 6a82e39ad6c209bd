/-
  law08's fixed answer. (Printed by gen_awake8.py.)
-/
import Derived.Test.YtkjdnpalafldhaaDoorRegK
import Derived.Test.YtkjdnpalafldhaaDoorLead13
import Derived.Test.YtkjdnpalafldhaaDoorPrf8
namespace Go.Proofs.YtkjdnpalafldhaaDoor
open Go.RowKit

theorem rd_one {w : World} {g : Nat} {x : Hsh} {t : TypeId} {fr : Nat × Nat} (h : w.heap[g]? = some (.cells (hvA x) t fr)) : Rd w (some ⟨g, 0, none⟩) 1 1 32 (hsc [x]) := by
  have := rd_block (m := 1) (size := 32) h (by rw [hvA_size]) (by simp [maxLen])
  simpa [hsc, hvA] using this
set_option maxRecDepth 100000 in
set_option maxHeartbeats 4000000 in
theorem awake8_any (w : World) (hL : Laid w) (h2 : 2 ≤ w.heap.size) : Calls Tryd.prog 28 #[] w fun e w' => e = .returned (.bool true) ∧ Kp [] w w' := by
  obtain ⟨i0, T⟩ := Tryd.thashes
  have HTS := Lib.hid T
  have hne := lead_13
  obtain ⟨n, hn⟩ : ∃ n, n = nodeH (h1 1) (h1 2) := ⟨_, rfl⟩
  obtain ⟨r, hr⟩ : ∃ r, r = nodeH n (h1 3) := ⟨_, rfl⟩
  have HS := Lib.hid (St.start [] w)
  have HN := Lib.hid (fun W (k : Kp [] w W) => node_any (h1 1) (h1 2) W (hL.below k) (Nat.le_trans h2 k.size))
  have HN2 := Lib.hid (fun W (k : Kp [] w W) => node_any n (h1 3) W (hL.below k) (Nat.le_trans h2 k.size))
  rw [← hn] at HN hne
  rw [← hr] at HN2 hne
  have e1 : leadF 2 2 (h1 3) [n] = some r := by
    rw [leadF, if_neg (by decide), if_neg (by decide), if_pos rfl, show odd 2 / 2 = 0 from rfl, leadF, if_pos rfl, hr]
  have e2 : leadF 2 2 (h1 3) [h1 1] = some (nodeH (h1 1) (h1 3)) := by
    rw [leadF, if_neg (by decide), if_neg (by decide), if_pos rfl, show odd 2 / 2 = 0 from rfl, leadF, if_pos rfl]
  have e3 : inV r (leadF 2 2 (h1 3) [h1 1]) = 22 := by rw [e2]; exact if_neg hne
  have HLD := Lib.hid (fun W (k : Kp [] w W) (g : Nat) (hrd : Rd W (some ⟨g, 0, none⟩) 1 1 32 (hsc [n])) => lead_good (h1 3) 2 3 [n] (some ⟨g, 0, none⟩) 1 W hrd (by decide) (by decide) (hL.below k) (Nat.le_trans h2 k.size))
  have HIN := Lib.hid (fun W (k : Kp [] w W) (g : Nat) (hrd : Rd W (some ⟨g, 0, none⟩) 1 1 32 (hsc [h1 1])) => in_good (h1 3) r 2 3 [h1 1] (some ⟨g, 0, none⟩) 1 W hrd (by decide) (by decide) (hL.below k) (Nat.le_trans h2 k.size))
  rw [show (3 : Nat) - 1 = 2 from rfl, e1] at HLD
  rw [show (3 : Nat) - 1 = 2 from rfl, e3] at HIN
  have HLEN := Lib.hid (fun W => length_good 0 5 W (by decide) (by decide))
  rw [show (sideL 0 (5 - 1)).length = 3 by decide] at HLEN
  have hgt : Tryd.prog.eqGuardType Tryd.prog.depth 38 = false := Tryd.eqGuardType38
  have heq : ∀ w, (Op.equalIn 10000 38 (.agg (hvA r)) (.agg (hvA r))).run Tryd.prog w = .ok true w := fun w => by have := Tryd.equalHash w r r; simpa using this
  have tokN0 : True := trivial
  have tokN1 : True := trivial
  have tokN2 : True := trivial
  clear T hn hr hne e1 e2 e3 hL
  go_enter Tryd.func28, Tryd.ntmps28
  go_wp2_with (first
    | (have _t := tokN0; refine newS HS.out Tryd.zhash rfl rfl (c := hvA zeroH) rfl ?_; clear tokN0; intro g1 w1 hs; clear HS; have HS := Lib.hid hs; clear hs)
    | (have _t := tokN1; refine newS HS.out Tryd.zhash rfl rfl (c := hvA zeroH) rfl ?_; clear tokN1; intro g2 w1 hs; clear HS; have HS := Lib.hid hs; clear hs)
    | (have _t := tokN2; refine newS HS.out Tryd.zhash rfl rfl (c := hvA zeroH) rfl ?_; clear tokN2; intro g3 w1 hs; clear HS; have HS := Lib.hid hs; clear hs)
    | (refine isStore rfl ?_; first | (refine setS2 HS.out Tryd.aghash rfl rfl rfl (hvA_size _) (c := hvA (h1 1)) rfl (hvA_size _) (hvA_one _) ?_; intro w1 hs; clear HS; have HS := Lib.hid hs; clear hs) | (refine setS1 HS.out Tryd.aghash rfl rfl rfl (hvA_size _) (c := hvA (h1 2)) rfl (hvA_size _) (hvA_one _) ?_; intro w1 hs; clear HS; have HS := Lib.hid hs; clear hs) | (refine setS0 HS.out Tryd.aghash rfl rfl rfl (hvA_size _) (c := hvA (h1 3)) rfl (hvA_size _) (hvA_one _) ?_; intro w1 hs; clear HS; have HS := Lib.hid hs; clear hs)))
  have HF0 := HS.out.drew
  clear HS
  refine regionK 10 (fun W => St [] w [⟨g3, hvA (h1 3), 38⟩, ⟨g2, hvA (h1 2), 38⟩, ⟨g1, hvA (h1 1), 38⟩] [] W) (by kernel_rfl) HF0 (fun hHeld => ?_)
  have HF := HF0
  clear HF0
  refine takeK (i := 0) (dst := (some 10)) rfl rfl (by kernel_rfl) (by kernel_rfl) (by kernel_rfl) (by kernel_rfl) (by kernel_rfl) (fun _ _ _ h => h) hHeld (yields_get Tryd.aghash (by rfl) rfl rfl (hcs_length _) (fun w h => h.rangeH (g := g3) (x := h1 3) (t := 38) (by simp))) ?_
  try simp only [Act.put, List.setIfInBounds_toArray, List.set_cons_zero, List.set_cons_succ, hcsA]
  refine takeK (i := 1) (dst := (some 11)) rfl rfl (by kernel_rfl) (by kernel_rfl) (by kernel_rfl) (by kernel_rfl) (by kernel_rfl) (fun _ _ _ h => h) hHeld (yields_get Tryd.aghash (by rfl) rfl rfl (hcs_length _) (fun w h => h.rangeH (g := g1) (x := h1 1) (t := 38) (by simp))) ?_
  try simp only [Act.put, List.setIfInBounds_toArray, List.set_cons_zero, List.set_cons_succ, hcsA]
  refine takeK (i := 2) (dst := (some 12)) rfl rfl (by kernel_rfl) (by kernel_rfl) (by kernel_rfl) (by kernel_rfl) (by kernel_rfl) (fun _ _ _ h => h) hHeld (yields_get Tryd.aghash (by rfl) rfl rfl (hcs_length _) (fun w h => h.rangeH (g := g2) (x := h1 2) (t := 38) (by simp))) ?_
  try simp only [Act.put, List.setIfInBounds_toArray, List.set_cons_zero, List.set_cons_succ, hcsA]
  refine goK2 (i := 3) (j := 9) (dst := (some 13)) (dst2 := (some 4)) (by kernel_rfl) rfl rfl rfl rfl (by rfl) (by rfl) (fun o hop hdst => ?_) (fun o hop hdst => ?_)
  · refine wp_callC Tryd.func34 (by kernel_rfl) (by kernel_rfl) (hop.trans rfl) (by first | rfl | (simp [Act.eval]; done) | (simp [Act.eval]; rfl) | (simp [Act.eval]; exact ⟨rfl, rfl⟩)) (HN.out _ HF.kp) ?_
    rintro e w1 ⟨rfl, k1⟩
    refine ⟨_, rfl, fun _ => hHeld.call k1, ?_⟩
    have hHeld := hHeld.call k1
    have HF := HF.call k1
    clear k1
    simp only [hdst, Act.put, List.setIfInBounds_toArray, List.set_cons_zero, List.set_cons_succ]
    clear hop hdst o
    refine goK2 (i := 4) (j := 9) (dst := (some 14)) (dst2 := (some 4)) (by kernel_rfl) rfl rfl rfl rfl (by rfl) (by rfl) (fun o hop hdst => ?_) (fun o hop hdst => ?_)
    · refine wLitS HF HTS.out (hop.trans rfl) [hv n] rfl (by first | rfl | (simp [Act.eval]; done) | (simp [Act.eval]; rfl)) (hvs_size [n]) (by simp) (c := hvA n) (by rw [flatV_one]; rfl) ?_
      intro gl w1 hs
      refine ⟨fun _ => hs.sub (List.Sublist.cons _ (List.Sublist.refl _)) (List.Sublist.refl _), ?_⟩
      have hHeld := (hs.sub (List.Sublist.cons _ (List.Sublist.refl _)) (List.Sublist.refl _) : St [] w [⟨g3, hvA (h1 3), 38⟩, ⟨g2, hvA (h1 2), 38⟩, ⟨g1, hvA (h1 1), 38⟩] [] w1)
      have HF := hs
      clear hs
      simp only [hdst, Act.put, List.setIfInBounds_toArray, List.set_cons_zero, List.set_cons_succ]
      clear hop hdst o
      refine goK2 (i := 5) (j := 9) (dst := (some 15)) (dst2 := (some 4)) (by kernel_rfl) rfl rfl rfl rfl (by rfl) (by rfl) (fun o hop hdst => ?_) (fun o hop hdst => ?_)
      · refine wp_callC Tryd.func29 (by kernel_rfl) (by kernel_rfl) (hop.trans rfl) (by first | rfl | (simp [Act.eval]; done) | (simp [Act.eval]; rfl) | (simp [Act.eval]; exact ⟨rfl, rfl⟩)) (HLD.out _ HF.kp _ (rd_one (HF.blk ⟨gl, hvA n, 38⟩ (by simp)))) ?_
        rintro e w1 ⟨rfl, k1⟩
        refine ⟨_, rfl, fun _ => hHeld.call k1, ?_⟩
        have hHeld := hHeld.call k1
        have HF := HF.call k1
        clear k1
        simp only [leadV, hcsA]
        simp only [hdst, Act.put, List.setIfInBounds_toArray, List.set_cons_zero, List.set_cons_succ]
        clear hop hdst o
        refine takeP (i := 6) (dst := (some 9)) (v := ?_) rfl rfl (by kernel_rfl) (by kernel_rfl) (by kernel_rfl) (by decide) (fun _ _ _ h => h) (fun _ => hHeld) (Or.inl ⟨by rfl, ?_⟩) ?_
        rotate_left
        · intro w' _
          go_simp
          all_goals (with_reducible rfl)
        try simp only [Act.put, List.setIfInBounds_toArray, List.set_cons_zero, List.set_cons_succ]
        refine takeP (i := 7) (dst := (some 16)) (v := ?_) rfl rfl (by kernel_rfl) (by kernel_rfl) (by kernel_rfl) (by decide) (fun _ _ _ h => h) (fun _ => hHeld) (Or.inl ⟨by rfl, ?_⟩) ?_
        rotate_left
        · intro w' _
          go_simp
          all_goals (with_reducible rfl)
        try simp only [Act.put, List.setIfInBounds_toArray, List.set_cons_zero, List.set_cons_succ]
        refine takeP (i := 8) (dst := (some 17)) (v := ?_) rfl rfl (by kernel_rfl) (by kernel_rfl) (by kernel_rfl) (by decide) (fun _ _ _ h => h) (fun _ => hHeld) (Or.inl ⟨by rfl, ?_⟩) ?_
        rotate_left
        · intro w' _
          go_simp
          all_goals (with_reducible rfl)
        try simp only [Act.put, List.setIfInBounds_toArray, List.set_cons_zero, List.set_cons_succ]
        refine goK (i := 9) (dst := (some 4)) (by kernel_rfl) rfl rfl (by rfl) (fun o hop hdst => ?_)
        refine wNewS HF Tryd.zhash (hop.trans rfl) (c := hvA zeroH) rfl ?_
        intro g4 w1 hs
        refine ⟨fun _ => hs.sub (List.Sublist.cons _ (List.Sublist.cons _ (List.Sublist.refl _))) (List.Sublist.refl _), ?_⟩
        have hHeld := (hs.sub (List.Sublist.cons _ (List.Sublist.cons _ (List.Sublist.refl _))) (List.Sublist.refl _) : St [] w [⟨g3, hvA (h1 3), 38⟩, ⟨g2, hvA (h1 2), 38⟩, ⟨g1, hvA (h1 1), 38⟩] [] w1)
        have HF := hs
        clear hs
        simp only [hdst, Act.put, List.setIfInBounds_toArray, List.set_cons_zero, List.set_cons_succ]
        clear hop hdst o
        refine goK (i := 10) (dst := none) (by kernel_rfl) rfl rfl (by rfl) (fun o hop hdst => ?_)
        refine wSetS0 HF Tryd.aghash (hop.trans rfl) rfl (by first | exact hvA_size _ | rfl) rfl (by first | exact hvA_size _ | rfl) (hvA_one _) ?_
        intro w1 hs
        refine ⟨fun h => absurd h (by decide), ?_⟩
        clear HF
        have HF := hs
        clear hs
        simp only [hdst, Act.put]
        clear hop hdst o
        refine takeP (i := 11) (dst := (some 5)) (v := ?_) rfl rfl (by kernel_rfl) (by kernel_rfl) (by kernel_rfl) (by decide) (fun _ _ _ h => h) (fun h => absurd h (by decide)) (Or.inl ⟨by rfl, ?_⟩) ?_
        rotate_left
        · intro w' _
          go_simp
          all_goals (with_reducible rfl)
        try simp only [Act.put, List.setIfInBounds_toArray, List.set_cons_zero, List.set_cons_succ]
        refine doneK (by kernel_rfl) ?_ _
        have HS := Lib.hid (HF.sub (List.Sublist.cons_cons _ (List.Sublist.cons _ (List.Sublist.cons_cons _ (List.Sublist.cons_cons _ (List.Sublist.cons_cons _ List.Sublist.slnil))))) (List.Sublist.refl _))
        clear HF hHeld
        go_wp2_with fail
        have HF0 := HS.out.drew
        clear HS
        refine regionK 24 (fun W => St [] w [⟨g4, hvA r, 38⟩, ⟨g3, hvA (h1 3), 38⟩, ⟨g2, hvA (h1 2), 38⟩, ⟨g1, hvA (h1 1), 38⟩] [] W) (by kernel_rfl) HF0 (fun hHeld => ?_)
        have HF := HF0
        clear HF0
        refine takeP (i := 0) (dst := (some 18)) (v := ?_) rfl rfl (by kernel_rfl) (by kernel_rfl) (by kernel_rfl) (by decide) (fun _ _ _ h => h) (fun _ => hHeld) (Or.inl ⟨by rfl, ?_⟩) ?_
        rotate_left
        · intro w' _
          go_simp
          all_goals (with_reducible rfl)
        try simp only [Act.put, List.setIfInBounds_toArray, List.set_cons_zero, List.set_cons_succ]
        refine takeP (i := 1) (dst := (some 19)) (v := ?_) rfl rfl (by kernel_rfl) (by kernel_rfl) (by kernel_rfl) (by decide) (fun _ _ _ h => h) (fun _ => hHeld) (Or.inl ⟨by rfl, ?_⟩) ?_
        rotate_left
        · intro w' _
          go_simp
          all_goals (with_reducible rfl)
        try simp only [Act.put, List.setIfInBounds_toArray, List.set_cons_zero, List.set_cons_succ]
        refine takeP (i := 2) (dst := (some 20)) (v := ?_) rfl rfl (by kernel_rfl) (by kernel_rfl) (by kernel_rfl) (by decide) (fun _ _ _ h => h) (fun _ => hHeld) (Or.inl ⟨by rfl, ?_⟩) ?_
        rotate_left
        · intro w' _
          go_simp
          all_goals (with_reducible rfl)
        try simp only [Act.put, List.setIfInBounds_toArray, List.set_cons_zero, List.set_cons_succ]
        refine takeK (i := 3) (dst := (some 21)) rfl rfl (by kernel_rfl) (by kernel_rfl) (by kernel_rfl) (by kernel_rfl) (by kernel_rfl) (fun _ _ _ h => h) hHeld (yields_get Tryd.aghash (by rfl) rfl rfl (hcs_length _) (fun w h => h.rangeH (g := g4) (x := r) (t := 38) (by simp))) ?_
        try simp only [Act.put, List.setIfInBounds_toArray, List.set_cons_zero, List.set_cons_succ, hcsA]
        refine takeK (i := 4) (dst := (some 22)) rfl rfl (by kernel_rfl) (by kernel_rfl) (by kernel_rfl) (by kernel_rfl) (by kernel_rfl) (fun _ _ _ h => h) hHeld (yields_get Tryd.aghash (by rfl) rfl rfl (hcs_length _) (fun w h => h.rangeH (g := g1) (x := h1 1) (t := 38) (by simp))) ?_
        try simp only [Act.put, List.setIfInBounds_toArray, List.set_cons_zero, List.set_cons_succ, hcsA]
        refine takeK (i := 5) (dst := (some 23)) rfl rfl (by kernel_rfl) (by kernel_rfl) (by kernel_rfl) (by kernel_rfl) (by kernel_rfl) (fun _ _ _ h => h) hHeld (yields_get Tryd.aghash (by rfl) rfl rfl (hcs_length _) (fun w h => h.rangeH (g := g2) (x := h1 2) (t := 38) (by simp))) ?_
        try simp only [Act.put, List.setIfInBounds_toArray, List.set_cons_zero, List.set_cons_succ, hcsA]
        refine takeK (i := 7) (dst := (some 25)) rfl rfl (by kernel_rfl) (by kernel_rfl) (by kernel_rfl) (by kernel_rfl) (by kernel_rfl) (fun _ _ _ h => h) hHeld (yields_get Tryd.aghash (by rfl) rfl rfl (hcs_length _) (fun w h => h.rangeH (g := g3) (x := h1 3) (t := 38) (by simp))) ?_
        try simp only [Act.put, List.setIfInBounds_toArray, List.set_cons_zero, List.set_cons_succ, hcsA]
        refine goK (i := 6) (dst := (some 24)) (by kernel_rfl) rfl rfl (by rfl) (fun o hop hdst => ?_)
        refine wp_callC Tryd.func34 (by kernel_rfl) (by kernel_rfl) (hop.trans rfl) (by first | rfl | (simp [Act.eval]; done) | (simp [Act.eval]; rfl) | (simp [Act.eval]; exact ⟨rfl, rfl⟩)) (HN.out _ HF.kp) ?_
        rintro e w1 ⟨rfl, k1⟩
        refine ⟨_, rfl, fun _ => hHeld.call k1, ?_⟩
        have hHeld := hHeld.call k1
        have HF := HF.call k1
        clear k1
        simp only [hdst, Act.put, List.setIfInBounds_toArray, List.set_cons_zero, List.set_cons_succ]
        clear hop hdst o
        refine goK (i := 8) (dst := (some 26)) (by kernel_rfl) rfl rfl (by rfl) (fun o hop hdst => ?_)
        refine wp_callC Tryd.func34 (by kernel_rfl) (by kernel_rfl) (hop.trans rfl) (by first | rfl | (simp [Act.eval]; done) | (simp [Act.eval]; rfl) | (simp [Act.eval]; exact ⟨rfl, rfl⟩)) (HN2.out _ HF.kp) ?_
        rintro e w1 ⟨rfl, k1⟩
        refine ⟨_, rfl, fun _ => hHeld.call k1, ?_⟩
        have hHeld := hHeld.call k1
        have HF := HF.call k1
        clear k1
        simp only [hdst, Act.put, List.setIfInBounds_toArray, List.set_cons_zero, List.set_cons_succ]
        clear hop hdst o
        refine takeP (i := 9) (dst := (some 27)) (v := ?_) rfl rfl (by kernel_rfl) (by kernel_rfl) (by kernel_rfl) (by decide) (fun _ _ _ h => h) (fun _ => hHeld) (Or.inl ⟨by rfl, ?_⟩) ?_
        rotate_left
        · intro w' _
          go_simp
          all_goals (with_reducible rfl)
        try simp only [Act.put, List.setIfInBounds_toArray, List.set_cons_zero, List.set_cons_succ]
        refine takeP (i := 10) (dst := (some 28)) (v := ?_) rfl rfl (by kernel_rfl) (by kernel_rfl) (by kernel_rfl) (by decide) (fun _ _ _ h => h) (fun _ => hHeld) (Or.inl ⟨by rfl, ?_⟩) ?_
        rotate_left
        · intro w' _
          go_simp
          all_goals (with_reducible rfl)
        try simp only [Act.put, List.setIfInBounds_toArray, List.set_cons_zero, List.set_cons_succ]
        refine takeP (i := 11) (dst := (some 29)) (v := ?_) rfl rfl (by kernel_rfl) (by kernel_rfl) (by kernel_rfl) (by decide) (fun _ _ _ h => h) (fun _ => hHeld) (Or.inl ⟨by rfl, ?_⟩) ?_
        rotate_left
        · intro w' _
          go_simp
          all_goals (with_reducible rfl)
        try simp only [Act.put, List.setIfInBounds_toArray, List.set_cons_zero, List.set_cons_succ]
        refine takeK (i := 12) (dst := (some 30)) rfl rfl (by kernel_rfl) (by kernel_rfl) (by kernel_rfl) (by kernel_rfl) (by kernel_rfl) (fun _ _ _ h => h) hHeld (yields_get Tryd.aghash (by rfl) rfl rfl (hcs_length _) (fun w h => h.rangeH (g := g3) (x := h1 3) (t := 38) (by simp))) ?_
        try simp only [Act.put, List.setIfInBounds_toArray, List.set_cons_zero, List.set_cons_succ, hcsA]
        refine takeK (i := 13) (dst := (some 31)) rfl rfl (by kernel_rfl) (by kernel_rfl) (by kernel_rfl) (by kernel_rfl) (by kernel_rfl) (fun _ _ _ h => h) hHeld (yields_get Tryd.aghash (by rfl) rfl rfl (hcs_length _) (fun w h => h.rangeH (g := g1) (x := h1 1) (t := 38) (by simp))) ?_
        try simp only [Act.put, List.setIfInBounds_toArray, List.set_cons_zero, List.set_cons_succ, hcsA]
        refine takeK (i := 15) (dst := (some 33)) rfl rfl (by kernel_rfl) (by kernel_rfl) (by kernel_rfl) (by kernel_rfl) (by kernel_rfl) (fun _ _ _ h => h) hHeld (yields_get Tryd.aghash (by rfl) rfl rfl (hcs_length _) (fun w h => h.rangeH (g := g4) (x := r) (t := 38) (by simp))) ?_
        try simp only [Act.put, List.setIfInBounds_toArray, List.set_cons_zero, List.set_cons_succ, hcsA]
        refine goK (i := 14) (dst := (some 32)) (by kernel_rfl) rfl rfl (by rfl) (fun o hop hdst => ?_)
        refine wLitS HF HTS.out (hop.trans rfl) [hv (h1 1)] rfl (by first | rfl | (simp [Act.eval]; done) | (simp [Act.eval]; rfl)) (hvs_size [h1 1]) (by simp) (c := hvA (h1 1)) (by rw [flatV_one]; rfl) ?_
        intro gm w1 hs
        refine ⟨fun _ => hs.sub (List.Sublist.cons _ (List.Sublist.refl _)) (List.Sublist.refl _), ?_⟩
        have hHeld := (hs.sub (List.Sublist.cons _ (List.Sublist.refl _)) (List.Sublist.refl _) : St [] w [⟨g4, hvA r, 38⟩, ⟨g3, hvA (h1 3), 38⟩, ⟨g2, hvA (h1 2), 38⟩, ⟨g1, hvA (h1 1), 38⟩] [] w1)
        have HF := hs
        clear hs
        simp only [hdst, Act.put, List.setIfInBounds_toArray, List.set_cons_zero, List.set_cons_succ]
        clear hop hdst o
        refine goK (i := 16) (dst := (some 34)) (by kernel_rfl) rfl rfl (by rfl) (fun o hop hdst => ?_)
        refine wp_callC Tryd.func31 (by kernel_rfl) (by kernel_rfl) (hop.trans rfl) (by first | rfl | (simp [Act.eval]; done) | (simp [Act.eval]; rfl) | (simp [Act.eval]; exact ⟨rfl, rfl⟩)) (HIN.out _ HF.kp _ (rd_one (HF.blk ⟨gm, hvA (h1 1), 38⟩ (by simp)))) ?_
        rintro e w1 ⟨rfl, k1⟩
        refine ⟨_, rfl, fun _ => hHeld.call k1, ?_⟩
        have hHeld := hHeld.call k1
        have HF := HF.call k1
        clear k1
        simp only [hdst, Act.put, List.setIfInBounds_toArray, List.set_cons_zero, List.set_cons_succ]
        clear hop hdst o
        refine takeP (i := 17) (dst := (some 35)) (v := ?_) rfl rfl (by kernel_rfl) (by kernel_rfl) (by kernel_rfl) (by decide) (fun _ _ _ h => h) (fun _ => hHeld) (Or.inl ⟨by rfl, ?_⟩) ?_
        rotate_left
        · intro w' _
          go_simp
          all_goals (with_reducible rfl)
        try simp only [Act.put, List.setIfInBounds_toArray, List.set_cons_zero, List.set_cons_succ]
        refine takeP (i := 18) (dst := (some 36)) (v := ?_) rfl rfl (by kernel_rfl) (by kernel_rfl) (by kernel_rfl) (by decide) (fun _ _ _ h => h) (fun _ => hHeld) (Or.inl ⟨by rfl, ?_⟩) ?_
        rotate_left
        · intro w' _
          go_simp
          all_goals (with_reducible rfl)
        try simp only [Act.put, List.setIfInBounds_toArray, List.set_cons_zero, List.set_cons_succ]
        refine takeP (i := 19) (dst := (some 37)) (v := ?_) rfl rfl (by kernel_rfl) (by kernel_rfl) (by kernel_rfl) (by decide) (fun _ _ _ h => h) (fun _ => hHeld) (Or.inl ⟨by rfl, ?_⟩) ?_
        rotate_left
        · intro w' _
          go_simp
          all_goals (with_reducible rfl)
        try simp only [Act.put, List.setIfInBounds_toArray, List.set_cons_zero, List.set_cons_succ]
        refine goK (i := 20) (dst := (some 38)) (by kernel_rfl) rfl rfl (by rfl) (fun o hop hdst => ?_)
        refine wp_callC Tryd.func30 (by kernel_rfl) (by kernel_rfl) (hop.trans rfl) (by first | rfl | (simp [Act.eval]; done) | (simp [Act.eval]; rfl) | (simp [Act.eval]; exact ⟨rfl, rfl⟩)) (HLEN.out _) ?_
        rintro e w1 ⟨rfl, rfl⟩
        refine ⟨_, rfl, fun _ => hHeld, ?_⟩
        have hHeld := hHeld
        have HF := HF
        simp only [hdst, Act.put, List.setIfInBounds_toArray, List.set_cons_zero, List.set_cons_succ]
        clear hop hdst o
        refine takeP (i := 21) (dst := (some 39)) (v := ?_) rfl rfl (by kernel_rfl) (by kernel_rfl) (by kernel_rfl) (by decide) (fun _ _ _ h => h) (fun _ => hHeld) (Or.inl ⟨by rfl, ?_⟩) ?_
        rotate_left
        · intro w' _
          go_simp
          all_goals (with_reducible rfl)
        try simp only [Act.put, List.setIfInBounds_toArray, List.set_cons_zero, List.set_cons_succ]
        refine takeP (i := 22) (dst := (some 40)) (v := ?_) rfl rfl (by kernel_rfl) (by kernel_rfl) (by kernel_rfl) (by decide) (fun _ _ _ h => h) (fun _ => hHeld) (Or.inl ⟨by rfl, ?_⟩) ?_
        rotate_left
        · intro w' _
          go_simp
          all_goals (with_reducible rfl)
        try simp only [Act.put, List.setIfInBounds_toArray, List.set_cons_zero, List.set_cons_succ]
        refine takeP (i := 23) (dst := (some 0)) (v := ?_) rfl rfl (by kernel_rfl) (by kernel_rfl) (by kernel_rfl) (by decide) (fun _ _ _ h => h) (fun _ => hHeld) (Or.inl ⟨by rfl, ?_⟩) ?_
        rotate_left
        · intro w' _
          go_simp
          all_goals (with_reducible rfl)
        try simp only [Act.put, List.setIfInBounds_toArray, List.set_cons_zero]
        refine doneK (by kernel_rfl) ?_ _
        have HS := Lib.hid HF
        clear HF hHeld
        go_wp2
        go_ret
        exact ⟨rfl, HS.out.kp⟩
      · refine wNewS HF Tryd.zhash (hop.trans rfl) (c := hvA zeroH) rfl ?_
        intro g4 w1 hs
        refine ⟨fun _ => hs.sub (List.Sublist.cons _ (List.Sublist.cons _ (List.Sublist.refl _))) (List.Sublist.refl _), ?_⟩
        have hHeld := (hs.sub (List.Sublist.cons _ (List.Sublist.cons _ (List.Sublist.refl _))) (List.Sublist.refl _) : St [] w [⟨g3, hvA (h1 3), 38⟩, ⟨g2, hvA (h1 2), 38⟩, ⟨g1, hvA (h1 1), 38⟩] [] w1)
        have HF := hs
        clear hs
        simp only [hdst, Act.put, List.setIfInBounds_toArray, List.set_cons_zero, List.set_cons_succ]
        clear hop hdst o
        refine goK (i := 5) (dst := (some 15)) (by kernel_rfl) rfl rfl (by rfl) (fun o hop hdst => ?_)
        refine wp_callC Tryd.func29 (by kernel_rfl) (by kernel_rfl) (hop.trans rfl) (by first | rfl | (simp [Act.eval]; done) | (simp [Act.eval]; rfl) | (simp [Act.eval]; exact ⟨rfl, rfl⟩)) (HLD.out _ HF.kp _ (rd_one (HF.blk ⟨gl, hvA n, 38⟩ (by simp)))) ?_
        rintro e w1 ⟨rfl, k1⟩
        refine ⟨_, rfl, fun _ => hHeld.call k1, ?_⟩
        have hHeld := hHeld.call k1
        have HF := HF.call k1
        clear k1
        simp only [leadV, hcsA]
        simp only [hdst, Act.put, List.setIfInBounds_toArray, List.set_cons_zero, List.set_cons_succ]
        clear hop hdst o
        refine takeP (i := 6) (dst := (some 9)) (v := ?_) rfl rfl (by kernel_rfl) (by kernel_rfl) (by kernel_rfl) (by decide) (fun _ _ _ h => h) (fun _ => hHeld) (Or.inl ⟨by rfl, ?_⟩) ?_
        rotate_left
        · intro w' _
          go_simp
          all_goals (with_reducible rfl)
        try simp only [Act.put, List.setIfInBounds_toArray, List.set_cons_zero, List.set_cons_succ]
        refine takeP (i := 7) (dst := (some 16)) (v := ?_) rfl rfl (by kernel_rfl) (by kernel_rfl) (by kernel_rfl) (by decide) (fun _ _ _ h => h) (fun _ => hHeld) (Or.inl ⟨by rfl, ?_⟩) ?_
        rotate_left
        · intro w' _
          go_simp
          all_goals (with_reducible rfl)
        try simp only [Act.put, List.setIfInBounds_toArray, List.set_cons_zero, List.set_cons_succ]
        refine takeP (i := 8) (dst := (some 17)) (v := ?_) rfl rfl (by kernel_rfl) (by kernel_rfl) (by kernel_rfl) (by decide) (fun _ _ _ h => h) (fun _ => hHeld) (Or.inl ⟨by rfl, ?_⟩) ?_
        rotate_left
        · intro w' _
          go_simp
          all_goals (with_reducible rfl)
        try simp only [Act.put, List.setIfInBounds_toArray, List.set_cons_zero, List.set_cons_succ]
        refine goK (i := 10) (dst := none) (by kernel_rfl) rfl rfl (by rfl) (fun o hop hdst => ?_)
        refine wSetS0 HF Tryd.aghash (hop.trans rfl) rfl (by first | exact hvA_size _ | rfl) rfl (by first | exact hvA_size _ | rfl) (hvA_one _) ?_
        intro w1 hs
        refine ⟨fun h => absurd h (by decide), ?_⟩
        clear HF
        have HF := hs
        clear hs
        simp only [hdst, Act.put]
        clear hop hdst o
        refine takeP (i := 11) (dst := (some 5)) (v := ?_) rfl rfl (by kernel_rfl) (by kernel_rfl) (by kernel_rfl) (by decide) (fun _ _ _ h => h) (fun h => absurd h (by decide)) (Or.inl ⟨by rfl, ?_⟩) ?_
        rotate_left
        · intro w' _
          go_simp
          all_goals (with_reducible rfl)
        try simp only [Act.put, List.setIfInBounds_toArray, List.set_cons_zero, List.set_cons_succ]
        refine doneK (by kernel_rfl) ?_ _
        have HS := Lib.hid (HF.sub (List.Sublist.cons_cons _ (List.Sublist.cons _ (List.Sublist.cons_cons _ (List.Sublist.cons_cons _ (List.Sublist.cons_cons _ List.Sublist.slnil))))) (List.Sublist.refl _))
        clear HF hHeld
        go_wp2_with fail
        have HF0 := HS.out.drew
        clear HS
        refine regionK 24 (fun W => St [] w [⟨g4, hvA r, 38⟩, ⟨g3, hvA (h1 3), 38⟩, ⟨g2, hvA (h1 2), 38⟩, ⟨g1, hvA (h1 1), 38⟩] [] W) (by kernel_rfl) HF0 (fun hHeld => ?_)
        have HF := HF0
        clear HF0
        refine takeP (i := 0) (dst := (some 18)) (v := ?_) rfl rfl (by kernel_rfl) (by kernel_rfl) (by kernel_rfl) (by decide) (fun _ _ _ h => h) (fun _ => hHeld) (Or.inl ⟨by rfl, ?_⟩) ?_
        rotate_left
        · intro w' _
          go_simp
          all_goals (with_reducible rfl)
        try simp only [Act.put, List.setIfInBounds_toArray, List.set_cons_zero, List.set_cons_succ]
        refine takeP (i := 1) (dst := (some 19)) (v := ?_) rfl rfl (by kernel_rfl) (by kernel_rfl) (by kernel_rfl) (by decide) (fun _ _ _ h => h) (fun _ => hHeld) (Or.inl ⟨by rfl, ?_⟩) ?_
        rotate_left
        · intro w' _
          go_simp
          all_goals (with_reducible rfl)
        try simp only [Act.put, List.setIfInBounds_toArray, List.set_cons_zero, List.set_cons_succ]
        refine takeP (i := 2) (dst := (some 20)) (v := ?_) rfl rfl (by kernel_rfl) (by kernel_rfl) (by kernel_rfl) (by decide) (fun _ _ _ h => h) (fun _ => hHeld) (Or.inl ⟨by rfl, ?_⟩) ?_
        rotate_left
        · intro w' _
          go_simp
          all_goals (with_reducible rfl)
        try simp only [Act.put, List.setIfInBounds_toArray, List.set_cons_zero, List.set_cons_succ]
        refine takeK (i := 3) (dst := (some 21)) rfl rfl (by kernel_rfl) (by kernel_rfl) (by kernel_rfl) (by kernel_rfl) (by kernel_rfl) (fun _ _ _ h => h) hHeld (yields_get Tryd.aghash (by rfl) rfl rfl (hcs_length _) (fun w h => h.rangeH (g := g4) (x := r) (t := 38) (by simp))) ?_
        try simp only [Act.put, List.setIfInBounds_toArray, List.set_cons_zero, List.set_cons_succ, hcsA]
        refine takeK (i := 4) (dst := (some 22)) rfl rfl (by kernel_rfl) (by kernel_rfl) (by kernel_rfl) (by kernel_rfl) (by kernel_rfl) (fun _ _ _ h => h) hHeld (yields_get Tryd.aghash (by rfl) rfl rfl (hcs_length _) (fun w h => h.rangeH (g := g1) (x := h1 1) (t := 38) (by simp))) ?_
        try simp only [Act.put, List.setIfInBounds_toArray, List.set_cons_zero, List.set_cons_succ, hcsA]
        refine takeK (i := 5) (dst := (some 23)) rfl rfl (by kernel_rfl) (by kernel_rfl) (by kernel_rfl) (by kernel_rfl) (by kernel_rfl) (fun _ _ _ h => h) hHeld (yields_get Tryd.aghash (by rfl) rfl rfl (hcs_length _) (fun w h => h.rangeH (g := g2) (x := h1 2) (t := 38) (by simp))) ?_
        try simp only [Act.put, List.setIfInBounds_toArray, List.set_cons_zero, List.set_cons_succ, hcsA]
        refine takeK (i := 7) (dst := (some 25)) rfl rfl (by kernel_rfl) (by kernel_rfl) (by kernel_rfl) (by kernel_rfl) (by kernel_rfl) (fun _ _ _ h => h) hHeld (yields_get Tryd.aghash (by rfl) rfl rfl (hcs_length _) (fun w h => h.rangeH (g := g3) (x := h1 3) (t := 38) (by simp))) ?_
        try simp only [Act.put, List.setIfInBounds_toArray, List.set_cons_zero, List.set_cons_succ, hcsA]
        refine goK (i := 6) (dst := (some 24)) (by kernel_rfl) rfl rfl (by rfl) (fun o hop hdst => ?_)
        refine wp_callC Tryd.func34 (by kernel_rfl) (by kernel_rfl) (hop.trans rfl) (by first | rfl | (simp [Act.eval]; done) | (simp [Act.eval]; rfl) | (simp [Act.eval]; exact ⟨rfl, rfl⟩)) (HN.out _ HF.kp) ?_
        rintro e w1 ⟨rfl, k1⟩
        refine ⟨_, rfl, fun _ => hHeld.call k1, ?_⟩
        have hHeld := hHeld.call k1
        have HF := HF.call k1
        clear k1
        simp only [hdst, Act.put, List.setIfInBounds_toArray, List.set_cons_zero, List.set_cons_succ]
        clear hop hdst o
        refine goK (i := 8) (dst := (some 26)) (by kernel_rfl) rfl rfl (by rfl) (fun o hop hdst => ?_)
        refine wp_callC Tryd.func34 (by kernel_rfl) (by kernel_rfl) (hop.trans rfl) (by first | rfl | (simp [Act.eval]; done) | (simp [Act.eval]; rfl) | (simp [Act.eval]; exact ⟨rfl, rfl⟩)) (HN2.out _ HF.kp) ?_
        rintro e w1 ⟨rfl, k1⟩
        refine ⟨_, rfl, fun _ => hHeld.call k1, ?_⟩
        have hHeld := hHeld.call k1
        have HF := HF.call k1
        clear k1
        simp only [hdst, Act.put, List.setIfInBounds_toArray, List.set_cons_zero, List.set_cons_succ]
        clear hop hdst o
        refine takeP (i := 9) (dst := (some 27)) (v := ?_) rfl rfl (by kernel_rfl) (by kernel_rfl) (by kernel_rfl) (by decide) (fun _ _ _ h => h) (fun _ => hHeld) (Or.inl ⟨by rfl, ?_⟩) ?_
        rotate_left
        · intro w' _
          go_simp
          all_goals (with_reducible rfl)
        try simp only [Act.put, List.setIfInBounds_toArray, List.set_cons_zero, List.set_cons_succ]
        refine takeP (i := 10) (dst := (some 28)) (v := ?_) rfl rfl (by kernel_rfl) (by kernel_rfl) (by kernel_rfl) (by decide) (fun _ _ _ h => h) (fun _ => hHeld) (Or.inl ⟨by rfl, ?_⟩) ?_
        rotate_left
        · intro w' _
          go_simp
          all_goals (with_reducible rfl)
        try simp only [Act.put, List.setIfInBounds_toArray, List.set_cons_zero, List.set_cons_succ]
        refine takeP (i := 11) (dst := (some 29)) (v := ?_) rfl rfl (by kernel_rfl) (by kernel_rfl) (by kernel_rfl) (by decide) (fun _ _ _ h => h) (fun _ => hHeld) (Or.inl ⟨by rfl, ?_⟩) ?_
        rotate_left
        · intro w' _
          go_simp
          all_goals (with_reducible rfl)
        try simp only [Act.put, List.setIfInBounds_toArray, List.set_cons_zero, List.set_cons_succ]
        refine takeK (i := 12) (dst := (some 30)) rfl rfl (by kernel_rfl) (by kernel_rfl) (by kernel_rfl) (by kernel_rfl) (by kernel_rfl) (fun _ _ _ h => h) hHeld (yields_get Tryd.aghash (by rfl) rfl rfl (hcs_length _) (fun w h => h.rangeH (g := g3) (x := h1 3) (t := 38) (by simp))) ?_
        try simp only [Act.put, List.setIfInBounds_toArray, List.set_cons_zero, List.set_cons_succ, hcsA]
        refine takeK (i := 13) (dst := (some 31)) rfl rfl (by kernel_rfl) (by kernel_rfl) (by kernel_rfl) (by kernel_rfl) (by kernel_rfl) (fun _ _ _ h => h) hHeld (yields_get Tryd.aghash (by rfl) rfl rfl (hcs_length _) (fun w h => h.rangeH (g := g1) (x := h1 1) (t := 38) (by simp))) ?_
        try simp only [Act.put, List.setIfInBounds_toArray, List.set_cons_zero, List.set_cons_succ, hcsA]
        refine takeK (i := 15) (dst := (some 33)) rfl rfl (by kernel_rfl) (by kernel_rfl) (by kernel_rfl) (by kernel_rfl) (by kernel_rfl) (fun _ _ _ h => h) hHeld (yields_get Tryd.aghash (by rfl) rfl rfl (hcs_length _) (fun w h => h.rangeH (g := g4) (x := r) (t := 38) (by simp))) ?_
        try simp only [Act.put, List.setIfInBounds_toArray, List.set_cons_zero, List.set_cons_succ, hcsA]
        refine goK (i := 14) (dst := (some 32)) (by kernel_rfl) rfl rfl (by rfl) (fun o hop hdst => ?_)
        refine wLitS HF HTS.out (hop.trans rfl) [hv (h1 1)] rfl (by first | rfl | (simp [Act.eval]; done) | (simp [Act.eval]; rfl)) (hvs_size [h1 1]) (by simp) (c := hvA (h1 1)) (by rw [flatV_one]; rfl) ?_
        intro gm w1 hs
        refine ⟨fun _ => hs.sub (List.Sublist.cons _ (List.Sublist.refl _)) (List.Sublist.refl _), ?_⟩
        have hHeld := (hs.sub (List.Sublist.cons _ (List.Sublist.refl _)) (List.Sublist.refl _) : St [] w [⟨g4, hvA r, 38⟩, ⟨g3, hvA (h1 3), 38⟩, ⟨g2, hvA (h1 2), 38⟩, ⟨g1, hvA (h1 1), 38⟩] [] w1)
        have HF := hs
        clear hs
        simp only [hdst, Act.put, List.setIfInBounds_toArray, List.set_cons_zero, List.set_cons_succ]
        clear hop hdst o
        refine goK (i := 16) (dst := (some 34)) (by kernel_rfl) rfl rfl (by rfl) (fun o hop hdst => ?_)
        refine wp_callC Tryd.func31 (by kernel_rfl) (by kernel_rfl) (hop.trans rfl) (by first | rfl | (simp [Act.eval]; done) | (simp [Act.eval]; rfl) | (simp [Act.eval]; exact ⟨rfl, rfl⟩)) (HIN.out _ HF.kp _ (rd_one (HF.blk ⟨gm, hvA (h1 1), 38⟩ (by simp)))) ?_
        rintro e w1 ⟨rfl, k1⟩
        refine ⟨_, rfl, fun _ => hHeld.call k1, ?_⟩
        have hHeld := hHeld.call k1
        have HF := HF.call k1
        clear k1
        simp only [hdst, Act.put, List.setIfInBounds_toArray, List.set_cons_zero, List.set_cons_succ]
        clear hop hdst o
        refine takeP (i := 17) (dst := (some 35)) (v := ?_) rfl rfl (by kernel_rfl) (by kernel_rfl) (by kernel_rfl) (by decide) (fun _ _ _ h => h) (fun _ => hHeld) (Or.inl ⟨by rfl, ?_⟩) ?_
        rotate_left
        · intro w' _
          go_simp
          all_goals (with_reducible rfl)
        try simp only [Act.put, List.setIfInBounds_toArray, List.set_cons_zero, List.set_cons_succ]
        refine takeP (i := 18) (dst := (some 36)) (v := ?_) rfl rfl (by kernel_rfl) (by kernel_rfl) (by kernel_rfl) (by decide) (fun _ _ _ h => h) (fun _ => hHeld) (Or.inl ⟨by rfl, ?_⟩) ?_
        rotate_left
        · intro w' _
          go_simp
          all_goals (with_reducible rfl)
        try simp only [Act.put, List.setIfInBounds_toArray, List.set_cons_zero, List.set_cons_succ]
        refine takeP (i := 19) (dst := (some 37)) (v := ?_) rfl rfl (by kernel_rfl) (by kernel_rfl) (by kernel_rfl) (by decide) (fun _ _ _ h => h) (fun _ => hHeld) (Or.inl ⟨by rfl, ?_⟩) ?_
        rotate_left
        · intro w' _
          go_simp
          all_goals (with_reducible rfl)
        try simp only [Act.put, List.setIfInBounds_toArray, List.set_cons_zero, List.set_cons_succ]
        refine goK (i := 20) (dst := (some 38)) (by kernel_rfl) rfl rfl (by rfl) (fun o hop hdst => ?_)
        refine wp_callC Tryd.func30 (by kernel_rfl) (by kernel_rfl) (hop.trans rfl) (by first | rfl | (simp [Act.eval]; done) | (simp [Act.eval]; rfl) | (simp [Act.eval]; exact ⟨rfl, rfl⟩)) (HLEN.out _) ?_
        rintro e w1 ⟨rfl, rfl⟩
        refine ⟨_, rfl, fun _ => hHeld, ?_⟩
        have hHeld := hHeld
        have HF := HF
        simp only [hdst, Act.put, List.setIfInBounds_toArray, List.set_cons_zero, List.set_cons_succ]
        clear hop hdst o
        refine takeP (i := 21) (dst := (some 39)) (v := ?_) rfl rfl (by kernel_rfl) (by kernel_rfl) (by kernel_rfl) (by decide) (fun _ _ _ h => h) (fun _ => hHeld) (Or.inl ⟨by rfl, ?_⟩) ?_
        rotate_left
        · intro w' _
          go_simp
          all_goals (with_reducible rfl)
        try simp only [Act.put, List.setIfInBounds_toArray, List.set_cons_zero, List.set_cons_succ]
        refine takeP (i := 22) (dst := (some 40)) (v := ?_) rfl rfl (by kernel_rfl) (by kernel_rfl) (by kernel_rfl) (by decide) (fun _ _ _ h => h) (fun _ => hHeld) (Or.inl ⟨by rfl, ?_⟩) ?_
        rotate_left
        · intro w' _
          go_simp
          all_goals (with_reducible rfl)
        try simp only [Act.put, List.setIfInBounds_toArray, List.set_cons_zero, List.set_cons_succ]
        refine takeP (i := 23) (dst := (some 0)) (v := ?_) rfl rfl (by kernel_rfl) (by kernel_rfl) (by kernel_rfl) (by decide) (fun _ _ _ h => h) (fun _ => hHeld) (Or.inl ⟨by rfl, ?_⟩) ?_
        rotate_left
        · intro w' _
          go_simp
          all_goals (with_reducible rfl)
        try simp only [Act.put, List.setIfInBounds_toArray, List.set_cons_zero]
        refine doneK (by kernel_rfl) ?_ _
        have HS := Lib.hid HF
        clear HF hHeld
        go_wp2
        go_ret
        exact ⟨rfl, HS.out.kp⟩
    · refine wNewS HF Tryd.zhash (hop.trans rfl) (c := hvA zeroH) rfl ?_
      intro g4 w1 hs
      refine ⟨fun _ => hs.sub (List.Sublist.cons _ (List.Sublist.refl _)) (List.Sublist.refl _), ?_⟩
      have hHeld := (hs.sub (List.Sublist.cons _ (List.Sublist.refl _)) (List.Sublist.refl _) : St [] w [⟨g3, hvA (h1 3), 38⟩, ⟨g2, hvA (h1 2), 38⟩, ⟨g1, hvA (h1 1), 38⟩] [] w1)
      have HF := hs
      clear hs
      simp only [hdst, Act.put, List.setIfInBounds_toArray, List.set_cons_zero, List.set_cons_succ]
      clear hop hdst o
      refine goK (i := 4) (dst := (some 14)) (by kernel_rfl) rfl rfl (by rfl) (fun o hop hdst => ?_)
      refine wLitS HF HTS.out (hop.trans rfl) [hv n] rfl (by first | rfl | (simp [Act.eval]; done) | (simp [Act.eval]; rfl)) (hvs_size [n]) (by simp) (c := hvA n) (by rw [flatV_one]; rfl) ?_
      intro gl w1 hs
      refine ⟨fun _ => hs.sub (List.Sublist.cons _ (List.Sublist.cons _ (List.Sublist.refl _))) (List.Sublist.refl _), ?_⟩
      have hHeld := (hs.sub (List.Sublist.cons _ (List.Sublist.cons _ (List.Sublist.refl _))) (List.Sublist.refl _) : St [] w [⟨g3, hvA (h1 3), 38⟩, ⟨g2, hvA (h1 2), 38⟩, ⟨g1, hvA (h1 1), 38⟩] [] w1)
      have HF := hs
      clear hs
      simp only [hdst, Act.put, List.setIfInBounds_toArray, List.set_cons_zero, List.set_cons_succ]
      clear hop hdst o
      refine goK (i := 5) (dst := (some 15)) (by kernel_rfl) rfl rfl (by rfl) (fun o hop hdst => ?_)
      refine wp_callC Tryd.func29 (by kernel_rfl) (by kernel_rfl) (hop.trans rfl) (by first | rfl | (simp [Act.eval]; done) | (simp [Act.eval]; rfl) | (simp [Act.eval]; exact ⟨rfl, rfl⟩)) (HLD.out _ HF.kp _ (rd_one (HF.blk ⟨gl, hvA n, 38⟩ (by simp)))) ?_
      rintro e w1 ⟨rfl, k1⟩
      refine ⟨_, rfl, fun _ => hHeld.call k1, ?_⟩
      have hHeld := hHeld.call k1
      have HF := HF.call k1
      clear k1
      simp only [leadV, hcsA]
      simp only [hdst, Act.put, List.setIfInBounds_toArray, List.set_cons_zero, List.set_cons_succ]
      clear hop hdst o
      refine takeP (i := 6) (dst := (some 9)) (v := ?_) rfl rfl (by kernel_rfl) (by kernel_rfl) (by kernel_rfl) (by decide) (fun _ _ _ h => h) (fun _ => hHeld) (Or.inl ⟨by rfl, ?_⟩) ?_
      rotate_left
      · intro w' _
        go_simp
        all_goals (with_reducible rfl)
      try simp only [Act.put, List.setIfInBounds_toArray, List.set_cons_zero, List.set_cons_succ]
      refine takeP (i := 7) (dst := (some 16)) (v := ?_) rfl rfl (by kernel_rfl) (by kernel_rfl) (by kernel_rfl) (by decide) (fun _ _ _ h => h) (fun _ => hHeld) (Or.inl ⟨by rfl, ?_⟩) ?_
      rotate_left
      · intro w' _
        go_simp
        all_goals (with_reducible rfl)
      try simp only [Act.put, List.setIfInBounds_toArray, List.set_cons_zero, List.set_cons_succ]
      refine takeP (i := 8) (dst := (some 17)) (v := ?_) rfl rfl (by kernel_rfl) (by kernel_rfl) (by kernel_rfl) (by decide) (fun _ _ _ h => h) (fun _ => hHeld) (Or.inl ⟨by rfl, ?_⟩) ?_
      rotate_left
      · intro w' _
        go_simp
        all_goals (with_reducible rfl)
      try simp only [Act.put, List.setIfInBounds_toArray, List.set_cons_zero, List.set_cons_succ]
      refine goK (i := 10) (dst := none) (by kernel_rfl) rfl rfl (by rfl) (fun o hop hdst => ?_)
      refine wSetS1 HF Tryd.aghash (hop.trans rfl) rfl (by first | exact hvA_size _ | rfl) rfl (by first | exact hvA_size _ | rfl) (hvA_one _) ?_
      intro w1 hs
      refine ⟨fun h => absurd h (by decide), ?_⟩
      clear HF
      have HF := hs
      clear hs
      simp only [hdst, Act.put]
      clear hop hdst o
      refine takeP (i := 11) (dst := (some 5)) (v := ?_) rfl rfl (by kernel_rfl) (by kernel_rfl) (by kernel_rfl) (by decide) (fun _ _ _ h => h) (fun h => absurd h (by decide)) (Or.inl ⟨by rfl, ?_⟩) ?_
      rotate_left
      · intro w' _
        go_simp
        all_goals (with_reducible rfl)
      try simp only [Act.put, List.setIfInBounds_toArray, List.set_cons_zero, List.set_cons_succ]
      refine doneK (by kernel_rfl) ?_ _
      have HS := Lib.hid (HF.sub (List.Sublist.cons _ (List.Sublist.cons_cons _ (List.Sublist.cons_cons _ (List.Sublist.cons_cons _ (List.Sublist.cons_cons _ List.Sublist.slnil))))) (List.Sublist.refl _))
      clear HF hHeld
      go_wp2_with fail
      have HF0 := HS.out.drew
      clear HS
      refine regionK 24 (fun W => St [] w [⟨g4, hvA r, 38⟩, ⟨g3, hvA (h1 3), 38⟩, ⟨g2, hvA (h1 2), 38⟩, ⟨g1, hvA (h1 1), 38⟩] [] W) (by kernel_rfl) HF0 (fun hHeld => ?_)
      have HF := HF0
      clear HF0
      refine takeP (i := 0) (dst := (some 18)) (v := ?_) rfl rfl (by kernel_rfl) (by kernel_rfl) (by kernel_rfl) (by decide) (fun _ _ _ h => h) (fun _ => hHeld) (Or.inl ⟨by rfl, ?_⟩) ?_
      rotate_left
      · intro w' _
        go_simp
        all_goals (with_reducible rfl)
      try simp only [Act.put, List.setIfInBounds_toArray, List.set_cons_zero, List.set_cons_succ]
      refine takeP (i := 1) (dst := (some 19)) (v := ?_) rfl rfl (by kernel_rfl) (by kernel_rfl) (by kernel_rfl) (by decide) (fun _ _ _ h => h) (fun _ => hHeld) (Or.inl ⟨by rfl, ?_⟩) ?_
      rotate_left
      · intro w' _
        go_simp
        all_goals (with_reducible rfl)
      try simp only [Act.put, List.setIfInBounds_toArray, List.set_cons_zero, List.set_cons_succ]
      refine takeP (i := 2) (dst := (some 20)) (v := ?_) rfl rfl (by kernel_rfl) (by kernel_rfl) (by kernel_rfl) (by decide) (fun _ _ _ h => h) (fun _ => hHeld) (Or.inl ⟨by rfl, ?_⟩) ?_
      rotate_left
      · intro w' _
        go_simp
        all_goals (with_reducible rfl)
      try simp only [Act.put, List.setIfInBounds_toArray, List.set_cons_zero, List.set_cons_succ]
      refine takeK (i := 3) (dst := (some 21)) rfl rfl (by kernel_rfl) (by kernel_rfl) (by kernel_rfl) (by kernel_rfl) (by kernel_rfl) (fun _ _ _ h => h) hHeld (yields_get Tryd.aghash (by rfl) rfl rfl (hcs_length _) (fun w h => h.rangeH (g := g4) (x := r) (t := 38) (by simp))) ?_
      try simp only [Act.put, List.setIfInBounds_toArray, List.set_cons_zero, List.set_cons_succ, hcsA]
      refine takeK (i := 4) (dst := (some 22)) rfl rfl (by kernel_rfl) (by kernel_rfl) (by kernel_rfl) (by kernel_rfl) (by kernel_rfl) (fun _ _ _ h => h) hHeld (yields_get Tryd.aghash (by rfl) rfl rfl (hcs_length _) (fun w h => h.rangeH (g := g1) (x := h1 1) (t := 38) (by simp))) ?_
      try simp only [Act.put, List.setIfInBounds_toArray, List.set_cons_zero, List.set_cons_succ, hcsA]
      refine takeK (i := 5) (dst := (some 23)) rfl rfl (by kernel_rfl) (by kernel_rfl) (by kernel_rfl) (by kernel_rfl) (by kernel_rfl) (fun _ _ _ h => h) hHeld (yields_get Tryd.aghash (by rfl) rfl rfl (hcs_length _) (fun w h => h.rangeH (g := g2) (x := h1 2) (t := 38) (by simp))) ?_
      try simp only [Act.put, List.setIfInBounds_toArray, List.set_cons_zero, List.set_cons_succ, hcsA]
      refine takeK (i := 7) (dst := (some 25)) rfl rfl (by kernel_rfl) (by kernel_rfl) (by kernel_rfl) (by kernel_rfl) (by kernel_rfl) (fun _ _ _ h => h) hHeld (yields_get Tryd.aghash (by rfl) rfl rfl (hcs_length _) (fun w h => h.rangeH (g := g3) (x := h1 3) (t := 38) (by simp))) ?_
      try simp only [Act.put, List.setIfInBounds_toArray, List.set_cons_zero, List.set_cons_succ, hcsA]
      refine goK (i := 6) (dst := (some 24)) (by kernel_rfl) rfl rfl (by rfl) (fun o hop hdst => ?_)
      refine wp_callC Tryd.func34 (by kernel_rfl) (by kernel_rfl) (hop.trans rfl) (by first | rfl | (simp [Act.eval]; done) | (simp [Act.eval]; rfl) | (simp [Act.eval]; exact ⟨rfl, rfl⟩)) (HN.out _ HF.kp) ?_
      rintro e w1 ⟨rfl, k1⟩
      refine ⟨_, rfl, fun _ => hHeld.call k1, ?_⟩
      have hHeld := hHeld.call k1
      have HF := HF.call k1
      clear k1
      simp only [hdst, Act.put, List.setIfInBounds_toArray, List.set_cons_zero, List.set_cons_succ]
      clear hop hdst o
      refine goK (i := 8) (dst := (some 26)) (by kernel_rfl) rfl rfl (by rfl) (fun o hop hdst => ?_)
      refine wp_callC Tryd.func34 (by kernel_rfl) (by kernel_rfl) (hop.trans rfl) (by first | rfl | (simp [Act.eval]; done) | (simp [Act.eval]; rfl) | (simp [Act.eval]; exact ⟨rfl, rfl⟩)) (HN2.out _ HF.kp) ?_
      rintro e w1 ⟨rfl, k1⟩
      refine ⟨_, rfl, fun _ => hHeld.call k1, ?_⟩
      have hHeld := hHeld.call k1
      have HF := HF.call k1
      clear k1
      simp only [hdst, Act.put, List.setIfInBounds_toArray, List.set_cons_zero, List.set_cons_succ]
      clear hop hdst o
      refine takeP (i := 9) (dst := (some 27)) (v := ?_) rfl rfl (by kernel_rfl) (by kernel_rfl) (by kernel_rfl) (by decide) (fun _ _ _ h => h) (fun _ => hHeld) (Or.inl ⟨by rfl, ?_⟩) ?_
      rotate_left
      · intro w' _
        go_simp
        all_goals (with_reducible rfl)
      try simp only [Act.put, List.setIfInBounds_toArray, List.set_cons_zero, List.set_cons_succ]
      refine takeP (i := 10) (dst := (some 28)) (v := ?_) rfl rfl (by kernel_rfl) (by kernel_rfl) (by kernel_rfl) (by decide) (fun _ _ _ h => h) (fun _ => hHeld) (Or.inl ⟨by rfl, ?_⟩) ?_
      rotate_left
      · intro w' _
        go_simp
        all_goals (with_reducible rfl)
      try simp only [Act.put, List.setIfInBounds_toArray, List.set_cons_zero, List.set_cons_succ]
      refine takeP (i := 11) (dst := (some 29)) (v := ?_) rfl rfl (by kernel_rfl) (by kernel_rfl) (by kernel_rfl) (by decide) (fun _ _ _ h => h) (fun _ => hHeld) (Or.inl ⟨by rfl, ?_⟩) ?_
      rotate_left
      · intro w' _
        go_simp
        all_goals (with_reducible rfl)
      try simp only [Act.put, List.setIfInBounds_toArray, List.set_cons_zero, List.set_cons_succ]
      refine takeK (i := 12) (dst := (some 30)) rfl rfl (by kernel_rfl) (by kernel_rfl) (by kernel_rfl) (by kernel_rfl) (by kernel_rfl) (fun _ _ _ h => h) hHeld (yields_get Tryd.aghash (by rfl) rfl rfl (hcs_length _) (fun w h => h.rangeH (g := g3) (x := h1 3) (t := 38) (by simp))) ?_
      try simp only [Act.put, List.setIfInBounds_toArray, List.set_cons_zero, List.set_cons_succ, hcsA]
      refine takeK (i := 13) (dst := (some 31)) rfl rfl (by kernel_rfl) (by kernel_rfl) (by kernel_rfl) (by kernel_rfl) (by kernel_rfl) (fun _ _ _ h => h) hHeld (yields_get Tryd.aghash (by rfl) rfl rfl (hcs_length _) (fun w h => h.rangeH (g := g1) (x := h1 1) (t := 38) (by simp))) ?_
      try simp only [Act.put, List.setIfInBounds_toArray, List.set_cons_zero, List.set_cons_succ, hcsA]
      refine takeK (i := 15) (dst := (some 33)) rfl rfl (by kernel_rfl) (by kernel_rfl) (by kernel_rfl) (by kernel_rfl) (by kernel_rfl) (fun _ _ _ h => h) hHeld (yields_get Tryd.aghash (by rfl) rfl rfl (hcs_length _) (fun w h => h.rangeH (g := g4) (x := r) (t := 38) (by simp))) ?_
      try simp only [Act.put, List.setIfInBounds_toArray, List.set_cons_zero, List.set_cons_succ, hcsA]
      refine goK (i := 14) (dst := (some 32)) (by kernel_rfl) rfl rfl (by rfl) (fun o hop hdst => ?_)
      refine wLitS HF HTS.out (hop.trans rfl) [hv (h1 1)] rfl (by first | rfl | (simp [Act.eval]; done) | (simp [Act.eval]; rfl)) (hvs_size [h1 1]) (by simp) (c := hvA (h1 1)) (by rw [flatV_one]; rfl) ?_
      intro gm w1 hs
      refine ⟨fun _ => hs.sub (List.Sublist.cons _ (List.Sublist.refl _)) (List.Sublist.refl _), ?_⟩
      have hHeld := (hs.sub (List.Sublist.cons _ (List.Sublist.refl _)) (List.Sublist.refl _) : St [] w [⟨g4, hvA r, 38⟩, ⟨g3, hvA (h1 3), 38⟩, ⟨g2, hvA (h1 2), 38⟩, ⟨g1, hvA (h1 1), 38⟩] [] w1)
      have HF := hs
      clear hs
      simp only [hdst, Act.put, List.setIfInBounds_toArray, List.set_cons_zero, List.set_cons_succ]
      clear hop hdst o
      refine goK (i := 16) (dst := (some 34)) (by kernel_rfl) rfl rfl (by rfl) (fun o hop hdst => ?_)
      refine wp_callC Tryd.func31 (by kernel_rfl) (by kernel_rfl) (hop.trans rfl) (by first | rfl | (simp [Act.eval]; done) | (simp [Act.eval]; rfl) | (simp [Act.eval]; exact ⟨rfl, rfl⟩)) (HIN.out _ HF.kp _ (rd_one (HF.blk ⟨gm, hvA (h1 1), 38⟩ (by simp)))) ?_
      rintro e w1 ⟨rfl, k1⟩
      refine ⟨_, rfl, fun _ => hHeld.call k1, ?_⟩
      have hHeld := hHeld.call k1
      have HF := HF.call k1
      clear k1
      simp only [hdst, Act.put, List.setIfInBounds_toArray, List.set_cons_zero, List.set_cons_succ]
      clear hop hdst o
      refine takeP (i := 17) (dst := (some 35)) (v := ?_) rfl rfl (by kernel_rfl) (by kernel_rfl) (by kernel_rfl) (by decide) (fun _ _ _ h => h) (fun _ => hHeld) (Or.inl ⟨by rfl, ?_⟩) ?_
      rotate_left
      · intro w' _
        go_simp
        all_goals (with_reducible rfl)
      try simp only [Act.put, List.setIfInBounds_toArray, List.set_cons_zero, List.set_cons_succ]
      refine takeP (i := 18) (dst := (some 36)) (v := ?_) rfl rfl (by kernel_rfl) (by kernel_rfl) (by kernel_rfl) (by decide) (fun _ _ _ h => h) (fun _ => hHeld) (Or.inl ⟨by rfl, ?_⟩) ?_
      rotate_left
      · intro w' _
        go_simp
        all_goals (with_reducible rfl)
      try simp only [Act.put, List.setIfInBounds_toArray, List.set_cons_zero, List.set_cons_succ]
      refine takeP (i := 19) (dst := (some 37)) (v := ?_) rfl rfl (by kernel_rfl) (by kernel_rfl) (by kernel_rfl) (by decide) (fun _ _ _ h => h) (fun _ => hHeld) (Or.inl ⟨by rfl, ?_⟩) ?_
      rotate_left
      · intro w' _
        go_simp
        all_goals (with_reducible rfl)
      try simp only [Act.put, List.setIfInBounds_toArray, List.set_cons_zero, List.set_cons_succ]
      refine goK (i := 20) (dst := (some 38)) (by kernel_rfl) rfl rfl (by rfl) (fun o hop hdst => ?_)
      refine wp_callC Tryd.func30 (by kernel_rfl) (by kernel_rfl) (hop.trans rfl) (by first | rfl | (simp [Act.eval]; done) | (simp [Act.eval]; rfl) | (simp [Act.eval]; exact ⟨rfl, rfl⟩)) (HLEN.out _) ?_
      rintro e w1 ⟨rfl, rfl⟩
      refine ⟨_, rfl, fun _ => hHeld, ?_⟩
      have hHeld := hHeld
      have HF := HF
      simp only [hdst, Act.put, List.setIfInBounds_toArray, List.set_cons_zero, List.set_cons_succ]
      clear hop hdst o
      refine takeP (i := 21) (dst := (some 39)) (v := ?_) rfl rfl (by kernel_rfl) (by kernel_rfl) (by kernel_rfl) (by decide) (fun _ _ _ h => h) (fun _ => hHeld) (Or.inl ⟨by rfl, ?_⟩) ?_
      rotate_left
      · intro w' _
        go_simp
        all_goals (with_reducible rfl)
      try simp only [Act.put, List.setIfInBounds_toArray, List.set_cons_zero, List.set_cons_succ]
      refine takeP (i := 22) (dst := (some 40)) (v := ?_) rfl rfl (by kernel_rfl) (by kernel_rfl) (by kernel_rfl) (by decide) (fun _ _ _ h => h) (fun _ => hHeld) (Or.inl ⟨by rfl, ?_⟩) ?_
      rotate_left
      · intro w' _
        go_simp
        all_goals (with_reducible rfl)
      try simp only [Act.put, List.setIfInBounds_toArray, List.set_cons_zero, List.set_cons_succ]
      refine takeP (i := 23) (dst := (some 0)) (v := ?_) rfl rfl (by kernel_rfl) (by kernel_rfl) (by kernel_rfl) (by decide) (fun _ _ _ h => h) (fun _ => hHeld) (Or.inl ⟨by rfl, ?_⟩) ?_
      rotate_left
      · intro w' _
        go_simp
        all_goals (with_reducible rfl)
      try simp only [Act.put, List.setIfInBounds_toArray, List.set_cons_zero]
      refine doneK (by kernel_rfl) ?_ _
      have HS := Lib.hid HF
      clear HF hHeld
      go_wp2
      go_ret
      exact ⟨rfl, HS.out.kp⟩
  · refine wNewS HF Tryd.zhash (hop.trans rfl) (c := hvA zeroH) rfl ?_
    intro g4 w1 hs
    refine ⟨fun _ => hs.sub (List.Sublist.cons _ (List.Sublist.refl _)) (List.Sublist.refl _), ?_⟩
    have hHeld := (hs.sub (List.Sublist.cons _ (List.Sublist.refl _)) (List.Sublist.refl _) : St [] w [⟨g3, hvA (h1 3), 38⟩, ⟨g2, hvA (h1 2), 38⟩, ⟨g1, hvA (h1 1), 38⟩] [] w1)
    have HF := hs
    clear hs
    simp only [hdst, Act.put, List.setIfInBounds_toArray, List.set_cons_zero, List.set_cons_succ]
    clear hop hdst o
    refine goK (i := 3) (dst := (some 13)) (by kernel_rfl) rfl rfl (by rfl) (fun o hop hdst => ?_)
    refine wp_callC Tryd.func34 (by kernel_rfl) (by kernel_rfl) (hop.trans rfl) (by first | rfl | (simp [Act.eval]; done) | (simp [Act.eval]; rfl) | (simp [Act.eval]; exact ⟨rfl, rfl⟩)) (HN.out _ HF.kp) ?_
    rintro e w1 ⟨rfl, k1⟩
    refine ⟨_, rfl, fun _ => hHeld.call k1, ?_⟩
    have hHeld := hHeld.call k1
    have HF := HF.call k1
    clear k1
    simp only [hdst, Act.put, List.setIfInBounds_toArray, List.set_cons_zero, List.set_cons_succ]
    clear hop hdst o
    refine goK (i := 4) (dst := (some 14)) (by kernel_rfl) rfl rfl (by rfl) (fun o hop hdst => ?_)
    refine wLitS HF HTS.out (hop.trans rfl) [hv n] rfl (by first | rfl | (simp [Act.eval]; done) | (simp [Act.eval]; rfl)) (hvs_size [n]) (by simp) (c := hvA n) (by rw [flatV_one]; rfl) ?_
    intro gl w1 hs
    refine ⟨fun _ => hs.sub (List.Sublist.cons _ (List.Sublist.cons _ (List.Sublist.refl _))) (List.Sublist.refl _), ?_⟩
    have hHeld := (hs.sub (List.Sublist.cons _ (List.Sublist.cons _ (List.Sublist.refl _))) (List.Sublist.refl _) : St [] w [⟨g3, hvA (h1 3), 38⟩, ⟨g2, hvA (h1 2), 38⟩, ⟨g1, hvA (h1 1), 38⟩] [] w1)
    have HF := hs
    clear hs
    simp only [hdst, Act.put, List.setIfInBounds_toArray, List.set_cons_zero, List.set_cons_succ]
    clear hop hdst o
    refine goK (i := 5) (dst := (some 15)) (by kernel_rfl) rfl rfl (by rfl) (fun o hop hdst => ?_)
    refine wp_callC Tryd.func29 (by kernel_rfl) (by kernel_rfl) (hop.trans rfl) (by first | rfl | (simp [Act.eval]; done) | (simp [Act.eval]; rfl) | (simp [Act.eval]; exact ⟨rfl, rfl⟩)) (HLD.out _ HF.kp _ (rd_one (HF.blk ⟨gl, hvA n, 38⟩ (by simp)))) ?_
    rintro e w1 ⟨rfl, k1⟩
    refine ⟨_, rfl, fun _ => hHeld.call k1, ?_⟩
    have hHeld := hHeld.call k1
    have HF := HF.call k1
    clear k1
    simp only [leadV, hcsA]
    simp only [hdst, Act.put, List.setIfInBounds_toArray, List.set_cons_zero, List.set_cons_succ]
    clear hop hdst o
    refine takeP (i := 6) (dst := (some 9)) (v := ?_) rfl rfl (by kernel_rfl) (by kernel_rfl) (by kernel_rfl) (by decide) (fun _ _ _ h => h) (fun _ => hHeld) (Or.inl ⟨by rfl, ?_⟩) ?_
    rotate_left
    · intro w' _
      go_simp
      all_goals (with_reducible rfl)
    try simp only [Act.put, List.setIfInBounds_toArray, List.set_cons_zero, List.set_cons_succ]
    refine takeP (i := 7) (dst := (some 16)) (v := ?_) rfl rfl (by kernel_rfl) (by kernel_rfl) (by kernel_rfl) (by decide) (fun _ _ _ h => h) (fun _ => hHeld) (Or.inl ⟨by rfl, ?_⟩) ?_
    rotate_left
    · intro w' _
      go_simp
      all_goals (with_reducible rfl)
    try simp only [Act.put, List.setIfInBounds_toArray, List.set_cons_zero, List.set_cons_succ]
    refine takeP (i := 8) (dst := (some 17)) (v := ?_) rfl rfl (by kernel_rfl) (by kernel_rfl) (by kernel_rfl) (by decide) (fun _ _ _ h => h) (fun _ => hHeld) (Or.inl ⟨by rfl, ?_⟩) ?_
    rotate_left
    · intro w' _
      go_simp
      all_goals (with_reducible rfl)
    try simp only [Act.put, List.setIfInBounds_toArray, List.set_cons_zero, List.set_cons_succ]
    refine goK (i := 10) (dst := none) (by kernel_rfl) rfl rfl (by rfl) (fun o hop hdst => ?_)
    refine wSetS1 HF Tryd.aghash (hop.trans rfl) rfl (by first | exact hvA_size _ | rfl) rfl (by first | exact hvA_size _ | rfl) (hvA_one _) ?_
    intro w1 hs
    refine ⟨fun h => absurd h (by decide), ?_⟩
    clear HF
    have HF := hs
    clear hs
    simp only [hdst, Act.put]
    clear hop hdst o
    refine takeP (i := 11) (dst := (some 5)) (v := ?_) rfl rfl (by kernel_rfl) (by kernel_rfl) (by kernel_rfl) (by decide) (fun _ _ _ h => h) (fun h => absurd h (by decide)) (Or.inl ⟨by rfl, ?_⟩) ?_
    rotate_left
    · intro w' _
      go_simp
      all_goals (with_reducible rfl)
    try simp only [Act.put, List.setIfInBounds_toArray, List.set_cons_zero, List.set_cons_succ]
    refine doneK (by kernel_rfl) ?_ _
    have HS := Lib.hid (HF.sub (List.Sublist.cons _ (List.Sublist.cons_cons _ (List.Sublist.cons_cons _ (List.Sublist.cons_cons _ (List.Sublist.cons_cons _ List.Sublist.slnil))))) (List.Sublist.refl _))
    clear HF hHeld
    go_wp2_with fail
    have HF0 := HS.out.drew
    clear HS
    refine regionK 24 (fun W => St [] w [⟨g4, hvA r, 38⟩, ⟨g3, hvA (h1 3), 38⟩, ⟨g2, hvA (h1 2), 38⟩, ⟨g1, hvA (h1 1), 38⟩] [] W) (by kernel_rfl) HF0 (fun hHeld => ?_)
    have HF := HF0
    clear HF0
    refine takeP (i := 0) (dst := (some 18)) (v := ?_) rfl rfl (by kernel_rfl) (by kernel_rfl) (by kernel_rfl) (by decide) (fun _ _ _ h => h) (fun _ => hHeld) (Or.inl ⟨by rfl, ?_⟩) ?_
    rotate_left
    · intro w' _
      go_simp
      all_goals (with_reducible rfl)
    try simp only [Act.put, List.setIfInBounds_toArray, List.set_cons_zero, List.set_cons_succ]
    refine takeP (i := 1) (dst := (some 19)) (v := ?_) rfl rfl (by kernel_rfl) (by kernel_rfl) (by kernel_rfl) (by decide) (fun _ _ _ h => h) (fun _ => hHeld) (Or.inl ⟨by rfl, ?_⟩) ?_
    rotate_left
    · intro w' _
      go_simp
      all_goals (with_reducible rfl)
    try simp only [Act.put, List.setIfInBounds_toArray, List.set_cons_zero, List.set_cons_succ]
    refine takeP (i := 2) (dst := (some 20)) (v := ?_) rfl rfl (by kernel_rfl) (by kernel_rfl) (by kernel_rfl) (by decide) (fun _ _ _ h => h) (fun _ => hHeld) (Or.inl ⟨by rfl, ?_⟩) ?_
    rotate_left
    · intro w' _
      go_simp
      all_goals (with_reducible rfl)
    try simp only [Act.put, List.setIfInBounds_toArray, List.set_cons_zero, List.set_cons_succ]
    refine takeK (i := 3) (dst := (some 21)) rfl rfl (by kernel_rfl) (by kernel_rfl) (by kernel_rfl) (by kernel_rfl) (by kernel_rfl) (fun _ _ _ h => h) hHeld (yields_get Tryd.aghash (by rfl) rfl rfl (hcs_length _) (fun w h => h.rangeH (g := g4) (x := r) (t := 38) (by simp))) ?_
    try simp only [Act.put, List.setIfInBounds_toArray, List.set_cons_zero, List.set_cons_succ, hcsA]
    refine takeK (i := 4) (dst := (some 22)) rfl rfl (by kernel_rfl) (by kernel_rfl) (by kernel_rfl) (by kernel_rfl) (by kernel_rfl) (fun _ _ _ h => h) hHeld (yields_get Tryd.aghash (by rfl) rfl rfl (hcs_length _) (fun w h => h.rangeH (g := g1) (x := h1 1) (t := 38) (by simp))) ?_
    try simp only [Act.put, List.setIfInBounds_toArray, List.set_cons_zero, List.set_cons_succ, hcsA]
    refine takeK (i := 5) (dst := (some 23)) rfl rfl (by kernel_rfl) (by kernel_rfl) (by kernel_rfl) (by kernel_rfl) (by kernel_rfl) (fun _ _ _ h => h) hHeld (yields_get Tryd.aghash (by rfl) rfl rfl (hcs_length _) (fun w h => h.rangeH (g := g2) (x := h1 2) (t := 38) (by simp))) ?_
    try simp only [Act.put, List.setIfInBounds_toArray, List.set_cons_zero, List.set_cons_succ, hcsA]
    refine takeK (i := 7) (dst := (some 25)) rfl rfl (by kernel_rfl) (by kernel_rfl) (by kernel_rfl) (by kernel_rfl) (by kernel_rfl) (fun _ _ _ h => h) hHeld (yields_get Tryd.aghash (by rfl) rfl rfl (hcs_length _) (fun w h => h.rangeH (g := g3) (x := h1 3) (t := 38) (by simp))) ?_
    try simp only [Act.put, List.setIfInBounds_toArray, List.set_cons_zero, List.set_cons_succ, hcsA]
    refine goK (i := 6) (dst := (some 24)) (by kernel_rfl) rfl rfl (by rfl) (fun o hop hdst => ?_)
    refine wp_callC Tryd.func34 (by kernel_rfl) (by kernel_rfl) (hop.trans rfl) (by first | rfl | (simp [Act.eval]; done) | (simp [Act.eval]; rfl) | (simp [Act.eval]; exact ⟨rfl, rfl⟩)) (HN.out _ HF.kp) ?_
    rintro e w1 ⟨rfl, k1⟩
    refine ⟨_, rfl, fun _ => hHeld.call k1, ?_⟩
    have hHeld := hHeld.call k1
    have HF := HF.call k1
    clear k1
    simp only [hdst, Act.put, List.setIfInBounds_toArray, List.set_cons_zero, List.set_cons_succ]
    clear hop hdst o
    refine goK (i := 8) (dst := (some 26)) (by kernel_rfl) rfl rfl (by rfl) (fun o hop hdst => ?_)
    refine wp_callC Tryd.func34 (by kernel_rfl) (by kernel_rfl) (hop.trans rfl) (by first | rfl | (simp [Act.eval]; done) | (simp [Act.eval]; rfl) | (simp [Act.eval]; exact ⟨rfl, rfl⟩)) (HN2.out _ HF.kp) ?_
    rintro e w1 ⟨rfl, k1⟩
    refine ⟨_, rfl, fun _ => hHeld.call k1, ?_⟩
    have hHeld := hHeld.call k1
    have HF := HF.call k1
    clear k1
    simp only [hdst, Act.put, List.setIfInBounds_toArray, List.set_cons_zero, List.set_cons_succ]
    clear hop hdst o
    refine takeP (i := 9) (dst := (some 27)) (v := ?_) rfl rfl (by kernel_rfl) (by kernel_rfl) (by kernel_rfl) (by decide) (fun _ _ _ h => h) (fun _ => hHeld) (Or.inl ⟨by rfl, ?_⟩) ?_
    rotate_left
    · intro w' _
      go_simp
      all_goals (with_reducible rfl)
    try simp only [Act.put, List.setIfInBounds_toArray, List.set_cons_zero, List.set_cons_succ]
    refine takeP (i := 10) (dst := (some 28)) (v := ?_) rfl rfl (by kernel_rfl) (by kernel_rfl) (by kernel_rfl) (by decide) (fun _ _ _ h => h) (fun _ => hHeld) (Or.inl ⟨by rfl, ?_⟩) ?_
    rotate_left
    · intro w' _
      go_simp
      all_goals (with_reducible rfl)
    try simp only [Act.put, List.setIfInBounds_toArray, List.set_cons_zero, List.set_cons_succ]
    refine takeP (i := 11) (dst := (some 29)) (v := ?_) rfl rfl (by kernel_rfl) (by kernel_rfl) (by kernel_rfl) (by decide) (fun _ _ _ h => h) (fun _ => hHeld) (Or.inl ⟨by rfl, ?_⟩) ?_
    rotate_left
    · intro w' _
      go_simp
      all_goals (with_reducible rfl)
    try simp only [Act.put, List.setIfInBounds_toArray, List.set_cons_zero, List.set_cons_succ]
    refine takeK (i := 12) (dst := (some 30)) rfl rfl (by kernel_rfl) (by kernel_rfl) (by kernel_rfl) (by kernel_rfl) (by kernel_rfl) (fun _ _ _ h => h) hHeld (yields_get Tryd.aghash (by rfl) rfl rfl (hcs_length _) (fun w h => h.rangeH (g := g3) (x := h1 3) (t := 38) (by simp))) ?_
    try simp only [Act.put, List.setIfInBounds_toArray, List.set_cons_zero, List.set_cons_succ, hcsA]
    refine takeK (i := 13) (dst := (some 31)) rfl rfl (by kernel_rfl) (by kernel_rfl) (by kernel_rfl) (by kernel_rfl) (by kernel_rfl) (fun _ _ _ h => h) hHeld (yields_get Tryd.aghash (by rfl) rfl rfl (hcs_length _) (fun w h => h.rangeH (g := g1) (x := h1 1) (t := 38) (by simp))) ?_
    try simp only [Act.put, List.setIfInBounds_toArray, List.set_cons_zero, List.set_cons_succ, hcsA]
    refine takeK (i := 15) (dst := (some 33)) rfl rfl (by kernel_rfl) (by kernel_rfl) (by kernel_rfl) (by kernel_rfl) (by kernel_rfl) (fun _ _ _ h => h) hHeld (yields_get Tryd.aghash (by rfl) rfl rfl (hcs_length _) (fun w h => h.rangeH (g := g4) (x := r) (t := 38) (by simp))) ?_
    try simp only [Act.put, List.setIfInBounds_toArray, List.set_cons_zero, List.set_cons_succ, hcsA]
    refine goK (i := 14) (dst := (some 32)) (by kernel_rfl) rfl rfl (by rfl) (fun o hop hdst => ?_)
    refine wLitS HF HTS.out (hop.trans rfl) [hv (h1 1)] rfl (by first | rfl | (simp [Act.eval]; done) | (simp [Act.eval]; rfl)) (hvs_size [h1 1]) (by simp) (c := hvA (h1 1)) (by rw [flatV_one]; rfl) ?_
    intro gm w1 hs
    refine ⟨fun _ => hs.sub (List.Sublist.cons _ (List.Sublist.refl _)) (List.Sublist.refl _), ?_⟩
    have hHeld := (hs.sub (List.Sublist.cons _ (List.Sublist.refl _)) (List.Sublist.refl _) : St [] w [⟨g4, hvA r, 38⟩, ⟨g3, hvA (h1 3), 38⟩, ⟨g2, hvA (h1 2), 38⟩, ⟨g1, hvA (h1 1), 38⟩] [] w1)
    have HF := hs
    clear hs
    simp only [hdst, Act.put, List.setIfInBounds_toArray, List.set_cons_zero, List.set_cons_succ]
    clear hop hdst o
    refine goK (i := 16) (dst := (some 34)) (by kernel_rfl) rfl rfl (by rfl) (fun o hop hdst => ?_)
    refine wp_callC Tryd.func31 (by kernel_rfl) (by kernel_rfl) (hop.trans rfl) (by first | rfl | (simp [Act.eval]; done) | (simp [Act.eval]; rfl) | (simp [Act.eval]; exact ⟨rfl, rfl⟩)) (HIN.out _ HF.kp _ (rd_one (HF.blk ⟨gm, hvA (h1 1), 38⟩ (by simp)))) ?_
    rintro e w1 ⟨rfl, k1⟩
    refine ⟨_, rfl, fun _ => hHeld.call k1, ?_⟩
    have hHeld := hHeld.call k1
    have HF := HF.call k1
    clear k1
    simp only [hdst, Act.put, List.setIfInBounds_toArray, List.set_cons_zero, List.set_cons_succ]
    clear hop hdst o
    refine takeP (i := 17) (dst := (some 35)) (v := ?_) rfl rfl (by kernel_rfl) (by kernel_rfl) (by kernel_rfl) (by decide) (fun _ _ _ h => h) (fun _ => hHeld) (Or.inl ⟨by rfl, ?_⟩) ?_
    rotate_left
    · intro w' _
      go_simp
      all_goals (with_reducible rfl)
    try simp only [Act.put, List.setIfInBounds_toArray, List.set_cons_zero, List.set_cons_succ]
    refine takeP (i := 18) (dst := (some 36)) (v := ?_) rfl rfl (by kernel_rfl) (by kernel_rfl) (by kernel_rfl) (by decide) (fun _ _ _ h => h) (fun _ => hHeld) (Or.inl ⟨by rfl, ?_⟩) ?_
    rotate_left
    · intro w' _
      go_simp
      all_goals (with_reducible rfl)
    try simp only [Act.put, List.setIfInBounds_toArray, List.set_cons_zero, List.set_cons_succ]
    refine takeP (i := 19) (dst := (some 37)) (v := ?_) rfl rfl (by kernel_rfl) (by kernel_rfl) (by kernel_rfl) (by decide) (fun _ _ _ h => h) (fun _ => hHeld) (Or.inl ⟨by rfl, ?_⟩) ?_
    rotate_left
    · intro w' _
      go_simp
      all_goals (with_reducible rfl)
    try simp only [Act.put, List.setIfInBounds_toArray, List.set_cons_zero, List.set_cons_succ]
    refine goK (i := 20) (dst := (some 38)) (by kernel_rfl) rfl rfl (by rfl) (fun o hop hdst => ?_)
    refine wp_callC Tryd.func30 (by kernel_rfl) (by kernel_rfl) (hop.trans rfl) (by first | rfl | (simp [Act.eval]; done) | (simp [Act.eval]; rfl) | (simp [Act.eval]; exact ⟨rfl, rfl⟩)) (HLEN.out _) ?_
    rintro e w1 ⟨rfl, rfl⟩
    refine ⟨_, rfl, fun _ => hHeld, ?_⟩
    have hHeld := hHeld
    have HF := HF
    simp only [hdst, Act.put, List.setIfInBounds_toArray, List.set_cons_zero, List.set_cons_succ]
    clear hop hdst o
    refine takeP (i := 21) (dst := (some 39)) (v := ?_) rfl rfl (by kernel_rfl) (by kernel_rfl) (by kernel_rfl) (by decide) (fun _ _ _ h => h) (fun _ => hHeld) (Or.inl ⟨by rfl, ?_⟩) ?_
    rotate_left
    · intro w' _
      go_simp
      all_goals (with_reducible rfl)
    try simp only [Act.put, List.setIfInBounds_toArray, List.set_cons_zero, List.set_cons_succ]
    refine takeP (i := 22) (dst := (some 40)) (v := ?_) rfl rfl (by kernel_rfl) (by kernel_rfl) (by kernel_rfl) (by decide) (fun _ _ _ h => h) (fun _ => hHeld) (Or.inl ⟨by rfl, ?_⟩) ?_
    rotate_left
    · intro w' _
      go_simp
      all_goals (with_reducible rfl)
    try simp only [Act.put, List.setIfInBounds_toArray, List.set_cons_zero, List.set_cons_succ]
    refine takeP (i := 23) (dst := (some 0)) (v := ?_) rfl rfl (by kernel_rfl) (by kernel_rfl) (by kernel_rfl) (by decide) (fun _ _ _ h => h) (fun _ => hHeld) (Or.inl ⟨by rfl, ?_⟩) ?_
    rotate_left
    · intro w' _
      go_simp
      all_goals (with_reducible rfl)
    try simp only [Act.put, List.setIfInBounds_toArray, List.set_cons_zero]
    refine doneK (by kernel_rfl) ?_ _
    have HS := Lib.hid HF
    clear HF hHeld
    go_wp2
    go_ret
    exact ⟨rfl, HS.out.kp⟩
end Go.Proofs.YtkjdnpalafldhaaDoor
