/-
  ProofRight: what layer 7 tells of any list is right: each leaf's path, the proof from each beginning.
-/
import Derived.Test.YtkjdnpalafldhaaDoorPrf11
import Derived.Test.YtkjdnpalafldhaaDoorAwake8
import Derived.Test.YtkjdnpalafldhaaDoorAwake7
import Derived.Test.YtkjdnpalafldhaaDoorDoor
import Derived.Test.YtkjdnpalafldhaaDoorTie
import Derived.Test.YtkjdnpalafldhaaDoorCards
namespace Go.Proofs.YtkjdnpalafldhaaDoor.proofRight
open Go.ChangeShapes Go.WideShapes Go.ChangeAt Go.RowKit Go.Proofs.YtkjdnpalafldhaaDoor

theorem readable : ∀ t ∈ Tryd.f12.params.toList, Tryd.prog.readableRec t = true ∧ t < Tryd.prog.types.size := by
  rw [Tryd.params12]
  intro t ht
  simp only [List.mem_cons, List.not_mem_nil, or_false] at ht
  rcases ht with rfl | rfl | rfl <;> exact ⟨by kernel_rfl, of_decide_eq_true (by kernel_rfl)⟩

theorem walk_big (l : List Hsh) (a : Option Addr) (c : Nat) (i m : Int) (w : World) (hl : 70 < l.length) (hl2 : l.length ≤ 9223372036854775807) (hL : Laid w) (h2 : 2 ≤ w.heap.size) :
    Calls Tryd.prog 12 #[.slice a l.length c, .int .i64 i, .int .i64 m] w fun e w' => e = .returned (.bool true) ∧ Kp [] w w' := by
  have HL := Lib.hid hL
  clear hL
  have HS := Lib.hid (St.start [] w)
  go_enter Tryd.func12, Tryd.ntmps12
  go_wp2_with fail
  refine (awake8_any _ (HL.out.below HS.out.kp) (Nat.le_trans h2 HS.out.kp.size)).mono ?_
  rintro e w9 ⟨rfl, k9⟩
  have K9 := Lib.hid (HS.out.kp.trans k9 (by simp))
  clear k9
  go_wp2
  go_ret
  exact ⟨rfl, K9.out⟩
set_option maxRecDepth 100000 in
set_option maxHeartbeats 1000000 in
theorem walk_small (l : List Hsh) (a : Option Addr) (c : Nat) (i m : Int) (w : World) (hr : Rd w a l.length c 32 (hsc l)) (hl : l.length ≤ 70) (hL : Laid w) (h2 : 2 ≤ w.heap.size) :
    Calls Tryd.prog 12 #[.slice a l.length c, .int .i64 i, .int .i64 m] w fun e w' => e = .returned (.bool true) ∧ Kp [] w w' := by
  have HL := Lib.hid hL
  have HR := Lib.hid hr
  have HROOT := Lib.hid (root_any l a c w hr hL h2)
  have HS := Lib.hid (St.start [] w)
  obtain ⟨rt, hrt⟩ : ∃ r, r = rootH l := ⟨_, rfl⟩
  rw [← hrt] at HROOT
  have HRTE := Lib.hid hrt.symm
  have tokN0 : True := trivial
  clear hL hr hrt
  go_enter Tryd.func12, Tryd.ntmps12
  go_wp2_with fail
  refine HROOT.out.mono ?_
  rintro e w1 ⟨rfl, k1⟩
  have HS := Lib.hid (HS.out.call k1)
  clear k1
  by_cases hi : 0 ≤ i ∧ i < (l.length : Int)
  · obtain ⟨I, rfl⟩ : ∃ I : Nat, i = I := ⟨i.toNat, by omega⟩
    have hI : I < l.length := by omega
    obtain ⟨b, off, rfl, hb, hc⟩ := HR.out.spot (by rw [hsc_length]; omega)
    have HRA := Lib.hid (rd_hash hc I hI)
    have HP := Lib.hid (fun W (k : Kp [] w W) => path_any l (some ⟨b, off, none⟩) c I W (HR.out.below k) (by omega) hI (HL.out.below k) (Nat.le_trans h2 k.size))
    have hlen := path_len l I hI (by omega)
    have hir := in_right l I l[I] (List.getElem?_eq_getElem hI) (by omega)
    obtain ⟨x, hx⟩ : ∃ x, x = l[I] := ⟨_, rfl⟩
    rw [← hx] at HRA hir
    obtain ⟨p, hp⟩ : ∃ p, p = pathH l I := ⟨_, rfl⟩
    unfold Path at HP
    rw [← hp] at HP hlen hir
    have HIN := Lib.hid (fun W (k : Kp [] w W) (a1 : Option Addr) (c1 : Nat) (hrd : Rd W a1 p.length c1 32 (hsc p)) => in_good x (rootH l) I l.length p a1 c1 W hrd hI (by omega) (HL.out.below k) (Nat.le_trans h2 k.size))
    rw [hir, HRTE.out] at HIN
    have HLN := Lib.hid (fun W => length_good I l.length W hI (by omega))
    rw [← hlen] at HLN
    obtain ⟨i0, i1⟩ := hi
    clear hlen hir hx hp hc
    go_wp2_with (first
    | (have _t := tokN0; refine newS HS.out Tryd.zhash rfl rfl (c := hvA zeroH) rfl ?_; clear tokN0; intro g7 w1 hs; clear HS; have HS := Lib.hid hs; clear hs)
    | (refine isLoad rfl ?_; first | (refine getS0 HS.out Tryd.aghash rfl rfl rfl (by first | exact hvA_size _ | rfl) ?_) | (refine cellS0 HS.out Tryd.scint rfl rfl rfl rfl ?_) | (refine cellS0 HS.out Tryd.schashes rfl rfl rfl rfl ?_))
    | (refine isStore rfl ?_; first | (refine setS0 HS.out Tryd.aghash rfl rfl rfl (by first | exact hvA_size _ | rfl) rfl (by first | exact hvA_size _ | rfl) (hvA_one _) ?_; intro w1 hs; clear HS; have HS := Lib.hid hs; clear hs) | (refine setS0 HS.out Tryd.aghash rfl rfl rfl (by first | exact hvA_size _ | rfl) (c := hvA zeroH) rfl (hvA_size _) (hvA_one _) ?_; intro w1 hs; clear HS; have HS := Lib.hid hs; clear hs)))
    refine (HP.out _ HS.out.kp).mono ?_
    rintro e w1 ⟨v, rfl, a1, c1, rfl, o1, f1, k1⟩
    have HS := Lib.hid (HS.out.addRow k1 o1 f1)
    clear o1 f1 k1
    go_wp2_with fail
    have HF0 := HS.out.drew
    clear HS
    refine regionK 24 (fun W => St [] w [⟨g7, hvA rt, 38⟩] [⟨38, 32, a1, p.length, c1, hsc p⟩] W) (by kernel_rfl) HF0 (fun hHeld => ?_)
    have HF := HF0
    clear HF0
    refine takeP (i := 0) (dst := (some 32)) (v := ?_) rfl rfl (by kernel_rfl) (by kernel_rfl) (by kernel_rfl) (by decide) (fun _ _ _ h => h) (fun _ => hHeld) (Or.inl ⟨by rfl, ?_⟩) ?_
    rotate_left
    · intro w' _
      go_simp
      all_goals (with_reducible rfl)
    try simp only [Act.put, List.setIfInBounds_toArray, List.set_cons_zero, List.set_cons_succ]
    refine takeP (i := 1) (dst := (some 33)) (v := ?_) rfl rfl (by kernel_rfl) (by kernel_rfl) (by kernel_rfl) (by decide) (fun _ _ _ h => h) (fun _ => hHeld) (Or.inl ⟨by rfl, ?_⟩) ?_
    rotate_left
    · intro w' _
      go_simp
      all_goals (with_reducible rfl)
    try simp only [Act.put, List.setIfInBounds_toArray, List.set_cons_zero, List.set_cons_succ]
    refine takeP (i := 2) (dst := (some 34)) (v := ?_) rfl rfl (by kernel_rfl) (by kernel_rfl) (by kernel_rfl) (by decide) (fun _ _ _ h => h) (fun _ => hHeld) (Or.inl ⟨by rfl, ?_⟩) ?_
    rotate_left
    · intro w' _
      go_simp
      all_goals (with_reducible rfl)
    try simp only [Act.put, List.setIfInBounds_toArray, List.set_cons_zero, List.set_cons_succ]
    refine takeP (i := 3) (dst := (some 35)) (v := ?_) rfl rfl (by kernel_rfl) (by kernel_rfl) (by kernel_rfl) (by decide) (fun _ _ _ h => h) (fun _ => hHeld) (Or.inl ⟨by rfl, ?_⟩) ?_
    rotate_left
    · intro w' _
      go_simp
      all_goals (with_reducible rfl)
    try simp only [Act.put, List.setIfInBounds_toArray, List.set_cons_zero, List.set_cons_succ]
    refine takeP (i := 4) (dst := (some 36)) (v := ?_) rfl rfl (by kernel_rfl) (by kernel_rfl) (by kernel_rfl) (by decide) (fun _ _ _ h => h) (fun _ => hHeld) (Or.inl ⟨by rfl, ?_⟩) ?_
    rotate_left
    · intro w' _
      go_simp
      all_goals (with_reducible rfl)
    try simp only [Act.put, List.setIfInBounds_toArray, List.set_cons_zero, List.set_cons_succ]
    refine takeP (i := 5) (dst := (some 37)) (v := ?_) rfl rfl (by kernel_rfl) (by kernel_rfl) (by kernel_rfl) (by decide) (fun _ _ _ h => h) (fun _ => hHeld) (Or.inl ⟨by rfl, ?_⟩) ?_
    rotate_left
    · intro w' _
      go_simp
      all_goals (with_reducible rfl)
    try simp only [Act.put, List.setIfInBounds_toArray, List.set_cons_zero, List.set_cons_succ]
    refine takeK (i := 6) (dst := (some 38)) rfl rfl (by kernel_rfl) (by kernel_rfl) (by kernel_rfl) (by kernel_rfl) (by kernel_rfl) (fun _ _ _ h => h) hHeld (yields_get Tryd.aghash (by rfl) rfl rfl (hcs_length _) (fun w h => HRA.out.keptK h.kp (by simp))) ?_
    try simp only [Act.put, List.setIfInBounds_toArray, List.set_cons_zero, List.set_cons_succ, hcsA]
    refine takeP (i := 7) (dst := (some 39)) (v := ?_) rfl rfl (by kernel_rfl) (by kernel_rfl) (by kernel_rfl) (by decide) (fun _ _ _ h => h) (fun _ => hHeld) (Or.inl ⟨by rfl, ?_⟩) ?_
    rotate_left
    · intro w' _
      go_simp
      all_goals (with_reducible rfl)
    try simp only [Act.put, List.setIfInBounds_toArray, List.set_cons_zero, List.set_cons_succ]
    refine takeP (i := 8) (dst := (some 40)) (v := ?_) rfl rfl (by kernel_rfl) (by kernel_rfl) (by kernel_rfl) (by decide) (fun _ _ _ h => h) (fun _ => hHeld) (Or.inl ⟨by rfl, ?_⟩) ?_
    rotate_left
    · intro w' _
      go_simp
      all_goals (with_reducible rfl)
    try simp only [Act.put, List.setIfInBounds_toArray, List.set_cons_zero, List.set_cons_succ]
    refine takeP (i := 9) (dst := (some 41)) (v := ?_) rfl rfl (by kernel_rfl) (by kernel_rfl) (by kernel_rfl) (by decide) (fun _ _ _ h => h) (fun _ => hHeld) (Or.inl ⟨by rfl, ?_⟩) ?_
    rotate_left
    · intro w' _
      go_simp
      all_goals (with_reducible rfl)
    try simp only [Act.put, List.setIfInBounds_toArray, List.set_cons_zero, List.set_cons_succ]
    refine takeP (i := 10) (dst := (some 42)) (v := ?_) rfl rfl (by kernel_rfl) (by kernel_rfl) (by kernel_rfl) (by decide) (fun _ _ _ h => h) (fun _ => hHeld) (Or.inl ⟨by rfl, ?_⟩) ?_
    rotate_left
    · intro w' _
      go_simp
      all_goals (with_reducible rfl)
    try simp only [Act.put, List.setIfInBounds_toArray, List.set_cons_zero, List.set_cons_succ]
    refine takeK (i := 11) (dst := (some 43)) rfl rfl (by kernel_rfl) (by kernel_rfl) (by kernel_rfl) (by kernel_rfl) (by kernel_rfl) (fun _ _ _ h => h) hHeld (yields_get Tryd.aghash (by rfl) rfl rfl (hcs_length _) (fun w h => h.rangeH (g := g7) (x := rt) (t := 38) (by simp))) ?_
    try simp only [Act.put, List.setIfInBounds_toArray, List.set_cons_zero, List.set_cons_succ, hcsA]
    refine goK (i := 12) (dst := (some 44)) (by kernel_rfl) rfl rfl (by rfl) (fun o hop hdst => ?_)
    refine wp_callC Tryd.func31 (by kernel_rfl) (by kernel_rfl) (hop.trans rfl) (by first | rfl | (simp [Act.eval]; done) | (simp [Act.eval]; rfl) | (simp [Act.eval]; exact ⟨rfl, rfl⟩)) (HIN.out _ HF.kp _ _ (own_rd (HF.row ⟨38, 32, a1, p.length, c1, hsc p⟩ (by simp)))) ?_
    rintro e w1 ⟨rfl, k1⟩
    refine ⟨_, rfl, fun _ => hHeld.call k1, ?_⟩
    have hHeld := hHeld.call k1
    have HF := HF.call k1
    clear k1
    simp only [hdst, Act.put, List.setIfInBounds_toArray, List.set_cons_zero, List.set_cons_succ]
    clear hop hdst o
    refine takeP (i := 13) (dst := (some 45)) (v := ?_) rfl rfl (by kernel_rfl) (by kernel_rfl) (by kernel_rfl) (by decide) (fun _ _ _ h => h) (fun _ => hHeld) (Or.inl ⟨by rfl, ?_⟩) ?_
    rotate_left
    · intro w' _
      go_simp
      all_goals (with_reducible rfl)
    try simp only [Act.put, List.setIfInBounds_toArray, List.set_cons_zero, List.set_cons_succ]
    refine takeP (i := 14) (dst := (some 46)) (v := ?_) rfl rfl (by kernel_rfl) (by kernel_rfl) (by kernel_rfl) (by decide) (fun _ _ _ h => h) (fun _ => hHeld) (Or.inl ⟨by rfl, ?_⟩) ?_
    rotate_left
    · intro w' _
      go_simp
      all_goals (with_reducible rfl)
    try simp only [Act.put, List.setIfInBounds_toArray, List.set_cons_zero, List.set_cons_succ]
    refine takeP (i := 15) (dst := (some 47)) (v := ?_) rfl rfl (by kernel_rfl) (by kernel_rfl) (by kernel_rfl) (by decide) (fun _ _ _ h => h) (fun _ => hHeld) (Or.inl ⟨by rfl, ?_⟩) ?_
    rotate_left
    · intro w' _
      go_simp
      all_goals (with_reducible rfl)
    try simp only [Act.put, List.setIfInBounds_toArray, List.set_cons_zero, List.set_cons_succ]
    refine takeP (i := 16) (dst := (some 48)) (v := ?_) rfl rfl (by kernel_rfl) (by kernel_rfl) (by kernel_rfl) (by decide) (fun _ _ _ h => h) (fun _ => hHeld) (Or.inl ⟨by rfl, ?_⟩) ?_
    rotate_left
    · intro w' _
      go_simp
      all_goals (with_reducible rfl)
    try simp only [Act.put, List.setIfInBounds_toArray, List.set_cons_zero, List.set_cons_succ]
    refine takeP (i := 17) (dst := (some 49)) (v := ?_) rfl rfl (by kernel_rfl) (by kernel_rfl) (by kernel_rfl) (by decide) (fun _ _ _ h => h) (fun _ => hHeld) (Or.inl ⟨by rfl, ?_⟩) ?_
    rotate_left
    · intro w' _
      go_simp
      all_goals (with_reducible rfl)
    try simp only [Act.put, List.setIfInBounds_toArray, List.set_cons_zero, List.set_cons_succ]
    refine takeP (i := 18) (dst := (some 50)) (v := ?_) rfl rfl (by kernel_rfl) (by kernel_rfl) (by kernel_rfl) (by decide) (fun _ _ _ h => h) (fun _ => hHeld) (Or.inl ⟨by rfl, ?_⟩) ?_
    rotate_left
    · intro w' _
      go_simp
      all_goals (with_reducible rfl)
    try simp only [Act.put, List.setIfInBounds_toArray, List.set_cons_zero, List.set_cons_succ]
    refine takeP (i := 19) (dst := (some 51)) (v := ?_) rfl rfl (by kernel_rfl) (by kernel_rfl) (by kernel_rfl) (by decide) (fun _ _ _ h => h) (fun _ => hHeld) (Or.inl ⟨by rfl, ?_⟩) ?_
    rotate_left
    · intro w' _
      go_simp
      all_goals (with_reducible rfl)
    try simp only [Act.put, List.setIfInBounds_toArray, List.set_cons_zero, List.set_cons_succ]
    refine takeP (i := 20) (dst := (some 52)) (v := ?_) rfl rfl (by kernel_rfl) (by kernel_rfl) (by kernel_rfl) (by decide) (fun _ _ _ h => h) (fun _ => hHeld) (Or.inl ⟨by rfl, ?_⟩) ?_
    rotate_left
    · intro w' _
      go_simp
      all_goals (with_reducible rfl)
    try simp only [Act.put, List.setIfInBounds_toArray, List.set_cons_zero, List.set_cons_succ]
    refine goK (i := 21) (dst := (some 53)) (by kernel_rfl) rfl rfl (by rfl) (fun o hop hdst => ?_)
    refine wp_callC Tryd.func30 (by kernel_rfl) (by kernel_rfl) (hop.trans rfl) (by first | rfl | (simp [Act.eval]; done) | (simp [Act.eval]; rfl) | (simp [Act.eval]; exact ⟨rfl, rfl⟩)) (HLN.out _) ?_
    rintro e w1 ⟨rfl, rfl⟩
    refine ⟨_, rfl, fun _ => hHeld, ?_⟩
    have hHeld := hHeld
    have HF := HF
    simp only [hdst, Act.put, List.setIfInBounds_toArray, List.set_cons_zero, List.set_cons_succ]
    clear hop hdst o
    refine takeP (i := 22) (dst := (some 54)) (v := ?_) rfl rfl (by kernel_rfl) (by kernel_rfl) (by kernel_rfl) (by decide) (fun _ _ _ h => h) (fun _ => hHeld) (Or.inl ⟨by rfl, ?_⟩) ?_
    rotate_left
    · intro w' _
      go_simp
      all_goals (with_reducible rfl)
    try simp only [Act.put, List.setIfInBounds_toArray, List.set_cons_zero, List.set_cons_succ]
    refine takeP (i := 23) (dst := (some 55)) (v := ?_) rfl rfl (by kernel_rfl) (by kernel_rfl) (by kernel_rfl) (by decide) (fun _ _ _ h => h) (fun _ => hHeld) (Or.inl ⟨by rfl, ?_⟩) ?_
    rotate_left
    · intro w' _
      go_simp
      all_goals (with_reducible rfl)
    try simp only [Act.put, List.setIfInBounds_toArray, List.set_cons_zero, List.set_cons_succ]
    refine doneK (by kernel_rfl) ?_ _
    have HS := Lib.hid HF
    clear HF hHeld
    by_cases hm : 0 ≤ m ∧ m ≤ (l.length : Int)
    · obtain ⟨M, rfl⟩ : ∃ M : Nat, m = M := ⟨m.toNat, by omega⟩
      have hM : M ≤ l.length := by omega
      have HPR := Lib.hid (fun W (k : Kp [] w W) => proof_all l (some ⟨b, off, none⟩) c M W (HR.out.below k) (by omega) hM (HL.out.below k) (Nat.le_trans h2 k.size))
      have htk := HR.out.take M c hM (by have := HR.out.le; omega) (Nat.le_refl _)
      rw [hsc_take l M hM] at htk
      have HRT := Lib.hid (fun W (k : Kp [] w W) => root_any (l.take M) (some ⟨b, off, none⟩) c W (by rw [show (l.take M).length = M by rw [List.length_take]; omega]; exact htk.below k) (HL.out.below k) (Nat.le_trans h2 k.size))
      rw [show (l.take M).length = M by rw [List.length_take]; omega] at HRT
      have hon := on_right l M hM (by omega)
      obtain ⟨q, hq⟩ : ∃ q, q = proofA l M := ⟨_, rfl⟩
      rw [← hq] at HPR hon
      have HON := Lib.hid (fun W (k : Kp [] w W) (a2 : Option Addr) (c2 : Nat) (hrd : Rd W a2 q.length c2 32 (hsc q)) => on_good M l.length (rootH (l.take M)) (rootH l) q a2 c2 W hrd hM (by omega) (HL.out.below k) (Nat.le_trans h2 k.size))
      rw [hon] at HON
      obtain ⟨rm, hrm⟩ : ∃ r, r = rootH (l.take M) := ⟨_, rfl⟩
      rw [← hrm] at HRT HON
      rw [HRTE.out] at HON
      obtain ⟨m0, m1⟩ := hm
      have hcl : l.length ≤ c := HR.out.le
      have hMc : (M : Int) ≤ (c : Int) := by omega
      clear htk hon hq hrm
      go_wp2_with fail
      refine (HPR.out _ HS.out.kp).mono ?_
      rintro e w1 ⟨v, rfl, a2, c2, rfl, o2, f2, k2⟩
      have HS := Lib.hid (HS.out.addRow k2 o2 f2)
      clear o2 f2 k2
      go_wp2_with fail
      have HF0 := HS.out.drew
      clear HS
      refine regionK 15 (fun W => St [] w [⟨g7, hvA rt, 38⟩] [⟨38, 32, a2, q.length, c2, hsc q⟩, ⟨38, 32, a1, p.length, c1, hsc p⟩] W) (by kernel_rfl) HF0 (fun hHeld => ?_)
      have HF := HF0
      clear HF0
      refine takeP (i := 0) (dst := (some 70)) (v := ?_) rfl rfl (by kernel_rfl) (by kernel_rfl) (by kernel_rfl) (by decide) (fun _ _ _ h => h) (fun _ => hHeld) (Or.inl ⟨by rfl, ?_⟩) ?_
      rotate_left
      · intro w' _
        go_simp
        all_goals (with_reducible rfl)
      try simp only [Act.put, List.setIfInBounds_toArray, List.set_cons_zero, List.set_cons_succ]
      refine takeP (i := 1) (dst := (some 71)) (v := ?_) rfl rfl (by kernel_rfl) (by kernel_rfl) (by kernel_rfl) (by decide) (fun _ _ _ h => h) (fun _ => hHeld) (Or.inl ⟨by rfl, ?_⟩) ?_
      rotate_left
      · intro w' _
        go_simp
        all_goals (with_reducible rfl)
      try simp only [Act.put, List.setIfInBounds_toArray, List.set_cons_zero, List.set_cons_succ]
      refine takeP (i := 2) (dst := (some 72)) (v := ?_) rfl rfl (by kernel_rfl) (by kernel_rfl) (by kernel_rfl) (by decide) (fun _ _ _ h => h) (fun _ => hHeld) (Or.inl ⟨by rfl, ?_⟩) ?_
      rotate_left
      · intro w' _
        go_simp
        all_goals (with_reducible rfl)
      try simp only [Act.put, List.setIfInBounds_toArray, List.set_cons_zero, List.set_cons_succ]
      refine takeP (i := 3) (dst := (some 73)) (v := ?_) rfl rfl (by kernel_rfl) (by kernel_rfl) (by kernel_rfl) (by decide) (fun _ _ _ h => h) (fun _ => hHeld) (Or.inl ⟨by rfl, ?_⟩) ?_
      rotate_left
      · intro w' _
        go_simp
        all_goals (with_reducible rfl)
      try simp only [Act.put, List.setIfInBounds_toArray, List.set_cons_zero, List.set_cons_succ]
      refine takeP (i := 4) (dst := (some 74)) (v := ?_) rfl rfl (by kernel_rfl) (by kernel_rfl) (by kernel_rfl) (by decide) (fun _ _ _ h => h) (fun _ => hHeld) (Or.inl ⟨by rfl, ?_⟩) ?_
      rotate_left
      · intro w' _
        go_simp
        all_goals (with_reducible rfl)
      try simp only [Act.put, List.setIfInBounds_toArray, List.set_cons_zero, List.set_cons_succ]
      refine takeP (i := 5) (dst := (some 75)) (v := ?_) rfl rfl (by kernel_rfl) (by kernel_rfl) (by kernel_rfl) (by decide) (fun _ _ _ h => h) (fun _ => hHeld) (Or.inl ⟨by rfl, ?_⟩) ?_
      rotate_left
      · intro w' _
        go_simp
        all_goals (with_reducible rfl)
      try simp only [Act.put, List.setIfInBounds_toArray, List.set_cons_zero, List.set_cons_succ]
      refine takeP (i := 6) (dst := (some 76)) (v := ?_) rfl rfl (by kernel_rfl) (by kernel_rfl) (by kernel_rfl) (by decide) (fun _ _ _ h => h) (fun _ => hHeld) (Or.inl ⟨by rfl, ?_⟩) ?_
      rotate_left
      · intro w' _
        go_simp
        all_goals (with_reducible rfl)
      try simp only [Act.put, List.setIfInBounds_toArray, List.set_cons_zero, List.set_cons_succ]
      refine takeP (i := 7) (dst := (some 77)) (v := ?_) rfl rfl (by kernel_rfl) (by kernel_rfl) (by kernel_rfl) (by decide) (fun _ _ _ h => h) (fun _ => hHeld) (Or.inl ⟨by rfl, ?_⟩) ?_
      rotate_left
      · intro w' _
        go_simp
        all_goals (with_reducible rfl)
      try simp only [Act.put, List.setIfInBounds_toArray, List.set_cons_zero, List.set_cons_succ]
      refine takeP (i := 8) (dst := (some 78)) (v := ?_) rfl rfl (by kernel_rfl) (by kernel_rfl) (by kernel_rfl) (by decide) (fun _ _ _ h => h) (fun _ => hHeld) (Or.inl ⟨by rfl, ?_⟩) ?_
      rotate_left
      · intro w' _
        go_simp
        all_goals (with_reducible rfl)
      try simp only [Act.put, List.setIfInBounds_toArray, List.set_cons_zero, List.set_cons_succ]
      refine takeK (i := 10) (dst := (some 80)) rfl rfl (by kernel_rfl) (by kernel_rfl) (by kernel_rfl) (by kernel_rfl) (by kernel_rfl) (fun _ _ _ h => h) hHeld (yields_get Tryd.aghash (by rfl) rfl rfl (hcs_length _) (fun w h => h.rangeH (g := g7) (x := rt) (t := 38) (by simp))) ?_
      try simp only [Act.put, List.setIfInBounds_toArray, List.set_cons_zero, List.set_cons_succ, hcsA]
      refine takeP (i := 11) (dst := (some 81)) (v := ?_) rfl rfl (by kernel_rfl) (by kernel_rfl) (by kernel_rfl) (by decide) (fun _ _ _ h => h) (fun _ => hHeld) (Or.inl ⟨by rfl, ?_⟩) ?_
      rotate_left
      · intro w' _
        go_simp
        all_goals (with_reducible rfl)
      try simp only [Act.put, List.setIfInBounds_toArray, List.set_cons_zero, List.set_cons_succ]
      refine goK (i := 9) (dst := (some 79)) (by kernel_rfl) rfl rfl (by rfl) (fun o hop hdst => ?_)
      refine wp_callC Tryd.func23 (by kernel_rfl) (by kernel_rfl) (hop.trans rfl) (by first | rfl | (simp [Act.eval]; done) | (simp [Act.eval]; rfl) | (simp [Act.eval]; exact ⟨rfl, rfl⟩)) (HRT.out _ HF.kp) ?_
      rintro e w1 ⟨rfl, k1⟩
      refine ⟨_, rfl, fun _ => hHeld.call k1, ?_⟩
      have hHeld := hHeld.call k1
      have HF := HF.call k1
      clear k1
      simp only [hdst, Act.put, List.setIfInBounds_toArray, List.set_cons_zero, List.set_cons_succ]
      clear hop hdst o
      refine goK (i := 12) (dst := (some 82)) (by kernel_rfl) rfl rfl (by rfl) (fun o hop hdst => ?_)
      refine wp_callC Tryd.func36 (by kernel_rfl) (by kernel_rfl) (hop.trans rfl) (by first | rfl | (simp [Act.eval]; done) | (simp [Act.eval]; rfl) | (simp [Act.eval]; exact ⟨rfl, rfl⟩)) (HON.out _ HF.kp a2 c2 (own_rd (HF.row ⟨38, 32, a2, q.length, c2, hsc q⟩ (by simp)))) ?_
      rintro e w1 ⟨rfl, k1⟩
      refine ⟨_, rfl, fun _ => hHeld.call k1, ?_⟩
      have hHeld := hHeld.call k1
      have HF := HF.call k1
      clear k1
      simp only [hdst, Act.put, List.setIfInBounds_toArray, List.set_cons_zero, List.set_cons_succ]
      clear hop hdst o
      refine takeP (i := 13) (dst := (some 83)) (v := ?_) rfl rfl (by kernel_rfl) (by kernel_rfl) (by kernel_rfl) (by decide) (fun _ _ _ h => h) (fun _ => hHeld) (Or.inl ⟨by rfl, ?_⟩) ?_
      rotate_left
      · intro w' _
        go_simp
        all_goals (with_reducible rfl)
      try simp only [Act.put, List.setIfInBounds_toArray, List.set_cons_zero, List.set_cons_succ]
      refine takeP (i := 14) (dst := (some 84)) (v := ?_) rfl rfl (by kernel_rfl) (by kernel_rfl) (by kernel_rfl) (by decide) (fun _ _ _ h => h) (fun _ => hHeld) (Or.inl ⟨by rfl, ?_⟩) ?_
      rotate_left
      · intro w' _
        go_simp
        all_goals (with_reducible rfl)
      try simp only [Act.put, List.setIfInBounds_toArray, List.set_cons_zero, List.set_cons_succ]
      refine doneK (by kernel_rfl) ?_ _
      have HS := Lib.hid HF
      clear HF hHeld
      go_wp2_with fail
      refine (awake8_any _ (HL.out.below HS.out.kp) (Nat.le_trans h2 HS.out.kp.size)).mono ?_
      rintro e w9 ⟨rfl, k9⟩
      have K9 := Lib.hid (HS.out.kp.trans k9 (by simp))
      clear k9
      go_wp2
      go_ret
      exact ⟨rfl, K9.out⟩
    · have hm' : ¬ m ≥ 0 ∨ (m ≥ 0 ∧ ¬ m ≤ (l.length : Int)) := by omega
      clear hm
      rcases hm' with m0 | ⟨m0, m1⟩
      all_goals
        go_wp2_with fail
        refine (awake8_any _ (HL.out.below HS.out.kp) (Nat.le_trans h2 HS.out.kp.size)).mono ?_
        rintro e w9 ⟨rfl, k9⟩
        have K9 := Lib.hid (HS.out.kp.trans k9 (by simp))
        clear k9
        go_wp2
        go_ret
        exact ⟨rfl, K9.out⟩
  · have hi' : ¬ i ≥ 0 ∨ (i ≥ 0 ∧ ¬ i < (l.length : Int)) := by omega
    clear hi
    rcases hi' with i0 | ⟨i0, i1⟩
    all_goals
      by_cases hm : 0 ≤ m ∧ m ≤ (l.length : Int)
      · obtain ⟨M, rfl⟩ : ∃ M : Nat, m = M := ⟨m.toNat, by omega⟩
        have hM : M ≤ l.length := by omega
        have HPR := Lib.hid (fun W (k : Kp [] w W) => proof_all l a c M W (HR.out.below k) (by omega) hM (HL.out.below k) (Nat.le_trans h2 k.size))
        have htk := HR.out.take M c hM (by have := HR.out.le; omega) (Nat.le_refl _)
        rw [hsc_take l M hM] at htk
        have HRT := Lib.hid (fun W (k : Kp [] w W) => root_any (l.take M) a c W (by rw [show (l.take M).length = M by rw [List.length_take]; omega]; exact htk.below k) (HL.out.below k) (Nat.le_trans h2 k.size))
        rw [show (l.take M).length = M by rw [List.length_take]; omega] at HRT
        have hon := on_right l M hM (by omega)
        obtain ⟨q, hq⟩ : ∃ q, q = proofA l M := ⟨_, rfl⟩
        rw [← hq] at HPR hon
        have HON := Lib.hid (fun W (k : Kp [] w W) (a2 : Option Addr) (c2 : Nat) (hrd : Rd W a2 q.length c2 32 (hsc q)) => on_good M l.length (rootH (l.take M)) (rootH l) q a2 c2 W hrd hM (by omega) (HL.out.below k) (Nat.le_trans h2 k.size))
        rw [hon] at HON
        obtain ⟨rm, hrm⟩ : ∃ r, r = rootH (l.take M) := ⟨_, rfl⟩
        rw [← hrm] at HRT HON
        rw [HRTE.out] at HON
        obtain ⟨m0, m1⟩ := hm
        have hcl : l.length ≤ c := HR.out.le
        have hMc : (M : Int) ≤ (c : Int) := by omega
        clear htk hon hq hrm
        go_wp2_with (first
          | (have _t := tokN0; refine newS HS.out Tryd.zhash rfl rfl (c := hvA zeroH) rfl ?_; clear tokN0; intro g7 w1 hs; clear HS; have HS := Lib.hid hs; clear hs)
          | (refine isLoad rfl ?_; first | (refine getS0 HS.out Tryd.aghash rfl rfl rfl (by first | exact hvA_size _ | rfl) ?_) | (refine cellS0 HS.out Tryd.scint rfl rfl rfl rfl ?_) | (refine cellS0 HS.out Tryd.schashes rfl rfl rfl rfl ?_))
          | (refine isStore rfl ?_; first | (refine setS0 HS.out Tryd.aghash rfl rfl rfl (by first | exact hvA_size _ | rfl) rfl (by first | exact hvA_size _ | rfl) (hvA_one _) ?_; intro w1 hs; clear HS; have HS := Lib.hid hs; clear hs) | (refine setS0 HS.out Tryd.aghash rfl rfl rfl (by first | exact hvA_size _ | rfl) (c := hvA zeroH) rfl (hvA_size _) (hvA_one _) ?_; intro w1 hs; clear HS; have HS := Lib.hid hs; clear hs)))
        refine (HPR.out _ HS.out.kp).mono ?_
        rintro e w1 ⟨v, rfl, a2, c2, rfl, o2, f2, k2⟩
        have HS := Lib.hid (HS.out.addRow k2 o2 f2)
        clear o2 f2 k2
        go_wp2_with fail
        have HF0 := HS.out.drew
        clear HS
        refine regionK 15 (fun W => St [] w [⟨g7, hvA rt, 38⟩] [⟨38, 32, a2, q.length, c2, hsc q⟩] W) (by kernel_rfl) HF0 (fun hHeld => ?_)
        have HF := HF0
        clear HF0
        refine takeP (i := 0) (dst := (some 70)) (v := ?_) rfl rfl (by kernel_rfl) (by kernel_rfl) (by kernel_rfl) (by decide) (fun _ _ _ h => h) (fun _ => hHeld) (Or.inl ⟨by rfl, ?_⟩) ?_
        rotate_left
        · intro w' _
          go_simp
          all_goals (with_reducible rfl)
        try simp only [Act.put, List.setIfInBounds_toArray, List.set_cons_zero, List.set_cons_succ]
        refine takeP (i := 1) (dst := (some 71)) (v := ?_) rfl rfl (by kernel_rfl) (by kernel_rfl) (by kernel_rfl) (by decide) (fun _ _ _ h => h) (fun _ => hHeld) (Or.inl ⟨by rfl, ?_⟩) ?_
        rotate_left
        · intro w' _
          go_simp
          all_goals (with_reducible rfl)
        try simp only [Act.put, List.setIfInBounds_toArray, List.set_cons_zero, List.set_cons_succ]
        refine takeP (i := 2) (dst := (some 72)) (v := ?_) rfl rfl (by kernel_rfl) (by kernel_rfl) (by kernel_rfl) (by decide) (fun _ _ _ h => h) (fun _ => hHeld) (Or.inl ⟨by rfl, ?_⟩) ?_
        rotate_left
        · intro w' _
          go_simp
          all_goals (with_reducible rfl)
        try simp only [Act.put, List.setIfInBounds_toArray, List.set_cons_zero, List.set_cons_succ]
        refine takeP (i := 3) (dst := (some 73)) (v := ?_) rfl rfl (by kernel_rfl) (by kernel_rfl) (by kernel_rfl) (by decide) (fun _ _ _ h => h) (fun _ => hHeld) (Or.inl ⟨by rfl, ?_⟩) ?_
        rotate_left
        · intro w' _
          go_simp
          all_goals (with_reducible rfl)
        try simp only [Act.put, List.setIfInBounds_toArray, List.set_cons_zero, List.set_cons_succ]
        refine takeP (i := 4) (dst := (some 74)) (v := ?_) rfl rfl (by kernel_rfl) (by kernel_rfl) (by kernel_rfl) (by decide) (fun _ _ _ h => h) (fun _ => hHeld) (Or.inl ⟨by rfl, ?_⟩) ?_
        rotate_left
        · intro w' _
          go_simp
          all_goals (with_reducible rfl)
        try simp only [Act.put, List.setIfInBounds_toArray, List.set_cons_zero, List.set_cons_succ]
        refine takeP (i := 5) (dst := (some 75)) (v := ?_) rfl rfl (by kernel_rfl) (by kernel_rfl) (by kernel_rfl) (by decide) (fun _ _ _ h => h) (fun _ => hHeld) (Or.inl ⟨by rfl, ?_⟩) ?_
        rotate_left
        · intro w' _
          go_simp
          all_goals (with_reducible rfl)
        try simp only [Act.put, List.setIfInBounds_toArray, List.set_cons_zero, List.set_cons_succ]
        refine takeP (i := 6) (dst := (some 76)) (v := ?_) rfl rfl (by kernel_rfl) (by kernel_rfl) (by kernel_rfl) (by decide) (fun _ _ _ h => h) (fun _ => hHeld) (Or.inl ⟨by rfl, ?_⟩) ?_
        rotate_left
        · intro w' _
          go_simp
          all_goals (with_reducible rfl)
        try simp only [Act.put, List.setIfInBounds_toArray, List.set_cons_zero, List.set_cons_succ]
        refine takeP (i := 7) (dst := (some 77)) (v := ?_) rfl rfl (by kernel_rfl) (by kernel_rfl) (by kernel_rfl) (by decide) (fun _ _ _ h => h) (fun _ => hHeld) (Or.inl ⟨by rfl, ?_⟩) ?_
        rotate_left
        · intro w' _
          go_simp
          all_goals (with_reducible rfl)
        try simp only [Act.put, List.setIfInBounds_toArray, List.set_cons_zero, List.set_cons_succ]
        refine takeP (i := 8) (dst := (some 78)) (v := ?_) rfl rfl (by kernel_rfl) (by kernel_rfl) (by kernel_rfl) (by decide) (fun _ _ _ h => h) (fun _ => hHeld) (Or.inl ⟨by rfl, ?_⟩) ?_
        rotate_left
        · intro w' _
          go_simp
          all_goals (with_reducible rfl)
        try simp only [Act.put, List.setIfInBounds_toArray, List.set_cons_zero, List.set_cons_succ]
        refine takeK (i := 10) (dst := (some 80)) rfl rfl (by kernel_rfl) (by kernel_rfl) (by kernel_rfl) (by kernel_rfl) (by kernel_rfl) (fun _ _ _ h => h) hHeld (yields_get Tryd.aghash (by rfl) rfl rfl (hcs_length _) (fun w h => h.rangeH (g := g7) (x := rt) (t := 38) (by simp))) ?_
        try simp only [Act.put, List.setIfInBounds_toArray, List.set_cons_zero, List.set_cons_succ, hcsA]
        refine takeP (i := 11) (dst := (some 81)) (v := ?_) rfl rfl (by kernel_rfl) (by kernel_rfl) (by kernel_rfl) (by decide) (fun _ _ _ h => h) (fun _ => hHeld) (Or.inl ⟨by rfl, ?_⟩) ?_
        rotate_left
        · intro w' _
          go_simp
          all_goals (with_reducible rfl)
        try simp only [Act.put, List.setIfInBounds_toArray, List.set_cons_zero, List.set_cons_succ]
        refine goK (i := 9) (dst := (some 79)) (by kernel_rfl) rfl rfl (by rfl) (fun o hop hdst => ?_)
        refine wp_callC Tryd.func23 (by kernel_rfl) (by kernel_rfl) (hop.trans rfl) (by first | rfl | (simp [Act.eval]; done) | (simp [Act.eval]; rfl) | (simp [Act.eval]; exact ⟨rfl, rfl⟩)) (HRT.out _ HF.kp) ?_
        rintro e w1 ⟨rfl, k1⟩
        refine ⟨_, rfl, fun _ => hHeld.call k1, ?_⟩
        have hHeld := hHeld.call k1
        have HF := HF.call k1
        clear k1
        simp only [hdst, Act.put, List.setIfInBounds_toArray, List.set_cons_zero, List.set_cons_succ]
        clear hop hdst o
        refine goK (i := 12) (dst := (some 82)) (by kernel_rfl) rfl rfl (by rfl) (fun o hop hdst => ?_)
        refine wp_callC Tryd.func36 (by kernel_rfl) (by kernel_rfl) (hop.trans rfl) (by first | rfl | (simp [Act.eval]; done) | (simp [Act.eval]; rfl) | (simp [Act.eval]; exact ⟨rfl, rfl⟩)) (HON.out _ HF.kp a2 c2 (own_rd (HF.row ⟨38, 32, a2, q.length, c2, hsc q⟩ (by simp)))) ?_
        rintro e w1 ⟨rfl, k1⟩
        refine ⟨_, rfl, fun _ => hHeld.call k1, ?_⟩
        have hHeld := hHeld.call k1
        have HF := HF.call k1
        clear k1
        simp only [hdst, Act.put, List.setIfInBounds_toArray, List.set_cons_zero, List.set_cons_succ]
        clear hop hdst o
        refine takeP (i := 13) (dst := (some 83)) (v := ?_) rfl rfl (by kernel_rfl) (by kernel_rfl) (by kernel_rfl) (by decide) (fun _ _ _ h => h) (fun _ => hHeld) (Or.inl ⟨by rfl, ?_⟩) ?_
        rotate_left
        · intro w' _
          go_simp
          all_goals (with_reducible rfl)
        try simp only [Act.put, List.setIfInBounds_toArray, List.set_cons_zero, List.set_cons_succ]
        refine takeP (i := 14) (dst := (some 84)) (v := ?_) rfl rfl (by kernel_rfl) (by kernel_rfl) (by kernel_rfl) (by decide) (fun _ _ _ h => h) (fun _ => hHeld) (Or.inl ⟨by rfl, ?_⟩) ?_
        rotate_left
        · intro w' _
          go_simp
          all_goals (with_reducible rfl)
        try simp only [Act.put, List.setIfInBounds_toArray, List.set_cons_zero, List.set_cons_succ]
        refine doneK (by kernel_rfl) ?_ _
        have HS := Lib.hid HF
        clear HF hHeld
        go_wp2_with fail
        refine (awake8_any _ (HL.out.below HS.out.kp) (Nat.le_trans h2 HS.out.kp.size)).mono ?_
        rintro e w9 ⟨rfl, k9⟩
        have K9 := Lib.hid (HS.out.kp.trans k9 (by simp))
        clear k9
        go_wp2
        go_ret
        exact ⟨rfl, K9.out⟩
      · have hm' : ¬ m ≥ 0 ∨ (m ≥ 0 ∧ ¬ m ≤ (l.length : Int)) := by omega
        clear hm
        rcases hm' with m0 | ⟨m0, m1⟩
        all_goals
          go_wp2_with (first
          | (have _t := tokN0; refine newS HS.out Tryd.zhash rfl rfl (c := hvA zeroH) rfl ?_; clear tokN0; intro g7 w1 hs; clear HS; have HS := Lib.hid hs; clear hs)
          | (refine isLoad rfl ?_; first | (refine getS0 HS.out Tryd.aghash rfl rfl rfl (by first | exact hvA_size _ | rfl) ?_) | (refine cellS0 HS.out Tryd.scint rfl rfl rfl rfl ?_) | (refine cellS0 HS.out Tryd.schashes rfl rfl rfl rfl ?_))
          | (refine isStore rfl ?_; first | (refine setS0 HS.out Tryd.aghash rfl rfl rfl (by first | exact hvA_size _ | rfl) rfl (by first | exact hvA_size _ | rfl) (hvA_one _) ?_; intro w1 hs; clear HS; have HS := Lib.hid hs; clear hs) | (refine setS0 HS.out Tryd.aghash rfl rfl rfl (by first | exact hvA_size _ | rfl) (c := hvA zeroH) rfl (hvA_size _) (hvA_one _) ?_; intro w1 hs; clear HS; have HS := Lib.hid hs; clear hs)))
          refine (awake8_any _ (HL.out.below HS.out.kp) (Nat.le_trans h2 HS.out.kp.size)).mono ?_
          rintro e w9 ⟨rfl, k9⟩
          have K9 := Lib.hid (HS.out.kp.trans k9 (by simp))
          clear k9
          go_wp2
          go_ret
          exact ⟨rfl, K9.out⟩

theorem walk (l : List Hsh) (a : Option Addr) (c : Nat) (i m : Int) (w : World) (hr : Rd w a l.length c 32 (hsc l)) (hL : Laid w) (h2 : 2 ≤ w.heap.size) :
    Calls Tryd.prog 12 #[.slice a l.length c, .int .i64 i, .int .i64 m] w fun e w' => e = .returned (.bool true) ∧ Kp [] w w' := by
  by_cases h : 70 < l.length
  · exact walk_big l a c i m w h (by have := hr.le; have := hr.max; unfold maxLen at this; omega) hL h2
  · exact walk_small l a c i m w hr (by omega) hL h2

set_option maxRecDepth 100000 in
theorem lifted (os : Os) (started : os.Started) (H : Type) (enc : TypeId × Value → H) :
    ReturnsInHanded {} Tryd.checked os 12 .any (fun w args => (Rows.proofRightSpec.pre enc Tryd.prog Tryd.f12 [] false w args ∧ laidMetH Tryd.prog laidL w) ∧ sizedMet enc Tryd.prog Tryd.f12 (OpenSpec.ofChange Rows.proofRightSpec) false w args)
      (Rows.proofRightSpec.post enc Tryd.prog Tryd.f12 false true false false) := by
  refine returnsInHanded_of_change_and (C := Tryd.checked) (X := fun w _ => laidMetH Tryd.prog laidL w) (fun _ _ _ hh h => h.of_heap hh) own started (by kernel_rfl) Tryd.func12
    (ChangeSpec.witness_shaped (enc := enc) (C := Tryd.checked) (os := os) (X := fun w _ => laidMetH Tryd.prog laidL w) false (World.doorLaid Tryd.prog 400 os) #[.slice none 0 0, .int .i64 0, .int .i64 0] 8 rfl (World.shaped_of_RefB (by kernel_rfl) (by kernel_rfl)) (by kernel_rfl) (by kernel_rfl) (by kernel_rfl) (door_met os _)) ?_
  intro W base args ds gs before hval0 hW _ _ hL _
  have hval : ∀ (j : Nat) t v, Tryd.f12.params[j]? = some t → args[j]? = some v → Value.okWide Tryd.prog W .any base t v := hval0
  have hW' := hW
  obtain ⟨p, q, hA0, hV, rfl, hfz, hnd⟩ := hW
  have hA : DataW.TrodAll enc Tryd.prog W 0 (fun _ => true) true Tryd.f12.params.toList args.toList ds p := hA0
  rw [Tryd.params12] at hA hval
  obtain ⟨v0, vs0, d0, ds0, p0, q0, hargs, rfl, rfl, h0, tr0⟩ := trodAll_cons hA
  obtain ⟨v1, vs1, d1, ds1, p1, q1, rfl, rfl, rfl, h1, tr1⟩ := trodAll_cons tr0
  obtain ⟨v2, vs2, d2, ds2, p2, q2, rfl, rfl, rfl, h2, tr2⟩ := trodAll_cons tr1
  obtain ⟨rfl, rfl, rfl⟩ := trodAll_nil tr2
  obtain rfl : args = #[v0, v1, v2] := by cases args; simp_all
  obtain ⟨rfl, rfl⟩ := trodVars_none hV
  obtain ⟨aa0, nn0, cc0, rfl⟩ := okWide_slice Tryd.underlying25 (hval 0 25 v0 rfl rfl)
  obtain ⟨a0, c0, l0, hc0, r0⟩ := reads_hashes Tryd.underlying25 Tryd.underlying38 Tryd.underlying5 (by kernel_rfl) (by kernel_rfl) (reads_arg h0)
  simp only [Value.cells, List.cons.injEq, Value.slice.injEq, and_true] at hc0
  obtain ⟨rfl, rfl, rfl⟩ := hc0
  obtain ⟨a1, rfl, rfl, rfl, w1⟩ := open_int Tryd.underlying3 (hval 1 3 v1 rfl rfl) h1
  have m1 : -9223372036854775808 ≤ a1 ∧ a1 ≤ 9223372036854775807 := by have h := w1; simp [Lit.wf] at h; exact ⟨by have := h.1; rw [show IntKind.i64.min = -9223372036854775808 from rfl] at this; exact this, h.2⟩
  obtain ⟨a2, rfl, rfl, rfl, w2⟩ := open_int Tryd.underlying3 (hval 2 3 v2 rfl rfl) h2
  have m2 : -9223372036854775808 ≤ a2 ∧ a2 ≤ 9223372036854775807 := by have h := w2; simp [Lit.wf] at h; exact ⟨by have := h.1; rw [show IntKind.i64.min = -9223372036854775808 from rfl] at this; exact this, h.2⟩
  obtain ⟨hLw, h2w⟩ := of_laid hL
  refine (walk l0 _ _ a1 a2 W r0 hLw h2w).mono fun e W' ⟨he, hg⟩ => ?_
  subst he
  exact ⟨_, rfl, law_post laidOut readable rfl Tryd.underlying4 rfl hW' rfl rfl rfl hg⟩

theorem over : Rows.ProofRightSaid :=
  OpenClaim.holds_of_wide 12 Tryd.f12 rfl rfl rfl rfl rfl rfl rfl ⟨rfl, rfl, rfl, rfl, rfl⟩ rfl rfl rfl rfl rfl (by kernel_rfl) Tryd.func12 (by kernel_rfl)
    (of_decide_eq_true (by kernel_rfl)) (by unfold Func.isWrapper; rw [if_neg (by decide +kernel)]; exact ⟨rfl, rfl⟩)
    (fun os started H enc _ => lifted os started H enc)

theorem proved : Rows.ProofRightCardSaid :=
  Claim7.holds_tied_plain_at .later [] [.data, .data] true (true, "ccdb04746241078eb1d7e4e9e80e33161d1e694d2b1da2ba8b10f0c43722e414") false
    over (fun _ h => by cases h) (by kernel_rfl) (fun _ h => by cases h) proofRight_row_tie rfl ⟨rfl, rfl⟩ (by kernel_rfl) rfl
    (fun f fn hf hfn => by
      obtain rfl : f = 12 := Option.some.inj ((show Tryd.prog.funcNamed "syngraph/syngraphlaw08.ProofRight" = some 12 by kernel_rfl).symm.trans hf) |>.symm
      obtain rfl : fn = Tryd.f12 := (Option.some.inj (Tryd.func12.symm.trans hfn)).symm
      exact ⟨by kernel_rfl, fun j t ht => by
        have hm := Array.mem_of_getElem? ht
        rw [Tryd.params12] at hm
        simp only [List.mem_toArray, List.mem_cons, List.not_mem_nil, or_false] at hm
        rcases hm with rfl | rfl | rfl
        · exact (show Tryd.prog.wantsStandIn 25 = false by kernel_rfl)
        · exact (show Tryd.prog.wantsStandIn 3 = false by kernel_rfl)
        · exact (show Tryd.prog.wantsStandIn 3 = false by kernel_rfl)⟩)
    (by kernel_rfl)
end Go.Proofs.YtkjdnpalafldhaaDoor.proofRight
