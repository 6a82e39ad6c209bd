import Derived.Test.YtngdbblgnimogaaThing1
namespace Go.Proofs.Ytngdbblgnimogaa
open Go.RowKit

theorem thB_0 {x : Th} (h : x.kind = 0) : thB x = be 8 x.n := by simp [thB, h]
theorem thB_1 {x : Th} (h : x.kind = 1) : thB x = be 4 x.text.size ++ sl x.text := by simp [thB, h]
theorem thB_2 {x : Th} (h : x.kind = 2) : thB x = x.hash.1 := by simp [thB, h]
theorem thB_3 {x : Th} (h : x.kind = 3) : thB x = be 4 x.hs.length ++ hb x.hs := by simp [thB, h]
theorem thB_4 {x : Th} (h : x.kind = 4) : thB x = [if x.flag then 1 else 0] := by simp [thB, h]
theorem thB_5 {x : Th} (h0 : ¬ x.kind = 0) (h1 : ¬ x.kind = 1) (h2 : ¬ x.kind = 2) (h3 : ¬ x.kind = 3) (h4 : ¬ x.kind = 4) : thB x = [] := by simp [thB, h0, h1, h2, h3, h4]

/-- Bytes to be read, in memory made anew. -/
def NewR (w : World) (e : Ending) (w' : World) (bs : List UInt8) : Prop :=
  ∃ a c, e = .returned (.slice a bs.length c) ∧ Rd w' a bs.length c 1 (bcs bs) ∧ (∀ x ∈ aF a, w.heap.size ≤ x) ∧ Kp [] w w'

theorem Try.trows : ∃ i, SlT Try.prog 65 38 i (hv zeroH) 32 32 := SlT.mk' Try.underlying65 (by kernel_rfl) (hvA_size _) (by decide)

set_option maxHeartbeats 1000000 in
theorem thbytes_any (x : Th) (w : World) (h : ThOk w x) :
    Calls Try.prog 24 #[.agg (thA x)] w fun e w' => NewR w e w' (thB x) := by
  have hbx := box_new w x
  have hkw : Kp [] w (w.alloc (.cells (thA x) 48)) := (Kp.refl [] w).alloc _
  have HK := Lib.hid hkw
  have HB := Lib.hid hbx
  have HX := Lib.hid h
  have c0 := hbx.cell (thC_0 x)
  have c1 := hbx.cell (thC_1 x)
  have c2 := hbx.cell (thC_2 x)
  have c35 := hbx.cell (thC_35 x)
  have c36 := hbx.cell (thC_36 x)
  clear hbx hkw h
  by_cases k0 : x.kind = 0
  · rw [thB_0 k0]
    rw [k0] at c0
    have HK0 := Lib.hid k0
    clear k0
    go_enter Try.func24, Try.ntmps24
    go_wp2_with fail
    refine (rint_any x.n _).mono ?_
    rintro e w1 ⟨a, c, rfl, h1, h2, h3⟩
    have H1 := Lib.hid h1
    have H2 := Lib.hid h2
    have H3 := Lib.hid h3
    rw [be_length]
    clear h1 h2 h3
    go_wp2
    go_ret
    exact ⟨a, c, by rw [be_length]; rfl, own_rd H1.out, fun z hz => Nat.le_trans HK.out.size (H2.out z hz), HK.out.trans H3.out (by simp)⟩
  by_cases k1 : x.kind = 1
  · rw [thB_1 k1]
    rw [k1] at c0
    have htx := HX.out.tx
    have HK0 := Lib.hid k1
    clear k0 k1
    go_enter Try.func24, Try.ntmps24
    go_wp2_with fail
    refine (rtext_any x.text _ (by omega)).mono ?_
    rintro e w1 ⟨a, c, rfl, h1, h2, h3⟩
    have H1 := Lib.hid h1
    have H2 := Lib.hid h2
    have H3 := Lib.hid h3
    obtain ⟨bs, hbs⟩ : ∃ bs, bs = be 4 x.text.size ++ sl x.text := ⟨_, rfl⟩
    rw [← hbs]
    have HBS := Lib.hid hbs
    clear h1 h2 h3 hbs
    go_wp2
    go_ret
    rw [← HBS.out] at H1 ⊢
    exact ⟨a, c, rfl, own_rd H1.out, fun z hz => Nat.le_trans HK.out.size (H2.out z hz), HK.out.trans H3.out (by simp)⟩
  by_cases k2 : x.kind = 2
  · rw [thB_2 k2]
    rw [k2] at c0
    have HK0 := Lib.hid k2
    clear k0 k1 k2
    go_enter Try.func24, Try.ntmps24
    go_wp2
    go_ret
    refine ⟨some ⟨w.heap.size, 3, none⟩, 32, by rw [x.hash.2]; rfl, ⟨by simp [bcs_length, x.hash.2], by rw [x.hash.2]; exact Nat.le_refl _, by simp [maxLen], by simp, fun j u hu => ⟨_, rfl, ?_⟩⟩, fun z hz => ?_, HK.out⟩
    · rw [Addr.add_mid]; exact HB.out.hash j u hu
    · simp [aF] at hz; omega
  by_cases k3 : x.kind = 3
  · rw [thB_3 k3]
    rw [k3] at c0
    have hhl := HX.out.hl
    have HK0 := Lib.hid k3
    clear k0 k1 k2 k3
    obtain ⟨i0, T0⟩ := Try.trows
    have T := Lib.hid T0
    clear T0
    go_enter Try.func24, Try.ntmps24
    go_wp2
    go_loopw [3, 5, 27] (fun v _ i wr => ∃ (k : Nat) (a2 : Option Addr) (c2 : Nat), k ≤ x.hs.length ∧ i = .int .i64 k ∧ v = .slice a2 k c2 ∧ wr.ownsRow 0 38 32 (.slice a2 k c2) k (hsc (x.hs.take k)) ∧ (∀ x ∈ aF a2, w.heap.size ≤ x) ∧ Kp [] w wr) (fun _ _ i _ => x.hs.length - (intOf i).toNat)
    case atStart => exact ⟨0, none, 0, by omega, rfl, rfl, World.ownsRow_nil _ _ _ _, by simp [aF], HK.out⟩
    case round =>
      obtain ⟨k, a2, c2, hk, rfl, rfl, hown, hF, hkp⟩ := hrel
      have HO := Lib.hid hown
      have HF := Lib.hid hF
      have HKP := Lib.hid hkp
      by_cases hlt : k < x.hs.length
      · have hrd := HX.out.rd.below hkp
        obtain ⟨b, off, hbo, hb', hcs⟩ := hrd.spot (by rw [hsc_length]; omega)
        have hra := rd_hash hcs k hlt
        obtain ⟨hh, hhd⟩ : ∃ hh, hh = x.hs[k] := ⟨_, rfl⟩
        rw [← hhd] at hra
        have HH := Lib.hid hhd
        have HRA := Lib.hid hra
        clear hown hF hkp hrd hcs hra hhd
        rw [hbo]
        go_wp2_with (first | (refine wpList_get_mid Try.thash rfl rfl HRA.out (hcs_length _) rfl ?_) | (refine wpList_set Try.thash rfl rfl (heap_alloc_new wr _) rfl (hvA_size hh) (hvA_one hh) rfl rfl ?_; intro w2 h2 k2 s2; have kk : Kp [] wr w2 := ((Kp.refl [] wr).alloc _).trans k2 (by simp); have HKK := Lib.hid kk; have HO2 := Lib.hid (own_kept HO.out kk (by simp)); clear kk k2 s2) | (refine wpList_get Try.thash rfl rfl h2 (hvA_size hh) rfl ?_) | (refine wpList_lit T.out rfl rfl [hv hh] rfl (by first | rfl | (simp [Act.eval]; rfl)) (hvs_size [hh]) (by simp) ?_) | (at_builtin; refine wpList_append_rd T.out rfl rfl rfl (HO2.out.alloc _) rfl (rd_alloc (m := 1) (by rw [flatV_one]; simp [hcs_length]) (by simp [maxLen])) (by rw [flatV_one]; exact hcs_one hh) (by omega) (by simp [maxLen]; omega) ?_))
        intro a' c' w3 hown hgrow hF3
        rw [flatV_one, show hsc (x.hs.take k) ++ hcs hh = hsc (x.hs.take (k + 1)) by rw [List.take_succ_eq_append_getElem hlt, hsc_snoc, HH.out]] at hown
        have HO3 := Lib.hid hown
        have HG3 := Lib.hid hgrow
        have HF3 := Lib.hid hF3
        clear hown hgrow hF3
        go_wp2
        go_roundw
        case rel =>
          refine ⟨k + 1, a', c', by omega, by go_num, rfl, HO3.out, fun z hz => ?_, ?_⟩
          · rcases HF3.out z hz with h | h
            · exact HF.out z h
            · have := HKP.out.size; have := HKK.out.size; omega
          · refine ((HKP.out.trans HKK.out (by simp)).alloc _).grown HG3.out fun z hz => .inr ?_
            cases a2 with
            | none => simp [Value.ownBlock] at hz
            | some b => simp [Value.ownBlock] at hz; exact HF.out z (by simp [aF, hz])
        case measure => simp [intOf]; omega
      · obtain rfl : k = x.hs.length := by omega
        rw [List.take_length] at hown
        have hrd := own_rd hown
        have HRD := Lib.hid hrd
        clear hown hF hkp hrd
        go_wp2_with fail
        refine (rhashes_any a2 c2 x.hs _ HRD.out (by omega)).mono ?_
        rintro e w1 ⟨a, c, rfl, h1, h2, h3⟩
        have H1 := Lib.hid h1
        have H2 := Lib.hid h2
        have H3 := Lib.hid h3
        obtain ⟨bs, hbs⟩ : ∃ bs, bs = be 4 x.hs.length ++ hb x.hs := ⟨_, rfl⟩
        rw [← hbs]
        have HBS := Lib.hid hbs
        clear h1 h2 h3 hbs
        go_wp2
        go_ret
        rw [← HBS.out] at H1 ⊢
        exact ⟨a, c, rfl, own_rd H1.out, fun z hz => Nat.le_trans HKP.out.size (H2.out z hz), HKP.out.trans H3.out (by simp)⟩
  by_cases k4 : x.kind = 4
  · rw [thB_4 k4]
    rw [k4] at c0
    have HK0 := Lib.hid k4
    clear k0 k1 k2 k3 k4
    obtain ⟨fl, hfl⟩ : ∃ fl, fl = x.flag := ⟨_, rfl⟩
    rw [← hfl] at c36 ⊢
    clear hfl
    cases fl
    all_goals
      go_enter Try.func24, Try.ntmps24
      go_wp2
      go_ret
    · exact ⟨_, 1, rfl, rd_block (m := 1) (heap_alloc2_new w _ _) rfl (by simp [maxLen]), fun z hz => by simp [aF] at hz; omega, HK.out.alloc _⟩
    · exact ⟨_, 1, rfl, rd_block (m := 1) (heap_alloc2_new w _ _) rfl (by simp [maxLen]), fun z hz => by simp [aF] at hz; omega, HK.out.alloc _⟩
  · rw [thB_5 k0 k1 k2 k3 k4]
    go_enter Try.func24, Try.ntmps24
    go_wp2
    go_ret
    exact ⟨none, 0, rfl, nil_rd _ 1, by simp [aF], HK.out⟩
end Go.Proofs.Ytngdbblgnimogaa
