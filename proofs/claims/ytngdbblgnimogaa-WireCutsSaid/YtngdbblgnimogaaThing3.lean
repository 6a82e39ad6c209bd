import Derived.Test.YtngdbblgnimogaaThing2
namespace Go.Proofs.Ytngdbblgnimogaa
open Go.RowKit

theorem OutAt.kept0 {w w' : World} {p : Nat} {bs : List UInt8} {F : List Nat} (h : OutAt w p bs F) (k : Kp [] w w') : OutAt w' p bs F := by
  obtain ⟨v, hv, rfl⟩ := h
  exact ⟨v, ⟨(k.block _ (lt_of_block hv.1) (by simp)).trans hv.1, own_kept hv.2 k (by simp)⟩, rfl⟩
theorem Adv.pre {F F' : List Nat} {w0 w w' : World} (h : Adv F F' w w') (k : Kp [] w0 w) : Adv F F' w0 w' :=
  ⟨(k.mono (by simp)).trans h.kp (fun x hx _ => hx), fun x hx => by
    rcases h.gr x hx with h1 | h1
    · exact .inl h1
    · right; have := k.size; omega⟩

set_option maxHeartbeats 1000000 in
theorem put_any (p : Nat) (bs : List UInt8) (F : List Nat) (x : Th) (w : World) (ho : OutAt w p bs F) (hl : bs.length ≤ 1073741824) (h : ThOk w x) (hF : 0 < x.hs.length → ∀ y ∈ aF x.ha, y ∉ F) :
    Calls Try.prog 23 #[.pointer (some ⟨p, 0, none⟩), .agg (thA x)] w fun e w' => e = .returned (.tuple #[]) ∧ ∃ F', OutAt w' p (bs ++ thB x) F' ∧ Adv F F' w w' := by
  have hbx := box_new w x
  have hkw : Kp [] w (w.alloc (.cells (thA x) 48)) := (Kp.refl [] w).alloc _
  have HO := Lib.hid (ho.kept0 hkw)
  have HFW := Lib.hid ho.flt
  have HK := Lib.hid hkw
  have HB := Lib.hid hbx
  have HX := Lib.hid h
  have HF := Lib.hid hF
  have c0 := hbx.cell (thC_0 x)
  have c1 := hbx.cell (thC_1 x)
  have c2 := hbx.cell (thC_2 x)
  have c35 := hbx.cell (thC_35 x)
  have c36 := hbx.cell (thC_36 x)
  clear hbx hkw h ho hF
  by_cases k0 : x.kind = 0
  · rw [thB_0 k0]
    rw [k0] at c0
    clear k0
    go_enter Try.func23, Try.ntmps23
    go_wp2_with fail
    refine (oint_any p bs F x.n _ HO.out (by omega)).mono ?_
    rintro e w1 ⟨rfl, F1, h1, h2⟩
    have H1 := Lib.hid h1
    have H2 := Lib.hid h2
    clear h1 h2
    go_wp2
    go_end0
    exact ⟨rfl, F1, H1.out, H2.out.pre HK.out⟩
  by_cases k1 : x.kind = 1
  · rw [thB_1 k1]
    rw [k1] at c0
    have htx := HX.out.tx
    clear k0 k1
    go_enter Try.func23, Try.ntmps23
    go_wp2_with fail
    refine (otext_any p bs F x.text _ HO.out (by omega) (by omega) (fun z hz => Nat.lt_of_lt_of_le (HFW.out z hz) HK.out.size)).mono ?_
    rintro e w1 ⟨rfl, F1, h1, h2⟩
    have H1 := Lib.hid h1
    have H2 := Lib.hid h2
    clear h1 h2
    go_wp2
    go_end0
    exact ⟨rfl, F1, H1.out, H2.out.pre HK.out⟩
  by_cases k2 : x.kind = 2
  · rw [thB_2 k2]
    rw [k2] at c0
    clear k0 k1 k2
    go_enter Try.func23, Try.ntmps23
    go_wp2_with (refine wpList_get_mid Try.thash rfl rfl HB.out.hash (hcs_length _) rfl ?_)
    refine (ohash_any p bs F x.hash _ HO.out (by omega)).mono ?_
    rintro e w1 ⟨rfl, F1, h1, h2⟩
    have H1 := Lib.hid h1
    have H2 := Lib.hid h2
    clear h1 h2
    go_wp2
    go_end0
    exact ⟨rfl, F1, H1.out, H2.out.pre HK.out⟩
  by_cases k3 : x.kind = 3
  · rw [thB_3 k3]
    rw [k3] at c0
    have hhl := HX.out.hl
    clear k0 k1 k2 k3
    go_enter Try.func23, Try.ntmps23
    go_wp2_with fail
    refine (ohashes_any p bs F x.ha x.hc x.hs _ HO.out (by omega) (HX.out.rd.below HK.out) (by omega) HF.out (fun z hz => Nat.lt_of_lt_of_le (HFW.out z hz) HK.out.size)).mono ?_
    rintro e w1 ⟨rfl, F1, h1, h2⟩
    have H1 := Lib.hid h1
    have H2 := Lib.hid h2
    clear h1 h2
    go_wp2
    go_end0
    exact ⟨rfl, F1, H1.out, H2.out.pre HK.out⟩
  by_cases k4 : x.kind = 4
  · rw [thB_4 k4]
    rw [k4] at c0
    clear k0 k1 k2 k3 k4
    obtain ⟨ys, hys⟩ : ∃ ys : List UInt8, ys = [if x.flag then 1 else 0] := ⟨_, rfl⟩
    rw [← hys]
    have HY := Lib.hid hys
    clear hys
    go_enter Try.func23, Try.ntmps23
    go_wp2_with fail
    refine (obool_any p bs F x.flag _ HO.out (by omega)).mono ?_
    rw [← HY.out]
    rintro e w1 ⟨rfl, F1, h1, h2⟩
    have H1 := Lib.hid h1
    have H2 := Lib.hid h2
    clear h1 h2
    go_wp2
    go_end0
    exact ⟨rfl, F1, H1.out, H2.out.pre HK.out⟩
  · rw [thB_5 k0 k1 k2 k3 k4]
    go_enter Try.func23, Try.ntmps23
    go_wp2
    go_end0
    exact ⟨rfl, F, by rw [List.append_nil]; exact HO.out, (Adv.refl _ _).pre HK.out⟩
end Go.Proofs.Ytngdbblgnimogaa
