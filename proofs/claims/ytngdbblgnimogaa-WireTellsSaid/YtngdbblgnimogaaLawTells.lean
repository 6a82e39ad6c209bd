/-
  For any list of things WireTells returns true: small ones have the bytes that the document says, one behind the other, and are told again as they were put; no condition.
-/
import Derived.Test.YtngdbblgnimogaaThing6
namespace Go.Proofs.Ytngdbblgnimogaa.wireTells
open Go.ChangeShapes Go.WideShapes Go.ChangeAt Go.RowKit Go.Proofs.Ytngdbblgnimogaa

theorem own : ownKnob Try.prog.godebug = none := by kernel_rfl
theorem laidOut : laidOutB Try.prog = true := by kernel_rfl
theorem readable : ∀ t ∈ Try.f6.params.toList, Try.prog.readableRec t = true ∧ t < Try.prog.types.size := by
  rw [Try.params6]
  intro t ht
  simp only [List.mem_cons, List.not_mem_nil, or_false] at ht
  rcases ht with rfl <;> exact ⟨by kernel_rfl, of_decide_eq_true (by kernel_rfl)⟩

theorem walk_no (a : Option Addr) (c : Nat) (l : List Th) (w : World) (hr : Rd w a l.length c 37 (ths l)) (hin : ∀ x ∈ l, ThIn w x) (hll : l.length ≤ 9223372036854775807) (hs : smallB l = false) :
    Calls Try.prog 6 #[.slice a l.length c] w fun e w' => e = .returned (.bool true) ∧ Kp [] w w' := by
  have HR := Lib.hid hr
  have HIN := Lib.hid hin
  have HS := Lib.hid hs
  clear hr hin hs
  go_enter Try.func6, Try.ntmps6
  go_wp2_with fail
  refine (small_any a c l _ HR.out HIN.out hll).mono ?_
  rw [HS.out]
  rintro e w1 ⟨rfl, k1⟩
  have K1 := Lib.hid k1
  clear k1
  go_wp2_with fail
  refine (awake_any _).mono ?_
  rintro e w2 ⟨rfl, k2⟩
  have K2 := Lib.hid k2
  clear k2
  go_wp2
  go_ret
  exact ⟨rfl, K1.out.trans K2.out (by simp)⟩

theorem smallB_out {l : List Th} (h : smallB l = true) : (∀ x ∈ l, x.text.size ≤ 300 ∧ x.hs.length ≤ 20) ∧ l.length ≤ 40 := by
  unfold smallB at h
  simp only [Bool.and_eq_true, List.all_eq_true, thSmall, decide_eq_true_eq] at h
  exact h

theorem OutAt.kept {w w' : World} {p : Nat} {bs : List UInt8} {F F0 : List Nat} (h : OutAt w p bs F) (k : Kp F0 w w') (hF : ∀ x ∈ F, x ∉ F0) : OutAt w' p bs F := by
  obtain ⟨v, hv, rfl⟩ := h
  exact ⟨v, ⟨(k.block _ (lt_of_block hv.1) (hF p (by simp))).trans hv.1, own_kept hv.2 k (fun x hx => hF x (by simp [hx]))⟩, rfl⟩
theorem row_kept {w w' : World} {a : Option Addr} {n c size e : Nat} {xs : List Value} {F0 : List Nat} (h : w.ownsRow 0 e size (.slice a n c) n xs) (k : Kp F0 w w') (hF : ∀ x ∈ aF a, x ∉ F0) : w'.ownsRow 0 e size (.slice a n c) n xs :=
  own_kept h k (by rw [rowF_slice]; exact hF)
theorem own_block {a : Option Addr} {n c : Nat} : Value.ownBlock (.slice a n c) = a.map (·.block) := by cases a <;> rfl

/-- The bytes that were told, by their cells. -/
theorem row_cells {w : World} {a : Option Addr} {c : Nat} {bs : List UInt8} (h : w.ownsRow 0 5 1 (.slice a bs.length c) bs.length (bcs bs)) :
    ∃ g, (0 < bs.length → a = some ⟨g, 0, none⟩) ∧ (∀ j, j < bs.length → ∃ u : UInt8, w.cell? ⟨g, j, none⟩ = some (bcell u)) ∧ (∀ j, j < bs.length → w.frozen? ⟨g, j, none⟩ = false) := by
  rcases h.2 with ⟨_, hn⟩ | ⟨g, cap, cur, hv, hb, hg, h1, h2, h3, h4⟩
  · exact ⟨0, fun hp => by omega, fun j hj => by omega, fun j hj => by omega⟩
  · simp at hv
    obtain ⟨rfl, rfl⟩ := hv
    have hrd := own_rd h
    refine ⟨g, fun _ => rfl, fun j hj => ⟨bs[j], ?_⟩, fun j hj => by simp [World.frozen?, hg]⟩
    obtain ⟨b, hb', hc⟩ := hrd.cells j (bcell bs[j]) (by simp [bcs, hj])
    simp only [Option.some.injEq] at hb'
    subst hb'
    rw [Addr.add_mid, Nat.zero_add] at hc
    exact hc

set_option maxHeartbeats 4000000 in
theorem walk_yes (a : Option Addr) (c : Nat) (l : List Th) (w : World) (hr : Rd w a l.length c 37 (ths l)) (hin : ∀ x ∈ l, ThIn w x) (hll : l.length ≤ 9223372036854775807) (hs : smallB l = true) :
    Calls Try.prog 6 #[.slice a l.length c] w fun e w' => e = .returned (.bool true) ∧ Kp [] w w' := by
  obtain ⟨hsm, hl40⟩ := smallB_out hs
  have hts : ∀ x ∈ l, ThS x := fun x hx => ⟨(hin x hx).i1, (hin x hx).i2, (hsm x hx).1, (hsm x hx).2⟩
  have HTS := Lib.hid hts
  have HLEN := Lib.hid (fun k => thsB_len (l.take k) (fun x hx => hts x (List.mem_of_mem_take hx)))
  have HR := Lib.hid hr
  have HIN := Lib.hid hin
  have HS := Lib.hid hs
  obtain ⟨i0, T⟩ := Try.tbytes
  have HT := Lib.hid T
  clear hr hin hs hsm hts T
  go_enter Try.func6, Try.ntmps6
  go_wp2_with fail
  refine (small_any a c l _ HR.out HIN.out hll).mono ?_
  rw [HS.out]
  rintro e w1 ⟨rfl, k1⟩
  have K1 := Lib.hid k1
  have HO1 := Lib.hid (out_new w1)
  have K1A := Lib.hid (k1.alloc (.cells #[.slice none 0 0] 24))
  have hw1 := k1.size
  clear k1
  obtain ⟨p, hp⟩ : ∃ p, p = w1.heap.size := ⟨_, rfl⟩
  have hpw : w.heap.size ≤ p := by omega
  go_wp2
  rw [← hp]
  rw [← hp] at HO1
  have HP := Lib.hid hp
  clear hp
  go_loopw [4, 6, 18] (fun v _ i wr => ∃ (k : Nat) (F' : List Nat) (a2 : Option Addr) (c2 : Nat), k ≤ l.length ∧ i = .int .i64 k ∧ v = .slice a2 (thsB (l.take k)).length c2 ∧ OutAt wr p (thsB (l.take k)) F' ∧ wr.ownsRow 0 5 1 (.slice a2 (thsB (l.take k)).length c2) (thsB (l.take k)).length (bcs (thsB (l.take k))) ∧ (∀ x ∈ F', w.heap.size ≤ x) ∧ (∀ x ∈ aF a2, w.heap.size ≤ x ∧ x ∉ F') ∧ Kp [] w wr) (fun _ _ i _ => l.length - (intOf i).toNat)
  case atStart => exact ⟨0, [p], none, 0, by omega, rfl, rfl, HO1.out, World.ownsRow_nil _ _ _ _, by simp; omega, by simp [aF], K1A.out⟩
  case round =>
    obtain ⟨k, F', a2, c2, hk, rfl, rfl, hO, hown, hF, hFa, hkp⟩ := hrel
    have hbl := HLEN.out k
    rw [List.length_take] at hbl
    obtain ⟨bs, hbs⟩ : ∃ bs, bs = thsB (l.take k) := ⟨_, rfl⟩
    rw [← hbs] at hO hown hbl ⊢
    have HBS := Lib.hid hbs
    have HO := Lib.hid hO
    have HOWN := Lib.hid hown
    have HF := Lib.hid hF
    have HFA := Lib.hid hFa
    have HKP := Lib.hid hkp
    have hbl2 : bs.length ≤ 28000 := by omega
    by_cases hlt : k < l.length
    · obtain ⟨b, off, rfl, _, hc⟩ := (HR.out.below hkp).spot (by rw [ths_length]; omega)
      have hrt := rd_thing hc k hlt
      have htk := thsB_take_succ l k hlt
      obtain ⟨x, hx⟩ : ∃ x, x = l[k] := ⟨_, rfl⟩
      rw [← hx] at hrt htk
      have HXI := Lib.hid (show x ∈ l by rw [hx]; exact List.getElem_mem hlt)
      have HTK := Lib.hid htk
      have HRT := Lib.hid hrt
      clear hc hrt hx hkp hO hown hF hFa htk hbs hbl
      go_wp2_with (first | (refine wpList_gets_mid Try.tthing rfl rfl HRT.out (thC_length _) rfl ?_) | (refine wpList_sets Try.tthing rfl rfl (heap_alloc_new wr _) rfl (thA_size x) (thA_one x) rfl rfl ?_; intro w2 h2 k2 s2; have KW := Lib.hid (kp_boxed k2 s2); have H2 := Lib.hid h2; clear h2 k2 s2) | (refine wpList_gets Try.tthing rfl rfl H2.out (thA_size x) rfl ?_))
      have hti := HIN.out x HXI.out
      have hts := HTS.out x HXI.out
      refine (put_any p bs F' x _ (OutAt.kept HO.out KW.out (by simp)) (by omega) ⟨hts.i1, hts.i2, hts.tx, hts.hl, (hti.rd.below HKP.out).below KW.out⟩ (fun hp0 y hy hh => by have := HF.out y hh; have := hti.rd.lt (by rw [hsc_length]; omega) y hy; omega)).mono ?_
      rintro e w3 ⟨rfl, F3, hO3, hA3⟩
      have HFL := Lib.hid (OutAt.flt HO.out)
      have HB3 := Lib.hid ((hA3.kp.block _ (lt_of_block H2.out) (fun hh => by have := HFL.out _ hh; omega)).trans H2.out)
      have hto : ThOk w3 x := ⟨hts.i1, hts.i2, hts.tx, hts.hl, ((hti.rd.below HKP.out).below KW.out).kept2 hA3.kp (fun hp0 y hy hh => by have := HF.out y hh; have := hti.rd.lt hp0 y hy; omega)⟩
      have HTO := Lib.hid hto
      have HO3 := Lib.hid hO3
      have HA3 := Lib.hid hA3
      have hF3 : ∀ y ∈ F3, w.heap.size ≤ y := hA3.all HF.out (Nat.le_trans HKP.out.size KW.out.size)
      have HF3 := Lib.hid hF3
      have HR3 := Lib.hid (row_kept (row_kept HOWN.out KW.out (by simp)) hA3.kp (fun y hy => (HFA.out y hy).2))
      have HFA3 := Lib.hid (show ∀ y ∈ aF a2, w.heap.size ≤ y ∧ y ∉ F3 from fun y hy => ⟨(HFA.out y hy).1, fun hh => by
        rcases hA3.gr y hh with h | h
        · exact (HFA.out y hy).2 h
        · have := (own_aF HOWN.out y hy).2; have := KW.out.size; omega⟩)
      clear hti hts hO3 hA3 hto hF3
      go_wp2_with (refine wpList_gets Try.tthing rfl rfl HB3.out (thA_size x) rfl ?_)
      refine (thbytes_any x _ HTO.out).mono ?_
      rintro e w4 ⟨a4, c4, rfl, r4, f4, k4⟩
      have hxl := thB_len (HTS.out x HXI.out)
      have R4 := Lib.hid r4
      have F4 := Lib.hid f4
      have K4 := Lib.hid k4
      have HR4 := Lib.hid (own_kept HR3.out k4 (by simp))
      clear r4 f4 k4
      go_wp2_with (at_builtin; refine wpList_append_rd HT.out rfl rfl rfl HR4.out rfl R4.out (bcs_one _) (by omega) (by simp [maxLen]; omega) ?_; intro a5 c5 w5 hown5 hgrow5 hg5)
      have hlen5 : bs.length + (thB x).length = (bs ++ thB x).length := by rw [List.length_append]
      rw [← bcs_app, hlen5] at hown5
      rw [hlen5]
      have HO5 := Lib.hid hown5
      have HG5 := Lib.hid hgrow5
      have HH5 := Lib.hid hg5
      clear hown5 hgrow5 hg5 hlen5
      go_roundw
      case rel =>
        have e1 : thsB (l.take (k + 1)) = bs ++ thB x := by rw [HTK.out, HBS.out]
        have k35 : Kp (aF a2) w3 w5 := (K4.out.mono (by simp)).grown HG5.out (fun z hz => by rw [own_block] at hz; cases a2 with | none => cases hz | some b => simp at hz; subst hz; simp [aF])
        refine ⟨k + 1, F3, a5, c5, by omega, by go_num, by rw [e1], by rw [e1]; exact OutAt.kept HO3.out k35 (fun y hy hh => (HFA3.out y hh).2 hy), by rw [e1]; exact HO5.out, HF3.out, fun y hy => ?_, ?_⟩
        · rcases HH5.out y hy with h | h
          · exact HFA3.out y h
          · have h3 := K4.out.size
            have h2 := HA3.out.kp.size
            have h1 := KW.out.size
            have h0 := HKP.out.size
            exact ⟨by omega, fun hh => by have := OutAt.flt HO3.out y hh; omega⟩
        · exact ((HKP.out.trans KW.out (by simp)).trans HA3.out.kp (fun y hy hh => by have := HF.out y hy; omega)).trans k35 (fun y hy hh => by have := (HFA3.out y hy).1; omega)
      case measure => simp [intOf]; omega
    · obtain rfl : k = l.length := by omega
      rw [List.take_length] at HBS
      clear hO hown hF hFa hkp hbs hbl
      go_wp2_with fail
      refine (oall_any p bs F' _ HO.out (by omega)).mono ?_
      rintro e w2 ⟨a3, c3, rfl, hown3, hF3, k3⟩
      have hr3 := own_rd hown3
      have hcv1 := conv_string (P := Try.prog) Try.underlying22 Try.underlying5 Try.underlying9 hr3
      have hcv2 := conv_string (P := Try.prog) Try.underlying22 Try.underlying5 Try.underlying9 ((own_rd HOWN.out).below k3)
      have HO3 := Lib.hid hown3
      have HF3 := Lib.hid hF3
      have K3 := Lib.hid k3
      have HR3 := Lib.hid hr3
      clear hown3 hF3 k3 hr3
      go_wp2_with fail
      clear hcv1 hcv2
      refine (newIn_any a3 c3 bs _ HR3.out (by omega)).mono ?_
      rintro e w4 ⟨q, G, rfl, h4, hG, hG2, hpG, k4⟩
      obtain ⟨g, hg1, hg2, hg3⟩ := row_cells (row_kept HO3.out k4 (by simp))
      have hlt4 := h4.lt
      have H4 := Lib.hid h4
      have HG := Lib.hid hG
      have HG2 := Lib.hid hG2
      have HPG := Lib.hid hpG
      have K4 := Lib.hid k4
      have HA3 := Lib.hid hg1
      have HC3 := Lib.hid hg2
      have HZ3 := Lib.hid hg3
      have HGN := Lib.hid (show 0 < bs.length → g < w2.heap.size ∧ w.heap.size ≤ g from fun hp0 => by
        have e := hg1 hp0
        subst e
        have h1 := (own_aF HO3.out g (by simp [aF])).2
        have h2 := HF3.out g (by simp [aF])
        have := HKP.out.size
        omega)
      clear h4 hG hG2 hpG k4 hg1 hg2 hg3
      go_wp2
      go_loopw [9, 39, 41, 42, 43, 44, 45, 46, 47] (fun _ i _ _ _ _ _ _ _ wr => ∃ (k : Nat), k ≤ bs.length ∧ i = .int .i64 k ∧ (∀ j, j < bs.length → ∃ u : UInt8, wr.cell? ⟨g, j, none⟩ = some (bcell u)) ∧ (∀ j, j < bs.length → wr.frozen? ⟨g, j, none⟩ = false) ∧ InAt wr q (some bs) G ∧ Kp [] w wr ∧ (∀ x ∈ q :: G, x < wr.heap.size)) (fun _ i _ _ _ _ _ _ _ _ => bs.length - (intOf i).toNat)
      case atStart => exact ⟨0, by omega, rfl, HC3.out, HZ3.out, H4.out, (HKP.out.trans K3.out (by simp)).trans K4.out (by simp), HG2.out⟩
      case round =>
        obtain ⟨k, hk, rfl, hc, hz, hi, hkp, hlt'⟩ := hrel
        have HC := Lib.hid hc
        have HZ := Lib.hid hz
        have HI := Lib.hid hi
        have HK := Lib.hid hkp
        have HL := Lib.hid hlt'
        clear hc hz hi hkp hlt'
        by_cases hlt : k < bs.length
        · obtain rfl := HA3.out (by omega)
          obtain ⟨u, hu⟩ := HC.out k hlt
          unfold bcell at hu
          have hf := HZ.out k hlt
          go_wp2
          go_roundw
          case rel =>
            have hgn := HGN.out (by omega)
            have hqg : g ≠ q := by have := HG.out q (by simp); omega
            have hgG : ∀ x ∈ G, g ≠ x := fun x hx => by have := HG.out x (by simp [hx]); omega
            refine ⟨k + 1, by omega, by go_num, fun j hj => ?_, fun j hj => by rw [World.frozen?_setCell]; exact HZ.out j hj, ?_, HK.out.setCell (.inr hgn.2) _, fun x hx => by simpa using HL.out x hx⟩
            · by_cases hjk : j = k
              · subst hjk
                refine ⟨byteOf (u.toNat + 1), ?_⟩
                rw [bcell_byteOf, show IntKind.u8.wrap ((u.toNat : Int) + 1) = ((u.toNat : Int) + 1) % 256 from by simp [IntKind.wrap, IntKind.bits, IntKind.signed]]
                exact World.cell?_setCell_same _ _ _ hu
              · obtain ⟨v, hv⟩ := HC.out j hj
                refine ⟨v, ?_⟩
                exact (World.cell?_setCell_other _ _ _ _ (fun hh => hjk (congrArg Addr.off hh).symm)).trans hv
            · exact HI.out.kept ((Kp.refl [g] _).setCell (.inl (by simp)) _) (by simp; omega) (fun x hx hh => by simp at hh; exact hgG x hx hh.symm)
          case measure => simp [intOf]; omega
        · obtain rfl : k = bs.length := by omega
          go_wp2
          go_loopw [11, 51] (fun _ i wr => ∃ (k : Nat), k ≤ l.length ∧ i = .int .i64 k ∧ InAt wr q (some (thsB (l.drop k))) G ∧ Kp [] w wr ∧ (∀ x ∈ q :: G, x < wr.heap.size)) (fun _ i _ => l.length - (intOf i).toNat)
          case atStart => exact ⟨0, by omega, rfl, by rw [List.drop_zero, ← HBS.out]; exact HI.out, HK.out, HL.out⟩
          case round =>
            obtain ⟨k, hk, rfl, hi, hkp, hl3⟩ := hrel
            have HI3 := Lib.hid hi
            have HK3 := Lib.hid hkp
            have HL3 := Lib.hid hl3
            by_cases hlt : k < l.length
            · obtain ⟨b, off, rfl, _, hc⟩ := (HR.out.below hkp).spot (by rw [ths_length]; omega)
              have hrt := rd_thing hc k hlt
              have htk := thsB_drop l k hlt
              obtain ⟨x, hx⟩ : ∃ x, x = l[k] := ⟨_, rfl⟩
              rw [← hx] at hrt htk
              have HXI := Lib.hid (show x ∈ l by rw [hx]; exact List.getElem_mem hlt)
              rw [htk] at HI3
              have HRT := Lib.hid hrt
              clear hc hrt hx hkp htk hi hl3
              go_wp2_with (first | (refine wpList_gets_mid Try.tthing rfl rfl HRT.out (thC_length _) rfl ?_) | (refine wpList_sets Try.tthing rfl rfl (heap_alloc_new wr _) rfl (thA_size x) (thA_one x) rfl rfl ?_; intro w2 h2 k2 s2; have KW := Lib.hid (kp_boxed k2 s2); have H2 := Lib.hid h2; clear h2 k2 s2) | (refine wpList_gets Try.tthing rfl rfl H2.out (thA_size x) rfl ?_))
              have hti := HIN.out x HXI.out
              have hts := HTS.out x HXI.out
              have hqw : w.heap.size ≤ q := by have := HG.out q (by simp); have := HKP.out.size; have := K3.out.size; omega
              have htold := th_told x (thsB (l.drop (k + 1))) hts
              have HGD := Lib.hid htold.1
              have HRS := Lib.hid htold.2
              refine (told_any q x _ G _ (HI3.out.kept KW.out (by simp) (by simp)) HPG.out (fun y hy => Nat.lt_of_lt_of_le (HL3.out y (by simp [hy])) KW.out.size) ⟨hts.i1, hts.i2, hts.tx, hts.hl, (hti.rd.below HK3.out).below KW.out⟩ (fun hp0 hh => by have := hti.rd.lt (by rw [hsc_length]; omega) q hh; omega)).mono ?_
              rintro e w5 ⟨b5, rfl, hb5, hi5, k5⟩
              obtain rfl := hb5 HGD.out
              rw [HRS.out] at hi5
              have HI5 := Lib.hid hi5
              have K5 := Lib.hid k5
              have HQW := Lib.hid hqw
              clear hti hts htold hb5 hi5 k5 hqw
              go_wp2_with fail
              refine (bad_any q _ G _ HI5.out).mono ?_
              rw [show (some (thsB (l.drop (k + 1)))).isNone = false from rfl]
              rintro e w6 ⟨rfl, rfl⟩
              go_wp2
              go_roundw
              case rel => exact ⟨k + 1, by omega, by go_num, HI5.out, (HK3.out.trans KW.out (by simp)).trans K5.out (fun y hy hh => by simp at hy; have := HQW.out; omega), fun y hy => Nat.lt_of_lt_of_le (HL3.out y hy) (Nat.le_trans KW.out.size K5.out.size)⟩
              case measure => simp [intOf]; omega
            · obtain rfl : k = l.length := by omega
              rw [List.drop_length] at hi
              have HI4 := Lib.hid hi
              clear hi hkp hl3
              go_wp2_with fail
              refine (done_any q _ G _ HI4.out).mono ?_
              rw [show isDone (some (thsB [])) = true from rfl]
              rintro e w5 ⟨rfl, rfl⟩
              go_wp2_with fail
              refine (awake_any _).mono ?_
              rintro e w6 ⟨rfl, k6⟩
              have K6 := Lib.hid k6
              clear k6
              go_wp2
              go_ret
              exact ⟨rfl, HK3.out.trans K6.out (by simp)⟩

theorem walk (a : Option Addr) (c : Nat) (l : List Th) (w : World) (hr : Rd w a l.length c 37 (ths l)) (hin : ∀ x ∈ l, ThIn w x) :
    Calls Try.prog 6 #[.slice a l.length c] w fun e w' => e = .returned (.bool true) ∧ Kp [] w w' := by
  have hll : l.length ≤ 9223372036854775807 := by have := hr.le; have := hr.max; unfold maxLen at this; omega
  cases hs : smallB l with
  | true => exact walk_yes a c l w hr hin hll hs
  | false => exact walk_no a c l w hr hin hll hs

set_option maxRecDepth 100000 in
theorem lifted (os : Os) (started : os.Started) (H : Type) (enc : TypeId × Value → H) :
    ReturnsInHanded {} Try.checked os 6 .any (Rows.wireTellsSpec.pre6 enc Try.prog Try.f6 Rows.wireTellsRow.domain false) (Rows.wireTellsSpec.post enc Try.prog Try.f6 false true false false) := by
  refine returnsInHanded_of_change (C := Try.checked) own started (by kernel_rfl) Try.func6
    (ChangeSpec.witness6 (enc := enc) (C := Try.checked) false ⟨#[], #[.slice none 0 0], []⟩ 8 (by kernel_rfl) (by kernel_rfl) (by kernel_rfl) (by kernel_rfl)) ?_
  intro W base args ds gs before hval0 hW hcnd _
  have hval : ∀ (j : Nat) t v, Try.f6.params[j]? = some t → args[j]? = some v → Value.okWide Try.prog W .any base t v := hval0
  have hW' := hW
  obtain ⟨p, q, hA0, hV, rfl, hfz, hnd⟩ := hW
  have hA : DataW.TrodAll enc Try.prog W 0 (fun _ => true) true Try.f6.params.toList args.toList ds p := hA0
  rw [Try.params6] at hA hval
  obtain ⟨v0, vs0, d0, ds0, p0, q0, hargs, rfl, rfl, h0, r0⟩ := trodAll_cons hA
  obtain ⟨rfl, rfl, rfl⟩ := trodAll_nil r0
  obtain rfl : args = #[v0] := by cases args; simp_all
  obtain ⟨rfl, rfl⟩ := trodVars_none hV
  obtain ⟨a0, n0, c0, rfl⟩ := okWide_slice Try.underlying45 (hval 0 45 v0 rfl rfl)
  obtain ⟨a, c, l, hc, hr, hin⟩ := reads_things (reads_arg h0)
  simp only [Value.cells, List.cons.injEq, Value.slice.injEq, and_true] at hc
  obtain ⟨rfl, rfl, rfl⟩ := hc
  refine (walk _ _ _ W hr hin).mono fun e W' ⟨he, hg⟩ => ?_
  subst he
  exact ⟨_, rfl, law_post laidOut readable rfl Try.underlying4 rfl hW' rfl rfl rfl hg⟩

theorem over : Rows.wireTellsRow.holds Try.pinned (OpenSpec.ofChange Rows.wireTellsSpec) :=
  OpenClaim.holds_of_wide 6 Try.f6 rfl rfl rfl rfl rfl rfl rfl ⟨rfl, rfl, rfl, rfl, rfl⟩ rfl rfl rfl rfl rfl (by kernel_rfl) Try.func6 (by kernel_rfl)
    (of_decide_eq_true (by kernel_rfl)) (by unfold Func.isWrapper; rw [if_neg (by decide +kernel)]; exact ⟨rfl, rfl⟩)
    (fun os started H enc _ => lifted os started H enc)

theorem proved : Rows.WireTellsSaid := over

end Go.Proofs.Ytngdbblgnimogaa.wireTells
