/-
  For any list of things, and any cut, WireCuts returns true: just those things are told that lie ahead of the cut as a whole; then it is bad, and stays so; no condition.
-/
import Derived.Test.YtngdbblgnimogaaThing7
namespace Go.Proofs.Ytngdbblgnimogaa.wireCuts
open Go.ChangeShapes Go.WideShapes Go.ChangeAt Go.RowKit Go.Proofs.Ytngdbblgnimogaa

theorem own : ownKnob Try.prog.godebug = none := by kernel_rfl
theorem laidOut : laidOutB Try.prog = true := by kernel_rfl
theorem readable : ∀ t ∈ Try.f7.params.toList, Try.prog.readableRec t = true ∧ t < Try.prog.types.size := by
  rw [Try.params7]
  intro t ht
  simp only [List.mem_cons, List.not_mem_nil, or_false] at ht
  rcases ht with rfl | rfl <;> exact ⟨by kernel_rfl, of_decide_eq_true (by kernel_rfl)⟩

theorem walk_no (a : Option Addr) (c : Nat) (l : List Th) (cut : Int) (w : World) (hr : Rd w a l.length c 37 (ths l)) (hin : ∀ x ∈ l, ThIn w x) (hll : l.length ≤ 9223372036854775807) (hs : smallB l = false) :
    Calls Try.prog 7 #[.slice a l.length c, .int .i64 cut] w fun e w' => e = .returned (.bool true) ∧ Kp [] w w' := by
  have HR := Lib.hid hr
  have HIN := Lib.hid hin
  have HS := Lib.hid hs
  clear hr hin hs
  go_enter Try.func7, Try.ntmps7
  go_wp2_with fail
  refine (small_any a c l _ HR.out HIN.out hll).mono ?_
  rw [HS.out]
  rintro e w1 ⟨rfl, k1⟩
  have K1 := Lib.hid k1
  clear k1
  go_wp2_with fail
  refine (awake_any _).mono ?_
  rintro e w2 ⟨rfl, k2⟩
  have K2 := Lib.hid k2
  clear k2
  go_wp2
  go_ret
  exact ⟨rfl, K1.out.trans K2.out (by simp)⟩

/-! ### Where things end -/
def endN (l : List Th) (k : Nat) : Nat := (thsB (l.take k)).length
def ecs (l : List Th) (k : Nat) : List Value := (List.range k).map fun j => .int .i64 (endN l (j + 1) : Nat)
theorem ecs_length (l : List Th) (k : Nat) : (ecs l k).length = k := by simp [ecs]
theorem ecs_succ (l : List Th) (k : Nat) : ecs l (k + 1) = ecs l k ++ [.int .i64 (endN l (k + 1) : Nat)] := by unfold ecs; rw [List.range_succ, List.map_append]; rfl
theorem ecs_at (l : List Th) (n k : Nat) (h : k < n) : (ecs l n)[k]? = some (.int .i64 (endN l (k + 1) : Nat)) := by simp [ecs, h]
theorem endN_succ (l : List Th) (k : Nat) (hk : k < l.length) : endN l (k + 1) = endN l k + (thB l[k]).length := by
  unfold endN; rw [thsB_take_succ l k hk, List.length_append]
theorem endN_all (l : List Th) : endN l l.length = (thsB l).length := by unfold endN; rw [List.take_length]
/-- What is left of so many bytes behind so many things. -/
def stAt (l : List Th) (m k : Nat) : St := if endN l k ≤ m then some (((thsB l).take m).drop (endN l k)) else none
theorem stAt_zero (l : List Th) (m : Nat) : stAt l m 0 = some ((thsB l).take m) := by
  have : endN l 0 = 0 := by simp [endN, thsB]
  simp [stAt, this]
theorem thsB_split (l : List Th) (k : Nat) (hk : k < l.length) : (thsB l).drop (endN l k) = thB l[k] ++ thsB (l.drop (k + 1)) := by
  have h1 : thsB l = thsB (l.take k) ++ thsB (l.drop k) := by
    have h0 : l = l.take k ++ l.drop k := (List.take_append_drop k l).symm
    exact (congrArg thsB h0).trans (by unfold thsB; rw [List.flatMap_append])
  have h2 : (thsB l).drop (endN l k) = thsB (l.drop k) := by
    rw [h1]; exact List.drop_left' rfl
  rw [h2, thsB_drop l k hk]
theorem stAt_step (l : List Th) (m k : Nat) (hk : k < l.length) (hs : ThS l[k]) :
    (endN l (k + 1) ≤ m → ThGood l[k] (stAt l m k)) ∧ rThS l[k] (stAt l m k) = stAt l m (k + 1) := by
  have he := endN_succ l k hk
  have hsp := thsB_split l k hk
  by_cases h0 : endN l k ≤ m
  · have hd : ((thsB l).take m).drop (endN l k) = (thB l[k] ++ thsB (l.drop (k + 1))).take (m - endN l k) := by
      rw [← hsp, List.drop_take]
    by_cases h1 : endN l (k + 1) ≤ m
    · have ht : (thB l[k] ++ thsB (l.drop (k + 1))).take (m - endN l k) = thB l[k] ++ (thsB (l.drop (k + 1))).take (m - endN l (k + 1)) := by
        rw [List.take_append, List.take_of_length_le (by omega)]
        congr 2; omega
      have hd2 : ((thsB l).take m).drop (endN l (k + 1)) = (thsB (l.drop (k + 1))).take (m - endN l (k + 1)) := by
        rw [he, ← List.drop_drop, hd, ht]; exact (List.drop_left' rfl).trans (by rw [he])
      have := th_told l[k] ((thsB (l.drop (k + 1))).take (m - endN l (k + 1))) hs
      simp only [stAt, if_pos h0, if_pos h1, hd, ht, hd2]
      exact ⟨fun _ => this.1, this.2⟩
    · have ht : (thB l[k] ++ thsB (l.drop (k + 1))).take (m - endN l k) = (thB l[k]).take (m - endN l k) := by
        rw [List.take_append, show m - endN l k - (thB l[k]).length = 0 by omega, List.take_zero, List.append_nil]
      simp only [stAt, if_pos h0, if_neg h1, hd, ht]
      exact ⟨fun h => absurd h h1, th_cut l[k] _ hs (by omega)⟩
  · have h1 : ¬ endN l (k + 1) ≤ m := by omega
    simp only [stAt, if_neg h0, if_neg h1]
    exact ⟨fun h => absurd h h1, th_bad _⟩
theorem stAt_end (l : List Th) (m : Nat) (hm : m ≤ (thsB l).length) : isDone (stAt l m l.length) = decide (m = (thsB l).length) := by
  unfold stAt
  rw [endN_all]
  by_cases h : m = (thsB l).length
  · subst h
    rw [if_pos (Nat.le_refl _), List.take_length, List.drop_length]; simp [isDone]
  · rw [if_neg (by omega)]; simp [isDone, h]
theorem stAt_bad (l : List Th) (m k : Nat) (h : ¬ endN l k ≤ m) : stAt l m k = none := by simp [stAt, h]
theorem stAt_good (l : List Th) (m k : Nat) (h : endN l k ≤ m) : (stAt l m k).isNone = false := by simp [stAt, h]

theorem Try.tints : ∃ i, SlT Try.prog 52 3 i (.int .i64 0) 1 8 := SlT.mk' Try.underlying52 (by kernel_rfl) rfl (by decide)

set_option maxHeartbeats 6000000 in
theorem walk_yes (a : Option Addr) (c : Nat) (l : List Th) (cut : Int) (w : World) (hr : Rd w a l.length c 37 (ths l)) (hin : ∀ x ∈ l, ThIn w x) (hll : l.length ≤ 9223372036854775807) (hs : smallB l = true) (hcut : -9223372036854775808 ≤ cut ∧ cut ≤ 9223372036854775807) :
    Calls Try.prog 7 #[.slice a l.length c, .int .i64 cut] w fun e w' => e = .returned (.bool true) ∧ Kp [] w w' := by
  obtain ⟨hsm, hl40⟩ := smallB_out hs
  have hts : ∀ x ∈ l, ThS x := fun x hx => ⟨(hin x hx).i1, (hin x hx).i2, (hsm x hx).1, (hsm x hx).2⟩
  have HTS := Lib.hid hts
  have HLEN := Lib.hid (fun k => thsB_len (l.take k) (fun x hx => hts x (List.mem_of_mem_take hx)))
  have HR := Lib.hid hr
  have HIN := Lib.hid hin
  have HS := Lib.hid hs
  obtain ⟨i0, T⟩ := Try.tints
  have HT := Lib.hid T
  clear hr hin hs hsm hts T
  obtain ⟨hcu1, hcu2⟩ := hcut
  go_enter Try.func7, Try.ntmps7
  go_wp2_with fail
  refine (small_any a c l _ HR.out HIN.out hll).mono ?_
  rw [HS.out]
  rintro e w1 ⟨rfl, k1⟩
  have K1 := Lib.hid k1
  have HO1 := Lib.hid (out_new w1)
  have K1A := Lib.hid (k1.alloc (.cells #[.slice none 0 0] 24))
  have hw1 := k1.size
  clear k1
  obtain ⟨p, hp⟩ : ∃ p, p = w1.heap.size := ⟨_, rfl⟩
  have hpw : w.heap.size ≤ p := by omega
  go_wp2
  rw [← hp]
  rw [← hp] at HO1
  have HP := Lib.hid hp
  clear hp
  go_loopw [6, 7, 9, 20] (fun v n _ i wr => ∃ (k : Nat) (F' : List Nat) (a2 : Option Addr) (c2 : Nat), k ≤ l.length ∧ i = .int .i64 k ∧ v = .slice a2 k c2 ∧ n = .int .i64 (endN l k : Nat) ∧ OutAt wr p (thsB (l.take k)) F' ∧ wr.ownsRow 0 3 1 (.slice a2 k c2) k (ecs l k) ∧ (∀ x ∈ F', w.heap.size ≤ x) ∧ (∀ x ∈ aF a2, w.heap.size ≤ x ∧ x ∉ F') ∧ Kp [] w wr) (fun _ _ _ i _ => l.length - (intOf i).toNat)
  case atStart => exact ⟨0, [p], none, 0, by omega, rfl, rfl, by simp [endN, thsB], HO1.out, World.ownsRow_nil _ _ _ _, by simp; omega, by simp [aF], K1A.out⟩
  case round =>
    obtain ⟨k, F', a2, c2, hk, rfl, rfl, rfl, hO, hown, hF, hFa, hkp⟩ := hrel
    have hbl := HLEN.out k
    rw [List.length_take] at hbl
    obtain ⟨bs, hbs⟩ : ∃ bs, bs = thsB (l.take k) := ⟨_, rfl⟩
    have hen : endN l k = bs.length := by rw [hbs]; rfl
    rw [← hbs] at hO hbl
    rw [hen]
    have HEN := Lib.hid hen
    have HBS := Lib.hid hbs
    have HO := Lib.hid hO
    have HOWN := Lib.hid hown
    have HF := Lib.hid hF
    have HFA := Lib.hid hFa
    have HKP := Lib.hid hkp
    have hbl2 : bs.length ≤ 28000 := by omega
    by_cases hlt : k < l.length
    · obtain ⟨b, off, rfl, _, hc⟩ := (HR.out.below hkp).spot (by rw [ths_length]; omega)
      have hrt := rd_thing hc k hlt
      have htk := thsB_take_succ l k hlt
      have hek := endN_succ l k hlt
      obtain ⟨x, hx⟩ : ∃ x, x = l[k] := ⟨_, rfl⟩
      rw [← hx] at hrt htk hek
      have HXI := Lib.hid (show x ∈ l by rw [hx]; exact List.getElem_mem hlt)
      have HTK := Lib.hid htk
      have HEK := Lib.hid hek
      have HRT := Lib.hid hrt
      clear hc hrt hx hkp hO hown hF hFa htk hbs hbl hek hen
      go_wp2_with (first | (refine wpList_gets_mid Try.tthing rfl rfl HRT.out (thC_length _) rfl ?_) | (refine wpList_sets Try.tthing rfl rfl (heap_alloc_new wr _) rfl (thA_size x) (thA_one x) rfl rfl ?_; intro w2 h2 k2 s2; have KW := Lib.hid (kp_boxed k2 s2); have H2 := Lib.hid h2; clear h2 k2 s2) | (refine wpList_gets Try.tthing rfl rfl H2.out (thA_size x) rfl ?_))
      have hti := HIN.out x HXI.out
      have hts := HTS.out x HXI.out
      refine (put_any p bs F' x _ (OutAt.kept HO.out KW.out (by simp)) (by omega) ⟨hts.i1, hts.i2, hts.tx, hts.hl, (hti.rd.below HKP.out).below KW.out⟩ (fun hp0 y hy hh => by have := HF.out y hh; have := hti.rd.lt (by rw [hsc_length]; omega) y hy; omega)).mono ?_
      rintro e w3 ⟨rfl, F3, hO3, hA3⟩
      have HFL := Lib.hid (OutAt.flt HO.out)
      have HB3 := Lib.hid ((hA3.kp.block _ (lt_of_block H2.out) (fun hh => by have := HFL.out _ hh; omega)).trans H2.out)
      have hto : ThOk w3 x := ⟨hts.i1, hts.i2, hts.tx, hts.hl, ((hti.rd.below HKP.out).below KW.out).kept2 hA3.kp (fun hp0 y hy hh => by have := HF.out y hh; have := hti.rd.lt hp0 y hy; omega)⟩
      have HTO := Lib.hid hto
      have HO3 := Lib.hid hO3
      have HA3 := Lib.hid hA3
      have hF3 : ∀ y ∈ F3, w.heap.size ≤ y := hA3.all HF.out (Nat.le_trans HKP.out.size KW.out.size)
      have HF3 := Lib.hid hF3
      have HR3 := Lib.hid (row_kept (row_kept HOWN.out KW.out (by simp)) hA3.kp (fun y hy => (HFA.out y hy).2))
      have HFA3 := Lib.hid (show ∀ y ∈ aF a2, w.heap.size ≤ y ∧ y ∉ F3 from fun y hy => ⟨(HFA.out y hy).1, fun hh => by
        rcases hA3.gr y hh with h | h
        · exact (HFA.out y hy).2 h
        · have := (own_aF HOWN.out y hy).2; have := KW.out.size; omega⟩)
      clear hti hts hO3 hA3 hto hF3
      go_wp2_with (refine wpList_gets Try.tthing rfl rfl HB3.out (thA_size x) rfl ?_)
      refine (thbytes_any x _ HTO.out).mono ?_
      rintro e w4 ⟨a4, c4, rfl, r4, f4, k4⟩
      have hxl := thB_len (HTS.out x HXI.out)
      have K4 := Lib.hid k4
      have HR4 := Lib.hid (own_kept HR3.out k4 (by simp))
      clear r4 f4 k4
      have hls : ((bs.length : Int) + ((thB x).length : Int)) = ((bs.length + (thB x).length : Nat) : Int) := by omega
      obtain ⟨n2, hn2⟩ : ∃ n2, n2 = bs.length + (thB x).length := ⟨_, rfl⟩
      rw [← hn2] at hls
      have HN2 := Lib.hid hn2
      clear hn2
      go_wp2_with (first | (refine wpList_lit HT.out rfl rfl [.int .i64 (n2 : Nat)] rfl (by first | rfl | (simp [Act.eval]; rfl)) (by simp [Value.cells]) (by simp) ?_) | (at_builtin; refine wpList_append_rd HT.out rfl rfl rfl (HR4.out.alloc _) rfl (rd_alloc (m := 1) (by simp) (by simp [maxLen])) (by simp [Value.oneCell']) (by omega) (by simp [maxLen]; omega) ?_; intro a5 c5 w5 hown5 hgrow5 hg5))
      clear hls
      rw [show ecs l k ++ #[Value.int .i64 (n2 : Nat)].toList = ecs l (k + 1) by rw [ecs_succ, HEK.out, HEN.out, HN2.out]] at hown5
      have HO5 := Lib.hid hown5
      have HG5 := Lib.hid hgrow5
      have HH5 := Lib.hid hg5
      clear hown5 hgrow5 hg5
      go_wp2
      go_roundw
      case rel =>
        have e1 : thsB (l.take (k + 1)) = bs ++ thB x := by rw [HTK.out, HBS.out]
        have e2 : endN l (k + 1) = n2 := by rw [HEK.out, HEN.out, HN2.out]
        have k35 : Kp (aF a2) w3 w5 := ((K4.out.mono (by simp)).alloc _).grown HG5.out (fun z hz => by rw [own_block] at hz; cases a2 with | none => cases hz | some b => simp at hz; subst hz; simp [aF])
        refine ⟨k + 1, F3, a5, c5, by omega, by go_num, rfl, by rw [e2], by rw [e1]; exact OutAt.kept HO3.out k35 (fun y hy hh => (HFA3.out y hh).2 hy), HO5.out, HF3.out, fun y hy => ?_, ?_⟩
        · rcases HH5.out y hy with h | h
          · exact HFA3.out y h
          · have h3 := K4.out.size
            have h2 := HA3.out.kp.size
            have h1 := KW.out.size
            have h0 := HKP.out.size
            have h' : w4.heap.size ≤ y := by rw [h]; simp
            exact ⟨by omega, fun hh => by have := OutAt.flt HO3.out y hh; omega⟩
        · exact ((HKP.out.trans KW.out (by simp)).trans HA3.out.kp (fun y hy hh => by have := HF.out y hy; omega)).trans k35 (fun y hy hh => by have := (HFA3.out y hy).1; omega)
      case measure => simp [intOf]; omega
    · obtain rfl : k = l.length := by omega
      rw [List.take_length] at HBS
      clear hO hown hF hFa hkp hbs hbl hen
      go_wp2_with fail
      refine (oall_any p bs F' _ HO.out (by omega)).mono ?_
      rintro e w2 ⟨a3, c3, rfl, hown3, hF3, k3⟩
      have hr3 := own_rd hown3
      have HO3 := Lib.hid hown3
      have HF3 := Lib.hid hF3
      have K3 := Lib.hid k3
      have HR3 := Lib.hid hr3
      have hc3 := hr3.le
      have hm3 := hr3.max
      unfold maxLen at hm3
      clear hown3 hF3 k3 hr3
      by_cases hcut : 0 ≤ cut ∧ cut ≤ bs.length
      · obtain ⟨m, rfl⟩ : ∃ m : Nat, cut = m := ⟨cut.toNat, by omega⟩
        have hmb : m ≤ bs.length := by omega
        clear hcut hcu1 hcu2
        have hl' : (bs.take m).length = m := by rw [List.length_take]; omega
        have hrm := HR3.out.take m c3 hmb (by omega) (Nat.le_refl _)
        rw [Nat.mul_one, bcs_take] at hrm
        have hcall := newIn_any a3 c3 (bs.take m) w2 (by rw [hl']; exact hrm) (by omega)
        rw [hl'] at hcall
        have HCALL := Lib.hid hcall
        clear hcall hrm hl'
        have hs1 : (0 : Int) ≤ (m : Int) := by omega
        have hs2 : (m : Int) ≤ (c3 : Int) := by omega
        go_wp2_with fail
        refine HCALL.out.mono ?_
        rintro e w4 ⟨q, G, rfl, h4, hG, hG2, hpG, k4⟩
        clear hs1 hs2
        have H4 := Lib.hid h4
        have HG := Lib.hid hG
        have HG2 := Lib.hid hG2
        have HPG := Lib.hid hpG
        have K4 := Lib.hid k4
        have HKP4 := Lib.hid ((HKP.out.trans K3.out (by simp)).trans k4 (by simp))
        have HROW := Lib.hid ((own_rd HOWN.out).below (K3.out.trans k4 (by simp)))
        have hqw : w.heap.size ≤ q := by have := hG q (by simp); have := HKP.out.size; have := K3.out.size; omega
        have HQW := Lib.hid hqw
        have hel := endN_all l
        rw [← HBS.out] at hel
        have HEL := Lib.hid hel
        clear h4 hG hG2 hpG k4 hqw hel
        go_wp2
        go_loopw [12, 13, 63] (fun _ _ i wr => ∃ (k : Nat), k ≤ l.length ∧ i = .int .i64 k ∧ InAt wr q (stAt l m k) G ∧ Kp [q] w4 wr ∧ Kp [] w wr ∧ (∀ x ∈ q :: G, x < wr.heap.size)) (fun _ _ i _ => l.length - (intOf i).toNat)
        case atStart => exact ⟨0, by omega, rfl, by rw [stAt_zero, ← HBS.out]; exact H4.out, Kp.refl _ _, HKP4.out, HG2.out⟩
        case round =>
          obtain ⟨k, hk, rfl, hi, hk4, hkp, hl3⟩ := hrel
          have HI3 := Lib.hid hi
          have HK3 := Lib.hid hkp
          have HK4 := Lib.hid hk4
          have HL3 := Lib.hid hl3
          by_cases hlt : k < l.length
          · obtain ⟨b, off, rfl, _, hc⟩ := (HR.out.below hkp).spot (by rw [ths_length]; omega)
            obtain ⟨b5, o5, rfl, _, hc5⟩ := (HROW.out.kept hk4 (fun y hy hh => by simp at hh; have := (own_aF HOWN.out y hy).2; have := K3.out.size; have := HG.out q (by simp); omega)).spot (by rw [ecs_length]; omega)
            have hen := hc5 k _ (ecs_at l l.length k hlt)
            have hrt := rd_thing hc k hlt
            have hst := stAt_step l m k hlt (HTS.out _ (List.getElem_mem hlt))
            obtain ⟨x, hx⟩ : ∃ x, x = l[k] := ⟨_, rfl⟩
            rw [← hx] at hrt hst
            have HXI := Lib.hid (show x ∈ l by rw [hx]; exact List.getElem_mem hlt)
            have HRT := Lib.hid hrt
            have HST := Lib.hid hst
            have hbad := stAt_bad l m (k + 1)
            have hgood := stAt_good l m (k + 1)
            obtain ⟨en, hen'⟩ : ∃ en, en = endN l (k + 1) := ⟨_, rfl⟩
            rw [← hen'] at hen hbad hgood
            have HEN' := Lib.hid hen'
            have HBAD := Lib.hid hbad
            have HGOOD := Lib.hid hgood
            clear hc hrt hx hkp hst hi hl3 hk4 hc5 hbad hgood hen'
            by_cases hle : en ≤ m
            · have hd : decide ((en : Int) ≤ (m : Int)) = true := by simp; omega
              go_wp2_with (first | (refine wpList_gets_mid Try.tthing rfl rfl HRT.out (thC_length _) rfl ?_) | (refine wpList_sets Try.tthing rfl rfl (heap_alloc_new wr _) rfl (thA_size x) (thA_one x) rfl rfl ?_; intro w2 h2 k2 s2; have KW := Lib.hid (kp_boxed k2 s2); have hen2 := (KW.out.cell (p := ⟨b5, o5 + k, none⟩) (World.block_lt_of_cell? _ _ hen) (by simp)).trans hen; have H2 := Lib.hid h2; clear h2 k2 s2) | (refine wpList_gets Try.tthing rfl rfl H2.out (thA_size x) rfl ?_))
              have hti := HIN.out x HXI.out
              have hts := HTS.out x HXI.out
              refine (told_any q x _ G _ (HI3.out.kept KW.out (by simp) (by simp)) HPG.out (fun y hy => Nat.lt_of_lt_of_le (HL3.out y (by simp [hy])) KW.out.size) ⟨hts.i1, hts.i2, hts.tx, hts.hl, (hti.rd.below HK3.out).below KW.out⟩ (fun hp0 hh => by have := hti.rd.lt (by rw [hsc_length]; omega) q hh; have := HQW.out; omega)).mono ?_
              rintro e w5 ⟨b7, rfl, hb7, hi5, k5⟩
              obtain rfl := hb7 (HST.out.1 (by rw [← HEN'.out]; exact hle))
              rw [HST.out.2] at hi5
              have HI5 := Lib.hid hi5
              have K5 := Lib.hid k5
              clear hti hts hb7 hi5 k5 hen hen2
              go_wp2_with fail
              refine (bad_any q _ G _ HI5.out).mono ?_
              rw [HGOOD.out hle]
              rintro e w6 ⟨rfl, rfl⟩
              go_wp2
              go_roundw
              case rel => exact ⟨k + 1, by omega, by go_num, HI5.out, (HK4.out.trans KW.out (by simp)).trans K5.out (fun y hy _ => hy), (HK3.out.trans KW.out (by simp)).trans K5.out (fun y hy hh => by simp at hy; have := HQW.out; omega), fun y hy => Nat.lt_of_lt_of_le (HL3.out y hy) (Nat.le_trans KW.out.size K5.out.size)⟩
              case measure => simp [intOf]; omega
            · have hd : decide ((en : Int) ≤ (m : Int)) = false := by simp; omega
              go_wp2_with (first | (refine wpList_gets_mid Try.tthing rfl rfl HRT.out (thC_length _) rfl ?_) | (refine wpList_sets Try.tthing rfl rfl (heap_alloc_new wr _) rfl (thA_size x) (thA_one x) rfl rfl ?_; intro w2 h2 k2 s2; have KW := Lib.hid (kp_boxed k2 s2); have hen2 := (KW.out.cell (p := ⟨b5, o5 + k, none⟩) (World.block_lt_of_cell? _ _ hen) (by simp)).trans hen; have H2 := Lib.hid h2; clear h2 k2 s2) | (refine wpList_gets Try.tthing rfl rfl H2.out (thA_size x) rfl ?_))
              have hti := HIN.out x HXI.out
              have hts := HTS.out x HXI.out
              refine (told_any q x _ G _ (HI3.out.kept KW.out (by simp) (by simp)) HPG.out (fun y hy => Nat.lt_of_lt_of_le (HL3.out y (by simp [hy])) KW.out.size) ⟨hts.i1, hts.i2, hts.tx, hts.hl, (hti.rd.below HK3.out).below KW.out⟩ (fun hp0 hh => by have := hti.rd.lt (by rw [hsc_length]; omega) q hh; have := HQW.out; omega)).mono ?_
              rintro e w5 ⟨b7, rfl, hb7, hi5, k5⟩
              rw [HST.out.2, HBAD.out hle] at hi5
              have HI5 := Lib.hid hi5
              have K5 := Lib.hid k5
              clear hti hts hb7 hi5 k5 hen hen2
              go_wp2_with fail
              refine (bad_any q _ G _ HI5.out).mono ?_
              rw [show (none : St).isNone = true from rfl]
              rintro e w6 ⟨rfl, rfl⟩
              go_wp2_with fail
              refine (done_any q _ G _ HI5.out).mono ?_
              rw [show isDone none = false from rfl]
              rintro e w6 ⟨rfl, rfl⟩
              go_wp2
              go_roundw
              case rel => exact ⟨k + 1, by omega, by go_num, by rw [HBAD.out hle]; exact HI5.out, (HK4.out.trans KW.out (by simp)).trans K5.out (fun y hy _ => hy), (HK3.out.trans KW.out (by simp)).trans K5.out (fun y hy hh => by simp at hy; have := HQW.out; omega), fun y hy => Nat.lt_of_lt_of_le (HL3.out y hy) (Nat.le_trans KW.out.size K5.out.size)⟩
              case measure => simp [intOf]; omega
          · obtain rfl : k = l.length := by omega
            have hse := stAt_end l m (by rw [← HBS.out]; omega)
            have HSE := Lib.hid hse
            rw [← HBS.out] at HSE
            clear hi hkp hl3 hse hk4
            have hel := HEL.out
            by_cases hme : m = bs.length
            · have hq1 : ((m : Int) == (bs.length : Int)) = true := by simp [hme]
              have HME := Lib.hid hme
              clear hme hel
              go_wp2_with fail
              refine (done_any q _ G _ HI3.out).mono ?_
              rw [HSE.out, show decide (m = bs.length) = true from decide_eq_true HME.out]
              rintro e w6 ⟨rfl, rfl⟩
              go_wp2_with fail
              refine (awake_any _).mono ?_
              rintro e w6 ⟨rfl, k6⟩
              have K6 := Lib.hid k6
              clear k6
              go_wp2
              go_ret
              exact ⟨rfl, HK3.out.trans K6.out (by simp)⟩
            · have hq1 : ((m : Int) == (bs.length : Int)) = false := by simp; omega
              have HME := Lib.hid hme
              clear hme hel
              go_wp2_with fail
              refine (done_any q _ G _ HI3.out).mono ?_
              rw [HSE.out, show decide (m = bs.length) = false from decide_eq_false HME.out]
              rintro e w6 ⟨rfl, rfl⟩
              go_wp2_with fail
              refine (awake_any _).mono ?_
              rintro e w6 ⟨rfl, k6⟩
              have K6 := Lib.hid k6
              clear k6
              go_wp2
              go_ret
              exact ⟨rfl, HK3.out.trans K6.out (by simp)⟩
      · by_cases hneg : cut < 0
        · clear hcut
          go_wp2_with fail
          refine (awake_any _).mono ?_
          rintro e w6 ⟨rfl, k6⟩
          have K6 := Lib.hid k6
          clear k6
          go_wp2
          go_ret
          exact ⟨rfl, (HKP.out.trans K3.out (by simp)).trans K6.out (by simp)⟩
        · have hgt : (bs.length : Int) < cut := by omega
          clear hcut
          go_wp2_with fail
          refine (awake_any _).mono ?_
          rintro e w6 ⟨rfl, k6⟩
          have K6 := Lib.hid k6
          clear k6
          go_wp2
          go_ret
          exact ⟨rfl, (HKP.out.trans K3.out (by simp)).trans K6.out (by simp)⟩

theorem walk (a : Option Addr) (c : Nat) (l : List Th) (cut : Int) (w : World) (hr : Rd w a l.length c 37 (ths l)) (hin : ∀ x ∈ l, ThIn w x) (hcut : -9223372036854775808 ≤ cut ∧ cut ≤ 9223372036854775807) :
    Calls Try.prog 7 #[.slice a l.length c, .int .i64 cut] w fun e w' => e = .returned (.bool true) ∧ Kp [] w w' := by
  have hll : l.length ≤ 9223372036854775807 := by have := hr.le; have := hr.max; unfold maxLen at this; omega
  cases hs : smallB l with
  | true => exact walk_yes a c l cut w hr hin hll hs hcut
  | false => exact walk_no a c l cut w hr hin hll hs

set_option maxRecDepth 100000 in
theorem lifted (os : Os) (started : os.Started) (H : Type) (enc : TypeId × Value → H) :
    ReturnsInHanded {} Try.checked os 7 .any (Rows.wireCutsSpec.pre6 enc Try.prog Try.f7 Rows.wireCutsRow.domain false) (Rows.wireCutsSpec.post enc Try.prog Try.f7 false true false false) := by
  refine returnsInHanded_of_change (C := Try.checked) own started (by kernel_rfl) Try.func7
    (ChangeSpec.witness6 (enc := enc) (C := Try.checked) false ⟨#[], #[.slice none 0 0, .int .i64 0], []⟩ 8 (by kernel_rfl) (by kernel_rfl) (by kernel_rfl) (by kernel_rfl)) ?_
  intro W base args ds gs before hval0 hW hcnd _
  have hval : ∀ (j : Nat) t v, Try.f7.params[j]? = some t → args[j]? = some v → Value.okWide Try.prog W .any base t v := hval0
  have hW' := hW
  obtain ⟨p, q, hA0, hV, rfl, hfz, hnd⟩ := hW
  have hA : DataW.TrodAll enc Try.prog W 0 (fun _ => true) true Try.f7.params.toList args.toList ds p := hA0
  rw [Try.params7] at hA hval
  obtain ⟨v0, vs0, d0, ds0, p0, q0, hargs, rfl, rfl, h0, r0⟩ := trodAll_cons hA
  obtain ⟨v1, vs1, d1, ds1, p1, q1, rfl, rfl, rfl, h1, r1⟩ := trodAll_cons r0
  obtain ⟨rfl, rfl, rfl⟩ := trodAll_nil r1
  obtain rfl : args = #[v0, v1] := by cases args; simp_all
  obtain ⟨rfl, rfl⟩ := trodVars_none hV
  obtain ⟨a0, n0, c0, rfl⟩ := okWide_slice Try.underlying45 (hval 0 45 v0 rfl rfl)
  obtain ⟨a, c, l, hc, hr, hin⟩ := reads_things (reads_arg h0)
  simp only [Value.cells, List.cons.injEq, Value.slice.injEq, and_true] at hc
  obtain ⟨rfl, rfl, rfl⟩ := hc
  obtain ⟨a1, rfl, rfl, rfl, w1⟩ := open_int Try.underlying3 (hval 1 3 v1 rfl rfl) h1
  refine (walk _ _ _ a1 W hr hin (bounds_i64 w1)).mono fun e W' ⟨he, hg⟩ => ?_
  subst he
  exact ⟨_, rfl, law_post laidOut readable rfl Try.underlying4 rfl hW' rfl rfl rfl hg⟩

theorem over : Rows.wireCutsRow.holds Try.pinned (OpenSpec.ofChange Rows.wireCutsSpec) :=
  OpenClaim.holds_of_wide 7 Try.f7 rfl rfl rfl rfl rfl rfl rfl ⟨rfl, rfl, rfl, rfl, rfl⟩ rfl rfl rfl rfl rfl (by kernel_rfl) Try.func7 (by kernel_rfl)
    (of_decide_eq_true (by kernel_rfl)) (by unfold Func.isWrapper; rw [if_neg (by decide +kernel)]; exact ⟨rfl, rfl⟩)
    (fun os started H enc _ => lifted os started H enc)

theorem proved : Rows.WireCutsSaid := over

end Go.Proofs.Ytngdbblgnimogaa.wireCuts

