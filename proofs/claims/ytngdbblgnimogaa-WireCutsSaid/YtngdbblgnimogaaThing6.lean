import Derived.Test.YtngdbblgnimogaaThing5
import Derived.Test.YtngdbblgnimogaaOpen
namespace Go.Proofs.Ytngdbblgnimogaa
open Go.RowKit Go.ChangeShapes Go.WideShapes Go.ChangeAt

theorem thA_one (x : Th) : ∀ v ∈ (thA x).toList, v.oneCell' = true := by simpa [thA] using thC_one x

theorem reads_field {H : Type} {enc : TypeId × Value → H} {P : Program} {W : World} {t : TypeId} {fs : Array Field} {cs : List Value} (ht : P.underlying t = some (.struct fs)) (h : Reads enc P W t cs) :
    cs.length = P.cellsOf t ∧ ∀ (i : Nat) (f : Field), fs[i]? = some f → Reads enc P W f.type ((cs.drop f.offset).take (P.cellsOf f.type)) := by
  obtain ⟨fuel, x, h⟩ := h
  obtain ⟨xs, n, _, _, hl, hlen, hf⟩ := DataW.trod_struct ht h
  refine ⟨hl, fun i f hi => ?_⟩
  have h1 := hf i f hi
  have hlt : i < xs.length := by
    have := (Array.getElem?_eq_some_iff.1 hi).1; omega
  rw [List.getElem?_eq_getElem hlt] at h1
  exact ⟨n, _, h1⟩

/-- What is known of a thing that was handed in. -/
structure ThIn (w : World) (x : Th) : Prop where
  i1 : -9223372036854775808 ≤ x.n
  i2 : x.n ≤ 9223372036854775807
  tx : x.text.size ≤ maxLen
  rd : Rd w x.ha x.hs.length x.hc 32 (hsc x.hs)

def ths (l : List Th) : List Value := l.flatMap thC

theorem reads_thing {H : Type} {enc : TypeId × Value → H} {W : World} {cs : List Value} (h : Reads enc Try.prog W 48 cs) : ∃ x : Th, cs = thC x ∧ ThIn W x := by
  obtain ⟨hl, hf⟩ := reads_field Try.underlying48 h
  have c37 : Try.prog.cellsOf 48 = 37 := by kernel_rfl
  have c1 : Try.prog.cellsOf 3 = 1 := by kernel_rfl
  have cs1 : Try.prog.cellsOf 9 = 1 := by kernel_rfl
  have c32 : Try.prog.cellsOf 39 = 32 := by kernel_rfl
  have csl : Try.prog.cellsOf 34 = 1 := by kernel_rfl
  have cb : Try.prog.cellsOf 4 = 1 := by kernel_rfl
  have cu : Try.prog.cellsOf 5 = 1 := by kernel_rfl
  have f0 : Reads enc Try.prog W 3 ((cs.drop 0).take (Try.prog.cellsOf 3)) := hf 0 _ rfl
  rw [c1] at f0
  have f1 : Reads enc Try.prog W 3 ((cs.drop 1).take (Try.prog.cellsOf 3)) := hf 1 _ rfl
  rw [c1] at f1
  have f2 : Reads enc Try.prog W 9 ((cs.drop 2).take (Try.prog.cellsOf 9)) := hf 2 _ rfl
  rw [cs1] at f2
  have f3 : Reads enc Try.prog W 39 ((cs.drop 3).take (Try.prog.cellsOf 39)) := hf 3 _ rfl
  rw [c32] at f3
  have f4 : Reads enc Try.prog W 34 ((cs.drop 35).take (Try.prog.cellsOf 34)) := hf 4 _ rfl
  rw [csl] at f4
  have f5 : Reads enc Try.prog W 4 ((cs.drop 36).take (Try.prog.cellsOf 4)) := hf 5 _ rfl
  rw [cb] at f5
  rw [c37] at hl
  obtain ⟨n0, e0, w0⟩ := reads_int Try.underlying3 f0
  obtain ⟨n1, e1, w1⟩ := reads_int Try.underlying3 f1
  obtain ⟨s2, e2, w2⟩ := reads_string Try.underlying9 f2
  obtain ⟨h3, e3⟩ := reads_hash Try.underlying39 Try.underlying5 cu c32 f3
  obtain ⟨a4, c4, l4, e4, r4⟩ := reads_hashes Try.underlying34 Try.underlying39 Try.underlying5 cu c32 f4
  obtain ⟨b5, e5⟩ := reads_bool Try.underlying4 f5
  have hb1 := bounds_i64 w1
  refine ⟨⟨n0, n1, s2, h3, a4, c4, l4, b5⟩, ?_, ⟨hb1.1, hb1.2, w2, r4⟩⟩
  have es : cs = cs.take 1 ++ ((cs.drop 1).take 1 ++ ((cs.drop 2).take 1 ++ ((cs.drop 3).take 32 ++ ((cs.drop 35).take 1 ++ (cs.drop 36).take 1)))) := by
    have s5 : (cs.drop 36).take 1 = cs.drop 36 := List.take_of_length_le (by rw [List.length_drop]; omega)
    have t4 : (cs.drop 35).take 1 ++ cs.drop 36 = cs.drop 35 := by
      have := List.take_append_drop 1 (cs.drop 35); rwa [List.drop_drop] at this
    have t3 : (cs.drop 3).take 32 ++ cs.drop 35 = cs.drop 3 := by
      have := List.take_append_drop 32 (cs.drop 3); rwa [List.drop_drop] at this
    have t2 : (cs.drop 2).take 1 ++ cs.drop 3 = cs.drop 2 := by
      have := List.take_append_drop 1 (cs.drop 2); rwa [List.drop_drop] at this
    have t1 : (cs.drop 1).take 1 ++ cs.drop 2 = cs.drop 1 := by
      have := List.take_append_drop 1 (cs.drop 1); rwa [List.drop_drop] at this
    rw [s5, t4, t3, t2, t1, List.take_append_drop]
  rw [List.drop_zero] at e0
  rw [es, e0, e1, e2, e3, e4, e5]
  simp [thC]
theorem reads_things {H : Type} {enc : TypeId × Value → H} {W : World} {cs : List Value} (h : Reads enc Try.prog W 45 cs) :
    ∃ a c l, cs = [.slice a (l : List Th).length c] ∧ Rd W a l.length c 37 (ths l) ∧ ∀ x ∈ l, ThIn W x :=
  open_rd thC (ThIn W) Try.underlying45 (by kernel_rfl) (by decide) thC_length (fun cs hr => reads_thing hr) h

theorem ths_at (l : List Th) (k : Nat) (hk : k < l.length) : ∀ j u, (thC l[k])[j]? = some u → (ths l)[k * 37 + j]? = some u := by
  intro j u hu
  have hj : j < 37 := by have := (List.getElem?_eq_some_iff.1 hu).1; rw [thC_length] at this; exact this
  have e : l = l.take k ++ l[k] :: l.drop (k + 1) := by rw [List.getElem_cons_drop hk, List.take_append_drop]
  have e2 : ths l = ths (l.take k) ++ (thC l[k] ++ ths (l.drop (k + 1))) := (congrArg ths e).trans (by unfold ths; rw [List.flatMap_append]; rfl)
  have hl : (ths (l.take k)).length = k * 37 := by
    unfold ths; rw [flatMap_length thC _ (fun y _ => thC_length y), List.length_take]; congr 1; omega
  rw [e2, List.getElem?_append_right (by omega), hl, show k * 37 + j - k * 37 = j by omega, List.getElem?_append_left (by rw [thC_length]; exact hj)]
  exact hu
theorem ths_length (l : List Th) : (ths l).length = l.length * 37 := by unfold ths; exact flatMap_length thC _ (fun y _ => thC_length y)
/-- Where the thing k lies. -/
theorem rd_thing {w : World} {b off : Nat} {l : List Th} (hc : ∀ j u, (ths l)[j]? = some u → w.cell? ⟨b, off + j, none⟩ = some u) (k : Nat) (hk : k < l.length) : w.rangeAt b (off + k * 37) (thC l[k]) := by
  intro j v hj
  rw [Nat.add_assoc]
  exact hc _ _ (ths_at l k hk j v hj)

def thSmall (x : Th) : Bool := decide (x.text.size ≤ 300) && decide (x.hs.length ≤ 20)
/-- May things be gone through? -/
def smallB (l : List Th) : Bool := l.all thSmall && decide (l.length ≤ 40)

set_option maxHeartbeats 1000000 in
theorem small_any (a : Option Addr) (c : Nat) (l : List Th) (w : World) (hr : Rd w a l.length c 37 (ths l)) (hin : ∀ x ∈ l, ThIn w x) (hll : l.length ≤ 9223372036854775807) :
    Calls Try.prog 22 #[.slice a l.length c] w fun e w' => e = .returned (.bool (smallB l)) ∧ Kp [] w w' := by
  have HR := Lib.hid hr
  have HIN := Lib.hid hin
  obtain ⟨sb, hsb⟩ : ∃ sb, sb = smallB l := ⟨_, rfl⟩
  rw [← hsb]
  have HSB := Lib.hid hsb
  clear hr hin hsb
  go_enter Try.func22, Try.ntmps22
  go_wp2
  go_loopw [7] (fun i wr => ∃ k : Nat, k ≤ l.length ∧ i = .int .i64 k ∧ (∀ x ∈ l.take k, thSmall x = true) ∧ Kp [] w wr) (fun i _ => l.length - (intOf i).toNat)
  case atStart => exact ⟨0, by omega, rfl, by simp, Kp.refl _ _⟩
  case round =>
    obtain ⟨k, hk, rfl, hs, hkp⟩ := hrel
    have HS := Lib.hid hs
    have HKP := Lib.hid hkp
    by_cases hlt : k < l.length
    · obtain ⟨b, off, rfl, _, hc⟩ := (HR.out.below hkp).spot (by rw [ths_length]; omega)
      have hrt := rd_thing hc k hlt
      obtain ⟨x, hx⟩ : ∃ x, x = l[k] := ⟨_, rfl⟩
      rw [← hx] at hrt
      have hxin : ThIn w x := HIN.out x (by rw [hx]; exact List.getElem_mem hlt)
      have h1 := hxin.tx
      have h2 : x.hs.length ≤ 9223372036854775807 := by have h3 := hxin.rd.le; have h4 := hxin.rd.max; unfold maxLen at h4; omega
      unfold maxLen at h1
      have HX := Lib.hid hx
      have HRT := Lib.hid hrt
      have HXM := Lib.hid (show ∀ y ∈ l.take (k + 1), y = x ∨ y ∈ l.take k by
        rw [List.take_succ_eq_append_getElem hlt, ← hx]; intro y hy; simp at hy; exact hy.symm)
      have HXI := Lib.hid (show x ∈ l by rw [hx]; exact List.getElem_mem hlt)
      clear hc hrt hx hs hkp hxin
      by_cases ht : x.text.size ≤ 300
      · by_cases hh : x.hs.length ≤ 20
        · have hsm : thSmall x = true := by simp [thSmall, ht, hh]
          have HSM := Lib.hid hsm
          clear hsm
          go_wp2_with (first | (refine wpList_gets_mid Try.tthing rfl rfl HRT.out (thC_length _) rfl ?_) | (refine wpList_sets Try.tthing rfl rfl (heap_alloc_new wr _) rfl (thA_size x) (thA_one x) rfl rfl ?_; intro w2 h2 k2 s2; have c2 := (BoxAt.mk h2).cell (thC_2 x); have c35 := (BoxAt.mk h2).cell (thC_35 x); have KW := Lib.hid (kp_boxed k2 s2); clear h2 k2 s2))
          go_roundw
          case rel => exact ⟨k + 1, by omega, by go_num, fun y hy => by rcases HXM.out y hy with rfl | h; exact HSM.out; exact HS.out y h, HKP.out.trans KW.out (by simp)⟩
          case measure => simp [intOf]; omega
        · have hsm : smallB l = false := by
            have : thSmall x = false := by simp [thSmall]; omega
            unfold smallB; rw [Bool.and_eq_false_iff]; left; rw [List.all_eq_false]; exact ⟨x, HXI.out, by simp [this]⟩
          have HSM := Lib.hid hsm
          clear hsm
          go_wp2_with (first | (refine wpList_gets_mid Try.tthing rfl rfl HRT.out (thC_length _) rfl ?_) | (refine wpList_sets Try.tthing rfl rfl (heap_alloc_new wr _) rfl (thA_size x) (thA_one x) rfl rfl ?_; intro w2 h2 k2 s2; have c2 := (BoxAt.mk h2).cell (thC_2 x); have c35 := (BoxAt.mk h2).cell (thC_35 x); have KW := Lib.hid (kp_boxed k2 s2); clear h2 k2 s2))
          go_ret
          exact ⟨by rw [HSB.out, HSM.out]; rfl, HKP.out.trans KW.out (by simp)⟩
      · have hsm : smallB l = false := by
          have : thSmall x = false := by simp [thSmall]; omega
          unfold smallB; rw [Bool.and_eq_false_iff]; left; rw [List.all_eq_false]; exact ⟨x, HXI.out, by simp [this]⟩
        have HSM := Lib.hid hsm
        clear hsm
        go_wp2_with (first | (refine wpList_gets_mid Try.tthing rfl rfl HRT.out (thC_length _) rfl ?_) | (refine wpList_sets Try.tthing rfl rfl (heap_alloc_new wr _) rfl (thA_size x) (thA_one x) rfl rfl ?_; intro w2 h2 k2 s2; have c2 := (BoxAt.mk h2).cell (thC_2 x); have c35 := (BoxAt.mk h2).cell (thC_35 x); have KW := Lib.hid (kp_boxed k2 s2); clear h2 k2 s2))
        go_ret
        exact ⟨by rw [HSB.out, HSM.out]; rfl, HKP.out.trans KW.out (by simp)⟩
    · obtain rfl : k = l.length := by omega
      have HA := Lib.hid (show l.all thSmall = true by rw [List.take_length] at hs; simpa using hs)
      by_cases hle : l.length ≤ 40
      · have HSM := Lib.hid (show smallB l = true by unfold smallB; simp [HA.out, hle])
        have hd : decide ((l.length : Int) ≤ 40) = true := by simp; omega
        clear hs hkp
        go_wp2
        go_ret
        exact ⟨by rw [HSB.out, HSM.out]; rfl, HKP.out⟩
      · have HSM := Lib.hid (show smallB l = false by unfold smallB; simp [hle])
        have hd : decide ((l.length : Int) ≤ 40) = false := by simp; omega
        clear hs hkp
        go_wp2
        go_ret
        exact ⟨by rw [HSB.out, HSM.out]; rfl, HKP.out⟩
end Go.Proofs.Ytngdbblgnimogaa
