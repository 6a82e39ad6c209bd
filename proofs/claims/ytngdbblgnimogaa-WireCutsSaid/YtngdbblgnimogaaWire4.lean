import Derived.Test.YtngdbblgnimogaaWire3
namespace Go.Proofs.Ytngdbblgnimogaa
open Go.RowKit

def rBytes (most : Int) (s : St) : List UInt8 × St :=
  match rMany most 1 s with
  | (n, some r) => (r.take n, some (r.drop n))
  | (_, none) => ([], none)
def rHash (s : St) : Hsh × St :=
  match rTake 32 s with
  | some (l, r) => (toH l, some r)
  | none => (zeroH, none)
def rHs : Nat → St → List Hsh × St
  | 0, s => ([], s)
  | n + 1, s => ((rHash s).1 :: (rHs n (rHash s).2).1, (rHs n (rHash s).2).2)
def rHashes (most : Int) (s : St) : List Hsh × St := rHs (rMany most 32 s).1 (rMany most 32 s).2
def rBool (s : St) : Bool × St :=
  match rTake 1 s with
  | some (l, r) => if 1 < num l then (false, none) else (num l == 1, some r)
  | none => (false, none)

theorem rMany_le {most : Int} {size : Nat} {s : St} {n : Nat} {r : List UInt8} (h : rMany most size s = (n, some r)) : n ≤ r.length / size ∧ n < 4294967296 := by
  cases ht : rTake 4 s with
  | none => simp [rMany, ht] at h
  | some x =>
    obtain ⟨l, q⟩ := x
    obtain ⟨b, rfl, hb, rfl, rfl⟩ := rTake_good ht
    simp only [rMany, ht] at h
    split at h
    · simp at h
    · simp only [Prod.mk.injEq, Option.some.injEq] at h
      obtain ⟨rfl, rfl⟩ := h
      exact ⟨by omega, num4 b⟩
theorem rMany_zero {most : Int} {size : Nat} {s : St} {n : Nat} (h : rMany most size s = (n, none)) : n = 0 := by
  unfold rMany at h
  split at h
  · split at h <;> simp at h; omega
  · simp at h; omega

/-- In.Bytes -/
theorem bytes_any (p : Nat) (most : Int) (s : St) (G : List Nat) (w : World) (h : InAt w p s G) :
    Calls Try.prog 18 #[.pointer (some ⟨p, 0, none⟩), .int .i64 most] w fun e w' => ∃ a c, e = .returned (.slice a (rBytes most s).1.length c) ∧ Rd w' a (rBytes most s).1.length c 1 (bcs (rBytes most s).1) ∧
      (∀ x ∈ aF a, x ∈ G) ∧ InAt w' p (rBytes most s).2 G ∧ Kp [p] w w' := by
  have H := Lib.hid h
  clear h
  cases hm : rMany most 1 s with
  | mk n r =>
  have HM := Lib.hid hm
  cases r with
  | none =>
    have hr : rBytes most s = ([], none) := by simp [rBytes, hm]
    rw [hr]
    clear hr hm
    go_enter Try.func18, Try.ntmps18
    go_wp2_with fail
    refine (many_any p most 1 s G _ H.out (by decide) (by decide)).mono ?_
    rw [HM.out]
    rintro e w1 ⟨rfl, h1, k1⟩
    have H1 := Lib.hid h1
    have K1 := Lib.hid k1
    clear h1 k1
    go_wp2_with fail
    refine (take_bad p n none G _ H1.out (by simp)).mono ?_
    rintro e w2 ⟨rfl, h2, k2⟩
    have H2 := Lib.hid h2
    have K2 := Lib.hid k2
    clear h2 k2
    go_wp2
    go_ret
    exact ⟨none, 0, rfl, ⟨rfl, by simp, by simp [maxLen], by simp, by simp [bcs]⟩, by simp [aF], H2.out, K1.out.trans K2.out (by simp)⟩
  | some r =>
    have hle := rMany_le hm
    have hr : rBytes most s = (r.take n, some (r.drop n)) := by simp [rBytes, hm]
    have hlen : (r.take n).length = n := by simp; omega
    rw [hr]
    have HLE := Lib.hid hle
    have HL := Lib.hid hlen
    clear hr hm hle hlen
    go_enter Try.func18, Try.ntmps18
    go_wp2_with fail
    refine (many_any p most 1 s G _ H.out (by decide) (by decide)).mono ?_
    rw [HM.out]
    rintro e w1 ⟨rfl, h1, k1⟩
    have H1 := Lib.hid h1
    have K1 := Lib.hid k1
    clear h1 k1
    go_wp2_with fail
    refine (take_ok p n r G _ H1.out (by have := HLE.out; omega)).mono ?_
    rintro e w2 ⟨a, c, rfl, hrd, hG, h2, k2⟩
    have HRD := Lib.hid hrd
    have HG := Lib.hid hG
    have H2 := Lib.hid h2
    have K2 := Lib.hid k2
    clear h2 k2 hrd hG
    go_wp2
    go_ret
    exact ⟨a, c, by rw [HL.out]; rfl, by rw [HL.out]; exact HRD.out, HG.out, H2.out, K1.out.trans K2.out (by simp)⟩

/-- In.Text -/
theorem text_any (p : Nat) (most : Int) (s : St) (G : List Nat) (w : World) (h : InAt w p s G) :
    Calls Try.prog 19 #[.pointer (some ⟨p, 0, none⟩), .int .i64 most] w fun e w' => e = .returned (.string ⟨(rBytes most s).1.toArray⟩) ∧ InAt w' p (rBytes most s).2 G ∧ Kp [p] w w' := by
  have H := Lib.hid h
  clear h
  obtain ⟨l, hl⟩ : ∃ l, l = (rBytes most s).1 := ⟨_, rfl⟩
  have HL := Lib.hid hl
  clear hl
  go_enter Try.func19, Try.ntmps19
  go_wp2_with fail
  refine (bytes_any p most s G _ H.out).mono ?_
  rw [← HL.out]
  rintro e w1 ⟨a, c, rfl, hrd, hG, h1, k1⟩
  have hcv := conv_string (P := Try.prog) Try.underlying22 Try.underlying5 Try.underlying9 hrd
  have H1 := Lib.hid h1
  have K1 := Lib.hid k1
  clear h1 k1 hrd hG
  go_wp2
  go_ret
  exact ⟨by rw [← HL.out]; rfl, H1.out, K1.out⟩

theorem bad_any (p : Nat) (s : St) (G : List Nat) (w : World) (h : InAt w p s G) :
    Calls Try.prog 12 #[.pointer (some ⟨p, 0, none⟩)] w fun e w' => e = .returned (.bool s.isNone) ∧ w = w' := by
  have hf := h.flag
  clear h
  go_enter Try.func12, Try.ntmps12
  go_wp2
  go_ret
  exact ⟨rfl, rfl⟩

def isDone : St → Bool
  | some [] => true
  | _ => false

theorem done_any (p : Nat) (s : St) (G : List Nat) (w : World) (h : InAt w p s G) :
    Calls Try.prog 14 #[.pointer (some ⟨p, 0, none⟩)] w fun e w' => e = .returned (.bool (isDone s)) ∧ w = w' := by
  cases s with
  | none =>
    have hf := h.bad
    clear h
    go_enter Try.func14, Try.ntmps14
    go_wp2
    go_ret
    exact ⟨rfl, rfl⟩
  | some l =>
    have hf := h.good
    obtain ⟨a, c, hd, hl⟩ := h.data
    clear h
    cases l with
    | nil =>
      go_enter Try.func14, Try.ntmps14
      go_wp2
      go_ret
      exact ⟨rfl, rfl⟩
    | cons x l =>
      obtain ⟨n, hn⟩ : ∃ n, n = (x :: l).length := ⟨_, rfl⟩
      have hpos : 0 < n := by rw [hn]; simp
      rw [← hn] at hd hl
      clear hn
      have h0 : ((n : Int) == 0) = false := by rw [beq_eq_false_iff_ne]; omega
      go_enter Try.func14, Try.ntmps14
      go_wp2
      go_ret
      exact ⟨rfl, rfl⟩

/-- In.Bool -/
theorem bool_any (p : Nat) (s : St) (G : List Nat) (w : World) (h : InAt w p s G) (hp : p ∉ G) :
    Calls Try.prog 21 #[.pointer (some ⟨p, 0, none⟩)] w fun e w' => e = .returned (.bool (rBool s).1) ∧ InAt w' p (rBool s).2 G ∧ Kp [p] w w' := by
  have H := Lib.hid h
  clear h
  cases ht : rTake 1 s with
  | none =>
    have hr : rBool s = (false, none) := by simp [rBool, ht]
    have HB := Lib.hid (rTake_bad ht)
    rw [hr]
    clear hr ht
    go_enter Try.func21, Try.ntmps21
    go_wp2_with fail
    refine (take_bad p 1 s G _ H.out HB.out).mono ?_
    rintro e w1 ⟨rfl, h1, k1⟩
    have hf := h1.bad
    have H1 := Lib.hid h1
    have K1 := Lib.hid k1
    clear h1 k1
    go_wp2
    go_ret
    exact ⟨rfl, H1.out, K1.out⟩
  | some x =>
    obtain ⟨l, r⟩ := x
    obtain ⟨b, rfl, hb, rfl, rfl⟩ := rTake_good ht
    obtain ⟨x, hx⟩ : ∃ x, b.take 1 = [x] := by cases b with
      | nil => simp at hb
      | cons x b => exact ⟨x, by simp⟩
    have hnum : num (b.take 1) = x.toNat := by rw [hx]; simp [num]
    have hv : rBool (some b) = if 1 < x.toNat then (false, none) else (x.toNat == 1, some (b.drop 1)) := by simp [rBool, ht, hnum]
    have HX := Lib.hid hx
    have HV := Lib.hid hv
    have hxl := x.toNat_lt
    have HP := Lib.hid hp
    clear hv ht hnum hx hp
    go_enter Try.func21, Try.ntmps21
    go_wp2_with fail
    refine (take_ok p 1 b G _ H.out hb).mono ?_
    rintro e w1 ⟨a, c, rfl, hrd, hG, h1, k1⟩
    rw [HX.out] at hrd
    obtain ⟨b', off, rfl, hlt, hcs⟩ := hrd.spot (by simp [bcs])
    have hf := h1.good
    have hfr := h1.free
    have hc : w1.cell? ⟨b', off, none⟩ = some (.int .u8 x.toNat) := by simpa [bcs, bcell] using hcs 0 (bcell x) (by simp [bcs])
    have hne : ¬ b' = p := fun e => HP.out (e ▸ hG b' (by simp [aF]))
    have hne1 : ¬ p = b' := fun e => hne e.symm
    have H1 := Lib.hid h1
    have K1 := Lib.hid k1
    clear h1 k1 hrd hG hcs
    by_cases hx1 : 1 < x.toNat
    · go_wp2
      go_ret
      rw [HV.out, if_pos hx1]
      have hxi : decide ((1 : Int) < (x.toNat : Int)) = true := decide_eq_true (by omega)
      rw [hxi]
      refine ⟨by simp; omega, ?_, ?_⟩
      · exact H1.out.spoil.1
      · exact K1.out.trans H1.out.spoil.2 (by simp)
    · go_wp2
      go_ret
      rw [HV.out, if_neg hx1]
      have hxi : decide ((1 : Int) < (x.toNat : Int)) = false := decide_eq_false (by omega)
      rw [hxi]
      refine ⟨?_, ?_, ?_⟩
      · have : ((x.toNat : Int) == 1) = (x.toNat == 1) := by rw [Bool.eq_iff_iff]; simp; omega
        simp [this]
      · exact H1.out.mark.1
      · exact K1.out.trans H1.out.mark.2 (by simp)

end Go.Proofs.Ytngdbblgnimogaa
