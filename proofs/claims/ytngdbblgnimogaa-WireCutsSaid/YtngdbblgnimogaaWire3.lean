import Derived.Test.YtngdbblgnimogaaWire2
namespace Go.Proofs.Ytngdbblgnimogaa
open Go.RowKit

/-- A number of bytes, the highest first. -/
def num (l : List UInt8) : Nat := l.foldl (fun n c => n * 256 + c.toNat) 0
theorem num_snoc (l : List UInt8) (c : UInt8) : num (l ++ [c]) = num l * 256 + c.toNat := by simp [num]
theorem num_lt (l : List UInt8) : num l < 256 ^ l.length := by
  have h : ∀ (l : List UInt8) (n : Nat), l.foldl (fun n c => n * 256 + c.toNat) n < (n + 1) * 256 ^ l.length := by
    intro l
    induction l with
    | nil => intro n; simp
    | cons c l ih =>
      intro n
      have := ih (n * 256 + c.toNat)
      have hc := c.toNat_lt
      rw [List.foldl_cons, List.length_cons, Nat.pow_succ]
      refine Nat.lt_of_lt_of_le this ?_
      rw [Nat.mul_comm (256 ^ l.length) 256, ← Nat.mul_assoc]
      exact Nat.mul_le_mul_right _ (by omega)
  simpa [num] using h l 0

theorem or_low (x c : Nat) (hx : x < 72057594037927936) (hc : c < 256) : bits .or .u64 ((x : Int) * 256) (c : Int) = ((x * 256 + c : Nat) : Int) := by
  have e : ((x : Int) * 256) = ((x * 256 : Nat) : Int) := by omega
  rw [e, u64_or_nat _ _ (by omega) (by omega)]
  have := Nat.two_pow_add_eq_or_of_lt (i := 8) (by simpa using hc : c < 2 ^ 8) x
  rw [show x * 256 = 2 ^ 8 * x by omega, ← this]

set_option maxHeartbeats 400000 in
theorem num_any (a : Option Addr) (c : Nat) (l : List UInt8) (w : World) (h : Rd w a l.length c 1 (bcs l)) (hl : l.length ≤ 8) :
    Calls Try.prog 29 #[.slice a l.length c] w fun e w' => e = .returned (.int .i64 (wrap64 (num l))) ∧ w = w' := by
  have hs : 0 < l.length → ∃ b off, a = some ⟨b, off, none⟩ ∧ b < w.heap.size ∧ ∀ j u, (bcs l)[j]? = some u → w.cell? ⟨b, off + j, none⟩ = some u := fun hp => h.spot (by rw [bcs_length]; exact hp)
  have HS := Lib.hid hs
  have H := Lib.hid h
  clear hs h
  go_enter Try.func29, Try.ntmps29
  go_wp2
  go_loop [3, 8] (fun n i => ∃ k : Nat, k ≤ l.length ∧ i = .int .i64 k ∧ n = .int .u64 (num (l.take k))) (fun _ i => l.length - (intOf i).toNat)
  case atStart => exact ⟨0, by omega, rfl, rfl⟩
  case round =>
    obtain ⟨k, hk, rfl, rfl⟩ := hrel
    by_cases hlt : k < l.length
    · obtain ⟨b, off, rfl, hb, hcs⟩ := HS.out (by omega)
      have hc : w.cell? ⟨b, off + k, none⟩ = some (bcell l[k]) := hcs k _ (by simp [bcs, hlt])
      unfold bcell at hc
      have hb1 := num_lt (l.take k)
      have hpow : 256 ^ (l.take k).length ≤ 256 ^ 7 := Nat.pow_le_pow_right (by omega) (by simp; omega)
      have hb2 : num (l.take k) < 72057594037927936 := by have : (256 : Nat) ^ 7 = 72057594037927936 := by decide
                                                          omega
      have hor := or_low (num (l.take k)) l[k].toNat hb2 l[k].toNat_lt
      have hsn : num (l.take (k + 1)) = num (l.take k) * 256 + l[k].toNat := by rw [List.take_succ_eq_append_getElem hlt, num_snoc]
      have HN := Lib.hid hsn
      have hbc := l[k].toNat_lt
      clear hsn hpow hb1 hcs
      go_wp2
      go_round
      case rel => exact ⟨k + 1, by omega, by go_num, by rw [HN.out]; exact congrArg (Value.int .u64) (by omega)⟩
      case measure => simp [intOf]; omega
    · obtain rfl : k = l.length := by omega
      go_wp2
      go_ret
      exact ⟨rfl, rfl⟩

/-! ### What a reader tells, and what is left -/
abbrev St := Option (List UInt8)
def rTake (n : Nat) : St → Option (List UInt8 × List UInt8)
  | some l => if n ≤ l.length then some (l.take n, l.drop n) else none
  | none => none
def rInt (s : St) : Int × St :=
  match rTake 8 s with
  | some (l, r) => (wrap64 (num l), some r)
  | none => (0, none)
def rCount (least most : Int) (s : St) : Int × St :=
  match rInt s with
  | (n, some r) => if n < least ∨ most < n then (0, none) else (n, some r)
  | (_, none) => (0, none)
/-- How many, each of so many bytes. -/
def rMany (most : Int) (size : Nat) (s : St) : Nat × St :=
  match rTake 4 s with
  | some (l, r) => if most < num l ∨ r.length / size < num l then (0, none) else (num l, some r)
  | none => (0, none)

theorem rTake_bad {n : Nat} {s : St} (h : rTake n s = none) : ∀ l, s = some l → l.length < n := by
  rintro l rfl
  refine Nat.lt_of_not_le fun hh => ?_
  simp [rTake, hh] at h
theorem rTake_good {n : Nat} {s : St} {l r : List UInt8} (h : rTake n s = some (l, r)) : ∃ b, s = some b ∧ n ≤ b.length ∧ l = b.take n ∧ r = b.drop n := by
  cases s with
  | none => cases h
  | some b =>
    by_cases hh : n ≤ b.length
    · simp [rTake, hh] at h
      exact ⟨b, rfl, hh, h.1.symm, h.2.symm⟩
    · simp [rTake, hh] at h

/-- In.Int -/
theorem int_any (p : Nat) (s : St) (G : List Nat) (w : World) (h : InAt w p s G) :
    Calls Try.prog 13 #[.pointer (some ⟨p, 0, none⟩)] w fun e w' => e = .returned (.int .i64 (rInt s).1) ∧ InAt w' p (rInt s).2 G ∧ Kp [p] w w' := by
  have H := Lib.hid h
  clear h
  cases ht : rTake 8 s with
  | none =>
    have hr : rInt s = (0, none) := by simp [rInt, ht]
    have HR := Lib.hid hr
    have HB := Lib.hid (rTake_bad ht)
    clear hr ht
    go_enter Try.func13, Try.ntmps13
    go_wp2_with fail
    refine (take_bad p 8 s G _ H.out HB.out).mono ?_
    rintro e w1 ⟨rfl, h1, k1⟩
    have hf := h1.bad
    have H1 := Lib.hid h1
    have K1 := Lib.hid k1
    clear h1 k1
    go_wp2
    go_ret
    rw [HR.out]
    exact ⟨rfl, H1.out, K1.out⟩
  | some x =>
    obtain ⟨l, r⟩ := x
    obtain ⟨b, rfl, hb, rfl, rfl⟩ := rTake_good ht
    have hr : rInt (some b) = (wrap64 (num (b.take 8)), some (b.drop 8)) := by simp [rInt, ht]
    have HR := Lib.hid hr
    clear hr ht
    go_enter Try.func13, Try.ntmps13
    go_wp2_with fail
    refine (take_ok p 8 b G _ H.out hb).mono ?_
    rintro e w1 ⟨a, c, rfl, hrd, hG, h1, k1⟩
    have hf := h1.good
    have hlen : (b.take 8).length = 8 := by simp; omega
    have H1 := Lib.hid h1
    have K1 := Lib.hid k1
    have HRD := Lib.hid hrd
    have HL := Lib.hid hlen
    clear h1 k1 hrd hG hlen
    go_wp2_with fail
    have hc := num_any a c (b.take 8) w1 (by rw [HL.out]; exact HRD.out) (by rw [HL.out]; omega)
    rw [HL.out] at hc
    refine hc.mono ?_
    rintro e w2 ⟨rfl, rfl⟩
    go_wp2
    go_ret
    rw [HR.out]
    exact ⟨rfl, H1.out, K1.out⟩

/-- In.Count -/
theorem count_any (p : Nat) (least most : Int) (s : St) (G : List Nat) (w : World) (h : InAt w p s G) :
    Calls Try.prog 11 #[.pointer (some ⟨p, 0, none⟩), .int .i64 least, .int .i64 most] w fun e w' => e = .returned (.int .i64 (rCount least most s).1) ∧ InAt w' p (rCount least most s).2 G ∧ Kp [p] w w' := by
  have H := Lib.hid h
  clear h
  cases hr : rInt s with
  | mk n r =>
  cases r with
  | none =>
    have hc : rCount least most s = (0, none) := by simp [rCount, hr]
    have HR := Lib.hid hr
    have HC := Lib.hid hc
    clear hr hc
    go_enter Try.func11, Try.ntmps11
    go_wp2_with fail
    refine (int_any p s G _ H.out).mono ?_
    rw [HR.out]
    rintro e w1 ⟨rfl, h1, k1⟩
    have hf := h1.bad
    have hfr := h1.free
    have H1 := Lib.hid h1
    have K1 := Lib.hid k1
    clear h1 k1
    go_wp2
    go_ret
    rw [HC.out]
    exact ⟨rfl, H1.out.spoil.1, K1.out.trans H1.out.spoil.2 (by simp)⟩
  | some r =>
    have HR := Lib.hid hr
    have hv : rCount least most s = if n < least ∨ most < n then (0, none) else (n, some r) := by simp [rCount, hr]
    clear hr
    by_cases hb : n < least ∨ most < n
    · have hc : rCount least most s = (0, none) := by rw [hv, if_pos hb]
      have HC := Lib.hid hc
      clear hc hv
      by_cases hb1 : n < least
      all_goals
        go_enter Try.func11, Try.ntmps11
        go_wp2_with fail
        refine (int_any p s G _ H.out).mono ?_
        rw [HR.out]
        rintro e w1 ⟨rfl, h1, k1⟩
        have hf := h1.good
        have hfr := h1.free
        have H1 := Lib.hid h1
        have K1 := Lib.hid k1
        clear h1 k1
        go_wp2
        go_ret
        rw [HC.out]
        exact ⟨rfl, H1.out.spoil.1, K1.out.trans H1.out.spoil.2 (by simp)⟩
    · have hc : rCount least most s = (n, some r) := by rw [hv, if_neg hb]
      have HC := Lib.hid hc
      have hb1 : least ≤ n := by omega
      have hb2 : n ≤ most := by omega
      clear hc hv hb
      go_enter Try.func11, Try.ntmps11
      go_wp2_with fail
      refine (int_any p s G _ H.out).mono ?_
      rw [HR.out]
      rintro e w1 ⟨rfl, h1, k1⟩
      have hf := h1.good
      have hfr := h1.free
      have H1 := Lib.hid h1
      have K1 := Lib.hid k1
      clear h1 k1
      go_wp2
      go_ret
      rw [HC.out]
      exact ⟨rfl, H1.out, K1.out⟩

theorem InAt.data {w : World} {p : Nat} {l : List UInt8} {G : List Nat} (h : InAt w p (some l) G) : ∃ a c, w.cell? ⟨p, 0, none⟩ = some (.slice a l.length c) ∧ l.length ≤ 9223372036854775807 := by
  obtain ⟨a, c, bs, ⟨h1, h2, _⟩, _, h5⟩ := h
  obtain rfl := h5 l rfl
  exact ⟨a, c, by rw [cell_of_row w p 0 _ _ _ h1]; rfl, by have := h2.le; have := h2.max; unfold maxLen at this; omega⟩

theorem num4 (b : List UInt8) : num (b.take 4) < 4294967296 := by
  have h := num_lt (b.take 4)
  have : 256 ^ (b.take 4).length ≤ 256 ^ 4 := Nat.pow_le_pow_right (by omega) (by simp; omega)
  have h4 : (256 : Nat) ^ 4 = 4294967296 := by decide
  omega

/-- In.count -/
theorem many_any (p : Nat) (most : Int) (size : Nat) (s : St) (G : List Nat) (w : World) (h : InAt w p s G) (hs : 1 ≤ size) (hs1 : size ≤ 32) :
    Calls Try.prog 31 #[.pointer (some ⟨p, 0, none⟩), .int .i64 most, .int .i64 size] w fun e w' => e = .returned (.int .i64 (rMany most size s).1) ∧ InAt w' p (rMany most size s).2 G ∧ Kp [p] w w' := by
  have H := Lib.hid h
  clear h
  cases ht : rTake 4 s with
  | none =>
    have hr : rMany most size s = (0, none) := by simp [rMany, ht]
    have HR := Lib.hid hr
    have HB := Lib.hid (rTake_bad ht)
    clear hr ht
    go_enter Try.func31, Try.ntmps31
    go_wp2_with fail
    refine (take_bad p 4 s G _ H.out HB.out).mono ?_
    rintro e w1 ⟨rfl, h1, k1⟩
    have hf := h1.bad
    have H1 := Lib.hid h1
    have K1 := Lib.hid k1
    clear h1 k1
    go_wp2
    go_ret
    rw [HR.out]
    exact ⟨rfl, H1.out, K1.out⟩
  | some x =>
    obtain ⟨l, r⟩ := x
    obtain ⟨b, rfl, hb, rfl, rfl⟩ := rTake_good ht
    have hv : rMany most size (some b) = if most < (num (b.take 4) : Int) ∨ (b.drop 4).length / size < num (b.take 4) then (0, none) else ((num (b.take 4)), some (b.drop 4)) := by simp [rMany, ht]
    have hlen : (b.take 4).length = 4 := by simp; omega
    have hlr : (b.drop 4).length = b.length - 4 := by simp
    have hn := num4 b
    obtain ⟨n, hnn⟩ : ∃ n, n = num (b.take 4) := ⟨_, rfl⟩
    obtain ⟨r, hrr⟩ : ∃ r, r = b.drop 4 := ⟨_, rfl⟩
    rw [← hnn] at hn hv
    rw [← hrr] at hv hlr
    have hw : wrap64 (n : Int) = n := IntWalk.wrap64_in _ ⟨by omega, by omega⟩
    have HW := Lib.hid hw
    have HN := Lib.hid hnn
    have HRR := Lib.hid hrr
    have HL := Lib.hid hlen
    clear hnn hrr hlen hlr ht hw
    have e1 : ((r.length : Int) / (size : Int)) = ((r.length / size : Nat) : Int) := by simp
    have E1 := Lib.hid e1
    clear e1
    by_cases hA : most < (n : Int)
    · have hc : rMany most size (some b) = (0, none) := by rw [hv, if_pos (.inl hA)]
      have HC := Lib.hid hc
      clear hc hv
      go_enter Try.func31, Try.ntmps31
      go_wp2_with fail
      refine (take_ok p 4 b G _ H.out hb).mono ?_
      rintro e w1 ⟨a, c, rfl, hrd, hG, h1, k1⟩
      have hf := h1.good
      have hfr := h1.free
      have H1 := Lib.hid h1
      have K1 := Lib.hid k1
      have HRD := Lib.hid hrd
      clear h1 k1 hrd hG
      go_wp2_with fail
      have hcall := num_any a c (b.take 4) w1 (by rw [HL.out]; exact HRD.out) (by rw [HL.out]; omega)
      rw [HL.out, ← HN.out, HW.out] at hcall
      refine hcall.mono ?_
      rintro e w2 ⟨rfl, rfl⟩
      clear hcall
      go_wp2
      go_ret
      rw [HC.out]
      exact ⟨rfl, H1.out.spoil.1, K1.out.trans H1.out.spoil.2 (by simp)⟩
    · by_cases hB : r.length / size < n
      · have hc : rMany most size (some b) = (0, none) := by rw [hv, if_pos (.inr hB)]
        have HC := Lib.hid hc
        clear hc hv
        have hB1 : decide ((r.length : Int) / (size : Int) < (n : Int)) = true := decide_eq_true (by rw [E1.out]; omega)
        have hs0 : ((size : Int) == 0) = false := by rw [beq_eq_false_iff_ne]; omega
        go_enter Try.func31, Try.ntmps31
        go_wp2_with fail
        refine (take_ok p 4 b G _ H.out hb).mono ?_
        rintro e w1 ⟨a, c, rfl, hrd, hG, h1, k1⟩
        have hf := h1.good
        have hfr := h1.free
        obtain ⟨a2, c2, hd, hlr⟩ := h1.data
        rw [← HRR.out] at hd hlr
        have hdl : r.length / size ≤ r.length := Nat.div_le_self _ _
        have hw2 : wrap64 ((r.length : Int) / (size : Int)) = (r.length : Int) / (size : Int) := by rw [E1.out]; revert hdl; generalize r.length / size = q; intro hdl; exact IntWalk.wrap64_in _ ⟨by omega, by omega⟩
        clear hdl
        have H1 := Lib.hid h1
        have K1 := Lib.hid k1
        have HRD := Lib.hid hrd
        clear h1 k1 hrd hG
        go_wp2_with fail
        have hcall := num_any a c (b.take 4) w1 (by rw [HL.out]; exact HRD.out) (by rw [HL.out]; omega)
        rw [HL.out, ← HN.out, HW.out] at hcall
        refine hcall.mono ?_
        rintro e w2 ⟨rfl, rfl⟩
        clear hcall
        go_wp2
        go_ret
        rw [HC.out]
        exact ⟨rfl, H1.out.spoil.1, K1.out.trans H1.out.spoil.2 (by simp)⟩
      · have hc : rMany most size (some b) = (n, some r) := by rw [hv, if_neg (by omega)]
        have HC := Lib.hid hc
        clear hc hv
        have hB1 : decide ((r.length : Int) / (size : Int) < (n : Int)) = false := decide_eq_false (by rw [E1.out]; omega)
        have hs0 : ((size : Int) == 0) = false := by rw [beq_eq_false_iff_ne]; omega
        go_enter Try.func31, Try.ntmps31
        go_wp2_with fail
        refine (take_ok p 4 b G _ H.out hb).mono ?_
        rintro e w1 ⟨a, c, rfl, hrd, hG, h1, k1⟩
        have hf := h1.good
        have hfr := h1.free
        obtain ⟨a2, c2, hd, hlr⟩ := h1.data
        rw [← HRR.out] at hd hlr
        have hdl : r.length / size ≤ r.length := Nat.div_le_self _ _
        have hw2 : wrap64 ((r.length : Int) / (size : Int)) = (r.length : Int) / (size : Int) := by rw [E1.out]; revert hdl; generalize r.length / size = q; intro hdl; exact IntWalk.wrap64_in _ ⟨by omega, by omega⟩
        clear hdl
        have H1 := Lib.hid h1
        have K1 := Lib.hid k1
        have HRD := Lib.hid hrd
        clear h1 k1 hrd hG
        go_wp2_with fail
        have hcall := num_any a c (b.take 4) w1 (by rw [HL.out]; exact HRD.out) (by rw [HL.out]; omega)
        rw [HL.out, ← HN.out, HW.out] at hcall
        refine hcall.mono ?_
        rintro e w2 ⟨rfl, rfl⟩
        clear hcall
        go_wp2
        go_ret
        rw [HC.out]
        exact ⟨rfl, by rw [HRR.out]; exact H1.out, K1.out⟩

end Go.Proofs.Ytngdbblgnimogaa
