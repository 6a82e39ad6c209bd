import Derived.Test.YtngdbblgnimogaaWire8
namespace Go.Proofs.Ytngdbblgnimogaa
open Go.RowKit

theorem out_new (w : World) : OutAt (w.alloc (.cells #[.slice none 0 0] 24)) w.heap.size [] [w.heap.size] :=
  ⟨.slice none 0 0, ⟨heap_alloc_new w _, World.ownsRow_nil _ _ _ _⟩, rfl⟩
theorem Adv.all {F F' : List Nat} {w w' : World} (h : Adv F F' w w') {B : Nat} (hF : ∀ x ∈ F, B ≤ x) (hB : B ≤ w.heap.size) : ∀ x ∈ F', B ≤ x := fun x hx => by
  rcases h.gr x hx with h1 | h1
  · exact hF x h1
  · omega
theorem OutAt.flt {w : World} {p : Nat} {bs : List UInt8} {F : List Nat} (h : OutAt w p bs F) : ∀ x ∈ F, x < w.heap.size := by
  obtain ⟨v, hv, rfl⟩ := h
  intro x hx
  simp only [List.mem_cons] at hx
  rcases hx with rfl | hx
  · exact lt_of_block hv.1
  · exact (own_lt hv.2 x hx).2

theorem awake_any (w : World) : Calls Try.prog 15 #[] w fun e w' => e = .returned (.bool true) ∧ Kp [] w w' := by
  have hn := Lib.hid (out_new w)
  go_enter Try.func15, Try.ntmps15
  go_wp2_with fail
  refine (oint_any w.heap.size [] [w.heap.size] 258 _ hn.out (by simp)).mono ?_
  rintro e w1 ⟨rfl, F1, h1, k1⟩
  have H1 := Lib.hid h1
  have K1 := Lib.hid k1
  clear h1 k1
  go_wp2_with fail
  refine (otext_any w.heap.size _ F1 ⟨#[97, 98]⟩ _ H1.out (by simp [be_length]) (by decide) H1.out.flt).mono ?_
  rintro e w2 ⟨rfl, F2, h2, k2⟩
  have H2 := Lib.hid h2
  have K2 := Lib.hid k2
  clear h2 k2
  go_wp2_with fail
  refine (oall_any w.heap.size _ F2 _ H2.out (by simp [be_length, sl])).mono ?_
  rintro e w3 ⟨a, c, rfl, hown, hF, k3⟩
  obtain ⟨l, hl⟩ : ∃ l, l = ([] ++ be 8 258 ++ (be 4 ((ByteArray.mk #[97, 98]).size : Nat) ++ sl ⟨#[97, 98]⟩)) := ⟨_, rfl⟩
  rw [← hl] at hown ⊢
  have hb : l = [0, 0, 0, 0, 0, 0, 1, 2, 0, 0, 0, 2, 97, 98] := by rw [hl]; decide +kernel
  have HB := Lib.hid hb
  have hcv := conv_string (P := Try.prog) Try.underlying22 Try.underlying5 Try.underlying9 (own_rd hown)
  have K3 := Lib.hid k3
  clear hown hF k3 hb hl
  go_wp2
  go_ret
  have hF1 := K1.out.all (B := w.heap.size) (by simp) (by simp)
  refine ⟨?_, ?_⟩
  · rw [HB.out]; rfl
  · exact ((((Kp.refl [] w).alloc _).trans K1.out.kp (by simp)).trans K2.out.kp (fun x hx hlt => by have := hF1 x hx; omega)).trans K3.out (by simp)

/-! ### Numbers there and back -/
theorem byteOf_toNat (n : Int) : ((byteOf n).toNat : Int) = n % 256 := by
  have h1 := Int.emod_nonneg n (show (256 : Int) ≠ 0 by decide)
  have h2 := Int.emod_lt_of_pos n (show (0 : Int) < 256 by decide)
  unfold byteOf
  rw [show (UInt8.ofNat (n % 256).toNat).toNat = (n % 256).toNat from by simp; omega]
  omega
theorem num_beTo (s : Nat) (n : Int) : ∀ k, k ≤ s → ((num (beTo s n k) : Nat) : Int) = (n / 2 ^ (8 * (s - k))) % 256 ^ k := by
  intro k
  induction k with
  | zero => intro _; simp [beTo, num, Int.emod_one]
  | succ k ih =>
    intro hk
    have ih := ih (by omega)
    rw [beTo_succ, num_snoc]
    have e : (8 * ((s : Int) - 1 - (k : Int))).toNat = 8 * (s - (k + 1)) := by omega
    rw [e]
    obtain ⟨q, hq⟩ : ∃ q, q = n / 2 ^ (8 * (s - (k + 1))) := ⟨_, rfl⟩
    rw [← hq]
    have hd : n / 2 ^ (8 * (s - k)) = q / 256 := by
      rw [hq, Int.ediv_ediv_of_nonneg (by exact Int.pow_nonneg (by decide)), show 8 * (s - k) = 8 * (s - (k + 1)) + 8 by omega, Int.pow_add]
      rfl
    rw [hd] at ih
    have hb := byteOf_toNat q
    have h1 : ((num (beTo s n k) * 256 + (byteOf q).toNat : Nat) : Int) = (q / 256) % 256 ^ k * 256 + q % 256 := by rw [← ih, ← hb]; omega
    rw [h1, Int.pow_succ]
    have hp : (0 : Int) < 256 ^ k := Int.pow_pos (by decide)
    have h2 := Int.emod_add_mul_ediv (q / 256) (256 ^ k)
    have h3 := Int.emod_nonneg (q / 256) (show (256 : Int) ^ k ≠ 0 by omega)
    have h4 := Int.emod_lt_of_pos (q / 256) hp
    have h5 := Int.emod_add_mul_ediv q 256
    have h6 := Int.emod_nonneg q (show (256 : Int) ≠ 0 by decide)
    have h7 := Int.emod_lt_of_pos q (show (0 : Int) < 256 by decide)
    obtain ⟨P, hP⟩ : ∃ P : Int, P = 256 ^ k := ⟨_, rfl⟩
    rw [← hP] at h2 h3 h4 hp ⊢
    obtain ⟨x, hx⟩ : ∃ x, x = q / 256 % P := ⟨_, rfl⟩
    obtain ⟨d, hd'⟩ : ∃ d, d = q / 256 / P := ⟨_, rfl⟩
    rw [← hx] at h2 h3 h4 ⊢
    rw [← hd'] at h2
    have h8 : q = (x * 256 + q % 256) + P * 256 * d := by
      have : P * 256 * d = 256 * (P * d) := by rw [Int.mul_comm P 256, Int.mul_assoc]
      rw [this]; omega
    have h9 : q % (P * 256) = x * 256 + q % 256 := by
      conv => lhs; rw [h8]
      rw [Int.add_mul_emod_self_left, Int.emod_eq_of_lt (by omega) (by omega)]
    exact h9.symm

theorem num_be8 (n : Int) : ((num (be 8 n) : Nat) : Int) = n % 18446744073709551616 := by
  have := num_beTo 8 n 8 (Nat.le_refl _)
  simpa [be] using this
theorem wrap_be8 (n : Int) (h1 : -9223372036854775808 ≤ n) (h2 : n ≤ 9223372036854775807) : wrap64 (num (be 8 n)) = n := by
  rw [num_be8]; unfold wrap64; omega

theorem rInt_app (n : Int) (r : List UInt8) (h1 : -9223372036854775808 ≤ n) (h2 : n ≤ 9223372036854775807) : rInt (some (be 8 n ++ r)) = (n, some r) := by
  have hl := be_length 8 n
  have ht : (be 8 n ++ r).take 8 = be 8 n := List.take_left' hl
  have hd : (be 8 n ++ r).drop 8 = r := List.drop_left' hl
  have hle : 8 ≤ (be 8 n ++ r).length := by rw [List.length_append, hl]; omega
  simp only [rInt, rTake, if_pos hle, ht, hd, wrap_be8 n h1 h2]

end Go.Proofs.Ytngdbblgnimogaa
