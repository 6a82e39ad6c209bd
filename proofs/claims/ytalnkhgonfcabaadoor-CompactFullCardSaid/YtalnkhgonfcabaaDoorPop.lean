/-
  math/bits.OnesCount: how many ones a number has.
-/
import Derived.Test.YtalnkhgonfcabaaDoorMem
namespace Go.Proofs.YtalnkhgonfcabaaDoor
open Go.RowKit

/-- How many ones. -/
def popF : Nat → Nat → Nat
  | 0, _ => 0
  | f + 1, x => if x = 0 then 0 else x % 2 + popF f (x / 2)
def pop (x : Nat) : Nat := popF x x
theorem popF_more : ∀ (f g x : Nat), x ≤ f → x ≤ g → popF f x = popF g x
  | 0, 0, _, _, _ => rfl
  | 0, g + 1, x, h, _ => by rw [popF, popF, if_pos (by omega)]
  | f + 1, 0, x, _, h => by rw [popF, popF, if_pos (by omega)]
  | f + 1, g + 1, x, h1, h2 => by
    rw [popF, popF]
    split
    · rfl
    · rw [popF_more f g (x / 2) (by omega) (by omega)]
theorem pop_step (x : Nat) : pop x = x % 2 + pop (x / 2) := by
  unfold pop
  by_cases h : x = 0
  · subst h; rfl
  · obtain ⟨f, hf⟩ : ∃ f, x = f + 1 := ⟨x - 1, by omega⟩
    rw [show popF x x = popF (f + 1) x by rw [← hf], popF, if_neg h, popF_more f (x / 2) _ (by omega) (Nat.le_refl _)]
theorem pop_zero : pop 0 = 0 := rfl
def pb (b : Nat) : Nat := b % 2 + (b / 2 % 2 + (b / 4 % 2 + (b / 8 % 2 + (b / 16 % 2 + (b / 32 % 2 + (b / 64 % 2 + b / 128 % 2))))))
theorem pop_byte (r b : Nat) (h : b < 256) : pop (256 * r + b) = pb b + pop r := by
  rw [pop_step, pop_step ((256 * r + b) / 2), pop_step ((256 * r + b) / 2 / 2), pop_step ((256 * r + b) / 2 / 2 / 2), pop_step ((256 * r + b) / 2 / 2 / 2 / 2), pop_step ((256 * r + b) / 2 / 2 / 2 / 2 / 2),
    pop_step ((256 * r + b) / 2 / 2 / 2 / 2 / 2 / 2), pop_step ((256 * r + b) / 2 / 2 / 2 / 2 / 2 / 2 / 2), show (256 * r + b) / 2 / 2 / 2 / 2 / 2 / 2 / 2 / 2 = r by omega]
  unfold pb
  omega
theorem and_split (r s b m : Nat) (hb : b < 256) (hm : m < 256) : (256 * r + b) &&& (256 * s + m) = 256 * (r &&& s) + (b &&& m) := by
  have hbm : b &&& m < 256 := Nat.lt_of_le_of_lt Nat.and_le_left hb
  apply Nat.eq_of_testBit_eq
  intro i
  rw [Nat.testBit_and, show (256 : Nat) = 2 ^ 8 from rfl, Nat.testBit_two_pow_mul_add r (by simpa using hb), Nat.testBit_two_pow_mul_add s (by simpa using hm), Nat.testBit_two_pow_mul_add (r &&& s) (by simpa using hbm)]
  split <;> rw [Nat.testBit_and]
def mk (m : Nat) : Nat → Nat
  | 0 => 0
  | k + 1 => 256 * mk m k + m
def s1 (k x : Nat) : Nat := (x / 2 &&& mk 85 k) + (x &&& mk 85 k)
def s2 (k x : Nat) : Nat := (x / 4 &&& mk 51 k) + (x &&& mk 51 k)
def s3 (k x : Nat) : Nat := (x / 16 + x) &&& mk 15 k
theorem b1 : ∀ c, c < 2 → ∀ b, b < 256 → ((128 * c + b / 2) &&& 85) + (b &&& 85) = (b / 2 % 2 + b % 2) + 4 * ((b / 8 % 2 + b / 4 % 2) + 4 * ((b / 32 % 2 + b / 16 % 2) + 4 * (b / 128 % 2 + b / 64 % 2))) := by decide +kernel
theorem b2 : ∀ c, c < 4 → ∀ b, b < 256 → ((64 * c + b / 4) &&& 51) + (b &&& 51) = (b / 4 % 4 + b % 4) + 16 * (b / 64 % 4 + b / 16 % 4) := by decide +kernel
theorem b3 : ∀ c, c < 256 → c &&& 15 = c % 16 := by decide +kernel
theorem mk_succ (m k : Nat) : mk m (k + 1) = 256 * mk m k + m := rfl
theorem s1_split (k r b : Nat) (h : b < 256) : s1 (k + 1) (256 * r + b) = 256 * s1 k r + ((b / 2 % 2 + b % 2) + 4 * ((b / 8 % 2 + b / 4 % 2) + 4 * ((b / 32 % 2 + b / 16 % 2) + 4 * (b / 128 % 2 + b / 64 % 2)))) := by
  have h2 := and_split (r / 2) (mk 85 k) (128 * (r % 2) + b / 2) 85 (by omega) (by omega)
  have h3 := and_split r (mk 85 k) b 85 h (by omega)
  have h4 : (256 * r + b) / 2 = 256 * (r / 2) + (128 * (r % 2) + b / 2) := by omega
  rw [← h4, ← mk_succ] at h2
  rw [← mk_succ] at h3
  unfold s1
  rw [h2, h3, ← b1 (r % 2) (Nat.mod_lt _ (by decide)) b h]
  generalize (128 * (r % 2) + b / 2) &&& 85 = A
  generalize b &&& 85 = B
  generalize r / 2 &&& mk 85 k = C
  generalize r &&& mk 85 k = D
  omega
theorem s2_split (k r b : Nat) (h : b < 256) : s2 (k + 1) (256 * r + b) = 256 * s2 k r + ((b / 4 % 4 + b % 4) + 16 * (b / 64 % 4 + b / 16 % 4)) := by
  have h2 := and_split (r / 4) (mk 51 k) (64 * (r % 4) + b / 4) 51 (by omega) (by omega)
  have h3 := and_split r (mk 51 k) b 51 h (by omega)
  have h4 : (256 * r + b) / 4 = 256 * (r / 4) + (64 * (r % 4) + b / 4) := by omega
  rw [← h4, ← mk_succ] at h2
  rw [← mk_succ] at h3
  unfold s2
  rw [h2, h3, ← b2 (r % 4) (Nat.mod_lt _ (by decide)) b h]
  generalize (64 * (r % 4) + b / 4) &&& 51 = A
  generalize b &&& 51 = B
  generalize r / 4 &&& mk 51 k = C
  generalize r &&& mk 51 k = D
  omega
theorem s3_split (k r c d : Nat) (hc : c ≤ 4) (hd : d ≤ 4) (hr : r % 16 ≤ 4) : s3 (k + 1) (256 * r + (c + 16 * d)) = 256 * s3 k r + (c + d) := by
  have h2 := and_split (r / 16 + r) (mk 15 k) (16 * (r % 16) + d + (c + 16 * d)) 15 (by omega) (by omega)
  have h4 : (256 * r + (c + 16 * d)) / 16 + (256 * r + (c + 16 * d)) = 256 * (r / 16 + r) + (16 * (r % 16) + d + (c + 16 * d)) := by omega
  rw [← h4, ← mk_succ, b3 _ (by omega)] at h2
  unfold s3
  rw [h2]
  omega
theorem digs (w x y z : Nat) (hw : w ≤ 2) (hx : x ≤ 2) (hy : y ≤ 2) (hz : z ≤ 2) : (w + 4 * (x + 4 * (y + 4 * z))) < 256 ∧ (w + 4 * (x + 4 * (y + 4 * z))) / 4 % 4 = x ∧ (w + 4 * (x + 4 * (y + 4 * z))) % 4 = w ∧ (w + 4 * (x + 4 * (y + 4 * z))) / 64 % 4 = z ∧ (w + 4 * (x + 4 * (y + 4 * z))) / 16 % 4 = y := by omega
/-- Byte by byte: how many ones each has. -/
def lanes : Nat → Nat → Nat
  | 0, _ => 0
  | k + 1, x => 256 * lanes k (x / 256) + pb (x % 256)
theorem s_lanes : ∀ (k x : Nat), x < 256 ^ k → s3 k (s2 k (s1 k x)) = lanes k x ∧ s2 k (s1 k x) % 16 ≤ 4
  | 0, x, h => by
    obtain rfl : x = 0 := by simp at h; omega
    exact ⟨rfl, by decide⟩
  | k + 1, x, h => by
    have hx : x = 256 * (x / 256) + x % 256 := by omega
    obtain ⟨r, hr⟩ : ∃ r, r = x / 256 := ⟨_, rfl⟩
    obtain ⟨b, hb⟩ : ∃ b, b = x % 256 := ⟨_, rfl⟩
    rw [Nat.pow_succ] at h
    have hb2 : b < 256 := by omega
    obtain ⟨e1, e2⟩ := s_lanes k r (by omega)
    have h1 := s1_split k r b hb2
    have hpb : pb b = (b / 2 % 2 + b % 2) + (b / 8 % 2 + b / 4 % 2) + (b / 32 % 2 + b / 16 % 2) + (b / 128 % 2 + b / 64 % 2) := by unfold pb; omega
    have l0 : b / 2 % 2 + b % 2 ≤ 2 := by omega
    have l1 : b / 8 % 2 + b / 4 % 2 ≤ 2 := by omega
    have l2 : b / 32 % 2 + b / 16 % 2 ≤ 2 := by omega
    have l3 : b / 128 % 2 + b / 64 % 2 ≤ 2 := by omega
    generalize b / 2 % 2 + b % 2 = c0 at h1 hpb l0
    generalize b / 8 % 2 + b / 4 % 2 = c1 at h1 hpb l1
    generalize b / 32 % 2 + b / 16 % 2 = c2 at h1 hpb l2
    generalize b / 128 % 2 + b / 64 % 2 = c3 at h1 hpb l3
    obtain ⟨d0, d1, d2, d3, d4⟩ := digs c0 c1 c2 c3 l0 l1 l2 l3
    have h2 := s2_split k (s1 k r) _ d0
    rw [d1, d2, d3, d4, ← h1] at h2
    clear d0 d1 d2 d3 d4
    have h3 := s3_split k (s2 k (s1 k r)) (c1 + c0) (c3 + c2) (by omega) (by omega) e2
    rw [← h2] at h3
    rw [lanes, ← hr, ← hb, ← e1, hpb]
    have hxx : x = 256 * r + b := by omega
    rw [hxx]
    refine ⟨h3.trans (by omega), ?_⟩
    rw [h2]; omega
theorem pb_le (b : Nat) : pb b ≤ 8 := by unfold pb; omega
theorem lanes_succ (k x : Nat) : lanes (k + 1) x = 256 * lanes k (x / 256) + pb (x % 256) := rfl
theorem lanes_sum (x : Nat) (h : x < 18446744073709551616) : ∃ p0 p1 p2 p3 p4 p5 p6 p7 : Nat, p0 ≤ 8 ∧ p1 ≤ 8 ∧ p2 ≤ 8 ∧ p3 ≤ 8 ∧ p4 ≤ 8 ∧ p5 ≤ 8 ∧ p6 ≤ 8 ∧ p7 ≤ 8 ∧
    lanes 8 x = 256 * (256 * (256 * (256 * (256 * (256 * (256 * p7 + p6) + p5) + p4) + p3) + p2) + p1) + p0 ∧ pop x = p0 + p1 + p2 + p3 + p4 + p5 + p6 + p7 := by
  have st : ∀ y, pop y = pb (y % 256) + pop (y / 256) := fun y => by
    have := pop_byte (y / 256) (y % 256) (by omega)
    rw [show 256 * (y / 256) + y % 256 = y by omega] at this
    exact this
  obtain ⟨x1, e1⟩ : ∃ y, y = x / 256 := ⟨_, rfl⟩
  obtain ⟨x2, e2⟩ : ∃ y, y = x1 / 256 := ⟨_, rfl⟩
  obtain ⟨x3, e3⟩ : ∃ y, y = x2 / 256 := ⟨_, rfl⟩
  obtain ⟨x4, e4⟩ : ∃ y, y = x3 / 256 := ⟨_, rfl⟩
  obtain ⟨x5, e5⟩ : ∃ y, y = x4 / 256 := ⟨_, rfl⟩
  obtain ⟨x6, e6⟩ : ∃ y, y = x5 / 256 := ⟨_, rfl⟩
  obtain ⟨x7, e7⟩ : ∃ y, y = x6 / 256 := ⟨_, rfl⟩
  have g0 := lanes_succ 7 x
  have g1 := lanes_succ 6 x1
  have g2 := lanes_succ 5 x2
  have g3 := lanes_succ 4 x3
  have g4 := lanes_succ 3 x4
  have g5 := lanes_succ 2 x5
  have g6 := lanes_succ 1 x6
  have g7 := lanes_succ 0 x7
  rw [← e1] at g0
  rw [← e2] at g1
  rw [← e3] at g2
  rw [← e4] at g3
  rw [← e5] at g4
  rw [← e6] at g5
  rw [← e7] at g6
  have g8 : lanes 0 (x7 / 256) = 0 := rfl
  have p0 := st x
  have p1 := st x1
  have p2 := st x2
  have p3 := st x3
  have p4 := st x4
  have p5 := st x5
  have p6 := st x6
  have p7 := st x7
  rw [← e1] at p0
  rw [← e2] at p1
  rw [← e3] at p2
  rw [← e4] at p3
  rw [← e5] at p4
  rw [← e6] at p5
  rw [← e7] at p6
  rw [show x7 / 256 = 0 by omega, pop_zero] at p7
  clear st e1 e2 e3 e4 e5 e6 e7 h
  refine ⟨pb (x % 256), pb (x1 % 256), pb (x2 % 256), pb (x3 % 256), pb (x4 % 256), pb (x5 % 256), pb (x6 % 256), pb (x7 % 256), pb_le _, pb_le _, pb_le _, pb_le _, pb_le _, pb_le _, pb_le _, pb_le _, ?_, ?_⟩
  · rw [show (8 : Nat) = 7 + 1 from rfl, g0, g1, g2, g3, g4, g5, g6, g7, g8, Nat.mul_zero, Nat.zero_add]
  · rw [p0, p1, p2, p3, p4, p5, p6, p7]; omega
theorem sum_lanes (p0 p1 p2 p3 p4 p5 p6 p7 F : Nat) (h0 : p0 ≤ 8) (h1 : p1 ≤ 8) (h2 : p2 ≤ 8) (h3 : p3 ≤ 8) (h4 : p4 ≤ 8) (h5 : p5 ≤ 8) (h6 : p6 ≤ 8) (h7 : p7 ≤ 8)
    (hF : F = 256 * (256 * (256 * (256 * (256 * (256 * (256 * p7 + p6) + p5) + p4) + p3) + p2) + p1) + p0) :
    F ≤ 1152921504606846975 ∧ (F + F / 256) + (F + F / 256) / 65536 + ((F + F / 256) + (F + F / 256) / 65536) / 4294967296 ≤ 2305843009213693951 ∧
    ((F + F / 256) + (F + F / 256) / 65536 + ((F + F / 256) + (F + F / 256) / 65536) / 4294967296) % 128 = p0 + p1 + p2 + p3 + p4 + p5 + p6 + p7 := by
  obtain ⟨a6, e6⟩ : ∃ a, a = 256 * p7 + p6 := ⟨_, rfl⟩
  obtain ⟨a5, e5⟩ : ∃ a, a = 256 * a6 + p5 := ⟨_, rfl⟩
  obtain ⟨a4, e4⟩ : ∃ a, a = 256 * a5 + p4 := ⟨_, rfl⟩
  obtain ⟨a3, e3⟩ : ∃ a, a = 256 * a4 + p3 := ⟨_, rfl⟩
  obtain ⟨a2, e2⟩ : ∃ a, a = 256 * a3 + p2 := ⟨_, rfl⟩
  obtain ⟨a1, e1⟩ : ∃ a, a = 256 * a2 + p1 := ⟨_, rfl⟩
  rw [← e6, ← e5, ← e4, ← e3, ← e2, ← e1] at hF
  have d1 : F / 256 = a1 := by clear e1 e2 e3 e4 e5 e6; omega
  rw [d1]
  have d2 : (F + a1) / 65536 = a2 + a3 := by clear e3 e4 e5 e6; omega
  rw [d2]
  have c3 : a3 = 4294967296 * p7 + 16777216 * p6 + 65536 * p5 + 256 * p4 + p3 := by omega
  have c4 : a4 = 16777216 * p7 + 65536 * p6 + 256 * p5 + p4 := by omega
  have c5 : a5 = 65536 * p7 + 256 * p6 + p5 := by omega
  have c2 : a2 = 4294967296 * a6 + 16777216 * p5 + 65536 * p4 + 256 * p3 + p2 := by omega
  have c1 : a1 = 4294967296 * a5 + 16777216 * p4 + 65536 * p3 + 256 * p2 + p1 := by omega
  have c0 : F = 4294967296 * a4 + 16777216 * p3 + 65536 * p2 + 256 * p1 + p0 := by omega
  have d3 : (F + a1 + (a2 + a3)) / 4294967296 = a4 + a5 + a6 + p7 := by
    have : F + a1 + (a2 + a3) = 4294967296 * (a4 + a5 + a6 + p7) + (16777216 * (p3 + p4 + p5 + p6) + 65536 * (p2 + p3 + p4 + p5) + 256 * (p1 + p2 + p3 + p4) + (p0 + p1 + p2 + p3)) := by rw [c0, c1, c2, c3]; clear c0 c1 c2 c3 c4 c5 e1 e2 e3 e4 e5 e6 d1 d2 hF; omega
    rw [this]
    clear c0 c1 c2 c3 c4 c5 e1 e2 e3 e4 e5 e6 d1 d2 hF this
    omega
  rw [d3]
  refine ⟨?_, ?_, ?_⟩
  · rw [c0, c4]; clear c0 c1 c2 c3 c4 c5 e1 e2 e3 e4 e5 e6 d1 d2 d3 hF; omega
  · rw [c0, c1, c2, c3, c4, c5, e6]; clear c0 c1 c2 c3 c4 c5 e1 e2 e3 e4 e5 e6 d1 d2 d3 hF; omega
  · rw [c0, c1, c2, c3, c4, c5, e6]; clear c0 c1 c2 c3 c4 c5 e1 e2 e3 e4 e5 e6 d1 d2 d3 hF; omega

theorem pow8 : (256 : Nat) ^ 8 = 18446744073709551616 := by decide
theorem m1v : mk 85 8 = 6148914691236517205 := by decide
theorem m2v : mk 51 8 = 3689348814741910323 := by decide
theorem m3v : mk 15 8 = 1085102592571150095 := by decide
theorem u64_nat (n : Nat) (h : n < 18446744073709551616) : IntKind.u64.wrap (n : Int) = (n : Int) := by
  simp [IntKind.wrap, IntKind.bits, IntKind.signed]; omega
/-- What the program reckons, step by step. -/
theorem pop_steps (x : Nat) (h : x < 18446744073709551616) : ∃ A B Y C D Z E G H I : Nat,
    bits .and .u64 ((x : Int) / 2) 6148914691236517205 = A ∧ bits .and .u64 (x : Int) 6148914691236517205 = B ∧ IntKind.u64.wrap ((A : Int) + B) = Y ∧
    bits .and .u64 ((Y : Int) / 4) 3689348814741910323 = C ∧ bits .and .u64 (Y : Int) 3689348814741910323 = D ∧ IntKind.u64.wrap ((C : Int) + D) = Z ∧
    bits .and .u64 (IntKind.u64.wrap ((Z : Int) / 16 + Z)) 1085102592571150095 = E ∧ IntKind.u64.wrap ((E : Int) + (E : Int) / 256) = G ∧ IntKind.u64.wrap ((G : Int) + (G : Int) / 65536) = H ∧
    IntKind.u64.wrap ((H : Int) + (H : Int) / 4294967296) = I ∧ I ≤ 2305843009213693951 ∧ (I : Int) % 128 = (pop x : Nat) := by
  obtain ⟨hs, hz⟩ := s_lanes 8 x (by rw [pow8]; exact h)
  obtain ⟨p0, p1, p2, p3, p4, p5, p6, p7, q0, q1, q2, q3, q4, q5, q6, q7, hl, hp⟩ := lanes_sum x h
  obtain ⟨f1, f2, f3⟩ := sum_lanes p0 p1 p2 p3 p4 p5 p6 p7 _ q0 q1 q2 q3 q4 q5 q6 q7 hl
  rw [← hs] at f1 f2 f3
  rw [← hp] at f3
  clear hl hp hs q0 q1 q2 q3 q4 q5 q6 q7
  have y1 : s1 8 x = (x / 2 &&& 6148914691236517205) + (x &&& 6148914691236517205) := by unfold s1; rw [m1v]
  have y2 : ∀ y, s2 8 y = (y / 4 &&& 3689348814741910323) + (y &&& 3689348814741910323) := fun y => by unfold s2; rw [m2v]
  have y3 : ∀ y, s3 8 y = (y / 16 + y) &&& 1085102592571150095 := fun y => by unfold s3; rw [m3v]
  have le1 : ∀ a : Nat, a &&& 6148914691236517205 ≤ 6148914691236517205 := fun a => Nat.and_le_right
  have le2 : ∀ a : Nat, a &&& 3689348814741910323 ≤ 3689348814741910323 := fun a => Nat.and_le_right
  have l1 := le1 (x / 2)
  have l2 := le1 x
  have l3 := le2 (s1 8 x / 4)
  have l4 := le2 (s1 8 x)
  have z1 := y2 (s1 8 x)
  have z2 := y3 (s2 8 (s1 8 x))
  obtain ⟨Y, hY⟩ : ∃ Y, Y = s1 8 x := ⟨_, rfl⟩
  rw [← hY] at y1 l3 l4 z1 z2 f1 f2 f3
  obtain ⟨Z, hZ⟩ : ∃ Z, Z = s2 8 Y := ⟨_, rfl⟩
  rw [← hZ] at z1 z2 f1 f2 f3
  obtain ⟨E, hE⟩ : ∃ E, E = s3 8 Z := ⟨_, rfl⟩
  rw [← hE] at z2 f1 f2 f3
  clear hY hZ hE hz y2 y3 le1 le2
  have hY2 : Y < 18446744073709551616 := by rw [y1]; omega
  have hZ2 : Z ≤ 7378697629483820646 := by rw [z1]; omega
  refine ⟨x / 2 &&& 6148914691236517205, x &&& 6148914691236517205, Y, Y / 4 &&& 3689348814741910323, Y &&& 3689348814741910323, Z, E, E + E / 256, E + E / 256 + (E + E / 256) / 65536, E + E / 256 + (E + E / 256) / 65536 + (E + E / 256 + (E + E / 256) / 65536) / 4294967296, ?_, ?_, ?_, ?_, ?_, ?_, ?_, ?_, ?_, ?_, f2, by omega⟩
  · exact u64_and_nat (x / 2) 6148914691236517205 (by omega) (by decide)
  · exact u64_and_nat x 6148914691236517205 h (by decide)
  · rw [y1]; exact u64_nat (_ + _) (by omega)
  · exact u64_and_nat (Y / 4) 3689348814741910323 (by omega) (by decide)
  · exact u64_and_nat Y 3689348814741910323 hY2 (by decide)
  · rw [z1]; exact u64_nat (_ + _) (by omega)
  · have := u64_nat (Z / 16 + Z) (by omega)
    rw [show ((Z : Int) / 16 + (Z : Int)) = ((Z / 16 + Z : Nat) : Int) by omega, this, z2]
    exact u64_and_nat _ 1085102592571150095 (by omega) (by decide)
  · rw [show ((E : Int) + (E : Int) / 256) = ((E + E / 256 : Nat) : Int) by omega]; exact u64_nat _ (by omega)
  · obtain ⟨G, hG⟩ : ∃ G, G = E + E / 256 := ⟨_, rfl⟩
    rw [← hG, show ((G : Int) + (G : Int) / 65536) = ((G + G / 65536 : Nat) : Int) by omega]; exact u64_nat _ (by omega)
  · obtain ⟨H, hH⟩ : ∃ H, H = E + E / 256 + (E + E / 256) / 65536 := ⟨_, rfl⟩
    rw [← hH] at f2 ⊢
    rw [show ((H : Int) + (H : Int) / 4294967296) = ((H + H / 4294967296 : Nat) : Int) by omega]; exact u64_nat _ (by omega)

theorem pop64_any (x : Nat) (h : x < 18446744073709551616) (w : World) :
    Calls Tryd.prog 126 #[.int .u64 x] w fun e w' => e = .returned (.int .i64 (pop x : Nat)) ∧ w = w' := by
  obtain ⟨A, B, Y, C, D, Z, E, G, H, I, e1, e2, e3, e4, e5, e6, e7, e8, e9, e10, e11, e12⟩ := pop_steps x h
  have e13 : IntKind.i64.wrap (I : Int) = I := IntWalk.i64_in _ (by omega)
  have e14 : bits .and .i64 (I : Int) 127 = (I : Int) % 128 := i64_and127 _
  obtain ⟨p, hp⟩ : ∃ p, p = pop x := ⟨_, rfl⟩
  rw [← hp] at e12 ⊢
  clear h e11 hp
  go_enter Tryd.func126, Tryd.ntmps126
  go_wp2
  go_ret
  exact ⟨rfl, rfl⟩
theorem pop_any (x : Nat) (h : x < 18446744073709551616) (w : World) :
    Calls Tryd.prog 81 #[.int .u64 x] w fun e w' => e = .returned (.int .i64 (pop x : Nat)) ∧ w = w' := by
  have HC := Lib.hid (fun W => pop64_any x h W)
  clear h
  go_enter Tryd.func81, Tryd.ntmps81
  go_wp2_with fail
  refine (HC.out _).mono ?_
  rintro e w' ⟨rfl, rfl⟩
  go_wp2
  go_ret
  exact ⟨rfl, rfl⟩
end Go.Proofs.YtalnkhgonfcabaaDoor
