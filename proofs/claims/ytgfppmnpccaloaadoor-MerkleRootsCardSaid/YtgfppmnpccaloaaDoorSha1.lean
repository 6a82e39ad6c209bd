/-
  WORDS of 32 bits, and what the code does with them.
-/
import Derived.Test.YtgfppmnpccaloaaDoorMem
import Derived.Test.YtgfppmnpccaloaaDoorQuiet
namespace Go.Proofs.YtgfppmnpccaloaaDoor
open Go.RowKit

/-! ### Words -/
abbrev W32 := BitVec 32
/-- A word's number. -/
def wn (x : W32) : Int := (x.toNat : Int)
def wv (x : W32) : Value := .int .u32 (wn x)
def wadd (x y : W32) : W32 := x + y
def wxor (x y : W32) : W32 := x ^^^ y
def wand (x y : W32) : W32 := x &&& y
def wor (x y : W32) : W32 := x ||| y
def wnot (x : W32) : W32 := ~~~x
def wshr (x : W32) (n : Nat) : W32 := x >>> n
def wshl (x : W32) (n : Nat) : W32 := x <<< n
def wror (x : W32) (n : Nat) : W32 := wor (wshl x (32 - n)) (wshr x n)
def wlit (n : Nat) : W32 := BitVec.ofNat 32 n
theorem wn_lt (x : W32) : 0 ≤ wn x ∧ wn x < 4294967296 := by unfold wn; have := x.isLt; omega
theorem ofInt_wn (x : W32) : BitVec.ofInt 32 (wn x) = x := by unfold wn; rw [BitVec.ofInt_natCast]; simp
theorem wrap_toNat (x : W32) : IntKind.u32.wrap (x.toNat : Int) = wn x := by
  have := x.isLt
  simp only [IntKind.wrap, IntKind.bits, IntKind.signed]; unfold wn; simp; omega
theorem bits_xor_wn (x y : W32) : bits .xor .u32 (wn x) (wn y) = wn (wxor x y) := by
  show IntKind.u32.wrap ((BitVec.ofInt 32 (wn x) ^^^ BitVec.ofInt 32 (wn y)).toNat : Int) = _
  rw [ofInt_wn, ofInt_wn, wrap_toNat]; rfl
theorem bits_and_wn (x y : W32) : bits .and .u32 (wn x) (wn y) = wn (wand x y) := by
  show IntKind.u32.wrap ((BitVec.ofInt 32 (wn x) &&& BitVec.ofInt 32 (wn y)).toNat : Int) = _
  rw [ofInt_wn, ofInt_wn, wrap_toNat]; rfl
theorem bits_or_wn (x y : W32) : bits .or .u32 (wn x) (wn y) = wn (wor x y) := by
  show IntKind.u32.wrap ((BitVec.ofInt 32 (wn x) ||| BitVec.ofInt 32 (wn y)).toNat : Int) = _
  rw [ofInt_wn, ofInt_wn, wrap_toNat]; rfl
theorem bits_not_wn (x : W32) : bits .xor .u32 4294967295 (wn x) = wn (wnot x) := by
  show IntKind.u32.wrap ((BitVec.ofInt 32 4294967295 ^^^ BitVec.ofInt 32 (wn x)).toNat : Int) = _
  rw [ofInt_wn, wrap_toNat]
  congr 1
theorem add_wn (x y : W32) : (wn x + wn y) % 4294967296 = wn (wadd x y) := by
  unfold wn wadd; rw [BitVec.toNat_add]; omega
theorem shr_wn (x : W32) (n : Nat) : wn x / (2 ^ n : Nat) = wn (wshr x n) := by
  unfold wn wshr; rw [BitVec.toNat_ushiftRight, Nat.shiftRight_eq_div_pow]; rfl
theorem shl_wn (x : W32) (n : Nat) : (wn x * (2 ^ n : Nat)) % 4294967296 = wn (wshl x n) := by
  unfold wn wshl; rw [BitVec.toNat_shiftLeft, Nat.shiftLeft_eq]; omega

theorem ror_eq (x : W32) (n : Nat) : bits .or .u32 (wn x * (2 ^ (32 - n) : Nat) % 4294967296) (wn x / (2 ^ n : Nat)) = wn (wror x n) := by
  rw [shl_wn, shr_wn, bits_or_wn]; rfl

theorem ror_eq' (x : W32) (n : Nat) {A B : Int} (ha : ((2 ^ (32 - n) : Nat) : Int) = A) (hb : ((2 ^ n : Nat) : Int) = B) : bits .or .u32 (wn x * A % 4294967296) (wn x / B) = wn (wror x n) := by
  rw [← ha, ← hb]; exact ror_eq x n

theorem ror_any (x : W32) (n : Nat) (w : World) (hn : n = 2 ∨ n = 6 ∨ n = 7 ∨ n = 11 ∨ n = 13 ∨ n = 17 ∨ n = 18 ∨ n = 19 ∨ n = 22 ∨ n = 25) :
    Calls Tryd.prog 26 #[.int .u32 (wn x), .int .i64 n] w fun e w' => e = .returned (.int .u32 (wn (wror x n))) ∧ w = w' := by
  obtain ⟨hx0, hx1⟩ := wn_lt x
  have hb2 : bits .and .u64 (IntKind.u64.wrap (-2)) 31 = 30 := by decide +kernel
  have hb6 : bits .and .u64 (IntKind.u64.wrap (-6)) 31 = 26 := by decide +kernel
  have hb7 : bits .and .u64 (IntKind.u64.wrap (-7)) 31 = 25 := by decide +kernel
  have hb11 : bits .and .u64 (IntKind.u64.wrap (-11)) 31 = 21 := by decide +kernel
  have hb13 : bits .and .u64 (IntKind.u64.wrap (-13)) 31 = 19 := by decide +kernel
  have hb17 : bits .and .u64 (IntKind.u64.wrap (-17)) 31 = 15 := by decide +kernel
  have hb18 : bits .and .u64 (IntKind.u64.wrap (-18)) 31 = 14 := by decide +kernel
  have hb19 : bits .and .u64 (IntKind.u64.wrap (-19)) 31 = 13 := by decide +kernel
  have hb22 : bits .and .u64 (IntKind.u64.wrap (-22)) 31 = 10 := by decide +kernel
  have hb25 : bits .and .u64 (IntKind.u64.wrap (-25)) 31 = 7 := by decide +kernel
  rcases hn with rfl | rfl | rfl | rfl | rfl | rfl | rfl | rfl | rfl | rfl
  · go_enter Tryd.func26, Tryd.ntmps26
    go_wp2
    go_ret
    exact ⟨congrArg (fun v => Ending.returned (.int .u32 v)) (ror_eq' x 2 (A := 1073741824) (B := 4) (by decide +kernel) (by decide +kernel)), rfl⟩
  · go_enter Tryd.func26, Tryd.ntmps26
    go_wp2
    go_ret
    exact ⟨congrArg (fun v => Ending.returned (.int .u32 v)) (ror_eq' x 6 (A := 67108864) (B := 64) (by decide +kernel) (by decide +kernel)), rfl⟩
  · go_enter Tryd.func26, Tryd.ntmps26
    go_wp2
    go_ret
    exact ⟨congrArg (fun v => Ending.returned (.int .u32 v)) (ror_eq' x 7 (A := 33554432) (B := 128) (by decide +kernel) (by decide +kernel)), rfl⟩
  · go_enter Tryd.func26, Tryd.ntmps26
    go_wp2
    go_ret
    exact ⟨congrArg (fun v => Ending.returned (.int .u32 v)) (ror_eq' x 11 (A := 2097152) (B := 2048) (by decide +kernel) (by decide +kernel)), rfl⟩
  · go_enter Tryd.func26, Tryd.ntmps26
    go_wp2
    go_ret
    exact ⟨congrArg (fun v => Ending.returned (.int .u32 v)) (ror_eq' x 13 (A := 524288) (B := 8192) (by decide +kernel) (by decide +kernel)), rfl⟩
  · go_enter Tryd.func26, Tryd.ntmps26
    go_wp2
    go_ret
    exact ⟨congrArg (fun v => Ending.returned (.int .u32 v)) (ror_eq' x 17 (A := 32768) (B := 131072) (by decide +kernel) (by decide +kernel)), rfl⟩
  · go_enter Tryd.func26, Tryd.ntmps26
    go_wp2
    go_ret
    exact ⟨congrArg (fun v => Ending.returned (.int .u32 v)) (ror_eq' x 18 (A := 16384) (B := 262144) (by decide +kernel) (by decide +kernel)), rfl⟩
  · go_enter Tryd.func26, Tryd.ntmps26
    go_wp2
    go_ret
    exact ⟨congrArg (fun v => Ending.returned (.int .u32 v)) (ror_eq' x 19 (A := 8192) (B := 524288) (by decide +kernel) (by decide +kernel)), rfl⟩
  · go_enter Tryd.func26, Tryd.ntmps26
    go_wp2
    go_ret
    exact ⟨congrArg (fun v => Ending.returned (.int .u32 v)) (ror_eq' x 22 (A := 1024) (B := 4194304) (by decide +kernel) (by decide +kernel)), rfl⟩
  · go_enter Tryd.func26, Tryd.ntmps26
    go_wp2
    go_ret
    exact ⟨congrArg (fun v => Ending.returned (.int .u32 v)) (ror_eq' x 25 (A := 128) (B := 33554432) (by decide +kernel) (by decide +kernel)), rfl⟩

/-- Four bytes, the highest first. -/
def wby (u : UInt8) : W32 := BitVec.ofNat 32 u.toNat
theorem wn_wby (u : UInt8) : wn (wby u) = (u.toNat : Int) := by
  have := u.toNat_lt
  unfold wn wby; rw [BitVec.toNat_ofNat]; omega
def wword (a b c d : UInt8) : W32 := wor (wor (wor (wshl (wby a) 24) (wshl (wby b) 16)) (wshl (wby c) 8)) (wby d)
theorem shl_wby (u : UInt8) (n : Nat) (h : n ≤ 24) : (u.toNat : Int) * (2 ^ n : Nat) = wn (wshl (wby u) n) := by
  rw [← shl_wn, wn_wby]
  have := u.toNat_lt
  have h2 : 2 ^ n ≤ 2 ^ 24 := Nat.pow_le_pow_right (by decide) h
  have h3 : u.toNat * 2 ^ n ≤ 255 * 2 ^ 24 := Nat.mul_le_mul (by omega) h2
  omega

def wordOf (l : List UInt8) : W32 := wword (l.getD 0 0) (l.getD 1 0) (l.getD 2 0) (l.getD 3 0)

theorem word_any (a : Option Addr) (n c : Nat) (l : List UInt8) (w : World) (h : Rd w a n c 1 (bcs l)) (hn : 4 ≤ n) (hl : n = l.length) :
    Calls Tryd.prog 25 #[.slice a n c] w fun e w' => e = .returned (.int .u32 (wn (wordOf l))) ∧ ∃ m, w' = w.drewN m := by
  obtain ⟨b, off, rfl, _, hc⟩ := h.spot (by rw [bcs_length]; omega)
  obtain ⟨u0, u1, u2, u3, r, rfl⟩ : ∃ u0 u1 u2 u3 r, l = u0 :: u1 :: u2 :: u3 :: r := by
    match l, hl with
    | u0 :: u1 :: u2 :: u3 :: r, _ => exact ⟨u0, u1, u2, u3, r, rfl⟩
    | [], h => simp at h; omega
    | [_], h => simp at h; omega
    | [_, _], h => simp at h; omega
    | [_, _, _], h => simp at h; omega
  have c0 : w.cell? ⟨b, off, none⟩ = some (.int .u8 u0.toNat) := hc 0 _ rfl
  have c1 : w.cell? ⟨b, off + 1, none⟩ = some (.int .u8 u1.toNat) := hc 1 _ rfl
  have c2 : w.cell? ⟨b, off + 2, none⟩ = some (.int .u8 u2.toNat) := hc 2 _ rfl
  have c3 : w.cell? ⟨b, off + 3, none⟩ = some (.int .u8 u3.toNat) := hc 3 _ rfl
  have b0 := u0.toNat_lt
  have b1 := u1.toNat_lt
  have b2 := u2.toNat_lt
  have b3 := u3.toNat_lt
  clear h hc hl
  go_enter Tryd.func25, Tryd.ntmps25
  go_wp2_with fail
  go_quiet (fail)
  go_wp2
  go_ret
  refine ⟨congrArg (fun v => Ending.returned (.int .u32 v)) ?_, nq, rfl⟩
  show bits .or .u32 (bits .or .u32 (bits .or .u32 ((u0.toNat : Int) * 16777216) ((u1.toNat : Int) * 65536)) ((u2.toNat : Int) * 256)) (u3.toNat : Int) = wn (wword u0 u1 u2 u3)
  have e0 : (u0.toNat : Int) * 16777216 = wn (wshl (wby u0) 24) := shl_wby u0 24 (by decide)
  have e1 : (u1.toNat : Int) * 65536 = wn (wshl (wby u1) 16) := shl_wby u1 16 (by decide)
  have e2 : (u2.toNat : Int) * 256 = wn (wshl (wby u2) 8) := shl_wby u2 8 (by decide)
  rw [e0, e1, e2, ← wn_wby u3, bits_or_wn, bits_or_wn, bits_or_wn]
  rfl
end Go.Proofs.YtgfppmnpccaloaaDoor
