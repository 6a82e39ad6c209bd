import Derived.Test.YtngdbblgnimogaaWire9
namespace Go.Proofs.Ytngdbblgnimogaa
open Go.RowKit

theorem or_i64 (x c : Nat) (hx : x < 72057594037927936) (hc : c < 256) : bits .or .i64 (wrap64 ((x : Int) * 256)) (c : Int) = wrap64 ((x * 256 + c : Nat) : Int) := by
  have h1 : (BitVec.ofInt 64 (wrap64 ((x : Int) * 256))).toNat = x * 256 := by
    rw [BitVec.toNat_ofInt]; unfold wrap64; omega
  have h2 : (BitVec.ofInt 64 (c : Int)).toNat = c := by rw [BitVec.toNat_ofInt]; omega
  have h3 := Nat.two_pow_add_eq_or_of_lt (i := 8) (by simpa using hc : c < 2 ^ 8) x
  show IntKind.i64.wrap ((BitVec.ofInt 64 (wrap64 ((x : Int) * 256)) ||| BitVec.ofInt 64 (c : Int)).toNat : Int) = _
  rw [BitVec.toNat_or, h1, h2, show x * 256 = 2 ^ 8 * x by omega, ← h3, IntKind.wrap_i64]
  unfold wrap64
  omega

theorem read_no (a : Option Addr) (c : Nat) (l : List UInt8) (at' size : Nat) (w : World) (hl : l.length < at' + size) (h1 : at' ≤ 4611686018427387904) (h2 : size ≤ 8) :
    Calls Try.prog 17 #[.slice a l.length c, .int .i64 at', .int .i64 size] w fun e w' => e = .returned (.tuple #[.int .i64 0, .bool false]) ∧ w = w' := by
  go_enter Try.func17, Try.ntmps17
  go_wp2
  go_ret2
  exact ⟨rfl, rfl⟩

set_option maxHeartbeats 400000 in
theorem read_yes (a : Option Addr) (c : Nat) (l : List UInt8) (at' size : Nat) (w : World) (hr : Rd w a l.length c 1 (bcs l)) (hl : at' + size ≤ l.length) (h2 : size ≤ 8) (hll : l.length ≤ 4611686018427387904) :
    Calls Try.prog 17 #[.slice a l.length c, .int .i64 at', .int .i64 size] w fun e w' => e = .returned (.tuple #[.int .i64 (wrap64 (num ((l.drop at').take size))), .bool true]) ∧ w = w' := by
  have hs : 0 < l.length → ∃ b off, a = some ⟨b, off, none⟩ ∧ b < w.heap.size ∧ ∀ j u, (bcs l)[j]? = some u → w.cell? ⟨b, off + j, none⟩ = some u := fun hp => hr.spot (by rw [bcs_length]; exact hp)
  have HS := Lib.hid hs
  clear hs hr
  go_enter Try.func17, Try.ntmps17
  go_wp2
  go_loop [8, 9] (fun n i => ∃ k : Nat, k ≤ size ∧ i = .int .i64 k ∧ n = .int .i64 (wrap64 (num ((l.drop at').take k)))) (fun _ i => size - (intOf i).toNat)
  case atStart => exact ⟨0, by omega, rfl, by simp [num, wrap64]⟩
  case round =>
    obtain ⟨k, hk, rfl, rfl⟩ := hrel
    by_cases hlt : k < size
    · obtain ⟨b, off, rfl, hb, hcs⟩ := HS.out (by omega)
      have hki : at' + k < l.length := by omega
      have hc : w.cell? ⟨b, off + (at' + k), none⟩ = some (bcell l[at' + k]) := hcs (at' + k) _ (by simp [bcs, hki])
      unfold bcell at hc
      have hb1 := num_lt ((l.drop at').take k)
      have hpow : 256 ^ ((l.drop at').take k).length ≤ 256 ^ 7 := Nat.pow_le_pow_right (by omega) (by simp; omega)
      have hb2 : num ((l.drop at').take k) < 72057594037927936 := by have : (256 : Nat) ^ 7 = 72057594037927936 := by decide
                                                                     omega
      obtain ⟨x, hx⟩ : ∃ x, x = num ((l.drop at').take k) := ⟨_, rfl⟩
      obtain ⟨y, hy⟩ : ∃ y : UInt8, y = l[at' + k] := ⟨_, rfl⟩
      rw [← hx] at hb2 ⊢
      rw [← hy] at hc
      have hyl := y.toNat_lt
      have hor := or_i64 x y.toNat hb2 hyl
      have hwx : wrap64 (x : Int) = x := IntWalk.wrap64_in _ ⟨by omega, by omega⟩
      have hsn : num ((l.drop at').take (k + 1)) = x * 256 + y.toNat := by
        have hd : (l.drop at')[k]'(by simp; omega) = y := by rw [hy]; simp
        rw [List.take_succ_eq_append_getElem (by simp; omega), num_snoc, hd, hx]
      have HN := Lib.hid hsn
      have HX := Lib.hid hx
      clear hsn hpow hb1 hcs hx hy
      rw [hwx]
      clear hwx
      go_wp2
      go_round
      case rel => exact ⟨k + 1, by omega, by go_num, by rw [HN.out]; exact congrArg (fun z => Value.int .i64 (wrap64 z)) (by omega)⟩
      case measure => simp [intOf]; omega
    · obtain rfl : k = size := by omega
      go_wp2
      go_ret2
      exact ⟨rfl, rfl⟩

end Go.Proofs.Ytngdbblgnimogaa
