/-
  SUMS of bytes over numbers; a node's.
-/
import Derived.Test.YtkjdnpalafldhaaDoorShaN
namespace Go.Proofs.YtkjdnpalafldhaaDoor

def wb4 (x : W32) : List UInt8 := [byteOf (wn x / 16777216), byteOf (wn x / 65536), byteOf (wn x / 256), byteOf (wn x)]
theorem byteOf_toNat (n : Nat) : (byteOf (n : Int)).toNat = n % 256 := by
  unfold byteOf
  simp
  omega
theorem wb4_N (x : W32) : bN (wb4 x) = x.toNat := by
  have h := x.isLt
  have e1 : wn x / 16777216 = ((x.toNat / 16777216 : Nat) : Int) := by unfold wn; omega
  have e2 : wn x / 65536 = ((x.toNat / 65536 : Nat) : Int) := by unfold wn; omega
  have e3 : wn x / 256 = ((x.toNat / 256 : Nat) : Int) := by unfold wn; omega
  unfold wb4
  simp only [bN, List.length_cons, List.length_nil]
  rw [e1, e2, e3, show wn x = ((x.toNat : Nat) : Int) from rfl, byteOf_toNat, byteOf_toNat, byteOf_toNat, byteOf_toNat]
  omega
theorem hashB_eq (s : S8) : hashB s = wb4 s.a ++ (wb4 s.b ++ (wb4 s.c ++ (wb4 s.d ++ (wb4 s.e ++ (wb4 s.f ++ (wb4 s.g ++ wb4 s.h)))))) := rfl
theorem wb4_length (x : W32) : (wb4 x).length = 4 := rfl
theorem hashB_N (s : S8) : bN (hashB s) = stNum s := by
  rw [hashB_eq, bN_append, bN_append, bN_append, bN_append, bN_append, bN_append, bN_append]
  simp only [List.length_append, wb4_length, wb4_N]
  unfold stNum packN
  show _ = ((((((s.a.toNat * 4294967296 + s.b.toNat) * 4294967296 + s.c.toNat) * 4294967296 + s.d.toNat) * 4294967296 + s.e.toNat) * 4294967296 + s.f.toNat) * 4294967296 + s.g.toNat) * 4294967296 + s.h.toNat
  generalize s.a.toNat = a
  generalize s.b.toNat = b
  generalize s.c.toNat = c
  generalize s.d.toNat = d
  generalize s.e.toNat = e
  generalize s.f.toNat = f
  generalize s.g.toNat = g
  generalize s.h.toNat = h
  omega
/-- A hash's number. -/
def hN (h : Hsh) : Nat := bN h.1
theorem hN_inj {x y : Hsh} (h : hN x = hN y) : x = y := Subtype.ext (bN_inj x.1 y.1 (by rw [x.2, y.2]) h)

def ivN : Nat := packN 1779033703 3144134277 1013904242 2773480762 1359893119 2600822924 528734635 1541459225
theorem ivN_is : stNum begin8 = ivN := by decide +kernel
/-- So many blocks of q. -/
noncomputable def foldN (P q j : Nat) : Nat := Nat.rec (motive := fun _ => Nat) ivN (fun i S => force S fun S => force (Nat.mod (Nat.shiftRight P (Nat.mul 512 (Nat.sub (Nat.sub q 1) i))) (Nat.pow 256 64)) fun B => compN S B) j
theorem foldN_succ (P q j : Nat) : foldN P q (j + 1) = compN (foldN P q j) (Nat.mod (Nat.shiftRight P (512 * (q - 1 - j))) (256 ^ 64)) := by
  show force (foldN P q j) (fun S => force (Nat.mod (Nat.shiftRight P (Nat.mul 512 (Nat.sub (Nat.sub q 1) j))) (Nat.pow 256 64)) fun B => compN S B) = _
  rw [force_eq, force_eq]; rfl
theorem part_N (P : List UInt8) (q i : Nat) (hq : P.length = 64 * q) (hi : i < q) : bN ((P.drop (64 * i)).take 64) = Nat.mod (Nat.shiftRight (bN P) (512 * (q - 1 - i))) (256 ^ 64) := by
  have e : P = P.take (64 * i) ++ ((P.drop (64 * i)).take 64 ++ (P.drop (64 * i)).drop 64) := by rw [List.take_append_drop, List.take_append_drop]
  have hl : ((P.drop (64 * i)).drop 64).length = 64 * (q - 1 - i) := by rw [List.length_drop, List.length_drop]; omega
  have hm : ((P.drop (64 * i)).take 64).length = 64 := by rw [List.length_take, List.length_drop]; omega
  have hlt := bN_lt ((P.drop (64 * i)).drop 64)
  have hlt2 := bN_lt ((P.drop (64 * i)).take 64)
  rw [hl] at hlt
  rw [hm] at hlt2
  have hN : bN P = (bN (P.take (64 * i)) * 256 ^ 64 + bN ((P.drop (64 * i)).take 64)) * 256 ^ (64 * (q - 1 - i)) + bN ((P.drop (64 * i)).drop 64) := by
    refine (congrArg bN e).trans ?_
    rw [bN_append, bN_append, List.length_append, hm, hl, Nat.pow_add, Nat.add_mul, Nat.mul_assoc, Nat.add_assoc]
  have hp : (2 : Nat) ^ (512 * (q - 1 - i)) = 256 ^ (64 * (q - 1 - i)) := by
    have h1 : 512 * (q - 1 - i) = 8 * (64 * (q - 1 - i)) := by omega
    have h2 : (2 : Nat) ^ 8 = 256 := by decide
    rw [h1, Nat.pow_mul, h2]
  have hsr : Nat.mod (Nat.shiftRight (bN P) (512 * (q - 1 - i))) (256 ^ 64) = bN P / 256 ^ (64 * (q - 1 - i)) % 256 ^ 64 := by
    rw [← hp, ← Nat.shiftRight_eq_div_pow]; rfl
  rw [hsr, hN]
  generalize bN ((P.drop (64 * i)).take 64) = X at hlt2
  generalize bN ((P.drop (64 * i)).drop 64) = Y at hlt
  generalize bN (P.take (64 * i)) = Z
  generalize (256 : Nat) ^ (64 * (q - 1 - i)) = p at hlt
  generalize (256 : Nat) ^ 64 = r at hlt2
  have hp0 : 0 < p := by omega
  rw [Nat.mul_comm _ p, Nat.mul_add_div hp0, Nat.div_eq_of_lt hlt, Nat.add_zero, Nat.mul_comm Z r, Nat.mul_add_mod, Nat.mod_eq_of_lt hlt2]
theorem foldN_is (P : List UInt8) (q : Nat) (hq : P.length = 64 * q) : ∀ j, j ≤ q → foldN (bN P) q j = stNum (stB begin8 P j)
  | 0, _ => ivN_is.symm
  | j + 1, h => by
    rw [foldN_succ, foldN_is P q hq j (by omega), ← part_N P q j hq (by omega), stB]
    exact compN_is _ _ (by rw [List.length_take, List.length_drop]; omega)
theorem bN_be8 (n : Nat) (h : n < 18446744073709551616) : bN (be 8 (n : Int)) = n := by
  have e : be 8 (n : Int) = [byteOf ((n : Int) / 72057594037927936), byteOf ((n : Int) / 281474976710656), byteOf ((n : Int) / 1099511627776), byteOf ((n : Int) / 4294967296), byteOf ((n : Int) / 16777216), byteOf ((n : Int) / 65536), byteOf ((n : Int) / 256), byteOf ((n : Int) / 1)] := rfl
  have e2 : (n : Int) / 72057594037927936 = ((n / 72057594037927936 : Nat) : Int) := by omega
  have e3 : (n : Int) / 281474976710656 = ((n / 281474976710656 : Nat) : Int) := by omega
  have e4 : (n : Int) / 1099511627776 = ((n / 1099511627776 : Nat) : Int) := by omega
  have e5 : (n : Int) / 4294967296 = ((n / 4294967296 : Nat) : Int) := by omega
  have e6 : (n : Int) / 16777216 = ((n / 16777216 : Nat) : Int) := by omega
  have e7 : (n : Int) / 65536 = ((n / 65536 : Nat) : Int) := by omega
  have e8 : (n : Int) / 256 = ((n / 256 : Nat) : Int) := by omega
  have e9 : (n : Int) / 1 = ((n / 1 : Nat) : Int) := by omega
  rw [e, e2, e3, e4, e5, e6, e7, e8, e9]
  simp only [bN, List.length_cons, List.length_nil, byteOf_toNat]
  omega
theorem bN_zeros : ∀ k, bN (List.replicate k 0) = 0
  | 0 => rfl
  | k + 1 => by rw [List.replicate_succ, bN, bN_zeros k]; simp
theorem bN_pad (L : Nat) (h : L ≤ 1000000) : bN (padOf L) = 128 * 256 ^ (padZ L + 8) + 8 * L := by
  unfold padOf
  have h8 : (be 8 ((8 * L : Nat) : Int)).length = 8 := rfl
  rw [bN_append, bN_append, bN_be8 _ (by omega), h8, bN_zeros, List.length_replicate, Nat.add_zero, Nat.mul_assoc, ← Nat.pow_add]
  congr 1
/-- The sum of bytes, by their count and their number. -/
noncomputable def shaN (L N : Nat) : Nat := force (Nat.div (Nat.add L 72) 64) fun q => force (Nat.add (Nat.mul N (Nat.pow 256 (Nat.sub (Nat.mul 64 q) L))) (Nat.add (Nat.mul 128 (Nat.pow 256 (Nat.sub (Nat.sub (Nat.mul 64 q) L) 1))) (Nat.mul 8 L))) fun P => foldN P q q
theorem shaH_N (m : List UInt8) (h : m.length ≤ 1000000) : hN (shaH m) = shaN m.length (bN m) := by
  have hz : padZ m.length + 9 + m.length = 64 * ((m.length + 72) / 64) := by unfold padZ; omega
  obtain ⟨q, hq⟩ : ∃ q, q = (m.length + 72) / 64 := ⟨_, rfl⟩
  rw [← hq] at hz
  have hpl : (padOf m.length).length = padZ m.length + 9 := by
    unfold padOf
    have h8 : (be 8 ((8 * m.length : Nat) : Int)).length = 8 := rfl
    rw [List.length_append, List.length_append, h8, List.length_replicate, List.length_singleton]; omega
  have hl : (m ++ padOf m.length).length = 64 * q := by rw [List.length_append, hpl]; omega
  unfold shaN
  rw [force_eq, force_eq, show Nat.div (Nat.add m.length 72) 64 = q from hq.symm]
  show bN (hashB (stOf (m ++ padOf m.length))) = _
  rw [hashB_N]
  unfold stOf
  rw [hl, Nat.mul_div_cancel_left q (by decide)]
  have hP : Nat.add (Nat.mul (bN m) (Nat.pow 256 (Nat.sub (Nat.mul 64 q) m.length))) (Nat.add (Nat.mul 128 (Nat.pow 256 (Nat.sub (Nat.sub (Nat.mul 64 q) m.length) 1))) (Nat.mul 8 m.length)) = bN (m ++ padOf m.length) := by
    show bN m * 256 ^ (64 * q - m.length) + (128 * 256 ^ (64 * q - m.length - 1) + 8 * m.length) = _
    rw [bN_append, bN_pad _ h, hpl, show 64 * q - m.length = padZ m.length + 9 by omega, show padZ m.length + 9 - 1 = padZ m.length + 8 by omega]
  rw [hP, foldN_is _ q hl q (Nat.le_refl _)]
noncomputable def nodeN (X Y : Nat) : Nat := shaN 65 (Nat.add (Nat.add (Nat.pow 256 64) (Nat.mul X (Nat.pow 256 32))) Y)
theorem nodeH_N (x y : Hsh) : hN (nodeH x y) = nodeN (hN x) (hN y) := by
  unfold nodeH
  have hl : (1 :: (x.1 ++ y.1)).length = 65 := by rw [List.length_cons, List.length_append, x.2, y.2]
  rw [shaH_N _ (by rw [hl]; decide), hl]
  unfold nodeN
  congr 1
  rw [bN, List.length_append, bN_append, x.2, y.2]
  show _ = 256 ^ 64 + hN x * 256 ^ 32 + hN y
  have h1 : (256 : Nat) ^ (32 + 32) = 256 ^ 64 := by decide +kernel
  rw [h1]
  simp [hN]
  omega
/-- Two nodes that are not the same. -/
theorem node_ne {x y u v : Hsh} (h : nodeN (hN x) (hN y) ≠ nodeN (hN u) (hN v)) : nodeH x y ≠ nodeH u v := fun hh => h (by rw [← nodeH_N, ← nodeH_N, hh])
theorem testN : nodeN 1 2 ≠ nodeN 1 3 := by decide +kernel
end Go.Proofs.YtkjdnpalafldhaaDoor
