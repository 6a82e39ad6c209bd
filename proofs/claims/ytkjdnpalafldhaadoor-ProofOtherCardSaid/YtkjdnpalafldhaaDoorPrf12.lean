/-
  law08's join; places and steps, read. (Printed by gen_prf12.py.)
-/
import Derived.Test.YtkjdnpalafldhaaDoorRegK
import Derived.Test.YtkjdnpalafldhaaDoorPrf1
import Derived.Test.YtkjdnpalafldhaaDoorOpen
namespace Go.Proofs.YtkjdnpalafldhaaDoor
open Go.RowKit Go.ChangeShapes Go.WideShapes Go.ChangeAt

theorem join_any (h p : Hsh) (left : Bool) (w : World) (hL : Laid w) (h2 : 2 ≤ w.heap.size) :
    Calls Tryd.prog 33 #[hv h, hv p, .bool left] w fun e w' => e = .returned (hv (joinH h p left)) ∧ Kp [] w w' := by
  have HS := Lib.hid (St.start [] w)
  have tokN0 : True := trivial
  have tokB0 : True := trivial
  have tokB1 : True := trivial
  cases left with
  | true =>
    have HN := Lib.hid (fun W (k : Kp [] w W) => node_any p h W (hL.below k) (Nat.le_trans h2 k.size))
    have HJ := Lib.hid (show joinH h p true = nodeH p h from rfl)
    rw [HJ.out]
    obtain ⟨r, hr⟩ : ∃ r, r = nodeH p h := ⟨_, rfl⟩
    rw [← hr] at HN ⊢
    clear hr hL
    go_enter Tryd.func33, Tryd.ntmps33
    go_wp2_with (first
    | (have _t := tokB0; refine boxS HS.out rfl rfl rfl (c := hvA h) rfl ?_; clear tokB0; intro g3 w1 hs; clear HS; have HS := Lib.hid hs; clear hs)
    | (have _t := tokB1; refine boxS HS.out rfl rfl rfl (c := hvA p) rfl ?_; clear tokB1; intro g4 w1 hs; clear HS; have HS := Lib.hid hs; clear hs)
    | (have _t := tokN0; refine newS HS.out Tryd.zhash rfl rfl (c := hvA zeroH) rfl ?_; clear tokN0; intro g6 w1 hs; clear HS; have HS := Lib.hid hs; clear hs)
    | (refine isLoad rfl ?_; first | (refine getS0 HS.out Tryd.aghash rfl rfl rfl (by first | exact hvA_size _ | rfl) ?_) | (refine cellS0 HS.out Tryd.scint rfl rfl rfl rfl ?_) | (refine cellS0 HS.out Tryd.schashes rfl rfl rfl rfl ?_) | (refine getS1 HS.out Tryd.aghash rfl rfl rfl (by first | exact hvA_size _ | rfl) ?_) | (refine cellS1 HS.out Tryd.scint rfl rfl rfl rfl ?_) | (refine cellS1 HS.out Tryd.schashes rfl rfl rfl rfl ?_) | (refine getS2 HS.out Tryd.aghash rfl rfl rfl (by first | exact hvA_size _ | rfl) ?_) | (refine cellS2 HS.out Tryd.scint rfl rfl rfl rfl ?_) | (refine cellS2 HS.out Tryd.schashes rfl rfl rfl rfl ?_))
    | (refine isStore rfl ?_; first | (refine setS0 HS.out Tryd.aghash rfl rfl rfl (by first | exact hvA_size _ | rfl) rfl (by first | exact hvA_size _ | rfl) (hvA_one _) ?_; intro w1 hs; clear HS; have HS := Lib.hid hs; clear hs) | (refine setS0 HS.out Tryd.aghash rfl rfl rfl (by first | exact hvA_size _ | rfl) (c := hvA zeroH) rfl (hvA_size _) (hvA_one _) ?_; intro w1 hs; clear HS; have HS := Lib.hid hs; clear hs) | (refine setS1 HS.out Tryd.aghash rfl rfl rfl (by first | exact hvA_size _ | rfl) rfl (by first | exact hvA_size _ | rfl) (hvA_one _) ?_; intro w1 hs; clear HS; have HS := Lib.hid hs; clear hs) | (refine setS1 HS.out Tryd.aghash rfl rfl rfl (by first | exact hvA_size _ | rfl) (c := hvA zeroH) rfl (hvA_size _) (hvA_one _) ?_; intro w1 hs; clear HS; have HS := Lib.hid hs; clear hs) | (refine setS2 HS.out Tryd.aghash rfl rfl rfl (by first | exact hvA_size _ | rfl) rfl (by first | exact hvA_size _ | rfl) (hvA_one _) ?_; intro w1 hs; clear HS; have HS := Lib.hid hs; clear hs) | (refine setS2 HS.out Tryd.aghash rfl rfl rfl (by first | exact hvA_size _ | rfl) (c := hvA zeroH) rfl (hvA_size _) (hvA_one _) ?_; intro w1 hs; clear HS; have HS := Lib.hid hs; clear hs)))
    refine (HN.out _ HS.out.kp).mono ?_
    rintro e w1 ⟨rfl, k1⟩
    have HS := Lib.hid (HS.out.call k1)
    clear k1
    go_wp2_with (first
    | (refine isLoad rfl ?_; first | (refine getS0 HS.out Tryd.aghash rfl rfl rfl (by first | exact hvA_size _ | rfl) ?_) | (refine cellS0 HS.out Tryd.scint rfl rfl rfl rfl ?_) | (refine cellS0 HS.out Tryd.schashes rfl rfl rfl rfl ?_) | (refine getS1 HS.out Tryd.aghash rfl rfl rfl (by first | exact hvA_size _ | rfl) ?_) | (refine cellS1 HS.out Tryd.scint rfl rfl rfl rfl ?_) | (refine cellS1 HS.out Tryd.schashes rfl rfl rfl rfl ?_) | (refine getS2 HS.out Tryd.aghash rfl rfl rfl (by first | exact hvA_size _ | rfl) ?_) | (refine cellS2 HS.out Tryd.scint rfl rfl rfl rfl ?_) | (refine cellS2 HS.out Tryd.schashes rfl rfl rfl rfl ?_))
    | (refine isStore rfl ?_; first | (refine setS0 HS.out Tryd.aghash rfl rfl rfl (by first | exact hvA_size _ | rfl) rfl (by first | exact hvA_size _ | rfl) (hvA_one _) ?_; intro w1 hs; clear HS; have HS := Lib.hid hs; clear hs) | (refine setS0 HS.out Tryd.aghash rfl rfl rfl (by first | exact hvA_size _ | rfl) (c := hvA zeroH) rfl (hvA_size _) (hvA_one _) ?_; intro w1 hs; clear HS; have HS := Lib.hid hs; clear hs) | (refine setS1 HS.out Tryd.aghash rfl rfl rfl (by first | exact hvA_size _ | rfl) rfl (by first | exact hvA_size _ | rfl) (hvA_one _) ?_; intro w1 hs; clear HS; have HS := Lib.hid hs; clear hs) | (refine setS1 HS.out Tryd.aghash rfl rfl rfl (by first | exact hvA_size _ | rfl) (c := hvA zeroH) rfl (hvA_size _) (hvA_one _) ?_; intro w1 hs; clear HS; have HS := Lib.hid hs; clear hs) | (refine setS2 HS.out Tryd.aghash rfl rfl rfl (by first | exact hvA_size _ | rfl) rfl (by first | exact hvA_size _ | rfl) (hvA_one _) ?_; intro w1 hs; clear HS; have HS := Lib.hid hs; clear hs) | (refine setS2 HS.out Tryd.aghash rfl rfl rfl (by first | exact hvA_size _ | rfl) (c := hvA zeroH) rfl (hvA_size _) (hvA_one _) ?_; intro w1 hs; clear HS; have HS := Lib.hid hs; clear hs)))
    exact ret_block Tryd.thash rfl (HS.out.blk ⟨g6, hvA r, 38⟩ (by simp)) (hvA_size _) rfl rfl ⟨rfl, HS.out.kp⟩
  | false =>
    have HN := Lib.hid (fun W (k : Kp [] w W) => node_any h p W (hL.below k) (Nat.le_trans h2 k.size))
    have HJ := Lib.hid (show joinH h p false = nodeH h p from rfl)
    rw [HJ.out]
    obtain ⟨r, hr⟩ : ∃ r, r = nodeH h p := ⟨_, rfl⟩
    rw [← hr] at HN ⊢
    clear hr hL
    go_enter Tryd.func33, Tryd.ntmps33
    go_wp2_with (first
    | (have _t := tokB0; refine boxS HS.out rfl rfl rfl (c := hvA h) rfl ?_; clear tokB0; intro g3 w1 hs; clear HS; have HS := Lib.hid hs; clear hs)
    | (have _t := tokB1; refine boxS HS.out rfl rfl rfl (c := hvA p) rfl ?_; clear tokB1; intro g4 w1 hs; clear HS; have HS := Lib.hid hs; clear hs)
    | (have _t := tokN0; refine newS HS.out Tryd.zhash rfl rfl (c := hvA zeroH) rfl ?_; clear tokN0; intro g6 w1 hs; clear HS; have HS := Lib.hid hs; clear hs)
    | (refine isLoad rfl ?_; first | (refine getS0 HS.out Tryd.aghash rfl rfl rfl (by first | exact hvA_size _ | rfl) ?_) | (refine cellS0 HS.out Tryd.scint rfl rfl rfl rfl ?_) | (refine cellS0 HS.out Tryd.schashes rfl rfl rfl rfl ?_) | (refine getS1 HS.out Tryd.aghash rfl rfl rfl (by first | exact hvA_size _ | rfl) ?_) | (refine cellS1 HS.out Tryd.scint rfl rfl rfl rfl ?_) | (refine cellS1 HS.out Tryd.schashes rfl rfl rfl rfl ?_) | (refine getS2 HS.out Tryd.aghash rfl rfl rfl (by first | exact hvA_size _ | rfl) ?_) | (refine cellS2 HS.out Tryd.scint rfl rfl rfl rfl ?_) | (refine cellS2 HS.out Tryd.schashes rfl rfl rfl rfl ?_))
    | (refine isStore rfl ?_; first | (refine setS0 HS.out Tryd.aghash rfl rfl rfl (by first | exact hvA_size _ | rfl) rfl (by first | exact hvA_size _ | rfl) (hvA_one _) ?_; intro w1 hs; clear HS; have HS := Lib.hid hs; clear hs) | (refine setS0 HS.out Tryd.aghash rfl rfl rfl (by first | exact hvA_size _ | rfl) (c := hvA zeroH) rfl (hvA_size _) (hvA_one _) ?_; intro w1 hs; clear HS; have HS := Lib.hid hs; clear hs) | (refine setS1 HS.out Tryd.aghash rfl rfl rfl (by first | exact hvA_size _ | rfl) rfl (by first | exact hvA_size _ | rfl) (hvA_one _) ?_; intro w1 hs; clear HS; have HS := Lib.hid hs; clear hs) | (refine setS1 HS.out Tryd.aghash rfl rfl rfl (by first | exact hvA_size _ | rfl) (c := hvA zeroH) rfl (hvA_size _) (hvA_one _) ?_; intro w1 hs; clear HS; have HS := Lib.hid hs; clear hs) | (refine setS2 HS.out Tryd.aghash rfl rfl rfl (by first | exact hvA_size _ | rfl) rfl (by first | exact hvA_size _ | rfl) (hvA_one _) ?_; intro w1 hs; clear HS; have HS := Lib.hid hs; clear hs) | (refine setS2 HS.out Tryd.aghash rfl rfl rfl (by first | exact hvA_size _ | rfl) (c := hvA zeroH) rfl (hvA_size _) (hvA_one _) ?_; intro w1 hs; clear HS; have HS := Lib.hid hs; clear hs)))
    refine (HN.out _ HS.out.kp).mono ?_
    rintro e w1 ⟨rfl, k1⟩
    have HS := Lib.hid (HS.out.call k1)
    clear k1
    go_wp2_with (first
    | (refine isLoad rfl ?_; first | (refine getS0 HS.out Tryd.aghash rfl rfl rfl (by first | exact hvA_size _ | rfl) ?_) | (refine cellS0 HS.out Tryd.scint rfl rfl rfl rfl ?_) | (refine cellS0 HS.out Tryd.schashes rfl rfl rfl rfl ?_) | (refine getS1 HS.out Tryd.aghash rfl rfl rfl (by first | exact hvA_size _ | rfl) ?_) | (refine cellS1 HS.out Tryd.scint rfl rfl rfl rfl ?_) | (refine cellS1 HS.out Tryd.schashes rfl rfl rfl rfl ?_) | (refine getS2 HS.out Tryd.aghash rfl rfl rfl (by first | exact hvA_size _ | rfl) ?_) | (refine cellS2 HS.out Tryd.scint rfl rfl rfl rfl ?_) | (refine cellS2 HS.out Tryd.schashes rfl rfl rfl rfl ?_))
    | (refine isStore rfl ?_; first | (refine setS0 HS.out Tryd.aghash rfl rfl rfl (by first | exact hvA_size _ | rfl) rfl (by first | exact hvA_size _ | rfl) (hvA_one _) ?_; intro w1 hs; clear HS; have HS := Lib.hid hs; clear hs) | (refine setS0 HS.out Tryd.aghash rfl rfl rfl (by first | exact hvA_size _ | rfl) (c := hvA zeroH) rfl (hvA_size _) (hvA_one _) ?_; intro w1 hs; clear HS; have HS := Lib.hid hs; clear hs) | (refine setS1 HS.out Tryd.aghash rfl rfl rfl (by first | exact hvA_size _ | rfl) rfl (by first | exact hvA_size _ | rfl) (hvA_one _) ?_; intro w1 hs; clear HS; have HS := Lib.hid hs; clear hs) | (refine setS1 HS.out Tryd.aghash rfl rfl rfl (by first | exact hvA_size _ | rfl) (c := hvA zeroH) rfl (hvA_size _) (hvA_one _) ?_; intro w1 hs; clear HS; have HS := Lib.hid hs; clear hs) | (refine setS2 HS.out Tryd.aghash rfl rfl rfl (by first | exact hvA_size _ | rfl) rfl (by first | exact hvA_size _ | rfl) (hvA_one _) ?_; intro w1 hs; clear HS; have HS := Lib.hid hs; clear hs) | (refine setS2 HS.out Tryd.aghash rfl rfl rfl (by first | exact hvA_size _ | rfl) (c := hvA zeroH) rfl (hvA_size _) (hvA_one _) ?_; intro w1 hs; clear HS; have HS := Lib.hid hs; clear hs)))
    exact ret_block Tryd.thash rfl (HS.out.blk ⟨g6, hvA r, 38⟩ (by simp)) (hvA_size _) rfl rfl ⟨rfl, HS.out.kp⟩

theorem okWide_arr {P : Program} {w : World} {r : Reach} {base : Nat} {t e : TypeId} {n : Nat} {v : Value} (ht : P.underlying t = some (.array n e)) (h : Value.okWide P w r base t v) : ∃ cs, v = .agg cs := by
  simp only [Value.okWide, ht] at h
  obtain ⟨cs, h1, _⟩ := h
  exact ⟨cs, h1⟩
def plC (I N : Int) (a : Option Addr) (n c : Nat) (r : Hsh) : List Value := [.int .i64 I, .int .i64 N, .slice a n c] ++ hcs r
def plA (I N : Int) (a : Option Addr) (n c : Nat) (r : Hsh) : Array Value := (plC I N a n c r).toArray
theorem plC_length (I N : Int) (a : Option Addr) (n c : Nat) (r : Hsh) : (plC I N a n c r).length = 35 := by simp [plC, hcs_length]
theorem pl_root (I N : Int) (a : Option Addr) (n c : Nat) (r : Hsh) : ((plA I N a n c r).toList.drop 3).take 32 = hcs r := by
  simp only [plA, plC, List.cons_append, List.nil_append, List.drop_succ_cons, List.drop_zero]
  rw [List.take_of_length_le (by rw [hcs_length]; exact Nat.le_refl _)]
theorem pl_one (I N : Int) (a : Option Addr) (n c : Nat) (r : Hsh) : ∀ v ∈ (plA I N a n c r).toList, v.oneCell' = true := by
  intro v hv
  simp only [plA, plC, List.cons_append, List.nil_append, List.mem_cons] at hv
  rcases hv with rfl | rfl | rfl | hv
  · rfl
  · rfl
  · rfl
  · exact hcs_one r v hv
def stC (M N : Int) (o r : Hsh) (a : Option Addr) (n c : Nat) : List Value := [.int .i64 M, .int .i64 N] ++ (hcs o ++ (hcs r ++ [.slice a n c]))
def stA (M N : Int) (o r : Hsh) (a : Option Addr) (n c : Nat) : Array Value := (stC M N o r a n c).toArray
theorem stC_length (M N : Int) (o r : Hsh) (a : Option Addr) (n c : Nat) : (stC M N o r a n c).length = 67 := by simp [stC, hcs_length]
theorem st_old (M N : Int) (o r : Hsh) (a : Option Addr) (n c : Nat) : ((stA M N o r a n c).toList.drop 2).take 32 = hcs o := by
  simp only [stA, stC, List.cons_append, List.nil_append, List.drop_succ_cons, List.drop_zero]
  rw [List.take_left' (hcs_length _)]
theorem st_root (M N : Int) (o r : Hsh) (a : Option Addr) (n c : Nat) : ((stA M N o r a n c).toList.drop 34).take 32 = hcs r := by
  have e : (stA M N o r a n c).toList.drop 34 = hcs r ++ [.slice a n c] := by
    simp only [stA, stC, List.cons_append, List.nil_append, List.drop_succ_cons]
    rw [List.drop_left' (hcs_length _)]
  rw [e, List.take_left' (hcs_length _)]
theorem st_slice (M N : Int) (o r : Hsh) (a : Option Addr) (n c : Nat) : (stA M N o r a n c)[66]? = some (.slice a n c) := by
  have h : (stA M N o r a n c).toList[66]? = some (.slice a n c) := by
    have e : (stA M N o r a n c).toList = ([Value.int .i64 M, Value.int .i64 N] ++ (hcs o ++ hcs r)) ++ [Value.slice a n c] := by simp [stA, stC]
    have hl : ([Value.int .i64 M, Value.int .i64 N] ++ (hcs o ++ hcs r)).length = 66 := by simp [hcs_length]
    rw [e, List.getElem?_append_right (by rw [hl]; exact Nat.le_refl _), hl]; rfl
  simpa using h
theorem st_m (M N : Int) (o r : Hsh) (a : Option Addr) (n c : Nat) : (stA M N o r a n c)[0]? = some (.int .i64 M) := rfl
theorem st_n (M N : Int) (o r : Hsh) (a : Option Addr) (n c : Nat) : (stA M N o r a n c)[1]? = some (.int .i64 N) := rfl

theorem reads_fields {H : Type} {enc : TypeId × Value → H} {P : Program} {W : World} {t : TypeId} {fs : Array Field} {cs : List Value} (ht : P.underlying t = some (.struct fs)) (h : Reads enc P W t cs) :
    cs.length = P.cellsOf t ∧ ∀ (i : Nat) (f : Field), fs[i]? = some f → Reads enc P W f.type ((cs.drop f.offset).take (P.cellsOf f.type)) := by
  obtain ⟨fuel, x, h⟩ := h
  obtain ⟨xs, n, _, _, hl, hlen, hf⟩ := DataW.trod_struct ht h
  refine ⟨hl, fun i f hi => ?_⟩
  have h1 := hf i f hi
  have hlt : i < xs.length := by
    have := (Array.getElem?_eq_some_iff.1 hi).1; omega
  rw [List.getElem?_eq_getElem hlt] at h1
  exact ⟨n, _, h1⟩
def I64 (n : Int) : Prop := -9223372036854775808 ≤ n ∧ n ≤ 9223372036854775807
theorem reads_place {H : Type} {enc : TypeId × Value → H} {W : World} {cs : List Value} (h : Reads enc Tryd.prog W 47 cs) :
    ∃ I N a c l r, cs = plC I N a (l : List Hsh).length c r ∧ I64 I ∧ I64 N ∧ Rd W a l.length c 32 (hsc l) := by
  obtain ⟨hl, hf⟩ := reads_fields Tryd.underlying47 h
  have c35 : Tryd.prog.cellsOf 47 = 35 := by kernel_rfl
  have c1 : Tryd.prog.cellsOf 3 = 1 := by kernel_rfl
  have c32 : Tryd.prog.cellsOf 38 = 32 := by kernel_rfl
  have csl : Tryd.prog.cellsOf 25 = 1 := by kernel_rfl
  have cu : Tryd.prog.cellsOf 5 = 1 := by kernel_rfl
  have f0 : Reads enc Tryd.prog W 3 ((cs.drop 0).take (Tryd.prog.cellsOf 3)) := hf 0 _ rfl
  have f1 : Reads enc Tryd.prog W 3 ((cs.drop 1).take (Tryd.prog.cellsOf 3)) := hf 1 _ rfl
  have f2 : Reads enc Tryd.prog W 25 ((cs.drop 2).take (Tryd.prog.cellsOf 25)) := hf 2 _ rfl
  have f3 : Reads enc Tryd.prog W 38 ((cs.drop 3).take (Tryd.prog.cellsOf 38)) := hf 3 _ rfl
  rw [c1] at f0 f1
  rw [csl] at f2
  rw [c32] at f3
  rw [c35] at hl
  obtain ⟨n0, e0, w0⟩ := reads_int Tryd.underlying3 f0
  obtain ⟨n1, e1, w1⟩ := reads_int Tryd.underlying3 f1
  obtain ⟨a2, c2, l2, e2, r2⟩ := reads_hashes Tryd.underlying25 Tryd.underlying38 Tryd.underlying5 cu c32 f2
  obtain ⟨h3, e3⟩ := reads_hash Tryd.underlying38 Tryd.underlying5 cu c32 f3
  refine ⟨n0, n1, a2, c2, l2, h3, ?_, bounds_i64 w0, bounds_i64 w1, r2⟩
  have s3 : (cs.drop 3).take 32 = cs.drop 3 := List.take_of_length_le (by rw [List.length_drop]; omega)
  have es : cs = cs.take 1 ++ ((cs.drop 1).take 1 ++ ((cs.drop 2).take 1 ++ cs.drop 3)) := by
    have t2 : (cs.drop 2).take 1 ++ cs.drop 3 = cs.drop 2 := by
      have := List.take_append_drop 1 (cs.drop 2); rwa [List.drop_drop] at this
    have t1 : (cs.drop 1).take 1 ++ cs.drop 2 = cs.drop 1 := by
      have := List.take_append_drop 1 (cs.drop 1); rwa [List.drop_drop] at this
    rw [t2, t1, List.take_append_drop]
  rw [List.drop_zero] at e0
  rw [es, e0, e1, e2, ← s3, e3]; rfl
theorem reads_step {H : Type} {enc : TypeId × Value → H} {W : World} {cs : List Value} (h : Reads enc Tryd.prog W 59 cs) :
    ∃ M N o r a c l, cs = stC M N o r a (l : List Hsh).length c ∧ I64 M ∧ I64 N ∧ Rd W a l.length c 32 (hsc l) := by
  obtain ⟨hl, hf⟩ := reads_fields Tryd.underlying59 h
  have c35 : Tryd.prog.cellsOf 59 = 67 := by kernel_rfl
  have c1 : Tryd.prog.cellsOf 3 = 1 := by kernel_rfl
  have c32 : Tryd.prog.cellsOf 38 = 32 := by kernel_rfl
  have csl : Tryd.prog.cellsOf 25 = 1 := by kernel_rfl
  have cu : Tryd.prog.cellsOf 5 = 1 := by kernel_rfl
  have f0 : Reads enc Tryd.prog W 3 ((cs.drop 0).take (Tryd.prog.cellsOf 3)) := hf 0 _ rfl
  have f1 : Reads enc Tryd.prog W 3 ((cs.drop 1).take (Tryd.prog.cellsOf 3)) := hf 1 _ rfl
  have f2 : Reads enc Tryd.prog W 38 ((cs.drop 2).take (Tryd.prog.cellsOf 38)) := hf 2 _ rfl
  have f3 : Reads enc Tryd.prog W 38 ((cs.drop 34).take (Tryd.prog.cellsOf 38)) := hf 3 _ rfl
  have f4 : Reads enc Tryd.prog W 25 ((cs.drop 66).take (Tryd.prog.cellsOf 25)) := hf 4 _ rfl
  rw [c1] at f0 f1
  rw [csl] at f4
  rw [c32] at f2 f3
  rw [c35] at hl
  obtain ⟨n0, e0, w0⟩ := reads_int Tryd.underlying3 f0
  obtain ⟨n1, e1, w1⟩ := reads_int Tryd.underlying3 f1
  obtain ⟨h2, e2⟩ := reads_hash Tryd.underlying38 Tryd.underlying5 cu c32 f2
  obtain ⟨h3, e3⟩ := reads_hash Tryd.underlying38 Tryd.underlying5 cu c32 f3
  obtain ⟨a4, c4, l4, e4, r4⟩ := reads_hashes Tryd.underlying25 Tryd.underlying38 Tryd.underlying5 cu c32 f4
  refine ⟨n0, n1, h2, h3, a4, c4, l4, ?_, bounds_i64 w0, bounds_i64 w1, r4⟩
  have s4 : (cs.drop 66).take 1 = cs.drop 66 := List.take_of_length_le (by rw [List.length_drop]; omega)
  have es : cs = cs.take 1 ++ ((cs.drop 1).take 1 ++ ((cs.drop 2).take 32 ++ ((cs.drop 34).take 32 ++ cs.drop 66))) := by
    have t3 : (cs.drop 34).take 32 ++ cs.drop 66 = cs.drop 34 := by
      have := List.take_append_drop 32 (cs.drop 34); rwa [List.drop_drop] at this
    have t2 : (cs.drop 2).take 32 ++ cs.drop 34 = cs.drop 2 := by
      have := List.take_append_drop 32 (cs.drop 2); rwa [List.drop_drop] at this
    have t1 : (cs.drop 1).take 1 ++ cs.drop 2 = cs.drop 1 := by
      have := List.take_append_drop 1 (cs.drop 1); rwa [List.drop_drop] at this
    rw [t3, t2, t1, List.take_append_drop]
  rw [List.drop_zero] at e0
  rw [es, e0, e1, e2, e3, ← s4, e4]; rfl
end Go.Proofs.YtkjdnpalafldhaaDoor
