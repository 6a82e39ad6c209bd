/-
  law08's join; places and steps, read. (Printed by gen_prf12.py.)
-/
import Derived.Test.YtalnkhgonfcabaaDoorRegK
import Derived.Test.YtalnkhgonfcabaaDoorPrf1
import Derived.Test.YtalnkhgonfcabaaDoorOpen
namespace Go.Proofs.YtalnkhgonfcabaaDoor
open Go.RowKit Go.ChangeShapes Go.WideShapes Go.ChangeAt


theorem okWide_arr {P : Program} {w : World} {r : Reach} {base : Nat} {t e : TypeId} {n : Nat} {v : Value} (ht : P.underlying t = some (.array n e)) (h : Value.okWide P w r base t v) : ∃ cs, v = .agg cs := by
  simp only [Value.okWide, ht] at h
  obtain ⟨cs, h1, _⟩ := h
  exact ⟨cs, h1⟩
def plC (I N : Int) (a : Option Addr) (n c : Nat) (r : Hsh) : List Value := [.int .i64 I, .int .i64 N, .slice a n c] ++ hcs r
def plA (I N : Int) (a : Option Addr) (n c : Nat) (r : Hsh) : Array Value := (plC I N a n c r).toArray
theorem plC_length (I N : Int) (a : Option Addr) (n c : Nat) (r : Hsh) : (plC I N a n c r).length = 35 := by simp [plC, hcs_length]
theorem pl_root (I N : Int) (a : Option Addr) (n c : Nat) (r : Hsh) : ((plA I N a n c r).toList.drop 3).take 32 = hcs r := by
  simp only [plA, plC, List.cons_append, List.nil_append, List.drop_succ_cons, List.drop_zero]
  rw [List.take_of_length_le (by rw [hcs_length]; exact Nat.le_refl _)]
theorem pl_one (I N : Int) (a : Option Addr) (n c : Nat) (r : Hsh) : ∀ v ∈ (plA I N a n c r).toList, v.oneCell' = true := by
  intro v hv
  simp only [plA, plC, List.cons_append, List.nil_append, List.mem_cons] at hv
  rcases hv with rfl | rfl | rfl | hv
  · rfl
  · rfl
  · rfl
  · exact hcs_one r v hv
def stC (M N : Int) (o r : Hsh) (a : Option Addr) (n c : Nat) : List Value := [.int .i64 M, .int .i64 N] ++ (hcs o ++ (hcs r ++ [.slice a n c]))
def stA (M N : Int) (o r : Hsh) (a : Option Addr) (n c : Nat) : Array Value := (stC M N o r a n c).toArray
theorem stC_length (M N : Int) (o r : Hsh) (a : Option Addr) (n c : Nat) : (stC M N o r a n c).length = 67 := by simp [stC, hcs_length]
theorem st_old (M N : Int) (o r : Hsh) (a : Option Addr) (n c : Nat) : ((stA M N o r a n c).toList.drop 2).take 32 = hcs o := by
  simp only [stA, stC, List.cons_append, List.nil_append, List.drop_succ_cons, List.drop_zero]
  rw [List.take_left' (hcs_length _)]
theorem st_root (M N : Int) (o r : Hsh) (a : Option Addr) (n c : Nat) : ((stA M N o r a n c).toList.drop 34).take 32 = hcs r := by
  have e : (stA M N o r a n c).toList.drop 34 = hcs r ++ [.slice a n c] := by
    simp only [stA, stC, List.cons_append, List.nil_append, List.drop_succ_cons]
    rw [List.drop_left' (hcs_length _)]
  rw [e, List.take_left' (hcs_length _)]
theorem st_slice (M N : Int) (o r : Hsh) (a : Option Addr) (n c : Nat) : (stA M N o r a n c)[66]? = some (.slice a n c) := by
  have h : (stA M N o r a n c).toList[66]? = some (.slice a n c) := by
    have e : (stA M N o r a n c).toList = ([Value.int .i64 M, Value.int .i64 N] ++ (hcs o ++ hcs r)) ++ [Value.slice a n c] := by simp [stA, stC]
    have hl : ([Value.int .i64 M, Value.int .i64 N] ++ (hcs o ++ hcs r)).length = 66 := by simp [hcs_length]
    rw [e, List.getElem?_append_right (by rw [hl]; exact Nat.le_refl _), hl]; rfl
  simpa using h
theorem st_m (M N : Int) (o r : Hsh) (a : Option Addr) (n c : Nat) : (stA M N o r a n c)[0]? = some (.int .i64 M) := rfl
theorem st_n (M N : Int) (o r : Hsh) (a : Option Addr) (n c : Nat) : (stA M N o r a n c)[1]? = some (.int .i64 N) := rfl

theorem reads_fields {H : Type} {enc : TypeId × Value → H} {P : Program} {W : World} {t : TypeId} {fs : Array Field} {cs : List Value} (ht : P.underlying t = some (.struct fs)) (h : Reads enc P W t cs) :
    cs.length = P.cellsOf t ∧ ∀ (i : Nat) (f : Field), fs[i]? = some f → Reads enc P W f.type ((cs.drop f.offset).take (P.cellsOf f.type)) := by
  obtain ⟨fuel, x, h⟩ := h
  obtain ⟨xs, n, _, _, hl, hlen, hf⟩ := DataW.trod_struct ht h
  refine ⟨hl, fun i f hi => ?_⟩
  have h1 := hf i f hi
  have hlt : i < xs.length := by
    have := (Array.getElem?_eq_some_iff.1 hi).1; omega
  rw [List.getElem?_eq_getElem hlt] at h1
  exact ⟨n, _, h1⟩
def I64 (n : Int) : Prop := -9223372036854775808 ≤ n ∧ n ≤ 9223372036854775807
end Go.Proofs.YtalnkhgonfcabaaDoor
