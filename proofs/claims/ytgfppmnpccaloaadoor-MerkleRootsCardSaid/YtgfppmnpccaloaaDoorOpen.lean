/-
  ARGUMENTS, opened: slices of whatever is told cell by cell.
-/
import Derived.Test.YtgfppmnpccaloaaDoorRow
import Derived.Deep.Slices
namespace Go.Proofs.YtgfppmnpccaloaaDoor
open Go.ChangeShapes Go.WideShapes Go.ChangeAt Go.RowKit

section
variable {H : Type} {enc : TypeId × Value → H} {P : Program} {W : World}

/-- What is read is there, to the bottom: of type t the cells cs. -/
def Reads (enc : TypeId × Value → H) (P : Program) (W : World) (t : TypeId) (cs : List Value) : Prop := ∃ fuel x, DataW.trod enc P W 0 (fun _ => true) true fuel t cs = some x

theorem flatMap_length {α : Type} {size : Nat} (f : α → List Value) : ∀ (l : List α), (∀ y ∈ l, (f y).length = size) → (l.flatMap f).length = l.length * size
  | [], _ => by simp
  | y :: l, h => by
    rw [List.flatMap_cons, List.length_append, h y (by simp), flatMap_length f l (fun z hz => h z (by simp [hz])), List.length_cons, Nat.succ_mul]
    omega
theorem flatMap_at {α : Type} {size : Nat} (f : α → List Value) (hs : 0 < size) : ∀ (l : List α), (∀ y ∈ l, (f y).length = size) → ∀ j u, (l.flatMap f)[j]? = some u → ∃ y, l[j / size]? = some y ∧ (f y)[j % size]? = some u
  | [], _, j, u, h => by simp at h
  | y :: l, hl, j, u, h => by
    have hy := hl y (by simp)
    rw [List.flatMap_cons] at h
    by_cases hj : j < size
    · rw [List.getElem?_append_left (by omega)] at h
      exact ⟨y, by rw [Nat.div_eq_of_lt hj]; rfl, by rw [Nat.mod_eq_of_lt hj]; exact h⟩
    · rw [List.getElem?_append_right (by omega), hy] at h
      obtain ⟨z, hz, hz2⟩ := flatMap_at f hs l (fun z hz => hl z (by simp [hz])) _ u h
      refine ⟨z, ?_, ?_⟩
      · rw [Nat.div_eq_sub_div hs (by omega), List.getElem?_cons_succ]; exact hz
      · rw [Nat.mod_eq_sub_mod (by omega)]; exact hz2

theorem open_rd {α : Type} (f : α → List Value) (Q : α → Prop) {size : Nat} {t e : TypeId} (hu : P.underlying t = some (.slice e)) (hs : P.cellsOf e = size) (hsz : 0 < size) (hf : ∀ y, (f y).length = size)
    (hel : ∀ cs, Reads enc P W e cs → ∃ y, cs = f y ∧ Q y) {cs : List Value} (h : Reads enc P W t cs) :
    ∃ a c l, cs = [.slice a (l : List α).length c] ∧ Rd W a l.length c size (l.flatMap f) ∧ ∀ y ∈ l, Q y := by
  obtain ⟨fuel, x, h⟩ := h
  rcases Deep.open_slice hu h with ⟨rfl, _⟩ | ⟨a, len, cap, m, n, D, Pl, rfl, _, hl, hm, hmm, _, hx⟩
  · exact ⟨none, 0, [], rfl, nil_rd _ _, by simp⟩
  · simp only [if_true] at hmm
    subst hmm
    have each : ∀ i, i < len → ∃ y, W.cells? 0 (a.add (i * size)) size = some (f y) ∧ Q y := by
      intro i hi
      obtain ⟨cs', h1, h2⟩ := hx i (by omega)
      rw [hs] at h1
      obtain ⟨y, rfl, hq⟩ := hel cs' ⟨_, _, h2⟩
      exact ⟨y, h1, hq⟩
    obtain ⟨l, hll, hlc⟩ : ∃ l : List α, l.length = len ∧ ∀ i y, l[i]? = some y → W.cells? 0 (a.add (i * size)) size = some (f y) ∧ Q y := by
      have gen : ∀ len, (∀ i, i < len → ∃ y, W.cells? 0 (a.add (i * size)) size = some (f y) ∧ Q y) → ∃ l : List α, l.length = len ∧ ∀ i y, l[i]? = some y → W.cells? 0 (a.add (i * size)) size = some (f y) ∧ Q y := by
       intro len
       induction len with
       | zero => exact fun _ => ⟨[], rfl, by simp⟩
       | succ k ih =>
         intro each
         obtain ⟨l, hll, hlc⟩ := ih (fun i hi => each i (by omega))
         obtain ⟨y, hy⟩ := each k (by omega)
         refine ⟨l ++ [y], by simp [hll], fun i z hz => ?_⟩
         by_cases hi : i < k
         · rw [List.getElem?_append_left (by omega)] at hz
           exact hlc i z hz
         · rw [List.getElem?_append_right (by omega)] at hz
           have : i = k := by
             have := (List.getElem?_eq_some_iff.1 hz).1
             simp at this; omega
           subst this
           rw [hll] at hz
           simp at hz
           subst hz
           exact hy
      exact gen len each
    subst hll
    refine ⟨some a, m, l, rfl, ⟨flatMap_length f l fun y _ => hf y, hl, hm, by simp, fun j u hu => ?_⟩, fun y hy => ?_⟩
    · obtain ⟨y, hy, hyu⟩ := flatMap_at f hsz l (fun y _ => hf y) j u hu
      obtain ⟨hc, _⟩ := hlc _ y hy
      refine ⟨a, rfl, ?_⟩
      obtain ⟨_, _, hcc⟩ := World.cells?_some hc
      have := hcc (j % size) (Nat.mod_lt _ hsz)
      rw [addr_add_add, hyu, Nat.mul_comm, Nat.div_add_mod] at this
      exact this
    · obtain ⟨i, hi⟩ := List.getElem?_of_mem hy
      exact (hlc i y hi).2

theorem reads_int {t : TypeId} {k : IntKind} {cs : List Value} (ht : P.underlying t = some (.int k)) (h : Reads enc P W t cs) : ∃ n, cs = [.int k n] ∧ (Lit.int k n).wf = true := by
  obtain ⟨_, _, h⟩ := h
  obtain ⟨n, h1, _, h3⟩ := DataW.trod_int ht h
  exact ⟨n, h1, h3⟩
theorem reads_bool {t : TypeId} {cs : List Value} (ht : P.underlying t = some .bool) (h : Reads enc P W t cs) : ∃ b, cs = [.bool b] := by
  obtain ⟨_, _, h⟩ := h
  obtain ⟨b, h1, _⟩ := DataW.trod_bool ht h
  exact ⟨b, h1⟩
theorem reads_string {t : TypeId} {cs : List Value} (ht : P.underlying t = some .string) (h : Reads enc P W t cs) : ∃ s, cs = [.string s] ∧ s.size ≤ maxLen := by
  obtain ⟨_, _, h⟩ := h
  obtain ⟨s, h1, _, h3⟩ := DataW.trod_string ht h
  exact ⟨s, h1, h3⟩
theorem reads_u8 {t : TypeId} {cs : List Value} (ht : P.underlying t = some (.int .u8)) (h : Reads enc P W t cs) : ∃ b : UInt8, cs = [bcell b] := by
  obtain ⟨n, rfl, hw⟩ := reads_int ht h
  have hb := bounds_u8 hw
  refine ⟨UInt8.ofNat n.toNat, ?_⟩
  unfold bcell
  rw [show (UInt8.ofNat n.toNat).toNat = n.toNat from by simp; omega]
  rw [show ((n.toNat : Nat) : Int) = n by omega]
theorem flatMap_bcell (l : List UInt8) : l.flatMap (fun b => [bcell b]) = bcs l := by
  induction l with
  | nil => rfl
  | cons b l ih => rw [List.flatMap_cons, ih]; rfl
theorem reads_bytes {t e : TypeId} {cs : List Value} (hu : P.underlying t = some (.slice e)) (he : P.underlying e = some (.int .u8)) (hs : P.cellsOf e = 1) (h : Reads enc P W t cs) :
    ∃ a c l, cs = [.slice a (l : List UInt8).length c] ∧ Rd W a l.length c 1 (bcs l) := by
  obtain ⟨a, c, l, h1, h2, _⟩ := open_rd (fun b : UInt8 => [bcell b]) (fun _ => True) hu hs (by decide) (fun _ => rfl) (fun cs hr => by obtain ⟨b, hb⟩ := reads_u8 he hr; exact ⟨b, hb, trivial⟩) h
  exact ⟨a, c, l, h1, by rw [← flatMap_bcell]; exact h2⟩
theorem list_bcs : ∀ (cs : List Value), (∀ i, i < cs.length → ∃ b : UInt8, cs[i]? = some (bcell b)) → ∃ l : List UInt8, cs = bcs l
  | [], _ => ⟨[], rfl⟩
  | c :: cs, h => by
    obtain ⟨b, hb⟩ := h 0 (by simp)
    obtain ⟨l, hl⟩ := list_bcs cs (fun i hi => by obtain ⟨b, hb⟩ := h (i + 1) (by simp; omega); exact ⟨b, by simpa using hb⟩)
    simp at hb
    exact ⟨b :: l, by rw [hb, hl]; rfl⟩
theorem reads_hash {t e : TypeId} {cs : List Value} (hu : P.underlying t = some (.array 32 e)) (he : P.underlying e = some (.int .u8)) (hs : P.cellsOf e = 1) (ht : P.cellsOf t = 32) (h : Reads enc P W t cs) : ∃ x : Hsh, cs = hcs x := by
  obtain ⟨_, _, h⟩ := h
  obtain ⟨xs, m, _, _, hl, hx, hel⟩ := DataW.trod_array hu h
  rw [ht] at hl
  obtain ⟨l, rfl⟩ := list_bcs cs (fun i hi => by
    have h1 := hel i (by omega)
    rw [hs, Nat.mul_one, List.getElem?_eq_getElem (by omega)] at h1
    obtain ⟨b, hb⟩ := reads_u8 (enc := enc) (W := W) he ⟨_, _, h1⟩
    refine ⟨b, ?_⟩
    rw [List.drop_eq_getElem_cons hi, List.take_succ_cons, List.take_zero] at hb
    simp only [List.cons.injEq, and_true] at hb
    rw [List.getElem?_eq_getElem hi, hb])
  rw [bcs_length] at hl
  exact ⟨⟨l, hl⟩, rfl⟩
theorem reads_hashes {t h32 e : TypeId} {cs : List Value} (hu : P.underlying t = some (.slice h32)) (hh : P.underlying h32 = some (.array 32 e)) (he : P.underlying e = some (.int .u8)) (hs : P.cellsOf e = 1) (ht : P.cellsOf h32 = 32) (h : Reads enc P W t cs) :
    ∃ a c l, cs = [.slice a (l : List Hsh).length c] ∧ Rd W a l.length c 32 (hsc l) := by
  obtain ⟨a, c, l, h1, h2, _⟩ := open_rd hcs (fun _ => True) hu ht (by decide) hcs_length (fun cs hr => by obtain ⟨b, hb⟩ := reads_hash hh he hs ht hr; exact ⟨b, hb, trivial⟩) h
  exact ⟨a, c, l, h1, h2⟩
end

/-- Of an argument that is a slice. -/
theorem reads_arg {H : Type} {enc : TypeId × Value → H} {P : Program} {W : World} {t : TypeId} {v : Value} {d : DataW H} {p : List MemPlace} (h : DataW.Trod enc P W 0 (fun _ => true) true t v d p) : Reads enc P W t v.cells.toList := by
  obtain ⟨fuel, h⟩ := h
  exact ⟨fuel, _, h⟩

end Go.Proofs.YtgfppmnpccaloaaDoor
