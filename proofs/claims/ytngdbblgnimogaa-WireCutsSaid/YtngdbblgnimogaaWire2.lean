import Derived.Test.YtngdbblgnimogaaWire1
namespace Go.Proofs.Ytngdbblgnimogaa
open Go.RowKit

/-- bytes.Clone -/
theorem clone_any (a : Option Addr) (c : Nat) (l : List UInt8) (w : World) (h : Rd w a l.length c 1 (bcs l)) (hl : l.length ≤ 140737488351232) :
    Calls Try.prog 26 #[.slice a l.length c] w fun e w' => ∃ a' c', e = .returned (.slice a' l.length c') ∧ w'.ownsRow 0 5 1 (.slice a' l.length c') l.length (bcs l) ∧ (∀ x ∈ aF a', w.heap.size ≤ x) ∧ Kp [] w w' := by
  obtain ⟨i0, T⟩ := Try.tbytes
  cases a with
  | none =>
    have hc := h.nil rfl
    have hll : l = [] := List.eq_nil_of_length_eq_zero (by have := h.le; omega)
    subst hc hll
    clear h
    have he := fun w : World => Lib.run_eql_slice_nil (P := Try.prog) w 22 5 none 0 0 0 0 Try.underlying22
    go_enter Try.func26, Try.ntmps26
    go_wp2
    go_ret
    exact ⟨none, 0, rfl, World.ownsRow_nil _ _ _ _, by simp [aF], Kp.refl _ _⟩
  | some ad =>
    have H := Lib.hid h
    clear h
    have he := fun w : World => Lib.run_eql_slice_nil (P := Try.prog) w 22 5 (some ad) l.length c 0 0 Try.underlying22
    go_enter Try.func26, Try.ntmps26
    go_wp2_with (at_builtin; refine wpList_append_rd T rfl rfl rfl (World.ownsRow_made w #[] 0 (Nat.zero_le _) (by simp [maxLen]) (by simp)) rfl (H.out.below ((Kp.refl _ _).alloc _)) (bcs_one _) (by omega) (by simp [maxLen]; omega) ?_)
    intro a' c' w' hown hgrow hF
    go_wp2
    go_ret
    refine ⟨a', c', rfl, hown, ?_, ((Kp.refl _ _).alloc _).grown hgrow ?_⟩
    · intro x hx
      rcases hF x hx with h1 | h1
      · simp [aF] at h1; omega
      · omega
    · intro k hk; simp [Value.ownBlock] at hk; omega

def InIs (w : World) (p : Nat) (a : Option Addr) (c : Nat) (bad : Bool) (bs : List UInt8) : Prop :=
  w.heap[p]? = some (.cells #[.slice a bs.length c, .bool bad] 56 (0, 0)) ∧ Rd w a bs.length c 1 (bcs bs) ∧ p ∉ aF a
/-- A reader at p: 'none': it is bad; what is left; G: the blocks that it reads. -/
def InAt (w : World) (p : Nat) (st : Option (List UInt8)) (G : List Nat) : Prop :=
  ∃ a c bs, InIs w p a c st.isNone bs ∧ (∀ x ∈ aF a, x ∈ G) ∧ ∀ l, st = some l → l = bs

theorem InAt.kept {F : List Nat} {w w' : World} {p : Nat} {st : Option (List UInt8)} {G : List Nat} (h : InAt w p st G) (k : Kp F w w') (hp : p ∉ F) (hG : ∀ x ∈ G, x ∉ F) : InAt w' p st G := by
  obtain ⟨a, c, bs, ⟨h1, h2, h3⟩, h4, h5⟩ := h
  exact ⟨a, c, bs, ⟨(k.block p (lt_of_block h1) hp).trans h1, h2.kept k fun x hx => hG x (h4 x hx), h3⟩, h4, h5⟩

theorem InAt.bad {w : World} {p : Nat} {G : List Nat} (h : InAt w p none G) : w.cell? ⟨p, 1, none⟩ = some (.bool true) := by
  obtain ⟨a, c, bs, ⟨h1, _, _⟩, _, _⟩ := h
  rw [cell_of_row w p 1 _ _ _ h1]; rfl
theorem InAt.good {w : World} {p : Nat} {l : List UInt8} {G : List Nat} (h : InAt w p (some l) G) : w.cell? ⟨p, 1, none⟩ = some (.bool false) := by
  obtain ⟨a, c, bs, ⟨h1, _, _⟩, _, _⟩ := h
  rw [cell_of_row w p 1 _ _ _ h1]; rfl
theorem InAt.flag {w : World} {p : Nat} {st : Option (List UInt8)} {G : List Nat} (h : InAt w p st G) : w.cell? ⟨p, 1, none⟩ = some (.bool st.isNone) := by
  cases st with
  | none => exact h.bad
  | some l => exact h.good
theorem InAt.free {w : World} {p : Nat} {st : Option (List UInt8)} {G : List Nat} (h : InAt w p st G) (o : Nat) : w.frozen? ⟨p, o, none⟩ = false := by
  obtain ⟨a, c, bs, ⟨h1, _, _⟩, _, _⟩ := h
  simp [World.frozen?, h1]
theorem InAt.lt {w : World} {p : Nat} {st : Option (List UInt8)} {G : List Nat} (h : InAt w p st G) : p < w.heap.size := by
  obtain ⟨a, c, bs, ⟨h1, _, _⟩, _, _⟩ := h
  exact lt_of_block h1

/-- A reader that has gone bad. -/
theorem InAt.spoil {w : World} {p : Nat} {st : Option (List UInt8)} {G : List Nat} (h : InAt w p st G) : InAt (w.setCell ⟨p, 1, none⟩ (.bool true)) p none G ∧ Kp [p] w (w.setCell ⟨p, 1, none⟩ (.bool true)) := by
  obtain ⟨a, c, bs, ⟨h1, h2, h3⟩, h4, h5⟩ := h
  have k : Kp [p] w (w.setCell ⟨p, 1, none⟩ (.bool true)) := (Kp.refl _ _).setCell (.inl (by simp)) _
  refine ⟨⟨a, c, bs, ⟨?_, h2.kept k (fun x hx hh => h3 (by simp at hh; subst hh; exact hx)), h3⟩, h4, by simp⟩, k⟩
  rw [heap_setCell_same w p 1 _ _ _ h1]; rfl

/-- What 'take' leaves. -/
theorem take_done {w : World} {p n : Nat} {a a' : Option Addr} {c c' : Nat} {l : List UInt8} {G : List Nat} (h1 : w.heap[p]? = some (.cells #[.slice a l.length c, .bool false] 56 (0, 0))) (h2 : Rd w a l.length c 1 (bcs l)) (h3 : p ∉ aF a) (h4 : ∀ x ∈ aF a, x ∈ G) (hn : n ≤ l.length)
    {m : Nat} (hm : m = l.length - n) (hc' : c' = c - n) (ha : a' = if c = n then a else a.map (·.add n)) :
    Rd (w.setCell ⟨p, 0, none⟩ (.slice a' m c')) a n n 1 (bcs (l.take n)) ∧ (∀ x ∈ aF a, x ∈ G) ∧ InAt (w.setCell ⟨p, 0, none⟩ (.slice a' m c')) p (some (l.drop n)) G ∧
      Kp [p] w (w.setCell ⟨p, 0, none⟩ (.slice a' m c')) := by
  subst hc' hm
  have k : Kp [p] w (w.setCell ⟨p, 0, none⟩ (.slice a' (l.length - n) (c - n))) := (Kp.refl _ _).setCell (.inl (by simp)) _
  have hp : ∀ x ∈ aF a, x ∉ [p] := fun x hx hh => h3 (by simp at hh; subst hh; exact hx)
  have r := (h2.take n n hn (Nat.le_refl _) (by have := h2.le; omega)).kept k hp
  have hr := h2.drop n hn
  simp only [Nat.mul_one] at r hr
  have hsub : ∀ x ∈ aF a', x ∈ aF a := by rw [ha]; exact aF_cut _ _ _
  refine ⟨by rw [← bcs_take]; exact r, h4, ⟨a', c - n, l.drop n, ⟨?_, ?_, fun hh => h3 (hsub _ hh)⟩, fun x hx => h4 x (hsub x hx), by simp⟩, k⟩
  · rw [heap_setCell_same w p 0 _ _ _ h1, List.length_drop]; rfl
  · rw [List.length_drop, ← bcs_drop]
    rw [← ha] at hr
    exact hr.kept k fun x hx => hp x (hsub x hx)

theorem InAt.mark {w : World} {p : Nat} {l : List UInt8} {G : List Nat} (h : InAt w p (some l) G) : InAt (w.setCell ⟨p, 1, none⟩ (.bool false)) p (some l) G ∧ Kp [p] w (w.setCell ⟨p, 1, none⟩ (.bool false)) := by
  obtain ⟨a, c, bs, ⟨h1, h2, h3⟩, h4, h5⟩ := h
  have k : Kp [p] w (w.setCell ⟨p, 1, none⟩ (.bool false)) := (Kp.refl _ _).setCell (.inl (by simp)) _
  refine ⟨⟨a, c, bs, ⟨?_, h2.kept k (fun x hx hh => h3 (by simp at hh; subst hh; exact hx)), h3⟩, h4, h5⟩, k⟩
  rw [heap_setCell_same w p 1 _ _ _ h1]; rfl

theorem newIn_any (a : Option Addr) (c : Nat) (l : List UInt8) (w : World) (h : Rd w a l.length c 1 (bcs l)) (hl : l.length ≤ 140737488351232) :
    Calls Try.prog 8 #[.slice a l.length c] w fun e w' => ∃ p G, e = .returned (.pointer (some ⟨p, 0, none⟩)) ∧ InAt w' p (some l) G ∧ (∀ x ∈ p :: G, w.heap.size ≤ x) ∧ (∀ x ∈ p :: G, x < w'.heap.size) ∧ p ∉ G ∧ Kp [] w w' := by
  have H := Lib.hid h
  clear h
  go_enter Try.func8, Try.ntmps8
  go_wp2_with fail
  refine (clone_any a c l _ H.out hl).mono ?_
  rintro e w1 ⟨a', c', rfl, hown, hF, hk⟩
  have HO := Lib.hid hown
  have HF := Lib.hid hF
  have HK := Lib.hid hk
  clear hown hF hk
  go_wp2
  go_ret
  have hF := HF.out
  have hne : w1.heap.size ∉ aF a' := fun hh => by have := (own_aF HO.out _ hh).2; omega
  have hs := HK.out.size
  refine ⟨w1.heap.size, aF a', rfl, ⟨a', c', l, ⟨heap_alloc_new w1 _, (own_rd HO.out).below ((Kp.refl _ _).alloc _), hne⟩, fun x hx => hx, by simp⟩, ?_, ?_, hne, HK.out.alloc _⟩
  · intro x hx
    simp only [List.mem_cons] at hx
    rcases hx with rfl | hx
    · exact hs
    · exact hF x hx
  · intro x hx
    simp only [List.mem_cons] at hx
    rcases hx with rfl | hx
    · simp
    · have := (own_aF HO.out _ hx).2; simp; omega

set_option maxHeartbeats 400000 in
theorem take_bad (p n : Nat) (st : Option (List UInt8)) (G : List Nat) (w : World) (h : InAt w p st G) (hn : ∀ l, st = some l → l.length < n) :
    Calls Try.prog 28 #[.pointer (some ⟨p, 0, none⟩), .int .i64 n] w fun e w' => e = .returned (.slice none 0 0) ∧ InAt w' p none G ∧ Kp [p] w w' := by
  have H := Lib.hid h
  have hf := h.flag
  have hfr := h.free
  cases st with
  | none =>
    have hf : w.cell? ⟨p, 1, none⟩ = some (.bool true) := hf
    clear h
    go_enter Try.func28, Try.ntmps28
    go_wp2
    go_ret
    exact ⟨rfl, H.out.spoil⟩
  | some l =>
    have hf : w.cell? ⟨p, 1, none⟩ = some (.bool false) := hf
    obtain ⟨a, c, bs, ⟨h1, h2, h3⟩, h4, h5⟩ := h
    obtain rfl := h5 l rfl
    have hc : w.cell? ⟨p, 0, none⟩ = some (.slice a l.length c) := by rw [cell_of_row w p 0 _ _ _ h1]; rfl
    have hlt := hn l rfl
    clear h1 h2 h3 h4 h5 hn
    go_enter Try.func28, Try.ntmps28
    go_wp2
    go_ret
    exact ⟨rfl, H.out.spoil⟩

set_option maxHeartbeats 400000 in
theorem take_ok (p n : Nat) (l : List UInt8) (G : List Nat) (w : World) (h : InAt w p (some l) G) (hn : n ≤ l.length) :
    Calls Try.prog 28 #[.pointer (some ⟨p, 0, none⟩), .int .i64 n] w fun e w' => ∃ a c, e = .returned (.slice a n c) ∧ Rd w' a n c 1 (bcs (l.take n)) ∧ (∀ x ∈ aF a, x ∈ G) ∧ InAt w' p (some (l.drop n)) G ∧ Kp [p] w w' := by
  have H := Lib.hid h
  have hf : w.cell? ⟨p, 1, none⟩ = some (.bool false) := h.good
  have hfr := h.free
  obtain ⟨a, c, bs, ⟨h1, h2, h3⟩, h4, h5⟩ := h
  obtain rfl := h5 l rfl
  have hc : w.cell? ⟨p, 0, none⟩ = some (.slice a l.length c) := by rw [cell_of_row w p 0 _ _ _ h1]; rfl
  have hle := h2.le
  have hmax := h2.max
  unfold maxLen at hmax
  have H1 := Lib.hid h1
  have H2 := Lib.hid h2
  have H3 := Lib.hid h3
  have H4 := Lib.hid h4
  clear h1 h2 h3 h4 h5
  by_cases hcn : c = n
  · obtain rfl : n = l.length := by omega
    subst hcn
    go_enter Try.func28, Try.ntmps28
    go_wp2
    go_ret
    exact ⟨a, l.length, rfl, take_done (c' := 0) (m := 0) H1.out H2.out H3.out H4.out hn (by simp) (by simp) (by rw [if_pos rfl])⟩
  · go_enter Try.func28, Try.ntmps28
    go_wp2
    go_ret
    exact ⟨a, n, rfl, take_done H1.out H2.out H3.out H4.out hn rfl rfl (by rw [if_neg hcn])⟩

end Go.Proofs.Ytngdbblgnimogaa
