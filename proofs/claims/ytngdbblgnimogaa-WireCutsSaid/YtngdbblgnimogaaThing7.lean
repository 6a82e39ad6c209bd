import Derived.Test.YtngdbblgnimogaaThing6
namespace Go.Proofs.Ytngdbblgnimogaa
open Go.ChangeShapes Go.WideShapes Go.ChangeAt Go.RowKit

theorem smallB_out {l : List Th} (h : smallB l = true) : (∀ x ∈ l, x.text.size ≤ 300 ∧ x.hs.length ≤ 20) ∧ l.length ≤ 40 := by
  unfold smallB at h
  simp only [Bool.and_eq_true, List.all_eq_true, thSmall, decide_eq_true_eq] at h
  exact h

theorem OutAt.kept {w w' : World} {p : Nat} {bs : List UInt8} {F F0 : List Nat} (h : OutAt w p bs F) (k : Kp F0 w w') (hF : ∀ x ∈ F, x ∉ F0) : OutAt w' p bs F := by
  obtain ⟨v, hv, rfl⟩ := h
  exact ⟨v, ⟨(k.block _ (lt_of_block hv.1) (hF p (by simp))).trans hv.1, own_kept hv.2 k (fun x hx => hF x (by simp [hx]))⟩, rfl⟩
theorem row_kept {w w' : World} {a : Option Addr} {n c size e : Nat} {xs : List Value} {F0 : List Nat} (h : w.ownsRow 0 e size (.slice a n c) n xs) (k : Kp F0 w w') (hF : ∀ x ∈ aF a, x ∉ F0) : w'.ownsRow 0 e size (.slice a n c) n xs :=
  own_kept h k (by rw [rowF_slice]; exact hF)
theorem own_block {a : Option Addr} {n c : Nat} : Value.ownBlock (.slice a n c) = a.map (·.block) := by cases a <;> rfl

/-- The bytes that were told, by their cells. -/
theorem row_cells {w : World} {a : Option Addr} {c : Nat} {bs : List UInt8} (h : w.ownsRow 0 5 1 (.slice a bs.length c) bs.length (bcs bs)) :
    ∃ g, (0 < bs.length → a = some ⟨g, 0, none⟩) ∧ (∀ j, j < bs.length → ∃ u : UInt8, w.cell? ⟨g, j, none⟩ = some (bcell u)) ∧ (∀ j, j < bs.length → w.frozen? ⟨g, j, none⟩ = false) := by
  rcases h.2 with ⟨_, hn⟩ | ⟨g, cap, cur, hv, hb, hg, h1, h2, h3, h4⟩
  · exact ⟨0, fun hp => by omega, fun j hj => by omega, fun j hj => by omega⟩
  · simp at hv
    obtain ⟨rfl, rfl⟩ := hv
    have hrd := own_rd h
    refine ⟨g, fun _ => rfl, fun j hj => ⟨bs[j], ?_⟩, fun j hj => by simp [World.frozen?, hg]⟩
    obtain ⟨b, hb', hc⟩ := hrd.cells j (bcell bs[j]) (by simp [bcs, hj])
    simp only [Option.some.injEq] at hb'
    subst hb'
    rw [Addr.add_mid, Nat.zero_add] at hc
    exact hc

end Go.Proofs.Ytngdbblgnimogaa
