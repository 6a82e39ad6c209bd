/-
  ProofLeads, in parts. (Printed by gen_lawleads.py.)
-/
import Derived.Test.YtkjdnpalafldhaaDoorPrf3
import Derived.Test.YtkjdnpalafldhaaDoorPrf9
import Derived.Test.YtkjdnpalafldhaaDoorPrf12
import Derived.Test.YtkjdnpalafldhaaDoorAwake8
namespace Go.Proofs.YtkjdnpalafldhaaDoor.proofLeads
open Go.ChangeShapes Go.WideShapes Go.ChangeAt Go.RowKit Go.Proofs.YtkjdnpalafldhaaDoor

theorem pl_0 (I N : Int) (a : Option Addr) (n c : Nat) (r : Hsh) : (plA I N a n c r)[0]? = some (.int .i64 I) := rfl
theorem pl_1 (I N : Int) (a : Option Addr) (n c : Nat) (r : Hsh) : (plA I N a n c r)[1]? = some (.int .i64 N) := rfl
theorem pl_2 (I N : Int) (a : Option Addr) (n c : Nat) (r : Hsh) : (plA I N a n c r)[2]? = some (.slice a n c) := rfl
theorem rowCell {F : List Nat} {w0 : World} {L : List Bk} {R : List Rw} {w : World} (h : St F w0 L R w) {e : TypeId} {b o n c : Nat} {xs : List Value} (hr : (⟨e, 1, some ⟨b, o, none⟩, n, c, xs⟩ : Rw) ∈ R) {k : Nat} {v : Value} (hk : xs[k]? = some v) : w.cell? ⟨b, o + k, none⟩ = some v := by
  obtain ⟨d, hd, hc⟩ := (own_rd (h.row _ hr)).cells k v hk
  simp only [Option.some.injEq] at hd
  subst hd
  rw [Addr.add_mid] at hc
  exact hc
theorem Tryd.scbool : ScT Tryd.prog 4 := ScT.mk' Tryd.underlying4 rfl (by kernel_rfl)

end Go.Proofs.YtkjdnpalafldhaaDoor.proofLeads
