/-
  DERIVED. GIVEN WITH THE SEED: THE CARDS: each row of YtalnkhgonfcabaaDoorRows.lean that lists a variable, with what it lists TIED to the program's text (the seventh form; the later family's looks); each row that meets fmt, with fmt's text TOLD by the authors' own Lean function (tested against real Go, not proved from fmt's source: count such statements apart). THE CARD IS WHAT COUNTS. Prove the row's statement (the work); the ties are given (YtalnkhgonfcabaaDoorTie.lean); close each card by the builder's one call (the guide's Derived/Test/ToyasCard.lean, 'card_holds'). Laid BY PROGRAM, IN A SANDBOX (cutbox-door.mjs). By AI agents, Wed Nov 11 2026. No macro, syntax, notation, axiom, sorry.
-/
import Derived.Test.YtalnkhgonfcabaaDoorRows
import GoSem.ClaimSeven
namespace Go.Proofs.YtalnkhgonfcabaaDoor
namespace Rows

/-- THE TIED CARD OF 'syngraphlaw09.CompactGrows'. -/
def compactGrowsCard : Claim7 := { stood := { row := compactGrowsRow, standIns := [], harness := (true, "ac86b2faf5102662b28157047f98ddcefbb8a2e19650421389072a010148039d"), looks := false }, kinds := [], alts := [], laidByText := true, laidKinds := [.data, .data, .data, .data], laidTests := true, laidLooks := .later }
def CompactGrowsCardSaid : Prop := Claim7.holds Tryd.pinned (.plain (OpenSpec.ofChange compactGrowsSpec)) compactGrowsCard

/-- THE TIED CARD OF 'syngraphlaw09.CompactParses'. -/
def compactParsesCard : Claim7 := { stood := { row := compactParsesRow, standIns := [], harness := (true, "ac86b2faf5102662b28157047f98ddcefbb8a2e19650421389072a010148039d"), looks := false }, kinds := [], alts := [], laidByText := true, laidKinds := [.data, .data, .data, .data], laidTests := true, laidLooks := .later }
def CompactParsesCardSaid : Prop := Claim7.holds Tryd.pinned (.plain (OpenSpec.ofChange compactParsesSpec)) compactParsesCard

/-- THE TIED CARD OF 'syngraphlaw09.CompactFull'. -/
def compactFullCard : Claim7 := { stood := { row := compactFullRow, standIns := [], harness := (true, "ac86b2faf5102662b28157047f98ddcefbb8a2e19650421389072a010148039d"), looks := false }, kinds := [], alts := [], laidByText := true, laidKinds := [.data, .data, .data, .data], laidTests := true, laidLooks := .later }
def CompactFullCardSaid : Prop := Claim7.holds Tryd.pinned (.plain (OpenSpec.ofChange compactFullSpec)) compactFullCard

/-- THE TIED CARD OF 'syngraphlaw06.MssVerifies'. -/
def mssVerifiesCard : Claim7 := { stood := { row := mssVerifiesRow, standIns := [], harness := (true, "ac86b2faf5102662b28157047f98ddcefbb8a2e19650421389072a010148039d"), looks := false }, kinds := [], alts := [], laidByText := true, laidKinds := [.data, .data], laidTests := true, laidLooks := .later }
def MssVerifiesCardSaid : Prop := Claim7.holds Tryd.pinned (.plain (OpenSpec.ofChange mssVerifiesSpec)) mssVerifiesCard

/-- THE TIED CARD OF 'syngraphlaw06.MssSigns'. -/
def mssSignsCard : Claim7 := { stood := { row := mssSignsRow, standIns := [], harness := (true, "ac86b2faf5102662b28157047f98ddcefbb8a2e19650421389072a010148039d"), looks := false }, kinds := [], alts := [], laidByText := true, laidKinds := [.data, .data], laidTests := true, laidLooks := .later }
def MssSignsCardSaid : Prop := Claim7.holds Tryd.pinned (.plain (OpenSpec.ofChange mssSignsSpec)) mssSignsCard

/-- THE TIED CARD OF 'syngraphlaw09.CompactGoes'. -/
def compactGoesCard : Claim7 := { stood := { row := compactGoesRow, standIns := [], harness := (true, "ac86b2faf5102662b28157047f98ddcefbb8a2e19650421389072a010148039d"), looks := false }, kinds := [], alts := [], laidByText := true, laidKinds := [.data, .data, .data, .data], laidTests := true, laidLooks := .later }
def CompactGoesCardSaid : Prop := Claim7.holds Tryd.pinned (.plain (OpenSpec.ofChange compactGoesSpec)) compactGoesCard

/-- THE TIED CARD OF 'syngraphlaw06.MssOnce'. -/
def mssOnceCard : Claim7 := { stood := { row := mssOnceRow, standIns := [], harness := (true, "ac86b2faf5102662b28157047f98ddcefbb8a2e19650421389072a010148039d"), looks := false }, kinds := [], alts := [], laidByText := true, laidKinds := [.data, .data], laidTests := true, laidLooks := .later }
def MssOnceCardSaid : Prop := Claim7.holds Tryd.pinned (.plain (OpenSpec.ofChange mssOnceSpec)) mssOnceCard

/-- THE TIED CARD OF 'syngraphlaw06.MssBytes'. -/
def mssBytesCard : Claim7 := { stood := { row := mssBytesRow, standIns := [], harness := (true, "ac86b2faf5102662b28157047f98ddcefbb8a2e19650421389072a010148039d"), looks := false }, kinds := [], alts := [], laidByText := true, laidKinds := [.data, .data], laidTests := true, laidLooks := .later }
def MssBytesCardSaid : Prop := Claim7.holds Tryd.pinned (.plain (OpenSpec.ofChange mssBytesSpec)) mssBytesCard

/-- THE TIED CARD OF 'syngraphlaw06.MssParses'. -/
def mssParsesCard : Claim7 := { stood := { row := mssParsesRow, standIns := [], harness := (true, "ac86b2faf5102662b28157047f98ddcefbb8a2e19650421389072a010148039d"), looks := false }, kinds := [], alts := [], laidByText := true, laidKinds := [.data, .data], laidTests := true, laidLooks := .later }
def MssParsesCardSaid : Prop := Claim7.holds Tryd.pinned (.plain (OpenSpec.ofChange mssParsesSpec)) mssParsesCard

/-- THE TIED CARD OF 'syngraphlaw10.CollideIn'. -/
def collideInCard : Claim7 := { stood := { row := collideInRow, standIns := [], harness := (true, "ac86b2faf5102662b28157047f98ddcefbb8a2e19650421389072a010148039d"), looks := false }, kinds := [], alts := [], laidByText := true, laidKinds := [.data, .data], laidTests := true, laidLooks := .later }
def CollideInCardSaid : Prop := Claim7.holds Tryd.pinned (.plain (OpenSpec.ofChange collideInSpec)) collideInCard

/-- THE TIED CARD OF 'syngraphlaw10.CollideOn'. -/
def collideOnCard : Claim7 := { stood := { row := collideOnRow, standIns := [], harness := (true, "ac86b2faf5102662b28157047f98ddcefbb8a2e19650421389072a010148039d"), looks := false }, kinds := [], alts := [], laidByText := true, laidKinds := [.data, .data], laidTests := true, laidLooks := .later }
def CollideOnCardSaid : Prop := Claim7.holds Tryd.pinned (.plain (OpenSpec.ofChange collideOnSpec)) collideOnCard

/-- THE TIED CARD OF 'syngraphlaw10.CollideTrue'. -/
def collideTrueCard : Claim7 := { stood := { row := collideTrueRow, standIns := [], harness := (true, "ac86b2faf5102662b28157047f98ddcefbb8a2e19650421389072a010148039d"), looks := false }, kinds := [], alts := [], laidByText := true, laidKinds := [.data, .data], laidTests := true, laidLooks := .later }
def CollideTrueCardSaid : Prop := Claim7.holds Tryd.pinned (.plain (OpenSpec.ofChange collideTrueSpec)) collideTrueCard

/-- THE SECOND FORM's CARD OF 'syngraphlaw09.CompactGrows'. -/
def compactGrowsUptoCard : Claim7 := { stood := { row := compactGrowsUptoRow, standIns := [], harness := (true, "ac86b2faf5102662b28157047f98ddcefbb8a2e19650421389072a010148039d"), looks := false }, kinds := [], alts := [], laidByText := true, laidKinds := [.data, .data, .data, .data], laidTests := true, laidLooks := .later }
def CompactGrowsUptoCardSaid : Prop := Claim7.holds Tryd.pinned (.plain (OpenSpec.upto compactGrowsSpec)) compactGrowsUptoCard

/-- THE SECOND FORM's CARD OF 'syngraphlaw09.CompactParses'. -/
def compactParsesUptoCard : Claim7 := { stood := { row := compactParsesUptoRow, standIns := [], harness := (true, "ac86b2faf5102662b28157047f98ddcefbb8a2e19650421389072a010148039d"), looks := false }, kinds := [], alts := [], laidByText := true, laidKinds := [.data, .data, .data, .data], laidTests := true, laidLooks := .later }
def CompactParsesUptoCardSaid : Prop := Claim7.holds Tryd.pinned (.plain (OpenSpec.upto compactParsesSpec)) compactParsesUptoCard

/-- THE SECOND FORM's CARD OF 'syngraphlaw09.CompactFull'. -/
def compactFullUptoCard : Claim7 := { stood := { row := compactFullUptoRow, standIns := [], harness := (true, "ac86b2faf5102662b28157047f98ddcefbb8a2e19650421389072a010148039d"), looks := false }, kinds := [], alts := [], laidByText := true, laidKinds := [.data, .data, .data, .data], laidTests := true, laidLooks := .later }
def CompactFullUptoCardSaid : Prop := Claim7.holds Tryd.pinned (.plain (OpenSpec.upto compactFullSpec)) compactFullUptoCard

/-- THE SECOND FORM's CARD OF 'syngraphlaw06.MssVerifies'. -/
def mssVerifiesUptoCard : Claim7 := { stood := { row := mssVerifiesUptoRow, standIns := [], harness := (true, "ac86b2faf5102662b28157047f98ddcefbb8a2e19650421389072a010148039d"), looks := false }, kinds := [], alts := [], laidByText := true, laidKinds := [.data, .data], laidTests := true, laidLooks := .later }
def MssVerifiesUptoCardSaid : Prop := Claim7.holds Tryd.pinned (.plain (OpenSpec.upto mssVerifiesSpec)) mssVerifiesUptoCard

/-- THE SECOND FORM's CARD OF 'syngraphlaw06.MssSigns'. -/
def mssSignsUptoCard : Claim7 := { stood := { row := mssSignsUptoRow, standIns := [], harness := (true, "ac86b2faf5102662b28157047f98ddcefbb8a2e19650421389072a010148039d"), looks := false }, kinds := [], alts := [], laidByText := true, laidKinds := [.data, .data], laidTests := true, laidLooks := .later }
def MssSignsUptoCardSaid : Prop := Claim7.holds Tryd.pinned (.plain (OpenSpec.upto mssSignsSpec)) mssSignsUptoCard

/-- THE SECOND FORM's CARD OF 'syngraphlaw09.CompactGoes'. -/
def compactGoesUptoCard : Claim7 := { stood := { row := compactGoesUptoRow, standIns := [], harness := (true, "ac86b2faf5102662b28157047f98ddcefbb8a2e19650421389072a010148039d"), looks := false }, kinds := [], alts := [], laidByText := true, laidKinds := [.data, .data, .data, .data], laidTests := true, laidLooks := .later }
def CompactGoesUptoCardSaid : Prop := Claim7.holds Tryd.pinned (.plain (OpenSpec.upto compactGoesSpec)) compactGoesUptoCard

/-- THE SECOND FORM's CARD OF 'syngraphlaw06.MssOnce'. -/
def mssOnceUptoCard : Claim7 := { stood := { row := mssOnceUptoRow, standIns := [], harness := (true, "ac86b2faf5102662b28157047f98ddcefbb8a2e19650421389072a010148039d"), looks := false }, kinds := [], alts := [], laidByText := true, laidKinds := [.data, .data], laidTests := true, laidLooks := .later }
def MssOnceUptoCardSaid : Prop := Claim7.holds Tryd.pinned (.plain (OpenSpec.upto mssOnceSpec)) mssOnceUptoCard

/-- THE SECOND FORM's CARD OF 'syngraphlaw06.MssBytes'. -/
def mssBytesUptoCard : Claim7 := { stood := { row := mssBytesUptoRow, standIns := [], harness := (true, "ac86b2faf5102662b28157047f98ddcefbb8a2e19650421389072a010148039d"), looks := false }, kinds := [], alts := [], laidByText := true, laidKinds := [.data, .data], laidTests := true, laidLooks := .later }
def MssBytesUptoCardSaid : Prop := Claim7.holds Tryd.pinned (.plain (OpenSpec.upto mssBytesSpec)) mssBytesUptoCard

/-- THE SECOND FORM's CARD OF 'syngraphlaw06.MssParses'. -/
def mssParsesUptoCard : Claim7 := { stood := { row := mssParsesUptoRow, standIns := [], harness := (true, "ac86b2faf5102662b28157047f98ddcefbb8a2e19650421389072a010148039d"), looks := false }, kinds := [], alts := [], laidByText := true, laidKinds := [.data, .data], laidTests := true, laidLooks := .later }
def MssParsesUptoCardSaid : Prop := Claim7.holds Tryd.pinned (.plain (OpenSpec.upto mssParsesSpec)) mssParsesUptoCard

/-- THE SECOND FORM's CARD OF 'syngraphlaw10.CollideIn'. -/
def collideInUptoCard : Claim7 := { stood := { row := collideInUptoRow, standIns := [], harness := (true, "ac86b2faf5102662b28157047f98ddcefbb8a2e19650421389072a010148039d"), looks := false }, kinds := [], alts := [], laidByText := true, laidKinds := [.data, .data], laidTests := true, laidLooks := .later }
def CollideInUptoCardSaid : Prop := Claim7.holds Tryd.pinned (.plain (OpenSpec.upto collideInSpec)) collideInUptoCard

/-- THE SECOND FORM's CARD OF 'syngraphlaw10.CollideOn'. -/
def collideOnUptoCard : Claim7 := { stood := { row := collideOnUptoRow, standIns := [], harness := (true, "ac86b2faf5102662b28157047f98ddcefbb8a2e19650421389072a010148039d"), looks := false }, kinds := [], alts := [], laidByText := true, laidKinds := [.data, .data], laidTests := true, laidLooks := .later }
def CollideOnUptoCardSaid : Prop := Claim7.holds Tryd.pinned (.plain (OpenSpec.upto collideOnSpec)) collideOnUptoCard

/-- THE SECOND FORM's CARD OF 'syngraphlaw10.CollideTrue'. -/
def collideTrueUptoCard : Claim7 := { stood := { row := collideTrueUptoRow, standIns := [], harness := (true, "ac86b2faf5102662b28157047f98ddcefbb8a2e19650421389072a010148039d"), looks := false }, kinds := [], alts := [], laidByText := true, laidKinds := [.data, .data], laidTests := true, laidLooks := .later }
def CollideTrueUptoCardSaid : Prop := Claim7.holds Tryd.pinned (.plain (OpenSpec.upto collideTrueSpec)) collideTrueUptoCard
end Rows
end Go.Proofs.YtalnkhgonfcabaaDoor
