/-
  DERIVED. GIVEN WITH THE SEED: THE CARDS: each row of YtkjdnpalafldhaaDoorRows.lean that lists a variable, with what it lists TIED to the program's text (the seventh form; the later family's looks); each row that meets fmt, with fmt's text TOLD by the authors' own Lean function (tested against real Go, not proved from fmt's source: count such statements apart). THE CARD IS WHAT COUNTS. Prove the row's statement (the work); the ties are given (YtkjdnpalafldhaaDoorTie.lean); close each card by the builder's one call (the guide's Derived/Test/ToyasCard.lean, 'card_holds'). Laid BY PROGRAM, IN A SANDBOX (cutbox-door.mjs). By AI agents, Wed Nov 11 2026. No macro, syntax, notation, axiom, sorry.
-/
import Derived.Test.YtkjdnpalafldhaaDoorRows
import GoSem.ClaimSeven
namespace Go.Proofs.YtkjdnpalafldhaaDoor
namespace Rows

/-- THE TIED CARD OF 'syngraphlaw07.MerkleSplits'. -/
def merkleSplitsCard : Claim7 := { stood := { row := merkleSplitsRow, standIns := [], harness := (true, "ccdb04746241078eb1d7e4e9e80e33161d1e694d2b1da2ba8b10f0c43722e414"), looks := false }, kinds := [], alts := [], laidByText := true, laidKinds := [.data, .data], laidTests := true, laidLooks := .later }
def MerkleSplitsCardSaid : Prop := Claim7.holds Tryd.pinned (.plain (OpenSpec.ofChange merkleSplitsSpec)) merkleSplitsCard

/-- THE TIED CARD OF 'syngraphlaw07.MerklePaths'. -/
def merklePathsCard : Claim7 := { stood := { row := merklePathsRow, standIns := [], harness := (true, "ccdb04746241078eb1d7e4e9e80e33161d1e694d2b1da2ba8b10f0c43722e414"), looks := false }, kinds := [], alts := [], laidByText := true, laidKinds := [.data, .data], laidTests := true, laidLooks := .later }
def MerklePathsCardSaid : Prop := Claim7.holds Tryd.pinned (.plain (OpenSpec.ofChange merklePathsSpec)) merklePathsCard

/-- THE TIED CARD OF 'syngraphlaw07.MerkleLeaves'. -/
def merkleLeavesCard : Claim7 := { stood := { row := merkleLeavesRow, standIns := [], harness := (true, "ccdb04746241078eb1d7e4e9e80e33161d1e694d2b1da2ba8b10f0c43722e414"), looks := false }, kinds := [], alts := [], laidByText := true, laidKinds := [.data, .data], laidTests := true, laidLooks := .later }
def MerkleLeavesCardSaid : Prop := Claim7.holds Tryd.pinned (.plain (OpenSpec.ofChange merkleLeavesSpec)) merkleLeavesCard

/-- THE TIED CARD OF 'syngraphlaw07.MerkleRoots'. -/
def merkleRootsCard : Claim7 := { stood := { row := merkleRootsRow, standIns := [], harness := (true, "ccdb04746241078eb1d7e4e9e80e33161d1e694d2b1da2ba8b10f0c43722e414"), looks := false }, kinds := [], alts := [], laidByText := true, laidKinds := [.data, .data], laidTests := true, laidLooks := .later }
def MerkleRootsCardSaid : Prop := Claim7.holds Tryd.pinned (.plain (OpenSpec.ofChange merkleRootsSpec)) merkleRootsCard

/-- THE TIED CARD OF 'syngraphlaw07.MerkleProofs'. -/
def merkleProofsCard : Claim7 := { stood := { row := merkleProofsRow, standIns := [], harness := (true, "ccdb04746241078eb1d7e4e9e80e33161d1e694d2b1da2ba8b10f0c43722e414"), looks := false }, kinds := [], alts := [], laidByText := true, laidKinds := [.data, .data], laidTests := true, laidLooks := .later }
def MerkleProofsCardSaid : Prop := Claim7.holds Tryd.pinned (.plain (OpenSpec.ofChange merkleProofsSpec)) merkleProofsCard

/-- THE TIED CARD OF 'syngraphlaw08.ProofLeads'. -/
def proofLeadsCard : Claim7 := { stood := { row := proofLeadsRow, standIns := [], harness := (true, "ccdb04746241078eb1d7e4e9e80e33161d1e694d2b1da2ba8b10f0c43722e414"), looks := false }, kinds := [], alts := [], laidByText := true, laidKinds := [.data, .data], laidTests := true, laidLooks := .later }
def ProofLeadsCardSaid : Prop := Claim7.holds Tryd.pinned (.plain (OpenSpec.ofChange proofLeadsSpec)) proofLeadsCard

/-- THE TIED CARD OF 'syngraphlaw08.ProofOther'. -/
def proofOtherCard : Claim7 := { stood := { row := proofOtherRow, standIns := [], harness := (true, "ccdb04746241078eb1d7e4e9e80e33161d1e694d2b1da2ba8b10f0c43722e414"), looks := false }, kinds := [], alts := [], laidByText := true, laidKinds := [.data, .data], laidTests := true, laidLooks := .later }
def ProofOtherCardSaid : Prop := Claim7.holds Tryd.pinned (.plain (OpenSpec.ofChange proofOtherSpec)) proofOtherCard

/-- THE TIED CARD OF 'syngraphlaw08.ProofBoth'. -/
def proofBothCard : Claim7 := { stood := { row := proofBothRow, standIns := [], harness := (true, "ccdb04746241078eb1d7e4e9e80e33161d1e694d2b1da2ba8b10f0c43722e414"), looks := false }, kinds := [], alts := [], laidByText := true, laidKinds := [.data, .data], laidTests := true, laidLooks := .later }
def ProofBothCardSaid : Prop := Claim7.holds Tryd.pinned (.plain (OpenSpec.ofChange proofBothSpec)) proofBothCard

/-- THE TIED CARD OF 'syngraphlaw08.ProofGrows'. -/
def proofGrowsCard : Claim7 := { stood := { row := proofGrowsRow, standIns := [], harness := (true, "ccdb04746241078eb1d7e4e9e80e33161d1e694d2b1da2ba8b10f0c43722e414"), looks := false }, kinds := [], alts := [], laidByText := true, laidKinds := [.data, .data], laidTests := true, laidLooks := .later }
def ProofGrowsCardSaid : Prop := Claim7.holds Tryd.pinned (.plain (OpenSpec.ofChange proofGrowsSpec)) proofGrowsCard

/-- THE TIED CARD OF 'syngraphlaw08.ProofRight'. -/
def proofRightCard : Claim7 := { stood := { row := proofRightRow, standIns := [], harness := (true, "ccdb04746241078eb1d7e4e9e80e33161d1e694d2b1da2ba8b10f0c43722e414"), looks := false }, kinds := [], alts := [], laidByText := true, laidKinds := [.data, .data], laidTests := true, laidLooks := .later }
def ProofRightCardSaid : Prop := Claim7.holds Tryd.pinned (.plain (OpenSpec.ofChange proofRightSpec)) proofRightCard

/-- THE TIED CARD OF 'syngraphlaw10.CollideRight'. -/
def collideRightCard : Claim7 := { stood := { row := collideRightRow, standIns := [], harness := (true, "ccdb04746241078eb1d7e4e9e80e33161d1e694d2b1da2ba8b10f0c43722e414"), looks := false }, kinds := [], alts := [], laidByText := true, laidKinds := [.data, .data], laidTests := true, laidLooks := .later }
def CollideRightCardSaid : Prop := Claim7.holds Tryd.pinned (.plain (OpenSpec.ofChange collideRightSpec)) collideRightCard

/-- THE TIED CARD OF 'syngraphlaw10.CollideLists'. -/
def collideListsCard : Claim7 := { stood := { row := collideListsRow, standIns := [], harness := (true, "ccdb04746241078eb1d7e4e9e80e33161d1e694d2b1da2ba8b10f0c43722e414"), looks := false }, kinds := [], alts := [], laidByText := true, laidKinds := [.data, .data], laidTests := true, laidLooks := .later }
def CollideListsCardSaid : Prop := Claim7.holds Tryd.pinned (.plain (OpenSpec.ofChange collideListsSpec)) collideListsCard

/-- THE SECOND FORM's CARD OF 'syngraphlaw07.MerkleSplits'. -/
def merkleSplitsUptoCard : Claim7 := { stood := { row := merkleSplitsUptoRow, standIns := [], harness := (true, "ccdb04746241078eb1d7e4e9e80e33161d1e694d2b1da2ba8b10f0c43722e414"), looks := false }, kinds := [], alts := [], laidByText := true, laidKinds := [.data, .data], laidTests := true, laidLooks := .later }
def MerkleSplitsUptoCardSaid : Prop := Claim7.holds Tryd.pinned (.plain (OpenSpec.upto merkleSplitsSpec)) merkleSplitsUptoCard

/-- THE SECOND FORM's CARD OF 'syngraphlaw07.MerklePaths'. -/
def merklePathsUptoCard : Claim7 := { stood := { row := merklePathsUptoRow, standIns := [], harness := (true, "ccdb04746241078eb1d7e4e9e80e33161d1e694d2b1da2ba8b10f0c43722e414"), looks := false }, kinds := [], alts := [], laidByText := true, laidKinds := [.data, .data], laidTests := true, laidLooks := .later }
def MerklePathsUptoCardSaid : Prop := Claim7.holds Tryd.pinned (.plain (OpenSpec.upto merklePathsSpec)) merklePathsUptoCard

/-- THE SECOND FORM's CARD OF 'syngraphlaw07.MerkleLeaves'. -/
def merkleLeavesUptoCard : Claim7 := { stood := { row := merkleLeavesUptoRow, standIns := [], harness := (true, "ccdb04746241078eb1d7e4e9e80e33161d1e694d2b1da2ba8b10f0c43722e414"), looks := false }, kinds := [], alts := [], laidByText := true, laidKinds := [.data, .data], laidTests := true, laidLooks := .later }
def MerkleLeavesUptoCardSaid : Prop := Claim7.holds Tryd.pinned (.plain (OpenSpec.upto merkleLeavesSpec)) merkleLeavesUptoCard

/-- THE SECOND FORM's CARD OF 'syngraphlaw07.MerkleRoots'. -/
def merkleRootsUptoCard : Claim7 := { stood := { row := merkleRootsUptoRow, standIns := [], harness := (true, "ccdb04746241078eb1d7e4e9e80e33161d1e694d2b1da2ba8b10f0c43722e414"), looks := false }, kinds := [], alts := [], laidByText := true, laidKinds := [.data, .data], laidTests := true, laidLooks := .later }
def MerkleRootsUptoCardSaid : Prop := Claim7.holds Tryd.pinned (.plain (OpenSpec.upto merkleRootsSpec)) merkleRootsUptoCard

/-- THE SECOND FORM's CARD OF 'syngraphlaw07.MerkleProofs'. -/
def merkleProofsUptoCard : Claim7 := { stood := { row := merkleProofsUptoRow, standIns := [], harness := (true, "ccdb04746241078eb1d7e4e9e80e33161d1e694d2b1da2ba8b10f0c43722e414"), looks := false }, kinds := [], alts := [], laidByText := true, laidKinds := [.data, .data], laidTests := true, laidLooks := .later }
def MerkleProofsUptoCardSaid : Prop := Claim7.holds Tryd.pinned (.plain (OpenSpec.upto merkleProofsSpec)) merkleProofsUptoCard

/-- THE SECOND FORM's CARD OF 'syngraphlaw08.ProofLeads'. -/
def proofLeadsUptoCard : Claim7 := { stood := { row := proofLeadsUptoRow, standIns := [], harness := (true, "ccdb04746241078eb1d7e4e9e80e33161d1e694d2b1da2ba8b10f0c43722e414"), looks := false }, kinds := [], alts := [], laidByText := true, laidKinds := [.data, .data], laidTests := true, laidLooks := .later }
def ProofLeadsUptoCardSaid : Prop := Claim7.holds Tryd.pinned (.plain (OpenSpec.upto proofLeadsSpec)) proofLeadsUptoCard

/-- THE SECOND FORM's CARD OF 'syngraphlaw08.ProofOther'. -/
def proofOtherUptoCard : Claim7 := { stood := { row := proofOtherUptoRow, standIns := [], harness := (true, "ccdb04746241078eb1d7e4e9e80e33161d1e694d2b1da2ba8b10f0c43722e414"), looks := false }, kinds := [], alts := [], laidByText := true, laidKinds := [.data, .data], laidTests := true, laidLooks := .later }
def ProofOtherUptoCardSaid : Prop := Claim7.holds Tryd.pinned (.plain (OpenSpec.upto proofOtherSpec)) proofOtherUptoCard

/-- THE SECOND FORM's CARD OF 'syngraphlaw08.ProofBoth'. -/
def proofBothUptoCard : Claim7 := { stood := { row := proofBothUptoRow, standIns := [], harness := (true, "ccdb04746241078eb1d7e4e9e80e33161d1e694d2b1da2ba8b10f0c43722e414"), looks := false }, kinds := [], alts := [], laidByText := true, laidKinds := [.data, .data], laidTests := true, laidLooks := .later }
def ProofBothUptoCardSaid : Prop := Claim7.holds Tryd.pinned (.plain (OpenSpec.upto proofBothSpec)) proofBothUptoCard

/-- THE SECOND FORM's CARD OF 'syngraphlaw08.ProofGrows'. -/
def proofGrowsUptoCard : Claim7 := { stood := { row := proofGrowsUptoRow, standIns := [], harness := (true, "ccdb04746241078eb1d7e4e9e80e33161d1e694d2b1da2ba8b10f0c43722e414"), looks := false }, kinds := [], alts := [], laidByText := true, laidKinds := [.data, .data], laidTests := true, laidLooks := .later }
def ProofGrowsUptoCardSaid : Prop := Claim7.holds Tryd.pinned (.plain (OpenSpec.upto proofGrowsSpec)) proofGrowsUptoCard

/-- THE SECOND FORM's CARD OF 'syngraphlaw08.ProofRight'. -/
def proofRightUptoCard : Claim7 := { stood := { row := proofRightUptoRow, standIns := [], harness := (true, "ccdb04746241078eb1d7e4e9e80e33161d1e694d2b1da2ba8b10f0c43722e414"), looks := false }, kinds := [], alts := [], laidByText := true, laidKinds := [.data, .data], laidTests := true, laidLooks := .later }
def ProofRightUptoCardSaid : Prop := Claim7.holds Tryd.pinned (.plain (OpenSpec.upto proofRightSpec)) proofRightUptoCard

/-- THE SECOND FORM's CARD OF 'syngraphlaw10.CollideRight'. -/
def collideRightUptoCard : Claim7 := { stood := { row := collideRightUptoRow, standIns := [], harness := (true, "ccdb04746241078eb1d7e4e9e80e33161d1e694d2b1da2ba8b10f0c43722e414"), looks := false }, kinds := [], alts := [], laidByText := true, laidKinds := [.data, .data], laidTests := true, laidLooks := .later }
def CollideRightUptoCardSaid : Prop := Claim7.holds Tryd.pinned (.plain (OpenSpec.upto collideRightSpec)) collideRightUptoCard

/-- THE SECOND FORM's CARD OF 'syngraphlaw10.CollideLists'. -/
def collideListsUptoCard : Claim7 := { stood := { row := collideListsUptoRow, standIns := [], harness := (true, "ccdb04746241078eb1d7e4e9e80e33161d1e694d2b1da2ba8b10f0c43722e414"), looks := false }, kinds := [], alts := [], laidByText := true, laidKinds := [.data, .data], laidTests := true, laidLooks := .later }
def CollideListsUptoCardSaid : Prop := Claim7.holds Tryd.pinned (.plain (OpenSpec.upto collideListsSpec)) collideListsUptoCard
end Rows
end Go.Proofs.YtkjdnpalafldhaaDoor
