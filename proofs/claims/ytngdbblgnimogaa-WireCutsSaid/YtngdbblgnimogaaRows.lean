/-
  No cell of these rows narrows 'for every input' (looked for: loops, veiled, ifaces, maps, wideKeys, modest, calm, conditions, laid).
  DERIVED. THE GIVEN ROWS OF THIS SEAT. 5 by the template 'for every input the law returns true; each argument reads behind the call as it read before'; 0 by the template 'total and deterministic' (their statements: YtngdbblgnimogaaTotals.lean).
  GIVEN WITH THE SEED: the statements are not yours to turn. If you find one false, say at which input.
  Laid BY PROGRAM, IN A SANDBOX (cutbox-rows.mjs): the forced cells as the released guide's own fill.sh prints them over the translation 5c91033a607900a8… (all of the seat's roots in one cut). By AI agents, Wed Nov 11 2026. No macro, syntax, notation, axiom, sorry.
-/
import Derived.Test.YtngdbblgnimogaaChecked
import GoSem.Claim
import GoSem.ClaimJoined
import GoSem.ClaimMapViews
import Derived.JoinedTies
import Derived.KernelRfl
namespace Go.Proofs.Ytngdbblgnimogaa
/- THE CELL 'sum', in the pinned program and in every row, IS THE sha256 OF THE DUMP (.gsa) THAT YtngdbblgnimogaaProg.lean LOADS. Nothing in Lean hashes anything: it is a label: what it is worth is what the hold of that sum in a sandbox is worth. -/
noncomputable def Try.pinned : Pinned := { name := "ytngdbblgnimogaa", sum := "5c91033a607900a8bc6b88824159535fd9fba62f72b7765200ff57b0281246cb", checked := Try.checked }
namespace Rows
def none {H : Type} : Left H := { results := [], args := [] }

/-- 'syngraphlaw03.WireCounts': WHATEVER THE INPUT: true; the input reads as it did. -/
def wireCountsSpec : ChangeSpec := { name := "wireCounts", fn := fun _ => fun
  | [d1, d2, d3] => { results := [.lit (.bool true)], args := [d1, d2, d3] }
  | _ => none }
def wireCountsRow : OpenClaim := { program := "ytngdbblgnimogaa", sum := "5c91033a607900a8bc6b88824159535fd9fba62f72b7765200ff57b0281246cb", func := "syngraph/syngraphlaw03.WireCounts", spec := "wireCounts", apart := false }
def WireCountsSaid : Prop := wireCountsRow.holds Try.pinned (OpenSpec.ofChange wireCountsSpec)

/-- ITS FALSE NEIGHBOUR: 'it returns false'. Refute it at one input. -/
def wireCountsWrong : ChangeSpec := { name := "wireCounts", fn := fun _ => fun
  | [d1, d2, d3] => { results := [.lit (.bool false)], args := [d1, d2, d3] }
  | _ => none }
def WireCountsWrongFalsely : Prop := wireCountsRow.holds Try.pinned (OpenSpec.ofChange wireCountsWrong)

/-- 'syngraphlaw03.WireHashes': WHATEVER THE INPUT: true; the input reads as it did. -/
def wireHashesSpec : ChangeSpec := { name := "wireHashes", fn := fun _ => fun
  | [d1, d2] => { results := [.lit (.bool true)], args := [d1, d2] }
  | _ => none }
def wireHashesRow : OpenClaim := { program := "ytngdbblgnimogaa", sum := "5c91033a607900a8bc6b88824159535fd9fba62f72b7765200ff57b0281246cb", func := "syngraph/syngraphlaw03.WireHashes", spec := "wireHashes", apart := false }
def WireHashesSaid : Prop := wireHashesRow.holds Try.pinned (OpenSpec.ofChange wireHashesSpec)

/-- ITS FALSE NEIGHBOUR: 'it returns false'. Refute it at one input. -/
def wireHashesWrong : ChangeSpec := { name := "wireHashes", fn := fun _ => fun
  | [d1, d2] => { results := [.lit (.bool false)], args := [d1, d2] }
  | _ => none }
def WireHashesWrongFalsely : Prop := wireHashesRow.holds Try.pinned (OpenSpec.ofChange wireHashesWrong)

/-- 'syngraphlaw03.WireReads': WHATEVER THE INPUT: true; the input reads as it did. -/
def wireReadsSpec : ChangeSpec := { name := "wireReads", fn := fun _ => fun
  | [d1, d2, d3] => { results := [.lit (.bool true)], args := [d1, d2, d3] }
  | _ => none }
def wireReadsRow : OpenClaim := { program := "ytngdbblgnimogaa", sum := "5c91033a607900a8bc6b88824159535fd9fba62f72b7765200ff57b0281246cb", func := "syngraph/syngraphlaw03.WireReads", spec := "wireReads", apart := false }
def WireReadsSaid : Prop := wireReadsRow.holds Try.pinned (OpenSpec.ofChange wireReadsSpec)

/-- ITS FALSE NEIGHBOUR: 'it returns false'. Refute it at one input. -/
def wireReadsWrong : ChangeSpec := { name := "wireReads", fn := fun _ => fun
  | [d1, d2, d3] => { results := [.lit (.bool false)], args := [d1, d2, d3] }
  | _ => none }
def WireReadsWrongFalsely : Prop := wireReadsRow.holds Try.pinned (OpenSpec.ofChange wireReadsWrong)

/-- 'syngraphlaw03.WireTells': WHATEVER THE INPUT: true; the input reads as it did. -/
def wireTellsSpec : ChangeSpec := { name := "wireTells", fn := fun _ => fun
  | [d] => { results := [.lit (.bool true)], args := [d] }
  | _ => none }
def wireTellsRow : OpenClaim := { program := "ytngdbblgnimogaa", sum := "5c91033a607900a8bc6b88824159535fd9fba62f72b7765200ff57b0281246cb", func := "syngraph/syngraphlaw03.WireTells", spec := "wireTells", apart := false }
def WireTellsSaid : Prop := wireTellsRow.holds Try.pinned (OpenSpec.ofChange wireTellsSpec)

/-- ITS FALSE NEIGHBOUR: 'it returns false'. Refute it at one input. -/
def wireTellsWrong : ChangeSpec := { name := "wireTells", fn := fun _ => fun
  | [d] => { results := [.lit (.bool false)], args := [d] }
  | _ => none }
def WireTellsWrongFalsely : Prop := wireTellsRow.holds Try.pinned (OpenSpec.ofChange wireTellsWrong)

/-- 'syngraphlaw03.WireCuts': WHATEVER THE INPUT: true; the input reads as it did. -/
def wireCutsSpec : ChangeSpec := { name := "wireCuts", fn := fun _ => fun
  | [d1, d2] => { results := [.lit (.bool true)], args := [d1, d2] }
  | _ => none }
def wireCutsRow : OpenClaim := { program := "ytngdbblgnimogaa", sum := "5c91033a607900a8bc6b88824159535fd9fba62f72b7765200ff57b0281246cb", func := "syngraph/syngraphlaw03.WireCuts", spec := "wireCuts", apart := false }
def WireCutsSaid : Prop := wireCutsRow.holds Try.pinned (OpenSpec.ofChange wireCutsSpec)

/-- ITS FALSE NEIGHBOUR: 'it returns false'. Refute it at one input. -/
def wireCutsWrong : ChangeSpec := { name := "wireCuts", fn := fun _ => fun
  | [d1, d2] => { results := [.lit (.bool false)], args := [d1, d2] }
  | _ => none }
def WireCutsWrongFalsely : Prop := wireCutsRow.holds Try.pinned (OpenSpec.ofChange wireCutsWrong)

/- THE SECOND FORM. 'bulk': how many values and letters a reading holds, each counted each time it is reached (what is shared counts as often as it is met; a slice's spare places count too). A statement '..UptoSaid' is the law's where the arguments, and the package variables that the reading takes, are together of bulk at most 1048576: NARROWER than '..Said'. Prove '..Said' where nothing that the law and all that it calls make is longer than what came in: it says more and counts as full. Else prove '..UptoSaid'. A law counts once. -/
mutual
def uptoBulk {H : Type} : DataW H → Nat
  | .lit (.string bytes) => bytes.length + 1
  | .lit _ => 1
  | .nil => 1
  | .ptr d => uptoBulk d + 1
  | .slice elems spare => uptoBulkAll elems + uptoBulkAll spare + 1
  | .agg parts => uptoBulkAll parts + 1
  | .iface _ d => uptoBulk d + 1
  | .map entries => uptoBulkEntries entries + 1
  | .held _ => 1
def uptoBulkAll {H : Type} : List (DataW H) → Nat
  | [] => 0
  | d :: r => uptoBulk d + uptoBulkAll r
def uptoBulkEntries {H : Type} : List (Lit × DataW H) → Nat
  | [] => 0
  | x :: r => uptoBulkEntry x + uptoBulkEntries r
def uptoBulkEntry {H : Type} : Lit × DataW H → Nat
  | (.string bytes, d) => bytes.length + uptoBulk d + 1
  | (_, d) => uptoBulk d + 1
 end
def uptoSmall : (H : Type) → List (DataW H) → Bool := fun _ ds => decide (uptoBulkAll ds ≤ 1048576)
def OpenSpec.upto (s : _root_.Go.ChangeSpec) : _root_.Go.OpenSpec := { _root_.Go.OpenSpec.ofChange s with cond := some uptoSmall }

/-- 'syngraphlaw03.WireCounts', WHERE WHAT IT READS IS OF BULK AT MOST 1048576: true; the input reads as it did. -/
def wireCountsUptoRow : OpenClaim := { program := "ytngdbblgnimogaa", sum := "5c91033a607900a8bc6b88824159535fd9fba62f72b7765200ff57b0281246cb", func := "syngraph/syngraphlaw03.WireCounts", spec := "wireCounts", apart := false, narrowed := true }
def WireCountsUptoSaid : Prop := wireCountsUptoRow.holds Try.pinned (OpenSpec.upto wireCountsSpec)

/-- 'syngraphlaw03.WireHashes', WHERE WHAT IT READS IS OF BULK AT MOST 1048576: true; the input reads as it did. -/
def wireHashesUptoRow : OpenClaim := { program := "ytngdbblgnimogaa", sum := "5c91033a607900a8bc6b88824159535fd9fba62f72b7765200ff57b0281246cb", func := "syngraph/syngraphlaw03.WireHashes", spec := "wireHashes", apart := false, narrowed := true }
def WireHashesUptoSaid : Prop := wireHashesUptoRow.holds Try.pinned (OpenSpec.upto wireHashesSpec)

/-- 'syngraphlaw03.WireReads', WHERE WHAT IT READS IS OF BULK AT MOST 1048576: true; the input reads as it did. -/
def wireReadsUptoRow : OpenClaim := { program := "ytngdbblgnimogaa", sum := "5c91033a607900a8bc6b88824159535fd9fba62f72b7765200ff57b0281246cb", func := "syngraph/syngraphlaw03.WireReads", spec := "wireReads", apart := false, narrowed := true }
def WireReadsUptoSaid : Prop := wireReadsUptoRow.holds Try.pinned (OpenSpec.upto wireReadsSpec)

/-- 'syngraphlaw03.WireTells', WHERE WHAT IT READS IS OF BULK AT MOST 1048576: true; the input reads as it did. -/
def wireTellsUptoRow : OpenClaim := { program := "ytngdbblgnimogaa", sum := "5c91033a607900a8bc6b88824159535fd9fba62f72b7765200ff57b0281246cb", func := "syngraph/syngraphlaw03.WireTells", spec := "wireTells", apart := false, narrowed := true }
def WireTellsUptoSaid : Prop := wireTellsUptoRow.holds Try.pinned (OpenSpec.upto wireTellsSpec)

/-- 'syngraphlaw03.WireCuts', WHERE WHAT IT READS IS OF BULK AT MOST 1048576: true; the input reads as it did. -/
def wireCutsUptoRow : OpenClaim := { program := "ytngdbblgnimogaa", sum := "5c91033a607900a8bc6b88824159535fd9fba62f72b7765200ff57b0281246cb", func := "syngraph/syngraphlaw03.WireCuts", spec := "wireCuts", apart := false, narrowed := true }
def WireCutsUptoSaid : Prop := wireCutsUptoRow.holds Try.pinned (OpenSpec.upto wireCutsSpec)

end Rows
end Go.Proofs.Ytngdbblgnimogaa
