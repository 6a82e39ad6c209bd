/-
  NARROWER THAN 'FOR EVERY INPUT', by the rows' own cells (each row's printed sentence says how): CompactGrows: laid · CompactParses: laid · CompactFull: laid · MssVerifies: laid · MssSigns: laid · CompactGoes: laid · MssOnce: laid · MssBytes: laid · MssParses: laid · CollideIn: laid · CollideOn: laid · CollideTrue: laid.
  DERIVED. THE GIVEN ROWS OF THIS SEAT. 12 by the template 'for every input the law returns true; each argument reads behind the call as it read before'; 0 by the template 'total and deterministic' (their statements: YtalnkhgonfcabaaDoorTotals.lean).
  GIVEN WITH THE SEED: the statements are not yours to turn. If you find one false, say at which input.
  Laid BY PROGRAM, IN A SANDBOX (cutbox-rows.mjs): the forced cells as the released guide's own fill.sh prints them over the translation 5fb44a28e94a2beb… (all of the seat's roots in one cut). By AI agents, Wed Nov 11 2026. No macro, syntax, notation, axiom, sorry.
-/
import Derived.Test.YtalnkhgonfcabaaDoorChecked
import GoSem.Claim
import GoSem.ClaimJoined
import GoSem.ClaimMapViews
import Derived.JoinedTies
import Derived.KernelRfl
namespace Go.Proofs.YtalnkhgonfcabaaDoor
/- THE CELL 'sum', in the pinned program and in every row, IS THE sha256 OF THE DUMP (.gsa) THAT YtalnkhgonfcabaaDoorProg.lean LOADS. Nothing in Lean hashes anything: it is a label: what it is worth is what the hold of that sum in a sandbox is worth. -/
noncomputable def Tryd.pinned : Pinned := { name := "ytalnkhgonfcabaadoor", sum := "5fb44a28e94a2bebe7bb15784bfbc3167397685ee1aa01a2fa0ac4a23a9158af", checked := Tryd.checked }
namespace Rows
def none {H : Type} : Left H := { results := [], args := [] }

/- WHAT THE LISTED PACKAGE-LEVEL VARIABLES READ AS WHEN THE CALL BEGINS. Each datum BY PROGRAM (the guide's laid-datum.mjs) off the statement by which the dump's own 'gosem.cut.vars' lays the variable. In a bare row this is a premise. The card (YtalnkhgonfcabaaDoorCards.lean) ties it to the program's text. -/
def laid_math_bits_deBruijn32tab {H : Type} : DataW H := .agg [.lit (.int .u8 0), .lit (.int .u8 1), .lit (.int .u8 28), .lit (.int .u8 2), .lit (.int .u8 29), .lit (.int .u8 14), .lit (.int .u8 24), .lit (.int .u8 3), .lit (.int .u8 30), .lit (.int .u8 22), .lit (.int .u8 20), .lit (.int .u8 15), .lit (.int .u8 25), .lit (.int .u8 17), .lit (.int .u8 4), .lit (.int .u8 8), .lit (.int .u8 31), .lit (.int .u8 27), .lit (.int .u8 13), .lit (.int .u8 23), .lit (.int .u8 21), .lit (.int .u8 19), .lit (.int .u8 16), .lit (.int .u8 7), .lit (.int .u8 26), .lit (.int .u8 12), .lit (.int .u8 18), .lit (.int .u8 6), .lit (.int .u8 11), .lit (.int .u8 5), .lit (.int .u8 10), .lit (.int .u8 9)]
def laid_math_bits_deBruijn64tab {H : Type} : DataW H := .agg [.lit (.int .u8 0), .lit (.int .u8 1), .lit (.int .u8 56), .lit (.int .u8 2), .lit (.int .u8 57), .lit (.int .u8 49), .lit (.int .u8 28), .lit (.int .u8 3), .lit (.int .u8 61), .lit (.int .u8 58), .lit (.int .u8 42), .lit (.int .u8 50), .lit (.int .u8 38), .lit (.int .u8 29), .lit (.int .u8 17), .lit (.int .u8 4), .lit (.int .u8 62), .lit (.int .u8 47), .lit (.int .u8 59), .lit (.int .u8 36), .lit (.int .u8 45), .lit (.int .u8 43), .lit (.int .u8 51), .lit (.int .u8 22), .lit (.int .u8 53), .lit (.int .u8 39), .lit (.int .u8 33), .lit (.int .u8 30), .lit (.int .u8 24), .lit (.int .u8 18), .lit (.int .u8 12), .lit (.int .u8 5), .lit (.int .u8 63), .lit (.int .u8 55), .lit (.int .u8 48), .lit (.int .u8 27), .lit (.int .u8 60), .lit (.int .u8 41), .lit (.int .u8 37), .lit (.int .u8 16), .lit (.int .u8 46), .lit (.int .u8 35), .lit (.int .u8 44), .lit (.int .u8 21), .lit (.int .u8 52), .lit (.int .u8 32), .lit (.int .u8 23), .lit (.int .u8 11), .lit (.int .u8 54), .lit (.int .u8 26), .lit (.int .u8 40), .lit (.int .u8 15), .lit (.int .u8 34), .lit (.int .u8 20), .lit (.int .u8 31), .lit (.int .u8 10), .lit (.int .u8 25), .lit (.int .u8 14), .lit (.int .u8 19), .lit (.int .u8 9), .lit (.int .u8 13), .lit (.int .u8 8), .lit (.int .u8 7), .lit (.int .u8 6)]
def laid_syngraph_sha_begin {H : Type} : DataW H := .agg [.lit (.int .u32 1779033703), .lit (.int .u32 3144134277), .lit (.int .u32 1013904242), .lit (.int .u32 2773480762), .lit (.int .u32 1359893119), .lit (.int .u32 2600822924), .lit (.int .u32 528734635), .lit (.int .u32 1541459225)]
def laid_syngraph_sha_table {H : Type} : DataW H := .agg [.lit (.int .u32 1116352408), .lit (.int .u32 1899447441), .lit (.int .u32 3049323471), .lit (.int .u32 3921009573), .lit (.int .u32 961987163), .lit (.int .u32 1508970993), .lit (.int .u32 2453635748), .lit (.int .u32 2870763221), .lit (.int .u32 3624381080), .lit (.int .u32 310598401), .lit (.int .u32 607225278), .lit (.int .u32 1426881987), .lit (.int .u32 1925078388), .lit (.int .u32 2162078206), .lit (.int .u32 2614888103), .lit (.int .u32 3248222580), .lit (.int .u32 3835390401), .lit (.int .u32 4022224774), .lit (.int .u32 264347078), .lit (.int .u32 604807628), .lit (.int .u32 770255983), .lit (.int .u32 1249150122), .lit (.int .u32 1555081692), .lit (.int .u32 1996064986), .lit (.int .u32 2554220882), .lit (.int .u32 2821834349), .lit (.int .u32 2952996808), .lit (.int .u32 3210313671), .lit (.int .u32 3336571891), .lit (.int .u32 3584528711), .lit (.int .u32 113926993), .lit (.int .u32 338241895), .lit (.int .u32 666307205), .lit (.int .u32 773529912), .lit (.int .u32 1294757372), .lit (.int .u32 1396182291), .lit (.int .u32 1695183700), .lit (.int .u32 1986661051), .lit (.int .u32 2177026350), .lit (.int .u32 2456956037), .lit (.int .u32 2730485921), .lit (.int .u32 2820302411), .lit (.int .u32 3259730800), .lit (.int .u32 3345764771), .lit (.int .u32 3516065817), .lit (.int .u32 3600352804), .lit (.int .u32 4094571909), .lit (.int .u32 275423344), .lit (.int .u32 430227734), .lit (.int .u32 506948616), .lit (.int .u32 659060556), .lit (.int .u32 883997877), .lit (.int .u32 958139571), .lit (.int .u32 1322822218), .lit (.int .u32 1537002063), .lit (.int .u32 1747873779), .lit (.int .u32 1955562222), .lit (.int .u32 2024104815), .lit (.int .u32 2227730452), .lit (.int .u32 2361852424), .lit (.int .u32 2428436474), .lit (.int .u32 2756734187), .lit (.int .u32 3204031479), .lit (.int .u32 3329325298)]

/-- 'syngraphlaw09.CompactGrows': WHATEVER THE INPUT: true; the input reads as it did. -/
def compactGrowsSpec : ChangeSpec := { name := "compactGrows", fn := fun _ => fun
  | [d1, d2] => { results := [.lit (.bool true)], args := [d1, d2] }
  | _ => none }
def compactGrowsRow : OpenClaim := { program := "ytalnkhgonfcabaadoor", sum := "5fb44a28e94a2bebe7bb15784bfbc3167397685ee1aa01a2fa0ac4a23a9158af", func := "syngraph/syngraphlaw09.CompactGrows", spec := "compactGrows", unfollowed := true, recurses := true, named := ["math/bits.deBruijn32tab", "math/bits.deBruijn64tab", "syngraph/sha.begin", "syngraph/sha.table"], apart := false, laid := [("math/bits.deBruijn32tab", laid_math_bits_deBruijn32tab), ("math/bits.deBruijn64tab", laid_math_bits_deBruijn64tab), ("syngraph/sha.begin", laid_syngraph_sha_begin), ("syngraph/sha.table", laid_syngraph_sha_table)] }
def CompactGrowsSaid : Prop := compactGrowsRow.holds Tryd.pinned (OpenSpec.ofChange compactGrowsSpec)

/-- ITS FALSE NEIGHBOUR: 'it returns false'. Refute it at one input. -/
def compactGrowsWrong : ChangeSpec := { name := "compactGrows", fn := fun _ => fun
  | [d1, d2] => { results := [.lit (.bool false)], args := [d1, d2] }
  | _ => none }
def CompactGrowsWrongFalsely : Prop := compactGrowsRow.holds Tryd.pinned (OpenSpec.ofChange compactGrowsWrong)

/-- 'syngraphlaw09.CompactParses': WHATEVER THE INPUT: true; the input reads as it did. -/
def compactParsesSpec : ChangeSpec := { name := "compactParses", fn := fun _ => fun
  | [d] => { results := [.lit (.bool true)], args := [d] }
  | _ => none }
def compactParsesRow : OpenClaim := { program := "ytalnkhgonfcabaadoor", sum := "5fb44a28e94a2bebe7bb15784bfbc3167397685ee1aa01a2fa0ac4a23a9158af", func := "syngraph/syngraphlaw09.CompactParses", spec := "compactParses", unfollowed := true, recurses := true, named := ["math/bits.deBruijn32tab", "math/bits.deBruijn64tab", "syngraph/sha.begin", "syngraph/sha.table"], apart := false, laid := [("math/bits.deBruijn32tab", laid_math_bits_deBruijn32tab), ("math/bits.deBruijn64tab", laid_math_bits_deBruijn64tab), ("syngraph/sha.begin", laid_syngraph_sha_begin), ("syngraph/sha.table", laid_syngraph_sha_table)] }
def CompactParsesSaid : Prop := compactParsesRow.holds Tryd.pinned (OpenSpec.ofChange compactParsesSpec)

/-- ITS FALSE NEIGHBOUR: 'it returns false'. Refute it at one input. -/
def compactParsesWrong : ChangeSpec := { name := "compactParses", fn := fun _ => fun
  | [d] => { results := [.lit (.bool false)], args := [d] }
  | _ => none }
def CompactParsesWrongFalsely : Prop := compactParsesRow.holds Tryd.pinned (OpenSpec.ofChange compactParsesWrong)

/-- 'syngraphlaw09.CompactFull': WHATEVER THE INPUT: true; the input reads as it did. -/
def compactFullSpec : ChangeSpec := { name := "compactFull", fn := fun _ => fun
  | [d1, d2, d3] => { results := [.lit (.bool true)], args := [d1, d2, d3] }
  | _ => none }
def compactFullRow : OpenClaim := { program := "ytalnkhgonfcabaadoor", sum := "5fb44a28e94a2bebe7bb15784bfbc3167397685ee1aa01a2fa0ac4a23a9158af", func := "syngraph/syngraphlaw09.CompactFull", spec := "compactFull", unfollowed := true, recurses := true, named := ["math/bits.deBruijn32tab", "math/bits.deBruijn64tab", "syngraph/sha.begin", "syngraph/sha.table"], apart := false, laid := [("math/bits.deBruijn32tab", laid_math_bits_deBruijn32tab), ("math/bits.deBruijn64tab", laid_math_bits_deBruijn64tab), ("syngraph/sha.begin", laid_syngraph_sha_begin), ("syngraph/sha.table", laid_syngraph_sha_table)] }
def CompactFullSaid : Prop := compactFullRow.holds Tryd.pinned (OpenSpec.ofChange compactFullSpec)

/-- ITS FALSE NEIGHBOUR: 'it returns false'. Refute it at one input. -/
def compactFullWrong : ChangeSpec := { name := "compactFull", fn := fun _ => fun
  | [d1, d2, d3] => { results := [.lit (.bool false)], args := [d1, d2, d3] }
  | _ => none }
def CompactFullWrongFalsely : Prop := compactFullRow.holds Tryd.pinned (OpenSpec.ofChange compactFullWrong)

/-- 'syngraphlaw06.MssVerifies': WHATEVER THE INPUT: true; the input reads as it did. -/
def mssVerifiesSpec : ChangeSpec := { name := "mssVerifies", fn := fun _ => fun
  | [d] => { results := [.lit (.bool true)], args := [d] }
  | _ => none }
def mssVerifiesRow : OpenClaim := { program := "ytalnkhgonfcabaadoor", sum := "5fb44a28e94a2bebe7bb15784bfbc3167397685ee1aa01a2fa0ac4a23a9158af", func := "syngraph/syngraphlaw06.MssVerifies", spec := "mssVerifies", unfollowed := true, recurses := true, named := ["syngraph/sha.begin", "syngraph/sha.table"], apart := false, laid := [("syngraph/sha.begin", laid_syngraph_sha_begin), ("syngraph/sha.table", laid_syngraph_sha_table)] }
def MssVerifiesSaid : Prop := mssVerifiesRow.holds Tryd.pinned (OpenSpec.ofChange mssVerifiesSpec)

/-- ITS FALSE NEIGHBOUR: 'it returns false'. Refute it at one input. -/
def mssVerifiesWrong : ChangeSpec := { name := "mssVerifies", fn := fun _ => fun
  | [d] => { results := [.lit (.bool false)], args := [d] }
  | _ => none }
def MssVerifiesWrongFalsely : Prop := mssVerifiesRow.holds Tryd.pinned (OpenSpec.ofChange mssVerifiesWrong)

/-- 'syngraphlaw06.MssSigns': WHATEVER THE INPUT: true; the input reads as it did. -/
def mssSignsSpec : ChangeSpec := { name := "mssSigns", fn := fun _ => fun
  | [d] => { results := [.lit (.bool true)], args := [d] }
  | _ => none }
def mssSignsRow : OpenClaim := { program := "ytalnkhgonfcabaadoor", sum := "5fb44a28e94a2bebe7bb15784bfbc3167397685ee1aa01a2fa0ac4a23a9158af", func := "syngraph/syngraphlaw06.MssSigns", spec := "mssSigns", unfollowed := true, recurses := true, named := ["syngraph/sha.begin", "syngraph/sha.table"], apart := false, laid := [("syngraph/sha.begin", laid_syngraph_sha_begin), ("syngraph/sha.table", laid_syngraph_sha_table)] }
def MssSignsSaid : Prop := mssSignsRow.holds Tryd.pinned (OpenSpec.ofChange mssSignsSpec)

/-- ITS FALSE NEIGHBOUR: 'it returns false'. Refute it at one input. -/
def mssSignsWrong : ChangeSpec := { name := "mssSigns", fn := fun _ => fun
  | [d] => { results := [.lit (.bool false)], args := [d] }
  | _ => none }
def MssSignsWrongFalsely : Prop := mssSignsRow.holds Tryd.pinned (OpenSpec.ofChange mssSignsWrong)

/-- 'syngraphlaw09.CompactGoes': WHATEVER THE INPUT: true; the input reads as it did. -/
def compactGoesSpec : ChangeSpec := { name := "compactGoes", fn := fun _ => fun
  | [d1, d2] => { results := [.lit (.bool true)], args := [d1, d2] }
  | _ => none }
def compactGoesRow : OpenClaim := { program := "ytalnkhgonfcabaadoor", sum := "5fb44a28e94a2bebe7bb15784bfbc3167397685ee1aa01a2fa0ac4a23a9158af", func := "syngraph/syngraphlaw09.CompactGoes", spec := "compactGoes", unfollowed := true, recurses := true, named := ["math/bits.deBruijn32tab", "math/bits.deBruijn64tab", "syngraph/sha.begin", "syngraph/sha.table"], apart := false, laid := [("math/bits.deBruijn32tab", laid_math_bits_deBruijn32tab), ("math/bits.deBruijn64tab", laid_math_bits_deBruijn64tab), ("syngraph/sha.begin", laid_syngraph_sha_begin), ("syngraph/sha.table", laid_syngraph_sha_table)] }
def CompactGoesSaid : Prop := compactGoesRow.holds Tryd.pinned (OpenSpec.ofChange compactGoesSpec)

/-- ITS FALSE NEIGHBOUR: 'it returns false'. Refute it at one input. -/
def compactGoesWrong : ChangeSpec := { name := "compactGoes", fn := fun _ => fun
  | [d1, d2] => { results := [.lit (.bool false)], args := [d1, d2] }
  | _ => none }
def CompactGoesWrongFalsely : Prop := compactGoesRow.holds Tryd.pinned (OpenSpec.ofChange compactGoesWrong)

/-- 'syngraphlaw06.MssOnce': WHATEVER THE INPUT: true; the input reads as it did. -/
def mssOnceSpec : ChangeSpec := { name := "mssOnce", fn := fun _ => fun
  | [d1, d2, d3] => { results := [.lit (.bool true)], args := [d1, d2, d3] }
  | _ => none }
def mssOnceRow : OpenClaim := { program := "ytalnkhgonfcabaadoor", sum := "5fb44a28e94a2bebe7bb15784bfbc3167397685ee1aa01a2fa0ac4a23a9158af", func := "syngraph/syngraphlaw06.MssOnce", spec := "mssOnce", unfollowed := true, recurses := true, named := ["syngraph/sha.begin", "syngraph/sha.table"], apart := false, laid := [("syngraph/sha.begin", laid_syngraph_sha_begin), ("syngraph/sha.table", laid_syngraph_sha_table)] }
def MssOnceSaid : Prop := mssOnceRow.holds Tryd.pinned (OpenSpec.ofChange mssOnceSpec)

/-- ITS FALSE NEIGHBOUR: 'it returns false'. Refute it at one input. -/
def mssOnceWrong : ChangeSpec := { name := "mssOnce", fn := fun _ => fun
  | [d1, d2, d3] => { results := [.lit (.bool false)], args := [d1, d2, d3] }
  | _ => none }
def MssOnceWrongFalsely : Prop := mssOnceRow.holds Tryd.pinned (OpenSpec.ofChange mssOnceWrong)

/-- 'syngraphlaw06.MssBytes': WHATEVER THE INPUT: true; the input reads as it did. -/
def mssBytesSpec : ChangeSpec := { name := "mssBytes", fn := fun _ => fun
  | [d] => { results := [.lit (.bool true)], args := [d] }
  | _ => none }
def mssBytesRow : OpenClaim := { program := "ytalnkhgonfcabaadoor", sum := "5fb44a28e94a2bebe7bb15784bfbc3167397685ee1aa01a2fa0ac4a23a9158af", func := "syngraph/syngraphlaw06.MssBytes", spec := "mssBytes", unfollowed := true, recurses := true, named := ["syngraph/sha.begin", "syngraph/sha.table"], apart := false, laid := [("syngraph/sha.begin", laid_syngraph_sha_begin), ("syngraph/sha.table", laid_syngraph_sha_table)] }
def MssBytesSaid : Prop := mssBytesRow.holds Tryd.pinned (OpenSpec.ofChange mssBytesSpec)

/-- ITS FALSE NEIGHBOUR: 'it returns false'. Refute it at one input. -/
def mssBytesWrong : ChangeSpec := { name := "mssBytes", fn := fun _ => fun
  | [d] => { results := [.lit (.bool false)], args := [d] }
  | _ => none }
def MssBytesWrongFalsely : Prop := mssBytesRow.holds Tryd.pinned (OpenSpec.ofChange mssBytesWrong)

/-- 'syngraphlaw06.MssParses': WHATEVER THE INPUT: true; the input reads as it did. -/
def mssParsesSpec : ChangeSpec := { name := "mssParses", fn := fun _ => fun
  | [d] => { results := [.lit (.bool true)], args := [d] }
  | _ => none }
def mssParsesRow : OpenClaim := { program := "ytalnkhgonfcabaadoor", sum := "5fb44a28e94a2bebe7bb15784bfbc3167397685ee1aa01a2fa0ac4a23a9158af", func := "syngraph/syngraphlaw06.MssParses", spec := "mssParses", unfollowed := true, recurses := true, named := ["syngraph/sha.begin", "syngraph/sha.table"], apart := false, laid := [("syngraph/sha.begin", laid_syngraph_sha_begin), ("syngraph/sha.table", laid_syngraph_sha_table)] }
def MssParsesSaid : Prop := mssParsesRow.holds Tryd.pinned (OpenSpec.ofChange mssParsesSpec)

/-- ITS FALSE NEIGHBOUR: 'it returns false'. Refute it at one input. -/
def mssParsesWrong : ChangeSpec := { name := "mssParses", fn := fun _ => fun
  | [d] => { results := [.lit (.bool false)], args := [d] }
  | _ => none }
def MssParsesWrongFalsely : Prop := mssParsesRow.holds Tryd.pinned (OpenSpec.ofChange mssParsesWrong)

/-- 'syngraphlaw10.CollideIn': WHATEVER THE INPUT: true; the input reads as it did. -/
def collideInSpec : ChangeSpec := { name := "collideIn", fn := fun _ => fun
  | [d1, d2] => { results := [.lit (.bool true)], args := [d1, d2] }
  | _ => none }
def collideInRow : OpenClaim := { program := "ytalnkhgonfcabaadoor", sum := "5fb44a28e94a2bebe7bb15784bfbc3167397685ee1aa01a2fa0ac4a23a9158af", func := "syngraph/syngraphlaw10.CollideIn", spec := "collideIn", unfollowed := true, recurses := true, named := ["syngraph/sha.begin", "syngraph/sha.table"], apart := false, laid := [("syngraph/sha.begin", laid_syngraph_sha_begin), ("syngraph/sha.table", laid_syngraph_sha_table)] }
def CollideInSaid : Prop := collideInRow.holds Tryd.pinned (OpenSpec.ofChange collideInSpec)

/-- ITS FALSE NEIGHBOUR: 'it returns false'. Refute it at one input. -/
def collideInWrong : ChangeSpec := { name := "collideIn", fn := fun _ => fun
  | [d1, d2] => { results := [.lit (.bool false)], args := [d1, d2] }
  | _ => none }
def CollideInWrongFalsely : Prop := collideInRow.holds Tryd.pinned (OpenSpec.ofChange collideInWrong)

/-- 'syngraphlaw10.CollideOn': WHATEVER THE INPUT: true; the input reads as it did. -/
def collideOnSpec : ChangeSpec := { name := "collideOn", fn := fun _ => fun
  | [d] => { results := [.lit (.bool true)], args := [d] }
  | _ => none }
def collideOnRow : OpenClaim := { program := "ytalnkhgonfcabaadoor", sum := "5fb44a28e94a2bebe7bb15784bfbc3167397685ee1aa01a2fa0ac4a23a9158af", func := "syngraph/syngraphlaw10.CollideOn", spec := "collideOn", unfollowed := true, recurses := true, named := ["syngraph/sha.begin", "syngraph/sha.table"], apart := false, laid := [("syngraph/sha.begin", laid_syngraph_sha_begin), ("syngraph/sha.table", laid_syngraph_sha_table)] }
def CollideOnSaid : Prop := collideOnRow.holds Tryd.pinned (OpenSpec.ofChange collideOnSpec)

/-- ITS FALSE NEIGHBOUR: 'it returns false'. Refute it at one input. -/
def collideOnWrong : ChangeSpec := { name := "collideOn", fn := fun _ => fun
  | [d] => { results := [.lit (.bool false)], args := [d] }
  | _ => none }
def CollideOnWrongFalsely : Prop := collideOnRow.holds Tryd.pinned (OpenSpec.ofChange collideOnWrong)

/-- 'syngraphlaw10.CollideTrue': WHATEVER THE INPUT: true; the input reads as it did. -/
def collideTrueSpec : ChangeSpec := { name := "collideTrue", fn := fun _ => fun
  | [d1, d2, d3] => { results := [.lit (.bool true)], args := [d1, d2, d3] }
  | _ => none }
def collideTrueRow : OpenClaim := { program := "ytalnkhgonfcabaadoor", sum := "5fb44a28e94a2bebe7bb15784bfbc3167397685ee1aa01a2fa0ac4a23a9158af", func := "syngraph/syngraphlaw10.CollideTrue", spec := "collideTrue", unfollowed := true, recurses := true, named := ["syngraph/sha.begin", "syngraph/sha.table"], apart := false, laid := [("syngraph/sha.begin", laid_syngraph_sha_begin), ("syngraph/sha.table", laid_syngraph_sha_table)] }
def CollideTrueSaid : Prop := collideTrueRow.holds Tryd.pinned (OpenSpec.ofChange collideTrueSpec)

/-- ITS FALSE NEIGHBOUR: 'it returns false'. Refute it at one input. -/
def collideTrueWrong : ChangeSpec := { name := "collideTrue", fn := fun _ => fun
  | [d1, d2, d3] => { results := [.lit (.bool false)], args := [d1, d2, d3] }
  | _ => none }
def CollideTrueWrongFalsely : Prop := collideTrueRow.holds Tryd.pinned (OpenSpec.ofChange collideTrueWrong)

/- THE SECOND FORM. 'bulk': how many values and letters a reading holds, each counted each time it is reached (what is shared counts as often as it is met; a slice's spare places count too). A statement '..UptoSaid' is the law's where the arguments, and the package variables that the reading takes, are together of bulk at most 1048576: NARROWER than '..Said'. Prove '..Said' where nothing that the law and all that it calls make is longer than what came in: it says more and counts as full. Else prove '..UptoSaid'. A law counts once. -/
mutual
def uptoBulk {H : Type} : DataW H → Nat
  | .lit (.string bytes) => bytes.length + 1
  | .lit _ => 1
  | .nil => 1
  | .ptr d => uptoBulk d + 1
  | .slice elems spare => uptoBulkAll elems + uptoBulkAll spare + 1
  | .agg parts => uptoBulkAll parts + 1
  | .iface _ d => uptoBulk d + 1
  | .map entries => uptoBulkEntries entries + 1
  | .held _ => 1
def uptoBulkAll {H : Type} : List (DataW H) → Nat
  | [] => 0
  | d :: r => uptoBulk d + uptoBulkAll r
def uptoBulkEntries {H : Type} : List (Lit × DataW H) → Nat
  | [] => 0
  | x :: r => uptoBulkEntry x + uptoBulkEntries r
def uptoBulkEntry {H : Type} : Lit × DataW H → Nat
  | (.string bytes, d) => bytes.length + uptoBulk d + 1
  | (_, d) => uptoBulk d + 1
 end
def uptoSmall : (H : Type) → List (DataW H) → Bool := fun _ ds => decide (uptoBulkAll ds ≤ 1048576)
def OpenSpec.upto (s : _root_.Go.ChangeSpec) : _root_.Go.OpenSpec := { _root_.Go.OpenSpec.ofChange s with cond := some uptoSmall }

/-- 'syngraphlaw09.CompactGrows', WHERE WHAT IT READS IS OF BULK AT MOST 1048576: true; the input reads as it did. -/
def compactGrowsUptoRow : OpenClaim := { program := "ytalnkhgonfcabaadoor", sum := "5fb44a28e94a2bebe7bb15784bfbc3167397685ee1aa01a2fa0ac4a23a9158af", func := "syngraph/syngraphlaw09.CompactGrows", spec := "compactGrows", unfollowed := true, recurses := true, named := ["math/bits.deBruijn32tab", "math/bits.deBruijn64tab", "syngraph/sha.begin", "syngraph/sha.table"], apart := false, laid := [("math/bits.deBruijn32tab", laid_math_bits_deBruijn32tab), ("math/bits.deBruijn64tab", laid_math_bits_deBruijn64tab), ("syngraph/sha.begin", laid_syngraph_sha_begin), ("syngraph/sha.table", laid_syngraph_sha_table)], narrowed := true }
def CompactGrowsUptoSaid : Prop := compactGrowsUptoRow.holds Tryd.pinned (OpenSpec.upto compactGrowsSpec)

/-- 'syngraphlaw09.CompactParses', WHERE WHAT IT READS IS OF BULK AT MOST 1048576: true; the input reads as it did. -/
def compactParsesUptoRow : OpenClaim := { program := "ytalnkhgonfcabaadoor", sum := "5fb44a28e94a2bebe7bb15784bfbc3167397685ee1aa01a2fa0ac4a23a9158af", func := "syngraph/syngraphlaw09.CompactParses", spec := "compactParses", unfollowed := true, recurses := true, named := ["math/bits.deBruijn32tab", "math/bits.deBruijn64tab", "syngraph/sha.begin", "syngraph/sha.table"], apart := false, laid := [("math/bits.deBruijn32tab", laid_math_bits_deBruijn32tab), ("math/bits.deBruijn64tab", laid_math_bits_deBruijn64tab), ("syngraph/sha.begin", laid_syngraph_sha_begin), ("syngraph/sha.table", laid_syngraph_sha_table)], narrowed := true }
def CompactParsesUptoSaid : Prop := compactParsesUptoRow.holds Tryd.pinned (OpenSpec.upto compactParsesSpec)

/-- 'syngraphlaw09.CompactFull', WHERE WHAT IT READS IS OF BULK AT MOST 1048576: true; the input reads as it did. -/
def compactFullUptoRow : OpenClaim := { program := "ytalnkhgonfcabaadoor", sum := "5fb44a28e94a2bebe7bb15784bfbc3167397685ee1aa01a2fa0ac4a23a9158af", func := "syngraph/syngraphlaw09.CompactFull", spec := "compactFull", unfollowed := true, recurses := true, named := ["math/bits.deBruijn32tab", "math/bits.deBruijn64tab", "syngraph/sha.begin", "syngraph/sha.table"], apart := false, laid := [("math/bits.deBruijn32tab", laid_math_bits_deBruijn32tab), ("math/bits.deBruijn64tab", laid_math_bits_deBruijn64tab), ("syngraph/sha.begin", laid_syngraph_sha_begin), ("syngraph/sha.table", laid_syngraph_sha_table)], narrowed := true }
def CompactFullUptoSaid : Prop := compactFullUptoRow.holds Tryd.pinned (OpenSpec.upto compactFullSpec)

/-- 'syngraphlaw06.MssVerifies', WHERE WHAT IT READS IS OF BULK AT MOST 1048576: true; the input reads as it did. -/
def mssVerifiesUptoRow : OpenClaim := { program := "ytalnkhgonfcabaadoor", sum := "5fb44a28e94a2bebe7bb15784bfbc3167397685ee1aa01a2fa0ac4a23a9158af", func := "syngraph/syngraphlaw06.MssVerifies", spec := "mssVerifies", unfollowed := true, recurses := true, named := ["syngraph/sha.begin", "syngraph/sha.table"], apart := false, laid := [("syngraph/sha.begin", laid_syngraph_sha_begin), ("syngraph/sha.table", laid_syngraph_sha_table)], narrowed := true }
def MssVerifiesUptoSaid : Prop := mssVerifiesUptoRow.holds Tryd.pinned (OpenSpec.upto mssVerifiesSpec)

/-- 'syngraphlaw06.MssSigns', WHERE WHAT IT READS IS OF BULK AT MOST 1048576: true; the input reads as it did. -/
def mssSignsUptoRow : OpenClaim := { program := "ytalnkhgonfcabaadoor", sum := "5fb44a28e94a2bebe7bb15784bfbc3167397685ee1aa01a2fa0ac4a23a9158af", func := "syngraph/syngraphlaw06.MssSigns", spec := "mssSigns", unfollowed := true, recurses := true, named := ["syngraph/sha.begin", "syngraph/sha.table"], apart := false, laid := [("syngraph/sha.begin", laid_syngraph_sha_begin), ("syngraph/sha.table", laid_syngraph_sha_table)], narrowed := true }
def MssSignsUptoSaid : Prop := mssSignsUptoRow.holds Tryd.pinned (OpenSpec.upto mssSignsSpec)

/-- 'syngraphlaw09.CompactGoes', WHERE WHAT IT READS IS OF BULK AT MOST 1048576: true; the input reads as it did. -/
def compactGoesUptoRow : OpenClaim := { program := "ytalnkhgonfcabaadoor", sum := "5fb44a28e94a2bebe7bb15784bfbc3167397685ee1aa01a2fa0ac4a23a9158af", func := "syngraph/syngraphlaw09.CompactGoes", spec := "compactGoes", unfollowed := true, recurses := true, named := ["math/bits.deBruijn32tab", "math/bits.deBruijn64tab", "syngraph/sha.begin", "syngraph/sha.table"], apart := false, laid := [("math/bits.deBruijn32tab", laid_math_bits_deBruijn32tab), ("math/bits.deBruijn64tab", laid_math_bits_deBruijn64tab), ("syngraph/sha.begin", laid_syngraph_sha_begin), ("syngraph/sha.table", laid_syngraph_sha_table)], narrowed := true }
def CompactGoesUptoSaid : Prop := compactGoesUptoRow.holds Tryd.pinned (OpenSpec.upto compactGoesSpec)

/-- 'syngraphlaw06.MssOnce', WHERE WHAT IT READS IS OF BULK AT MOST 1048576: true; the input reads as it did. -/
def mssOnceUptoRow : OpenClaim := { program := "ytalnkhgonfcabaadoor", sum := "5fb44a28e94a2bebe7bb15784bfbc3167397685ee1aa01a2fa0ac4a23a9158af", func := "syngraph/syngraphlaw06.MssOnce", spec := "mssOnce", unfollowed := true, recurses := true, named := ["syngraph/sha.begin", "syngraph/sha.table"], apart := false, laid := [("syngraph/sha.begin", laid_syngraph_sha_begin), ("syngraph/sha.table", laid_syngraph_sha_table)], narrowed := true }
def MssOnceUptoSaid : Prop := mssOnceUptoRow.holds Tryd.pinned (OpenSpec.upto mssOnceSpec)

/-- 'syngraphlaw06.MssBytes', WHERE WHAT IT READS IS OF BULK AT MOST 1048576: true; the input reads as it did. -/
def mssBytesUptoRow : OpenClaim := { program := "ytalnkhgonfcabaadoor", sum := "5fb44a28e94a2bebe7bb15784bfbc3167397685ee1aa01a2fa0ac4a23a9158af", func := "syngraph/syngraphlaw06.MssBytes", spec := "mssBytes", unfollowed := true, recurses := true, named := ["syngraph/sha.begin", "syngraph/sha.table"], apart := false, laid := [("syngraph/sha.begin", laid_syngraph_sha_begin), ("syngraph/sha.table", laid_syngraph_sha_table)], narrowed := true }
def MssBytesUptoSaid : Prop := mssBytesUptoRow.holds Tryd.pinned (OpenSpec.upto mssBytesSpec)

/-- 'syngraphlaw06.MssParses', WHERE WHAT IT READS IS OF BULK AT MOST 1048576: true; the input reads as it did. -/
def mssParsesUptoRow : OpenClaim := { program := "ytalnkhgonfcabaadoor", sum := "5fb44a28e94a2bebe7bb15784bfbc3167397685ee1aa01a2fa0ac4a23a9158af", func := "syngraph/syngraphlaw06.MssParses", spec := "mssParses", unfollowed := true, recurses := true, named := ["syngraph/sha.begin", "syngraph/sha.table"], apart := false, laid := [("syngraph/sha.begin", laid_syngraph_sha_begin), ("syngraph/sha.table", laid_syngraph_sha_table)], narrowed := true }
def MssParsesUptoSaid : Prop := mssParsesUptoRow.holds Tryd.pinned (OpenSpec.upto mssParsesSpec)

/-- 'syngraphlaw10.CollideIn', WHERE WHAT IT READS IS OF BULK AT MOST 1048576: true; the input reads as it did. -/
def collideInUptoRow : OpenClaim := { program := "ytalnkhgonfcabaadoor", sum := "5fb44a28e94a2bebe7bb15784bfbc3167397685ee1aa01a2fa0ac4a23a9158af", func := "syngraph/syngraphlaw10.CollideIn", spec := "collideIn", unfollowed := true, recurses := true, named := ["syngraph/sha.begin", "syngraph/sha.table"], apart := false, laid := [("syngraph/sha.begin", laid_syngraph_sha_begin), ("syngraph/sha.table", laid_syngraph_sha_table)], narrowed := true }
def CollideInUptoSaid : Prop := collideInUptoRow.holds Tryd.pinned (OpenSpec.upto collideInSpec)

/-- 'syngraphlaw10.CollideOn', WHERE WHAT IT READS IS OF BULK AT MOST 1048576: true; the input reads as it did. -/
def collideOnUptoRow : OpenClaim := { program := "ytalnkhgonfcabaadoor", sum := "5fb44a28e94a2bebe7bb15784bfbc3167397685ee1aa01a2fa0ac4a23a9158af", func := "syngraph/syngraphlaw10.CollideOn", spec := "collideOn", unfollowed := true, recurses := true, named := ["syngraph/sha.begin", "syngraph/sha.table"], apart := false, laid := [("syngraph/sha.begin", laid_syngraph_sha_begin), ("syngraph/sha.table", laid_syngraph_sha_table)], narrowed := true }
def CollideOnUptoSaid : Prop := collideOnUptoRow.holds Tryd.pinned (OpenSpec.upto collideOnSpec)

/-- 'syngraphlaw10.CollideTrue', WHERE WHAT IT READS IS OF BULK AT MOST 1048576: true; the input reads as it did. -/
def collideTrueUptoRow : OpenClaim := { program := "ytalnkhgonfcabaadoor", sum := "5fb44a28e94a2bebe7bb15784bfbc3167397685ee1aa01a2fa0ac4a23a9158af", func := "syngraph/syngraphlaw10.CollideTrue", spec := "collideTrue", unfollowed := true, recurses := true, named := ["syngraph/sha.begin", "syngraph/sha.table"], apart := false, laid := [("syngraph/sha.begin", laid_syngraph_sha_begin), ("syngraph/sha.table", laid_syngraph_sha_table)], narrowed := true }
def CollideTrueUptoSaid : Prop := collideTrueUptoRow.holds Tryd.pinned (OpenSpec.upto collideTrueSpec)

end Rows
end Go.Proofs.YtalnkhgonfcabaaDoor
