/-
  NARROWER THAN 'FOR EVERY INPUT', by the rows' own cells (each row's printed sentence says how): RecorderRecords: laid · RecorderKeepsLast: laid · RecorderChanges: laid · RecorderFormats: laid · RecorderParses: laid · RecorderMerges: laid · RecorderExamples: laid · RecorderReplays: laid.
  DERIVED. THE GIVEN ROWS OF THIS SEAT. 8 by the template 'for every input the law returns true; each argument reads behind the call as it read before'; 0 by the template 'total and deterministic' (their statements: YtcoablindoknpaaDoorTotals.lean).
  GIVEN WITH THE SEED: the statements are not yours to turn. If you find one false, say at which input.
  Laid BY PROGRAM, IN A SANDBOX (cutbox-rows.mjs): the forced cells as the released guide's own fill.sh prints them over the translation f6f38baaa39882d9… (all of the seat's roots in one cut). By AI agents, Wed Nov 11 2026. No macro, syntax, notation, axiom, sorry.
-/
import Derived.Test.YtcoablindoknpaaDoorChecked
import GoSem.Claim
import GoSem.ClaimJoined
import GoSem.ClaimMapViews
import Derived.JoinedTies
import Derived.KernelRfl
namespace Go.Proofs.YtcoablindoknpaaDoor
/- THE CELL 'sum', in the pinned program and in every row, IS THE sha256 OF THE DUMP (.gsa) THAT YtcoablindoknpaaDoorProg.lean LOADS. Nothing in Lean hashes anything: it is a label: what it is worth is what the hold of that sum in a sandbox is worth. -/
noncomputable def Tryd.pinned : Pinned := { name := "ytcoablindoknpaadoor", sum := "f6f38baaa39882d94695ad7227d2ee1a21a4210a8921f14d80b2d42fe38149af", checked := Tryd.checked }
namespace Rows
def none {H : Type} : Left H := { results := [], args := [] }

/- WHAT THE LISTED PACKAGE-LEVEL VARIABLES READ AS WHEN THE CALL BEGINS. Each datum BY PROGRAM (the guide's laid-datum.mjs) off the statement by which the dump's own 'gosem.cut.vars' lays the variable. In a bare row this is a premise. The card (YtcoablindoknpaaDoorCards.lean) ties it to the program's text. -/
def laid_math_bits_deBruijn32tab {H : Type} : DataW H := .agg [.lit (.int .u8 0), .lit (.int .u8 1), .lit (.int .u8 28), .lit (.int .u8 2), .lit (.int .u8 29), .lit (.int .u8 14), .lit (.int .u8 24), .lit (.int .u8 3), .lit (.int .u8 30), .lit (.int .u8 22), .lit (.int .u8 20), .lit (.int .u8 15), .lit (.int .u8 25), .lit (.int .u8 17), .lit (.int .u8 4), .lit (.int .u8 8), .lit (.int .u8 31), .lit (.int .u8 27), .lit (.int .u8 13), .lit (.int .u8 23), .lit (.int .u8 21), .lit (.int .u8 19), .lit (.int .u8 16), .lit (.int .u8 7), .lit (.int .u8 26), .lit (.int .u8 12), .lit (.int .u8 18), .lit (.int .u8 6), .lit (.int .u8 11), .lit (.int .u8 5), .lit (.int .u8 10), .lit (.int .u8 9)]
def laid_math_bits_deBruijn64tab {H : Type} : DataW H := .agg [.lit (.int .u8 0), .lit (.int .u8 1), .lit (.int .u8 56), .lit (.int .u8 2), .lit (.int .u8 57), .lit (.int .u8 49), .lit (.int .u8 28), .lit (.int .u8 3), .lit (.int .u8 61), .lit (.int .u8 58), .lit (.int .u8 42), .lit (.int .u8 50), .lit (.int .u8 38), .lit (.int .u8 29), .lit (.int .u8 17), .lit (.int .u8 4), .lit (.int .u8 62), .lit (.int .u8 47), .lit (.int .u8 59), .lit (.int .u8 36), .lit (.int .u8 45), .lit (.int .u8 43), .lit (.int .u8 51), .lit (.int .u8 22), .lit (.int .u8 53), .lit (.int .u8 39), .lit (.int .u8 33), .lit (.int .u8 30), .lit (.int .u8 24), .lit (.int .u8 18), .lit (.int .u8 12), .lit (.int .u8 5), .lit (.int .u8 63), .lit (.int .u8 55), .lit (.int .u8 48), .lit (.int .u8 27), .lit (.int .u8 60), .lit (.int .u8 41), .lit (.int .u8 37), .lit (.int .u8 16), .lit (.int .u8 46), .lit (.int .u8 35), .lit (.int .u8 44), .lit (.int .u8 21), .lit (.int .u8 52), .lit (.int .u8 32), .lit (.int .u8 23), .lit (.int .u8 11), .lit (.int .u8 54), .lit (.int .u8 26), .lit (.int .u8 40), .lit (.int .u8 15), .lit (.int .u8 34), .lit (.int .u8 20), .lit (.int .u8 31), .lit (.int .u8 10), .lit (.int .u8 25), .lit (.int .u8 14), .lit (.int .u8 19), .lit (.int .u8 9), .lit (.int .u8 13), .lit (.int .u8 8), .lit (.int .u8 7), .lit (.int .u8 6)]
def laid_internal_strconv_uint64pow10 {H : Type} : DataW H := .agg [.lit (.int .u64 1), .lit (.int .u64 10), .lit (.int .u64 100), .lit (.int .u64 1000), .lit (.int .u64 10000), .lit (.int .u64 100000), .lit (.int .u64 1000000), .lit (.int .u64 10000000), .lit (.int .u64 100000000), .lit (.int .u64 1000000000), .lit (.int .u64 10000000000), .lit (.int .u64 100000000000), .lit (.int .u64 1000000000000), .lit (.int .u64 10000000000000), .lit (.int .u64 100000000000000), .lit (.int .u64 1000000000000000), .lit (.int .u64 10000000000000000), .lit (.int .u64 100000000000000000), .lit (.int .u64 1000000000000000000), .lit (.int .u64 10000000000000000000)]

/-- 'substationlaw37.RecorderRecords': WHATEVER THE INPUT: true; the input reads as it did. -/
def recorderRecordsSpec : ChangeSpec := { name := "recorderRecords", fn := fun _ => fun
  | [d1, d2] => { results := [.lit (.bool true)], args := [d1, d2] }
  | _ => none }
def recorderRecordsRow : OpenClaim := { program := "ytcoablindoknpaadoor", sum := "f6f38baaa39882d94695ad7227d2ee1a21a4210a8921f14d80b2d42fe38149af", func := "substation/substationlaw37.RecorderRecords", spec := "recorderRecords", inPlace := ["internal/abi.NoEscape"], named := ["internal/strconv.uint64pow10", "math/bits.deBruijn32tab", "math/bits.deBruijn64tab"], apart := false, laid := [("math/bits.deBruijn32tab", laid_math_bits_deBruijn32tab), ("math/bits.deBruijn64tab", laid_math_bits_deBruijn64tab), ("internal/strconv.uint64pow10", laid_internal_strconv_uint64pow10)] }
def RecorderRecordsSaid : Prop := recorderRecordsRow.holds Tryd.pinned (OpenSpec.ofChange recorderRecordsSpec)

/-- ITS FALSE NEIGHBOUR: 'it returns false'. Refute it at one input. -/
def recorderRecordsWrong : ChangeSpec := { name := "recorderRecords", fn := fun _ => fun
  | [d1, d2] => { results := [.lit (.bool false)], args := [d1, d2] }
  | _ => none }
def RecorderRecordsWrongFalsely : Prop := recorderRecordsRow.holds Tryd.pinned (OpenSpec.ofChange recorderRecordsWrong)

/-- 'substationlaw37.RecorderKeepsLast': WHATEVER THE INPUT: true; the input reads as it did. -/
def recorderKeepsLastSpec : ChangeSpec := { name := "recorderKeepsLast", fn := fun _ => fun
  | [d1, d2] => { results := [.lit (.bool true)], args := [d1, d2] }
  | _ => none }
def recorderKeepsLastRow : OpenClaim := { program := "ytcoablindoknpaadoor", sum := "f6f38baaa39882d94695ad7227d2ee1a21a4210a8921f14d80b2d42fe38149af", func := "substation/substationlaw37.RecorderKeepsLast", spec := "recorderKeepsLast", inPlace := ["internal/abi.NoEscape"], named := ["internal/strconv.uint64pow10", "math/bits.deBruijn32tab", "math/bits.deBruijn64tab"], apart := false, laid := [("math/bits.deBruijn32tab", laid_math_bits_deBruijn32tab), ("math/bits.deBruijn64tab", laid_math_bits_deBruijn64tab), ("internal/strconv.uint64pow10", laid_internal_strconv_uint64pow10)] }
def RecorderKeepsLastSaid : Prop := recorderKeepsLastRow.holds Tryd.pinned (OpenSpec.ofChange recorderKeepsLastSpec)

/-- ITS FALSE NEIGHBOUR: 'it returns false'. Refute it at one input. -/
def recorderKeepsLastWrong : ChangeSpec := { name := "recorderKeepsLast", fn := fun _ => fun
  | [d1, d2] => { results := [.lit (.bool false)], args := [d1, d2] }
  | _ => none }
def RecorderKeepsLastWrongFalsely : Prop := recorderKeepsLastRow.holds Tryd.pinned (OpenSpec.ofChange recorderKeepsLastWrong)

/-- 'substationlaw37.RecorderChanges': WHATEVER THE INPUT: true; the input reads as it did. -/
def recorderChangesSpec : ChangeSpec := { name := "recorderChanges", fn := fun _ => fun
  | [d1, d2, d3] => { results := [.lit (.bool true)], args := [d1, d2, d3] }
  | _ => none }
def recorderChangesRow : OpenClaim := { program := "ytcoablindoknpaadoor", sum := "f6f38baaa39882d94695ad7227d2ee1a21a4210a8921f14d80b2d42fe38149af", func := "substation/substationlaw37.RecorderChanges", spec := "recorderChanges", inPlace := ["internal/abi.NoEscape"], named := ["internal/strconv.uint64pow10", "math/bits.deBruijn32tab", "math/bits.deBruijn64tab"], apart := false, laid := [("math/bits.deBruijn32tab", laid_math_bits_deBruijn32tab), ("math/bits.deBruijn64tab", laid_math_bits_deBruijn64tab), ("internal/strconv.uint64pow10", laid_internal_strconv_uint64pow10)] }
def RecorderChangesSaid : Prop := recorderChangesRow.holds Tryd.pinned (OpenSpec.ofChange recorderChangesSpec)

/-- ITS FALSE NEIGHBOUR: 'it returns false'. Refute it at one input. -/
def recorderChangesWrong : ChangeSpec := { name := "recorderChanges", fn := fun _ => fun
  | [d1, d2, d3] => { results := [.lit (.bool false)], args := [d1, d2, d3] }
  | _ => none }
def RecorderChangesWrongFalsely : Prop := recorderChangesRow.holds Tryd.pinned (OpenSpec.ofChange recorderChangesWrong)

/-- 'substationlaw37.RecorderFormats': WHATEVER THE INPUT: true; the input reads as it did. -/
def recorderFormatsSpec : ChangeSpec := { name := "recorderFormats", fn := fun _ => fun
  | [d] => { results := [.lit (.bool true)], args := [d] }
  | _ => none }
def recorderFormatsRow : OpenClaim := { program := "ytcoablindoknpaadoor", sum := "f6f38baaa39882d94695ad7227d2ee1a21a4210a8921f14d80b2d42fe38149af", func := "substation/substationlaw37.RecorderFormats", spec := "recorderFormats", inPlace := ["internal/abi.NoEscape", "internal/bytealg.IndexByteString", "internal/bytealg.IndexString"], recurses := true, named := ["internal/strconv.uint64pow10", "math/bits.deBruijn32tab", "math/bits.deBruijn64tab", "internal/bytealg.MaxLen"], apart := false, laid := [("math/bits.deBruijn32tab", laid_math_bits_deBruijn32tab), ("math/bits.deBruijn64tab", laid_math_bits_deBruijn64tab), ("internal/strconv.uint64pow10", laid_internal_strconv_uint64pow10)] }
def RecorderFormatsSaid : Prop := recorderFormatsRow.holds Tryd.pinned (OpenSpec.ofChange recorderFormatsSpec)

/-- ITS FALSE NEIGHBOUR: 'it returns false'. Refute it at one input. -/
def recorderFormatsWrong : ChangeSpec := { name := "recorderFormats", fn := fun _ => fun
  | [d] => { results := [.lit (.bool false)], args := [d] }
  | _ => none }
def RecorderFormatsWrongFalsely : Prop := recorderFormatsRow.holds Tryd.pinned (OpenSpec.ofChange recorderFormatsWrong)

/-- 'substationlaw37.RecorderParses': WHATEVER THE INPUT: true; the input reads as it did. -/
def recorderParsesSpec : ChangeSpec := { name := "recorderParses", fn := fun _ => fun
  | [d] => { results := [.lit (.bool true)], args := [d] }
  | _ => none }
def recorderParsesRow : OpenClaim := { program := "ytcoablindoknpaadoor", sum := "f6f38baaa39882d94695ad7227d2ee1a21a4210a8921f14d80b2d42fe38149af", func := "substation/substationlaw37.RecorderParses", spec := "recorderParses", inPlace := ["internal/abi.NoEscape", "internal/bytealg.IndexByteString", "internal/bytealg.IndexString"], recurses := true, named := ["internal/strconv.uint64pow10", "math/bits.deBruijn32tab", "math/bits.deBruijn64tab", "internal/bytealg.MaxLen"], apart := false, laid := [("math/bits.deBruijn32tab", laid_math_bits_deBruijn32tab), ("math/bits.deBruijn64tab", laid_math_bits_deBruijn64tab), ("internal/strconv.uint64pow10", laid_internal_strconv_uint64pow10)] }
def RecorderParsesSaid : Prop := recorderParsesRow.holds Tryd.pinned (OpenSpec.ofChange recorderParsesSpec)

/-- ITS FALSE NEIGHBOUR: 'it returns false'. Refute it at one input. -/
def recorderParsesWrong : ChangeSpec := { name := "recorderParses", fn := fun _ => fun
  | [d] => { results := [.lit (.bool false)], args := [d] }
  | _ => none }
def RecorderParsesWrongFalsely : Prop := recorderParsesRow.holds Tryd.pinned (OpenSpec.ofChange recorderParsesWrong)

/-- 'substationlaw37.RecorderMerges': WHATEVER THE INPUT: true; the input reads as it did. -/
def recorderMergesSpec : ChangeSpec := { name := "recorderMerges", fn := fun _ => fun
  | [d1, d2, d3] => { results := [.lit (.bool true)], args := [d1, d2, d3] }
  | _ => none }
def recorderMergesRow : OpenClaim := { program := "ytcoablindoknpaadoor", sum := "f6f38baaa39882d94695ad7227d2ee1a21a4210a8921f14d80b2d42fe38149af", func := "substation/substationlaw37.RecorderMerges", spec := "recorderMerges", inPlace := ["internal/abi.NoEscape"], unfollowed := true, recurses := true, named := ["internal/strconv.uint64pow10", "math/bits.deBruijn32tab", "math/bits.deBruijn64tab"], apart := false, laid := [("math/bits.deBruijn32tab", laid_math_bits_deBruijn32tab), ("math/bits.deBruijn64tab", laid_math_bits_deBruijn64tab), ("internal/strconv.uint64pow10", laid_internal_strconv_uint64pow10)] }
def RecorderMergesSaid : Prop := recorderMergesRow.holds Tryd.pinned (OpenSpec.ofChange recorderMergesSpec)

/-- ITS FALSE NEIGHBOUR: 'it returns false'. Refute it at one input. -/
def recorderMergesWrong : ChangeSpec := { name := "recorderMerges", fn := fun _ => fun
  | [d1, d2, d3] => { results := [.lit (.bool false)], args := [d1, d2, d3] }
  | _ => none }
def RecorderMergesWrongFalsely : Prop := recorderMergesRow.holds Tryd.pinned (OpenSpec.ofChange recorderMergesWrong)

/-- 'substationlaw37.RecorderExamples': WHATEVER THE INPUT: true; the input reads as it did. -/
def recorderExamplesSpec : ChangeSpec := { name := "recorderExamples", fn := fun _ => fun
  | [] => { results := [.lit (.bool true)], args := [] }
  | _ => none }
def recorderExamplesRow : OpenClaim := { program := "ytcoablindoknpaadoor", sum := "f6f38baaa39882d94695ad7227d2ee1a21a4210a8921f14d80b2d42fe38149af", func := "substation/substationlaw37.RecorderExamples", spec := "recorderExamples", inPlace := ["internal/bytealg.IndexByteString", "internal/bytealg.IndexString", "internal/abi.NoEscape"], unfollowed := true, recurses := true, named := ["internal/bytealg.MaxLen", "internal/strconv.uint64pow10", "math/bits.deBruijn32tab", "math/bits.deBruijn64tab"], apart := false, laid := [("math/bits.deBruijn32tab", laid_math_bits_deBruijn32tab), ("math/bits.deBruijn64tab", laid_math_bits_deBruijn64tab), ("internal/strconv.uint64pow10", laid_internal_strconv_uint64pow10)] }
def RecorderExamplesSaid : Prop := recorderExamplesRow.holds Tryd.pinned (OpenSpec.ofChange recorderExamplesSpec)

/-- ITS FALSE NEIGHBOUR: 'it returns false'. Refute it at one input. -/
def recorderExamplesWrong : ChangeSpec := { name := "recorderExamples", fn := fun _ => fun
  | [] => { results := [.lit (.bool false)], args := [] }
  | _ => none }
def RecorderExamplesWrongFalsely : Prop := recorderExamplesRow.holds Tryd.pinned (OpenSpec.ofChange recorderExamplesWrong)

/-- 'substationlaw37.RecorderReplays': WHATEVER THE INPUT: true; the input reads as it did. -/
def recorderReplaysSpec : ChangeSpec := { name := "recorderReplays", fn := fun _ => fun
  | [d1, d2] => { results := [.lit (.bool true)], args := [d1, d2] }
  | _ => none }
def recorderReplaysRow : OpenClaim := { program := "ytcoablindoknpaadoor", sum := "f6f38baaa39882d94695ad7227d2ee1a21a4210a8921f14d80b2d42fe38149af", func := "substation/substationlaw37.RecorderReplays", spec := "recorderReplays", inPlace := ["internal/abi.NoEscape"], unfollowed := true, recurses := true, named := ["internal/strconv.uint64pow10", "math/bits.deBruijn32tab", "math/bits.deBruijn64tab"], apart := false, laid := [("math/bits.deBruijn32tab", laid_math_bits_deBruijn32tab), ("math/bits.deBruijn64tab", laid_math_bits_deBruijn64tab), ("internal/strconv.uint64pow10", laid_internal_strconv_uint64pow10)] }
def RecorderReplaysSaid : Prop := recorderReplaysRow.holds Tryd.pinned (OpenSpec.ofChange recorderReplaysSpec)

/-- ITS FALSE NEIGHBOUR: 'it returns false'. Refute it at one input. -/
def recorderReplaysWrong : ChangeSpec := { name := "recorderReplays", fn := fun _ => fun
  | [d1, d2] => { results := [.lit (.bool false)], args := [d1, d2] }
  | _ => none }
def RecorderReplaysWrongFalsely : Prop := recorderReplaysRow.holds Tryd.pinned (OpenSpec.ofChange recorderReplaysWrong)

/- THE SECOND FORM. 'bulk': how many values and letters a reading holds, each counted each time it is reached (what is shared counts as often as it is met; a slice's spare places count too). A statement '..UptoSaid' is the law's where the arguments, and the package variables that the reading takes, are together of bulk at most 1048576: NARROWER than '..Said'. Prove '..Said' where nothing that the law and all that it calls make is longer than what came in: it says more and counts as full. Else prove '..UptoSaid'. A law counts once. -/
mutual
def uptoBulk {H : Type} : DataW H → Nat
  | .lit (.string bytes) => bytes.length + 1
  | .lit _ => 1
  | .nil => 1
  | .ptr d => uptoBulk d + 1
  | .slice elems spare => uptoBulkAll elems + uptoBulkAll spare + 1
  | .agg parts => uptoBulkAll parts + 1
  | .iface _ d => uptoBulk d + 1
  | .map entries => uptoBulkEntries entries + 1
  | .held _ => 1
def uptoBulkAll {H : Type} : List (DataW H) → Nat
  | [] => 0
  | d :: r => uptoBulk d + uptoBulkAll r
def uptoBulkEntries {H : Type} : List (Lit × DataW H) → Nat
  | [] => 0
  | x :: r => uptoBulkEntry x + uptoBulkEntries r
def uptoBulkEntry {H : Type} : Lit × DataW H → Nat
  | (.string bytes, d) => bytes.length + uptoBulk d + 1
  | (_, d) => uptoBulk d + 1
 end
def uptoSmall : (H : Type) → List (DataW H) → Bool := fun _ ds => decide (uptoBulkAll ds ≤ 1048576)
def OpenSpec.upto (s : _root_.Go.ChangeSpec) : _root_.Go.OpenSpec := { _root_.Go.OpenSpec.ofChange s with cond := some uptoSmall }

/-- 'substationlaw37.RecorderRecords', WHERE WHAT IT READS IS OF BULK AT MOST 1048576: true; the input reads as it did. -/
def recorderRecordsUptoRow : OpenClaim := { program := "ytcoablindoknpaadoor", sum := "f6f38baaa39882d94695ad7227d2ee1a21a4210a8921f14d80b2d42fe38149af", func := "substation/substationlaw37.RecorderRecords", spec := "recorderRecords", inPlace := ["internal/abi.NoEscape"], named := ["internal/strconv.uint64pow10", "math/bits.deBruijn32tab", "math/bits.deBruijn64tab"], apart := false, laid := [("math/bits.deBruijn32tab", laid_math_bits_deBruijn32tab), ("math/bits.deBruijn64tab", laid_math_bits_deBruijn64tab), ("internal/strconv.uint64pow10", laid_internal_strconv_uint64pow10)], narrowed := true }
def RecorderRecordsUptoSaid : Prop := recorderRecordsUptoRow.holds Tryd.pinned (OpenSpec.upto recorderRecordsSpec)

/-- 'substationlaw37.RecorderKeepsLast', WHERE WHAT IT READS IS OF BULK AT MOST 1048576: true; the input reads as it did. -/
def recorderKeepsLastUptoRow : OpenClaim := { program := "ytcoablindoknpaadoor", sum := "f6f38baaa39882d94695ad7227d2ee1a21a4210a8921f14d80b2d42fe38149af", func := "substation/substationlaw37.RecorderKeepsLast", spec := "recorderKeepsLast", inPlace := ["internal/abi.NoEscape"], named := ["internal/strconv.uint64pow10", "math/bits.deBruijn32tab", "math/bits.deBruijn64tab"], apart := false, laid := [("math/bits.deBruijn32tab", laid_math_bits_deBruijn32tab), ("math/bits.deBruijn64tab", laid_math_bits_deBruijn64tab), ("internal/strconv.uint64pow10", laid_internal_strconv_uint64pow10)], narrowed := true }
def RecorderKeepsLastUptoSaid : Prop := recorderKeepsLastUptoRow.holds Tryd.pinned (OpenSpec.upto recorderKeepsLastSpec)

/-- 'substationlaw37.RecorderChanges', WHERE WHAT IT READS IS OF BULK AT MOST 1048576: true; the input reads as it did. -/
def recorderChangesUptoRow : OpenClaim := { program := "ytcoablindoknpaadoor", sum := "f6f38baaa39882d94695ad7227d2ee1a21a4210a8921f14d80b2d42fe38149af", func := "substation/substationlaw37.RecorderChanges", spec := "recorderChanges", inPlace := ["internal/abi.NoEscape"], named := ["internal/strconv.uint64pow10", "math/bits.deBruijn32tab", "math/bits.deBruijn64tab"], apart := false, laid := [("math/bits.deBruijn32tab", laid_math_bits_deBruijn32tab), ("math/bits.deBruijn64tab", laid_math_bits_deBruijn64tab), ("internal/strconv.uint64pow10", laid_internal_strconv_uint64pow10)], narrowed := true }
def RecorderChangesUptoSaid : Prop := recorderChangesUptoRow.holds Tryd.pinned (OpenSpec.upto recorderChangesSpec)

/-- 'substationlaw37.RecorderFormats', WHERE WHAT IT READS IS OF BULK AT MOST 1048576: true; the input reads as it did. -/
def recorderFormatsUptoRow : OpenClaim := { program := "ytcoablindoknpaadoor", sum := "f6f38baaa39882d94695ad7227d2ee1a21a4210a8921f14d80b2d42fe38149af", func := "substation/substationlaw37.RecorderFormats", spec := "recorderFormats", inPlace := ["internal/abi.NoEscape", "internal/bytealg.IndexByteString", "internal/bytealg.IndexString"], recurses := true, named := ["internal/strconv.uint64pow10", "math/bits.deBruijn32tab", "math/bits.deBruijn64tab", "internal/bytealg.MaxLen"], apart := false, laid := [("math/bits.deBruijn32tab", laid_math_bits_deBruijn32tab), ("math/bits.deBruijn64tab", laid_math_bits_deBruijn64tab), ("internal/strconv.uint64pow10", laid_internal_strconv_uint64pow10)], narrowed := true }
def RecorderFormatsUptoSaid : Prop := recorderFormatsUptoRow.holds Tryd.pinned (OpenSpec.upto recorderFormatsSpec)

/-- 'substationlaw37.RecorderParses', WHERE WHAT IT READS IS OF BULK AT MOST 1048576: true; the input reads as it did. -/
def recorderParsesUptoRow : OpenClaim := { program := "ytcoablindoknpaadoor", sum := "f6f38baaa39882d94695ad7227d2ee1a21a4210a8921f14d80b2d42fe38149af", func := "substation/substationlaw37.RecorderParses", spec := "recorderParses", inPlace := ["internal/abi.NoEscape", "internal/bytealg.IndexByteString", "internal/bytealg.IndexString"], recurses := true, named := ["internal/strconv.uint64pow10", "math/bits.deBruijn32tab", "math/bits.deBruijn64tab", "internal/bytealg.MaxLen"], apart := false, laid := [("math/bits.deBruijn32tab", laid_math_bits_deBruijn32tab), ("math/bits.deBruijn64tab", laid_math_bits_deBruijn64tab), ("internal/strconv.uint64pow10", laid_internal_strconv_uint64pow10)], narrowed := true }
def RecorderParsesUptoSaid : Prop := recorderParsesUptoRow.holds Tryd.pinned (OpenSpec.upto recorderParsesSpec)

/-- 'substationlaw37.RecorderMerges', WHERE WHAT IT READS IS OF BULK AT MOST 1048576: true; the input reads as it did. -/
def recorderMergesUptoRow : OpenClaim := { program := "ytcoablindoknpaadoor", sum := "f6f38baaa39882d94695ad7227d2ee1a21a4210a8921f14d80b2d42fe38149af", func := "substation/substationlaw37.RecorderMerges", spec := "recorderMerges", inPlace := ["internal/abi.NoEscape"], unfollowed := true, recurses := true, named := ["internal/strconv.uint64pow10", "math/bits.deBruijn32tab", "math/bits.deBruijn64tab"], apart := false, laid := [("math/bits.deBruijn32tab", laid_math_bits_deBruijn32tab), ("math/bits.deBruijn64tab", laid_math_bits_deBruijn64tab), ("internal/strconv.uint64pow10", laid_internal_strconv_uint64pow10)], narrowed := true }
def RecorderMergesUptoSaid : Prop := recorderMergesUptoRow.holds Tryd.pinned (OpenSpec.upto recorderMergesSpec)

/-- 'substationlaw37.RecorderExamples', WHERE WHAT IT READS IS OF BULK AT MOST 1048576: true; the input reads as it did. -/
def recorderExamplesUptoRow : OpenClaim := { program := "ytcoablindoknpaadoor", sum := "f6f38baaa39882d94695ad7227d2ee1a21a4210a8921f14d80b2d42fe38149af", func := "substation/substationlaw37.RecorderExamples", spec := "recorderExamples", inPlace := ["internal/bytealg.IndexByteString", "internal/bytealg.IndexString", "internal/abi.NoEscape"], unfollowed := true, recurses := true, named := ["internal/bytealg.MaxLen", "internal/strconv.uint64pow10", "math/bits.deBruijn32tab", "math/bits.deBruijn64tab"], apart := false, laid := [("math/bits.deBruijn32tab", laid_math_bits_deBruijn32tab), ("math/bits.deBruijn64tab", laid_math_bits_deBruijn64tab), ("internal/strconv.uint64pow10", laid_internal_strconv_uint64pow10)], narrowed := true }
def RecorderExamplesUptoSaid : Prop := recorderExamplesUptoRow.holds Tryd.pinned (OpenSpec.upto recorderExamplesSpec)

/-- 'substationlaw37.RecorderReplays', WHERE WHAT IT READS IS OF BULK AT MOST 1048576: true; the input reads as it did. -/
def recorderReplaysUptoRow : OpenClaim := { program := "ytcoablindoknpaadoor", sum := "f6f38baaa39882d94695ad7227d2ee1a21a4210a8921f14d80b2d42fe38149af", func := "substation/substationlaw37.RecorderReplays", spec := "recorderReplays", inPlace := ["internal/abi.NoEscape"], unfollowed := true, recurses := true, named := ["internal/strconv.uint64pow10", "math/bits.deBruijn32tab", "math/bits.deBruijn64tab"], apart := false, laid := [("math/bits.deBruijn32tab", laid_math_bits_deBruijn32tab), ("math/bits.deBruijn64tab", laid_math_bits_deBruijn64tab), ("internal/strconv.uint64pow10", laid_internal_strconv_uint64pow10)], narrowed := true }
def RecorderReplaysUptoSaid : Prop := recorderReplaysUptoRow.holds Tryd.pinned (OpenSpec.upto recorderReplaysSpec)

end Rows
end Go.Proofs.YtcoablindoknpaaDoor
