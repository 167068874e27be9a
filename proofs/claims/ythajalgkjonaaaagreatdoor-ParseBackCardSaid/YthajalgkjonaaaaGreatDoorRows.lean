/-
  NARROWER THAN 'FOR EVERY INPUT', by the rows' own cells (each row's printed sentence says how): ParseBack: laid · ParseExprs: laid · ParseSplits: laid · ParseEnds: laid · ParseBlanks: laid.
  DERIVED. THE GIVEN ROWS OF THIS SEAT. 5 by the template 'for every input the law returns true; each argument reads behind the call as it read before'; 0 by the template 'total and deterministic' (their statements: YthajalgkjonaaaaGreatDoorTotals.lean).
  GIVEN WITH THE SEED: the statements are not yours to turn. If you find one false, say at which input.
  Laid BY PROGRAM, IN A SANDBOX (cutbox-rows.mjs): the forced cells as the released guide's own fill.sh prints them over the translation 5ef1c76c055bb9ae… (all of the seat's roots in one cut). By AI agents, Wed Nov 11 2026. No macro, syntax, notation, axiom, sorry.
-/
import Derived.Test.YthajalgkjonaaaaGreatDoorChecked
import GoSem.Claim
import GoSem.ClaimJoined
import GoSem.ClaimMapViews
import Derived.JoinedTies
import Derived.KernelRfl
namespace Go.Proofs.YthajalgkjonaaaaGreatDoor
/- THE CELL 'sum', in the pinned program and in every row, IS THE sha256 OF THE DUMP (.gsa) THAT YthajalgkjonaaaaGreatDoorProg.lean LOADS. Nothing in Lean hashes anything: it is a label: what it is worth is what the hold of that sum in a sandbox is worth. -/
noncomputable def Tryz.pinned : Pinned := { name := "ythajalgkjonaaaagreatdoor", sum := "5ef1c76c055bb9aeab0177cb66cd6bdb6dab150e32598494d67c2656ba4c9707", checked := Tryz.checked }
namespace Rows
def none {H : Type} : Left H := { results := [], args := [] }

/- WHAT THE LISTED PACKAGE-LEVEL VARIABLES READ AS WHEN THE CALL BEGINS. Each datum BY PROGRAM (the guide's laid-datum.mjs) off the statement by which the dump's own 'gosem.cut.vars' lays the variable. In a bare row this is a premise. The card (YthajalgkjonaaaaGreatDoorCards.lean) ties it to the program's text. -/
def laid_math_bits_deBruijn32tab {H : Type} : DataW H := .agg [.lit (.int .u8 0), .lit (.int .u8 1), .lit (.int .u8 28), .lit (.int .u8 2), .lit (.int .u8 29), .lit (.int .u8 14), .lit (.int .u8 24), .lit (.int .u8 3), .lit (.int .u8 30), .lit (.int .u8 22), .lit (.int .u8 20), .lit (.int .u8 15), .lit (.int .u8 25), .lit (.int .u8 17), .lit (.int .u8 4), .lit (.int .u8 8), .lit (.int .u8 31), .lit (.int .u8 27), .lit (.int .u8 13), .lit (.int .u8 23), .lit (.int .u8 21), .lit (.int .u8 19), .lit (.int .u8 16), .lit (.int .u8 7), .lit (.int .u8 26), .lit (.int .u8 12), .lit (.int .u8 18), .lit (.int .u8 6), .lit (.int .u8 11), .lit (.int .u8 5), .lit (.int .u8 10), .lit (.int .u8 9)]
def laid_math_bits_deBruijn64tab {H : Type} : DataW H := .agg [.lit (.int .u8 0), .lit (.int .u8 1), .lit (.int .u8 56), .lit (.int .u8 2), .lit (.int .u8 57), .lit (.int .u8 49), .lit (.int .u8 28), .lit (.int .u8 3), .lit (.int .u8 61), .lit (.int .u8 58), .lit (.int .u8 42), .lit (.int .u8 50), .lit (.int .u8 38), .lit (.int .u8 29), .lit (.int .u8 17), .lit (.int .u8 4), .lit (.int .u8 62), .lit (.int .u8 47), .lit (.int .u8 59), .lit (.int .u8 36), .lit (.int .u8 45), .lit (.int .u8 43), .lit (.int .u8 51), .lit (.int .u8 22), .lit (.int .u8 53), .lit (.int .u8 39), .lit (.int .u8 33), .lit (.int .u8 30), .lit (.int .u8 24), .lit (.int .u8 18), .lit (.int .u8 12), .lit (.int .u8 5), .lit (.int .u8 63), .lit (.int .u8 55), .lit (.int .u8 48), .lit (.int .u8 27), .lit (.int .u8 60), .lit (.int .u8 41), .lit (.int .u8 37), .lit (.int .u8 16), .lit (.int .u8 46), .lit (.int .u8 35), .lit (.int .u8 44), .lit (.int .u8 21), .lit (.int .u8 52), .lit (.int .u8 32), .lit (.int .u8 23), .lit (.int .u8 11), .lit (.int .u8 54), .lit (.int .u8 26), .lit (.int .u8 40), .lit (.int .u8 15), .lit (.int .u8 34), .lit (.int .u8 20), .lit (.int .u8 31), .lit (.int .u8 10), .lit (.int .u8 25), .lit (.int .u8 14), .lit (.int .u8 19), .lit (.int .u8 9), .lit (.int .u8 13), .lit (.int .u8 8), .lit (.int .u8 7), .lit (.int .u8 6)]
def laid_internal_strconv_uint64pow10 {H : Type} : DataW H := .agg [.lit (.int .u64 1), .lit (.int .u64 10), .lit (.int .u64 100), .lit (.int .u64 1000), .lit (.int .u64 10000), .lit (.int .u64 100000), .lit (.int .u64 1000000), .lit (.int .u64 10000000), .lit (.int .u64 100000000), .lit (.int .u64 1000000000), .lit (.int .u64 10000000000), .lit (.int .u64 100000000000), .lit (.int .u64 1000000000000), .lit (.int .u64 10000000000000), .lit (.int .u64 100000000000000), .lit (.int .u64 1000000000000000), .lit (.int .u64 10000000000000000), .lit (.int .u64 100000000000000000), .lit (.int .u64 1000000000000000000), .lit (.int .u64 10000000000000000000)]
def laid_lfcheck_lfcheckmade_words {H : Type} : DataW H := .slice [.lit (.string [97]), .lit (.string [98]), .lit (.string [78]), .lit (.string [77]), .lit (.string [43]), .lit (.string [42]), .lit (.string [126]), .lit (.string [33]), .lit (.string [110, 97, 116]), .lit (.string [102]), .lit (.string [64, 120]), .lit (.string [116, 121, 112, 101]), .lit (.string [])] []
def laid_lfcheck_lfchecklaw04_pieces {H : Type} : DataW H := .slice [.lit (.string [97]), .lit (.string [98]), .lit (.string [78]), .lit (.string [58]), .lit (.string [46]), .lit (.string [45, 62]), .lit (.string [60, 45]), .lit (.string [61]), .lit (.string [116, 121, 112, 101]), .lit (.string [95]), .lit (.string [40]), .lit (.string [41]), .lit (.string [123, 120, 58, 97, 125]), .lit (.string [91, 120, 93]), .lit (.string [91, 121, 58, 98, 93]), .lit (.string [123]), .lit (.string [125]), .lit (.string [91]), .lit (.string [93]), .lit (.string [43]), .lit (.string [42]), .lit (.string [64, 97]), .lit (.string [37, 105, 110, 102, 105, 120, 32, 108, 101, 102, 116, 32, 53, 32, 43, 46]), .lit (.string [37, 105, 110, 102, 105, 120, 32, 114, 105, 103, 104, 116, 32, 53, 32, 42, 46]), .lit (.string [37, 112, 114, 101, 102, 105, 120, 32, 57, 32, 126, 46]), .lit (.string [126]), .lit (.string [37, 109, 111, 100, 101]), .lit (.string [37, 119, 111, 114, 108, 100, 115]), .lit (.string [37, 98, 108, 111, 99, 107]), .lit (.string [115, 111, 109, 101]), .lit (.string [98, 108, 111, 99, 107]), .lit (.string [124]), .lit (.string [37, 116, 111, 116, 97, 108]), .lit (.string [37, 113, 117, 101, 114, 121]), .lit (.string [37, 99, 111, 118, 101, 114, 115]), .lit (.string [37, 114, 101, 100, 117, 99, 101, 115]), .lit (.string [37, 117, 110, 105, 113, 117, 101]), .lit (.string [37, 115, 116, 114, 105, 99, 116]), .lit (.string [37, 116, 101, 114, 109, 105, 110, 97, 116, 101, 115]), .lit (.string [60]), .lit (.string [60, 61]), .lit (.string [48]), .lit (.string [49]), .lit (.string [49, 50]), .lit (.string [48, 54, 53]), .lit (.string [54, 53]), .lit (.string [37, 102, 111, 111]), .lit (.string [45]), .lit (.string [37, 112, 111, 115, 116, 102, 105, 120, 32, 49, 48, 48, 32, 33, 46]), .lit (.string [37, 123, 32, 99, 32, 125, 37]), .lit (.string [97, 32, 58, 32, 98, 46]), .lit (.string [99, 32, 61, 32, 97, 46])] []

/-- 'lfchecklaw04.ParseBack': WHATEVER THE INPUT: true; the input reads as it did. -/
def parseBackSpec : ChangeSpec := { name := "parseBack", fn := fun _ => fun
  | [d] => { results := [.lit (.bool true)], args := [d] }
  | _ => none }
def parseBackRow : OpenClaim := { program := "ythajalgkjonaaaagreatdoor", sum := "5ef1c76c055bb9aeab0177cb66cd6bdb6dab150e32598494d67c2656ba4c9707", func := "lfcheck/lfchecklaw04.ParseBack", spec := "parseBack", inPlace := ["internal/bytealg.IndexByteString", "internal/abi.NoEscape", "internal/bytealg.MakeNoZero"], unfollowed := true, recurses := true, named := ["lfcheck/lfcheckmade.words", "internal/strconv.uint64pow10", "math/bits.deBruijn32tab", "math/bits.deBruijn64tab"], apart := false, laid := [("math/bits.deBruijn32tab", laid_math_bits_deBruijn32tab), ("math/bits.deBruijn64tab", laid_math_bits_deBruijn64tab), ("internal/strconv.uint64pow10", laid_internal_strconv_uint64pow10), ("lfcheck/lfcheckmade.words", laid_lfcheck_lfcheckmade_words)] }
def ParseBackSaid : Prop := parseBackRow.holds Tryz.pinned (OpenSpec.ofChange parseBackSpec)

/-- ITS FALSE NEIGHBOUR: 'it returns false'. Refute it at one input. -/
def parseBackWrong : ChangeSpec := { name := "parseBack", fn := fun _ => fun
  | [d] => { results := [.lit (.bool false)], args := [d] }
  | _ => none }
def ParseBackWrongFalsely : Prop := parseBackRow.holds Tryz.pinned (OpenSpec.ofChange parseBackWrong)

/-- 'lfchecklaw04.ParseExprs': WHATEVER THE INPUT: true; the input reads as it did. -/
def parseExprsSpec : ChangeSpec := { name := "parseExprs", fn := fun _ => fun
  | [d1, d2] => { results := [.lit (.bool true)], args := [d1, d2] }
  | _ => none }
def parseExprsRow : OpenClaim := { program := "ythajalgkjonaaaagreatdoor", sum := "5ef1c76c055bb9aeab0177cb66cd6bdb6dab150e32598494d67c2656ba4c9707", func := "lfcheck/lfchecklaw04.ParseExprs", spec := "parseExprs", inPlace := ["internal/bytealg.IndexByteString", "internal/abi.NoEscape", "internal/bytealg.MakeNoZero"], unfollowed := true, recurses := true, named := ["lfcheck/lfcheckmade.words", "internal/strconv.uint64pow10", "math/bits.deBruijn32tab", "math/bits.deBruijn64tab"], apart := false, laid := [("math/bits.deBruijn32tab", laid_math_bits_deBruijn32tab), ("math/bits.deBruijn64tab", laid_math_bits_deBruijn64tab), ("internal/strconv.uint64pow10", laid_internal_strconv_uint64pow10), ("lfcheck/lfcheckmade.words", laid_lfcheck_lfcheckmade_words)] }
def ParseExprsSaid : Prop := parseExprsRow.holds Tryz.pinned (OpenSpec.ofChange parseExprsSpec)

/-- ITS FALSE NEIGHBOUR: 'it returns false'. Refute it at one input. -/
def parseExprsWrong : ChangeSpec := { name := "parseExprs", fn := fun _ => fun
  | [d1, d2] => { results := [.lit (.bool false)], args := [d1, d2] }
  | _ => none }
def ParseExprsWrongFalsely : Prop := parseExprsRow.holds Tryz.pinned (OpenSpec.ofChange parseExprsWrong)

/-- 'lfchecklaw04.ParseSplits': WHATEVER THE INPUT: true; the input reads as it did. -/
def parseSplitsSpec : ChangeSpec := { name := "parseSplits", fn := fun _ => fun
  | [d1, d2] => { results := [.lit (.bool true)], args := [d1, d2] }
  | _ => none }
def parseSplitsRow : OpenClaim := { program := "ythajalgkjonaaaagreatdoor", sum := "5ef1c76c055bb9aeab0177cb66cd6bdb6dab150e32598494d67c2656ba4c9707", func := "lfcheck/lfchecklaw04.ParseSplits", spec := "parseSplits", inPlace := ["internal/bytealg.IndexByteString", "internal/abi.NoEscape", "internal/bytealg.MakeNoZero"], unfollowed := true, recurses := true, named := ["lfcheck/lfchecklaw04.pieces", "internal/strconv.uint64pow10", "math/bits.deBruijn32tab", "math/bits.deBruijn64tab"], apart := false, laid := [("math/bits.deBruijn32tab", laid_math_bits_deBruijn32tab), ("math/bits.deBruijn64tab", laid_math_bits_deBruijn64tab), ("internal/strconv.uint64pow10", laid_internal_strconv_uint64pow10), ("lfcheck/lfchecklaw04.pieces", laid_lfcheck_lfchecklaw04_pieces)] }
def ParseSplitsSaid : Prop := parseSplitsRow.holds Tryz.pinned (OpenSpec.ofChange parseSplitsSpec)

/-- ITS FALSE NEIGHBOUR: 'it returns false'. Refute it at one input. -/
def parseSplitsWrong : ChangeSpec := { name := "parseSplits", fn := fun _ => fun
  | [d1, d2] => { results := [.lit (.bool false)], args := [d1, d2] }
  | _ => none }
def ParseSplitsWrongFalsely : Prop := parseSplitsRow.holds Tryz.pinned (OpenSpec.ofChange parseSplitsWrong)

/-- 'lfchecklaw04.ParseEnds': WHATEVER THE INPUT: true; the input reads as it did. -/
def parseEndsSpec : ChangeSpec := { name := "parseEnds", fn := fun _ => fun
  | [d1, d2] => { results := [.lit (.bool true)], args := [d1, d2] }
  | _ => none }
def parseEndsRow : OpenClaim := { program := "ythajalgkjonaaaagreatdoor", sum := "5ef1c76c055bb9aeab0177cb66cd6bdb6dab150e32598494d67c2656ba4c9707", func := "lfcheck/lfchecklaw04.ParseEnds", spec := "parseEnds", inPlace := ["internal/bytealg.IndexByteString", "internal/abi.NoEscape", "internal/bytealg.MakeNoZero"], unfollowed := true, recurses := true, named := ["internal/strconv.uint64pow10", "math/bits.deBruijn32tab", "math/bits.deBruijn64tab"], apart := false, laid := [("math/bits.deBruijn32tab", laid_math_bits_deBruijn32tab), ("math/bits.deBruijn64tab", laid_math_bits_deBruijn64tab), ("internal/strconv.uint64pow10", laid_internal_strconv_uint64pow10)] }
def ParseEndsSaid : Prop := parseEndsRow.holds Tryz.pinned (OpenSpec.ofChange parseEndsSpec)

/-- ITS FALSE NEIGHBOUR: 'it returns false'. Refute it at one input. -/
def parseEndsWrong : ChangeSpec := { name := "parseEnds", fn := fun _ => fun
  | [d1, d2] => { results := [.lit (.bool false)], args := [d1, d2] }
  | _ => none }
def ParseEndsWrongFalsely : Prop := parseEndsRow.holds Tryz.pinned (OpenSpec.ofChange parseEndsWrong)

/-- 'lfchecklaw04.ParseBlanks': WHATEVER THE INPUT: true; the input reads as it did. -/
def parseBlanksSpec : ChangeSpec := { name := "parseBlanks", fn := fun _ => fun
  | [d1, d2] => { results := [.lit (.bool true)], args := [d1, d2] }
  | _ => none }
def parseBlanksRow : OpenClaim := { program := "ythajalgkjonaaaagreatdoor", sum := "5ef1c76c055bb9aeab0177cb66cd6bdb6dab150e32598494d67c2656ba4c9707", func := "lfcheck/lfchecklaw04.ParseBlanks", spec := "parseBlanks", inPlace := ["internal/bytealg.IndexByteString", "internal/abi.NoEscape", "internal/bytealg.MakeNoZero"], unfollowed := true, recurses := true, named := ["internal/strconv.uint64pow10", "math/bits.deBruijn32tab", "math/bits.deBruijn64tab"], apart := false, laid := [("math/bits.deBruijn32tab", laid_math_bits_deBruijn32tab), ("math/bits.deBruijn64tab", laid_math_bits_deBruijn64tab), ("internal/strconv.uint64pow10", laid_internal_strconv_uint64pow10)] }
def ParseBlanksSaid : Prop := parseBlanksRow.holds Tryz.pinned (OpenSpec.ofChange parseBlanksSpec)

/-- ITS FALSE NEIGHBOUR: 'it returns false'. Refute it at one input. -/
def parseBlanksWrong : ChangeSpec := { name := "parseBlanks", fn := fun _ => fun
  | [d1, d2] => { results := [.lit (.bool false)], args := [d1, d2] }
  | _ => none }
def ParseBlanksWrongFalsely : Prop := parseBlanksRow.holds Tryz.pinned (OpenSpec.ofChange parseBlanksWrong)

/- THE SECOND FORM. 'bulk': how many values and letters a reading holds, each counted each time it is reached (what is shared counts as often as it is met; a slice's spare places count too). A statement '..UptoSaid' is the law's where the arguments, and the package variables that the reading takes, are together of bulk at most 1048576: NARROWER than '..Said'. Prove '..Said' where nothing that the law and all that it calls make is longer than what came in: it says more and counts as full. Else prove '..UptoSaid'. A law counts once. -/
mutual
def uptoBulk {H : Type} : DataW H → Nat
  | .lit (.string bytes) => bytes.length + 1
  | .lit _ => 1
  | .nil => 1
  | .ptr d => uptoBulk d + 1
  | .slice elems spare => uptoBulkAll elems + uptoBulkAll spare + 1
  | .agg parts => uptoBulkAll parts + 1
  | .iface _ d => uptoBulk d + 1
  | .map entries => uptoBulkEntries entries + 1
  | .held _ => 1
def uptoBulkAll {H : Type} : List (DataW H) → Nat
  | [] => 0
  | d :: r => uptoBulk d + uptoBulkAll r
def uptoBulkEntries {H : Type} : List (Lit × DataW H) → Nat
  | [] => 0
  | x :: r => uptoBulkEntry x + uptoBulkEntries r
def uptoBulkEntry {H : Type} : Lit × DataW H → Nat
  | (.string bytes, d) => bytes.length + uptoBulk d + 1
  | (_, d) => uptoBulk d + 1
 end
def uptoSmall : (H : Type) → List (DataW H) → Bool := fun _ ds => decide (uptoBulkAll ds ≤ 1048576)
def OpenSpec.upto (s : _root_.Go.ChangeSpec) : _root_.Go.OpenSpec := { _root_.Go.OpenSpec.ofChange s with cond := some uptoSmall }

/-- 'lfchecklaw04.ParseBack', WHERE WHAT IT READS IS OF BULK AT MOST 1048576: true; the input reads as it did. -/
def parseBackUptoRow : OpenClaim := { program := "ythajalgkjonaaaagreatdoor", sum := "5ef1c76c055bb9aeab0177cb66cd6bdb6dab150e32598494d67c2656ba4c9707", func := "lfcheck/lfchecklaw04.ParseBack", spec := "parseBack", inPlace := ["internal/bytealg.IndexByteString", "internal/abi.NoEscape", "internal/bytealg.MakeNoZero"], unfollowed := true, recurses := true, named := ["lfcheck/lfcheckmade.words", "internal/strconv.uint64pow10", "math/bits.deBruijn32tab", "math/bits.deBruijn64tab"], apart := false, laid := [("math/bits.deBruijn32tab", laid_math_bits_deBruijn32tab), ("math/bits.deBruijn64tab", laid_math_bits_deBruijn64tab), ("internal/strconv.uint64pow10", laid_internal_strconv_uint64pow10), ("lfcheck/lfcheckmade.words", laid_lfcheck_lfcheckmade_words)], narrowed := true }
def ParseBackUptoSaid : Prop := parseBackUptoRow.holds Tryz.pinned (OpenSpec.upto parseBackSpec)

/-- 'lfchecklaw04.ParseExprs', WHERE WHAT IT READS IS OF BULK AT MOST 1048576: true; the input reads as it did. -/
def parseExprsUptoRow : OpenClaim := { program := "ythajalgkjonaaaagreatdoor", sum := "5ef1c76c055bb9aeab0177cb66cd6bdb6dab150e32598494d67c2656ba4c9707", func := "lfcheck/lfchecklaw04.ParseExprs", spec := "parseExprs", inPlace := ["internal/bytealg.IndexByteString", "internal/abi.NoEscape", "internal/bytealg.MakeNoZero"], unfollowed := true, recurses := true, named := ["lfcheck/lfcheckmade.words", "internal/strconv.uint64pow10", "math/bits.deBruijn32tab", "math/bits.deBruijn64tab"], apart := false, laid := [("math/bits.deBruijn32tab", laid_math_bits_deBruijn32tab), ("math/bits.deBruijn64tab", laid_math_bits_deBruijn64tab), ("internal/strconv.uint64pow10", laid_internal_strconv_uint64pow10), ("lfcheck/lfcheckmade.words", laid_lfcheck_lfcheckmade_words)], narrowed := true }
def ParseExprsUptoSaid : Prop := parseExprsUptoRow.holds Tryz.pinned (OpenSpec.upto parseExprsSpec)

/-- 'lfchecklaw04.ParseSplits', WHERE WHAT IT READS IS OF BULK AT MOST 1048576: true; the input reads as it did. -/
def parseSplitsUptoRow : OpenClaim := { program := "ythajalgkjonaaaagreatdoor", sum := "5ef1c76c055bb9aeab0177cb66cd6bdb6dab150e32598494d67c2656ba4c9707", func := "lfcheck/lfchecklaw04.ParseSplits", spec := "parseSplits", inPlace := ["internal/bytealg.IndexByteString", "internal/abi.NoEscape", "internal/bytealg.MakeNoZero"], unfollowed := true, recurses := true, named := ["lfcheck/lfchecklaw04.pieces", "internal/strconv.uint64pow10", "math/bits.deBruijn32tab", "math/bits.deBruijn64tab"], apart := false, laid := [("math/bits.deBruijn32tab", laid_math_bits_deBruijn32tab), ("math/bits.deBruijn64tab", laid_math_bits_deBruijn64tab), ("internal/strconv.uint64pow10", laid_internal_strconv_uint64pow10), ("lfcheck/lfchecklaw04.pieces", laid_lfcheck_lfchecklaw04_pieces)], narrowed := true }
def ParseSplitsUptoSaid : Prop := parseSplitsUptoRow.holds Tryz.pinned (OpenSpec.upto parseSplitsSpec)

/-- 'lfchecklaw04.ParseEnds', WHERE WHAT IT READS IS OF BULK AT MOST 1048576: true; the input reads as it did. -/
def parseEndsUptoRow : OpenClaim := { program := "ythajalgkjonaaaagreatdoor", sum := "5ef1c76c055bb9aeab0177cb66cd6bdb6dab150e32598494d67c2656ba4c9707", func := "lfcheck/lfchecklaw04.ParseEnds", spec := "parseEnds", inPlace := ["internal/bytealg.IndexByteString", "internal/abi.NoEscape", "internal/bytealg.MakeNoZero"], unfollowed := true, recurses := true, named := ["internal/strconv.uint64pow10", "math/bits.deBruijn32tab", "math/bits.deBruijn64tab"], apart := false, laid := [("math/bits.deBruijn32tab", laid_math_bits_deBruijn32tab), ("math/bits.deBruijn64tab", laid_math_bits_deBruijn64tab), ("internal/strconv.uint64pow10", laid_internal_strconv_uint64pow10)], narrowed := true }
def ParseEndsUptoSaid : Prop := parseEndsUptoRow.holds Tryz.pinned (OpenSpec.upto parseEndsSpec)

/-- 'lfchecklaw04.ParseBlanks', WHERE WHAT IT READS IS OF BULK AT MOST 1048576: true; the input reads as it did. -/
def parseBlanksUptoRow : OpenClaim := { program := "ythajalgkjonaaaagreatdoor", sum := "5ef1c76c055bb9aeab0177cb66cd6bdb6dab150e32598494d67c2656ba4c9707", func := "lfcheck/lfchecklaw04.ParseBlanks", spec := "parseBlanks", inPlace := ["internal/bytealg.IndexByteString", "internal/abi.NoEscape", "internal/bytealg.MakeNoZero"], unfollowed := true, recurses := true, named := ["internal/strconv.uint64pow10", "math/bits.deBruijn32tab", "math/bits.deBruijn64tab"], apart := false, laid := [("math/bits.deBruijn32tab", laid_math_bits_deBruijn32tab), ("math/bits.deBruijn64tab", laid_math_bits_deBruijn64tab), ("internal/strconv.uint64pow10", laid_internal_strconv_uint64pow10)], narrowed := true }
def ParseBlanksUptoSaid : Prop := parseBlanksUptoRow.holds Tryz.pinned (OpenSpec.upto parseBlanksSpec)

end Rows
end Go.Proofs.YthajalgkjonaaaaGreatDoor
