/-
  NARROWER THAN 'FOR EVERY INPUT', by the rows' own cells (each row's printed sentence says how): OperatorResolves: laid · OperatorForms: laid · OperatorAdds: laid.
  DERIVED. THE GIVEN ROWS OF THIS SEAT. 3 by the template 'for every input the law returns true; each argument reads behind the call as it read before'; 0 by the template 'total and deterministic' (their statements: YtkhfnkokdmoipaaDoorTotals.lean).
  GIVEN WITH THE SEED: the statements are not yours to turn. If you find one false, say at which input.
  Laid BY PROGRAM, IN A SANDBOX (cutbox-rows.mjs): the forced cells as the released guide's own fill.sh prints them over the translation 530666a77d4e4a5f… (all of the seat's roots in one cut). By AI agents, Wed Nov 11 2026. No macro, syntax, notation, axiom, sorry.
-/
import Derived.Test.YtkhfnkokdmoipaaDoorChecked
import GoSem.Claim
import GoSem.ClaimJoined
import GoSem.ClaimMapViews
import Derived.JoinedTies
import Derived.KernelRfl
namespace Go.Proofs.YtkhfnkokdmoipaaDoor
/- THE CELL 'sum', in the pinned program and in every row, IS THE sha256 OF THE DUMP (.gsa) THAT YtkhfnkokdmoipaaDoorProg.lean LOADS. Nothing in Lean hashes anything: it is a label: what it is worth is what the hold of that sum in a sandbox is worth. -/
noncomputable def Tryd.pinned : Pinned := { name := "ytkhfnkokdmoipaadoor", sum := "530666a77d4e4a5f2d1dc21da10d518f396464df706fd2de91c5d08f748b7874", checked := Tryd.checked }
namespace Rows
def none {H : Type} : Left H := { results := [], args := [] }

/- WHAT THE LISTED PACKAGE-LEVEL VARIABLES READ AS WHEN THE CALL BEGINS. Each datum BY PROGRAM (the guide's laid-datum.mjs) off the statement by which the dump's own 'gosem.cut.vars' lays the variable. In a bare row this is a premise. The card (YtkhfnkokdmoipaaDoorCards.lean) ties it to the program's text. -/
def laid_lfcheck_lfcheckmade_words {H : Type} : DataW H := .slice [.lit (.string [97]), .lit (.string [98]), .lit (.string [78]), .lit (.string [77]), .lit (.string [43]), .lit (.string [42]), .lit (.string [126]), .lit (.string [33]), .lit (.string [110, 97, 116]), .lit (.string [102]), .lit (.string [64, 120]), .lit (.string [116, 121, 112, 101]), .lit (.string [])] []

/-- 'lfchecklaw03.OperatorResolves': WHATEVER THE INPUT: true; the input reads as it did. -/
def operatorResolvesSpec : ChangeSpec := { name := "operatorResolves", fn := fun _ => fun
  | [d1, d2] => { results := [.lit (.bool true)], args := [d1, d2] }
  | _ => none }
def operatorResolvesRow : OpenClaim := { program := "ytkhfnkokdmoipaadoor", sum := "530666a77d4e4a5f2d1dc21da10d518f396464df706fd2de91c5d08f748b7874", func := "lfcheck/lfchecklaw03.OperatorResolves", spec := "operatorResolves", inPlace := ["internal/bytealg.IndexByteString"], unfollowed := true, recurses := true, named := ["lfcheck/lfcheckmade.words"], apart := false, laid := [("lfcheck/lfcheckmade.words", laid_lfcheck_lfcheckmade_words)] }
def OperatorResolvesSaid : Prop := operatorResolvesRow.holds Tryd.pinned (OpenSpec.ofChange operatorResolvesSpec)

/-- ITS FALSE NEIGHBOUR: 'it returns false'. Refute it at one input. -/
def operatorResolvesWrong : ChangeSpec := { name := "operatorResolves", fn := fun _ => fun
  | [d1, d2] => { results := [.lit (.bool false)], args := [d1, d2] }
  | _ => none }
def OperatorResolvesWrongFalsely : Prop := operatorResolvesRow.holds Tryd.pinned (OpenSpec.ofChange operatorResolvesWrong)

/-- 'lfchecklaw03.OperatorForms': WHATEVER THE INPUT: true; the input reads as it did. -/
def operatorFormsSpec : ChangeSpec := { name := "operatorForms", fn := fun _ => fun
  | [d1, d2, d3] => { results := [.lit (.bool true)], args := [d1, d2, d3] }
  | _ => none }
def operatorFormsRow : OpenClaim := { program := "ytkhfnkokdmoipaadoor", sum := "530666a77d4e4a5f2d1dc21da10d518f396464df706fd2de91c5d08f748b7874", func := "lfcheck/lfchecklaw03.OperatorForms", spec := "operatorForms", inPlace := ["internal/bytealg.IndexByteString"], unfollowed := true, recurses := true, named := ["lfcheck/lfcheckmade.words"], apart := false, laid := [("lfcheck/lfcheckmade.words", laid_lfcheck_lfcheckmade_words)] }
def OperatorFormsSaid : Prop := operatorFormsRow.holds Tryd.pinned (OpenSpec.ofChange operatorFormsSpec)

/-- ITS FALSE NEIGHBOUR: 'it returns false'. Refute it at one input. -/
def operatorFormsWrong : ChangeSpec := { name := "operatorForms", fn := fun _ => fun
  | [d1, d2, d3] => { results := [.lit (.bool false)], args := [d1, d2, d3] }
  | _ => none }
def OperatorFormsWrongFalsely : Prop := operatorFormsRow.holds Tryd.pinned (OpenSpec.ofChange operatorFormsWrong)

/-- 'lfchecklaw03.OperatorAdds': WHATEVER THE INPUT: true; the input reads as it did. -/
def operatorAddsSpec : ChangeSpec := { name := "operatorAdds", fn := fun _ => fun
  | [d1, d2] => { results := [.lit (.bool true)], args := [d1, d2] }
  | _ => none }
def operatorAddsRow : OpenClaim := { program := "ytkhfnkokdmoipaadoor", sum := "530666a77d4e4a5f2d1dc21da10d518f396464df706fd2de91c5d08f748b7874", func := "lfcheck/lfchecklaw03.OperatorAdds", spec := "operatorAdds", inPlace := ["internal/bytealg.IndexByteString"], unfollowed := true, recurses := true, named := ["lfcheck/lfcheckmade.words"], apart := false, laid := [("lfcheck/lfcheckmade.words", laid_lfcheck_lfcheckmade_words)] }
def OperatorAddsSaid : Prop := operatorAddsRow.holds Tryd.pinned (OpenSpec.ofChange operatorAddsSpec)

/-- ITS FALSE NEIGHBOUR: 'it returns false'. Refute it at one input. -/
def operatorAddsWrong : ChangeSpec := { name := "operatorAdds", fn := fun _ => fun
  | [d1, d2] => { results := [.lit (.bool false)], args := [d1, d2] }
  | _ => none }
def OperatorAddsWrongFalsely : Prop := operatorAddsRow.holds Tryd.pinned (OpenSpec.ofChange operatorAddsWrong)

/- THE SECOND FORM. 'bulk': how many values and letters a reading holds, each counted each time it is reached (what is shared counts as often as it is met; a slice's spare places count too). A statement '..UptoSaid' is the law's where the arguments, and the package variables that the reading takes, are together of bulk at most 1048576: NARROWER than '..Said'. Prove '..Said' where nothing that the law and all that it calls make is longer than what came in: it says more and counts as full. Else prove '..UptoSaid'. A law counts once. -/
mutual
def uptoBulk {H : Type} : DataW H → Nat
  | .lit (.string bytes) => bytes.length + 1
  | .lit _ => 1
  | .nil => 1
  | .ptr d => uptoBulk d + 1
  | .slice elems spare => uptoBulkAll elems + uptoBulkAll spare + 1
  | .agg parts => uptoBulkAll parts + 1
  | .iface _ d => uptoBulk d + 1
  | .map entries => uptoBulkEntries entries + 1
  | .held _ => 1
def uptoBulkAll {H : Type} : List (DataW H) → Nat
  | [] => 0
  | d :: r => uptoBulk d + uptoBulkAll r
def uptoBulkEntries {H : Type} : List (Lit × DataW H) → Nat
  | [] => 0
  | x :: r => uptoBulkEntry x + uptoBulkEntries r
def uptoBulkEntry {H : Type} : Lit × DataW H → Nat
  | (.string bytes, d) => bytes.length + uptoBulk d + 1
  | (_, d) => uptoBulk d + 1
 end
def uptoSmall : (H : Type) → List (DataW H) → Bool := fun _ ds => decide (uptoBulkAll ds ≤ 1048576)
def OpenSpec.upto (s : _root_.Go.ChangeSpec) : _root_.Go.OpenSpec := { _root_.Go.OpenSpec.ofChange s with cond := some uptoSmall }

/-- 'lfchecklaw03.OperatorResolves', WHERE WHAT IT READS IS OF BULK AT MOST 1048576: true; the input reads as it did. -/
def operatorResolvesUptoRow : OpenClaim := { program := "ytkhfnkokdmoipaadoor", sum := "530666a77d4e4a5f2d1dc21da10d518f396464df706fd2de91c5d08f748b7874", func := "lfcheck/lfchecklaw03.OperatorResolves", spec := "operatorResolves", inPlace := ["internal/bytealg.IndexByteString"], unfollowed := true, recurses := true, named := ["lfcheck/lfcheckmade.words"], apart := false, laid := [("lfcheck/lfcheckmade.words", laid_lfcheck_lfcheckmade_words)], narrowed := true }
def OperatorResolvesUptoSaid : Prop := operatorResolvesUptoRow.holds Tryd.pinned (OpenSpec.upto operatorResolvesSpec)

/-- 'lfchecklaw03.OperatorForms', WHERE WHAT IT READS IS OF BULK AT MOST 1048576: true; the input reads as it did. -/
def operatorFormsUptoRow : OpenClaim := { program := "ytkhfnkokdmoipaadoor", sum := "530666a77d4e4a5f2d1dc21da10d518f396464df706fd2de91c5d08f748b7874", func := "lfcheck/lfchecklaw03.OperatorForms", spec := "operatorForms", inPlace := ["internal/bytealg.IndexByteString"], unfollowed := true, recurses := true, named := ["lfcheck/lfcheckmade.words"], apart := false, laid := [("lfcheck/lfcheckmade.words", laid_lfcheck_lfcheckmade_words)], narrowed := true }
def OperatorFormsUptoSaid : Prop := operatorFormsUptoRow.holds Tryd.pinned (OpenSpec.upto operatorFormsSpec)

/-- 'lfchecklaw03.OperatorAdds', WHERE WHAT IT READS IS OF BULK AT MOST 1048576: true; the input reads as it did. -/
def operatorAddsUptoRow : OpenClaim := { program := "ytkhfnkokdmoipaadoor", sum := "530666a77d4e4a5f2d1dc21da10d518f396464df706fd2de91c5d08f748b7874", func := "lfcheck/lfchecklaw03.OperatorAdds", spec := "operatorAdds", inPlace := ["internal/bytealg.IndexByteString"], unfollowed := true, recurses := true, named := ["lfcheck/lfcheckmade.words"], apart := false, laid := [("lfcheck/lfcheckmade.words", laid_lfcheck_lfcheckmade_words)], narrowed := true }
def OperatorAddsUptoSaid : Prop := operatorAddsUptoRow.holds Tryd.pinned (OpenSpec.upto operatorAddsSpec)

end Rows
end Go.Proofs.YtkhfnkokdmoipaaDoor
