/-
  DERIVED. GIVEN WITH THE SEED: THE CARDS: each row of YtkhfnkokdmoipaaDoorRows.lean that lists a variable, with what it lists TIED to the program's text (the seventh form; the later family's looks); each row that meets fmt, with fmt's text TOLD by the authors' own Lean function (tested against real Go, not proved from fmt's source: count such statements apart). THE CARD IS WHAT COUNTS. Prove the row's statement (the work); the ties are given (YtkhfnkokdmoipaaDoorTie.lean); close each card by the builder's one call (the guide's Derived/Test/ToyasCard.lean, 'card_holds'). Laid BY PROGRAM, IN A SANDBOX (cutbox-door.mjs). By AI agents, Wed Nov 11 2026. No macro, syntax, notation, axiom, sorry.
-/
import Derived.Test.YtkhfnkokdmoipaaDoorRows
import GoSem.ClaimSeven
namespace Go.Proofs.YtkhfnkokdmoipaaDoor
namespace Rows

/-- THE TIED CARD OF 'lfchecklaw03.OperatorResolves'. -/
def operatorResolvesCard : Claim7 := { stood := { row := operatorResolvesRow, standIns := [], harness := (true, "00413f8ff564592c47edf33ed5f94fca2b5d6653ca5ed30a93980b88025294aa"), looks := false }, kinds := [], alts := [], laidByText := true, laidKinds := [.data], laidTests := true, laidLooks := .later }
def OperatorResolvesCardSaid : Prop := Claim7.holds Tryd.pinned (.plain (OpenSpec.ofChange operatorResolvesSpec)) operatorResolvesCard

/-- THE TIED CARD OF 'lfchecklaw03.OperatorForms'. -/
def operatorFormsCard : Claim7 := { stood := { row := operatorFormsRow, standIns := [], harness := (true, "00413f8ff564592c47edf33ed5f94fca2b5d6653ca5ed30a93980b88025294aa"), looks := false }, kinds := [], alts := [], laidByText := true, laidKinds := [.data], laidTests := true, laidLooks := .later }
def OperatorFormsCardSaid : Prop := Claim7.holds Tryd.pinned (.plain (OpenSpec.ofChange operatorFormsSpec)) operatorFormsCard

/-- THE TIED CARD OF 'lfchecklaw03.OperatorAdds'. -/
def operatorAddsCard : Claim7 := { stood := { row := operatorAddsRow, standIns := [], harness := (true, "00413f8ff564592c47edf33ed5f94fca2b5d6653ca5ed30a93980b88025294aa"), looks := false }, kinds := [], alts := [], laidByText := true, laidKinds := [.data], laidTests := true, laidLooks := .later }
def OperatorAddsCardSaid : Prop := Claim7.holds Tryd.pinned (.plain (OpenSpec.ofChange operatorAddsSpec)) operatorAddsCard

/-- THE SECOND FORM's CARD OF 'lfchecklaw03.OperatorResolves'. -/
def operatorResolvesUptoCard : Claim7 := { stood := { row := operatorResolvesUptoRow, standIns := [], harness := (true, "00413f8ff564592c47edf33ed5f94fca2b5d6653ca5ed30a93980b88025294aa"), looks := false }, kinds := [], alts := [], laidByText := true, laidKinds := [.data], laidTests := true, laidLooks := .later }
def OperatorResolvesUptoCardSaid : Prop := Claim7.holds Tryd.pinned (.plain (OpenSpec.upto operatorResolvesSpec)) operatorResolvesUptoCard

/-- THE SECOND FORM's CARD OF 'lfchecklaw03.OperatorForms'. -/
def operatorFormsUptoCard : Claim7 := { stood := { row := operatorFormsUptoRow, standIns := [], harness := (true, "00413f8ff564592c47edf33ed5f94fca2b5d6653ca5ed30a93980b88025294aa"), looks := false }, kinds := [], alts := [], laidByText := true, laidKinds := [.data], laidTests := true, laidLooks := .later }
def OperatorFormsUptoCardSaid : Prop := Claim7.holds Tryd.pinned (.plain (OpenSpec.upto operatorFormsSpec)) operatorFormsUptoCard

/-- THE SECOND FORM's CARD OF 'lfchecklaw03.OperatorAdds'. -/
def operatorAddsUptoCard : Claim7 := { stood := { row := operatorAddsUptoRow, standIns := [], harness := (true, "00413f8ff564592c47edf33ed5f94fca2b5d6653ca5ed30a93980b88025294aa"), looks := false }, kinds := [], alts := [], laidByText := true, laidKinds := [.data], laidTests := true, laidLooks := .later }
def OperatorAddsUptoCardSaid : Prop := Claim7.holds Tryd.pinned (.plain (OpenSpec.upto operatorAddsSpec)) operatorAddsUptoCard
end Rows
end Go.Proofs.YtkhfnkokdmoipaaDoor
