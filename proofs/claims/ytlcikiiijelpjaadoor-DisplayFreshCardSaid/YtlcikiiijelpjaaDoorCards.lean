/-
  DERIVED. GIVEN WITH THE SEED: THE CARDS: each row of YtlcikiiijelpjaaDoorRows.lean that lists a variable, with what it lists TIED to the program's text (the seventh form; the later family's looks); each row that meets fmt, with fmt's text TOLD by the authors' own Lean function (tested against real Go, not proved from fmt's source: count such statements apart). THE CARD IS WHAT COUNTS. Prove the row's statement (the work); the ties are given (YtlcikiiijelpjaaDoorTie.lean); close each card by the builder's one call (the guide's Derived/Test/ToyasCard.lean, 'card_holds'). Laid BY PROGRAM, IN A SANDBOX (cutbox-door.mjs). By AI agents, Wed Nov 11 2026. No macro, syntax, notation, axiom, sorry.
-/
import Derived.Test.YtlcikiiijelpjaaDoorRows
import GoSem.ClaimSeven
namespace Go.Proofs.YtlcikiiijelpjaaDoor
namespace Rows

/-- THE TIED CARD OF 'lfchecklaw11.DisplayFresh'. -/
def displayFreshCard : Claim7 := { stood := { row := displayFreshRow, standIns := [], harness := (true, "d8b90c29dd461dcbc962c4dd87d9733b4b77a943f5ba62b3e0ec49de2a04e040"), looks := false }, kinds := [], alts := [], laidByText := true, laidKinds := [.data, .data, .data], laidTests := true, laidLooks := .later }
def DisplayFreshCardSaid : Prop := Claim7.holds Tryd.pinned (.plain (OpenSpec.ofChange displayFreshSpec)) displayFreshCard

/-- THE SECOND FORM's CARD OF 'lfchecklaw11.DisplayFresh'. -/
def displayFreshUptoCard : Claim7 := { stood := { row := displayFreshUptoRow, standIns := [], harness := (true, "d8b90c29dd461dcbc962c4dd87d9733b4b77a943f5ba62b3e0ec49de2a04e040"), looks := false }, kinds := [], alts := [], laidByText := true, laidKinds := [.data, .data, .data], laidTests := true, laidLooks := .later }
def DisplayFreshUptoCardSaid : Prop := Claim7.holds Tryd.pinned (.plain (OpenSpec.upto displayFreshSpec)) displayFreshUptoCard
end Rows
end Go.Proofs.YtlcikiiijelpjaaDoor
