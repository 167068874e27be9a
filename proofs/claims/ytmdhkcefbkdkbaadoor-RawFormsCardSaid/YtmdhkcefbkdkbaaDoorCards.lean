/-
  DERIVED. GIVEN WITH THE SEED: THE CARDS: each row of YtmdhkcefbkdkbaaDoorRows.lean that lists a variable, with what it lists TIED to the program's text (the seventh form; the later family's looks); each row that meets fmt, with fmt's text TOLD by the authors' own Lean function (tested against real Go, not proved from fmt's source: count such statements apart). THE CARD IS WHAT COUNTS. Prove the row's statement (the work); the ties are given (YtmdhkcefbkdkbaaDoorTie.lean); close each card by the builder's one call (the guide's Derived/Test/ToyasCard.lean, 'card_holds'). Laid BY PROGRAM, IN A SANDBOX (cutbox-door.mjs). By AI agents, Wed Nov 11 2026. No macro, syntax, notation, axiom, sorry.
-/
import Derived.Test.YtmdhkcefbkdkbaaDoorRows
import GoSem.ClaimSeven
namespace Go.Proofs.YtmdhkcefbkdkbaaDoor
namespace Rows

/-- THE TIED CARD OF 'lfchecklaw01.TokenPieces'. -/
def tokenPiecesCard : Claim7 := { stood := { row := tokenPiecesRow, standIns := [], harness := (true, "3335c12435a4779d302947a962233ad2047df5deb3a0756cf06f90211c52ac80"), looks := false }, kinds := [], alts := [], laidByText := true, laidKinds := [.data], laidTests := true, laidLooks := .later }
def TokenPiecesCardSaid : Prop := Claim7.holds Tryd.pinned (.plain (OpenSpec.ofChange tokenPiecesSpec)) tokenPiecesCard

/-- THE TIED CARD OF 'lfchecklaw01.TokenNames'. -/
def tokenNamesCard : Claim7 := { stood := { row := tokenNamesRow, standIns := [], harness := (true, "3335c12435a4779d302947a962233ad2047df5deb3a0756cf06f90211c52ac80"), looks := false }, kinds := [], alts := [], laidByText := true, laidKinds := [.data], laidTests := true, laidLooks := .later }
def TokenNamesCardSaid : Prop := Claim7.holds Tryd.pinned (.plain (OpenSpec.ofChange tokenNamesSpec)) tokenNamesCard

/-- THE TIED CARD OF 'lfchecklaw01.TokenSpells'. -/
def tokenSpellsCard : Claim7 := { stood := { row := tokenSpellsRow, standIns := [], harness := (true, "3335c12435a4779d302947a962233ad2047df5deb3a0756cf06f90211c52ac80"), looks := false }, kinds := [], alts := [], laidByText := true, laidKinds := [.data], laidTests := true, laidLooks := .later }
def TokenSpellsCardSaid : Prop := Claim7.holds Tryd.pinned (.plain (OpenSpec.ofChange tokenSpellsSpec)) tokenSpellsCard

/-- THE TIED CARD OF 'lfchecklaw01.TokenJoins'. -/
def tokenJoinsCard : Claim7 := { stood := { row := tokenJoinsRow, standIns := [], harness := (true, "3335c12435a4779d302947a962233ad2047df5deb3a0756cf06f90211c52ac80"), looks := false }, kinds := [], alts := [], laidByText := true, laidKinds := [.data], laidTests := true, laidLooks := .later }
def TokenJoinsCardSaid : Prop := Claim7.holds Tryd.pinned (.plain (OpenSpec.ofChange tokenJoinsSpec)) tokenJoinsCard

/-- THE TIED CARD OF 'lfchecklaw01.TokenCuts'. -/
def tokenCutsCard : Claim7 := { stood := { row := tokenCutsRow, standIns := [], harness := (true, "3335c12435a4779d302947a962233ad2047df5deb3a0756cf06f90211c52ac80"), looks := false }, kinds := [], alts := [], laidByText := true, laidKinds := [.data], laidTests := true, laidLooks := .later }
def TokenCutsCardSaid : Prop := Claim7.holds Tryd.pinned (.plain (OpenSpec.ofChange tokenCutsSpec)) tokenCutsCard

/-- THE TIED CARD OF 'lfchecklaw01.TokenComments'. -/
def tokenCommentsCard : Claim7 := { stood := { row := tokenCommentsRow, standIns := [], harness := (true, "3335c12435a4779d302947a962233ad2047df5deb3a0756cf06f90211c52ac80"), looks := false }, kinds := [], alts := [], laidByText := true, laidKinds := [.data], laidTests := true, laidLooks := .later }
def TokenCommentsCardSaid : Prop := Claim7.holds Tryd.pinned (.plain (OpenSpec.ofChange tokenCommentsSpec)) tokenCommentsCard

/-- THE TIED CARD OF 'lfchecklaw01.TokenOffsets'. -/
def tokenOffsetsCard : Claim7 := { stood := { row := tokenOffsetsRow, standIns := [], harness := (true, "3335c12435a4779d302947a962233ad2047df5deb3a0756cf06f90211c52ac80"), looks := false }, kinds := [], alts := [], laidByText := true, laidKinds := [.data], laidTests := true, laidLooks := .later }
def TokenOffsetsCardSaid : Prop := Claim7.holds Tryd.pinned (.plain (OpenSpec.ofChange tokenOffsetsSpec)) tokenOffsetsCard

/-- THE TIED CARD OF 'lfchecklaw02.RawForms'. -/
def rawFormsCard : Claim7 := { stood := { row := rawFormsRow, standIns := [], harness := (true, "3335c12435a4779d302947a962233ad2047df5deb3a0756cf06f90211c52ac80"), looks := false }, kinds := [], alts := [], laidByText := true, laidKinds := [.data], laidTests := true, laidLooks := .later }
def RawFormsCardSaid : Prop := Claim7.holds Tryd.pinned (.plain (OpenSpec.ofChange rawFormsSpec)) rawFormsCard

/-- THE TIED CARD OF 'lfchecklaw02.RawSame'. -/
def rawSameCard : Claim7 := { stood := { row := rawSameRow, standIns := [], harness := (true, "3335c12435a4779d302947a962233ad2047df5deb3a0756cf06f90211c52ac80"), looks := false }, kinds := [], alts := [], laidByText := true, laidKinds := [.data], laidTests := true, laidLooks := .later }
def RawSameCardSaid : Prop := Claim7.holds Tryd.pinned (.plain (OpenSpec.ofChange rawSameSpec)) rawSameCard

/-- THE TIED CARD OF 'lfchecklaw02.RawTexts'. -/
def rawTextsCard : Claim7 := { stood := { row := rawTextsRow, standIns := [], harness := (true, "3335c12435a4779d302947a962233ad2047df5deb3a0756cf06f90211c52ac80"), looks := false }, kinds := [], alts := [], laidByText := true, laidKinds := [.data], laidTests := true, laidLooks := .later }
def RawTextsCardSaid : Prop := Claim7.holds Tryd.pinned (.plain (OpenSpec.ofChange rawTextsSpec)) rawTextsCard

/-- THE TIED CARD OF 'lfchecklaw02.RawBinds'. -/
def rawBindsCard : Claim7 := { stood := { row := rawBindsRow, standIns := [], harness := (true, "3335c12435a4779d302947a962233ad2047df5deb3a0756cf06f90211c52ac80"), looks := false }, kinds := [], alts := [], laidByText := true, laidKinds := [.data], laidTests := true, laidLooks := .later }
def RawBindsCardSaid : Prop := Claim7.holds Tryd.pinned (.plain (OpenSpec.ofChange rawBindsSpec)) rawBindsCard

/-- THE SECOND FORM's CARD OF 'lfchecklaw01.TokenPieces'. -/
def tokenPiecesUptoCard : Claim7 := { stood := { row := tokenPiecesUptoRow, standIns := [], harness := (true, "3335c12435a4779d302947a962233ad2047df5deb3a0756cf06f90211c52ac80"), looks := false }, kinds := [], alts := [], laidByText := true, laidKinds := [.data], laidTests := true, laidLooks := .later }
def TokenPiecesUptoCardSaid : Prop := Claim7.holds Tryd.pinned (.plain (OpenSpec.upto tokenPiecesSpec)) tokenPiecesUptoCard

/-- THE SECOND FORM's CARD OF 'lfchecklaw01.TokenNames'. -/
def tokenNamesUptoCard : Claim7 := { stood := { row := tokenNamesUptoRow, standIns := [], harness := (true, "3335c12435a4779d302947a962233ad2047df5deb3a0756cf06f90211c52ac80"), looks := false }, kinds := [], alts := [], laidByText := true, laidKinds := [.data], laidTests := true, laidLooks := .later }
def TokenNamesUptoCardSaid : Prop := Claim7.holds Tryd.pinned (.plain (OpenSpec.upto tokenNamesSpec)) tokenNamesUptoCard

/-- THE SECOND FORM's CARD OF 'lfchecklaw01.TokenSpells'. -/
def tokenSpellsUptoCard : Claim7 := { stood := { row := tokenSpellsUptoRow, standIns := [], harness := (true, "3335c12435a4779d302947a962233ad2047df5deb3a0756cf06f90211c52ac80"), looks := false }, kinds := [], alts := [], laidByText := true, laidKinds := [.data], laidTests := true, laidLooks := .later }
def TokenSpellsUptoCardSaid : Prop := Claim7.holds Tryd.pinned (.plain (OpenSpec.upto tokenSpellsSpec)) tokenSpellsUptoCard

/-- THE SECOND FORM's CARD OF 'lfchecklaw01.TokenJoins'. -/
def tokenJoinsUptoCard : Claim7 := { stood := { row := tokenJoinsUptoRow, standIns := [], harness := (true, "3335c12435a4779d302947a962233ad2047df5deb3a0756cf06f90211c52ac80"), looks := false }, kinds := [], alts := [], laidByText := true, laidKinds := [.data], laidTests := true, laidLooks := .later }
def TokenJoinsUptoCardSaid : Prop := Claim7.holds Tryd.pinned (.plain (OpenSpec.upto tokenJoinsSpec)) tokenJoinsUptoCard

/-- THE SECOND FORM's CARD OF 'lfchecklaw01.TokenCuts'. -/
def tokenCutsUptoCard : Claim7 := { stood := { row := tokenCutsUptoRow, standIns := [], harness := (true, "3335c12435a4779d302947a962233ad2047df5deb3a0756cf06f90211c52ac80"), looks := false }, kinds := [], alts := [], laidByText := true, laidKinds := [.data], laidTests := true, laidLooks := .later }
def TokenCutsUptoCardSaid : Prop := Claim7.holds Tryd.pinned (.plain (OpenSpec.upto tokenCutsSpec)) tokenCutsUptoCard

/-- THE SECOND FORM's CARD OF 'lfchecklaw01.TokenComments'. -/
def tokenCommentsUptoCard : Claim7 := { stood := { row := tokenCommentsUptoRow, standIns := [], harness := (true, "3335c12435a4779d302947a962233ad2047df5deb3a0756cf06f90211c52ac80"), looks := false }, kinds := [], alts := [], laidByText := true, laidKinds := [.data], laidTests := true, laidLooks := .later }
def TokenCommentsUptoCardSaid : Prop := Claim7.holds Tryd.pinned (.plain (OpenSpec.upto tokenCommentsSpec)) tokenCommentsUptoCard

/-- THE SECOND FORM's CARD OF 'lfchecklaw01.TokenOffsets'. -/
def tokenOffsetsUptoCard : Claim7 := { stood := { row := tokenOffsetsUptoRow, standIns := [], harness := (true, "3335c12435a4779d302947a962233ad2047df5deb3a0756cf06f90211c52ac80"), looks := false }, kinds := [], alts := [], laidByText := true, laidKinds := [.data], laidTests := true, laidLooks := .later }
def TokenOffsetsUptoCardSaid : Prop := Claim7.holds Tryd.pinned (.plain (OpenSpec.upto tokenOffsetsSpec)) tokenOffsetsUptoCard

/-- THE SECOND FORM's CARD OF 'lfchecklaw02.RawForms'. -/
def rawFormsUptoCard : Claim7 := { stood := { row := rawFormsUptoRow, standIns := [], harness := (true, "3335c12435a4779d302947a962233ad2047df5deb3a0756cf06f90211c52ac80"), looks := false }, kinds := [], alts := [], laidByText := true, laidKinds := [.data], laidTests := true, laidLooks := .later }
def RawFormsUptoCardSaid : Prop := Claim7.holds Tryd.pinned (.plain (OpenSpec.upto rawFormsSpec)) rawFormsUptoCard

/-- THE SECOND FORM's CARD OF 'lfchecklaw02.RawSame'. -/
def rawSameUptoCard : Claim7 := { stood := { row := rawSameUptoRow, standIns := [], harness := (true, "3335c12435a4779d302947a962233ad2047df5deb3a0756cf06f90211c52ac80"), looks := false }, kinds := [], alts := [], laidByText := true, laidKinds := [.data], laidTests := true, laidLooks := .later }
def RawSameUptoCardSaid : Prop := Claim7.holds Tryd.pinned (.plain (OpenSpec.upto rawSameSpec)) rawSameUptoCard

/-- THE SECOND FORM's CARD OF 'lfchecklaw02.RawTexts'. -/
def rawTextsUptoCard : Claim7 := { stood := { row := rawTextsUptoRow, standIns := [], harness := (true, "3335c12435a4779d302947a962233ad2047df5deb3a0756cf06f90211c52ac80"), looks := false }, kinds := [], alts := [], laidByText := true, laidKinds := [.data], laidTests := true, laidLooks := .later }
def RawTextsUptoCardSaid : Prop := Claim7.holds Tryd.pinned (.plain (OpenSpec.upto rawTextsSpec)) rawTextsUptoCard

/-- THE SECOND FORM's CARD OF 'lfchecklaw02.RawBinds'. -/
def rawBindsUptoCard : Claim7 := { stood := { row := rawBindsUptoRow, standIns := [], harness := (true, "3335c12435a4779d302947a962233ad2047df5deb3a0756cf06f90211c52ac80"), looks := false }, kinds := [], alts := [], laidByText := true, laidKinds := [.data], laidTests := true, laidLooks := .later }
def RawBindsUptoCardSaid : Prop := Claim7.holds Tryd.pinned (.plain (OpenSpec.upto rawBindsSpec)) rawBindsUptoCard
end Rows
end Go.Proofs.YtmdhkcefbkdkbaaDoor
