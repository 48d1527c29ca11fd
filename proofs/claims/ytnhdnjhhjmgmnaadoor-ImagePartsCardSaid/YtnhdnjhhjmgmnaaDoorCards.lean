/-
  DERIVED. GIVEN WITH THE SEED: THE CARDS: each row of YtnhdnjhhjmgmnaaDoorRows.lean that lists a variable, with what it lists TIED to the program's text (the seventh form; the later family's looks); each row that meets fmt, with fmt's text TOLD by the authors' own Lean function (tested against real Go, not proved from fmt's source: count such statements apart). THE CARD IS WHAT COUNTS. Prove the row's statement (the work); the ties are given (YtnhdnjhhjmgmnaaDoorTie.lean); close each card by the builder's one call (the guide's Derived/Test/ToyasCard.lean, 'card_holds'). Laid BY PROGRAM, IN A SANDBOX (cutbox-door.mjs). By AI agents, Wed Nov 11 2026. No macro, syntax, notation, axiom, sorry.
-/
import Derived.Test.YtnhdnjhhjmgmnaaDoorRows
import GoSem.ClaimSeven
namespace Go.Proofs.YtnhdnjhhjmgmnaaDoor
namespace Rows

/-- THE TIED CARD OF 'indeliblelaw22.ImageParts'. -/
def imagePartsCard : Claim7 := { stood := { row := imagePartsRow, standIns := [], harness := (true, "be7f8df06874557f572f4482761d8b3dd5d9d25808ec6026dc7ce817f77fa96a"), looks := false }, kinds := [], alts := [], laidByText := true, laidKinds := [.data, .widerDeep, .pinned], laidTests := true, laidLooks := .later }
def ImagePartsCardSaid : Prop := Claim7.holds Tryd.pinned (.plain (OpenSpec.ofChange imagePartsSpec)) imagePartsCard

/-- THE TIED CARD OF 'indeliblelaw22.ImageForms'. -/
def imageFormsCard : Claim7 := { stood := { row := imageFormsRow, standIns := [], harness := (true, "be7f8df06874557f572f4482761d8b3dd5d9d25808ec6026dc7ce817f77fa96a"), looks := false }, kinds := [], alts := [], laidByText := true, laidKinds := [.data, .widerDeep, .pinned], laidTests := true, laidLooks := .later }
def ImageFormsCardSaid : Prop := Claim7.holds Tryd.pinned (.plain (OpenSpec.ofChange imageFormsSpec)) imageFormsCard

/-- THE TIED CARD OF 'indeliblelaw22.ImageHides'. -/
def imageHidesCard : Claim7 := { stood := { row := imageHidesRow, standIns := [], harness := (true, "be7f8df06874557f572f4482761d8b3dd5d9d25808ec6026dc7ce817f77fa96a"), looks := false }, kinds := [], alts := [], laidByText := true, laidKinds := [.data, .widerDeep, .pinned], laidTests := true, laidLooks := .later }
def ImageHidesCardSaid : Prop := Claim7.holds Tryd.pinned (.plain (OpenSpec.ofChange imageHidesSpec)) imageHidesCard

/-- THE TIED CARD OF 'indeliblelaw22.ImagePuts'. -/
def imagePutsCard : Claim7 := { stood := { row := imagePutsRow, standIns := [], harness := (true, "be7f8df06874557f572f4482761d8b3dd5d9d25808ec6026dc7ce817f77fa96a"), looks := false }, kinds := [], alts := [], laidByText := true, laidKinds := [.data, .widerDeep, .pinned], laidTests := true, laidLooks := .later }
def ImagePutsCardSaid : Prop := Claim7.holds Tryd.pinned (.plain (OpenSpec.ofChange imagePutsSpec)) imagePutsCard

/-- THE TIED CARD OF 'indeliblelaw22.ImageTexts'. -/
def imageTextsCard : Claim7 := { stood := { row := imageTextsRow, standIns := [], harness := (true, "be7f8df06874557f572f4482761d8b3dd5d9d25808ec6026dc7ce817f77fa96a"), looks := false }, kinds := [], alts := [], laidByText := true, laidKinds := [.data, .widerDeep, .pinned], laidTests := true, laidLooks := .later }
def ImageTextsCardSaid : Prop := Claim7.holds Tryd.pinned (.plain (OpenSpec.ofChange imageTextsSpec)) imageTextsCard

/-- THE SECOND FORM's CARD OF 'indeliblelaw22.ImageParts'. -/
def imagePartsUptoCard : Claim7 := { stood := { row := imagePartsUptoRow, standIns := [], harness := (true, "be7f8df06874557f572f4482761d8b3dd5d9d25808ec6026dc7ce817f77fa96a"), looks := false }, kinds := [], alts := [], laidByText := true, laidKinds := [.data, .widerDeep, .pinned], laidTests := true, laidLooks := .later }
def ImagePartsUptoCardSaid : Prop := Claim7.holds Tryd.pinned (.plain (OpenSpec.upto imagePartsSpec)) imagePartsUptoCard

/-- THE SECOND FORM's CARD OF 'indeliblelaw22.ImageForms'. -/
def imageFormsUptoCard : Claim7 := { stood := { row := imageFormsUptoRow, standIns := [], harness := (true, "be7f8df06874557f572f4482761d8b3dd5d9d25808ec6026dc7ce817f77fa96a"), looks := false }, kinds := [], alts := [], laidByText := true, laidKinds := [.data, .widerDeep, .pinned], laidTests := true, laidLooks := .later }
def ImageFormsUptoCardSaid : Prop := Claim7.holds Tryd.pinned (.plain (OpenSpec.upto imageFormsSpec)) imageFormsUptoCard

/-- THE SECOND FORM's CARD OF 'indeliblelaw22.ImageHides'. -/
def imageHidesUptoCard : Claim7 := { stood := { row := imageHidesUptoRow, standIns := [], harness := (true, "be7f8df06874557f572f4482761d8b3dd5d9d25808ec6026dc7ce817f77fa96a"), looks := false }, kinds := [], alts := [], laidByText := true, laidKinds := [.data, .widerDeep, .pinned], laidTests := true, laidLooks := .later }
def ImageHidesUptoCardSaid : Prop := Claim7.holds Tryd.pinned (.plain (OpenSpec.upto imageHidesSpec)) imageHidesUptoCard

/-- THE SECOND FORM's CARD OF 'indeliblelaw22.ImagePuts'. -/
def imagePutsUptoCard : Claim7 := { stood := { row := imagePutsUptoRow, standIns := [], harness := (true, "be7f8df06874557f572f4482761d8b3dd5d9d25808ec6026dc7ce817f77fa96a"), looks := false }, kinds := [], alts := [], laidByText := true, laidKinds := [.data, .widerDeep, .pinned], laidTests := true, laidLooks := .later }
def ImagePutsUptoCardSaid : Prop := Claim7.holds Tryd.pinned (.plain (OpenSpec.upto imagePutsSpec)) imagePutsUptoCard

/-- THE SECOND FORM's CARD OF 'indeliblelaw22.ImageTexts'. -/
def imageTextsUptoCard : Claim7 := { stood := { row := imageTextsUptoRow, standIns := [], harness := (true, "be7f8df06874557f572f4482761d8b3dd5d9d25808ec6026dc7ce817f77fa96a"), looks := false }, kinds := [], alts := [], laidByText := true, laidKinds := [.data, .widerDeep, .pinned], laidTests := true, laidLooks := .later }
def ImageTextsUptoCardSaid : Prop := Claim7.holds Tryd.pinned (.plain (OpenSpec.upto imageTextsSpec)) imageTextsUptoCard
end Rows
end Go.Proofs.YtnhdnjhhjmgmnaaDoor
