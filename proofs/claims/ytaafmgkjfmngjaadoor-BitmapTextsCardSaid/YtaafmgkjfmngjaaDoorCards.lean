/-
  DERIVED. GIVEN WITH THE SEED: THE CARDS: each row of YtaafmgkjfmngjaaDoorRows.lean that lists a variable, with what it lists TIED to the program's text (the seventh form; the later family's looks); each row that meets fmt, with fmt's text TOLD by the authors' own Lean function (tested against real Go, not proved from fmt's source: count such statements apart). THE CARD IS WHAT COUNTS. Prove the row's statement (the work); the ties are given (YtaafmgkjfmngjaaDoorTie.lean); close each card by the builder's one call (the guide's Derived/Test/ToyasCard.lean, 'card_holds'). Laid BY PROGRAM, IN A SANDBOX (cutbox-door.mjs). By AI agents, Wed Nov 11 2026. No macro, syntax, notation, axiom, sorry.
-/
import Derived.Test.YtaafmgkjfmngjaaDoorRows
import GoSem.ClaimSeven
namespace Go.Proofs.YtaafmgkjfmngjaaDoor
namespace Rows

/-- THE TIED CARD OF 'indeliblelaw04.BitmapParts'. -/
def bitmapPartsCard : Claim7 := { stood := { row := bitmapPartsRow, standIns := [], harness := (true, "5e5786674e87a1b14e14e149e42fbdad50d3b3bd5b9a2a03b477b97c18b9ff9c"), looks := false }, kinds := [], alts := [], laidByText := true, laidKinds := [.data, .pinned], laidTests := true, laidLooks := .later }
def BitmapPartsCardSaid : Prop := Claim7.holds Tryd.pinned (.plain (OpenSpec.ofChange bitmapPartsSpec)) bitmapPartsCard

/-- THE TIED CARD OF 'indeliblelaw04.BitmapCounts'. -/
def bitmapCountsCard : Claim7 := { stood := { row := bitmapCountsRow, standIns := [], harness := (true, "5e5786674e87a1b14e14e149e42fbdad50d3b3bd5b9a2a03b477b97c18b9ff9c"), looks := false }, kinds := [], alts := [], laidByText := true, laidKinds := [.data, .pinned], laidTests := true, laidLooks := .later }
def BitmapCountsCardSaid : Prop := Claim7.holds Tryd.pinned (.plain (OpenSpec.ofChange bitmapCountsSpec)) bitmapCountsCard

/-- THE TIED CARD OF 'indeliblelaw04.BitmapForms'. -/
def bitmapFormsCard : Claim7 := { stood := { row := bitmapFormsRow, standIns := [], harness := (true, "5e5786674e87a1b14e14e149e42fbdad50d3b3bd5b9a2a03b477b97c18b9ff9c"), looks := false }, kinds := [], alts := [], laidByText := true, laidKinds := [.data, .pinned], laidTests := true, laidLooks := .later }
def BitmapFormsCardSaid : Prop := Claim7.holds Tryd.pinned (.plain (OpenSpec.ofChange bitmapFormsSpec)) bitmapFormsCard

/-- THE TIED CARD OF 'indeliblelaw04.BitmapDots'. -/
def bitmapDotsCard : Claim7 := { stood := { row := bitmapDotsRow, standIns := [], harness := (true, "5e5786674e87a1b14e14e149e42fbdad50d3b3bd5b9a2a03b477b97c18b9ff9c"), looks := false }, kinds := [], alts := [], laidByText := true, laidKinds := [.data, .pinned], laidTests := true, laidLooks := .later }
def BitmapDotsCardSaid : Prop := Claim7.holds Tryd.pinned (.plain (OpenSpec.ofChange bitmapDotsSpec)) bitmapDotsCard

/-- THE TIED CARD OF 'indeliblelaw04.BitmapTexts'. -/
def bitmapTextsCard : Claim7 := { stood := { row := bitmapTextsRow, standIns := [], harness := (true, "5e5786674e87a1b14e14e149e42fbdad50d3b3bd5b9a2a03b477b97c18b9ff9c"), looks := false }, kinds := [], alts := [], laidByText := true, laidKinds := [.data, .pinned], laidTests := true, laidLooks := .later }
def BitmapTextsCardSaid : Prop := Claim7.holds Tryd.pinned (.plain (OpenSpec.ofChange bitmapTextsSpec)) bitmapTextsCard

/-- THE SECOND FORM's CARD OF 'indeliblelaw04.BitmapParts'. -/
def bitmapPartsUptoCard : Claim7 := { stood := { row := bitmapPartsUptoRow, standIns := [], harness := (true, "5e5786674e87a1b14e14e149e42fbdad50d3b3bd5b9a2a03b477b97c18b9ff9c"), looks := false }, kinds := [], alts := [], laidByText := true, laidKinds := [.data, .pinned], laidTests := true, laidLooks := .later }
def BitmapPartsUptoCardSaid : Prop := Claim7.holds Tryd.pinned (.plain (OpenSpec.upto bitmapPartsSpec)) bitmapPartsUptoCard

/-- THE SECOND FORM's CARD OF 'indeliblelaw04.BitmapCounts'. -/
def bitmapCountsUptoCard : Claim7 := { stood := { row := bitmapCountsUptoRow, standIns := [], harness := (true, "5e5786674e87a1b14e14e149e42fbdad50d3b3bd5b9a2a03b477b97c18b9ff9c"), looks := false }, kinds := [], alts := [], laidByText := true, laidKinds := [.data, .pinned], laidTests := true, laidLooks := .later }
def BitmapCountsUptoCardSaid : Prop := Claim7.holds Tryd.pinned (.plain (OpenSpec.upto bitmapCountsSpec)) bitmapCountsUptoCard

/-- THE SECOND FORM's CARD OF 'indeliblelaw04.BitmapForms'. -/
def bitmapFormsUptoCard : Claim7 := { stood := { row := bitmapFormsUptoRow, standIns := [], harness := (true, "5e5786674e87a1b14e14e149e42fbdad50d3b3bd5b9a2a03b477b97c18b9ff9c"), looks := false }, kinds := [], alts := [], laidByText := true, laidKinds := [.data, .pinned], laidTests := true, laidLooks := .later }
def BitmapFormsUptoCardSaid : Prop := Claim7.holds Tryd.pinned (.plain (OpenSpec.upto bitmapFormsSpec)) bitmapFormsUptoCard

/-- THE SECOND FORM's CARD OF 'indeliblelaw04.BitmapDots'. -/
def bitmapDotsUptoCard : Claim7 := { stood := { row := bitmapDotsUptoRow, standIns := [], harness := (true, "5e5786674e87a1b14e14e149e42fbdad50d3b3bd5b9a2a03b477b97c18b9ff9c"), looks := false }, kinds := [], alts := [], laidByText := true, laidKinds := [.data, .pinned], laidTests := true, laidLooks := .later }
def BitmapDotsUptoCardSaid : Prop := Claim7.holds Tryd.pinned (.plain (OpenSpec.upto bitmapDotsSpec)) bitmapDotsUptoCard

/-- THE SECOND FORM's CARD OF 'indeliblelaw04.BitmapTexts'. -/
def bitmapTextsUptoCard : Claim7 := { stood := { row := bitmapTextsUptoRow, standIns := [], harness := (true, "5e5786674e87a1b14e14e149e42fbdad50d3b3bd5b9a2a03b477b97c18b9ff9c"), looks := false }, kinds := [], alts := [], laidByText := true, laidKinds := [.data, .pinned], laidTests := true, laidLooks := .later }
def BitmapTextsUptoCardSaid : Prop := Claim7.holds Tryd.pinned (.plain (OpenSpec.upto bitmapTextsSpec)) bitmapTextsUptoCard
end Rows
end Go.Proofs.YtaafmgkjfmngjaaDoor
