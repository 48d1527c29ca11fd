/-
  DERIVED. GIVEN WITH THE SEED: THE CARDS: each row of YtdpbdcaefdcooaaGreatDoorRows.lean that lists a variable, with what it lists TIED to the program's text (the seventh form; the later family's looks); each row that meets fmt, with fmt's text TOLD by the authors' own Lean function (tested against real Go, not proved from fmt's source: count such statements apart). THE CARD IS WHAT COUNTS. Prove the row's statement (the work); the ties are given (YtdpbdcaefdcooaaGreatDoorTie.lean); close each card by the builder's one call (the guide's Derived/Test/ToyasCard.lean, 'card_holds'). Laid BY PROGRAM, IN A SANDBOX (cutbox-door.mjs). By AI agents, Wed Nov 11 2026. No macro, syntax, notation, axiom, sorry.
-/
import Derived.Test.YtdpbdcaefdcooaaGreatDoorRows
import GoSem.ClaimSeven
namespace Go.Proofs.YtdpbdcaefdcooaaGreatDoor
namespace Rows

/-- THE TIED CARD OF 'indeliblelaw08.VerifyChecks'. -/
def verifyChecksCard : Claim7 := { stood := { row := verifyChecksRow, standIns := [], harness := (true, "2d2625f89d0e74021857077136abc4ecb7d5a79dca18516ed63c01be1dee2fa3"), looks := true }, kinds := [], alts := [], laidByText := true, laidKinds := [.data, .data, .data, .data, .sentinel, .sentinel, .widerDeep, .pinned], laidTests := true, laidLooks := .later }
def VerifyChecksCardSaid : Prop := Claim7.holds Tryz.pinned (.plain (OpenSpec.ofChange verifyChecksSpec)) verifyChecksCard

/-- THE TIED CARD OF 'indeliblelaw08.VerifyTexts'. -/
def verifyTextsCard : Claim7 := { stood := { row := verifyTextsRow, standIns := [], harness := (true, "2d2625f89d0e74021857077136abc4ecb7d5a79dca18516ed63c01be1dee2fa3"), looks := true }, kinds := [], alts := [], laidByText := true, laidKinds := [.data, .data, .data, .data, .sentinel, .sentinel, .widerDeep, .pinned], laidTests := true, laidLooks := .later }
def VerifyTextsCardSaid : Prop := Claim7.holds Tryz.pinned (.plain (OpenSpec.ofChange verifyTextsSpec)) verifyTextsCard

/-- THE SECOND FORM's CARD OF 'indeliblelaw08.VerifyChecks'. -/
def verifyChecksUptoCard : Claim7 := { stood := { row := verifyChecksUptoRow, standIns := [], harness := (true, "2d2625f89d0e74021857077136abc4ecb7d5a79dca18516ed63c01be1dee2fa3"), looks := true }, kinds := [], alts := [], laidByText := true, laidKinds := [.data, .data, .data, .data, .sentinel, .sentinel, .widerDeep, .pinned], laidTests := true, laidLooks := .later }
def VerifyChecksUptoCardSaid : Prop := Claim7.holds Tryz.pinned (.plain (OpenSpec.upto verifyChecksSpec)) verifyChecksUptoCard

/-- THE SECOND FORM's CARD OF 'indeliblelaw08.VerifyTexts'. -/
def verifyTextsUptoCard : Claim7 := { stood := { row := verifyTextsUptoRow, standIns := [], harness := (true, "2d2625f89d0e74021857077136abc4ecb7d5a79dca18516ed63c01be1dee2fa3"), looks := true }, kinds := [], alts := [], laidByText := true, laidKinds := [.data, .data, .data, .data, .sentinel, .sentinel, .widerDeep, .pinned], laidTests := true, laidLooks := .later }
def VerifyTextsUptoCardSaid : Prop := Claim7.holds Tryz.pinned (.plain (OpenSpec.upto verifyTextsSpec)) verifyTextsUptoCard
end Rows
end Go.Proofs.YtdpbdcaefdcooaaGreatDoor
