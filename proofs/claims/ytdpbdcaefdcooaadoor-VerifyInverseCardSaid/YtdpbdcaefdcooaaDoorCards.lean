/-
  DERIVED. GIVEN WITH THE SEED: THE CARDS: each row of YtdpbdcaefdcooaaDoorRows.lean that lists a variable, with what it lists TIED to the program's text (the seventh form; the later family's looks); each row that meets fmt, with fmt's text TOLD by the authors' own Lean function (tested against real Go, not proved from fmt's source: count such statements apart). THE CARD IS WHAT COUNTS. Prove the row's statement (the work); the ties are given (YtdpbdcaefdcooaaDoorTie.lean); close each card by the builder's one call (the guide's Derived/Test/ToyasCard.lean, 'card_holds'). Laid BY PROGRAM, IN A SANDBOX (cutbox-door.mjs). By AI agents, Wed Nov 11 2026. No macro, syntax, notation, axiom, sorry.
-/
import Derived.Test.YtdpbdcaefdcooaaDoorRows
import GoSem.ClaimSeven
namespace Go.Proofs.YtdpbdcaefdcooaaDoor
namespace Rows

/-- THE TIED CARD OF 'indeliblelaw08.VerifyInverse'. -/
def verifyInverseCard : Claim7 := { stood := { row := verifyInverseRow, standIns := [], harness := (true, "10e799f5822b0dea25deabc76b25db588d604b696206efc0051cf85d2d41150f"), looks := true }, kinds := [], alts := [], laidByText := true, laidKinds := [.data, .data, .data, .data, .sentinel, .sentinel, .widerDeep, .pinned], laidTests := true, laidLooks := .later }
def VerifyInverseCardSaid : Prop := Claim7.holds Tryd.pinned (.plain (OpenSpec.ofChange verifyInverseSpec)) verifyInverseCard

/-- THE TIED CARD OF 'indeliblelaw08.VerifyJoins'. -/
def verifyJoinsCard : Claim7 := { stood := { row := verifyJoinsRow, standIns := [], harness := (true, "10e799f5822b0dea25deabc76b25db588d604b696206efc0051cf85d2d41150f"), looks := true }, kinds := [], alts := [], laidByText := true, laidKinds := [.data, .data, .data, .data, .sentinel, .sentinel, .widerDeep, .pinned], laidTests := true, laidLooks := .later }
def VerifyJoinsCardSaid : Prop := Claim7.holds Tryd.pinned (.plain (OpenSpec.ofChange verifyJoinsSpec)) verifyJoinsCard

/-- THE TIED CARD OF 'indeliblelaw08.VerifyLoops'. -/
def verifyLoopsCard : Claim7 := { stood := { row := verifyLoopsRow, standIns := [], harness := (true, "10e799f5822b0dea25deabc76b25db588d604b696206efc0051cf85d2d41150f"), looks := true }, kinds := [], alts := [], laidByText := true, laidKinds := [.data, .data, .data, .data, .sentinel, .sentinel, .widerDeep, .pinned], laidTests := true, laidLooks := .later }
def VerifyLoopsCardSaid : Prop := Claim7.holds Tryd.pinned (.plain (OpenSpec.ofChange verifyLoopsSpec)) verifyLoopsCard

/-- THE TIED CARD OF 'indeliblelaw08.VerifyPoints'. -/
def verifyPointsCard : Claim7 := { stood := { row := verifyPointsRow, standIns := [], harness := (true, "10e799f5822b0dea25deabc76b25db588d604b696206efc0051cf85d2d41150f"), looks := true }, kinds := [], alts := [], laidByText := true, laidKinds := [.data, .data, .data, .data, .sentinel, .sentinel, .widerDeep, .pinned], laidTests := true, laidLooks := .later }
def VerifyPointsCardSaid : Prop := Claim7.holds Tryd.pinned (.plain (OpenSpec.ofChange verifyPointsSpec)) verifyPointsCard

/-- THE SECOND FORM's CARD OF 'indeliblelaw08.VerifyInverse'. -/
def verifyInverseUptoCard : Claim7 := { stood := { row := verifyInverseUptoRow, standIns := [], harness := (true, "10e799f5822b0dea25deabc76b25db588d604b696206efc0051cf85d2d41150f"), looks := true }, kinds := [], alts := [], laidByText := true, laidKinds := [.data, .data, .data, .data, .sentinel, .sentinel, .widerDeep, .pinned], laidTests := true, laidLooks := .later }
def VerifyInverseUptoCardSaid : Prop := Claim7.holds Tryd.pinned (.plain (OpenSpec.upto verifyInverseSpec)) verifyInverseUptoCard

/-- THE SECOND FORM's CARD OF 'indeliblelaw08.VerifyJoins'. -/
def verifyJoinsUptoCard : Claim7 := { stood := { row := verifyJoinsUptoRow, standIns := [], harness := (true, "10e799f5822b0dea25deabc76b25db588d604b696206efc0051cf85d2d41150f"), looks := true }, kinds := [], alts := [], laidByText := true, laidKinds := [.data, .data, .data, .data, .sentinel, .sentinel, .widerDeep, .pinned], laidTests := true, laidLooks := .later }
def VerifyJoinsUptoCardSaid : Prop := Claim7.holds Tryd.pinned (.plain (OpenSpec.upto verifyJoinsSpec)) verifyJoinsUptoCard

/-- THE SECOND FORM's CARD OF 'indeliblelaw08.VerifyLoops'. -/
def verifyLoopsUptoCard : Claim7 := { stood := { row := verifyLoopsUptoRow, standIns := [], harness := (true, "10e799f5822b0dea25deabc76b25db588d604b696206efc0051cf85d2d41150f"), looks := true }, kinds := [], alts := [], laidByText := true, laidKinds := [.data, .data, .data, .data, .sentinel, .sentinel, .widerDeep, .pinned], laidTests := true, laidLooks := .later }
def VerifyLoopsUptoCardSaid : Prop := Claim7.holds Tryd.pinned (.plain (OpenSpec.upto verifyLoopsSpec)) verifyLoopsUptoCard

/-- THE SECOND FORM's CARD OF 'indeliblelaw08.VerifyPoints'. -/
def verifyPointsUptoCard : Claim7 := { stood := { row := verifyPointsUptoRow, standIns := [], harness := (true, "10e799f5822b0dea25deabc76b25db588d604b696206efc0051cf85d2d41150f"), looks := true }, kinds := [], alts := [], laidByText := true, laidKinds := [.data, .data, .data, .data, .sentinel, .sentinel, .widerDeep, .pinned], laidTests := true, laidLooks := .later }
def VerifyPointsUptoCardSaid : Prop := Claim7.holds Tryd.pinned (.plain (OpenSpec.upto verifyPointsSpec)) verifyPointsUptoCard
end Rows
end Go.Proofs.YtdpbdcaefdcooaaDoor
