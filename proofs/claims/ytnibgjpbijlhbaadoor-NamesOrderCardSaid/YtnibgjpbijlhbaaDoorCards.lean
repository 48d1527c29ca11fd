/-
  DERIVED. GIVEN WITH THE SEED: THE CARDS: each row of YtnibgjpbijlhbaaDoorRows.lean that lists a variable, with what it lists TIED to the program's text (the seventh form; the later family's looks); each row that meets fmt, with fmt's text TOLD by the authors' own Lean function (tested against real Go, not proved from fmt's source: count such statements apart). THE CARD IS WHAT COUNTS. Prove the row's statement (the work); the ties are given (YtnibgjpbijlhbaaDoorTie.lean); close each card by the builder's one call (the guide's Derived/Test/ToyasCard.lean, 'card_holds'). Laid BY PROGRAM, IN A SANDBOX (cutbox-door.mjs). By AI agents, Wed Nov 11 2026. No macro, syntax, notation, axiom, sorry.
-/
import Derived.Test.YtnibgjpbijlhbaaDoorRows
import GoSem.ClaimSeven
namespace Go.Proofs.YtnibgjpbijlhbaaDoor
namespace Rows

/-- THE TIED CARD OF 'indeliblelaw12.NamesChecks'. -/
def namesChecksCard : Claim7 := { stood := { row := namesChecksRow, standIns := [], harness := (true, "04e1e6a3c9611c5bcd1e667b9ead19988a3bb8c17afb6c9bf6160bab7356be63"), looks := false }, kinds := [], alts := [], laidByText := true, laidKinds := [.data, .pinned], laidTests := true, laidLooks := .later }
def NamesChecksCardSaid : Prop := Claim7.holds Tryd.pinned (.plain (OpenSpec.ofChange namesChecksSpec)) namesChecksCard

/-- THE TIED CARD OF 'indeliblelaw12.NamesRuns'. -/
def namesRunsCard : Claim7 := { stood := { row := namesRunsRow, standIns := [], harness := (true, "04e1e6a3c9611c5bcd1e667b9ead19988a3bb8c17afb6c9bf6160bab7356be63"), looks := false }, kinds := [], alts := [], laidByText := true, laidKinds := [.data, .pinned], laidTests := true, laidLooks := .later }
def NamesRunsCardSaid : Prop := Claim7.holds Tryd.pinned (.plain (OpenSpec.ofChange namesRunsSpec)) namesRunsCard

/-- THE TIED CARD OF 'indeliblelaw12.NamesLess'. -/
def namesLessCard : Claim7 := { stood := { row := namesLessRow, standIns := [], harness := (true, "04e1e6a3c9611c5bcd1e667b9ead19988a3bb8c17afb6c9bf6160bab7356be63"), looks := false }, kinds := [], alts := [], laidByText := true, laidKinds := [.data, .pinned], laidTests := true, laidLooks := .later }
def NamesLessCardSaid : Prop := Claim7.holds Tryd.pinned (.plain (OpenSpec.ofChange namesLessSpec)) namesLessCard

/-- THE TIED CARD OF 'indeliblelaw12.NamesOrder'. -/
def namesOrderCard : Claim7 := { stood := { row := namesOrderRow, standIns := [], harness := (true, "04e1e6a3c9611c5bcd1e667b9ead19988a3bb8c17afb6c9bf6160bab7356be63"), looks := false }, kinds := [], alts := [], laidByText := true, laidKinds := [.data, .pinned], laidTests := true, laidLooks := .later }
def NamesOrderCardSaid : Prop := Claim7.holds Tryd.pinned (.plain (OpenSpec.ofChange namesOrderSpec)) namesOrderCard

/-- THE TIED CARD OF 'indeliblelaw12.NamesEdits'. -/
def namesEditsCard : Claim7 := { stood := { row := namesEditsRow, standIns := [], harness := (true, "04e1e6a3c9611c5bcd1e667b9ead19988a3bb8c17afb6c9bf6160bab7356be63"), looks := false }, kinds := [], alts := [], laidByText := true, laidKinds := [.data, .pinned], laidTests := true, laidLooks := .later }
def NamesEditsCardSaid : Prop := Claim7.holds Tryd.pinned (.plain (OpenSpec.ofChange namesEditsSpec)) namesEditsCard

/-- THE TIED CARD OF 'indeliblelaw12.NamesDistance'. -/
def namesDistanceCard : Claim7 := { stood := { row := namesDistanceRow, standIns := [], harness := (true, "04e1e6a3c9611c5bcd1e667b9ead19988a3bb8c17afb6c9bf6160bab7356be63"), looks := false }, kinds := [], alts := [], laidByText := true, laidKinds := [.data, .pinned], laidTests := true, laidLooks := .later }
def NamesDistanceCardSaid : Prop := Claim7.holds Tryd.pinned (.plain (OpenSpec.ofChange namesDistanceSpec)) namesDistanceCard

/-- THE SECOND FORM's CARD OF 'indeliblelaw12.NamesChecks'. -/
def namesChecksUptoCard : Claim7 := { stood := { row := namesChecksUptoRow, standIns := [], harness := (true, "04e1e6a3c9611c5bcd1e667b9ead19988a3bb8c17afb6c9bf6160bab7356be63"), looks := false }, kinds := [], alts := [], laidByText := true, laidKinds := [.data, .pinned], laidTests := true, laidLooks := .later }
def NamesChecksUptoCardSaid : Prop := Claim7.holds Tryd.pinned (.plain (OpenSpec.upto namesChecksSpec)) namesChecksUptoCard

/-- THE SECOND FORM's CARD OF 'indeliblelaw12.NamesRuns'. -/
def namesRunsUptoCard : Claim7 := { stood := { row := namesRunsUptoRow, standIns := [], harness := (true, "04e1e6a3c9611c5bcd1e667b9ead19988a3bb8c17afb6c9bf6160bab7356be63"), looks := false }, kinds := [], alts := [], laidByText := true, laidKinds := [.data, .pinned], laidTests := true, laidLooks := .later }
def NamesRunsUptoCardSaid : Prop := Claim7.holds Tryd.pinned (.plain (OpenSpec.upto namesRunsSpec)) namesRunsUptoCard

/-- THE SECOND FORM's CARD OF 'indeliblelaw12.NamesLess'. -/
def namesLessUptoCard : Claim7 := { stood := { row := namesLessUptoRow, standIns := [], harness := (true, "04e1e6a3c9611c5bcd1e667b9ead19988a3bb8c17afb6c9bf6160bab7356be63"), looks := false }, kinds := [], alts := [], laidByText := true, laidKinds := [.data, .pinned], laidTests := true, laidLooks := .later }
def NamesLessUptoCardSaid : Prop := Claim7.holds Tryd.pinned (.plain (OpenSpec.upto namesLessSpec)) namesLessUptoCard

/-- THE SECOND FORM's CARD OF 'indeliblelaw12.NamesOrder'. -/
def namesOrderUptoCard : Claim7 := { stood := { row := namesOrderUptoRow, standIns := [], harness := (true, "04e1e6a3c9611c5bcd1e667b9ead19988a3bb8c17afb6c9bf6160bab7356be63"), looks := false }, kinds := [], alts := [], laidByText := true, laidKinds := [.data, .pinned], laidTests := true, laidLooks := .later }
def NamesOrderUptoCardSaid : Prop := Claim7.holds Tryd.pinned (.plain (OpenSpec.upto namesOrderSpec)) namesOrderUptoCard

/-- THE SECOND FORM's CARD OF 'indeliblelaw12.NamesEdits'. -/
def namesEditsUptoCard : Claim7 := { stood := { row := namesEditsUptoRow, standIns := [], harness := (true, "04e1e6a3c9611c5bcd1e667b9ead19988a3bb8c17afb6c9bf6160bab7356be63"), looks := false }, kinds := [], alts := [], laidByText := true, laidKinds := [.data, .pinned], laidTests := true, laidLooks := .later }
def NamesEditsUptoCardSaid : Prop := Claim7.holds Tryd.pinned (.plain (OpenSpec.upto namesEditsSpec)) namesEditsUptoCard

/-- THE SECOND FORM's CARD OF 'indeliblelaw12.NamesDistance'. -/
def namesDistanceUptoCard : Claim7 := { stood := { row := namesDistanceUptoRow, standIns := [], harness := (true, "04e1e6a3c9611c5bcd1e667b9ead19988a3bb8c17afb6c9bf6160bab7356be63"), looks := false }, kinds := [], alts := [], laidByText := true, laidKinds := [.data, .pinned], laidTests := true, laidLooks := .later }
def NamesDistanceUptoCardSaid : Prop := Claim7.holds Tryd.pinned (.plain (OpenSpec.upto namesDistanceSpec)) namesDistanceUptoCard
end Rows
end Go.Proofs.YtnibgjpbijlhbaaDoor
