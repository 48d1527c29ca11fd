/-
  DERIVED. GIVEN WITH THE SEED: THE CARDS: each row of YtlgcijafjcfnhaaDoorRows.lean that lists a variable, with what it lists TIED to the program's text (the seventh form; the later family's looks); each row that meets fmt, with fmt's text TOLD by the authors' own Lean function (tested against real Go, not proved from fmt's source: count such statements apart). THE CARD IS WHAT COUNTS. Prove the row's statement (the work); the ties are given (YtlgcijafjcfnhaaDoorTie.lean); close each card by the builder's one call (the guide's Derived/Test/ToyasCard.lean, 'card_holds'). Laid BY PROGRAM, IN A SANDBOX (cutbox-door.mjs). By AI agents, Wed Nov 11 2026. No macro, syntax, notation, axiom, sorry.
-/
import Derived.Test.YtlgcijafjcfnhaaDoorRows
import GoSem.ClaimSeven
namespace Go.Proofs.YtlgcijafjcfnhaaDoor
namespace Rows

/-- THE TIED CARD OF 'indeliblelaw09.MachineSafe'. -/
def machineSafeCard : Claim7 := { stood := { row := machineSafeRow, standIns := [], harness := (true, "8826ba28adcc8d22f8fce16e5daff7997c80cb7133311769289a7dc7bac5cfb0"), looks := true }, kinds := [], alts := [], laidByText := true, laidKinds := [.widerDeep], laidTests := true, laidLooks := .later }
def MachineSafeCardSaid : Prop := Claim7.holds Tryd.pinned (.plain (OpenSpec.ofChange machineSafeSpec)) machineSafeCard

/-- THE SECOND FORM's CARD OF 'indeliblelaw09.MachineSafe'. -/
def machineSafeUptoCard : Claim7 := { stood := { row := machineSafeUptoRow, standIns := [], harness := (true, "8826ba28adcc8d22f8fce16e5daff7997c80cb7133311769289a7dc7bac5cfb0"), looks := true }, kinds := [], alts := [], laidByText := true, laidKinds := [.widerDeep], laidTests := true, laidLooks := .later }
def MachineSafeUptoCardSaid : Prop := Claim7.holds Tryd.pinned (.plain (OpenSpec.upto machineSafeSpec)) machineSafeUptoCard
end Rows
end Go.Proofs.YtlgcijafjcfnhaaDoor
