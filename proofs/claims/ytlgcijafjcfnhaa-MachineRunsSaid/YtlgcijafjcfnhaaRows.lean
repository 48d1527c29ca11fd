/-
  No cell of these rows narrows 'for every input' (looked for: loops, veiled, ifaces, maps, wideKeys, modest, calm, conditions, laid).
  DERIVED. THE GIVEN ROWS OF THIS SEAT. 6 by the template 'for every input the law returns true; each argument reads behind the call as it read before'; 0 by the template 'total and deterministic' (their statements: YtlgcijafjcfnhaaTotals.lean).
  GIVEN WITH THE SEED: the statements are not yours to turn. If you find one false, say at which input.
  Laid BY PROGRAM, IN A SANDBOX (cutbox-rows.mjs): the forced cells as the released guide's own fill.sh prints them over the translation bd1f892e84e79754… (all of the seat's roots in one cut). By AI agents, Wed Nov 11 2026. No macro, syntax, notation, axiom, sorry.
-/
import Derived.Test.YtlgcijafjcfnhaaChecked
import GoSem.Claim
import GoSem.ClaimJoined
import GoSem.ClaimMapViews
import Derived.JoinedTies
import Derived.KernelRfl
namespace Go.Proofs.Ytlgcijafjcfnhaa
/- THE CELL 'sum', in the pinned program and in every row, IS THE sha256 OF THE DUMP (.gsa) THAT YtlgcijafjcfnhaaProg.lean LOADS. Nothing in Lean hashes anything: it is a label: what it is worth is what the hold of that sum in a sandbox is worth. -/
noncomputable def Try.pinned : Pinned := { name := "ytlgcijafjcfnhaa", sum := "bd1f892e84e79754c8067dbc1b7d863cf625c57c0d1b0c3dd664d54c1f9c7b47", checked := Try.checked }
namespace Rows
def none {H : Type} : Left H := { results := [], args := [] }

/-- 'indeliblelaw09.MachineRuns': WHATEVER THE INPUT: true; the input reads as it did. -/
def machineRunsSpec : ChangeSpec := { name := "machineRuns", fn := fun _ => fun
  | [d1, d2, d3, d4] => { results := [.lit (.bool true)], args := [d1, d2, d3, d4] }
  | _ => none }
def machineRunsRow : OpenClaim := { program := "ytlgcijafjcfnhaa", sum := "bd1f892e84e79754c8067dbc1b7d863cf625c57c0d1b0c3dd664d54c1f9c7b47", func := "indelible/indeliblelaw09.MachineRuns", spec := "machineRuns", unfollowed := true, recurses := true, apart := false }
def MachineRunsSaid : Prop := machineRunsRow.holds Try.pinned (OpenSpec.ofChange machineRunsSpec)

/-- ITS FALSE NEIGHBOUR: 'it returns false'. Refute it at one input. -/
def machineRunsWrong : ChangeSpec := { name := "machineRuns", fn := fun _ => fun
  | [d1, d2, d3, d4] => { results := [.lit (.bool false)], args := [d1, d2, d3, d4] }
  | _ => none }
def MachineRunsWrongFalsely : Prop := machineRunsRow.holds Try.pinned (OpenSpec.ofChange machineRunsWrong)

/-- 'indeliblelaw09.MachineJoins': WHATEVER THE INPUT: true; the input reads as it did. -/
def machineJoinsSpec : ChangeSpec := { name := "machineJoins", fn := fun _ => fun
  | [d1, d2, d3] => { results := [.lit (.bool true)], args := [d1, d2, d3] }
  | _ => none }
def machineJoinsRow : OpenClaim := { program := "ytlgcijafjcfnhaa", sum := "bd1f892e84e79754c8067dbc1b7d863cf625c57c0d1b0c3dd664d54c1f9c7b47", func := "indelible/indeliblelaw09.MachineJoins", spec := "machineJoins", unfollowed := true, recurses := true, apart := false }
def MachineJoinsSaid : Prop := machineJoinsRow.holds Try.pinned (OpenSpec.ofChange machineJoinsSpec)

/-- ITS FALSE NEIGHBOUR: 'it returns false'. Refute it at one input. -/
def machineJoinsWrong : ChangeSpec := { name := "machineJoins", fn := fun _ => fun
  | [d1, d2, d3] => { results := [.lit (.bool false)], args := [d1, d2, d3] }
  | _ => none }
def MachineJoinsWrongFalsely : Prop := machineJoinsRow.holds Try.pinned (OpenSpec.ofChange machineJoinsWrong)

/-- 'indeliblelaw09.MachineLoops': WHATEVER THE INPUT: true; the input reads as it did. -/
def machineLoopsSpec : ChangeSpec := { name := "machineLoops", fn := fun _ => fun
  | [d1, d2, d3] => { results := [.lit (.bool true)], args := [d1, d2, d3] }
  | _ => none }
def machineLoopsRow : OpenClaim := { program := "ytlgcijafjcfnhaa", sum := "bd1f892e84e79754c8067dbc1b7d863cf625c57c0d1b0c3dd664d54c1f9c7b47", func := "indelible/indeliblelaw09.MachineLoops", spec := "machineLoops", unfollowed := true, recurses := true, apart := false }
def MachineLoopsSaid : Prop := machineLoopsRow.holds Try.pinned (OpenSpec.ofChange machineLoopsSpec)

/-- ITS FALSE NEIGHBOUR: 'it returns false'. Refute it at one input. -/
def machineLoopsWrong : ChangeSpec := { name := "machineLoops", fn := fun _ => fun
  | [d1, d2, d3] => { results := [.lit (.bool false)], args := [d1, d2, d3] }
  | _ => none }
def MachineLoopsWrongFalsely : Prop := machineLoopsRow.holds Try.pinned (OpenSpec.ofChange machineLoopsWrong)

/-- 'indeliblelaw09.MachineSizes': WHATEVER THE INPUT: true; the input reads as it did. -/
def machineSizesSpec : ChangeSpec := { name := "machineSizes", fn := fun _ => fun
  | [d1, d2, d3, d4] => { results := [.lit (.bool true)], args := [d1, d2, d3, d4] }
  | _ => none }
def machineSizesRow : OpenClaim := { program := "ytlgcijafjcfnhaa", sum := "bd1f892e84e79754c8067dbc1b7d863cf625c57c0d1b0c3dd664d54c1f9c7b47", func := "indelible/indeliblelaw09.MachineSizes", spec := "machineSizes", unfollowed := true, recurses := true, apart := false }
def MachineSizesSaid : Prop := machineSizesRow.holds Try.pinned (OpenSpec.ofChange machineSizesSpec)

/-- ITS FALSE NEIGHBOUR: 'it returns false'. Refute it at one input. -/
def machineSizesWrong : ChangeSpec := { name := "machineSizes", fn := fun _ => fun
  | [d1, d2, d3, d4] => { results := [.lit (.bool false)], args := [d1, d2, d3, d4] }
  | _ => none }
def MachineSizesWrongFalsely : Prop := machineSizesRow.holds Try.pinned (OpenSpec.ofChange machineSizesWrong)

/-- 'indeliblelaw09.MachineRounds': WHATEVER THE INPUT: true; the input reads as it did. -/
def machineRoundsSpec : ChangeSpec := { name := "machineRounds", fn := fun _ => fun
  | [d1, d2, d3] => { results := [.lit (.bool true)], args := [d1, d2, d3] }
  | _ => none }
def machineRoundsRow : OpenClaim := { program := "ytlgcijafjcfnhaa", sum := "bd1f892e84e79754c8067dbc1b7d863cf625c57c0d1b0c3dd664d54c1f9c7b47", func := "indelible/indeliblelaw09.MachineRounds", spec := "machineRounds", unfollowed := true, recurses := true, apart := false }
def MachineRoundsSaid : Prop := machineRoundsRow.holds Try.pinned (OpenSpec.ofChange machineRoundsSpec)

/-- ITS FALSE NEIGHBOUR: 'it returns false'. Refute it at one input. -/
def machineRoundsWrong : ChangeSpec := { name := "machineRounds", fn := fun _ => fun
  | [d1, d2, d3] => { results := [.lit (.bool false)], args := [d1, d2, d3] }
  | _ => none }
def MachineRoundsWrongFalsely : Prop := machineRoundsRow.holds Try.pinned (OpenSpec.ofChange machineRoundsWrong)

/-- 'indeliblelaw09.MachineLimits': WHATEVER THE INPUT: true; the input reads as it did. -/
def machineLimitsSpec : ChangeSpec := { name := "machineLimits", fn := fun _ => fun
  | [d1, d2] => { results := [.lit (.bool true)], args := [d1, d2] }
  | _ => none }
def machineLimitsRow : OpenClaim := { program := "ytlgcijafjcfnhaa", sum := "bd1f892e84e79754c8067dbc1b7d863cf625c57c0d1b0c3dd664d54c1f9c7b47", func := "indelible/indeliblelaw09.MachineLimits", spec := "machineLimits", unfollowed := true, recurses := true, apart := false }
def MachineLimitsSaid : Prop := machineLimitsRow.holds Try.pinned (OpenSpec.ofChange machineLimitsSpec)

/-- ITS FALSE NEIGHBOUR: 'it returns false'. Refute it at one input. -/
def machineLimitsWrong : ChangeSpec := { name := "machineLimits", fn := fun _ => fun
  | [d1, d2] => { results := [.lit (.bool false)], args := [d1, d2] }
  | _ => none }
def MachineLimitsWrongFalsely : Prop := machineLimitsRow.holds Try.pinned (OpenSpec.ofChange machineLimitsWrong)

/- THE SECOND FORM. 'bulk': how many values and letters a reading holds, each counted each time it is reached (what is shared counts as often as it is met; a slice's spare places count too). A statement '..UptoSaid' is the law's where the arguments, and the package variables that the reading takes, are together of bulk at most 1048576: NARROWER than '..Said'. Prove '..Said' where nothing that the law and all that it calls make is longer than what came in: it says more and counts as full. Else prove '..UptoSaid'. A law counts once. -/
mutual
def uptoBulk {H : Type} : DataW H → Nat
  | .lit (.string bytes) => bytes.length + 1
  | .lit _ => 1
  | .nil => 1
  | .ptr d => uptoBulk d + 1
  | .slice elems spare => uptoBulkAll elems + uptoBulkAll spare + 1
  | .agg parts => uptoBulkAll parts + 1
  | .iface _ d => uptoBulk d + 1
  | .map entries => uptoBulkEntries entries + 1
  | .held _ => 1
def uptoBulkAll {H : Type} : List (DataW H) → Nat
  | [] => 0
  | d :: r => uptoBulk d + uptoBulkAll r
def uptoBulkEntries {H : Type} : List (Lit × DataW H) → Nat
  | [] => 0
  | x :: r => uptoBulkEntry x + uptoBulkEntries r
def uptoBulkEntry {H : Type} : Lit × DataW H → Nat
  | (.string bytes, d) => bytes.length + uptoBulk d + 1
  | (_, d) => uptoBulk d + 1
 end
def uptoSmall : (H : Type) → List (DataW H) → Bool := fun _ ds => decide (uptoBulkAll ds ≤ 1048576)
def OpenSpec.upto (s : _root_.Go.ChangeSpec) : _root_.Go.OpenSpec := { _root_.Go.OpenSpec.ofChange s with cond := some uptoSmall }

/-- 'indeliblelaw09.MachineRuns', WHERE WHAT IT READS IS OF BULK AT MOST 1048576: true; the input reads as it did. -/
def machineRunsUptoRow : OpenClaim := { program := "ytlgcijafjcfnhaa", sum := "bd1f892e84e79754c8067dbc1b7d863cf625c57c0d1b0c3dd664d54c1f9c7b47", func := "indelible/indeliblelaw09.MachineRuns", spec := "machineRuns", unfollowed := true, recurses := true, apart := false, narrowed := true }
def MachineRunsUptoSaid : Prop := machineRunsUptoRow.holds Try.pinned (OpenSpec.upto machineRunsSpec)

/-- 'indeliblelaw09.MachineJoins', WHERE WHAT IT READS IS OF BULK AT MOST 1048576: true; the input reads as it did. -/
def machineJoinsUptoRow : OpenClaim := { program := "ytlgcijafjcfnhaa", sum := "bd1f892e84e79754c8067dbc1b7d863cf625c57c0d1b0c3dd664d54c1f9c7b47", func := "indelible/indeliblelaw09.MachineJoins", spec := "machineJoins", unfollowed := true, recurses := true, apart := false, narrowed := true }
def MachineJoinsUptoSaid : Prop := machineJoinsUptoRow.holds Try.pinned (OpenSpec.upto machineJoinsSpec)

/-- 'indeliblelaw09.MachineLoops', WHERE WHAT IT READS IS OF BULK AT MOST 1048576: true; the input reads as it did. -/
def machineLoopsUptoRow : OpenClaim := { program := "ytlgcijafjcfnhaa", sum := "bd1f892e84e79754c8067dbc1b7d863cf625c57c0d1b0c3dd664d54c1f9c7b47", func := "indelible/indeliblelaw09.MachineLoops", spec := "machineLoops", unfollowed := true, recurses := true, apart := false, narrowed := true }
def MachineLoopsUptoSaid : Prop := machineLoopsUptoRow.holds Try.pinned (OpenSpec.upto machineLoopsSpec)

/-- 'indeliblelaw09.MachineSizes', WHERE WHAT IT READS IS OF BULK AT MOST 1048576: true; the input reads as it did. -/
def machineSizesUptoRow : OpenClaim := { program := "ytlgcijafjcfnhaa", sum := "bd1f892e84e79754c8067dbc1b7d863cf625c57c0d1b0c3dd664d54c1f9c7b47", func := "indelible/indeliblelaw09.MachineSizes", spec := "machineSizes", unfollowed := true, recurses := true, apart := false, narrowed := true }
def MachineSizesUptoSaid : Prop := machineSizesUptoRow.holds Try.pinned (OpenSpec.upto machineSizesSpec)

/-- 'indeliblelaw09.MachineRounds', WHERE WHAT IT READS IS OF BULK AT MOST 1048576: true; the input reads as it did. -/
def machineRoundsUptoRow : OpenClaim := { program := "ytlgcijafjcfnhaa", sum := "bd1f892e84e79754c8067dbc1b7d863cf625c57c0d1b0c3dd664d54c1f9c7b47", func := "indelible/indeliblelaw09.MachineRounds", spec := "machineRounds", unfollowed := true, recurses := true, apart := false, narrowed := true }
def MachineRoundsUptoSaid : Prop := machineRoundsUptoRow.holds Try.pinned (OpenSpec.upto machineRoundsSpec)

/-- 'indeliblelaw09.MachineLimits', WHERE WHAT IT READS IS OF BULK AT MOST 1048576: true; the input reads as it did. -/
def machineLimitsUptoRow : OpenClaim := { program := "ytlgcijafjcfnhaa", sum := "bd1f892e84e79754c8067dbc1b7d863cf625c57c0d1b0c3dd664d54c1f9c7b47", func := "indelible/indeliblelaw09.MachineLimits", spec := "machineLimits", unfollowed := true, recurses := true, apart := false, narrowed := true }
def MachineLimitsUptoSaid : Prop := machineLimitsUptoRow.holds Try.pinned (OpenSpec.upto machineLimitsSpec)

end Rows
end Go.Proofs.Ytlgcijafjcfnhaa
