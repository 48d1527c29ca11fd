/-
  NARROWER THAN 'FOR EVERY INPUT', by the rows' own cells (each row's printed sentence says how): NamesChecks: laid · NamesRuns: laid · NamesLess: laid · NamesOrder: laid · NamesEdits: laid · NamesDistance: laid.
  DERIVED. THE GIVEN ROWS OF THIS SEAT. 6 by the template 'for every input the law returns true; each argument reads behind the call as it read before'; 0 by the template 'total and deterministic' (their statements: YtnibgjpbijlhbaaDoorTotals.lean).
  GIVEN WITH THE SEED: the statements are not yours to turn. If you find one false, say at which input.
  Laid BY PROGRAM, IN A SANDBOX (cutbox-rows.mjs): the forced cells as the released guide's own fill.sh prints them over the translation 52c6b56a3332cdf3… (all of the seat's roots in one cut). By AI agents, Wed Nov 11 2026. No macro, syntax, notation, axiom, sorry.
-/
import Derived.Test.YtnibgjpbijlhbaaDoorChecked
import GoSem.PinnedTables
import GoSem.Claim
import GoSem.ClaimJoined
import GoSem.ClaimMapViews
import Derived.JoinedTies
import Derived.KernelRfl
namespace Go.Proofs.YtnibgjpbijlhbaaDoor
/- THE CELL 'sum', in the pinned program and in every row, IS THE sha256 OF THE DUMP (.gsa) THAT YtnibgjpbijlhbaaDoorProg.lean LOADS. Nothing in Lean hashes anything: it is a label: what it is worth is what the hold of that sum in a sandbox is worth. -/
noncomputable def Tryd.pinned : Pinned := { name := "ytnibgjpbijlhbaadoor", sum := "52c6b56a3332cdf3a9994c7e74fdf70353275bd0c32837eee28a4b9f7e062adc", checked := Tryd.checked }
namespace Rows
def none {H : Type} : Left H := { results := [], args := [] }

/- WHAT THE LISTED PACKAGE-LEVEL VARIABLES READ AS WHEN THE CALL BEGINS. Each datum BY PROGRAM (the guide's laid-datum.mjs) off the statement by which the dump's own 'gosem.cut.vars' lays the variable. In a bare row this is a premise. The card (YtnibgjpbijlhbaaDoorCards.lean) ties it to the program's text. -/
def laid_unicode_utf8_acceptRanges {H : Type} : DataW H := .agg [.agg [.lit (.int .u8 128), .lit (.int .u8 191)], .agg [.lit (.int .u8 160), .lit (.int .u8 191)], .agg [.lit (.int .u8 128), .lit (.int .u8 159)], .agg [.lit (.int .u8 144), .lit (.int .u8 191)], .agg [.lit (.int .u8 128), .lit (.int .u8 143)], .agg [.lit (.int .u8 0), .lit (.int .u8 0)], .agg [.lit (.int .u8 0), .lit (.int .u8 0)], .agg [.lit (.int .u8 0), .lit (.int .u8 0)], .agg [.lit (.int .u8 0), .lit (.int .u8 0)], .agg [.lit (.int .u8 0), .lit (.int .u8 0)], .agg [.lit (.int .u8 0), .lit (.int .u8 0)], .agg [.lit (.int .u8 0), .lit (.int .u8 0)], .agg [.lit (.int .u8 0), .lit (.int .u8 0)], .agg [.lit (.int .u8 0), .lit (.int .u8 0)], .agg [.lit (.int .u8 0), .lit (.int .u8 0)], .agg [.lit (.int .u8 0), .lit (.int .u8 0)]]
/-- One of Go's own tables, pinned by name: the form's constant. -/
def laid_unicode_utf8_first : DataW Unit := Go.Pinned.utf8First

/-- 'indeliblelaw12.NamesChecks': WHATEVER THE INPUT: true; the input reads as it did. -/
def namesChecksSpec : ChangeSpec := { name := "namesChecks", fn := fun _ => fun
  | [d1, d2] => { results := [.lit (.bool true)], args := [d1, d2] }
  | _ => none }
def namesChecksRow : OpenClaim := { program := "ytnibgjpbijlhbaadoor", sum := "52c6b56a3332cdf3a9994c7e74fdf70353275bd0c32837eee28a4b9f7e062adc", func := "indelible/indeliblelaw12.NamesChecks", spec := "namesChecks", inPlace := ["internal/bytealg.IndexByteString", "internal/bytealg.IndexString", "internal/bytealg.abigen_runtime_cmpstring"], unfollowed := true, recurses := true, named := ["internal/bytealg.MaxLen", "unicode/utf8.first", "unicode/utf8.acceptRanges"], apart := false, laid := [("unicode/utf8.acceptRanges", laid_unicode_utf8_acceptRanges), ("unicode/utf8.first", laid_unicode_utf8_first)] }
def NamesChecksSaid : Prop := namesChecksRow.holds Tryd.pinned (OpenSpec.ofChange namesChecksSpec)

/-- ITS FALSE NEIGHBOUR: 'it returns false'. Refute it at one input. -/
def namesChecksWrong : ChangeSpec := { name := "namesChecks", fn := fun _ => fun
  | [d1, d2] => { results := [.lit (.bool false)], args := [d1, d2] }
  | _ => none }
def NamesChecksWrongFalsely : Prop := namesChecksRow.holds Tryd.pinned (OpenSpec.ofChange namesChecksWrong)

/-- 'indeliblelaw12.NamesRuns': WHATEVER THE INPUT: true; the input reads as it did. -/
def namesRunsSpec : ChangeSpec := { name := "namesRuns", fn := fun _ => fun
  | [d1, d2, d3] => { results := [.lit (.bool true)], args := [d1, d2, d3] }
  | _ => none }
def namesRunsRow : OpenClaim := { program := "ytnibgjpbijlhbaadoor", sum := "52c6b56a3332cdf3a9994c7e74fdf70353275bd0c32837eee28a4b9f7e062adc", func := "indelible/indeliblelaw12.NamesRuns", spec := "namesRuns", inPlace := ["internal/bytealg.IndexByteString", "internal/bytealg.IndexString", "internal/bytealg.abigen_runtime_cmpstring"], unfollowed := true, recurses := true, named := ["internal/bytealg.MaxLen", "unicode/utf8.first", "unicode/utf8.acceptRanges"], apart := false, laid := [("unicode/utf8.acceptRanges", laid_unicode_utf8_acceptRanges), ("unicode/utf8.first", laid_unicode_utf8_first)] }
def NamesRunsSaid : Prop := namesRunsRow.holds Tryd.pinned (OpenSpec.ofChange namesRunsSpec)

/-- ITS FALSE NEIGHBOUR: 'it returns false'. Refute it at one input. -/
def namesRunsWrong : ChangeSpec := { name := "namesRuns", fn := fun _ => fun
  | [d1, d2, d3] => { results := [.lit (.bool false)], args := [d1, d2, d3] }
  | _ => none }
def NamesRunsWrongFalsely : Prop := namesRunsRow.holds Tryd.pinned (OpenSpec.ofChange namesRunsWrong)

/-- 'indeliblelaw12.NamesLess': WHATEVER THE INPUT: true; the input reads as it did. -/
def namesLessSpec : ChangeSpec := { name := "namesLess", fn := fun _ => fun
  | [d1, d2] => { results := [.lit (.bool true)], args := [d1, d2] }
  | _ => none }
def namesLessRow : OpenClaim := { program := "ytnibgjpbijlhbaadoor", sum := "52c6b56a3332cdf3a9994c7e74fdf70353275bd0c32837eee28a4b9f7e062adc", func := "indelible/indeliblelaw12.NamesLess", spec := "namesLess", inPlace := ["internal/bytealg.IndexByteString", "internal/bytealg.IndexString", "internal/bytealg.abigen_runtime_cmpstring"], unfollowed := true, recurses := true, named := ["internal/bytealg.MaxLen", "unicode/utf8.first", "unicode/utf8.acceptRanges"], apart := false, laid := [("unicode/utf8.acceptRanges", laid_unicode_utf8_acceptRanges), ("unicode/utf8.first", laid_unicode_utf8_first)] }
def NamesLessSaid : Prop := namesLessRow.holds Tryd.pinned (OpenSpec.ofChange namesLessSpec)

/-- ITS FALSE NEIGHBOUR: 'it returns false'. Refute it at one input. -/
def namesLessWrong : ChangeSpec := { name := "namesLess", fn := fun _ => fun
  | [d1, d2] => { results := [.lit (.bool false)], args := [d1, d2] }
  | _ => none }
def NamesLessWrongFalsely : Prop := namesLessRow.holds Tryd.pinned (OpenSpec.ofChange namesLessWrong)

/-- 'indeliblelaw12.NamesOrder': WHATEVER THE INPUT: true; the input reads as it did. -/
def namesOrderSpec : ChangeSpec := { name := "namesOrder", fn := fun _ => fun
  | [d1, d2, d3, d4, d5] => { results := [.lit (.bool true)], args := [d1, d2, d3, d4, d5] }
  | _ => none }
def namesOrderRow : OpenClaim := { program := "ytnibgjpbijlhbaadoor", sum := "52c6b56a3332cdf3a9994c7e74fdf70353275bd0c32837eee28a4b9f7e062adc", func := "indelible/indeliblelaw12.NamesOrder", spec := "namesOrder", inPlace := ["internal/bytealg.IndexByteString", "internal/bytealg.IndexString", "internal/bytealg.abigen_runtime_cmpstring"], unfollowed := true, recurses := true, named := ["internal/bytealg.MaxLen", "unicode/utf8.first", "unicode/utf8.acceptRanges"], apart := false, laid := [("unicode/utf8.acceptRanges", laid_unicode_utf8_acceptRanges), ("unicode/utf8.first", laid_unicode_utf8_first)] }
def NamesOrderSaid : Prop := namesOrderRow.holds Tryd.pinned (OpenSpec.ofChange namesOrderSpec)

/-- ITS FALSE NEIGHBOUR: 'it returns false'. Refute it at one input. -/
def namesOrderWrong : ChangeSpec := { name := "namesOrder", fn := fun _ => fun
  | [d1, d2, d3, d4, d5] => { results := [.lit (.bool false)], args := [d1, d2, d3, d4, d5] }
  | _ => none }
def NamesOrderWrongFalsely : Prop := namesOrderRow.holds Tryd.pinned (OpenSpec.ofChange namesOrderWrong)

/-- 'indeliblelaw12.NamesEdits': WHATEVER THE INPUT: true; the input reads as it did. -/
def namesEditsSpec : ChangeSpec := { name := "namesEdits", fn := fun _ => fun
  | [d1, d2] => { results := [.lit (.bool true)], args := [d1, d2] }
  | _ => none }
def namesEditsRow : OpenClaim := { program := "ytnibgjpbijlhbaadoor", sum := "52c6b56a3332cdf3a9994c7e74fdf70353275bd0c32837eee28a4b9f7e062adc", func := "indelible/indeliblelaw12.NamesEdits", spec := "namesEdits", inPlace := ["internal/bytealg.IndexByteString", "internal/bytealg.IndexString", "internal/bytealg.abigen_runtime_cmpstring"], unfollowed := true, recurses := true, named := ["internal/bytealg.MaxLen", "unicode/utf8.first", "unicode/utf8.acceptRanges"], apart := false, laid := [("unicode/utf8.acceptRanges", laid_unicode_utf8_acceptRanges), ("unicode/utf8.first", laid_unicode_utf8_first)] }
def NamesEditsSaid : Prop := namesEditsRow.holds Tryd.pinned (OpenSpec.ofChange namesEditsSpec)

/-- ITS FALSE NEIGHBOUR: 'it returns false'. Refute it at one input. -/
def namesEditsWrong : ChangeSpec := { name := "namesEdits", fn := fun _ => fun
  | [d1, d2] => { results := [.lit (.bool false)], args := [d1, d2] }
  | _ => none }
def NamesEditsWrongFalsely : Prop := namesEditsRow.holds Tryd.pinned (OpenSpec.ofChange namesEditsWrong)

/-- 'indeliblelaw12.NamesDistance': WHATEVER THE INPUT: true; the input reads as it did. -/
def namesDistanceSpec : ChangeSpec := { name := "namesDistance", fn := fun _ => fun
  | [d1, d2, d3] => { results := [.lit (.bool true)], args := [d1, d2, d3] }
  | _ => none }
def namesDistanceRow : OpenClaim := { program := "ytnibgjpbijlhbaadoor", sum := "52c6b56a3332cdf3a9994c7e74fdf70353275bd0c32837eee28a4b9f7e062adc", func := "indelible/indeliblelaw12.NamesDistance", spec := "namesDistance", inPlace := ["internal/bytealg.IndexByteString", "internal/bytealg.IndexString", "internal/bytealg.abigen_runtime_cmpstring"], unfollowed := true, recurses := true, named := ["internal/bytealg.MaxLen", "unicode/utf8.first", "unicode/utf8.acceptRanges"], apart := false, laid := [("unicode/utf8.acceptRanges", laid_unicode_utf8_acceptRanges), ("unicode/utf8.first", laid_unicode_utf8_first)] }
def NamesDistanceSaid : Prop := namesDistanceRow.holds Tryd.pinned (OpenSpec.ofChange namesDistanceSpec)

/-- ITS FALSE NEIGHBOUR: 'it returns false'. Refute it at one input. -/
def namesDistanceWrong : ChangeSpec := { name := "namesDistance", fn := fun _ => fun
  | [d1, d2, d3] => { results := [.lit (.bool false)], args := [d1, d2, d3] }
  | _ => none }
def NamesDistanceWrongFalsely : Prop := namesDistanceRow.holds Tryd.pinned (OpenSpec.ofChange namesDistanceWrong)

/- THE SECOND FORM. 'bulk': how many values and letters a reading holds, each counted each time it is reached (what is shared counts as often as it is met; a slice's spare places count too). A statement '..UptoSaid' is the law's where the arguments, and the package variables that the reading takes, are together of bulk at most 1048576: NARROWER than '..Said'. Prove '..Said' where nothing that the law and all that it calls make is longer than what came in: it says more and counts as full. Else prove '..UptoSaid'. A law counts once. -/
mutual
def uptoBulk {H : Type} : DataW H → Nat
  | .lit (.string bytes) => bytes.length + 1
  | .lit _ => 1
  | .nil => 1
  | .ptr d => uptoBulk d + 1
  | .slice elems spare => uptoBulkAll elems + uptoBulkAll spare + 1
  | .agg parts => uptoBulkAll parts + 1
  | .iface _ d => uptoBulk d + 1
  | .map entries => uptoBulkEntries entries + 1
  | .held _ => 1
def uptoBulkAll {H : Type} : List (DataW H) → Nat
  | [] => 0
  | d :: r => uptoBulk d + uptoBulkAll r
def uptoBulkEntries {H : Type} : List (Lit × DataW H) → Nat
  | [] => 0
  | x :: r => uptoBulkEntry x + uptoBulkEntries r
def uptoBulkEntry {H : Type} : Lit × DataW H → Nat
  | (.string bytes, d) => bytes.length + uptoBulk d + 1
  | (_, d) => uptoBulk d + 1
 end
def uptoSmall : (H : Type) → List (DataW H) → Bool := fun _ ds => decide (uptoBulkAll ds ≤ 1048576)
def OpenSpec.upto (s : _root_.Go.ChangeSpec) : _root_.Go.OpenSpec := { _root_.Go.OpenSpec.ofChange s with cond := some uptoSmall }

/-- 'indeliblelaw12.NamesChecks', WHERE WHAT IT READS IS OF BULK AT MOST 1048576: true; the input reads as it did. -/
def namesChecksUptoRow : OpenClaim := { program := "ytnibgjpbijlhbaadoor", sum := "52c6b56a3332cdf3a9994c7e74fdf70353275bd0c32837eee28a4b9f7e062adc", func := "indelible/indeliblelaw12.NamesChecks", spec := "namesChecks", inPlace := ["internal/bytealg.IndexByteString", "internal/bytealg.IndexString", "internal/bytealg.abigen_runtime_cmpstring"], unfollowed := true, recurses := true, named := ["internal/bytealg.MaxLen", "unicode/utf8.first", "unicode/utf8.acceptRanges"], apart := false, laid := [("unicode/utf8.acceptRanges", laid_unicode_utf8_acceptRanges), ("unicode/utf8.first", laid_unicode_utf8_first)], narrowed := true }
def NamesChecksUptoSaid : Prop := namesChecksUptoRow.holds Tryd.pinned (OpenSpec.upto namesChecksSpec)

/-- 'indeliblelaw12.NamesRuns', WHERE WHAT IT READS IS OF BULK AT MOST 1048576: true; the input reads as it did. -/
def namesRunsUptoRow : OpenClaim := { program := "ytnibgjpbijlhbaadoor", sum := "52c6b56a3332cdf3a9994c7e74fdf70353275bd0c32837eee28a4b9f7e062adc", func := "indelible/indeliblelaw12.NamesRuns", spec := "namesRuns", inPlace := ["internal/bytealg.IndexByteString", "internal/bytealg.IndexString", "internal/bytealg.abigen_runtime_cmpstring"], unfollowed := true, recurses := true, named := ["internal/bytealg.MaxLen", "unicode/utf8.first", "unicode/utf8.acceptRanges"], apart := false, laid := [("unicode/utf8.acceptRanges", laid_unicode_utf8_acceptRanges), ("unicode/utf8.first", laid_unicode_utf8_first)], narrowed := true }
def NamesRunsUptoSaid : Prop := namesRunsUptoRow.holds Tryd.pinned (OpenSpec.upto namesRunsSpec)

/-- 'indeliblelaw12.NamesLess', WHERE WHAT IT READS IS OF BULK AT MOST 1048576: true; the input reads as it did. -/
def namesLessUptoRow : OpenClaim := { program := "ytnibgjpbijlhbaadoor", sum := "52c6b56a3332cdf3a9994c7e74fdf70353275bd0c32837eee28a4b9f7e062adc", func := "indelible/indeliblelaw12.NamesLess", spec := "namesLess", inPlace := ["internal/bytealg.IndexByteString", "internal/bytealg.IndexString", "internal/bytealg.abigen_runtime_cmpstring"], unfollowed := true, recurses := true, named := ["internal/bytealg.MaxLen", "unicode/utf8.first", "unicode/utf8.acceptRanges"], apart := false, laid := [("unicode/utf8.acceptRanges", laid_unicode_utf8_acceptRanges), ("unicode/utf8.first", laid_unicode_utf8_first)], narrowed := true }
def NamesLessUptoSaid : Prop := namesLessUptoRow.holds Tryd.pinned (OpenSpec.upto namesLessSpec)

/-- 'indeliblelaw12.NamesOrder', WHERE WHAT IT READS IS OF BULK AT MOST 1048576: true; the input reads as it did. -/
def namesOrderUptoRow : OpenClaim := { program := "ytnibgjpbijlhbaadoor", sum := "52c6b56a3332cdf3a9994c7e74fdf70353275bd0c32837eee28a4b9f7e062adc", func := "indelible/indeliblelaw12.NamesOrder", spec := "namesOrder", inPlace := ["internal/bytealg.IndexByteString", "internal/bytealg.IndexString", "internal/bytealg.abigen_runtime_cmpstring"], unfollowed := true, recurses := true, named := ["internal/bytealg.MaxLen", "unicode/utf8.first", "unicode/utf8.acceptRanges"], apart := false, laid := [("unicode/utf8.acceptRanges", laid_unicode_utf8_acceptRanges), ("unicode/utf8.first", laid_unicode_utf8_first)], narrowed := true }
def NamesOrderUptoSaid : Prop := namesOrderUptoRow.holds Tryd.pinned (OpenSpec.upto namesOrderSpec)

/-- 'indeliblelaw12.NamesEdits', WHERE WHAT IT READS IS OF BULK AT MOST 1048576: true; the input reads as it did. -/
def namesEditsUptoRow : OpenClaim := { program := "ytnibgjpbijlhbaadoor", sum := "52c6b56a3332cdf3a9994c7e74fdf70353275bd0c32837eee28a4b9f7e062adc", func := "indelible/indeliblelaw12.NamesEdits", spec := "namesEdits", inPlace := ["internal/bytealg.IndexByteString", "internal/bytealg.IndexString", "internal/bytealg.abigen_runtime_cmpstring"], unfollowed := true, recurses := true, named := ["internal/bytealg.MaxLen", "unicode/utf8.first", "unicode/utf8.acceptRanges"], apart := false, laid := [("unicode/utf8.acceptRanges", laid_unicode_utf8_acceptRanges), ("unicode/utf8.first", laid_unicode_utf8_first)], narrowed := true }
def NamesEditsUptoSaid : Prop := namesEditsUptoRow.holds Tryd.pinned (OpenSpec.upto namesEditsSpec)

/-- 'indeliblelaw12.NamesDistance', WHERE WHAT IT READS IS OF BULK AT MOST 1048576: true; the input reads as it did. -/
def namesDistanceUptoRow : OpenClaim := { program := "ytnibgjpbijlhbaadoor", sum := "52c6b56a3332cdf3a9994c7e74fdf70353275bd0c32837eee28a4b9f7e062adc", func := "indelible/indeliblelaw12.NamesDistance", spec := "namesDistance", inPlace := ["internal/bytealg.IndexByteString", "internal/bytealg.IndexString", "internal/bytealg.abigen_runtime_cmpstring"], unfollowed := true, recurses := true, named := ["internal/bytealg.MaxLen", "unicode/utf8.first", "unicode/utf8.acceptRanges"], apart := false, laid := [("unicode/utf8.acceptRanges", laid_unicode_utf8_acceptRanges), ("unicode/utf8.first", laid_unicode_utf8_first)], narrowed := true }
def NamesDistanceUptoSaid : Prop := namesDistanceUptoRow.holds Tryd.pinned (OpenSpec.upto namesDistanceSpec)

end Rows
end Go.Proofs.YtnibgjpbijlhbaaDoor
