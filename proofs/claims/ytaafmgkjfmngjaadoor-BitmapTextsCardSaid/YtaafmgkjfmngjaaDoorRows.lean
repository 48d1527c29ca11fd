/-
  NARROWER THAN 'FOR EVERY INPUT', by the rows' own cells (each row's printed sentence says how): BitmapParts: laid · BitmapCounts: laid · BitmapForms: laid · BitmapDots: laid · BitmapTexts: laid.
  DERIVED. THE GIVEN ROWS OF THIS SEAT. 5 by the template 'for every input the law returns true; each argument reads behind the call as it read before'; 0 by the template 'total and deterministic' (their statements: YtaafmgkjfmngjaaDoorTotals.lean).
  GIVEN WITH THE SEED: the statements are not yours to turn. If you find one false, say at which input.
  Laid BY PROGRAM, IN A SANDBOX (cutbox-rows.mjs): the forced cells as the released guide's own fill.sh prints them over the translation 05cbe0e37451fbc0… (all of the seat's roots in one cut). By AI agents, Wed Nov 11 2026. No macro, syntax, notation, axiom, sorry.
-/
import Derived.Test.YtaafmgkjfmngjaaDoorChecked
import GoSem.PinnedTables
import GoSem.Claim
import GoSem.ClaimJoined
import GoSem.ClaimMapViews
import Derived.JoinedTies
import Derived.KernelRfl
namespace Go.Proofs.YtaafmgkjfmngjaaDoor
/- THE CELL 'sum', in the pinned program and in every row, IS THE sha256 OF THE DUMP (.gsa) THAT YtaafmgkjfmngjaaDoorProg.lean LOADS. Nothing in Lean hashes anything: it is a label: what it is worth is what the hold of that sum in a sandbox is worth. -/
noncomputable def Tryd.pinned : Pinned := { name := "ytaafmgkjfmngjaadoor", sum := "05cbe0e37451fbc0d1367ab5c51ac95f70a0c7672def4aeed46b3eea332b3f41", checked := Tryd.checked }
namespace Rows
def none {H : Type} : Left H := { results := [], args := [] }

/- WHAT THE LISTED PACKAGE-LEVEL VARIABLES READ AS WHEN THE CALL BEGINS. Each datum BY PROGRAM (the guide's laid-datum.mjs) off the statement by which the dump's own 'gosem.cut.vars' lays the variable. In a bare row this is a premise. The card (YtaafmgkjfmngjaaDoorCards.lean) ties it to the program's text. -/
def laid_unicode_utf8_acceptRanges {H : Type} : DataW H := .agg [.agg [.lit (.int .u8 128), .lit (.int .u8 191)], .agg [.lit (.int .u8 160), .lit (.int .u8 191)], .agg [.lit (.int .u8 128), .lit (.int .u8 159)], .agg [.lit (.int .u8 144), .lit (.int .u8 191)], .agg [.lit (.int .u8 128), .lit (.int .u8 143)], .agg [.lit (.int .u8 0), .lit (.int .u8 0)], .agg [.lit (.int .u8 0), .lit (.int .u8 0)], .agg [.lit (.int .u8 0), .lit (.int .u8 0)], .agg [.lit (.int .u8 0), .lit (.int .u8 0)], .agg [.lit (.int .u8 0), .lit (.int .u8 0)], .agg [.lit (.int .u8 0), .lit (.int .u8 0)], .agg [.lit (.int .u8 0), .lit (.int .u8 0)], .agg [.lit (.int .u8 0), .lit (.int .u8 0)], .agg [.lit (.int .u8 0), .lit (.int .u8 0)], .agg [.lit (.int .u8 0), .lit (.int .u8 0)], .agg [.lit (.int .u8 0), .lit (.int .u8 0)]]
/-- One of Go's own tables, pinned by name: the form's constant. -/
def laid_unicode_utf8_first : DataW Unit := Go.Pinned.utf8First

/-- 'indeliblelaw04.BitmapParts': WHATEVER THE INPUT: true; the input reads as it did. -/
def bitmapPartsSpec : ChangeSpec := { name := "bitmapParts", fn := fun _ => fun
  | [d1, d2, d3] => { results := [.lit (.bool true)], args := [d1, d2, d3] }
  | _ => none }
def bitmapPartsRow : OpenClaim := { program := "ytaafmgkjfmngjaadoor", sum := "05cbe0e37451fbc0d1367ab5c51ac95f70a0c7672def4aeed46b3eea332b3f41", func := "indelible/indeliblelaw04.BitmapParts", spec := "bitmapParts", inPlace := ["internal/abi.NoEscape", "internal/bytealg.CountString", "internal/bytealg.IndexByteString", "internal/bytealg.IndexString"], unfollowed := true, recurses := true, named := ["unicode/utf8.first", "unicode/utf8.acceptRanges", "internal/bytealg.MaxLen"], apart := false, laid := [("unicode/utf8.acceptRanges", laid_unicode_utf8_acceptRanges), ("unicode/utf8.first", laid_unicode_utf8_first)] }
def BitmapPartsSaid : Prop := bitmapPartsRow.holds Tryd.pinned (OpenSpec.ofChange bitmapPartsSpec)

/-- ITS FALSE NEIGHBOUR: 'it returns false'. Refute it at one input. -/
def bitmapPartsWrong : ChangeSpec := { name := "bitmapParts", fn := fun _ => fun
  | [d1, d2, d3] => { results := [.lit (.bool false)], args := [d1, d2, d3] }
  | _ => none }
def BitmapPartsWrongFalsely : Prop := bitmapPartsRow.holds Tryd.pinned (OpenSpec.ofChange bitmapPartsWrong)

/-- 'indeliblelaw04.BitmapCounts': WHATEVER THE INPUT: true; the input reads as it did. -/
def bitmapCountsSpec : ChangeSpec := { name := "bitmapCounts", fn := fun _ => fun
  | [d1, d2, d3] => { results := [.lit (.bool true)], args := [d1, d2, d3] }
  | _ => none }
def bitmapCountsRow : OpenClaim := { program := "ytaafmgkjfmngjaadoor", sum := "05cbe0e37451fbc0d1367ab5c51ac95f70a0c7672def4aeed46b3eea332b3f41", func := "indelible/indeliblelaw04.BitmapCounts", spec := "bitmapCounts", inPlace := ["internal/abi.NoEscape", "internal/bytealg.CountString", "internal/bytealg.IndexByteString", "internal/bytealg.IndexString"], unfollowed := true, recurses := true, named := ["unicode/utf8.first", "unicode/utf8.acceptRanges", "internal/bytealg.MaxLen"], apart := false, laid := [("unicode/utf8.acceptRanges", laid_unicode_utf8_acceptRanges), ("unicode/utf8.first", laid_unicode_utf8_first)] }
def BitmapCountsSaid : Prop := bitmapCountsRow.holds Tryd.pinned (OpenSpec.ofChange bitmapCountsSpec)

/-- ITS FALSE NEIGHBOUR: 'it returns false'. Refute it at one input. -/
def bitmapCountsWrong : ChangeSpec := { name := "bitmapCounts", fn := fun _ => fun
  | [d1, d2, d3] => { results := [.lit (.bool false)], args := [d1, d2, d3] }
  | _ => none }
def BitmapCountsWrongFalsely : Prop := bitmapCountsRow.holds Tryd.pinned (OpenSpec.ofChange bitmapCountsWrong)

/-- 'indeliblelaw04.BitmapForms': WHATEVER THE INPUT: true; the input reads as it did. -/
def bitmapFormsSpec : ChangeSpec := { name := "bitmapForms", fn := fun _ => fun
  | [d1, d2, d3] => { results := [.lit (.bool true)], args := [d1, d2, d3] }
  | _ => none }
def bitmapFormsRow : OpenClaim := { program := "ytaafmgkjfmngjaadoor", sum := "05cbe0e37451fbc0d1367ab5c51ac95f70a0c7672def4aeed46b3eea332b3f41", func := "indelible/indeliblelaw04.BitmapForms", spec := "bitmapForms", inPlace := ["internal/abi.NoEscape", "internal/bytealg.CountString", "internal/bytealg.IndexByteString", "internal/bytealg.IndexString"], unfollowed := true, recurses := true, named := ["unicode/utf8.first", "unicode/utf8.acceptRanges", "internal/bytealg.MaxLen"], apart := false, laid := [("unicode/utf8.acceptRanges", laid_unicode_utf8_acceptRanges), ("unicode/utf8.first", laid_unicode_utf8_first)] }
def BitmapFormsSaid : Prop := bitmapFormsRow.holds Tryd.pinned (OpenSpec.ofChange bitmapFormsSpec)

/-- ITS FALSE NEIGHBOUR: 'it returns false'. Refute it at one input. -/
def bitmapFormsWrong : ChangeSpec := { name := "bitmapForms", fn := fun _ => fun
  | [d1, d2, d3] => { results := [.lit (.bool false)], args := [d1, d2, d3] }
  | _ => none }
def BitmapFormsWrongFalsely : Prop := bitmapFormsRow.holds Tryd.pinned (OpenSpec.ofChange bitmapFormsWrong)

/-- 'indeliblelaw04.BitmapDots': WHATEVER THE INPUT: true; the input reads as it did. -/
def bitmapDotsSpec : ChangeSpec := { name := "bitmapDots", fn := fun _ => fun
  | [d] => { results := [.lit (.bool true)], args := [d] }
  | _ => none }
def bitmapDotsRow : OpenClaim := { program := "ytaafmgkjfmngjaadoor", sum := "05cbe0e37451fbc0d1367ab5c51ac95f70a0c7672def4aeed46b3eea332b3f41", func := "indelible/indeliblelaw04.BitmapDots", spec := "bitmapDots", inPlace := ["internal/abi.NoEscape", "internal/bytealg.CountString", "internal/bytealg.IndexByteString", "internal/bytealg.IndexString"], unfollowed := true, recurses := true, named := ["unicode/utf8.first", "unicode/utf8.acceptRanges", "internal/bytealg.MaxLen"], apart := false, laid := [("unicode/utf8.acceptRanges", laid_unicode_utf8_acceptRanges), ("unicode/utf8.first", laid_unicode_utf8_first)] }
def BitmapDotsSaid : Prop := bitmapDotsRow.holds Tryd.pinned (OpenSpec.ofChange bitmapDotsSpec)

/-- ITS FALSE NEIGHBOUR: 'it returns false'. Refute it at one input. -/
def bitmapDotsWrong : ChangeSpec := { name := "bitmapDots", fn := fun _ => fun
  | [d] => { results := [.lit (.bool false)], args := [d] }
  | _ => none }
def BitmapDotsWrongFalsely : Prop := bitmapDotsRow.holds Tryd.pinned (OpenSpec.ofChange bitmapDotsWrong)

/-- 'indeliblelaw04.BitmapTexts': WHATEVER THE INPUT: true; the input reads as it did. -/
def bitmapTextsSpec : ChangeSpec := { name := "bitmapTexts", fn := fun _ => fun
  | [d1, d2] => { results := [.lit (.bool true)], args := [d1, d2] }
  | _ => none }
def bitmapTextsRow : OpenClaim := { program := "ytaafmgkjfmngjaadoor", sum := "05cbe0e37451fbc0d1367ab5c51ac95f70a0c7672def4aeed46b3eea332b3f41", func := "indelible/indeliblelaw04.BitmapTexts", spec := "bitmapTexts", inPlace := ["internal/abi.NoEscape", "internal/bytealg.CountString", "internal/bytealg.IndexByteString", "internal/bytealg.IndexString"], unfollowed := true, recurses := true, named := ["unicode/utf8.first", "unicode/utf8.acceptRanges", "internal/bytealg.MaxLen"], apart := false, laid := [("unicode/utf8.acceptRanges", laid_unicode_utf8_acceptRanges), ("unicode/utf8.first", laid_unicode_utf8_first)] }
def BitmapTextsSaid : Prop := bitmapTextsRow.holds Tryd.pinned (OpenSpec.ofChange bitmapTextsSpec)

/-- ITS FALSE NEIGHBOUR: 'it returns false'. Refute it at one input. -/
def bitmapTextsWrong : ChangeSpec := { name := "bitmapTexts", fn := fun _ => fun
  | [d1, d2] => { results := [.lit (.bool false)], args := [d1, d2] }
  | _ => none }
def BitmapTextsWrongFalsely : Prop := bitmapTextsRow.holds Tryd.pinned (OpenSpec.ofChange bitmapTextsWrong)

/- THE SECOND FORM. 'bulk': how many values and letters a reading holds, each counted each time it is reached (what is shared counts as often as it is met; a slice's spare places count too). A statement '..UptoSaid' is the law's where the arguments, and the package variables that the reading takes, are together of bulk at most 1048576: NARROWER than '..Said'. Prove '..Said' where nothing that the law and all that it calls make is longer than what came in: it says more and counts as full. Else prove '..UptoSaid'. A law counts once. -/
mutual
def uptoBulk {H : Type} : DataW H → Nat
  | .lit (.string bytes) => bytes.length + 1
  | .lit _ => 1
  | .nil => 1
  | .ptr d => uptoBulk d + 1
  | .slice elems spare => uptoBulkAll elems + uptoBulkAll spare + 1
  | .agg parts => uptoBulkAll parts + 1
  | .iface _ d => uptoBulk d + 1
  | .map entries => uptoBulkEntries entries + 1
  | .held _ => 1
def uptoBulkAll {H : Type} : List (DataW H) → Nat
  | [] => 0
  | d :: r => uptoBulk d + uptoBulkAll r
def uptoBulkEntries {H : Type} : List (Lit × DataW H) → Nat
  | [] => 0
  | x :: r => uptoBulkEntry x + uptoBulkEntries r
def uptoBulkEntry {H : Type} : Lit × DataW H → Nat
  | (.string bytes, d) => bytes.length + uptoBulk d + 1
  | (_, d) => uptoBulk d + 1
 end
def uptoSmall : (H : Type) → List (DataW H) → Bool := fun _ ds => decide (uptoBulkAll ds ≤ 1048576)
def OpenSpec.upto (s : _root_.Go.ChangeSpec) : _root_.Go.OpenSpec := { _root_.Go.OpenSpec.ofChange s with cond := some uptoSmall }

/-- 'indeliblelaw04.BitmapParts', WHERE WHAT IT READS IS OF BULK AT MOST 1048576: true; the input reads as it did. -/
def bitmapPartsUptoRow : OpenClaim := { program := "ytaafmgkjfmngjaadoor", sum := "05cbe0e37451fbc0d1367ab5c51ac95f70a0c7672def4aeed46b3eea332b3f41", func := "indelible/indeliblelaw04.BitmapParts", spec := "bitmapParts", inPlace := ["internal/abi.NoEscape", "internal/bytealg.CountString", "internal/bytealg.IndexByteString", "internal/bytealg.IndexString"], unfollowed := true, recurses := true, named := ["unicode/utf8.first", "unicode/utf8.acceptRanges", "internal/bytealg.MaxLen"], apart := false, laid := [("unicode/utf8.acceptRanges", laid_unicode_utf8_acceptRanges), ("unicode/utf8.first", laid_unicode_utf8_first)], narrowed := true }
def BitmapPartsUptoSaid : Prop := bitmapPartsUptoRow.holds Tryd.pinned (OpenSpec.upto bitmapPartsSpec)

/-- 'indeliblelaw04.BitmapCounts', WHERE WHAT IT READS IS OF BULK AT MOST 1048576: true; the input reads as it did. -/
def bitmapCountsUptoRow : OpenClaim := { program := "ytaafmgkjfmngjaadoor", sum := "05cbe0e37451fbc0d1367ab5c51ac95f70a0c7672def4aeed46b3eea332b3f41", func := "indelible/indeliblelaw04.BitmapCounts", spec := "bitmapCounts", inPlace := ["internal/abi.NoEscape", "internal/bytealg.CountString", "internal/bytealg.IndexByteString", "internal/bytealg.IndexString"], unfollowed := true, recurses := true, named := ["unicode/utf8.first", "unicode/utf8.acceptRanges", "internal/bytealg.MaxLen"], apart := false, laid := [("unicode/utf8.acceptRanges", laid_unicode_utf8_acceptRanges), ("unicode/utf8.first", laid_unicode_utf8_first)], narrowed := true }
def BitmapCountsUptoSaid : Prop := bitmapCountsUptoRow.holds Tryd.pinned (OpenSpec.upto bitmapCountsSpec)

/-- 'indeliblelaw04.BitmapForms', WHERE WHAT IT READS IS OF BULK AT MOST 1048576: true; the input reads as it did. -/
def bitmapFormsUptoRow : OpenClaim := { program := "ytaafmgkjfmngjaadoor", sum := "05cbe0e37451fbc0d1367ab5c51ac95f70a0c7672def4aeed46b3eea332b3f41", func := "indelible/indeliblelaw04.BitmapForms", spec := "bitmapForms", inPlace := ["internal/abi.NoEscape", "internal/bytealg.CountString", "internal/bytealg.IndexByteString", "internal/bytealg.IndexString"], unfollowed := true, recurses := true, named := ["unicode/utf8.first", "unicode/utf8.acceptRanges", "internal/bytealg.MaxLen"], apart := false, laid := [("unicode/utf8.acceptRanges", laid_unicode_utf8_acceptRanges), ("unicode/utf8.first", laid_unicode_utf8_first)], narrowed := true }
def BitmapFormsUptoSaid : Prop := bitmapFormsUptoRow.holds Tryd.pinned (OpenSpec.upto bitmapFormsSpec)

/-- 'indeliblelaw04.BitmapDots', WHERE WHAT IT READS IS OF BULK AT MOST 1048576: true; the input reads as it did. -/
def bitmapDotsUptoRow : OpenClaim := { program := "ytaafmgkjfmngjaadoor", sum := "05cbe0e37451fbc0d1367ab5c51ac95f70a0c7672def4aeed46b3eea332b3f41", func := "indelible/indeliblelaw04.BitmapDots", spec := "bitmapDots", inPlace := ["internal/abi.NoEscape", "internal/bytealg.CountString", "internal/bytealg.IndexByteString", "internal/bytealg.IndexString"], unfollowed := true, recurses := true, named := ["unicode/utf8.first", "unicode/utf8.acceptRanges", "internal/bytealg.MaxLen"], apart := false, laid := [("unicode/utf8.acceptRanges", laid_unicode_utf8_acceptRanges), ("unicode/utf8.first", laid_unicode_utf8_first)], narrowed := true }
def BitmapDotsUptoSaid : Prop := bitmapDotsUptoRow.holds Tryd.pinned (OpenSpec.upto bitmapDotsSpec)

/-- 'indeliblelaw04.BitmapTexts', WHERE WHAT IT READS IS OF BULK AT MOST 1048576: true; the input reads as it did. -/
def bitmapTextsUptoRow : OpenClaim := { program := "ytaafmgkjfmngjaadoor", sum := "05cbe0e37451fbc0d1367ab5c51ac95f70a0c7672def4aeed46b3eea332b3f41", func := "indelible/indeliblelaw04.BitmapTexts", spec := "bitmapTexts", inPlace := ["internal/abi.NoEscape", "internal/bytealg.CountString", "internal/bytealg.IndexByteString", "internal/bytealg.IndexString"], unfollowed := true, recurses := true, named := ["unicode/utf8.first", "unicode/utf8.acceptRanges", "internal/bytealg.MaxLen"], apart := false, laid := [("unicode/utf8.acceptRanges", laid_unicode_utf8_acceptRanges), ("unicode/utf8.first", laid_unicode_utf8_first)], narrowed := true }
def BitmapTextsUptoSaid : Prop := bitmapTextsUptoRow.holds Tryd.pinned (OpenSpec.upto bitmapTextsSpec)

end Rows
end Go.Proofs.YtaafmgkjfmngjaaDoor
