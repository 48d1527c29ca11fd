/-
  NARROWER THAN 'FOR EVERY INPUT', by the rows' own cells (each row's printed sentence says how): ImageParts: laid · ImageForms: laid · ImageHides: laid · ImagePuts: laid · ImageTexts: laid.
  DERIVED. THE GIVEN ROWS OF THIS SEAT. 5 by the template 'for every input the law returns true; each argument reads behind the call as it read before'; 0 by the template 'total and deterministic' (their statements: YtnhdnjhhjmgmnaaDoorTotals.lean).
  GIVEN WITH THE SEED: the statements are not yours to turn. If you find one false, say at which input.
  Laid BY PROGRAM, IN A SANDBOX (cutbox-rows.mjs): the forced cells as the released guide's own fill.sh prints them over the translation f35f3534db32acb0… (all of the seat's roots in one cut). By AI agents, Wed Nov 11 2026. No macro, syntax, notation, axiom, sorry.
-/
import Derived.Test.YtnhdnjhhjmgmnaaDoorChecked
import GoSem.PinnedTables
import GoSem.Claim
import GoSem.ClaimJoined
import GoSem.ClaimMapViews
import Derived.JoinedTies
import Derived.KernelRfl
namespace Go.Proofs.YtnhdnjhhjmgmnaaDoor
/- THE CELL 'sum', in the pinned program and in every row, IS THE sha256 OF THE DUMP (.gsa) THAT YtnhdnjhhjmgmnaaDoorProg.lean LOADS. Nothing in Lean hashes anything: it is a label: what it is worth is what the hold of that sum in a sandbox is worth. -/
noncomputable def Tryd.pinned : Pinned := { name := "ytnhdnjhhjmgmnaadoor", sum := "f35f3534db32acb0a79afa98841079a5afb71023fbfc4ebf67bd4338ddf8e768", checked := Tryd.checked }
namespace Rows
def none {H : Type} : Left H := { results := [], args := [] }

/- WHAT THE LISTED PACKAGE-LEVEL VARIABLES READ AS WHEN THE CALL BEGINS. Each datum BY PROGRAM (the guide's laid-datum.mjs) off the statement by which the dump's own 'gosem.cut.vars' lays the variable. In a bare row this is a premise. The card (YtnhdnjhhjmgmnaaDoorCards.lean) ties it to the program's text. -/
def laid_unicode_utf8_acceptRanges {H : Type} : DataW H := .agg [.agg [.lit (.int .u8 128), .lit (.int .u8 191)], .agg [.lit (.int .u8 160), .lit (.int .u8 191)], .agg [.lit (.int .u8 128), .lit (.int .u8 159)], .agg [.lit (.int .u8 144), .lit (.int .u8 191)], .agg [.lit (.int .u8 128), .lit (.int .u8 143)], .agg [.lit (.int .u8 0), .lit (.int .u8 0)], .agg [.lit (.int .u8 0), .lit (.int .u8 0)], .agg [.lit (.int .u8 0), .lit (.int .u8 0)], .agg [.lit (.int .u8 0), .lit (.int .u8 0)], .agg [.lit (.int .u8 0), .lit (.int .u8 0)], .agg [.lit (.int .u8 0), .lit (.int .u8 0)], .agg [.lit (.int .u8 0), .lit (.int .u8 0)], .agg [.lit (.int .u8 0), .lit (.int .u8 0)], .agg [.lit (.int .u8 0), .lit (.int .u8 0)], .agg [.lit (.int .u8 0), .lit (.int .u8 0)], .agg [.lit (.int .u8 0), .lit (.int .u8 0)]]
def laid_indelible_image_runes {H : Type} : DataW H := .agg [.lit (.int .i32 46), .lit (.int .i32 35), .lit (.int .i32 63)]
/-- One of Go's own tables, pinned by name: the form's constant. -/
def laid_unicode_utf8_first : DataW Unit := Go.Pinned.utf8First

/-- 'indeliblelaw22.ImageParts': WHATEVER THE INPUT: true; the input reads as it did. -/
def imagePartsSpec : ChangeSpec := { name := "imageParts", fn := fun _ => fun
  | [d1, d2, d3] => { results := [.lit (.bool true)], args := [d1, d2, d3] }
  | _ => none }
def imagePartsRow : OpenClaim := { program := "ytnhdnjhhjmgmnaadoor", sum := "f35f3534db32acb0a79afa98841079a5afb71023fbfc4ebf67bd4338ddf8e768", func := "indelible/indeliblelaw22.ImageParts", spec := "imageParts", inPlace := ["internal/abi.NoEscape", "internal/bytealg.CountString", "internal/bytealg.IndexByteString", "internal/bytealg.IndexString"], unfollowed := true, recurses := true, named := ["indelible/image.runes", "unicode/utf8.first", "unicode/utf8.acceptRanges", "internal/bytealg.MaxLen"], apart := false, laid := [("unicode/utf8.acceptRanges", laid_unicode_utf8_acceptRanges), ("indelible/image.runes", laid_indelible_image_runes), ("unicode/utf8.first", laid_unicode_utf8_first)] }
def ImagePartsSaid : Prop := imagePartsRow.holds Tryd.pinned (OpenSpec.ofChange imagePartsSpec)

/-- ITS FALSE NEIGHBOUR: 'it returns false'. Refute it at one input. -/
def imagePartsWrong : ChangeSpec := { name := "imageParts", fn := fun _ => fun
  | [d1, d2, d3] => { results := [.lit (.bool false)], args := [d1, d2, d3] }
  | _ => none }
def ImagePartsWrongFalsely : Prop := imagePartsRow.holds Tryd.pinned (OpenSpec.ofChange imagePartsWrong)

/-- 'indeliblelaw22.ImageForms': WHATEVER THE INPUT: true; the input reads as it did. -/
def imageFormsSpec : ChangeSpec := { name := "imageForms", fn := fun _ => fun
  | [d1, d2, d3] => { results := [.lit (.bool true)], args := [d1, d2, d3] }
  | _ => none }
def imageFormsRow : OpenClaim := { program := "ytnhdnjhhjmgmnaadoor", sum := "f35f3534db32acb0a79afa98841079a5afb71023fbfc4ebf67bd4338ddf8e768", func := "indelible/indeliblelaw22.ImageForms", spec := "imageForms", inPlace := ["internal/abi.NoEscape", "internal/bytealg.CountString", "internal/bytealg.IndexByteString", "internal/bytealg.IndexString"], unfollowed := true, recurses := true, named := ["indelible/image.runes", "unicode/utf8.first", "unicode/utf8.acceptRanges", "internal/bytealg.MaxLen"], apart := false, laid := [("unicode/utf8.acceptRanges", laid_unicode_utf8_acceptRanges), ("indelible/image.runes", laid_indelible_image_runes), ("unicode/utf8.first", laid_unicode_utf8_first)] }
def ImageFormsSaid : Prop := imageFormsRow.holds Tryd.pinned (OpenSpec.ofChange imageFormsSpec)

/-- ITS FALSE NEIGHBOUR: 'it returns false'. Refute it at one input. -/
def imageFormsWrong : ChangeSpec := { name := "imageForms", fn := fun _ => fun
  | [d1, d2, d3] => { results := [.lit (.bool false)], args := [d1, d2, d3] }
  | _ => none }
def ImageFormsWrongFalsely : Prop := imageFormsRow.holds Tryd.pinned (OpenSpec.ofChange imageFormsWrong)

/-- 'indeliblelaw22.ImageHides': WHATEVER THE INPUT: true; the input reads as it did. -/
def imageHidesSpec : ChangeSpec := { name := "imageHides", fn := fun _ => fun
  | [d1, d2, d3] => { results := [.lit (.bool true)], args := [d1, d2, d3] }
  | _ => none }
def imageHidesRow : OpenClaim := { program := "ytnhdnjhhjmgmnaadoor", sum := "f35f3534db32acb0a79afa98841079a5afb71023fbfc4ebf67bd4338ddf8e768", func := "indelible/indeliblelaw22.ImageHides", spec := "imageHides", inPlace := ["internal/abi.NoEscape", "internal/bytealg.CountString", "internal/bytealg.IndexByteString", "internal/bytealg.IndexString"], unfollowed := true, recurses := true, named := ["indelible/image.runes", "unicode/utf8.first", "unicode/utf8.acceptRanges", "internal/bytealg.MaxLen"], apart := false, laid := [("unicode/utf8.acceptRanges", laid_unicode_utf8_acceptRanges), ("indelible/image.runes", laid_indelible_image_runes), ("unicode/utf8.first", laid_unicode_utf8_first)] }
def ImageHidesSaid : Prop := imageHidesRow.holds Tryd.pinned (OpenSpec.ofChange imageHidesSpec)

/-- ITS FALSE NEIGHBOUR: 'it returns false'. Refute it at one input. -/
def imageHidesWrong : ChangeSpec := { name := "imageHides", fn := fun _ => fun
  | [d1, d2, d3] => { results := [.lit (.bool false)], args := [d1, d2, d3] }
  | _ => none }
def ImageHidesWrongFalsely : Prop := imageHidesRow.holds Tryd.pinned (OpenSpec.ofChange imageHidesWrong)

/-- 'indeliblelaw22.ImagePuts': WHATEVER THE INPUT: true; the input reads as it did. -/
def imagePutsSpec : ChangeSpec := { name := "imagePuts", fn := fun _ => fun
  | [d1, d2] => { results := [.lit (.bool true)], args := [d1, d2] }
  | _ => none }
def imagePutsRow : OpenClaim := { program := "ytnhdnjhhjmgmnaadoor", sum := "f35f3534db32acb0a79afa98841079a5afb71023fbfc4ebf67bd4338ddf8e768", func := "indelible/indeliblelaw22.ImagePuts", spec := "imagePuts", inPlace := ["internal/abi.NoEscape", "internal/bytealg.CountString", "internal/bytealg.IndexByteString", "internal/bytealg.IndexString"], unfollowed := true, recurses := true, named := ["indelible/image.runes", "unicode/utf8.first", "unicode/utf8.acceptRanges", "internal/bytealg.MaxLen"], apart := false, laid := [("unicode/utf8.acceptRanges", laid_unicode_utf8_acceptRanges), ("indelible/image.runes", laid_indelible_image_runes), ("unicode/utf8.first", laid_unicode_utf8_first)] }
def ImagePutsSaid : Prop := imagePutsRow.holds Tryd.pinned (OpenSpec.ofChange imagePutsSpec)

/-- ITS FALSE NEIGHBOUR: 'it returns false'. Refute it at one input. -/
def imagePutsWrong : ChangeSpec := { name := "imagePuts", fn := fun _ => fun
  | [d1, d2] => { results := [.lit (.bool false)], args := [d1, d2] }
  | _ => none }
def ImagePutsWrongFalsely : Prop := imagePutsRow.holds Tryd.pinned (OpenSpec.ofChange imagePutsWrong)

/-- 'indeliblelaw22.ImageTexts': WHATEVER THE INPUT: true; the input reads as it did. -/
def imageTextsSpec : ChangeSpec := { name := "imageTexts", fn := fun _ => fun
  | [d1, d2] => { results := [.lit (.bool true)], args := [d1, d2] }
  | _ => none }
def imageTextsRow : OpenClaim := { program := "ytnhdnjhhjmgmnaadoor", sum := "f35f3534db32acb0a79afa98841079a5afb71023fbfc4ebf67bd4338ddf8e768", func := "indelible/indeliblelaw22.ImageTexts", spec := "imageTexts", inPlace := ["internal/abi.NoEscape", "internal/bytealg.CountString", "internal/bytealg.IndexByteString", "internal/bytealg.IndexString"], unfollowed := true, recurses := true, named := ["indelible/image.runes", "unicode/utf8.first", "unicode/utf8.acceptRanges", "internal/bytealg.MaxLen"], apart := false, laid := [("unicode/utf8.acceptRanges", laid_unicode_utf8_acceptRanges), ("indelible/image.runes", laid_indelible_image_runes), ("unicode/utf8.first", laid_unicode_utf8_first)] }
def ImageTextsSaid : Prop := imageTextsRow.holds Tryd.pinned (OpenSpec.ofChange imageTextsSpec)

/-- ITS FALSE NEIGHBOUR: 'it returns false'. Refute it at one input. -/
def imageTextsWrong : ChangeSpec := { name := "imageTexts", fn := fun _ => fun
  | [d1, d2] => { results := [.lit (.bool false)], args := [d1, d2] }
  | _ => none }
def ImageTextsWrongFalsely : Prop := imageTextsRow.holds Tryd.pinned (OpenSpec.ofChange imageTextsWrong)

/- THE SECOND FORM. 'bulk': how many values and letters a reading holds, each counted each time it is reached (what is shared counts as often as it is met; a slice's spare places count too). A statement '..UptoSaid' is the law's where the arguments, and the package variables that the reading takes, are together of bulk at most 1048576: NARROWER than '..Said'. Prove '..Said' where nothing that the law and all that it calls make is longer than what came in: it says more and counts as full. Else prove '..UptoSaid'. A law counts once. -/
mutual
def uptoBulk {H : Type} : DataW H → Nat
  | .lit (.string bytes) => bytes.length + 1
  | .lit _ => 1
  | .nil => 1
  | .ptr d => uptoBulk d + 1
  | .slice elems spare => uptoBulkAll elems + uptoBulkAll spare + 1
  | .agg parts => uptoBulkAll parts + 1
  | .iface _ d => uptoBulk d + 1
  | .map entries => uptoBulkEntries entries + 1
  | .held _ => 1
def uptoBulkAll {H : Type} : List (DataW H) → Nat
  | [] => 0
  | d :: r => uptoBulk d + uptoBulkAll r
def uptoBulkEntries {H : Type} : List (Lit × DataW H) → Nat
  | [] => 0
  | x :: r => uptoBulkEntry x + uptoBulkEntries r
def uptoBulkEntry {H : Type} : Lit × DataW H → Nat
  | (.string bytes, d) => bytes.length + uptoBulk d + 1
  | (_, d) => uptoBulk d + 1
 end
def uptoSmall : (H : Type) → List (DataW H) → Bool := fun _ ds => decide (uptoBulkAll ds ≤ 1048576)
def OpenSpec.upto (s : _root_.Go.ChangeSpec) : _root_.Go.OpenSpec := { _root_.Go.OpenSpec.ofChange s with cond := some uptoSmall }

/-- 'indeliblelaw22.ImageParts', WHERE WHAT IT READS IS OF BULK AT MOST 1048576: true; the input reads as it did. -/
def imagePartsUptoRow : OpenClaim := { program := "ytnhdnjhhjmgmnaadoor", sum := "f35f3534db32acb0a79afa98841079a5afb71023fbfc4ebf67bd4338ddf8e768", func := "indelible/indeliblelaw22.ImageParts", spec := "imageParts", inPlace := ["internal/abi.NoEscape", "internal/bytealg.CountString", "internal/bytealg.IndexByteString", "internal/bytealg.IndexString"], unfollowed := true, recurses := true, named := ["indelible/image.runes", "unicode/utf8.first", "unicode/utf8.acceptRanges", "internal/bytealg.MaxLen"], apart := false, laid := [("unicode/utf8.acceptRanges", laid_unicode_utf8_acceptRanges), ("indelible/image.runes", laid_indelible_image_runes), ("unicode/utf8.first", laid_unicode_utf8_first)], narrowed := true }
def ImagePartsUptoSaid : Prop := imagePartsUptoRow.holds Tryd.pinned (OpenSpec.upto imagePartsSpec)

/-- 'indeliblelaw22.ImageForms', WHERE WHAT IT READS IS OF BULK AT MOST 1048576: true; the input reads as it did. -/
def imageFormsUptoRow : OpenClaim := { program := "ytnhdnjhhjmgmnaadoor", sum := "f35f3534db32acb0a79afa98841079a5afb71023fbfc4ebf67bd4338ddf8e768", func := "indelible/indeliblelaw22.ImageForms", spec := "imageForms", inPlace := ["internal/abi.NoEscape", "internal/bytealg.CountString", "internal/bytealg.IndexByteString", "internal/bytealg.IndexString"], unfollowed := true, recurses := true, named := ["indelible/image.runes", "unicode/utf8.first", "unicode/utf8.acceptRanges", "internal/bytealg.MaxLen"], apart := false, laid := [("unicode/utf8.acceptRanges", laid_unicode_utf8_acceptRanges), ("indelible/image.runes", laid_indelible_image_runes), ("unicode/utf8.first", laid_unicode_utf8_first)], narrowed := true }
def ImageFormsUptoSaid : Prop := imageFormsUptoRow.holds Tryd.pinned (OpenSpec.upto imageFormsSpec)

/-- 'indeliblelaw22.ImageHides', WHERE WHAT IT READS IS OF BULK AT MOST 1048576: true; the input reads as it did. -/
def imageHidesUptoRow : OpenClaim := { program := "ytnhdnjhhjmgmnaadoor", sum := "f35f3534db32acb0a79afa98841079a5afb71023fbfc4ebf67bd4338ddf8e768", func := "indelible/indeliblelaw22.ImageHides", spec := "imageHides", inPlace := ["internal/abi.NoEscape", "internal/bytealg.CountString", "internal/bytealg.IndexByteString", "internal/bytealg.IndexString"], unfollowed := true, recurses := true, named := ["indelible/image.runes", "unicode/utf8.first", "unicode/utf8.acceptRanges", "internal/bytealg.MaxLen"], apart := false, laid := [("unicode/utf8.acceptRanges", laid_unicode_utf8_acceptRanges), ("indelible/image.runes", laid_indelible_image_runes), ("unicode/utf8.first", laid_unicode_utf8_first)], narrowed := true }
def ImageHidesUptoSaid : Prop := imageHidesUptoRow.holds Tryd.pinned (OpenSpec.upto imageHidesSpec)

/-- 'indeliblelaw22.ImagePuts', WHERE WHAT IT READS IS OF BULK AT MOST 1048576: true; the input reads as it did. -/
def imagePutsUptoRow : OpenClaim := { program := "ytnhdnjhhjmgmnaadoor", sum := "f35f3534db32acb0a79afa98841079a5afb71023fbfc4ebf67bd4338ddf8e768", func := "indelible/indeliblelaw22.ImagePuts", spec := "imagePuts", inPlace := ["internal/abi.NoEscape", "internal/bytealg.CountString", "internal/bytealg.IndexByteString", "internal/bytealg.IndexString"], unfollowed := true, recurses := true, named := ["indelible/image.runes", "unicode/utf8.first", "unicode/utf8.acceptRanges", "internal/bytealg.MaxLen"], apart := false, laid := [("unicode/utf8.acceptRanges", laid_unicode_utf8_acceptRanges), ("indelible/image.runes", laid_indelible_image_runes), ("unicode/utf8.first", laid_unicode_utf8_first)], narrowed := true }
def ImagePutsUptoSaid : Prop := imagePutsUptoRow.holds Tryd.pinned (OpenSpec.upto imagePutsSpec)

/-- 'indeliblelaw22.ImageTexts', WHERE WHAT IT READS IS OF BULK AT MOST 1048576: true; the input reads as it did. -/
def imageTextsUptoRow : OpenClaim := { program := "ytnhdnjhhjmgmnaadoor", sum := "f35f3534db32acb0a79afa98841079a5afb71023fbfc4ebf67bd4338ddf8e768", func := "indelible/indeliblelaw22.ImageTexts", spec := "imageTexts", inPlace := ["internal/abi.NoEscape", "internal/bytealg.CountString", "internal/bytealg.IndexByteString", "internal/bytealg.IndexString"], unfollowed := true, recurses := true, named := ["indelible/image.runes", "unicode/utf8.first", "unicode/utf8.acceptRanges", "internal/bytealg.MaxLen"], apart := false, laid := [("unicode/utf8.acceptRanges", laid_unicode_utf8_acceptRanges), ("indelible/image.runes", laid_indelible_image_runes), ("unicode/utf8.first", laid_unicode_utf8_first)], narrowed := true }
def ImageTextsUptoSaid : Prop := imageTextsUptoRow.holds Tryd.pinned (OpenSpec.upto imageTextsSpec)

end Rows
end Go.Proofs.YtnhdnjhhjmgmnaaDoor
