/-
  A string of one byte, made out of a slice.
-/
import Derived.Test.YtnibgjpbijlhbaaDoorCut
import Derived.Laws.IdiomStrings
namespace Go.Proofs.YtnibgjpbijlhbaaDoor
open Go.RowKit Go.Shelf
set_option linter.unusedVariables false

theorem str_one (c : UInt8) (m : Int) (hm : (c.toNat : Int) = m) (w : World) : (convert 51 9 (.slice (some ⟨w.heap.size, 0, none⟩) 1 1)).run Tryd.prog (w.alloc (.cells #[.int .u8 m] 5)) = .ok (.string ⟨#[c]⟩) (w.alloc (.cells #[.int .u8 m] 5)) := by
  refine run_convert_bytes_back _ 51 9 5 ⟨w.heap.size, 0, none⟩ 1 [c] Tryd.underlying51 Tryd.underlying5 Tryd.underlying9 (fun j hj => ?_)
  have h0 : j = 0 := by simp at hj; omega
  subst h0
  subst hm
  exact cell_alloc_new rfl rfl

end Go.Proofs.YtnibgjpbijlhbaaDoor
