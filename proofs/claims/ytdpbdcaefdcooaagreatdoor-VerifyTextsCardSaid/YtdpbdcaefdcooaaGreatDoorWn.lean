/-
  Names for worlds within a walk (in seats without bitmaps). No conditions: plain lemmas.
-/
import Derived.Test.YtdpbdcaefdcooaaGreatDoorRegV
namespace Go.Proofs.YtdpbdcaefdcooaaGreatDoor
open Go.RowKit
theorem wp_named {P : Program} {c : Code} {Q : Exit → Act → World → Prop} {a : Act} {w : World} (h : ∀ W, W = w → Code.wp P c Q a W) : Code.wp P c Q a w := h _ rfl
theorem nof {L : Nat} : ∀ k : Nat, k < L → ¬ (fun _ : Nat => False) k := fun _ _ h => h
theorem alloc_size (w : World) (o : Obj) : (w.alloc o).heap.size = w.heap.size + 1 := Array.size_push _
end Go.Proofs.YtdpbdcaefdcooaaGreatDoor
