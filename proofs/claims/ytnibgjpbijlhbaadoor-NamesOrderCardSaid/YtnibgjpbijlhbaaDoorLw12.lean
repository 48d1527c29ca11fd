/-
  What the laws of chapter 12 share: an element of four strings; sizes.
-/
import Derived.Test.YtnibgjpbijlhbaaDoorCa
import Derived.Test.YtnibgjpbijlhbaaDoorSan12
import Derived.Test.YtnibgjpbijlhbaaDoorRr
import Derived.Test.YtnibgjpbijlhbaaDoorRless
import Derived.Test.YtnibgjpbijlhbaaDoorRed
import Derived.Laws.IdiomArrays
namespace Go.Proofs.YtnibgjpbijlhbaaDoor
open Go.RowKit
set_option linter.unusedVariables false
set_option linter.unusedSimpArgs false

abbrev arr4 (S : Nat → ByteArray) : Value := .agg #[.string (S 0), .string (S 1), .string (S 2), .string (S 3)]
theorem run_idx4 (S : Nat → ByteArray) (k : Nat) (hk : k < 4) (w : World) : (Instr.index 27 (arr4 S) (.int .i64 (k : Int))).run Tryd.prog w = .ok (.string (S k)) w := by
  have h1 : (0 : Int) ≤ (k : Int) ∧ (k : Int) < ((4 : Nat) : Int) := by omega
  have h2 : sizeOf 9 = sizeOf 9 := rfl
  obtain rfl | rfl | rfl | rfl : k = 0 ∨ k = 1 ∨ k = 2 ∨ k = 3 := by omega
  all_goals simp [Instr.index, run_underlying Tryd.underlying27, asIntOf, go_sem]
theorem wp_idx4 {o : Oper} {a : Act} {w : World} {K : Act → World → Prop} {Q : Exit → Act → World → Prop} (x y : Operand) (S : Nat → ByteArray) (k : Nat) (ho : o.op = .index 27 x y) (_ : True = True)
    (hx : a.eval x = arr4 S) (hy : a.eval y = .int .i64 (k : Int)) (hk : k < 4) (h : K (a.put o.dst (.string (S k))) w) : o.wp Tryd.prog a w K Q := by
  unfold Oper.wp
  have e : (execOp a.eval o).run Tryd.prog w = .ok (.value (.string (S k))) w := by
    have h1 := run_idx4 S k hk w
    generalize a.eval = ev at hx hy ⊢
    simp [execOp, ho, hx, hy, h1, Result.andThen]
  rw [e]
  exact h
/-- Four strings in a block. -/
theorem cell4 {w : World} {g : Nat} {S : Nat → ByteArray} {T : TypeId} {f : Nat × Nat} (h : w.heap[g]? = some (.cells #[.string (S 0), .string (S 1), .string (S 2), .string (S 3)] T f)) {k : Nat} (hk : k < 4) : w.cell? ⟨g, k, none⟩ = some (.string (S k)) := by
  rw [cell_of h]
  obtain rfl | rfl | rfl | rfl : k = 0 ∨ k = 1 ∨ k = 2 ∨ k = 3 := by omega
  all_goals rfl
theorem ba_ne {p q : ByteArray} (h : p ≠ q) : (p.toList == q.toList) = false := by
  rw [beq_eq_false_iff_ne]
  intro e
  rw [ByteArray.toList_eq, ByteArray.toList_eq] at e
  exact h (ByteArray.ext (Array.toList_inj.1 e))
end Go.Proofs.YtnibgjpbijlhbaaDoor
