/-
  cmp.Or of two integers; pieces and runs tested for equality.
-/
import Derived.Test.YtnibgjpbijlhbaaDoorCmp
import Derived.Test.YtnibgjpbijlhbaaDoorPc
import Derived.Laws.StructEq
namespace Go.Proofs.YtnibgjpbijlhbaaDoor
open Go.RowKit Go.Shelf
set_option linter.unusedVariables false
set_option linter.unusedSimpArgs false
set_option maxRecDepth 100000

theorem cast_eq' (a b : Nat) : ((a : Int) = (b : Int)) ↔ a = b := by omega
def beqP (p q : Pc) : Bool := decide (p = q)
def beqR (p q : Rn) : Bool := decide (p = q)
theorem toList_arr (l : List UInt8) : (⟨l.toArray⟩ : ByteArray).toList = l := by rw [ByteArray.toList_eq]
theorem eqPc (p q : Pc) (w : World) : (Op.equalIn 10000 60 (.agg #[.bool p.1, .int .i64 (p.2.1 : Nat), .string ⟨p.2.2.toArray⟩]) (.agg #[.bool q.1, .int .i64 (q.2.1 : Nat), .string ⟨q.2.2.toArray⟩])).run Tryd.prog w = .ok (beqP p q) w := by
  have u3 := Tryd.underlying3
  have u4 := Tryd.underlying4
  have u5 := Tryd.underlying9
  have hS : Tryd.prog.underlying 60 = some (.struct (Tryd.prog.fieldsOf 60)) := by kernel_rfl
  have hp : Tryd.prog.stoodInHeld 60 = false := by kernel_rfl
  obtain ⟨a, n, l⟩ := p
  obtain ⟨b, m, k⟩ := q
  rw [show (10000 : Nat) = 9999 + 1 from rfl, run_equalIn_agg w 9999 60 _ _ hS hp]
  simp only [Program.fieldsOf, Tryd.underlying60]
  go_simp
  by_cases h1 : a = b <;> by_cases h2 : n = m <;> by_cases h3 : l = k <;> simp [h1, h2, h3, toList_arr, cast_eq', beqP]
theorem egPc (op : BinOp) (x y : Operand) (xs ys : Array Value) (w : World) : (eqGuard op 60 x y (.agg xs) (.agg ys)).run Tryd.prog w = .ok () w := run_eqGuard_agg w op 60 x y xs ys (by kernel_rfl)
theorem eqRn (p q : Rn) (w : World) : (Op.equalIn 10000 37 (.agg #[.int .i64 (p.1 : Nat), .int .i64 (p.2.1 : Nat), .int .i64 (p.2.2 : Nat)]) (.agg #[.int .i64 (q.1 : Nat), .int .i64 (q.2.1 : Nat), .int .i64 (q.2.2 : Nat)])).run Tryd.prog w = .ok (beqR p q) w := by
  have u3 := Tryd.underlying3
  have hS : Tryd.prog.underlying 37 = some (.struct (Tryd.prog.fieldsOf 37)) := by kernel_rfl
  have hp : Tryd.prog.stoodInHeld 37 = false := by kernel_rfl
  obtain ⟨a, n, l⟩ := p
  obtain ⟨b, m, k⟩ := q
  rw [show (10000 : Nat) = 9999 + 1 from rfl, run_equalIn_agg w 9999 37 _ _ hS hp]
  simp only [Program.fieldsOf, Tryd.underlying37]
  go_simp
  by_cases h1 : a = b <;> by_cases h2 : n = m <;> by_cases h3 : l = k <;> simp [h1, h2, h3, cast_eq', beqR]
theorem egRn (op : BinOp) (x y : Operand) (xs ys : Array Value) (w : World) : (eqGuard op 37 x y (.agg xs) (.agg ys)).run Tryd.prog w = .ok () w := run_eqGuard_agg w op 37 x y xs ys (by kernel_rfl)

set_option maxHeartbeats 2000000 in
theorem or2_any (a b : Int) (B c : Nat) {t : TypeId} {fz : Nat × Nat} (w : World) (R : Ending → World → Prop) (hB : w.heap[B]? = some (.cells #[.int .i64 a, .int .i64 b] t fz)) (hR : R (.returned (.int .i64 (or2 a b))) w) : Calls Tryd.prog 36 #[.slice (some ⟨B, 0, none⟩) 2 c] w R := by
  have HR := Lib.hid hR
  have c0 : w.cell? ⟨B, 0, none⟩ = some (.int .i64 a) := by rw [cell_of hB]; rfl
  have c1 : w.cell? ⟨B, 1, none⟩ = some (.int .i64 b) := by rw [cell_of hB]; rfl
  clear hR hB
  go_enter Tryd.func36, Tryd.ntmps36
  go_wp2
  go_loopw [5, 8] (fun _ s8 wr => Hid (wr = w) ∧ ∃ k : Nat, s8 = .int .i64 k ∧ k ≤ 2 ∧ Hid ((0 < k → a = 0) ∧ (1 < k → b = 0))) (fun _ s8 _ => 2 - (intOf s8).toNat)
  case atStart => exact ⟨Lib.hid rfl, 0, rfl, Nat.zero_le _, Lib.hid ⟨fun h => absurd h (Nat.lt_irrefl _), fun h => absurd h (by omega)⟩⟩
  case round =>
    obtain ⟨hwr, k, rfl, hk, HK⟩ := hrel
    obtain rfl := hwr.out
    match k, hk with
    | 0, _ =>
      by_cases h : a = 0
      · have e : ((a : Int) != 0) = false := by simp [h]
        have HA := Lib.hid h
        clear h
        go_wp2
        exact ⟨⟨Lib.hid (by first | rfl | trivial), 1, by go_num, by omega, Lib.hid ⟨fun _ => HA.out, fun h => absurd h (by omega)⟩⟩, by simp [intOf]⟩
      · have e : ((a : Int) != 0) = true := by simp [h]
        have HA := Lib.hid h
        clear h
        go_wp2
        exact ret_i HR.out (by unfold or2; rw [if_neg HA.out])
    | 1, _ =>
      by_cases h : b = 0
      · have e : ((b : Int) != 0) = false := by simp [h]
        have HA := Lib.hid h
        clear h
        go_wp2
        exact ⟨⟨Lib.hid (by first | rfl | trivial), 2, by go_num, by omega, Lib.hid ⟨fun _ => HK.out.1 (by omega), fun _ => HA.out⟩⟩, by simp [intOf]⟩
      · have e : ((b : Int) != 0) = true := by simp [h]
        have HA := Lib.hid (HK.out.1 (by omega))
        clear h
        go_wp2
        exact ret_i HR.out (by unfold or2; rw [if_pos HA.out])
    | 2, _ =>
      have HA := Lib.hid (HK.out.1 (by omega))
      have HB := Lib.hid (HK.out.2 (by omega))
      go_wp2
      exact ret_i HR.out (by unfold or2; rw [if_pos HA.out, HB.out])

end Go.Proofs.YtnibgjpbijlhbaaDoor
