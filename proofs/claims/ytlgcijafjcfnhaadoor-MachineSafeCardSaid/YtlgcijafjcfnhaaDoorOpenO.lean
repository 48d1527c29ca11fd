/-
  A law's argument: a program.
-/
import Derived.Test.YtlgcijafjcfnhaaDoorFour
import Derived.Test.YtlgcijafjcfnhaaDoorOpenC
namespace Go.Proofs.YtlgcijafjcfnhaaDoor
open Go.ChangeShapes Go.WideShapes Go.ChangeAt Go.RowKit Go.Deep
set_option linter.unusedVariables false
set_option linter.unusedSimpArgs false

section
variable {H : Type} {enc : TypeId × Value → H} {W : World}
set_option maxRecDepth 100000 in
theorem op_cells {a : Addr} {n : Nat} {cs : List Value} {x : DataW H × List MemPlace} (h1 : W.cells? 0 a 3 = some cs) (h2 : DataW.trod enc Tryd.prog W 0 (fun _ => true) true n 46 cs = some x) :
    ∃ q : Op3, W.cell? (a.add 0) = some (.int .i64 q.1) ∧ W.cell? (a.add 1) = some (.int .i64 q.2.1) ∧ W.cell? (a.add 2) = some (.int .i64 q.2.2) := by
  obtain ⟨_, hlen, hcell⟩ := World.cells?_some h1
  obtain ⟨y0, y1, y2, k, -, -, g0, g1, g2⟩ := trod_struct3 Tryd.underlying46 h2
  have e3 : Tryd.prog.cellsOf 3 = 1 := by kernel_rfl
  match cs, hlen with
  | [v0, v1, v2], _ =>
  simp only [e3] at g0 g1 g2
  obtain ⟨n0, rfl, -⟩ := open_Int1 (by simpa using g0)
  obtain ⟨n1, rfl, -⟩ := open_Int1 (by simpa using g1)
  obtain ⟨n2, rfl, -⟩ := open_Int1 (by simpa using g2)
  exact ⟨(n0, n1, n2), by simpa using hcell 0 (by omega), by simpa using hcell 1 (by omega), by simpa using hcell 2 (by omega)⟩

theorem open_Ops {v : Value} {A : Option Addr} {n c : Nat} {d : DataW H} {ps : List MemPlace} (hv : v = .slice A n c) (h : DataW.Trod enc Tryd.prog W 0 (fun _ => true) true 27 v d ps) : ∃ l, IsOpsR W W.heap.size v l := by
  subst hv
  obtain ⟨fuel, hf⟩ := h
  have e3 : Tryd.prog.cellsOf 46 = 3 := by kernel_rfl
  rcases open_slice Tryd.underlying27 hf with ⟨hcs, _⟩ | ⟨a, len, cap, m, k, D, Pl, hcs, _, hl, hm, hmm, _, hx⟩
  · simp [Value.cells] at hcs
    obtain ⟨rfl, rfl, rfl⟩ := hcs
    exact ⟨[], none, 0, rfl, by simp, by simp, fun _ => rfl, fun i c n m h => by cases h⟩
  · simp [Value.cells] at hcs
    obtain ⟨rfl, rfl, rfl⟩ := hcs
    simp only [if_true] at hmm
    subst hmm
    have each : ∀ i : Fin n, ∃ q : Op3, W.cell? (a.add (i.1 * 3)) = some (.int .i64 q.1) ∧ W.cell? (a.add (i.1 * 3 + 1)) = some (.int .i64 q.2.1) ∧ W.cell? (a.add (i.1 * 3 + 2)) = some (.int .i64 q.2.2) := by
      intro i
      obtain ⟨cs', h1, h2⟩ := hx i.1 (by omega)
      rw [e3] at h1
      obtain ⟨q, c0, c1, c2⟩ := op_cells h1 h2
      rw [add_add] at c0 c1 c2
      exact ⟨q, c0, c1, c2⟩
    obtain ⟨f, hf'⟩ := Classical.axiomOfChoice each
    refine ⟨List.ofFn f, some a, m, by simp, by simp; omega, by unfold maxLen at hm; omega, (fun h => by cases h), fun i c' n' m' hi => ?_⟩
    have hin : i < n := by have := (List.getElem?_eq_some_iff.1 hi).1; simpa using this
    simp [hin] at hi
    have hq := hf' ⟨i, hin⟩
    rw [hi] at hq
    have h0 := hf' ⟨0, by omega⟩
    have hs : a.spot = none := by simpa [Addr.add] using World.cell?_spot h0.1
    simp only [add_off hs] at hq
    obtain ⟨q0, q1, q2⟩ := hq
    refine ⟨a.block, a.off, World.block_lt_of_cell? W ⟨a.block, _, none⟩ q0, ?_, q0, by rw [Nat.add_assoc]; exact q1, by rw [Nat.add_assoc]; exact q2⟩
    obtain ⟨b, o, s⟩ := a
    simp only at hs
    subst hs
    rfl
end
end Go.Proofs.YtlgcijafjcfnhaaDoor
