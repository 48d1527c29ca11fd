/-
  A law's argument: an outline of whatever size.
-/
import Derived.Test.YtlgcijafjcfnhaaRuns
import Derived.Test.YtlgcijafjcfnhaaOpenO
namespace Go.Proofs.Ytlgcijafjcfnhaa
open Go.ChangeShapes Go.WideShapes Go.ChangeAt Go.RowKit Go.Deep
set_option linter.unusedVariables false
set_option linter.unusedSimpArgs false

section
variable {H : Type} {enc : TypeId × Value → H} {W : World}
set_option maxRecDepth 100000 in
theorem pt_cells {a : Addr} {n : Nat} {cs : List Value} {x : DataW H × List MemPlace} (h1 : W.cells? 0 a 3 = some cs) (h2 : DataW.trod enc Try.prog W 0 (fun _ => true) true n 53 cs = some x) :
    ∃ q : Pt, wfP q ∧ W.cell? (a.add 0) = some (.int .i64 q.1) ∧ W.cell? (a.add 1) = some (.int .i64 q.2.1) ∧ W.cell? (a.add 2) = some (.bool q.2.2) := by
  obtain ⟨_, hlen, hcell⟩ := World.cells?_some h1
  obtain ⟨y0, y1, y2, k, -, -, g0, g1, g2⟩ := trod_struct3 Try.underlying53 h2
  have e3 : Try.prog.cellsOf 3 = 1 := by kernel_rfl
  have e4 : Try.prog.cellsOf 4 = 1 := by kernel_rfl
  match cs, hlen with
  | [v0, v1, v2], _ =>
  simp only [e3, e4] at g0 g1 g2
  obtain ⟨n0, rfl, w0⟩ := open_Int1 (by simpa using g0)
  obtain ⟨n1, rfl, w1⟩ := open_Int1 (by simpa using g1)
  obtain ⟨b, hb, -⟩ := DataW.trod_bool Try.underlying4 g2
  simp at hb
  subst hb
  exact ⟨(n0, n1, b), ⟨w0, w1⟩, by simpa using hcell 0 (by omega), by simpa using hcell 1 (by omega), by simpa using hcell 2 (by omega)⟩

theorem open_Pts1 {cv : Value} {fuel : Nat} {x : DataW H × List MemPlace} (hf : DataW.trod enc Try.prog W 0 (fun _ => true) true fuel 32 [cv] = some x) : ∃ l : List Pt, (∀ q ∈ l, wfP q) ∧ IsPtsR W W.heap.size cv l := by
  have e3 : Try.prog.cellsOf 53 = 3 := by kernel_rfl
  rcases open_slice Try.underlying32 hf with ⟨hcs, _⟩ | ⟨a, n, cap, m, k, D, Pl, hcs, _, hl, hm, hmm, _, hx⟩
  · simp at hcs
    subst hcs
    exact ⟨[], by simp, none, 0, rfl, by simp, by simp, fun _ => rfl, fun i q h => by cases h⟩
  · simp at hcs
    subst hcs
    simp only [if_true] at hmm
    subst hmm
    have each : ∀ i : Fin n, ∃ q : Pt, wfP q ∧ W.cell? (a.add (i.1 * 3)) = some (.int .i64 q.1) ∧ W.cell? (a.add (i.1 * 3 + 1)) = some (.int .i64 q.2.1) ∧ W.cell? (a.add (i.1 * 3 + 2)) = some (.bool q.2.2) := by
      intro i
      obtain ⟨cs', h1, h2⟩ := hx i.1 (by omega)
      rw [e3] at h1
      obtain ⟨q, wq, c0, c1, c2⟩ := pt_cells h1 h2
      rw [add_add] at c0 c1 c2
      exact ⟨q, wq, c0, c1, c2⟩
    obtain ⟨f, hf'⟩ := Classical.axiomOfChoice each
    refine ⟨List.ofFn f, ?_, some a, m, by simp, by simp; omega, by unfold maxLen at hm; omega, (fun h => by cases h), fun i q hi => ?_⟩
    · intro q hq
      obtain ⟨i, rfl⟩ := (List.mem_ofFn).1 hq
      exact (hf' i).1
    have hin : i < n := by have := (List.getElem?_eq_some_iff.1 hi).1; simpa using this
    simp [hin] at hi
    have hq := (hf' ⟨i, hin⟩).2
    rw [hi] at hq
    have h0 := (hf' ⟨0, by omega⟩).2
    have hs : a.spot = none := by simpa [Addr.add] using World.cell?_spot h0.1
    simp only [add_off hs] at hq
    obtain ⟨q0, q1, q2⟩ := hq
    refine ⟨a.block, a.off, World.block_lt_of_cell? W ⟨a.block, _, none⟩ q0, ?_, q0, by rw [Nat.add_assoc]; exact q1, by rw [Nat.add_assoc]; exact q2⟩
    obtain ⟨b, o, s⟩ := a
    simp only at hs
    subst hs
    rfl

theorem open_Outs {v : Value} {A : Option Addr} {n c : Nat} {d : DataW H} {ps : List MemPlace} (hv : v = .slice A n c) (h : DataW.Trod enc Try.prog W 0 (fun _ => true) true 28 v d ps) : ∃ o, IsOutR W W.heap.size v o := by
  subst hv
  obtain ⟨fuel, hf⟩ := h
  have e1 : Try.prog.cellsOf 32 = 1 := by kernel_rfl
  rcases open_slice Try.underlying28 hf with ⟨hcs, _⟩ | ⟨a, len, cap, m, k, D, Pl, hcs, _, hl, hm, hmm, _, hx⟩
  · simp [Value.cells] at hcs
    obtain ⟨rfl, rfl, rfl⟩ := hcs
    exact ⟨[], none, 0, rfl, by simp, fun k c h => by cases h⟩
  · simp [Value.cells] at hcs
    obtain ⟨rfl, rfl, rfl⟩ := hcs
    simp only [if_true] at hmm
    subst hmm
    have each : ∀ i : Fin n, ∃ q : Value × List Pt, W.cell? (a.add i.1) = some q.1 ∧ (∀ p ∈ q.2, wfP p) ∧ IsPtsR W W.heap.size q.1 q.2 := by
      intro i
      obtain ⟨cs', h1, h2⟩ := hx i.1 (by omega)
      rw [e1] at h1
      obtain ⟨_, hlen, hcell⟩ := World.cells?_some h1
      match cs', hlen with
      | [cv], _ =>
      obtain ⟨l, hw, hp⟩ := open_Pts1 h2
      have h0 := hcell 0 (by omega)
      rw [add_add] at h0
      exact ⟨(cv, l), by simpa using h0, hw, hp⟩
    obtain ⟨f, hf'⟩ := Classical.axiomOfChoice each
    refine ⟨List.ofFn fun i => (f i).2, some a, m, by simp, by simp; unfold maxLen at hm; omega, fun i q hi => ?_⟩
    have hin : i < n := by have := (List.getElem?_eq_some_iff.1 hi).1; simpa using this
    simp [hin] at hi
    have hq := hf' ⟨i, hin⟩
    have h0 := (hf' ⟨0, by omega⟩).1
    have hs : a.spot = none := by simpa [Addr.add] using World.cell?_spot h0
    simp only [add_off hs] at hq
    obtain ⟨q0, q1, q2⟩ := hq
    rw [hi] at q1 q2
    refine ⟨q1, a.block, a.off, _, World.block_lt_of_cell? W ⟨a.block, _, none⟩ q0, ?_, q0, q2⟩
    obtain ⟨b, o, s⟩ := a
    simp only at hs
    subst hs
    rfl
end
end Go.Proofs.Ytlgcijafjcfnhaa
