/-
  A program, and four numbers, read as data.
-/
import Derived.Test.YtdpbdcaefdcooaaGreatDoorCardV
import Derived.Test.YtdpbdcaefdcooaaGreatDoorR8e
namespace Go.Proofs.YtdpbdcaefdcooaaGreatDoor
open Go.ChangeShapes Go.WideShapes Go.ChangeAt Go.RowKit Go.Deep
set_option linter.unusedVariables false
set_option linter.unusedSimpArgs false
set_option maxRecDepth 100000

section
variable {H : Type} {enc : TypeId × Value → H} {W : World}
theorem open_Arr4 {v : Value} {d : DataW H} {ps : List MemPlace} {r : Reach} {b0 : Nat} (hv : Value.okWide Tryz.prog W r b0 23 v) (h : DataW.Trod enc Tryz.prog W 0 (fun _ => true) true 23 v d ps) :
    ∃ a b c e, v = .agg #[.int .i64 a, .int .i64 b, .int .i64 c, .int .i64 e] ∧ wfI a ∧ wfI b ∧ wfI c ∧ wfI e := by
  obtain ⟨l, rfl, hl⟩ := ok_arr Tryz.underlying23 hv
  rw [show Tryz.prog.cellsOf 23 = 4 from by kernel_rfl] at hl
  match l, hl with
  | [c0, c1, c2, c3], _ =>
  have each := open_arr Tryz.underlying23 (by kernel_rfl) h rfl
  obtain ⟨_, _, h0⟩ := each 0 c0 rfl
  obtain ⟨_, _, h1⟩ := each 1 c1 rfl
  obtain ⟨_, _, h2⟩ := each 2 c2 rfl
  obtain ⟨_, _, h3⟩ := each 3 c3 rfl
  obtain ⟨a, rfl, wa⟩ := open_Int1 h0
  obtain ⟨b, rfl, wb⟩ := open_Int1 h1
  obtain ⟨c, rfl, wc⟩ := open_Int1 h2
  obtain ⟨e, rfl, we⟩ := open_Int1 h3
  exact ⟨a, b, c, e, rfl, wa, wb, wc, we⟩
theorem trod_struct3 {P : Program} {w : World} {base : Nat} {spare : Nat → Bool} {held : Bool} {t : TypeId} {f0 f1 f2 : Field} {fuel : Nat} {cs : List Value} {x : DataW H × List MemPlace} (ht : P.underlying t = some (.struct #[f0, f1, f2])) (h : DataW.trod enc P w base spare held fuel t cs = some x) :
    ∃ y0 y1 y2 n, DataW.trod enc P w base spare held n f0.type ((cs.drop f0.offset).take (P.cellsOf f0.type)) = some y0 ∧
      DataW.trod enc P w base spare held n f1.type ((cs.drop f1.offset).take (P.cellsOf f1.type)) = some y1 ∧ DataW.trod enc P w base spare held n f2.type ((cs.drop f2.offset).take (P.cellsOf f2.type)) = some y2 := by
  obtain ⟨xs, n, _, rfl, hl, hlen, hf⟩ := DataW.trod_struct ht h
  match xs, hlen with
  | [y0, y1, y2], _ => exact ⟨y0, y1, y2, n, by simpa using hf 0 f0 rfl, by simpa using hf 1 f1 rfl, by simpa using hf 2 f2 rfl⟩
set_option maxRecDepth 100000 in
theorem op_cells {a : Addr} {n : Nat} {cs : List Value} {x : DataW H × List MemPlace} (h1 : W.cells? 0 a 3 = some cs) (h2 : DataW.trod enc Tryz.prog W 0 (fun _ => true) true n 49 cs = some x) :
    ∃ q : VOp, W.cell? (a.add 0) = some (.int .i64 q.1) ∧ W.cell? (a.add 1) = some (.int .i64 q.2.1) ∧ W.cell? (a.add 2) = some (.int .i64 q.2.2) ∧ wfI q.2.1 ∧ wfI q.2.2 := by
  obtain ⟨_, hlen, hcell⟩ := World.cells?_some h1
  obtain ⟨y0, y1, y2, k, g0, g1, g2⟩ := trod_struct3 Tryz.underlying49 h2
  have e3 : Tryz.prog.cellsOf 3 = 1 := by kernel_rfl
  match cs, hlen with
  | [v0, v1, v2], _ =>
  simp only [e3] at g0 g1 g2
  obtain ⟨n0, rfl, -⟩ := open_Int1 (by simpa using g0)
  obtain ⟨n1, rfl, w1⟩ := open_Int1 (by simpa using g1)
  obtain ⟨n2, rfl, w2⟩ := open_Int1 (by simpa using g2)
  exact ⟨(n0, n1, n2), by simpa using hcell 0 (by omega), by simpa using hcell 1 (by omega), by simpa using hcell 2 (by omega), w1, w2⟩

theorem open_Raw {v : Value} {A : Option Addr} {n c : Nat} {d : DataW H} {ps : List MemPlace} (hv : v = .slice A n c) (h : DataW.Trod enc Tryz.prog W 0 (fun _ => true) true 24 v d ps) : ∃ l, IsRaw W W.heap.size v l := by
  subst hv
  obtain ⟨fuel, hf⟩ := h
  have e3 : Tryz.prog.cellsOf 49 = 3 := by kernel_rfl
  rcases open_slice Tryz.underlying24 hf with ⟨hcs, _⟩ | ⟨a, len, cap, m, k, D, Pl, hcs, _, hl, hm, hmm, _, hx⟩
  · simp [Value.cells] at hcs
    obtain ⟨rfl, rfl, rfl⟩ := hcs
    exact ⟨[], ⟨none, 0, rfl, by simp, by simp, fun i c n m h => by cases h⟩, fun o ho => by cases ho⟩
  · simp [Value.cells] at hcs
    obtain ⟨rfl, rfl, rfl⟩ := hcs
    simp only [if_true] at hmm
    subst hmm
    have each : ∀ i : Fin n, ∃ q : VOp, W.cell? (a.add (i.1 * 3)) = some (.int .i64 q.1) ∧ W.cell? (a.add (i.1 * 3 + 1)) = some (.int .i64 q.2.1) ∧ W.cell? (a.add (i.1 * 3 + 2)) = some (.int .i64 q.2.2) ∧ wfI q.2.1 ∧ wfI q.2.2 := by
      intro i
      obtain ⟨cs', h1, h2⟩ := hx i.1 (by omega)
      rw [e3] at h1
      obtain ⟨q, c0, c1, c2, c3⟩ := op_cells h1 h2
      rw [add_add] at c0 c1 c2
      exact ⟨q, c0, c1, c2, c3⟩
    obtain ⟨f, hf'⟩ := Classical.axiomOfChoice each
    have numw : ∀ z : Int, wfI z → numOk z := fun z hz => by unfold wfI at hz; unfold numOk; omega
    refine ⟨List.ofFn f, ⟨some a, m, by simp, by simp; omega, by unfold maxLen at hm; omega, fun i c' n' m' hi => ?_⟩, fun o ho => by
      obtain ⟨i, rfl⟩ := List.mem_ofFn.1 ho
      obtain ⟨-, -, -, h1, h2⟩ := hf' i
      exact ⟨numw _ h1, numw _ h2⟩⟩
    have hin : i < n := by have := (List.getElem?_eq_some_iff.1 hi).1; simpa using this
    simp [hin] at hi
    have hq := hf' ⟨i, hin⟩
    rw [hi] at hq
    have h0 := hf' ⟨0, by omega⟩
    have hs : a.spot = none := by simpa [Addr.add] using World.cell?_spot h0.1
    simp only [add_off hs] at hq
    obtain ⟨q0, q1, q2, -⟩ := hq
    refine ⟨a.block, a.off, World.block_lt_of_cell? W ⟨a.block, _, none⟩ q0, ?_, q0, by rw [Nat.add_assoc]; exact q1, by rw [Nat.add_assoc]; exact q2⟩
    obtain ⟨b, o, s⟩ := a
    simp only at hs
    subst hs
    rfl
end
end Go.Proofs.YtdpbdcaefdcooaaGreatDoor
