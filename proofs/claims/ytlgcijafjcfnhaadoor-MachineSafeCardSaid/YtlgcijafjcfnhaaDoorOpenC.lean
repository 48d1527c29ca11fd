/-
  A law's arguments: a case, a program: what their reading as data says of memory.
-/
import Derived.Test.YtlgcijafjcfnhaaDoorCase
import Derived.Test.YtlgcijafjcfnhaaDoorOpen
import Derived.Deep.Strs
import Derived.Laws.IdiomArrays
namespace Go.Proofs.YtlgcijafjcfnhaaDoor
open Go.ChangeShapes Go.WideShapes Go.ChangeAt Go.RowKit Go.Deep
set_option linter.unusedVariables false
set_option linter.unusedSimpArgs false

section
variable {H : Type} {enc : TypeId × Value → H} {W : World}
theorem open_Ints1 {cv : Value} {fuel : Nat} {x : DataW H × List MemPlace} (h : DataW.trod enc Tryd.prog W 0 (fun _ => true) true fuel 23 [cv] = some x) : ∃ l, IsInts W W.heap.size cv l := by
  have hs : ∃ A n c, cv = .slice A n c := by
    rcases open_ints Tryd.underlying23 Tryd.underlying3 (by kernel_rfl) h with ⟨hcs, _⟩ | ⟨x, l, c', zs, hcs, _⟩
    · simp at hcs; exact ⟨_, _, _, hcs⟩
    · simp at hcs; exact ⟨_, _, _, hcs⟩
  obtain ⟨A, n, c, rfl⟩ := hs
  exact open_Ints rfl ⟨fuel, by simpa [Value.cells] using h⟩
theorem open_Intss1 {cv : Value} {fuel : Nat} {x : DataW H × List MemPlace} (h : DataW.trod enc Tryd.prog W 0 (fun _ => true) true fuel 22 [cv] = some x) : ∃ l, IsIntss W W.heap.size cv l := by
  have hs : ∃ A n c, cv = .slice A n c := by
    rcases open_int_rows Tryd.underlying22 Tryd.underlying23 Tryd.underlying3 (by kernel_rfl) (by kernel_rfl) h with ⟨hcs, _⟩ | ⟨a, len, cap, A', L, C, Z, hcs, _⟩
    · simp at hcs; exact ⟨_, _, _, hcs⟩
    · simp at hcs; exact ⟨_, _, _, hcs⟩
  obtain ⟨A, n, c, rfl⟩ := hs
  exact open_Intss rfl ⟨fuel, by simpa [Value.cells] using h⟩
theorem open_Int1 {cv : Value} {fuel : Nat} {x : DataW H × List MemPlace} (h : DataW.trod enc Tryd.prog W 0 (fun _ => true) true fuel 3 [cv] = some x) : ∃ n, cv = .int .i64 n ∧ wfI n := by
  obtain ⟨n, hc, _, hw⟩ := DataW.trod_int Tryd.underlying3 h
  simp at hc
  exact ⟨n, hc, wf_of_lit hw⟩

set_option maxRecDepth 100000 in
theorem open_Case {v : Value} {d : DataW H} {ps : List MemPlace} {r : Reach} {b0 : Nat} (hv : Value.okWide Tryd.prog W r b0 26 v) (h : DataW.Trod enc Tryd.prog W 0 (fun _ => true) true 26 v d ps) : ∃ c, IsCase W W.heap.size v c := by
  obtain ⟨cs, rfl, hsz⟩ := okWide_struct Tryd.underlying26 hv
  have h5 : Tryd.prog.cellsOf 26 = 5 := by kernel_rfl
  rw [h5] at hsz
  obtain ⟨l, rfl⟩ : ∃ l : List Value, cs = l.toArray := ⟨cs.toList, by simp⟩
  match l, hsz with
  | [c0, c1, c2, c3, c4], _ =>
  obtain ⟨fuel, hf⟩ := h
  obtain ⟨y0, y1, y2, n, -, -, h0, h1, h2⟩ := trod_struct3 Tryd.underlying26 hf
  have e0 : Tryd.prog.cellsOf 22 = 1 := by kernel_rfl
  have e1 : Tryd.prog.cellsOf 23 = 1 := by kernel_rfl
  have e2 : Tryd.prog.cellsOf 24 = 3 := by kernel_rfl
  have e3 : Tryd.prog.cellsOf 3 = 1 := by kernel_rfl
  simp only [e0, e1, e2, Value.cells] at h0 h1 h2
  obtain ⟨z0, z1, z2, m, -, g0, g1, g2⟩ := trod_array3 Tryd.underlying24 e3 (by simpa using h2)
  obtain ⟨L, hL⟩ := open_Intss1 (by simpa using h0)
  obtain ⟨l', hl⟩ := open_Ints1 (by simpa using h1)
  obtain ⟨n0, rfl, w0⟩ := open_Int1 g0
  obtain ⟨n1, rfl, w1⟩ := open_Int1 g1
  obtain ⟨n2, rfl, w2⟩ := open_Int1 g2
  exact ⟨(L, l', n0, n1, n2), c0, c1, rfl, hL, hl, w0, w1, w2⟩

end
end Go.Proofs.YtlgcijafjcfnhaaDoor
