/-
  A law's arguments: what their reading as data says of memory ('IsInts', 'IsIntss'); they read as they did where no old block has changed.
-/
import Derived.Test.YtlgcijafjcfnhaaDoorMade6
import Derived.Deep.Matrix
import Derived.Carry
import Derived.ProofKit
import Derived.OpenShut
namespace Go.Proofs.YtlgcijafjcfnhaaDoor
open Go.ChangeShapes Go.WideShapes Go.ChangeAt Go.RowKit Go.Deep
set_option linter.unusedVariables false

theorem laidOut : laidOutB Tryd.prog = true := by kernel_rfl

theorem wf_of_lit {n : Int} (h : (Lit.int .i64 n).wf = true) : wfI n := by
  simp only [Lit.wf, Bool.and_eq_true, decide_eq_true_eq] at h
  simp [IntKind.min, IntKind.max, IntKind.bits, IntKind.signed] at h
  unfold wfI
  omega

theorem add_off {a : Addr} (h : a.spot = none) (j : Nat) : a.add j = ⟨a.block, a.off + j, none⟩ := by
  obtain ⟨b, o, s⟩ := a
  simp only at h
  subst h
  unfold Addr.add
  split <;> simp_all

/-- The numbers of a slice, from cells. -/
theorem isInts_cells {w : World} {A : Option Addr} {n c : Nat} {zs : List Int} (hl : n ≤ zs.length) (hm : zs.length ≤ maxLen) (hw : ∀ z ∈ zs, (Lit.int .i64 z).wf = true)
    (hc : ∀ i, i < n → ∃ a, A = some a ∧ w.cell? (a.add i) = some (.int .i64 (zs.getD i 0))) : IsInts w w.heap.size (.slice A n c) (zs.take n) := by
  have hlen : (zs.take n).length = n := by simp; omega
  refine ⟨A, c, by rw [hlen], by rw [hlen]; unfold maxLen at hm; omega, fun i x hi => ?_⟩
  have hin : i < n := by have := (List.getElem?_eq_some_iff.1 hi).1; omega
  rw [List.getElem?_take, if_pos hin] at hi
  obtain ⟨a, ha, hcell⟩ := hc i hin
  have hx : zs.getD i 0 = x := by rw [List.getD_eq_getElem?_getD, hi]; rfl
  rw [hx] at hcell
  have hs : a.spot = none := by
    obtain ⟨a2, ha2, h0⟩ := hc 0 (by omega)
    rw [ha] at ha2
    cases ha2
    simpa [Addr.add] using World.cell?_spot h0
  rw [add_off hs] at hcell
  refine ⟨wf_of_lit (hw x (List.mem_of_getElem? hi)), a.block, a.off, World.block_lt_of_cell? w ⟨a.block, _, none⟩ hcell, ?_, hcell⟩
  rw [ha]
  obtain ⟨b, o, s⟩ := a
  simp only at hs
  subst hs
  rfl

section
variable {H : Type} {enc : TypeId × Value → H} {W : World}
theorem open_Ints {v : Value} {A : Option Addr} {n c : Nat} {d : DataW H} {ps : List MemPlace} (hv : v = .slice A n c) (h : DataW.Trod enc Tryd.prog W 0 (fun _ => true) true 23 v d ps) : ∃ l, IsInts W W.heap.size v l := by
  subst hv
  obtain ⟨fuel, hf⟩ := h
  rcases open_ints Tryd.underlying23 Tryd.underlying3 (by kernel_rfl) hf with ⟨hcs, _⟩ | ⟨x, l, c', zs, hcs, _, hl, hm, hz, _, hcell, hwz⟩
  · simp [Value.cells] at hcs
    obtain ⟨rfl, rfl, rfl⟩ := hcs
    exact ⟨[], none, 0, rfl, by simp, fun i x h => by cases h⟩
  · simp [Value.cells] at hcs
    obtain ⟨rfl, rfl, rfl⟩ := hcs
    simp only [if_true] at hz
    exact ⟨_, isInts_cells (by omega) (by omega) hwz fun i hi => ⟨_, rfl, hcell i (by omega)⟩⟩

theorem open_Intss {v : Value} {A : Option Addr} {n c : Nat} {d : DataW H} {ps : List MemPlace} (hv : v = .slice A n c) (h : DataW.Trod enc Tryd.prog W 0 (fun _ => true) true 22 v d ps) : ∃ L, IsIntss W W.heap.size v L := by
  subst hv
  obtain ⟨fuel, hf⟩ := h
  rcases open_int_rows Tryd.underlying22 Tryd.underlying23 Tryd.underlying3 (by kernel_rfl) (by kernel_rfl) hf with ⟨hcs, _⟩ | ⟨a, len, cap, A', L, C, Z, hcs, _, hl, hm, _, hrow⟩
  · simp [Value.cells] at hcs
    obtain ⟨rfl, rfl, rfl⟩ := hcs
    exact ⟨[], none, 0, rfl, by simp, fun i x h => by cases h⟩
  · simp [Value.cells] at hcs
    obtain ⟨rfl, rfl, rfl⟩ := hcs
    refine ⟨(List.range n).map fun r => (Z r).take (L r), some a, c, by simp, by simp; unfold maxLen at hm; omega, fun i l hi => ?_⟩
    have hin : i < n := by have := (List.getElem?_eq_some_iff.1 hi).1; simpa using this
    simp [hin] at hi
    subst hi
    obtain ⟨h1, h2, h3, h4, h5, h6, h7⟩ := hrow i (by omega)
    have hs : a.spot = none := by simpa [Addr.add] using World.cell?_spot (hrow 0 (by omega)).1
    rw [add_off hs] at h1
    refine ⟨_, a.block, a.off, World.block_lt_of_cell? W ⟨a.block, _, none⟩ h1, ?_, h1, isInts_cells (by omega) (by omega) h5 fun j hj => ?_⟩
    · obtain ⟨b, o, s⟩ := a
      simp only at hs
      subst hs
      rfl
    · cases hA : A' i with
      | none => have := h6 hA; omega
      | some a' => exact ⟨a', rfl, (h7 a' hA).2 j (by omega)⟩
end
end Go.Proofs.YtlgcijafjcfnhaaDoor
