/-
  Small laws that the laws of chapter 22 share: what a change of one block keeps.
-/
import Derived.Test.YtnhdnjhhjmgmnaaDoorMd22
import Derived.Test.YtnhdnjhhjmgmnaaDoorIh
import Derived.Test.YtnhdnjhhjmgmnaaDoorImV
namespace Go.Proofs.YtnhdnjhhjmgmnaaDoor
open Go.RowKit
set_option linter.unusedVariables false

theorem isBools_far {w w' : World} {lo ob : Nat} {v : Value} {l : List Bool} {c : Array Value} {T : TypeId} {f : Nat × Nat} (h : IsBools w lo v l) (hb : w.heap[ob]? = some (.cells c T f)) (hc : ∀ (i : Nat) (x : Bool), c[i]? ≠ some (.bool x)) (hch : Ch (· = ob) w w') : IsBools w' lo v l := by
  obtain ⟨A, cap, e, hl, h⟩ := h
  refine ⟨A, cap, e, hl, fun i x hi => ?_⟩
  obtain ⟨pk, po, hk, ea, h0⟩ := h i x hi
  refine ⟨pk, po, hk, ea, hch.cell h0 ?_⟩
  rintro rfl
  rw [cell_of hb] at h0
  exact hc _ _ h0
theorem isBm_far {w w' : World} {lo ob : Nat} {v : Value} {b : Bm} {c : Array Value} {T : TypeId} {f : Nat × Nat} (h : IsBm w lo v b) (hb : w.heap[ob]? = some (.cells c T f)) (hc : ∀ (i : Nat) (x : Bool), c[i]? ≠ some (.bool x)) (hch : Ch (· = ob) w w') : IsBm w' lo v b := by
  obtain ⟨s, e, h, hw⟩ := h
  exact ⟨s, e, isBools_far h hb hc hch, hw⟩
theorem isIm_far {w w' : World} {lo ob : Nat} {v : Value} {x : Im} {c : Array Value} {T : TypeId} {f : Nat × Nat} (h : IsIm w lo v x) (hb : w.heap[ob]? = some (.cells c T f)) (hc : c.size < x.2.2.length) (hch : Ch (· = ob) w w') : IsIm w' lo v x := by
  obtain ⟨s, e, h, hw⟩ := h
  exact ⟨s, e, isInts_far h hb hc hch, hw⟩
theorem intC_not {l : List Int} (i : Nat) (x : Bool) : (intC l)[i]? ≠ some (.bool x) := by simp [intC]
theorem intC_size (l : List Int) : (intC l).size = l.length := by simp [intC]
theorem hideM_form {a b : Int} {px : List Int} (f t : Int) (h : imOk (a, b, px)) : ∃ py, hideM (a, b, px) f t = (a, b, py) ∧ py.length = px.length ∧ imOk (a, b, py) ∧ ∀ (k : Nat) (p : Int), px[k]? = some p → py[k]? = some (hideP a f t k p) :=
  ⟨_, hideM_of h, hideL_len _ _ _ _, hideL_ok h, fun k p hk => hideL_get hk⟩
theorem MaxOk.lt {w : World} (h : MaxOk w) : 1 < w.heap.size := by obtain ⟨m, h⟩ := h; exact World.block_lt_of_cell? w ⟨1, _, none⟩ h
end Go.Proofs.YtnhdnjhhjmgmnaaDoor
