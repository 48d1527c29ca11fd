/-
  image.Hide: columns made unknown.
-/
import Derived.Test.YtaafmgkjfmngjaaDoorClone
import Derived.Deep.RegionHeld3
namespace Go.Proofs.YtaafmgkjfmngjaaDoor
open Go.RowKit
set_option linter.unusedVariables false
set_option linter.unusedSimpArgs false
set_option maxRecDepth 100000

theorem IRow.store {w : World} {B g n cap : Nat} {l : List Int} (h : IRow w B (.slice (some ⟨g, 0, none⟩) n cap) n l) (j : Nat) (y : Int) : IRow (w.setCell ⟨g, j, none⟩ (.int .i64 y)) B (.slice (some ⟨g, 0, none⟩) n cap) n (l.set j y) := by
  have := (World.ownsRow.stored h j (.int .i64 y)).1
  unfold IRow
  rw [List.map_set]
  exact this
theorem IRow.frozen {w : World} {B g n cap : Nat} {l : List Int} (h : IRow w B (.slice (some ⟨g, 0, none⟩) n cap) n l) (j : Nat) : w.frozen? ⟨g, j, none⟩ = false := World.ownsRow.frozenAt h j
theorem IRow.cell {w : World} {B g n cap : Nat} {l : List Int} (h : IRow w B (.slice (some ⟨g, 0, none⟩) n cap) n l) {j : Nat} {y : Int} (hj : l[j]? = some y) : w.cell? ⟨g, j, none⟩ = some (.int .i64 y) := by
  have hjl := (List.getElem?_eq_some_iff.1 hj).1
  have hn := h.len
  have := World.ownsRow.cellAt h j (by simp; omega)
  have hadd : (⟨g, 0, none⟩ : Addr).add j = ⟨g, j, none⟩ := by unfold Addr.add; split <;> simp_all
  rw [this]
  simp [hj]
theorem cell_store3 {w : World} {p : Addr} {y : Value} {g : Nat} (u v x : Value) (h : w.cell? p = some y) (hg : p.block ≠ g) : (((w.setCell ⟨g, 0, none⟩ u).setCell ⟨g, 1, none⟩ v).setCell ⟨g, 2, none⟩ x).cell? p = some y :=
  cell_setCell_ne _ (cell_setCell_ne _ (cell_setCell_ne _ h hg) hg) hg
/-- The pixels behind the first k rounds. -/
def hideS (W f t : Int) (l : List Int) (k : Nat) : List Int := (hideL W f t l).take k ++ l.drop k
theorem hideS_zero (W f t : Int) (l : List Int) : hideS W f t l 0 = l := by simp [hideS]
theorem hideS_done (W f t : Int) (l : List Int) : hideS W f t l l.length = hideL W f t l := by simp [hideS]; exact List.take_of_length_le (by rw [hideL_len]; exact Nat.le_refl _)
theorem hideS_get {W f t : Int} {l : List Int} {k : Nat} {p : Int} (h : l[k]? = some p) : (hideS W f t l k)[k]? = some p := by
  have hk := (List.getElem?_eq_some_iff.1 h).1
  unfold hideS
  rw [List.getElem?_append_right (by simp [hideL_len]; omega)]
  simp [hideL_len, Nat.min_eq_left (Nat.le_of_lt hk), h]
theorem hideS_step {W f t : Int} {l : List Int} {k : Nat} {p : Int} (h : l[k]? = some p) : hideS W f t l (k + 1) = (hideS W f t l k).set k (hideP W f t k p) := by
  have hk := (List.getElem?_eq_some_iff.1 h).1
  have h2 := hideL_get (W := W) (f := f) (t := t) h
  have hl : ((hideL W f t l).take k).length = k := by simp [hideL_len]; omega
  unfold hideS
  rw [List.take_add_one, h2]
  rw [List.set_append_right _ _ (by omega), hl, Nat.sub_self]
  rw [List.drop_eq_getElem_cons hk (l := l)]
  simp only [List.set_cons_zero, Option.toList_some, List.append_assoc, List.singleton_append]
theorem hideS_same {W f t : Int} {l : List Int} {k : Nat} {p : Int} (h : l[k]? = some p) (hp : hideP W f t k p = p) : hideS W f t l (k + 1) = hideS W f t l k := by
  rw [hideS_step h, hp]
  apply List.ext_getElem?
  intro j
  by_cases hj : k = j
  · subst hj
    rw [List.getElem?_set_self (List.getElem?_eq_some_iff.1 (hideS_get (W := W) (f := f) (t := t) h)).1, hideS_get h]
  · rw [List.getElem?_set_ne hj]

end Go.Proofs.YtaafmgkjfmngjaaDoor
