/-
  The stack of the machine: what push and pop do to the block that holds a machine. Conditions: the block holds a machine; there is room, or a number.
-/
import Derived.Test.YtlgcijafjcfnhaaDoorProg
import Derived.Test.YtlgcijafjcfnhaaDoorLib
import Derived.BigQuiet
import Derived.Deep.QuietTactic
import Derived.StillTailTactics
namespace Go.Proofs.YtlgcijafjcfnhaaDoor
open Go.RowKit

/-- A number, limited. -/
def lim (n : Int) : Int := max (-1073741824) (min 1073741824 n)

def mlist (p pts : Value) (size : Int) (st : List Int) (high steps : Int) : List Value :=
  p :: pts :: .int .i64 size :: (st.map (Value.int .i64) ++ [.int .i64 high, .int .i64 steps])

/-- Block b holds a machine with the program p, the points pts, and so on; stk are the numbers on its stack. -/
def MS (w : World) (b : Nat) (p pts : Value) (size : Int) (stk : List Int) (steps : Int) : Prop :=
  ∃ g : List Int, (stk ++ g).length = 8 ∧ w.heap[b]? = some (.cells (mlist p pts size (stk ++ g) stk.length steps).toArray 68 (0, 0))

section
variable {w : World} {b : Nat} {p pts : Value} {size : Int} {stk : List Int} {steps : Int}
theorem MS.le (h : MS w b p pts size stk steps) : stk.length ≤ 8 := by
  obtain ⟨g, hg, _⟩ := h; simp at hg; omega
theorem MS.lt (h : MS w b p pts size stk steps) : b < w.heap.size := by
  obtain ⟨g, hg, h⟩ := h; exact lt_of_heap h
theorem MS.fr (h : MS w b p pts size stk steps) (o : Nat) : w.frozen? ⟨b, o, none⟩ = false := by
  obtain ⟨g, hg, h⟩ := h; exact frozen_of h
theorem MS.c0 (h : MS w b p pts size stk steps) : w.cell? ⟨b, 0, none⟩ = some p := by
  obtain ⟨g, hg, h⟩ := h; rw [cell_of h]; rfl
theorem MS.c1 (h : MS w b p pts size stk steps) : w.cell? ⟨b, 1, none⟩ = some pts := by
  obtain ⟨g, hg, h⟩ := h; rw [cell_of h]; rfl
theorem MS.c2 (h : MS w b p pts size stk steps) : w.cell? ⟨b, 2, none⟩ = some (.int .i64 size) := by
  obtain ⟨g, hg, h⟩ := h; rw [cell_of h]; rfl
theorem MS.c11 (h : MS w b p pts size stk steps) : w.cell? ⟨b, 11, none⟩ = some (.int .i64 stk.length) := by
  obtain ⟨g, hg, h⟩ := h; rw [cell_of h]
  simp only [mlist, List.getElem?_toArray, List.getElem?_cons_succ]
  rw [List.getElem?_append_right (by simp at hg ⊢; omega)]
  simp at hg; simp [hg]
theorem MS.c12 (h : MS w b p pts size stk steps) : w.cell? ⟨b, 12, none⟩ = some (.int .i64 steps) := by
  obtain ⟨g, hg, h⟩ := h; rw [cell_of h]
  simp only [mlist, List.getElem?_toArray, List.getElem?_cons_succ]
  rw [List.getElem?_append_right (by simp at hg ⊢; omega)]
  simp at hg; simp [hg]
theorem MS.room (h : MS w b p pts size stk steps) (hl : stk.length < 8) : ∃ x, w.cell? ⟨b, 3 + stk.length, none⟩ = some x := by
  obtain ⟨g, hg, h⟩ := h; rw [cell_of h]
  refine ⟨_, (Array.getElem?_eq_some_iff.2 ⟨?_, rfl⟩)⟩
  simp [mlist] at hg ⊢; omega
theorem MS.top {x : Int} (h : MS w b p pts size (stk ++ [x]) steps) : w.cell? ⟨b, 3 + stk.length, none⟩ = some (.int .i64 x) := by
  obtain ⟨g, hg, h⟩ := h; rw [cell_of h]
  rw [show 3 + stk.length = stk.length + 1 + 1 + 1 from by omega]
  simp only [mlist, List.getElem?_toArray, List.getElem?_cons_succ]
  simp
theorem MS.kept {w' : World} {F : Nat → Prop} (h : MS w b p pts size stk steps) (hc : Ch F w w') (hb : ¬ F b) : MS w' b p pts size stk steps := by
  obtain ⟨g, hg, h⟩ := h; exact ⟨g, hg, hc.heap h hb⟩
theorem set_high (l : List Value) (x : Value) (g : List Value) (h s h' : Value) (n : Nat) (hn : n = l.length + (g.length + 1)) :
    (l ++ x :: (g ++ [h, s])).set n h' = l ++ x :: (g ++ [h', s]) := by
  subst hn
  rw [List.set_append_right _ _ (by omega), show l.length + (g.length + 1) - l.length = g.length + 1 from by omega, List.set_cons_succ, List.set_append_right _ _ (by omega)]
  simp
theorem MS.pushed {n : Int} {d : Nat} (h : MS w b p pts size stk steps) (hl : stk.length < 8) :
    MS (((w.setCell ⟨b, 3 + stk.length, none⟩ (.int .i64 n)).setCell ⟨b, 11, none⟩ (.int .i64 (stk.length + 1))).drewN d) b p pts size (stk ++ [n]) steps := by
  obtain ⟨g, hg, h⟩ := h
  match g, hg with
  | [], hg => simp at hg; omega
  | x :: g, hg =>
    refine ⟨g, by simp at hg ⊢; omega, ?_⟩
    rw [heap_drewN, heap_setCell_eq _ (heap_setCell_eq _ h)]
    simp at hg
    congr 2
    rw [show 3 + stk.length = stk.length + 1 + 1 + 1 from by omega]
    simp only [mlist, List.setIfInBounds_toArray, List.set_cons_succ]
    simp
    exact set_high _ _ _ _ _ _ _ (by simp; omega)
theorem MS.stepped {d : Nat} {k : Int} (h : MS w b p pts size stk steps) :
    MS ((w.setCell ⟨b, 12, none⟩ (.int .i64 k)).drewN d) b p pts size stk k := by
  obtain ⟨g, hg, h⟩ := h
  refine ⟨g, hg, ?_⟩
  rw [heap_drewN, heap_setCell_eq _ h]
  congr 2
  simp only [mlist, List.setIfInBounds_toArray, List.set_cons_succ]
  rw [List.set_append_right _ _ (by simp at hg ⊢; omega)]
  simp at hg
  simp [hg]
theorem MS.setPts {v : Value} (h : MS w b p pts size stk steps) :
    MS (w.setCell ⟨b, 1, none⟩ v) b p v size stk steps := by
  obtain ⟨g, hg, h⟩ := h
  refine ⟨g, hg, ?_⟩
  rw [heap_setCell_eq _ h]
  simp only [mlist, List.setIfInBounds_toArray, List.set_cons_succ, List.set_cons_zero]
theorem MS.popped {x : Int} {d : Nat} (h : MS w b p pts size (stk ++ [x]) steps) :
    MS ((w.setCell ⟨b, 11, none⟩ (.int .i64 stk.length)).drewN d) b p pts size stk steps := by
  obtain ⟨g, hg, h⟩ := h
  refine ⟨x :: g, by simp at hg ⊢; omega, ?_⟩
  rw [heap_drewN, heap_setCell_eq _ h]
  simp at hg
  congr 2
  simp only [mlist, List.setIfInBounds_toArray, List.set_cons_succ]
  simp
  exact set_high _ _ _ _ _ _ _ (by simp; omega)
end

set_option maxRecDepth 100000 in
theorem push_raw (b k : Nat) (n : Int) (w : World) (x : Value) (R : Ending → World → Prop)
   (h11 : w.cell? ⟨b, 11, none⟩ = some (.int .i64 k)) (hh : k < 8)
   (hx : w.cell? ⟨b, 3 + k, none⟩ = some x) (hf : ∀ o, w.frozen? ⟨b, o, none⟩ = false)
   (hR : ∀ v d, v = lim n → R (.returned (.tuple #[])) (((w.setCell ⟨b, 3 + k, none⟩ (.int .i64 v)).setCell ⟨b, 11, none⟩ (.int .i64 (k + 1))).drewN d)) :
   Calls Tryd.prog 58 #[.pointer (some ⟨b, 0, none⟩), .int .i64 n] w R := by
  have h0 : (0 : Int) ≤ (k : Int) := by omega
  have h8 : (k : Int) < 8 := by omega
  go_enter Tryd.func58, Tryd.ntmps58
  go_wp2
  go_still_tail 11, (by kernel_rfl)
  go_wp2
  all_goals
    go_end0
    refine hR _ 1 ?_
    unfold lim; omega

set_option maxRecDepth 100000 in
theorem pop_raw (b k : Nat) (n : Int) (w : World) (R : Ending → World → Prop)
   (h11 : w.cell? ⟨b, 11, none⟩ = some (.int .i64 ((k : Int) + 1))) (hh : k < 8)
   (hx : w.cell? ⟨b, 3 + k, none⟩ = some (.int .i64 n)) (hf : ∀ o, w.frozen? ⟨b, o, none⟩ = false)
   (hR : ∀ d, R (.returned (.int .i64 n)) ((w.setCell ⟨b, 11, none⟩ (.int .i64 k)).drewN d)) :
   Calls Tryd.prog 38 #[.pointer (some ⟨b, 0, none⟩)] w R := by
  have h0 : (0 : Int) ≤ (k : Int) := by omega
  have h8 : (k : Int) < 8 := by omega
  go_enter Tryd.func38, Tryd.ntmps38
  go_wp2
  go_quiet (fail)
  go_wp2
  exact hR _

section
variable {w : World} {b : Nat} {p pts : Value} {size : Int} {stk : List Int} {steps : Int}
theorem push_any (n : Int) (h : MS w b p pts size stk steps) (hl : stk.length < 8) (R : Ending → World → Prop)
    (hR : ∀ w', MS w' b p pts size (stk ++ [lim n]) steps → Ch (· = b) w w' → R (.returned (.tuple #[])) w') :
    Calls Tryd.prog 58 #[.pointer (some ⟨b, 0, none⟩), .int .i64 n] w R := by
  obtain ⟨x, hx⟩ := h.room hl
  refine push_raw b stk.length n w x R h.c11 hl hx h.fr fun v d hv => ?_
  subst hv
  exact hR _ (h.pushed hl) ((((Ch.refl (· = b) w).setb (fun _ => rfl) _).setb (fun _ => rfl) _).drewN _)
theorem pop_any (x : Int) (h : MS w b p pts size (stk ++ [x]) steps) (R : Ending → World → Prop)
    (hR : ∀ w', MS w' b p pts size stk steps → Ch (· = b) w w' → R (.returned (.int .i64 x)) w') :
    Calls Tryd.prog 38 #[.pointer (some ⟨b, 0, none⟩)] w R := by
  have hl := h.le
  simp at hl
  refine pop_raw b stk.length x w R (by have := h.c11; simpa using this) (by omega) h.top h.fr fun d => ?_
  exact hR _ h.popped (((Ch.refl (· = b) w).setb (fun _ => rfl) _).drewN _)
end
end Go.Proofs.YtlgcijafjcfnhaaDoor
