/-
  Small laws on worlds, shared by all walks of this seat: which blocks a call may change ('Ch'), and what a block holds behind an allocation, a store, a draw. No conditions: plain lemmas.
-/
import Derived.WalkKit
import Derived.WalkLawsBesides
import Derived.Deep.Draws
import Derived.Lib.Hide
namespace Go.Proofs.YtdpbdcaefdcooaaGreatDoor
open Go.RowKit

/-- From w to w' blocks of F alone may have changed, and new ones may have come. -/
structure Ch (F : Nat → Prop) (w w' : World) : Prop where
  os : w'.os = w.os
  tape : w'.tape = w.tape
  output : w'.output = w.output
  size : w.heap.size ≤ w'.heap.size
  block : ∀ k, k < w.heap.size → ¬ F k → w'.heap[k]? = w.heap[k]?

/-- No old block has changed. -/
abbrev Nw (w w' : World) : Prop := Ch (fun _ => False) w w'

theorem Ch.refl (F : Nat → Prop) (w : World) : Ch F w w := ⟨rfl, rfl, rfl, Nat.le_refl _, fun _ _ _ => rfl⟩

theorem Ch.trans' {F G : Nat → Prop} {a b c : World} (h : Ch F a b) (k : Ch G b c) (hG : ∀ n, n < a.heap.size → G n → F n) : Ch F a c :=
  ⟨k.os.trans h.os, k.tape.trans h.tape, k.output.trans h.output, Nat.le_trans h.size k.size, fun i hi hF =>
    (k.block i (Nat.lt_of_lt_of_le hi h.size) (fun hg => hF (hG i hi hg))).trans (h.block i hi hF)⟩

theorem Ch.trans {F : Nat → Prop} {a b c : World} (h : Ch F a b) (k : Ch F b c) : Ch F a c := h.trans' k fun _ _ x => x

theorem Ch.mono {F G : Nat → Prop} {a b : World} (h : Ch F a b) (hG : ∀ n, n < a.heap.size → F n → G n) : Ch G a b :=
  ⟨h.os, h.tape, h.output, h.size, fun i hi hg => h.block i hi fun hf => hg (hG i hi hf)⟩

theorem Ch.alloc {F : Nat → Prop} {a w : World} (h : Ch F a w) (o : Obj) : Ch F a (w.alloc o) :=
  h.trans ⟨rfl, rfl, rfl, by simp, fun k hk _ => Below.heap_alloc _ _ _ hk⟩

theorem Ch.setCell {F : Nat → Prop} {a w : World} (h : Ch F a w) {p : Addr} (hp : p.block < a.heap.size → F p.block) (u : Value) : Ch F a (w.setCell p u) :=
  ⟨h.os, h.tape, h.output, by simpa using h.size, fun k hk hf => by
    rw [Below.heap_setCell _ _ _ _ (fun e => hf (by subst e; exact hp hk))]; exact h.block k hk hf⟩

theorem Ch.setb {F : Nat → Prop} {a w : World} {b o : Nat} (h : Ch F a w) (hp : b < a.heap.size → F b) (u : Value) : Ch F a (w.setCell ⟨b, o, none⟩ u) := h.setCell hp u

theorem Ch.drew {F : Nat → Prop} {a w : World} (h : Ch F a w) : Ch F a w.drew := ⟨h.os, h.tape, h.output, h.size, h.block⟩
theorem Ch.undrew {F : Nat → Prop} {a w : World} (h : Ch F a.drew w) : Ch F a w := ⟨h.os, h.tape, h.output, h.size, h.block⟩
theorem Ch.undrewN {F : Nat → Prop} {a w : World} {n : Nat} (h : Ch F (a.drewN n) w) : Ch F a w := ⟨h.os, h.tape, h.output, h.size, h.block⟩
theorem Ch.drewN {F : Nat → Prop} {a w : World} (h : Ch F a w) (n : Nat) : Ch F a (w.drewN n) := ⟨h.os, h.tape, h.output, h.size, h.block⟩

theorem Ch.grown {F : Nat → Prop} {a w w' : World} {row : Option Nat} (h : Ch F a w) (hg : w.grownBy w' row) (hr : ∀ k, row = some k → k < a.heap.size → F k) : Ch F a w' :=
  ⟨hg.os.trans h.os, hg.tape.trans h.tape, hg.output.trans h.output, Nat.le_trans h.size hg.size, fun k hk hf =>
    (hg.block k (Nat.lt_of_lt_of_le hk h.size) (fun e => hf (hr k e.symm hk))).trans (h.block k hk hf)⟩

theorem Ch.below {w w' : World} (h : Nw w w') : Below w.heap.size w w' :=
  ⟨h.os, h.tape, h.output, h.size, fun k hk => h.block k hk fun x => x⟩

/-! ### What a block holds -/
section
variable {w : World}
@[simp] theorem heap_drewN (n : Nat) : (w.drewN n).heap = w.heap := rfl
@[simp] theorem heap_drew : w.drew.heap = w.heap := rfl
theorem cell_drewN (n : Nat) (a : Addr) : (w.drewN n).cell? a = w.cell? a := rfl

theorem heap_alloc_lt {k : Nat} (o : Obj) (h : k < w.heap.size) : (w.alloc o).heap[k]? = w.heap[k]? := Below.heap_alloc _ _ _ h
theorem heap_alloc_eq {k : Nat} (o : Obj) (h : k = w.heap.size) : (w.alloc o).heap[k]? = some o := by
  subst h; show (w.heap.push o)[w.heap.size]? = _; simp
theorem lt_of_heap {k : Nat} {o : Obj} (h : w.heap[k]? = some o) : k < w.heap.size := (Array.getElem?_eq_some_iff.1 h).1
theorem heap_alloc_old' {k : Nat} {x : Obj} (o : Obj) (h : w.heap[k]? = some x) : (w.alloc o).heap[k]? = some x := by
  rw [heap_alloc_lt _ (lt_of_heap h)]; exact h
theorem heap_setCell_ne {k : Nat} {a : Addr} (v : Value) (h : k ≠ a.block) : (w.setCell a v).heap[k]? = w.heap[k]? := Below.heap_setCell _ _ _ _ h
theorem heap_setCell_eq {b o : Nat} {c : Array Value} {e : TypeId} {f : Nat × Nat} (v : Value) (h : w.heap[b]? = some (.cells c e f)) :
    (w.setCell ⟨b, o, none⟩ v).heap[b]? = some (.cells (c.setIfInBounds o v) e f) := by
  simp [World.setCell, Array.getElem?_modify, h]
theorem cell_setCell_ne {a c : Addr} {u : Value} (v : Value) (h : w.cell? a = some u) (hb : a.block ≠ c.block) : (w.setCell c v).cell? a = some u := by
  rw [World.cell?_setCell_other _ _ _ _ (fun e => hb (by rw [e]))]; exact h
theorem cell_alloc_old {a : Addr} {u : Value} (o : Obj) (h : w.cell? a = some u) : (w.alloc o).cell? a = some u := by
  rw [World.cell?_alloc_lt _ _ _ (World.block_lt_of_cell? w a h)]; exact h
theorem cell_alloc_new {b i : Nat} {c : Array Value} {t : TypeId} {u : Value} (hb : b = w.heap.size) (h : c[i]? = some u) : (w.alloc (.cells c t)).cell? ⟨b, i, none⟩ = some u := by
  subst hb; rw [World.cell?_alloc_new]; exact h
theorem cell_of {b o : Nat} {c : Array Value} {e : TypeId} {f : Nat × Nat} (h : w.heap[b]? = some (.cells c e f)) : w.cell? ⟨b, o, none⟩ = c[o]? := by
  simp [World.cell?, h]
theorem frozen_of {b o : Nat} {c : Array Value} {e : TypeId} (h : w.heap[b]? = some (.cells c e (0, 0))) : w.frozen? ⟨b, o, none⟩ = false := by
  simp [World.frozen?, h]
end

theorem Ch.heap {F : Nat → Prop} {w w' : World} (h : Ch F w w') {k : Nat} {o : Obj} (hk : w.heap[k]? = some o) (hF : ¬ F k) : w'.heap[k]? = some o :=
  (h.block k (lt_of_heap hk) hF).trans hk
theorem Ch.cell {F : Nat → Prop} {w w' : World} (h : Ch F w w') {a : Addr} {v : Value} (hk : w.cell? a = some v) (hF : ¬ F a.block) : w'.cell? a = some v :=
  (World.cell?_of_block (h.block _ (World.block_lt_of_cell? w a hk) hF)).trans hk
theorem Ch.frozen {F : Nat → Prop} {w w' : World} (h : Ch F w w') {a : Addr} (ha : a.block < w.heap.size) (hF : ¬ F a.block) : w'.frozen? a = w.frozen? a :=
  World.frozen?_of_block (h.block _ ha hF)

/-! ### The end of a walk, the number said otherwise -/
theorem ret_i {R : Ending → World → Prop} {w : World} {k : IntKind} {a b : Int} (h : R (.returned (.int k a)) w) (e : a = b) : R (.returned (.int k b)) w := e ▸ h
theorem ret_b {R : Ending → World → Prop} {w : World} {a b : Bool} (h : R (.returned (.bool a)) w) (e : a = b) : R (.returned (.bool b)) w := e ▸ h
theorem ret_ib {R : Ending → World → Prop} {w : World} {k : IntKind} {a b : Int} {c d : Bool} (h : R (.returned (.tuple #[.int k a, .bool c])) w) (e : a = b) (f : c = d) : R (.returned (.tuple #[.int k b, .bool d])) w := e ▸ f ▸ h
theorem ret_ii {R : Ending → World → Prop} {w : World} {k l : IntKind} {a b : Int} {c d : Int} (h : R (.returned (.tuple #[.int k a, .int l c])) w) (e : a = b) (f : c = d) : R (.returned (.tuple #[.int k b, .int l d])) w := e ▸ f ▸ h
/-- Division that cuts towards nought, as omega can use it. -/
theorem tdiv_tmod (a : Int) (m : Int) (hm : 0 < m) : a = m * a.tdiv m + a.tmod m ∧ -m < a.tmod m ∧ a.tmod m < m ∧ (0 ≤ a → 0 ≤ a.tmod m) ∧ (a ≤ 0 → a.tmod m ≤ 0) := by
  have h1 := Int.mul_tdiv_add_tmod a m
  refine ⟨by omega, ?_, Int.tmod_lt_of_pos a hm, fun h => Int.tmod_nonneg m h, fun h => ?_⟩
  · rcases Int.le_total 0 a with h | h
    · have := Int.tmod_nonneg m h; omega
    · have h2 := Int.tmod_lt_of_pos (-a) hm
      rw [Int.neg_tmod] at h2; omega
  · have h2 := Int.tmod_nonneg m (show 0 ≤ -a by omega)
    rw [Int.neg_tmod] at h2; omega
end Go.Proofs.YtdpbdcaefdcooaaGreatDoor
