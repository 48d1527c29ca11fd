/-
  'of': what the operation with a code does, as a struct.
-/
import Derived.Test.YtlgcijafjcfnhaaDoorDo
import Derived.Laws.EntriesVeiled
namespace Go.Proofs.YtlgcijafjcfnhaaDoor
open Go.RowKit

set_option maxRecDepth 100000 in
theorem one_any (b F : Nat) (w : World) (R : Ending → World → Prop)
    (hR : ∀ w' bm bf, Nw w w' → w.heap.size ≤ bm → w.heap.size ≤ bf → w'.cell? ⟨bm, 0, none⟩ = some (.pointer (some ⟨b, 0, none⟩)) → w'.cell? ⟨bf, 0, none⟩ = some (.func (.func F) #[] #[]) →
      R (.returned (.agg #[.int .i64 1, .int .i64 1, .bool false, .bool false, .bool false, .func (.func 77) #[] #[.pointer (some ⟨bm, 0, none⟩), .pointer (some ⟨bf, 0, none⟩)]])) w') :
    Calls Tryd.prog 64 #[.pointer (some ⟨b, 0, none⟩), .func (.func F) #[] #[]] w R := by
  have hmf : ∀ (fn : Fn) (first cap : Array Value) (w : World), (Instr.makeFunc fn first cap).run Tryd.prog w = .ok (.func fn first cap) w := fun _ _ _ _ => rfl
  have HR := Lib.hid hR
  clear hR
  go_enter Tryd.func64, Tryd.ntmps64
  go_wp2
  refine bodyPost_ret (v := .agg #[.int .i64 1, .int .i64 1, .bool false, .bool false, .bool false, .func (.func 77) #[] #[.pointer (some ⟨w.heap.size, 0, none⟩), .pointer (some ⟨w.heap.size + 1, 0, none⟩)]]) (by simp [results, Tryd.results64, go_sem]) rfl ?_
  exact HR.out _ w.heap.size (w.heap.size + 1) ((((Ch.refl _ _).alloc _).alloc _).alloc _) (by omega) (by omega) (cell_alloc_old _ (cell_alloc_old _ (cell_alloc_new rfl rfl))) (cell_alloc_old _ (cell_alloc_new (by simp) rfl))

set_option maxRecDepth 100000 in
theorem two_any (b F : Nat) (w : World) (R : Ending → World → Prop)
    (hR : ∀ w' bm bf, Nw w w' → w.heap.size ≤ bm → w.heap.size ≤ bf → w'.cell? ⟨bm, 0, none⟩ = some (.pointer (some ⟨b, 0, none⟩)) → w'.cell? ⟨bf, 0, none⟩ = some (.func (.func F) #[] #[]) →
      R (.returned (.agg #[.int .i64 2, .int .i64 1, .bool false, .bool false, .bool false, .func (.func 76) #[] #[.pointer (some ⟨bm, 0, none⟩), .pointer (some ⟨bf, 0, none⟩)]])) w') :
    Calls Tryd.prog 59 #[.pointer (some ⟨b, 0, none⟩), .func (.func F) #[] #[]] w R := by
  have hmf : ∀ (fn : Fn) (first cap : Array Value) (w : World), (Instr.makeFunc fn first cap).run Tryd.prog w = .ok (.func fn first cap) w := fun _ _ _ _ => rfl
  have HR := Lib.hid hR
  clear hR
  go_enter Tryd.func59, Tryd.ntmps59
  go_wp2
  refine bodyPost_ret (v := .agg #[.int .i64 2, .int .i64 1, .bool false, .bool false, .bool false, .func (.func 76) #[] #[.pointer (some ⟨w.heap.size, 0, none⟩), .pointer (some ⟨w.heap.size + 1, 0, none⟩)]]) (by simp [results, Tryd.results59, go_sem]) rfl ?_
  exact HR.out _ w.heap.size (w.heap.size + 1) ((((Ch.refl _ _).alloc _).alloc _).alloc _) (by omega) (by omega) (cell_alloc_old _ (cell_alloc_old _ (cell_alloc_new rfl rfl))) (cell_alloc_old _ (cell_alloc_new (by simp) rfl))

set_option maxRecDepth 100000 in
theorem get_any (b F : Nat) (w : World) (R : Ending → World → Prop)
    (hR : ∀ w' bm bf, Nw w w' → w.heap.size ≤ bm → w.heap.size ≤ bf → w'.cell? ⟨bm, 0, none⟩ = some (.pointer (some ⟨b, 0, none⟩)) → w'.cell? ⟨bf, 0, none⟩ = some (.func (.func F) #[] #[]) →
      R (.returned (.agg #[.int .i64 0, .int .i64 1, .bool false, .bool true, .bool false, .func (.func 79) #[] #[.pointer (some ⟨bm, 0, none⟩), .pointer (some ⟨bf, 0, none⟩)]])) w') :
    Calls Tryd.prog 69 #[.pointer (some ⟨b, 0, none⟩), .func (.func F) #[] #[]] w R := by
  have hmf : ∀ (fn : Fn) (first cap : Array Value) (w : World), (Instr.makeFunc fn first cap).run Tryd.prog w = .ok (.func fn first cap) w := fun _ _ _ _ => rfl
  have HR := Lib.hid hR
  clear hR
  go_enter Tryd.func69, Tryd.ntmps69
  go_wp2
  refine bodyPost_ret (v := .agg #[.int .i64 0, .int .i64 1, .bool false, .bool true, .bool false, .func (.func 79) #[] #[.pointer (some ⟨w.heap.size, 0, none⟩), .pointer (some ⟨w.heap.size + 1, 0, none⟩)]]) (by simp [results, Tryd.results69, go_sem]) rfl ?_
  exact HR.out _ w.heap.size (w.heap.size + 1) ((((Ch.refl _ _).alloc _).alloc _).alloc _) (by omega) (by omega) (cell_alloc_old _ (cell_alloc_old _ (cell_alloc_new rfl rfl))) (cell_alloc_old _ (cell_alloc_new (by simp) rfl))

set_option maxRecDepth 100000 in
theorem set_any (b F : Nat) (w : World) (R : Ending → World → Prop)
    (hR : ∀ w' bm bf, Nw w w' → w.heap.size ≤ bm → w.heap.size ≤ bf → w'.cell? ⟨bm, 0, none⟩ = some (.pointer (some ⟨b, 0, none⟩)) → w'.cell? ⟨bf, 0, none⟩ = some (.func (.func F) #[] #[]) →
      R (.returned (.agg #[.int .i64 1, .int .i64 0, .bool false, .bool true, .bool false, .func (.func 80) #[] #[.pointer (some ⟨bm, 0, none⟩), .pointer (some ⟨bf, 0, none⟩)]])) w') :
    Calls Tryd.prog 72 #[.pointer (some ⟨b, 0, none⟩), .func (.func F) #[] #[]] w R := by
  have hmf : ∀ (fn : Fn) (first cap : Array Value) (w : World), (Instr.makeFunc fn first cap).run Tryd.prog w = .ok (.func fn first cap) w := fun _ _ _ _ => rfl
  have HR := Lib.hid hR
  clear hR
  go_enter Tryd.func72, Tryd.ntmps72
  go_wp2
  refine bodyPost_ret (v := .agg #[.int .i64 1, .int .i64 0, .bool false, .bool true, .bool false, .func (.func 80) #[] #[.pointer (some ⟨w.heap.size, 0, none⟩), .pointer (some ⟨w.heap.size + 1, 0, none⟩)]]) (by simp [results, Tryd.results72, go_sem]) rfl ?_
  exact HR.out _ w.heap.size (w.heap.size + 1) ((((Ch.refl _ _).alloc _).alloc _).alloc _) (by omega) (by omega) (cell_alloc_old _ (cell_alloc_old _ (cell_alloc_new rfl rfl))) (cell_alloc_old _ (cell_alloc_new (by simp) rfl))


theorem zop_facts {w : World} {k : Nat} (h : w.heap[k]? = some (.cells #[.int .i64 0, .int .i64 0, .bool false, .bool false, .bool false, .nilFunc] 93 (0, 0))) :
    (∀ o, w.frozen? ⟨k, o, none⟩ = false) ∧ w.cell? ⟨k, 0, none⟩ = some (.int .i64 0) ∧ w.cell? ⟨k, 1, none⟩ = some (.int .i64 0) ∧ w.cell? ⟨k, 2, none⟩ = some (.bool false) ∧ w.cell? ⟨k, 3, none⟩ = some (.bool false) ∧
    w.cell? ⟨k, 4, none⟩ = some (.bool false) ∧ w.cell? ⟨k, 5, none⟩ = some .nilFunc :=
  ⟨fun _ => frozen_of h, cell_of h, cell_of h, cell_of h, cell_of h, cell_of h, cell_of h⟩

/-- The struct that 'of' returns. -/
def opv (c : Int) (v : Value) : Value := .agg #[.int .i64 (pops c), .int .i64 (pushes c), .bool (isNum c), .bool (isPt c), .bool (isBlk c), v]

theorem cell_set6 {w : World} {k : Nat} {a : Addr} {u : Value} (h : w.cell? a = some u) (hb : a.block ≠ k) (v0 v1 v2 v3 v4 v5 : Value) :
    ((((((w.setCell ⟨k, 0, none⟩ v0).setCell ⟨k, 1, none⟩ v1).setCell ⟨k, 2, none⟩ v2).setCell ⟨k, 3, none⟩ v3).setCell ⟨k, 4, none⟩ v4).setCell ⟨k, 5, none⟩ v5).cell? a = some u :=
  cell_setCell_ne _ (cell_setCell_ne _ (cell_setCell_ne _ (cell_setCell_ne _ (cell_setCell_ne _ (cell_setCell_ne _ h hb) hb) hb) hb) hb) hb
theorem ch_set6 {F : Nat → Prop} {w w1 : World} {k : Nat} (h : Ch F w w1) (hk : k < w.heap.size → F k) (v0 v1 v2 v3 v4 v5 : Value) :
    Ch F w ((((((w1.setCell ⟨k, 0, none⟩ v0).setCell ⟨k, 1, none⟩ v1).setCell ⟨k, 2, none⟩ v2).setCell ⟨k, 3, none⟩ v3).setCell ⟨k, 4, none⟩ v4).setCell ⟨k, 5, none⟩ v5) :=
  ((((((h.setb hk _).setb hk _).setb hk _).setb hk _).setb hk _).setb hk _)

section
variable (b : Nat) (w : World) (R : Ending → World → Prop)
set_option maxRecDepth 100000 in
theorem of_1 (_hb : b < w.heap.size) (hR : ∀ w' v, Nw w w' → DoOk w' w.heap.size b 1 v → R (.returned (opv 1 v)) w') : Calls Tryd.prog 51 #[.pointer (some ⟨b, 0, none⟩), .int .i64 1] w R := by
  have hmf : ∀ (fn : Fn) (first cap : Array Value) (w : World), (Instr.makeFunc fn first cap).run Tryd.prog w = .ok (.func fn first cap) w := fun _ _ _ _ => rfl
  have HR := Lib.hid hR
  clear hR
  go_enter Tryd.func51, Tryd.ntmps51
  go_wp2
  refine bodyPost_ret (v := .agg #[.int .i64 0, .int .i64 1, .bool true, .bool false, .bool false, .func (.func 58) #[.pointer (some ⟨b, 0, none⟩)] #[]]) (by simp [results, Tryd.results51, go_sem]) rfl ?_
  exact HR.out _ _ (((Ch.refl _ _).alloc _).alloc _) (do1 _ _ _)
set_option maxRecDepth 100000 in
theorem of_2 (hb : b < w.heap.size) (hR : ∀ w' v, Nw w w' → DoOk w' w.heap.size b 2 v → R (.returned (opv 2 v)) w') : Calls Tryd.prog 51 #[.pointer (some ⟨b, 0, none⟩), .int .i64 2] w R := by
  have hmf : ∀ (fn : Fn) (first cap : Array Value) (w : World), (Instr.makeFunc fn first cap).run Tryd.prog w = .ok (.func fn first cap) w := fun _ _ _ _ => rfl
  have HR := Lib.hid hR
  clear hR
  go_enter Tryd.func51, Tryd.ntmps51
  go_wp2_with (go_at_call 59; refine two_any _ _ _ _ ?_; intro w1 bm bf c1 l1 l2 e1 e2; obtain ⟨zf, z0, z1, z2, z3, z4, z5⟩ := zop_facts (c1.heap (k := w.heap.size + 1) (heap_alloc_eq _ (by simp)) (fun x => x)))
  refine bodyPost_ret (v := .agg #[.int .i64 2, .int .i64 1, .bool false, .bool false, .bool false, .func (.func 76) #[] #[.pointer (some ⟨bm, 0, none⟩), .pointer (some ⟨bf, 0, none⟩)]]) (by simp [results, Tryd.results51, go_sem, z0, z1, z2, z3, z4, z5]) rfl ?_
  simp only [World.size_alloc] at l1 l2
  exact HR.out _ _ (ch_set6 (((Ch.refl _ _).alloc _).alloc _ |>.trans c1) (fun x => absurd x (by omega)) _ _ _ _ _ _) (do2 _ _ _ _ _ (by omega) (by omega) hb (cell_set6 e1 (by simp; omega) _ _ _ _ _ _) (cell_set6 e2 (by simp; omega) _ _ _ _ _ _))
set_option maxRecDepth 100000 in
theorem of_3 (hb : b < w.heap.size) (hR : ∀ w' v, Nw w w' → DoOk w' w.heap.size b 3 v → R (.returned (opv 3 v)) w') : Calls Tryd.prog 51 #[.pointer (some ⟨b, 0, none⟩), .int .i64 3] w R := by
  have hmf : ∀ (fn : Fn) (first cap : Array Value) (w : World), (Instr.makeFunc fn first cap).run Tryd.prog w = .ok (.func fn first cap) w := fun _ _ _ _ => rfl
  have HR := Lib.hid hR
  clear hR
  go_enter Tryd.func51, Tryd.ntmps51
  go_wp2_with (go_at_call 59; refine two_any _ _ _ _ ?_; intro w1 bm bf c1 l1 l2 e1 e2; obtain ⟨zf, z0, z1, z2, z3, z4, z5⟩ := zop_facts (c1.heap (k := w.heap.size + 1) (heap_alloc_eq _ (by simp)) (fun x => x)))
  refine bodyPost_ret (v := .agg #[.int .i64 2, .int .i64 1, .bool false, .bool false, .bool false, .func (.func 76) #[] #[.pointer (some ⟨bm, 0, none⟩), .pointer (some ⟨bf, 0, none⟩)]]) (by simp [results, Tryd.results51, go_sem, z0, z1, z2, z3, z4, z5]) rfl ?_
  simp only [World.size_alloc] at l1 l2
  exact HR.out _ _ (ch_set6 (((Ch.refl _ _).alloc _).alloc _ |>.trans c1) (fun x => absurd x (by omega)) _ _ _ _ _ _) (do3 _ _ _ _ _ (by omega) (by omega) hb (cell_set6 e1 (by simp; omega) _ _ _ _ _ _) (cell_set6 e2 (by simp; omega) _ _ _ _ _ _))
set_option maxRecDepth 100000 in
theorem of_4 (hb : b < w.heap.size) (hR : ∀ w' v, Nw w w' → DoOk w' w.heap.size b 4 v → R (.returned (opv 4 v)) w') : Calls Tryd.prog 51 #[.pointer (some ⟨b, 0, none⟩), .int .i64 4] w R := by
  have hmf : ∀ (fn : Fn) (first cap : Array Value) (w : World), (Instr.makeFunc fn first cap).run Tryd.prog w = .ok (.func fn first cap) w := fun _ _ _ _ => rfl
  have HR := Lib.hid hR
  clear hR
  go_enter Tryd.func51, Tryd.ntmps51
  go_wp2_with (go_at_call 59; refine two_any _ _ _ _ ?_; intro w1 bm bf c1 l1 l2 e1 e2; obtain ⟨zf, z0, z1, z2, z3, z4, z5⟩ := zop_facts (c1.heap (k := w.heap.size + 1) (heap_alloc_eq _ (by simp)) (fun x => x)))
  refine bodyPost_ret (v := .agg #[.int .i64 2, .int .i64 1, .bool false, .bool false, .bool false, .func (.func 76) #[] #[.pointer (some ⟨bm, 0, none⟩), .pointer (some ⟨bf, 0, none⟩)]]) (by simp [results, Tryd.results51, go_sem, z0, z1, z2, z3, z4, z5]) rfl ?_
  simp only [World.size_alloc] at l1 l2
  exact HR.out _ _ (ch_set6 (((Ch.refl _ _).alloc _).alloc _ |>.trans c1) (fun x => absurd x (by omega)) _ _ _ _ _ _) (do4 _ _ _ _ _ (by omega) (by omega) hb (cell_set6 e1 (by simp; omega) _ _ _ _ _ _) (cell_set6 e2 (by simp; omega) _ _ _ _ _ _))
set_option maxRecDepth 100000 in
theorem of_5 (hb : b < w.heap.size) (hR : ∀ w' v, Nw w w' → DoOk w' w.heap.size b 5 v → R (.returned (opv 5 v)) w') : Calls Tryd.prog 51 #[.pointer (some ⟨b, 0, none⟩), .int .i64 5] w R := by
  have hmf : ∀ (fn : Fn) (first cap : Array Value) (w : World), (Instr.makeFunc fn first cap).run Tryd.prog w = .ok (.func fn first cap) w := fun _ _ _ _ => rfl
  have HR := Lib.hid hR
  clear hR
  go_enter Tryd.func51, Tryd.ntmps51
  go_wp2_with (go_at_call 59; refine two_any _ _ _ _ ?_; intro w1 bm bf c1 l1 l2 e1 e2; obtain ⟨zf, z0, z1, z2, z3, z4, z5⟩ := zop_facts (c1.heap (k := w.heap.size + 1) (heap_alloc_eq _ (by simp)) (fun x => x)))
  refine bodyPost_ret (v := .agg #[.int .i64 2, .int .i64 1, .bool false, .bool false, .bool false, .func (.func 76) #[] #[.pointer (some ⟨bm, 0, none⟩), .pointer (some ⟨bf, 0, none⟩)]]) (by simp [results, Tryd.results51, go_sem, z0, z1, z2, z3, z4, z5]) rfl ?_
  simp only [World.size_alloc] at l1 l2
  exact HR.out _ _ (ch_set6 (((Ch.refl _ _).alloc _).alloc _ |>.trans c1) (fun x => absurd x (by omega)) _ _ _ _ _ _) (do5 _ _ _ _ _ (by omega) (by omega) hb (cell_set6 e1 (by simp; omega) _ _ _ _ _ _) (cell_set6 e2 (by simp; omega) _ _ _ _ _ _))
set_option maxRecDepth 100000 in
theorem of_6 (hb : b < w.heap.size) (hR : ∀ w' v, Nw w w' → DoOk w' w.heap.size b 6 v → R (.returned (opv 6 v)) w') : Calls Tryd.prog 51 #[.pointer (some ⟨b, 0, none⟩), .int .i64 6] w R := by
  have hmf : ∀ (fn : Fn) (first cap : Array Value) (w : World), (Instr.makeFunc fn first cap).run Tryd.prog w = .ok (.func fn first cap) w := fun _ _ _ _ => rfl
  have HR := Lib.hid hR
  clear hR
  go_enter Tryd.func51, Tryd.ntmps51
  go_wp2_with (go_at_call 64; refine one_any _ _ _ _ ?_; intro w1 bm bf c1 l1 l2 e1 e2; obtain ⟨zf, z0, z1, z2, z3, z4, z5⟩ := zop_facts (c1.heap (k := w.heap.size + 1) (heap_alloc_eq _ (by simp)) (fun x => x)))
  refine bodyPost_ret (v := .agg #[.int .i64 1, .int .i64 1, .bool false, .bool false, .bool false, .func (.func 77) #[] #[.pointer (some ⟨bm, 0, none⟩), .pointer (some ⟨bf, 0, none⟩)]]) (by simp [results, Tryd.results51, go_sem, z0, z1, z2, z3, z4, z5]) rfl ?_
  simp only [World.size_alloc] at l1 l2
  exact HR.out _ _ (ch_set6 (((Ch.refl _ _).alloc _).alloc _ |>.trans c1) (fun x => absurd x (by omega)) _ _ _ _ _ _) (do6 _ _ _ _ _ (by omega) (by omega) hb (cell_set6 e1 (by simp; omega) _ _ _ _ _ _) (cell_set6 e2 (by simp; omega) _ _ _ _ _ _))
set_option maxRecDepth 100000 in
theorem of_7 (hb : b < w.heap.size) (hR : ∀ w' v, Nw w w' → DoOk w' w.heap.size b 7 v → R (.returned (opv 7 v)) w') : Calls Tryd.prog 51 #[.pointer (some ⟨b, 0, none⟩), .int .i64 7] w R := by
  have hmf : ∀ (fn : Fn) (first cap : Array Value) (w : World), (Instr.makeFunc fn first cap).run Tryd.prog w = .ok (.func fn first cap) w := fun _ _ _ _ => rfl
  have HR := Lib.hid hR
  clear hR
  go_enter Tryd.func51, Tryd.ntmps51
  go_wp2_with (go_at_call 64; refine one_any _ _ _ _ ?_; intro w1 bm bf c1 l1 l2 e1 e2; obtain ⟨zf, z0, z1, z2, z3, z4, z5⟩ := zop_facts (c1.heap (k := w.heap.size + 1) (heap_alloc_eq _ (by simp)) (fun x => x)))
  refine bodyPost_ret (v := .agg #[.int .i64 1, .int .i64 1, .bool false, .bool false, .bool false, .func (.func 77) #[] #[.pointer (some ⟨bm, 0, none⟩), .pointer (some ⟨bf, 0, none⟩)]]) (by simp [results, Tryd.results51, go_sem, z0, z1, z2, z3, z4, z5]) rfl ?_
  simp only [World.size_alloc] at l1 l2
  exact HR.out _ _ (ch_set6 (((Ch.refl _ _).alloc _).alloc _ |>.trans c1) (fun x => absurd x (by omega)) _ _ _ _ _ _) (do7 _ _ _ _ _ (by omega) (by omega) hb (cell_set6 e1 (by simp; omega) _ _ _ _ _ _) (cell_set6 e2 (by simp; omega) _ _ _ _ _ _))
set_option maxRecDepth 100000 in
theorem of_8 (hb : b < w.heap.size) (hR : ∀ w' v, Nw w w' → DoOk w' w.heap.size b 8 v → R (.returned (opv 8 v)) w') : Calls Tryd.prog 51 #[.pointer (some ⟨b, 0, none⟩), .int .i64 8] w R := by
  have hmf : ∀ (fn : Fn) (first cap : Array Value) (w : World), (Instr.makeFunc fn first cap).run Tryd.prog w = .ok (.func fn first cap) w := fun _ _ _ _ => rfl
  have HR := Lib.hid hR
  clear hR
  go_enter Tryd.func51, Tryd.ntmps51
  go_wp2_with (go_at_call 64; refine one_any _ _ _ _ ?_; intro w1 bm bf c1 l1 l2 e1 e2; obtain ⟨zf, z0, z1, z2, z3, z4, z5⟩ := zop_facts (c1.heap (k := w.heap.size + 1) (heap_alloc_eq _ (by simp)) (fun x => x)))
  refine bodyPost_ret (v := .agg #[.int .i64 1, .int .i64 1, .bool false, .bool false, .bool false, .func (.func 77) #[] #[.pointer (some ⟨bm, 0, none⟩), .pointer (some ⟨bf, 0, none⟩)]]) (by simp [results, Tryd.results51, go_sem, z0, z1, z2, z3, z4, z5]) rfl ?_
  simp only [World.size_alloc] at l1 l2
  exact HR.out _ _ (ch_set6 (((Ch.refl _ _).alloc _).alloc _ |>.trans c1) (fun x => absurd x (by omega)) _ _ _ _ _ _) (do8 _ _ _ _ _ (by omega) (by omega) hb (cell_set6 e1 (by simp; omega) _ _ _ _ _ _) (cell_set6 e2 (by simp; omega) _ _ _ _ _ _))
set_option maxRecDepth 100000 in
theorem of_9 (hb : b < w.heap.size) (hR : ∀ w' v, Nw w w' → DoOk w' w.heap.size b 9 v → R (.returned (opv 9 v)) w') : Calls Tryd.prog 51 #[.pointer (some ⟨b, 0, none⟩), .int .i64 9] w R := by
  have hmf : ∀ (fn : Fn) (first cap : Array Value) (w : World), (Instr.makeFunc fn first cap).run Tryd.prog w = .ok (.func fn first cap) w := fun _ _ _ _ => rfl
  have HR := Lib.hid hR
  clear hR
  go_enter Tryd.func51, Tryd.ntmps51
  go_wp2
  refine bodyPost_ret (v := .agg #[.int .i64 0, .int .i64 1, .bool false, .bool false, .bool false, .func (.func 68) #[] #[.pointer (some ⟨w.heap.size, 0, none⟩)]]) (by simp [results, Tryd.results51, go_sem]) rfl ?_
  exact HR.out _ _ (((Ch.refl _ _).alloc _).alloc _) (do9 _ _ _ _ (Nat.le_refl _) hb (cell_alloc_old _ (cell_alloc_new rfl rfl)))
set_option maxRecDepth 100000 in
theorem of_10 (hb : b < w.heap.size) (hR : ∀ w' v, Nw w w' → DoOk w' w.heap.size b 10 v → R (.returned (opv 10 v)) w') : Calls Tryd.prog 51 #[.pointer (some ⟨b, 0, none⟩), .int .i64 10] w R := by
  have hmf : ∀ (fn : Fn) (first cap : Array Value) (w : World), (Instr.makeFunc fn first cap).run Tryd.prog w = .ok (.func fn first cap) w := fun _ _ _ _ => rfl
  have HR := Lib.hid hR
  clear hR
  go_enter Tryd.func51, Tryd.ntmps51
  go_wp2_with (go_at_call 69; refine get_any _ _ _ _ ?_; intro w1 bm bf c1 l1 l2 e1 e2; obtain ⟨zf, z0, z1, z2, z3, z4, z5⟩ := zop_facts (c1.heap (k := w.heap.size + 1) (heap_alloc_eq _ (by simp)) (fun x => x)))
  refine bodyPost_ret (v := .agg #[.int .i64 0, .int .i64 1, .bool false, .bool true, .bool false, .func (.func 79) #[] #[.pointer (some ⟨bm, 0, none⟩), .pointer (some ⟨bf, 0, none⟩)]]) (by simp [results, Tryd.results51, go_sem, z0, z1, z2, z3, z4, z5]) rfl ?_
  simp only [World.size_alloc] at l1 l2
  exact HR.out _ _ (ch_set6 (((Ch.refl _ _).alloc _).alloc _ |>.trans c1) (fun x => absurd x (by omega)) _ _ _ _ _ _) (do10 _ _ _ _ _ (by omega) (by omega) hb (cell_set6 e1 (by simp; omega) _ _ _ _ _ _) (cell_set6 e2 (by simp; omega) _ _ _ _ _ _))
set_option maxRecDepth 100000 in
theorem of_11 (hb : b < w.heap.size) (hR : ∀ w' v, Nw w w' → DoOk w' w.heap.size b 11 v → R (.returned (opv 11 v)) w') : Calls Tryd.prog 51 #[.pointer (some ⟨b, 0, none⟩), .int .i64 11] w R := by
  have hmf : ∀ (fn : Fn) (first cap : Array Value) (w : World), (Instr.makeFunc fn first cap).run Tryd.prog w = .ok (.func fn first cap) w := fun _ _ _ _ => rfl
  have HR := Lib.hid hR
  clear hR
  go_enter Tryd.func51, Tryd.ntmps51
  go_wp2_with (go_at_call 69; refine get_any _ _ _ _ ?_; intro w1 bm bf c1 l1 l2 e1 e2; obtain ⟨zf, z0, z1, z2, z3, z4, z5⟩ := zop_facts (c1.heap (k := w.heap.size + 1) (heap_alloc_eq _ (by simp)) (fun x => x)))
  refine bodyPost_ret (v := .agg #[.int .i64 0, .int .i64 1, .bool false, .bool true, .bool false, .func (.func 79) #[] #[.pointer (some ⟨bm, 0, none⟩), .pointer (some ⟨bf, 0, none⟩)]]) (by simp [results, Tryd.results51, go_sem, z0, z1, z2, z3, z4, z5]) rfl ?_
  simp only [World.size_alloc] at l1 l2
  exact HR.out _ _ (ch_set6 (((Ch.refl _ _).alloc _).alloc _ |>.trans c1) (fun x => absurd x (by omega)) _ _ _ _ _ _) (do11 _ _ _ _ _ (by omega) (by omega) hb (cell_set6 e1 (by simp; omega) _ _ _ _ _ _) (cell_set6 e2 (by simp; omega) _ _ _ _ _ _))
set_option maxRecDepth 100000 in
theorem of_12 (hb : b < w.heap.size) (hR : ∀ w' v, Nw w w' → DoOk w' w.heap.size b 12 v → R (.returned (opv 12 v)) w') : Calls Tryd.prog 51 #[.pointer (some ⟨b, 0, none⟩), .int .i64 12] w R := by
  have hmf : ∀ (fn : Fn) (first cap : Array Value) (w : World), (Instr.makeFunc fn first cap).run Tryd.prog w = .ok (.func fn first cap) w := fun _ _ _ _ => rfl
  have HR := Lib.hid hR
  clear hR
  go_enter Tryd.func51, Tryd.ntmps51
  go_wp2_with (go_at_call 72; refine set_any _ _ _ _ ?_; intro w1 bm bf c1 l1 l2 e1 e2; obtain ⟨zf, z0, z1, z2, z3, z4, z5⟩ := zop_facts (c1.heap (k := w.heap.size + 1) (heap_alloc_eq _ (by simp)) (fun x => x)))
  refine bodyPost_ret (v := .agg #[.int .i64 1, .int .i64 0, .bool false, .bool true, .bool false, .func (.func 80) #[] #[.pointer (some ⟨bm, 0, none⟩), .pointer (some ⟨bf, 0, none⟩)]]) (by simp [results, Tryd.results51, go_sem, z0, z1, z2, z3, z4, z5]) rfl ?_
  simp only [World.size_alloc] at l1 l2
  exact HR.out _ _ (ch_set6 (((Ch.refl _ _).alloc _).alloc _ |>.trans c1) (fun x => absurd x (by omega)) _ _ _ _ _ _) (do12 _ _ _ _ _ (by omega) (by omega) hb (cell_set6 e1 (by simp; omega) _ _ _ _ _ _) (cell_set6 e2 (by simp; omega) _ _ _ _ _ _))
set_option maxRecDepth 100000 in
theorem of_13 (hb : b < w.heap.size) (hR : ∀ w' v, Nw w w' → DoOk w' w.heap.size b 13 v → R (.returned (opv 13 v)) w') : Calls Tryd.prog 51 #[.pointer (some ⟨b, 0, none⟩), .int .i64 13] w R := by
  have hmf : ∀ (fn : Fn) (first cap : Array Value) (w : World), (Instr.makeFunc fn first cap).run Tryd.prog w = .ok (.func fn first cap) w := fun _ _ _ _ => rfl
  have HR := Lib.hid hR
  clear hR
  go_enter Tryd.func51, Tryd.ntmps51
  go_wp2_with (go_at_call 72; refine set_any _ _ _ _ ?_; intro w1 bm bf c1 l1 l2 e1 e2; obtain ⟨zf, z0, z1, z2, z3, z4, z5⟩ := zop_facts (c1.heap (k := w.heap.size + 1) (heap_alloc_eq _ (by simp)) (fun x => x)))
  refine bodyPost_ret (v := .agg #[.int .i64 1, .int .i64 0, .bool false, .bool true, .bool false, .func (.func 80) #[] #[.pointer (some ⟨bm, 0, none⟩), .pointer (some ⟨bf, 0, none⟩)]]) (by simp [results, Tryd.results51, go_sem, z0, z1, z2, z3, z4, z5]) rfl ?_
  simp only [World.size_alloc] at l1 l2
  exact HR.out _ _ (ch_set6 (((Ch.refl _ _).alloc _).alloc _ |>.trans c1) (fun x => absurd x (by omega)) _ _ _ _ _ _) (do13 _ _ _ _ _ (by omega) (by omega) hb (cell_set6 e1 (by simp; omega) _ _ _ _ _ _) (cell_set6 e2 (by simp; omega) _ _ _ _ _ _))
set_option maxRecDepth 100000 in
theorem of_14 (_hb : b < w.heap.size) (hR : ∀ w' v, Nw w w' → DoOk w' w.heap.size b 14 v → R (.returned (opv 14 v)) w') : Calls Tryd.prog 51 #[.pointer (some ⟨b, 0, none⟩), .int .i64 14] w R := by
  have hmf : ∀ (fn : Fn) (first cap : Array Value) (w : World), (Instr.makeFunc fn first cap).run Tryd.prog w = .ok (.func fn first cap) w := fun _ _ _ _ => rfl
  have HR := Lib.hid hR
  clear hR
  go_enter Tryd.func51, Tryd.ntmps51
  go_wp2
  refine bodyPost_ret (v := .agg #[.int .i64 1, .int .i64 0, .bool false, .bool false, .bool true, .func (.func 73) #[] #[]]) (by simp [results, Tryd.results51, go_sem]) rfl ?_
  exact HR.out _ _ (((Ch.refl _ _).alloc _).alloc _) (do14 _ _ _)
set_option maxRecDepth 100000 in
theorem of_15 (_hb : b < w.heap.size) (hR : ∀ w' v, Nw w w' → DoOk w' w.heap.size b 15 v → R (.returned (opv 15 v)) w') : Calls Tryd.prog 51 #[.pointer (some ⟨b, 0, none⟩), .int .i64 15] w R := by
  have hmf : ∀ (fn : Fn) (first cap : Array Value) (w : World), (Instr.makeFunc fn first cap).run Tryd.prog w = .ok (.func fn first cap) w := fun _ _ _ _ => rfl
  have HR := Lib.hid hR
  clear hR
  go_enter Tryd.func51, Tryd.ntmps51
  go_wp2
  refine bodyPost_ret (v := .agg #[.int .i64 0, .int .i64 0, .bool false, .bool false, .bool true, .func (.func 74) #[] #[]]) (by simp [results, Tryd.results51, go_sem]) rfl ?_
  exact HR.out _ _ (((Ch.refl _ _).alloc _).alloc _) (do15 _ _ _)
/-- A code of no operation. -/
def bad (c : Int) : Prop := c < 1 ∨ 15 < c
set_option maxRecDepth 100000 in
theorem of_no (c : Int) (hc : bad c) (hR : ∀ w', Nw w w' → R (.returned (.agg #[.int .i64 0, .int .i64 0, .bool false, .bool false, .bool false, .nilFunc])) w') : Calls Tryd.prog 51 #[.pointer (some ⟨b, 0, none⟩), .int .i64 c] w R := by
  have hmf : ∀ (fn : Fn) (first cap : Array Value) (w : World), (Instr.makeFunc fn first cap).run Tryd.prog w = .ok (.func fn first cap) w := fun _ _ _ _ => rfl
  have HR := Lib.hid hR
  clear hR
  unfold bad at hc
  have b1 : (c == 1) = false := beq_eq_false_iff_ne.2 (by omega)
  have b2 : (c == 2) = false := beq_eq_false_iff_ne.2 (by omega)
  have b3 : (c == 3) = false := beq_eq_false_iff_ne.2 (by omega)
  have b4 : (c == 4) = false := beq_eq_false_iff_ne.2 (by omega)
  have b5 : (c == 5) = false := beq_eq_false_iff_ne.2 (by omega)
  have b6 : (c == 6) = false := beq_eq_false_iff_ne.2 (by omega)
  have b7 : (c == 7) = false := beq_eq_false_iff_ne.2 (by omega)
  have b8 : (c == 8) = false := beq_eq_false_iff_ne.2 (by omega)
  have b9 : (c == 9) = false := beq_eq_false_iff_ne.2 (by omega)
  have b10 : (c == 10) = false := beq_eq_false_iff_ne.2 (by omega)
  have b11 : (c == 11) = false := beq_eq_false_iff_ne.2 (by omega)
  have b12 : (c == 12) = false := beq_eq_false_iff_ne.2 (by omega)
  have b13 : (c == 13) = false := beq_eq_false_iff_ne.2 (by omega)
  have b14 : (c == 14) = false := beq_eq_false_iff_ne.2 (by omega)
  have b15 : (c == 15) = false := beq_eq_false_iff_ne.2 (by omega)
  clear hc
  go_enter Tryd.func51, Tryd.ntmps51
  go_wp2
  refine bodyPost_ret (v := .agg #[.int .i64 0, .int .i64 0, .bool false, .bool false, .bool false, .nilFunc]) (by simp [results, Tryd.results51, go_sem]) rfl ?_
  exact HR.out _ (((Ch.refl _ _).alloc _).alloc _)

theorem of_ok (c : Int) (hb : b < w.heap.size) (hc : ¬ bad c) (hR : ∀ w' v, Nw w w' → DoOk w' w.heap.size b c v → R (.returned (opv c v)) w') : Calls Tryd.prog 51 #[.pointer (some ⟨b, 0, none⟩), .int .i64 c] w R := by
  unfold bad at hc
  obtain rfl | rfl | rfl | rfl | rfl | rfl | rfl | rfl | rfl | rfl | rfl | rfl | rfl | rfl | rfl : c = 1 ∨ c = 2 ∨ c = 3 ∨ c = 4 ∨ c = 5 ∨ c = 6 ∨ c = 7 ∨ c = 8 ∨ c = 9 ∨ c = 10 ∨ c = 11 ∨ c = 12 ∨ c = 13 ∨ c = 14 ∨ c = 15 := by omega
  · exact of_1 b w R hb hR
  · exact of_2 b w R hb hR
  · exact of_3 b w R hb hR
  · exact of_4 b w R hb hR
  · exact of_5 b w R hb hR
  · exact of_6 b w R hb hR
  · exact of_7 b w R hb hR
  · exact of_8 b w R hb hR
  · exact of_9 b w R hb hR
  · exact of_10 b w R hb hR
  · exact of_11 b w R hb hR
  · exact of_12 b w R hb hR
  · exact of_13 b w R hb hR
  · exact of_14 b w R hb hR
  · exact of_15 b w R hb hR
end
end Go.Proofs.YtlgcijafjcfnhaaDoor
