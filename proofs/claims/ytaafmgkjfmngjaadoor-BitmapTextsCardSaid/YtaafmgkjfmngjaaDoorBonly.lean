/-
  bitmap.Count and bitmap.Only.
-/
import Derived.Test.YtaafmgkjfmngjaaDoorBdots
namespace Go.Proofs.YtaafmgkjfmngjaaDoor
open Go.RowKit
set_option linter.unusedVariables false
set_option linter.unusedSimpArgs false
set_option maxRecDepth 100000

theorem count1_any (x : Int × Int) (w : World) (R : Ending → World → Prop) (hR : ∀ w', Nw w w' → R (.returned (.bool true)) w') : Calls Tryd.prog 41 #[.agg #[.int .i64 x.1, .int .i64 x.2]] w R := by
  have HR := Lib.hid hR
  clear hR
  have HN := Lib.hid (show Nw w (w.alloc (.cells #[.int .i64 x.1, .int .i64 x.2] 67)) from (Ch.refl _ _).alloc _)
  go_enter Tryd.func41, Tryd.ntmps41
  go_wp2
  exact ret_b (HR.out _ HN.out) rfl

theorem Count_any (lo : Nat) (v : Value) (b : Bm) (w : World) (R : Ending → World → Prop) (hb : IsBm w lo v b) (hlo : lo ≤ w.heap.size) (h63 : b.2.2.length ≤ 1000000000)
    (hR : ∀ w', Nw w w' → R (.returned (.int .i64 (cntD b fun _ => true))) w') : Calls Tryd.prog 19 #[v] w R := by
  have HR := Lib.hid hR
  have HB := Lib.hid hb
  clear hR
  obtain ⟨s, rfl, ⟨A, cap, rfl, -, -⟩, -, -⟩ := hb
  have HN := Lib.hid (show Nw w (w.alloc (.cells #[.int .i64 b.1, .int .i64 b.2.1, .slice A b.2.2.length cap] 28)) from (Ch.refl _ _).alloc _)
  have HB2 := Lib.hid (HB.out.kept HN.out nof)
  generalize hbw : b.1 = bw at *
  generalize hbh : b.2.1 = bh at *
  generalize hbl : b.2.2.length = n at *
  clear hbw hbh
  go_enter Tryd.func19, Tryd.ntmps19
  go_wp2_with (go_at_call 38; refine bcount_any lo _ b 41 #[] (fun _ => true) _ _ HB2.out (by rw [alloc_size]; omega) (by omega) (enters_of Tryd.func41 (by kernel_rfl) rfl) (fun w' x R' _ hR' => count1_any x w' R' hR') ?_; intro w1 n1; (have N1 := Lib.hid (HN.out.trans n1)); clear n1)
  exact ret_i (HR.out _ N1.out) rfl

theorem Calls_nmO {P : Program} {f : FuncId} {args : Array Value} {w : World} {R : Ending → World → Prop} (h : ∀ W, W = w → Calls P f args W R) : Calls P f args w R := h _ rfl
/-- Which dots Only counts. -/
def onlyP (b : Bm) (dx dy from' till : Int) (x : Int × Int) : Bool := (decide (x.1 < from') || decide (till ≤ x.1)) && !hasB b (wrap64 (x.1 - dx)) (wrap64 (x.2 - dy))
def validB (b : Bm) : Bm := if bmE b = 0 then b else (0, 0, [])
theorem validB_ok (b : Bm) : bmE (validB b) = 0 := by
  unfold validB
  split
  · assumption
  · rfl

theorem only1_any (B lo : Nat) (s : Value) (b : Bm) (dx dy fr tl : Int) (x : Int × Int) (w : World) (R : Ending → World → Prop)
    (hf : w.cell? ⟨B + 4, 0, none⟩ = some (.int .i64 fr)) (ht : w.cell? ⟨B + 5, 0, none⟩ = some (.int .i64 tl)) (hb : w.heap[B + 1]? = some (.cells #[.int .i64 b.1, .int .i64 b.2.1, s] 28 (0, 0))) (hx : w.cell? ⟨B + 2, 0, none⟩ = some (.int .i64 dx)) (hy : w.cell? ⟨B + 3, 0, none⟩ = some (.int .i64 dy))
    (hI : IsBm w lo (.agg #[.int .i64 b.1, .int .i64 b.2.1, s]) b) (hE : bmE b = 0)
    (hR : ∀ w', Nw w w' → R (.returned (.bool (onlyP b dx dy fr tl x))) w') : Calls Tryd.prog 39 (#[.agg #[.int .i64 x.1, .int .i64 x.2]] ++ #[.pointer (some ⟨B + 4, 0, none⟩), .pointer (some ⟨B + 5, 0, none⟩), .pointer (some ⟨B + 1, 0, none⟩), .pointer (some ⟨B + 2, 0, none⟩), .pointer (some ⟨B + 3, 0, none⟩)]) w R := by
  have HR := Lib.hid hR
  have HE := Lib.hid hE
  clear hR hE
  have HN := Lib.hid (show Nw w (w.alloc (.cells #[.int .i64 x.1, .int .i64 x.2] 67)) from (Ch.refl _ _).alloc _)
  have HI2 := Lib.hid (hI.kept HN.out nof)
  have c0 : w.cell? ⟨B + 1, 0, none⟩ = some (.int .i64 b.1) := by rw [cell_of hb]; rfl
  have c1 : w.cell? ⟨B + 1, 1, none⟩ = some (.int .i64 b.2.1) := by rw [cell_of hb]; rfl
  have c2 : w.cell? ⟨B + 1, 2, none⟩ = some s := by rw [cell_of hb]; rfl
  obtain ⟨s', e, ⟨A, cap, rfl, -, -⟩, -, -⟩ := hI
  simp at e
  subst e
  obtain ⟨x1, x2⟩ := x
  simp only at HN HI2 HR ⊢
  generalize hbw : b.1 = bw at *
  generalize hbh : b.2.1 = bh at *
  generalize hbl : b.2.2.length = n at *
  clear hbw hbh hbl hb
  simp only [List.append_toArray, List.cons_append, List.nil_append]
  have jf := fun o => cell_alloc_old o hf
  have jt := fun o => cell_alloc_old o ht
  have jx := fun o => cell_alloc_old o hx
  have jy := fun o => cell_alloc_old o hy
  have j0 := fun o => cell_alloc_old o c0
  have j1 := fun o => cell_alloc_old o c1
  have j2 := fun o => cell_alloc_old o c2
  by_cases h1 : x1 < fr
  · go_enter Tryd.func39, Tryd.ntmps39
    go_wp2_with (go_at_call 37; refine has_any lo _ b _ _ _ _ HI2.out HE.out ?_; intro w1 n1; (have N1 := Lib.hid (HN.out.trans n1)); clear n1)
    exact ret_b (HR.out _ N1.out) (by unfold onlyP; simp [h1])
  · have d1 : decide (x1 < fr) = false := decide_eq_false h1
    by_cases h2 : tl ≤ x1
    · go_enter Tryd.func39, Tryd.ntmps39
      go_wp2_with (go_at_call 37; refine has_any lo _ b _ _ _ _ HI2.out HE.out ?_; intro w1 n1; (have N1 := Lib.hid (HN.out.trans n1)); clear n1)
      exact ret_b (HR.out _ N1.out) (by unfold onlyP; simp [h1, h2])
    · have d2 : decide (tl ≤ x1) = false := decide_eq_false h2
      go_enter Tryd.func39, Tryd.ntmps39
      go_wp2
      exact ret_b (HR.out _ HN.out) (by unfold onlyP; simp only [d1, d2, Bool.or_false, Bool.false_and])

set_option maxHeartbeats 2000000 in
theorem Only_any (lo : Nat) (va vb : Value) (a b : Bm) (dx dy fr tl : Int) (w : World) (R : Ending → World → Prop) (ha : IsBm w lo va a) (hb : IsBm w lo vb b) (hlo : lo ≤ w.heap.size) (h63 : a.2.2.length ≤ 1000000000)
    (hR : ∀ w', Nw w w' → R (.returned (.int .i64 (cntD a (onlyP (validB b) dx dy fr tl)))) w') : Calls Tryd.prog 16 #[va, vb, .int .i64 dx, .int .i64 dy, .int .i64 fr, .int .i64 tl] w R := by
  have HR := Lib.hid hR
  have HA := Lib.hid ha
  have HB := Lib.hid hb
  clear hR
  obtain ⟨s, rfl, ⟨A, cap, rfl, -, -⟩, -, -⟩ := ha
  obtain ⟨s', rfl, ⟨A', cap', rfl, -, -⟩, -, -⟩ := hb
  obtain ⟨W6, hW6⟩ : ∃ W6 : World, W6 = ((((((w.alloc (.cells #[.int .i64 a.1, .int .i64 a.2.1, .slice A a.2.2.length cap] 28)).alloc (.cells #[.int .i64 b.1, .int .i64 b.2.1, .slice A' b.2.2.length cap'] 28)).alloc (.cells #[.int .i64 dx] 3)).alloc (.cells #[.int .i64 dy] 3)).alloc (.cells #[.int .i64 fr] 3)).alloc (.cells #[.int .i64 tl] 3)) := ⟨_, rfl⟩
  have HN := Lib.hid (show Nw w W6 from by rw [hW6]; exact ((((((Ch.refl _ _).alloc _).alloc _).alloc _).alloc _).alloc _).alloc _)
  have HA2 := Lib.hid (HA.out.kept HN.out nof)
  have HB2 := Lib.hid (HB.out.kept HN.out nof)
  have HBB := Lib.hid (show W6.heap[w.heap.size + 1]? = some (.cells #[.int .i64 b.1, .int .i64 b.2.1, .slice A' b.2.2.length cap'] 28 (0, 0)) from by rw [hW6]; exact heap_alloc_old' _ (heap_alloc_old' _ (heap_alloc_old' _ (heap_alloc_old' _ (heap_alloc_eq _ (by simp only [alloc_size]))))))
  have HD2 := Lib.hid (show W6.heap[w.heap.size + 2]? = some (.cells #[.int .i64 dx] 3 (0, 0)) from by rw [hW6]; exact heap_alloc_old' _ (heap_alloc_old' _ (heap_alloc_old' _ (heap_alloc_eq _ (by simp only [alloc_size])))))
  have HD3 := Lib.hid (show W6.heap[w.heap.size + 3]? = some (.cells #[.int .i64 dy] 3 (0, 0)) from by rw [hW6]; exact heap_alloc_old' _ (heap_alloc_old' _ (heap_alloc_eq _ (by simp only [alloc_size]))))
  have HD4 := Lib.hid (show W6.heap[w.heap.size + 4]? = some (.cells #[.int .i64 fr] 3 (0, 0)) from by rw [hW6]; exact heap_alloc_old' _ (heap_alloc_eq _ (by simp only [alloc_size])))
  have HD5 := Lib.hid (show W6.heap[w.heap.size + 5]? = some (.cells #[.int .i64 tl] 3 (0, 0)) from by rw [hW6]; exact heap_alloc_eq _ (by simp only [alloc_size]))
  have HD0 := Lib.hid (show W6.heap[w.heap.size]? = some (.cells #[.int .i64 a.1, .int .i64 a.2.1, .slice A a.2.2.length cap] 28 (0, 0)) from by rw [hW6]; exact heap_alloc_old' _ (heap_alloc_old' _ (heap_alloc_old' _ (heap_alloc_old' _ (heap_alloc_old' _ (heap_alloc_eq _ rfl))))))
  have hs6 : W6.heap.size = w.heap.size + 6 := by rw [hW6]; simp only [alloc_size]
  have hp : ∀ (s : Value) (c : Bm) (W' w' : World) (x : Int × Int) (R' : Ending → World → Prop), bmE c = 0 → W'.heap[w.heap.size + 1]? = some (.cells #[.int .i64 c.1, .int .i64 c.2.1, s] 28 (0, 0)) → IsBm W' lo (.agg #[.int .i64 c.1, .int .i64 c.2.1, s]) c → Ch (· = w.heap.size + 1) W6 W' → Nw W' w' →
      (∀ w'', Nw w' w'' → R' (.returned (.bool (onlyP c dx dy fr tl x))) w'') → Calls Tryd.prog 39 (#[.agg #[.int .i64 x.1, .int .i64 x.2]] ++ #[.pointer (some ⟨w.heap.size + 4, 0, none⟩), .pointer (some ⟨w.heap.size + 5, 0, none⟩), .pointer (some ⟨w.heap.size + 1, 0, none⟩), .pointer (some ⟨w.heap.size + 2, 0, none⟩), .pointer (some ⟨w.heap.size + 3, 0, none⟩)]) w' R' := by
    intro s c W' w' x R' hE hb hi hc hn hR'
    have far : ∀ (k : Nat) (o : Obj), k ≠ w.heap.size + 1 → W6.heap[k]? = some o → w'.heap[k]? = some o := fun k o hk h => hn.heap (hc.heap h hk) id
    exact only1_any w.heap.size lo s c dx dy fr tl x w' R' (by rw [cell_of (far _ _ (by omega) HD4.out)]; rfl) (by rw [cell_of (far _ _ (by omega) HD5.out)]; rfl) (hn.heap hb id) (by rw [cell_of (far _ _ (by omega) HD2.out)]; rfl) (by rw [cell_of (far _ _ (by omega) HD3.out)]; rfl) (hi.kept hn nof) hE hR'
  have HP := Lib.hid hp
  clear hp
  have HW6 := Lib.hid hW6
  clear hW6
  have a0 : W6.cell? ⟨w.heap.size, 0, none⟩ = some (.int .i64 a.1) := by rw [cell_of HD0.out]; rfl
  have a1 : W6.cell? ⟨w.heap.size, 1, none⟩ = some (.int .i64 a.2.1) := by rw [cell_of HD0.out]; rfl
  have a2 : W6.cell? ⟨w.heap.size, 2, none⟩ = some (.slice A a.2.2.length cap) := by rw [cell_of HD0.out]; rfl
  by_cases hE : bmE b = 0
  · have hv : validB b = b := if_pos hE
    rw [hv] at HR
    have HE := Lib.hid hE
    clear hE hv
    go_enter Tryd.func16, Tryd.ntmps16
    go_wp2_with (go_at_call 36; fail)
    rw [← HW6.out]
    refine bmCheck_ok lo _ b _ _ HB2.out HE.out ?_
    intro w1 n1
    have N1 := Lib.hid n1
    have a0 := n1.cell a0 id
    have a1 := n1.cell a1 id
    have a2 := n1.cell a2 id
    have z1 := n1.size
    clear n1
    go_wp2_with (go_at_call 38; refine bcount_any lo _ a 39 _ (onlyP b dx dy fr tl) _ _ (HA2.out.kept N1.out nof) (by omega) h63 (enters_of Tryd.func39 (by kernel_rfl) rfl) (fun w' x R' hn hR' => HP.out _ b w1 w' x R' HE.out (N1.out.heap HBB.out id) (HB2.out.kept N1.out nof) (N1.out.mono (fun _ _ h => h.elim)) hn hR') ?_; intro w2 n2; (have N2 := Lib.hid (HN.out.trans (N1.out.trans n2))); clear n2)
    exact ret_i (HR.out _ N2.out) rfl
  · have hv : validB b = (0, 0, []) := if_neg hE
    rw [hv] at HR
    have t0 : (bmE b != 0) = true := by simp [hE]
    clear hv
    go_enter Tryd.func16, Tryd.ntmps16
    go_wp2_with (go_at_call 36; fail)
    rw [← HW6.out]
    refine bmCheck_any lo _ b _ _ HB2.out ?_
    intro w1 n1
    have N1 := Lib.hid n1
    have HBB1 := Lib.hid (n1.heap HBB.out id)
    have b0 : w1.cell? ⟨w.heap.size + 1, 0, none⟩ = some (.int .i64 b.1) := by rw [cell_of HBB1.out]; rfl
    have b1 : w1.cell? ⟨w.heap.size + 1, 1, none⟩ = some (.int .i64 b.2.1) := by rw [cell_of HBB1.out]; rfl
    have b2 : w1.cell? ⟨w.heap.size + 1, 2, none⟩ = some (.slice A' b.2.2.length cap') := by rw [cell_of HBB1.out]; rfl
    have f0 : w1.frozen? ⟨w.heap.size + 1, 0, none⟩ = false := frozen_of HBB1.out
    have f1 : w1.frozen? ⟨w.heap.size + 1, 1, none⟩ = false := frozen_of HBB1.out
    have f2 : w1.frozen? ⟨w.heap.size + 1, 2, none⟩ = false := frozen_of HBB1.out
    have a0 := n1.cell a0 id
    have a1 := n1.cell a1 id
    have a2 := n1.cell a2 id
    have z1 := n1.size
    clear n1
    go_wp2_with (go_at_call 36; fail)
    refine Calls_nmO ?_
    intro W2 hW2
    have C2 := Lib.hid (show Ch (· = w.heap.size + 1) w1 W2 from by rw [hW2]; exact (((Ch.refl (· = w.heap.size + 1) w1).setb (fun _ => rfl) _).setb (fun _ => rfl) _).setb (fun _ => rfl) _)
    have HB3 := Lib.hid (show W2.heap[w.heap.size + 1]? = some (.cells #[.int .i64 0, .int .i64 0, .slice none 0 0] 28 (0, 0)) from by rw [hW2]; exact heap_setCell_eq _ (heap_setCell_eq _ (heap_setCell_eq _ HBB1.out)))
    clear hW2 b0 b1 b2 f0 f1 f2 a0 a1 a2
    have z2 := C2.out.size
    refine bcount_any lo _ a 39 _ (onlyP (0, 0, []) dx dy fr tl) _ _ ((HA2.out.kept N1.out nof).kept C2.out (fun k hk e => by have e' : k = w.heap.size + 1 := e; omega)) (by omega) h63 (enters_of Tryd.func39 (by kernel_rfl) rfl) (fun w' x R' hn hR' => HP.out (.slice none 0 0) (0, 0, []) W2 w' x R' rfl HB3.out ⟨_, rfl, ⟨none, 0, rfl, by simp, fun i x h => by cases h⟩, by unfold wfI; simp only; omega, by unfold wfI; simp only; omega⟩ ((N1.out.mono (fun _ _ h => h.elim)).trans C2.out) hn hR') ?_
    intro w3 n3
    have N3 := Lib.hid ((HN.out.trans N1.out).trans' C2.out (fun j hj e => by have e' : j = w.heap.size + 1 := e; omega))
    have N4 := Lib.hid (N3.out.trans n3)
    clear n3
    go_wp2_with fail
    exact ret_i (HR.out _ N4.out) rfl
end Go.Proofs.YtaafmgkjfmngjaaDoor
