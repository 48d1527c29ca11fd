/-
  indelibleref04.Get, indelibleref22.Same: a dot of a bitmap; whether two images are equal.
-/
import Derived.Test.YtaafmgkjfmngjaaDoorImC
import Derived.BigQuiet
import Derived.Deep.QuietTactic
namespace Go.Proofs.YtaafmgkjfmngjaaDoor
open Go.RowKit
set_option linter.unusedVariables false
set_option linter.unusedSimpArgs false
set_option maxRecDepth 100000

theorem rbCheck_ok (lo : Nat) (v : Value) (b : Bm) (w : World) (R : Ending → World → Prop) (h : IsBm w lo v b) (hE : bmE b = 0)
    (hR : ∀ w', Nw w w' → R (.returned (.int .i64 0)) w') : Calls Tryd.prog 22 #[v] w R :=
  rbCheck_any lo v b w R h (by rw [hE]; exact hR)
theorem bmCheck_ok (lo : Nat) (v : Value) (b : Bm) (w : World) (R : Ending → World → Prop) (h : IsBm w lo v b) (hE : bmE b = 0)
    (hR : ∀ w', Nw w w' → R (.returned (.int .i64 0)) w') : Calls Tryd.prog 21 #[v] w R :=
  bmCheck_any lo v b w R h (by rw [hE]; exact hR)

theorem getB_no {b : Bm} {x y : Int} (h : bmE b ≠ 0) : getB b x y = false := by unfold getB; rw [decide_eq_false h]; rfl
theorem getB_out {b : Bm} {x y : Int} (h : ¬ (0 ≤ x ∧ x < b.1 ∧ 0 ≤ y ∧ y < b.2.1)) : getB b x y = false := by
  unfold getB hasB; rw [decide_eq_false h]; simp
theorem getB_in {b : Bm} {x y : Int} (hE : bmE b = 0) (h : 0 ≤ x ∧ x < b.1 ∧ 0 ≤ y ∧ y < b.2.1) {d : Bool} (hd : b.2.2[(y * b.1 + x).toNat]? = some d) : getB b x y = d := by
  unfold getB hasB; rw [decide_eq_true hE, decide_eq_true h, hd]; rfl

theorem rGet_any (lo : Nat) (v : Value) (b : Bm) (x y : Int) (w : World) (R : Ending → World → Prop) (h : IsBm w lo v b)
    (hR : ∀ w', Nw w w' → R (.returned (.bool (getB b x y))) w') : Calls Tryd.prog 30 #[v, .int .i64 x, .int .i64 y] w R := by
  have HR := Lib.hid hR
  clear hR
  have HB := Lib.hid h
  obtain ⟨W, H, l⟩ := b
  obtain ⟨s, rfl, ⟨A, cap, rfl, ⟨hlc, hl⟩, hel⟩, hw, hh⟩ := h
  simp only at hw hh hl hel
  have HEL := Lib.hid hel
  clear hel
  unfold wfI at hw hh
  have HN := Lib.hid (show Nw w (w.alloc (.cells #[.int .i64 W, .int .i64 H, .slice A l.length cap] 28)) from (Ch.refl _ _).alloc _)
  have HB2 := Lib.hid (HB.out.kept HN.out nof)
  by_cases hE : bmE (W, H, l) = 0
  · obtain ⟨b1, b2, b3⟩ := bmE_ok hE
    simp only at b1 b2 b3
    have HE := Lib.hid hE
    obtain ⟨c1, c2⟩ := b1
    obtain ⟨d1, d2⟩ := b2
    have B3 := Lib.hid b3
    clear hE b3
    by_cases x0 : 0 ≤ x
    · by_cases x1 : x < W
      · by_cases y0 : 0 ≤ y
        · by_cases y1 : y < H
          · obtain ⟨g0, g1⟩ := grid_lt (x := x) (y := y) (W := W) (H := H) ⟨x0, x1⟩ ⟨y0, y1⟩
            rw [← B3.out] at g1
            obtain ⟨m0, m1⟩ := mul96 (a := y) (b := W) ⟨y0, by omega⟩ ⟨c1, by omega⟩
            obtain ⟨d, hd⟩ : ∃ d, l[(y * W + x).toNat]? = some d := ⟨_, List.getElem?_eq_getElem (by omega)⟩
            obtain ⟨pk, po, hpk, rfl, hcell⟩ := HEL.out _ d hd
            have HD := Lib.hid hd
            clear hd
            go_enter Tryd.func30, Tryd.ntmps30
            go_wp2_with (go_at_call 22; refine rbCheck_ok lo _ _ _ _ HB2.out HE.out ?_; intro w1 n1; (have p0 : w1.cell? ⟨w.heap.size, 0, none⟩ = some (.int .i64 W) := n1.cell (cell_alloc_new rfl rfl) id); (have p1 : w1.cell? ⟨w.heap.size, 1, none⟩ = some (.int .i64 H) := n1.cell (cell_alloc_new rfl rfl) id); (have p2 : w1.cell? ⟨w.heap.size, 2, none⟩ = some (.slice (some ⟨pk, po, none⟩) l.length cap) := n1.cell (cell_alloc_new rfl rfl) id); (have hc1 := n1.cell (HN.out.cell hcell id) id); (have N1 := Lib.hid (HN.out.trans n1)); clear n1)
            exact ret_b (HR.out _ N1.out) (getB_in HE.out ⟨x0, x1, y0, y1⟩ HD.out)
          · go_enter Tryd.func30, Tryd.ntmps30
            go_wp2_with (go_at_call 22; refine rbCheck_ok lo _ _ _ _ HB2.out HE.out ?_; intro w1 n1; (have p0 : w1.cell? ⟨w.heap.size, 0, none⟩ = some (.int .i64 W) := n1.cell (cell_alloc_new rfl rfl) id); (have p1 : w1.cell? ⟨w.heap.size, 1, none⟩ = some (.int .i64 H) := n1.cell (cell_alloc_new rfl rfl) id); (have N1 := Lib.hid (HN.out.trans n1)); clear n1)
            exact ret_b (HR.out _ N1.out) (getB_out (by simp only; omega))
        · go_enter Tryd.func30, Tryd.ntmps30
          go_wp2_with (go_at_call 22; refine rbCheck_ok lo _ _ _ _ HB2.out HE.out ?_; intro w1 n1; (have p0 : w1.cell? ⟨w.heap.size, 0, none⟩ = some (.int .i64 W) := n1.cell (cell_alloc_new rfl rfl) id); (have N1 := Lib.hid (HN.out.trans n1)); clear n1)
          exact ret_b (HR.out _ N1.out) (getB_out (by simp only; omega))
      · go_enter Tryd.func30, Tryd.ntmps30
        go_wp2_with (go_at_call 22; refine rbCheck_ok lo _ _ _ _ HB2.out HE.out ?_; intro w1 n1; (have p0 : w1.cell? ⟨w.heap.size, 0, none⟩ = some (.int .i64 W) := n1.cell (cell_alloc_new rfl rfl) id); (have N1 := Lib.hid (HN.out.trans n1)); clear n1)
        exact ret_b (HR.out _ N1.out) (getB_out (by simp only; omega))
    · go_enter Tryd.func30, Tryd.ntmps30
      go_wp2_with (go_at_call 22; refine rbCheck_ok lo _ _ _ _ HB2.out HE.out ?_; intro w1 n1; (have N1 := Lib.hid (HN.out.trans n1)); clear n1)
      exact ret_b (HR.out _ N1.out) (getB_out (by simp only; omega))
  · have t0 : (bmE (W, H, l) == 0) = false := by simp [hE]
    have HE := Lib.hid hE
    clear hE
    go_enter Tryd.func30, Tryd.ntmps30
    go_wp2_with (go_at_call 22; refine rbCheck_any lo _ _ _ _ HB2.out ?_; intro w1 n1; (have N1 := Lib.hid (HN.out.trans n1)); clear n1)
    exact ret_b (HR.out _ N1.out) (getB_no HE.out)

theorem take_eq {α : Type} {a b : List α} {k : Nat} {x : α} (h : a.take k = b.take k) (hx : a[k]? = some x) (hy : b[k]? = some x) : a.take (k + 1) = b.take (k + 1) := by
  rw [List.take_add_one, List.take_add_one, h, hx, hy]
theorem take_ne {α : Type} {a b : List α} {k : Nat} {x y : α} (hx : a[k]? = some x) (hy : b[k]? = some y) (h : x ≠ y) : a ≠ b := by
  rintro rfl
  rw [hx] at hy
  injection hy with hy
  exact h hy

end Go.Proofs.YtaafmgkjfmngjaaDoor
