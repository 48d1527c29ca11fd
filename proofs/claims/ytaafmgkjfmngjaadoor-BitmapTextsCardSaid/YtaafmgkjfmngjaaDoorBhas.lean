/-
  bitmap.has and bitmap.Get: whether a bitmap has a dot.
-/
import Derived.Test.YtaafmgkjfmngjaaDoorImG
namespace Go.Proofs.YtaafmgkjfmngjaaDoor
open Go.RowKit
set_option linter.unusedVariables false
set_option linter.unusedSimpArgs false
set_option maxRecDepth 100000

theorem hasB_out {b : Bm} {x y : Int} (h : ¬ (0 ≤ x ∧ x < b.1 ∧ 0 ≤ y ∧ y < b.2.1)) : hasB b x y = false := by unfold hasB; rw [decide_eq_false h]; simp
theorem hasB_in {b : Bm} {x y : Int} (h : 0 ≤ x ∧ x < b.1 ∧ 0 ≤ y ∧ y < b.2.1) {d : Bool} (hd : b.2.2[(y * b.1 + x).toNat]? = some d) : hasB b x y = d := by unfold hasB; rw [decide_eq_true h, hd]; rfl

set_option maxHeartbeats 1000000 in
theorem has_any (lo : Nat) (v : Value) (b : Bm) (x y : Int) (w : World) (R : Ending → World → Prop) (h : IsBm w lo v b) (hE : bmE b = 0)
    (hR : ∀ w', Nw w w' → R (.returned (.bool (hasB b x y))) w') : Calls Tryd.prog 37 #[v, .agg #[.int .i64 x, .int .i64 y]] w R := by
  have HR := Lib.hid hR
  clear hR
  obtain ⟨W, H, l⟩ := b
  obtain ⟨s, rfl, ⟨A, cap, rfl, ⟨hlc, hl⟩, hel⟩, hw, hh⟩ := h
  simp only at hw hh hl hel
  have HEL := Lib.hid hel
  clear hel
  unfold wfI at hw hh
  have HN := Lib.hid (show Nw w ((w.alloc (.cells #[.int .i64 W, .int .i64 H, .slice A l.length cap] 28)).alloc (.cells #[.int .i64 x, .int .i64 y] 67)) from ((Ch.refl _ _).alloc _).alloc _)
  obtain ⟨b1, b2, b3⟩ := bmE_ok hE
  simp only at b1 b2 b3
  obtain ⟨c1, c2⟩ := b1
  obtain ⟨d1, d2⟩ := b2
  have B3 := Lib.hid b3
  clear hE b3
  by_cases x0 : 0 ≤ x
  · by_cases x1 : x < W
    · by_cases y0 : 0 ≤ y
      · by_cases y1 : y < H
        · obtain ⟨g0, g1⟩ := grid_lt (x := x) (y := y) (W := W) (H := H) ⟨x0, x1⟩ ⟨y0, y1⟩
          rw [← B3.out] at g1
          obtain ⟨m0, m1⟩ := mul96 (a := y) (b := W) ⟨y0, by omega⟩ ⟨c1, by omega⟩
          obtain ⟨d, hd⟩ : ∃ d, l[(y * W + x).toNat]? = some d := ⟨_, List.getElem?_eq_getElem (by omega)⟩
          obtain ⟨pk, po, hpk, rfl, hcell⟩ := HEL.out _ d hd
          have HD := Lib.hid hd
          clear hd
          have hc1 := HN.out.cell hcell id
          go_enter Tryd.func37, Tryd.ntmps37
          go_wp2
          exact ret_b (HR.out _ HN.out) (hasB_in ⟨x0, x1, y0, y1⟩ HD.out)
        · go_enter Tryd.func37, Tryd.ntmps37
          go_wp2
          exact ret_b (HR.out _ HN.out) (hasB_out (by simp only; omega))
      · go_enter Tryd.func37, Tryd.ntmps37
        go_wp2
        exact ret_b (HR.out _ HN.out) (hasB_out (by simp only; omega))
    · go_enter Tryd.func37, Tryd.ntmps37
      go_wp2
      exact ret_b (HR.out _ HN.out) (hasB_out (by simp only; omega))
  · go_enter Tryd.func37, Tryd.ntmps37
    go_wp2
    exact ret_b (HR.out _ HN.out) (hasB_out (by simp only; omega))

theorem Get_any (lo : Nat) (v : Value) (b : Bm) (x y : Int) (w : World) (R : Ending → World → Prop) (h : IsBm w lo v b)
    (hR : ∀ w', Nw w w' → R (.returned (.bool (getB b x y))) w') : Calls Tryd.prog 29 #[v, .int .i64 x, .int .i64 y] w R := by
  have HR := Lib.hid hR
  clear hR
  have HB := Lib.hid h
  obtain ⟨W, H, l⟩ := b
  obtain ⟨s, rfl, ⟨A, cap, rfl, ⟨hlc, hl⟩, -⟩, hw, hh⟩ := h
  simp only at hw hh hl
  unfold wfI at hw hh
  have HN := Lib.hid (show Nw w (w.alloc (.cells #[.int .i64 W, .int .i64 H, .slice A l.length cap] 28)) from (Ch.refl _ _).alloc _)
  have HB2 := Lib.hid (HB.out.kept HN.out nof)
  by_cases hE : bmE (W, H, l) = 0
  · have HE := Lib.hid hE
    clear hE
    go_enter Tryd.func29, Tryd.ntmps29
    go_wp2_with (first | (go_at_call 21; refine bmCheck_ok lo _ _ _ _ HB2.out HE.out ?_; intro w1 n1; (have p0 : w1.cell? ⟨w.heap.size, 0, none⟩ = some (.int .i64 W) := n1.cell (cell_alloc_new rfl rfl) id); (have p1 : w1.cell? ⟨w.heap.size, 1, none⟩ = some (.int .i64 H) := n1.cell (cell_alloc_new rfl rfl) id); (have p2 : w1.cell? ⟨w.heap.size, 2, none⟩ = some (.slice A l.length cap) := n1.cell (cell_alloc_new rfl rfl) id); (have N1 := Lib.hid (HN.out.trans n1)); (have HB3 := Lib.hid (HB2.out.kept n1 nof)); clear n1) | (go_at_call 37; refine has_any lo _ (W, H, l) x y _ _ HB3.out HE.out ?_; intro w2 n2; (have N2 := Lib.hid (N1.out.trans n2)); clear n2))
    exact ret_b (HR.out _ N2.out) (by unfold getB; rw [decide_eq_true HE.out]; rfl)
  · have t0 : (bmE (W, H, l) == 0) = false := by simp [hE]
    have HE := Lib.hid hE
    clear hE
    go_enter Tryd.func29, Tryd.ntmps29
    go_wp2_with (go_at_call 21; refine bmCheck_any lo _ _ _ _ HB2.out ?_; intro w1 n1; (have N1 := Lib.hid (HN.out.trans n1)); clear n1)
    exact ret_b (HR.out _ N1.out) (getB_no HE.out)
end Go.Proofs.YtaafmgkjfmngjaaDoor
