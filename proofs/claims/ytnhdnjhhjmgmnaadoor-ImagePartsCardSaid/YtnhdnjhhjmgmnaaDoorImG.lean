/-
  indelibleref04.Get, indelibleref22.Same: a dot of a bitmap; whether two images are equal.
-/
import Derived.Test.YtnhdnjhhjmgmnaaDoorImC
import Derived.BigQuiet
import Derived.Deep.QuietTactic
namespace Go.Proofs.YtnhdnjhhjmgmnaaDoor
open Go.RowKit
set_option linter.unusedVariables false
set_option linter.unusedSimpArgs false
set_option maxRecDepth 100000

theorem rbCheck_ok (lo : Nat) (v : Value) (b : Bm) (w : World) (R : Ending → World → Prop) (h : IsBm w lo v b) (hE : bmE b = 0)
    (hR : ∀ w', Nw w w' → R (.returned (.int .i64 0)) w') : Calls Tryd.prog 38 #[v] w R :=
  rbCheck_any lo v b w R h (by rw [hE]; exact hR)
theorem bmCheck_ok (lo : Nat) (v : Value) (b : Bm) (w : World) (R : Ending → World → Prop) (h : IsBm w lo v b) (hE : bmE b = 0)
    (hR : ∀ w', Nw w w' → R (.returned (.int .i64 0)) w') : Calls Tryd.prog 37 #[v] w R :=
  bmCheck_any lo v b w R h (by rw [hE]; exact hR)

theorem getB_no {b : Bm} {x y : Int} (h : bmE b ≠ 0) : getB b x y = false := by unfold getB; rw [decide_eq_false h]; rfl
theorem getB_out {b : Bm} {x y : Int} (h : ¬ (0 ≤ x ∧ x < b.1 ∧ 0 ≤ y ∧ y < b.2.1)) : getB b x y = false := by
  unfold getB hasB; rw [decide_eq_false h]; simp
theorem getB_in {b : Bm} {x y : Int} (hE : bmE b = 0) (h : 0 ≤ x ∧ x < b.1 ∧ 0 ≤ y ∧ y < b.2.1) {d : Bool} (hd : b.2.2[(y * b.1 + x).toNat]? = some d) : getB b x y = d := by
  unfold getB hasB; rw [decide_eq_true hE, decide_eq_true h, hd]; rfl

theorem rGet_any (lo : Nat) (v : Value) (b : Bm) (x y : Int) (w : World) (R : Ending → World → Prop) (h : IsBm w lo v b)
    (hR : ∀ w', Nw w w' → R (.returned (.bool (getB b x y))) w') : Calls Tryd.prog 40 #[v, .int .i64 x, .int .i64 y] w R := by
  have HR := Lib.hid hR
  clear hR
  have HB := Lib.hid h
  obtain ⟨W, H, l⟩ := b
  obtain ⟨s, rfl, ⟨A, cap, rfl, ⟨hlc, hl⟩, hel⟩, hw, hh⟩ := h
  simp only at hw hh hl hel
  have HEL := Lib.hid hel
  clear hel
  unfold wfI at hw hh
  have HN := Lib.hid (show Nw w (w.alloc (.cells #[.int .i64 W, .int .i64 H, .slice A l.length cap] 31)) from (Ch.refl _ _).alloc _)
  have HB2 := Lib.hid (HB.out.kept HN.out nof)
  by_cases hE : bmE (W, H, l) = 0
  · obtain ⟨b1, b2, b3⟩ := bmE_ok hE
    simp only at b1 b2 b3
    have HE := Lib.hid hE
    obtain ⟨c1, c2⟩ := b1
    obtain ⟨d1, d2⟩ := b2
    have B3 := Lib.hid b3
    clear hE b3
    by_cases x0 : 0 ≤ x
    · by_cases x1 : x < W
      · by_cases y0 : 0 ≤ y
        · by_cases y1 : y < H
          · obtain ⟨g0, g1⟩ := grid_lt (x := x) (y := y) (W := W) (H := H) ⟨x0, x1⟩ ⟨y0, y1⟩
            rw [← B3.out] at g1
            obtain ⟨m0, m1⟩ := mul96 (a := y) (b := W) ⟨y0, by omega⟩ ⟨c1, by omega⟩
            obtain ⟨d, hd⟩ : ∃ d, l[(y * W + x).toNat]? = some d := ⟨_, List.getElem?_eq_getElem (by omega)⟩
            obtain ⟨pk, po, hpk, rfl, hcell⟩ := HEL.out _ d hd
            have HD := Lib.hid hd
            clear hd
            go_enter Tryd.func40, Tryd.ntmps40
            go_wp2_with (go_at_call 38; refine rbCheck_ok lo _ _ _ _ HB2.out HE.out ?_; intro w1 n1; (have p0 : w1.cell? ⟨w.heap.size, 0, none⟩ = some (.int .i64 W) := n1.cell (cell_alloc_new rfl rfl) id); (have p1 : w1.cell? ⟨w.heap.size, 1, none⟩ = some (.int .i64 H) := n1.cell (cell_alloc_new rfl rfl) id); (have p2 : w1.cell? ⟨w.heap.size, 2, none⟩ = some (.slice (some ⟨pk, po, none⟩) l.length cap) := n1.cell (cell_alloc_new rfl rfl) id); (have hc1 := n1.cell (HN.out.cell hcell id) id); (have N1 := Lib.hid (HN.out.trans n1)); clear n1)
            exact ret_b (HR.out _ N1.out) (getB_in HE.out ⟨x0, x1, y0, y1⟩ HD.out)
          · go_enter Tryd.func40, Tryd.ntmps40
            go_wp2_with (go_at_call 38; refine rbCheck_ok lo _ _ _ _ HB2.out HE.out ?_; intro w1 n1; (have p0 : w1.cell? ⟨w.heap.size, 0, none⟩ = some (.int .i64 W) := n1.cell (cell_alloc_new rfl rfl) id); (have p1 : w1.cell? ⟨w.heap.size, 1, none⟩ = some (.int .i64 H) := n1.cell (cell_alloc_new rfl rfl) id); (have N1 := Lib.hid (HN.out.trans n1)); clear n1)
            exact ret_b (HR.out _ N1.out) (getB_out (by simp only; omega))
        · go_enter Tryd.func40, Tryd.ntmps40
          go_wp2_with (go_at_call 38; refine rbCheck_ok lo _ _ _ _ HB2.out HE.out ?_; intro w1 n1; (have p0 : w1.cell? ⟨w.heap.size, 0, none⟩ = some (.int .i64 W) := n1.cell (cell_alloc_new rfl rfl) id); (have N1 := Lib.hid (HN.out.trans n1)); clear n1)
          exact ret_b (HR.out _ N1.out) (getB_out (by simp only; omega))
      · go_enter Tryd.func40, Tryd.ntmps40
        go_wp2_with (go_at_call 38; refine rbCheck_ok lo _ _ _ _ HB2.out HE.out ?_; intro w1 n1; (have p0 : w1.cell? ⟨w.heap.size, 0, none⟩ = some (.int .i64 W) := n1.cell (cell_alloc_new rfl rfl) id); (have N1 := Lib.hid (HN.out.trans n1)); clear n1)
        exact ret_b (HR.out _ N1.out) (getB_out (by simp only; omega))
    · go_enter Tryd.func40, Tryd.ntmps40
      go_wp2_with (go_at_call 38; refine rbCheck_ok lo _ _ _ _ HB2.out HE.out ?_; intro w1 n1; (have N1 := Lib.hid (HN.out.trans n1)); clear n1)
      exact ret_b (HR.out _ N1.out) (getB_out (by simp only; omega))
  · have t0 : (bmE (W, H, l) == 0) = false := by simp [hE]
    have HE := Lib.hid hE
    clear hE
    go_enter Tryd.func40, Tryd.ntmps40
    go_wp2_with (go_at_call 38; refine rbCheck_any lo _ _ _ _ HB2.out ?_; intro w1 n1; (have N1 := Lib.hid (HN.out.trans n1)); clear n1)
    exact ret_b (HR.out _ N1.out) (getB_no HE.out)

theorem take_eq {α : Type} {a b : List α} {k : Nat} {x : α} (h : a.take k = b.take k) (hx : a[k]? = some x) (hy : b[k]? = some x) : a.take (k + 1) = b.take (k + 1) := by
  rw [List.take_add_one, List.take_add_one, h, hx, hy]
theorem take_ne {α : Type} {a b : List α} {k : Nat} {x y : α} (hx : a[k]? = some x) (hy : b[k]? = some y) (h : x ≠ y) : a ≠ b := by
  rintro rfl
  rw [hx] at hy
  injection hy with hy
  exact h hy

set_option maxHeartbeats 1000000 in
theorem riSame_any (lo : Nat) (va vb : Value) (a b : Im) (w : World) (R : Ending → World → Prop) (ha : IsIm w lo va a) (hb : IsIm w lo vb b)
    (hR : ∀ w', Nw w w' → R (.returned (.bool (decide (a = b)))) w') : Calls Tryd.prog 16 #[va, vb] w R := by
  have HR := Lib.hid hR
  clear hR
  obtain ⟨W, H, l⟩ := a
  obtain ⟨W', H', l'⟩ := b
  obtain ⟨s, rfl, ⟨A, cap, rfl, ⟨hlc, hl⟩, hel⟩, hw, hh⟩ := ha
  obtain ⟨s', rfl, ⟨A', cap', rfl, ⟨hlc', hl'⟩, hel'⟩, hw', hh'⟩ := hb
  simp only at hl hel hl' hel'
  have HEL := Lib.hid hel
  have HEL' := Lib.hid hel'
  have N0 := Lib.hid (show Nw w ((w.alloc (.cells #[.int .i64 W, .int .i64 H, .slice A l.length cap] 25)).alloc (.cells #[.int .i64 W', .int .i64 H', .slice A' l'.length cap'] 25)) from ((Ch.refl _ _).alloc _).alloc _)
  clear hel hel' hw hh hw' hh'
  by_cases e1 : W = W'
  · by_cases e2 : H = H'
    · by_cases e3 : l.length = l'.length
      · subst e1 e2
        have l1 : l.length ≤ l'.length := by omega
        have l2 : l'.length ≤ l.length := by omega
        have t3 : ((l.length : Int) != (l'.length : Int)) = false := by simp [e3]
        clear e3
        go_enter Tryd.func16, Tryd.ntmps16
        go_wp2
        refine wp_named ?_
        intro W1 hW
        have p2 : W1.cell? ⟨w.heap.size, 2, none⟩ = some (.slice A l.length cap) := by rw [hW]; exact cell_alloc_old _ (cell_alloc_new rfl rfl)
        have p3 : W1.cell? ⟨w.heap.size + 1, 2, none⟩ = some (.slice A' l'.length cap') := by rw [hW]; exact cell_alloc_new (by simp) rfl
        have N1 := Lib.hid (show Nw w W1 from by rw [hW]; exact N0.out)
        clear hW N0
        go_loopw [5] (fun s5 wr => ∃ (k d : Nat), s5 = .int .i64 k ∧ k ≤ l.length ∧ wr = W1.drewN d ∧ Hid (l.take k = l'.take k)) (fun s5 _ => l.length - (intOf s5).toNat)
        case atStart => exact ⟨0, 0, rfl, Nat.zero_le _, rfl, Lib.hid rfl⟩
        case round =>
          obtain ⟨k, d, rfl, hk, rfl, HT⟩ := hrel
          have k0 : (0 : Int) ≤ (k : Int) := by omega
          by_cases hlt : k < l.length
          · obtain ⟨x, hx⟩ : ∃ x, l[k]? = some x := ⟨_, List.getElem?_eq_getElem hlt⟩
            obtain ⟨y, hy⟩ : ∃ x, l'[k]? = some x := ⟨_, List.getElem?_eq_getElem (by omega)⟩
            obtain ⟨hwx, pk, po, hpk, rfl, h0⟩ := HEL.out k x hx
            obtain ⟨hwy, pk', po', hpk', rfl, h0'⟩ := HEL'.out k y hy
            have h0 := N1.out.cell h0 id
            have h0' := N1.out.cell h0' id
            have HX := Lib.hid hx
            have HY := Lib.hid hy
            have k1 : (k : Int) < (l.length : Int) := by omega
            have k2 : (k : Int) < (l'.length : Int) := by omega
            clear hx hy hwx hwy
            by_cases hxy : x = y
            · have t1 : (x != y) = false := by simp [hxy]
              have HXY := Lib.hid hxy
              clear hxy
              go_wp2
              go_quiet (fail)
              go_wp2
              go_roundw
              case rel => exact ⟨k + 1, _, by go_num, by omega, rfl, Lib.hid (take_eq HT.out HX.out (by rw [HXY.out]; exact HY.out))⟩
              case measure => simp [intOf]; omega
            · have t1 : (x != y) = true := by simp [hxy]
              have HXY := Lib.hid hxy
              clear hxy
              go_wp2
              go_quiet (fail)
              go_wp2
              refine ret_b (HR.out _ ?_) (decide_eq_false fun e => ?_)
              · exact (N1.out.drewN _).drewN _
              · injection e with _ e
                injection e with _ e
                exact take_ne HX.out HY.out HXY.out e
          · obtain rfl : k = l.length := by omega
            go_wp2
            refine ret_b (HR.out _ (N1.out.drewN _)) (decide_eq_true ?_)
            have h := HT.out
            rw [List.take_length, List.take_of_length_le (by omega)] at h
            rw [h]
      · have t3 : ((l.length : Int) != (l'.length : Int)) = true := by simp; omega
        subst e1 e2
        go_enter Tryd.func16, Tryd.ntmps16
        go_wp2
        exact ret_b (HR.out _ N0.out) (decide_eq_false fun e => e3 (by injection e with _ e; injection e with _ e; rw [e]))
    · have t2 : (H != H') = true := by simp [e2]
      subst e1
      go_enter Tryd.func16, Tryd.ntmps16
      go_wp2
      exact ret_b (HR.out _ N0.out) (decide_eq_false fun e => e2 (by injection e with _ e; injection e))
  · have t1 : (W != W') = true := by simp [e1]
    go_enter Tryd.func16, Tryd.ntmps16
    go_wp2
    exact ret_b (HR.out _ N0.out) (decide_eq_false fun e => e1 (by injection e))
end Go.Proofs.YtnhdnjhhjmgmnaaDoor
