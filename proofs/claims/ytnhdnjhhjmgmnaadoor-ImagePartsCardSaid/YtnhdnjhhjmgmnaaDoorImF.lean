/-
  image.Fits and indelibleref22.Fits: lost dots and blots.
-/
import Derived.Test.YtnhdnjhhjmgmnaaDoorImK
import Derived.Test.YtnhdnjhhjmgmnaaDoorImQ
namespace Go.Proofs.YtnhdnjhhjmgmnaaDoor
open Go.RowKit
set_option linter.unusedVariables false
set_option linter.unusedSimpArgs false
set_option maxRecDepth 100000

theorem putM_zero {b : Bm} {dx dy : Int} : (putM b dx dy).2 = 0 ↔ bmE b = 0 ∧ shiftOk dx dy := by
  unfold putM
  split
  · rename_i h; simp [h]
  · rename_i h
    split
    · rename_i h2; simp only [true_iff]; exact ⟨by simpa using h, h2⟩
    · rename_i h2; simp [h2]
theorem putM_bad {b : Bm} {dx dy : Int} (h : (putM b dx dy).2 ≠ 0) : (putM b dx dy).1 = zeroI := by
  unfold putM at h ⊢
  split
  · rfl
  · rename_i h1
    rw [if_neg h1] at h
    split
    · rename_i h2; rw [if_pos h2] at h; exact absurd rfl h
    · rfl
theorem isIm_form {w : World} {lo : Nat} {v : Value} {x : Im} (h : IsIm w lo v x) : ∃ A cap, v = .agg #[.int .i64 x.1, .int .i64 x.2.1, .slice A x.2.2.length cap] ∧ IsInts w lo (.slice A x.2.2.length cap) x.2.2 := by
  obtain ⟨s, rfl, hi, -⟩ := h
  have HI := hi
  obtain ⟨A, cap, rfl, -⟩ := hi
  exact ⟨A, cap, rfl, HI⟩
section
variable {lo : Nat} {v : Value} {b : Bm} {dx dy : Int} {w : World} {R : Ending → World → Prop}
theorem imPut_ok (h : IsBm w lo v b) (hx : wfI dx) (hy : wfI dy) (hE : bmE b = 0) (hs : shiftOk dx dy)
    (hR : ∀ w' A cap, IsInts w' w'.heap.size (.slice A (frameN b) cap) (putL b dx dy) → Nw w w' → R (.returned (.tuple #[.agg #[.int .i64 (b.1 + 4), .int .i64 (b.2.1 + 4), .slice A (frameN b) cap], .int .i64 0])) w') : Calls Tryd.prog 14 #[v, .int .i64 dx, .int .i64 dy] w R :=
  imPut_any lo v b dx dy w R h hx hy fun w' v' hi hn => by
    rw [putM_ok hE hs] at hi ⊢
    obtain ⟨A, cap, rfl, hi2⟩ := isIm_form hi
    simp only [putL_len] at hi2 ⊢
    exact hR w' A cap hi2 hn
theorem imPut_bad (h : IsBm w lo v b) (hx : wfI dx) (hy : wfI dy) (hE : (putM b dx dy).2 ≠ 0)
    (hR : ∀ w' A cap e, e ≠ 0 → Nw w w' → R (.returned (.tuple #[.agg #[.int .i64 0, .int .i64 0, .slice A 0 cap], .int .i64 e])) w') : Calls Tryd.prog 14 #[v, .int .i64 dx, .int .i64 dy] w R :=
  imPut_any lo v b dx dy w R h hx hy fun w' v' hi hn => by
    rw [putM_bad hE] at hi
    obtain ⟨A, cap, rfl, hi⟩ := isIm_form hi
    exact hR w' A cap _ hE hn
theorem riPut_ok (h : IsBm w lo v b) (hx : wfI dx) (hy : wfI dy) (hlo : lo ≤ w.heap.size) (hE : bmE b = 0) (hs : shiftOk dx dy)
    (hR : ∀ w' A cap, IsInts w' w'.heap.size (.slice A (frameN b) cap) (putL b dx dy) → Nw w w' → R (.returned (.tuple #[.agg #[.int .i64 (b.1 + 4), .int .i64 (b.2.1 + 4), .slice A (frameN b) cap], .int .i64 0])) w') : Calls Tryd.prog 15 #[v, .int .i64 dx, .int .i64 dy] w R :=
  riPut_any lo v b dx dy w R h hx hy hlo fun w' v' hi hn => by
    rw [putM_ok hE hs] at hi ⊢
    obtain ⟨A, cap, rfl, hi2⟩ := isIm_form hi
    simp only [putL_len] at hi2 ⊢
    exact hR w' A cap hi2 hn
theorem riPut_bad (h : IsBm w lo v b) (hx : wfI dx) (hy : wfI dy) (hlo : lo ≤ w.heap.size) (hE : (putM b dx dy).2 ≠ 0)
    (hR : ∀ w' A cap e, e ≠ 0 → Nw w w' → R (.returned (.tuple #[.agg #[.int .i64 0, .int .i64 0, .slice A 0 cap], .int .i64 e])) w') : Calls Tryd.prog 15 #[v, .int .i64 dx, .int .i64 dy] w R :=
  riPut_any lo v b dx dy w R h hx hy hlo fun w' v' hi hn => by
    rw [putM_bad hE] at hi
    obtain ⟨A, cap, rfl, hi⟩ := isIm_form hi
    exact hR w' A cap _ hE hn
end
theorem ret_t3 {R : Ending → World → Prop} {w : World} {a b c d : Int} {e f : Bool} (h : R (.returned (.tuple #[.int .i64 a, .int .i64 b, .bool e])) w) (h1 : a = c) (h2 : b = d) (h3 : e = f) : R (.returned (.tuple #[.int .i64 c, .int .i64 d, .bool f])) w := h1 ▸ h2 ▸ h3 ▸ h
def capFit (w : World) (b : Nat) (lo : Nat) (f : List Int) : Prop := ∃ A cap, w.cell? ⟨b, 2, none⟩ = some (.slice A f.length cap) ∧ IsInts w lo (.slice A f.length cap) f
theorem fits1_any (b lo : Nat) (f : List Int) (k : Nat) (x : Int) (w : World) (R : Ending → World → Prop) (hc : capFit w b lo f) (hk : k < f.length) (hR : R (.returned (.bool (lostP f k x))) w) :
    Calls Tryd.prog 42 #[.int .i64 k, .int .i64 x, .pointer (some ⟨b, 0, none⟩)] w R := by
  obtain ⟨A, cap, h2, hi⟩ := hc
  obtain ⟨A', cap', e, hl, hel⟩ := hi
  injection e with e1 e2 e3
  subst e1 e3
  obtain ⟨y, hy⟩ : ∃ y, f[k]? = some y := ⟨_, List.getElem?_eq_getElem hk⟩
  obtain ⟨hwy, pk, po, hpk, rfl, h0⟩ := hel k y hy
  have hp := px_get hy
  have k0 : (0 : Int) ≤ (k : Int) := by omega
  have k1 : (k : Int) < (f.length : Int) := by omega
  have hv : lostP f k x = (decide (x = 0) && decide (y = 1)) := by unfold lostP; rw [hp]
  rw [hv] at hR
  clear hv hp hy hel e2
  by_cases e0 : x = 0
  · by_cases e1 : y = 1
    · rw [decide_eq_true e0, decide_eq_true e1] at hR
      have HR := Lib.hid hR
      clear hR
      subst e0 e1
      go_enter Tryd.func42, Tryd.ntmps42
      go_wp2
      exact HR.out
    · rw [decide_eq_true e0, decide_eq_false e1] at hR
      have HR := Lib.hid hR
      have t1 : (y == 1) = false := by simp [e1]
      clear hR e1
      subst e0
      go_enter Tryd.func42, Tryd.ntmps42
      go_wp2
      exact HR.out
  · rw [decide_eq_false e0] at hR
    have HR := Lib.hid hR
    have t1 : (x == 0) = false := by simp [e0]
    clear hR e0
    go_enter Tryd.func42, Tryd.ntmps42
    go_wp2
    exact HR.out
theorem fits2_any (b lo : Nat) (f : List Int) (k : Nat) (x : Int) (w : World) (R : Ending → World → Prop) (hc : capFit w b lo f) (hk : k < f.length) (hR : R (.returned (.bool (blotP f k x))) w) :
    Calls Tryd.prog 43 #[.int .i64 k, .int .i64 x, .pointer (some ⟨b, 0, none⟩)] w R := by
  obtain ⟨A, cap, h2, hi⟩ := hc
  obtain ⟨A', cap', e, hl, hel⟩ := hi
  injection e with e1 e2 e3
  subst e1 e3
  obtain ⟨y, hy⟩ : ∃ y, f[k]? = some y := ⟨_, List.getElem?_eq_getElem hk⟩
  obtain ⟨hwy, pk, po, hpk, rfl, h0⟩ := hel k y hy
  have hp := px_get hy
  have k0 : (0 : Int) ≤ (k : Int) := by omega
  have k1 : (k : Int) < (f.length : Int) := by omega
  have hv : blotP f k x = (decide (x = 1) && decide (y = 0)) := by unfold blotP; rw [hp]
  rw [hv] at hR
  clear hv hp hy hel e2
  by_cases e0 : x = 1
  · by_cases e1 : y = 0
    · rw [decide_eq_true e0, decide_eq_true e1] at hR
      have HR := Lib.hid hR
      clear hR
      subst e0 e1
      go_enter Tryd.func43, Tryd.ntmps43
      go_wp2
      exact HR.out
    · rw [decide_eq_true e0, decide_eq_false e1] at hR
      have HR := Lib.hid hR
      have t1 : (y == 0) = false := by simp [e1]
      clear hR e1
      subst e0
      go_enter Tryd.func43, Tryd.ntmps43
      go_wp2
      exact HR.out
  · rw [decide_eq_false e0] at hR
    have HR := Lib.hid hR
    have t1 : (x == 1) = false := by simp [e0]
    clear hR e0
    go_enter Tryd.func43, Tryd.ntmps43
    go_wp2
    exact HR.out

theorem lost_any (lo lo2 b : Nat) (v : Value) (l F : List Int) (w : World) (R : Ending → World → Prop) (h : IsInts w lo v l) (hl : l.length ≤ 10000) (hF : l.length = F.length) (hc : capFit w b lo2 F)
    (hR : R (.returned (.int .i64 (lostN l F))) w) : Calls Tryd.prog 41 #[v, .func (.func 42) #[] #[.pointer (some ⟨b, 0, none⟩)]] w R :=
  count_any lo v l 42 #[.pointer (some ⟨b, 0, none⟩)] (lostP F) w R h (by omega) (enters_of Tryd.func42 (by kernel_rfl) rfl) (fun k x R' hx hR' => fits1_any b lo2 F k x w R' hc (by have := (List.getElem?_eq_some_iff.1 hx).1; omega) hR') hR
theorem blot_any (lo lo2 b : Nat) (v : Value) (l F : List Int) (w : World) (R : Ending → World → Prop) (h : IsInts w lo v l) (hl : l.length ≤ 10000) (hF : l.length = F.length) (hc : capFit w b lo2 F)
    (hR : R (.returned (.int .i64 (blotN l F))) w) : Calls Tryd.prog 41 #[v, .func (.func 43) #[] #[.pointer (some ⟨b, 0, none⟩)]] w R :=
  count_any lo v l 43 #[.pointer (some ⟨b, 0, none⟩)] (blotP F) w R h (by omega) (enters_of Tryd.func43 (by kernel_rfl) rfl) (fun k x R' hx hR' => fits2_any b lo2 F k x w R' hc (by have := (List.getElem?_eq_some_iff.1 hx).1; omega) hR') hR

set_option maxHeartbeats 4000000 in
theorem imFits_any (lo : Nat) (v : Value) (x : Im) (vb : Value) (b : Bm) (dx dy : Int) (w : World) (R : Ending → World → Prop) (h : IsIm w lo v x) (hb : IsBm w lo vb b) (hx : wfI dx) (hy : wfI dy) (hlo : lo ≤ w.heap.size)
    (hR : ∀ w', Nw w w' → R (.returned (.tuple #[.int .i64 (fitsM x b dx dy).1, .int .i64 (fitsM x b dx dy).2.1, .bool (fitsM x b dx dy).2.2])) w') : Calls Tryd.prog 18 #[v, vb, .int .i64 dx, .int .i64 dy] w R := by
  have HR := Lib.hid hR
  clear hR
  have HX := Lib.hid h
  have HB := Lib.hid hb
  obtain ⟨W, H, l⟩ := x
  obtain ⟨W', H', l'⟩ := b
  obtain ⟨s, rfl, hi, hw, hh⟩ := h
  obtain ⟨s', rfl, hi', hw', hh'⟩ := hb
  have HI := Lib.hid hi
  obtain ⟨A, cap, rfl, ⟨hlc, hl⟩, -⟩ := hi
  obtain ⟨A', cap', rfl, ⟨hlc', hl'⟩, -⟩ := hi'
  simp only at hl hl'
  have HN := Lib.hid (show Nw w ((w.alloc (.cells #[.int .i64 W, .int .i64 H, .slice A l.length cap] 25)).alloc (.cells #[.int .i64 W', .int .i64 H', .slice A' l'.length cap'] 31)) from ((Ch.refl _ _).alloc _).alloc _)
  have HB2 := Lib.hid (HB.out.kept HN.out nof)
  have no : ¬ fitOk (W, H, l) (W', H', l') dx dy → fitsM (W, H, l) (W', H', l') dx dy = (0, 0, false) := fun h => by unfold fitsM; rw [if_neg h]
  have NO := Lib.hid no
  clear no hw hh hw' hh'
  by_cases hz : (putM (W', H', l') dx dy).2 = 0
  · obtain ⟨hE, hs⟩ := putM_zero.1 hz
    have HE := Lib.hid hE
    have HS := Lib.hid hs
    obtain ⟨⟨c1, c2⟩, ⟨d1, d2⟩, -⟩ := bmE_ok hE
    simp only at c1 c2 d1 d2
    have hfl := frame_le hE
    clear hz hE hs
    by_cases hO : imOk (W, H, l)
    · have HO := Lib.hid hO
      have hlen := imOk_len hO
      simp only at hlen
      clear hO
      by_cases e1 : W = W' + 4
      · by_cases e2 : H = H' + 4
        · have hfit : fitOk (W, H, l) (W', H', l') dx dy := ⟨HE.out, HS.out, HO.out, e1, e2⟩
          have hlf : l.length = frameN (W', H', l') := by
            have h1 := HO.out.2.2.1
            have h2 := frame_len HE.out
            simp only at h1 h2
            rw [e1, e2] at h1
            omega
          have FIT := Lib.hid (show fitsM (W, H, l) (W', H', l') dx dy = ((lostN l (putL (W', H', l') dx dy) : Int), (blotN l (putL (W', H', l') dx dy) : Int), true) from by unfold fitsM; rw [if_pos hfit])
          have HPUT := Lib.hid (show ∀ (w : World) (R : Ending → World → Prop), IsBm w lo (.agg #[.int .i64 W', .int .i64 H', .slice A' l'.length cap']) (W', H', l') → (∀ w' A cap, IsInts w' w'.heap.size (.slice A (putL (W', H', l') dx dy).length cap) (putL (W', H', l') dx dy) → Nw w w' → R (.returned (.tuple #[.agg #[.int .i64 (W' + 4), .int .i64 (H' + 4), .slice A (putL (W', H', l') dx dy).length cap], .int .i64 0])) w') → Calls Tryd.prog 14 #[.agg #[.int .i64 W', .int .i64 H', .slice A' l'.length cap'], .int .i64 dx, .int .i64 dy] w R from fun w R h1 h2 => by
            rw [putL_len] at h2
            exact imPut_ok h1 hx hy HE.out HS.out h2)
          rw [← putL_len (W', H', l') dx dy] at hlf
          generalize putL (W', H', l') dx dy = F at FIT HPUT hlf
          have HLF := Lib.hid hlf
          clear hfit hlf hfl
          subst e1 e2
          go_enter Tryd.func18, Tryd.ntmps18
          go_wp2_with (first | (go_at_call 14; refine HPUT.out _ _ HB2.out ?_; intro w1 A1 cap1 hf n1; (have HF := Lib.hid hf); clear hf; (have p0 : w1.cell? ⟨w.heap.size, 0, none⟩ = some (.int .i64 (W' + 4)) := n1.cell (cell_alloc_old _ (cell_alloc_new rfl rfl)) id); (have p1 : w1.cell? ⟨w.heap.size, 1, none⟩ = some (.int .i64 (H' + 4)) := n1.cell (cell_alloc_old _ (cell_alloc_new rfl rfl)) id); (have p2 : w1.cell? ⟨w.heap.size, 2, none⟩ = some (.slice A l.length cap) := n1.cell (cell_alloc_old _ (cell_alloc_new rfl rfl)) id); (have z0 : w.heap.size < w1.heap.size := by have := n1.size; simp only [alloc_size] at this; omega); (have N1 := Lib.hid (HN.out.trans n1)); clear n1) | (go_at_call 22; refine imCheck_ok lo _ _ _ _ (HX.out.kept (N1.out.alloc _) nof) HO.out ?_; intro w2 n2; (have k0 := n2.cell (cell_alloc_old _ p0) id); (have k1 := n2.cell (cell_alloc_old _ p1) id); (have k2 := n2.cell (cell_alloc_old _ p2) id); (have f0 : w2.cell? ⟨w1.heap.size, 0, none⟩ = some (.int .i64 (W' + 4)) := n2.cell (cell_alloc_new rfl rfl) id); (have f1 : w2.cell? ⟨w1.heap.size, 1, none⟩ = some (.int .i64 (H' + 4)) := n2.cell (cell_alloc_new rfl rfl) id); (have f2 : w2.cell? ⟨w1.heap.size, 2, none⟩ = some (.slice A1 (F.length) cap1) := n2.cell (cell_alloc_new rfl rfl) id); (have CF : Hid (capFit w2 w1.heap.size w1.heap.size F) := Lib.hid ⟨A1, cap1, f2, (HF.out.kept ((Ch.refl (fun _ => False) w1).alloc _) nof).kept n2 nof⟩); (have N2 := Lib.hid ((N1.out.alloc _).trans n2)); clear n2) | (go_at_call 41; first | (with_reducible refine lost_any lo w1.heap.size w1.heap.size _ l F _ _ (HI.out.kept N2.out nof) hlen HLF.out CF.out ?_) | (with_reducible refine blot_any lo w1.heap.size w1.heap.size _ l F _ _ (HI.out.kept N2.out nof) hlen HLF.out CF.out ?_)))
          go_ret3
          refine ret_t3 (HR.out _ N2.out) ?_ ?_ ?_ <;> rw [FIT.out] <;> rfl
        · have t2 : (H != H' + 4) = true := by simp [e2]
          have E2 := Lib.hid e2
          clear e2
          subst e1
          go_enter Tryd.func18, Tryd.ntmps18
          go_wp2_with (first | (go_at_call 14; refine imPut_ok (HB2.out) hx hy HE.out HS.out ?_; intro w1 A1 cap1 hf n1; (have HF := Lib.hid hf); clear hf; (have p0 : w1.cell? ⟨w.heap.size, 0, none⟩ = some (.int .i64 (W' + 4)) := n1.cell (cell_alloc_old _ (cell_alloc_new rfl rfl)) id); (have p1 : w1.cell? ⟨w.heap.size, 1, none⟩ = some (.int .i64 H) := n1.cell (cell_alloc_old _ (cell_alloc_new rfl rfl)) id); (have p2 : w1.cell? ⟨w.heap.size, 2, none⟩ = some (.slice A l.length cap) := n1.cell (cell_alloc_old _ (cell_alloc_new rfl rfl)) id); (have z0 : w.heap.size < w1.heap.size := by have := n1.size; simp only [alloc_size] at this; omega); (have N1 := Lib.hid (HN.out.trans n1)); clear n1) | (go_at_call 22; refine imCheck_ok lo _ _ _ _ (HX.out.kept (N1.out.alloc _) nof) HO.out ?_; intro w2 n2; (have k0 := n2.cell (cell_alloc_old _ p0) id); (have k1 := n2.cell (cell_alloc_old _ p1) id); (have k2 := n2.cell (cell_alloc_old _ p2) id); (have f0 : w2.cell? ⟨w1.heap.size, 0, none⟩ = some (.int .i64 (W' + 4)) := n2.cell (cell_alloc_new rfl rfl) id); (have f1 : w2.cell? ⟨w1.heap.size, 1, none⟩ = some (.int .i64 (H' + 4)) := n2.cell (cell_alloc_new rfl rfl) id); (have f2 : w2.cell? ⟨w1.heap.size, 2, none⟩ = some (.slice A1 (frameN (W', H', l')) cap1) := n2.cell (cell_alloc_new rfl rfl) id); (have N2 := Lib.hid ((N1.out.alloc _).trans n2)); clear n2))
          go_ret3
          refine ret_t3 (HR.out _ N2.out) ?_ ?_ ?_ <;> rw [NO.out (fun h => E2.out h.2.2.2.2)]
      · have t1 : (W != W' + 4) = true := by simp [e1]
        have E1 := Lib.hid e1
        clear e1
        go_enter Tryd.func18, Tryd.ntmps18
        go_wp2_with (first | (go_at_call 14; refine imPut_ok (HB2.out) hx hy HE.out HS.out ?_; intro w1 A1 cap1 hf n1; (have HF := Lib.hid hf); clear hf; (have p0 : w1.cell? ⟨w.heap.size, 0, none⟩ = some (.int .i64 W) := n1.cell (cell_alloc_old _ (cell_alloc_new rfl rfl)) id); (have p1 : w1.cell? ⟨w.heap.size, 1, none⟩ = some (.int .i64 H) := n1.cell (cell_alloc_old _ (cell_alloc_new rfl rfl)) id); (have p2 : w1.cell? ⟨w.heap.size, 2, none⟩ = some (.slice A l.length cap) := n1.cell (cell_alloc_old _ (cell_alloc_new rfl rfl)) id); (have z0 : w.heap.size < w1.heap.size := by have := n1.size; simp only [alloc_size] at this; omega); (have N1 := Lib.hid (HN.out.trans n1)); clear n1) | (go_at_call 22; refine imCheck_ok lo _ _ _ _ (HX.out.kept (N1.out.alloc _) nof) HO.out ?_; intro w2 n2; (have k0 := n2.cell (cell_alloc_old _ p0) id); (have k1 := n2.cell (cell_alloc_old _ p1) id); (have k2 := n2.cell (cell_alloc_old _ p2) id); (have f0 : w2.cell? ⟨w1.heap.size, 0, none⟩ = some (.int .i64 (W' + 4)) := n2.cell (cell_alloc_new rfl rfl) id); (have f1 : w2.cell? ⟨w1.heap.size, 1, none⟩ = some (.int .i64 (H' + 4)) := n2.cell (cell_alloc_new rfl rfl) id); (have f2 : w2.cell? ⟨w1.heap.size, 2, none⟩ = some (.slice A1 (frameN (W', H', l')) cap1) := n2.cell (cell_alloc_new rfl rfl) id); (have N2 := Lib.hid ((N1.out.alloc _).trans n2)); clear n2))
        go_ret3
        refine ret_t3 (HR.out _ N2.out) ?_ ?_ ?_ <;> rw [NO.out (fun h => E1.out h.2.2.2.1)]
    · have HO := Lib.hid hO
      clear hO
      go_enter Tryd.func18, Tryd.ntmps18
      go_wp2_with (first | (go_at_call 14; refine imPut_ok (HB2.out) hx hy HE.out HS.out ?_; intro w1 A1 cap1 hf n1; (have HF := Lib.hid hf); clear hf; (have p0 : w1.cell? ⟨w.heap.size, 0, none⟩ = some (.int .i64 W) := n1.cell (cell_alloc_old _ (cell_alloc_new rfl rfl)) id); (have p1 : w1.cell? ⟨w.heap.size, 1, none⟩ = some (.int .i64 H) := n1.cell (cell_alloc_old _ (cell_alloc_new rfl rfl)) id); (have p2 : w1.cell? ⟨w.heap.size, 2, none⟩ = some (.slice A l.length cap) := n1.cell (cell_alloc_old _ (cell_alloc_new rfl rfl)) id); (have z0 : w.heap.size < w1.heap.size := by have := n1.size; simp only [alloc_size] at this; omega); (have N1 := Lib.hid (HN.out.trans n1)); clear n1) | (go_at_call 22; refine imCheck_bad lo _ _ _ _ (HX.out.kept (N1.out.alloc _) nof) HO.out ?_; intro w2 n2; (have N2 := Lib.hid ((N1.out.alloc _).trans n2)); clear n2))
      go_ret3
      refine ret_t3 (HR.out _ N2.out) ?_ ?_ ?_ <;> rw [NO.out (fun h => HO.out h.2.2.1)]
  · have HZ := Lib.hid hz
    clear hz
    go_enter Tryd.func18, Tryd.ntmps18
    go_wp2_with (go_at_call 14; refine imPut_bad (HB2.out) hx hy HZ.out ?_; intro w1 A1 cap1 e he n1; (have t1 : (e != 0) = true := by simp [he]); (have N1 := Lib.hid (HN.out.trans n1)); clear n1 he)
    go_ret3
    refine ret_t3 (HR.out _ (N1.out.alloc _)) ?_ ?_ ?_ <;> rw [NO.out (fun h => HZ.out (putM_zero.2 ⟨h.1, h.2.1⟩))]
end Go.Proofs.YtnhdnjhhjmgmnaaDoor
