/-
  Grids that are filled place by place, and counts place by place, in plain words. Plain lemmas.
-/
import Derived.Test.YtaafmgkjfmngjaaDoorB4p
namespace Go.Proofs.YtaafmgkjfmngjaaDoor
open Go.RowKit
set_option linter.unusedVariables false

/-- The dots behind the first k places. -/
def fillS (W H : Int) (f : Int → Int → Bool) (k : Int) : List Bool := gridB W H fun i j => decide (j * W + i < k) && f i j
theorem fillS_len (W H : Int) (f : Int → Int → Bool) (k : Int) : (fillS W H f k).length = (W * H).toNat := gridB_len _ _ _
theorem fillS_zero {W H : Int} (f : Int → Int → Bool) (hW : 0 ≤ W) : fillS W H f 0 = List.replicate (W * H).toNat false := by
  rw [← gridB_false]
  refine gridB_congr hW fun i j h1 h2 h3 h4 => ?_
  have := Int.mul_nonneg h3 hW
  rw [decide_eq_false (by omega)]
  rfl
theorem fillS_all {W H : Int} (f : Int → Int → Bool) (hW : 0 ≤ W) {k : Int} (hk : W * H ≤ k) : fillS W H f k = gridB W H f := by
  refine gridB_congr hW fun i j h1 h2 h3 h4 => ?_
  have := (grid_lt ⟨h1, h2⟩ ⟨h3, h4⟩).2
  rw [decide_eq_true (by omega), Bool.true_and]
theorem fillS_step {W H : Int} {f : Int → Int → Bool} {i j : Int} (hi : 0 ≤ i ∧ i < W) (hj : 0 ≤ j ∧ j < H) :
    fillS W H f (j * W + i + 1) = (fillS W H f (j * W + i)).set (j * W + i).toNat (f i j) := by
  unfold fillS
  rw [gridB_set _ hi hj]
  refine gridB_congr (by omega) fun a b h1 h2 h3 h4 => ?_
  by_cases e : a = i ∧ b = j
  · rw [if_pos e, e.1, e.2, decide_eq_true (by omega), Bool.true_and]
  · rw [if_neg e]
    have hne : b * W + a ≠ j * W + i := fun he => by
      obtain ⟨m1, m2⟩ := grid_mod (x := a) (y := b) (W := W) ⟨h1, h2⟩
      obtain ⟨m3, m4⟩ := grid_mod (x := i) (y := j) (W := W) hi
      rw [he] at m1 m2
      exact e ⟨m1.symm.trans m3, m2.symm.trans m4⟩
    congr 1
    rw [decide_eq_decide]
    omega
/-- The same, said of the place's number. -/
theorem fillS_at {W H : Int} {f : Int → Int → Bool} {k : Nat} (hW : 0 ≤ W) (hk : (k : Int) < W * H) :
    fillS W H f ((k : Int) + 1) = (fillS W H f k).set k (f ((k : Int) % W) ((k : Int) / W)) := by
  have h0 := grid_pos (by omega) hk hW
  obtain ⟨a1, b1, e⟩ := grid_of (by omega) hk h0
  have := fillS_step (f := f) a1 b1
  rw [e] at this
  rw [this, Int.toNat_natCast]

theorem getB_valid (b : Bm) (u v : Int) : hasB (validB b) u v = getB b u v := by
  unfold validB getB
  by_cases h : bmE b = 0
  · rw [if_pos h, decide_eq_true h, Bool.true_and]
  · rw [if_neg h, decide_eq_false h, Bool.false_and]
    exact hasB_out (by simp only; omega)
theorem getB_ok {b : Bm} (h : bmE b = 0) (u v : Int) : getB b u v = hasB b u v := by unfold getB; rw [decide_eq_true h, Bool.true_and]

theorem bmE_len {b : Bm} (h : bmE b = 0) : b.2.2.length ≤ 10000 := by
  obtain ⟨h1, h2, h3⟩ := bmE_ok h
  have := (mul96 (a := b.1) (b := b.2.1) ⟨h1.1, by omega⟩ ⟨h2.1, by omega⟩).2
  omega
/-! ### Counts -/
/-- Whether place k counts. -/
def cntP (b : Bm) (p : Int × Int → Bool) (k : Nat) : Bool := (b.2.2[k]?).getD false && p ((k : Int) % b.1, (k : Int) / b.1)
theorem cnt_succ (f : Nat → Bool) (k : Nat) : cnt f (k + 1) = cnt f k + if f k = true then 1 else 0 := rfl
theorem dotsTo_cnt (b : Bm) (p : Int × Int → Bool) (k : Nat) : ((dotsTo b k).filter p).length = cnt (cntP b p) k := by
  induction k with
  | zero => rfl
  | succ k ih =>
    rw [cnt_succ]
    unfold dotsTo
    by_cases h : (b.2.2[k]?).getD false = true
    · rw [if_pos h, List.filter_append, List.length_append, ih]
      by_cases hp : p ((k : Int) % b.1, (k : Int) / b.1) = true
      · have e : cntP b p k = true := by unfold cntP; rw [h, hp]; rfl
        simp [hp, e]
      · have e : cntP b p k = false := by unfold cntP; rw [h, Bool.true_and]; simpa using hp
        simp [hp, e]
    · have e : cntP b p k = false := by unfold cntP; rw [show (b.2.2[k]?).getD false = false by simpa using h]; rfl
      rw [if_neg h, ih, e]
      simp
theorem cntD_ok {b : Bm} (h : bmE b = 0) (p : Int × Int → Bool) : cntD b p = cnt (cntP b p) b.2.2.length := by
  unfold cntD dotsB
  rw [if_pos h, dotsTo_cnt]
theorem cntD_bad {b : Bm} (h : ¬ bmE b = 0) (p : Int × Int → Bool) : cntD b p = 0 := by
  unfold cntD dotsB
  rw [if_neg h]
  rfl
end Go.Proofs.YtaafmgkjfmngjaaDoor
