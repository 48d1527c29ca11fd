/-
  Grids that are filled row by row, the highest row first, in plain words. Plain lemmas.
-/
import Derived.Test.YtaafmgkjfmngjaaDoorPb4
namespace Go.Proofs.YtaafmgkjfmngjaaDoor
open Go.RowKit
set_option linter.unusedVariables false

/-- The dots behind m places, the highest row first. -/
def topS (W H : Int) (f : Int → Int → Bool) (m : Int) : List Bool := gridB W H fun i j => decide ((H - 1 - j) * W + i < m) && f i j
theorem topS_len (W H : Int) (f : Int → Int → Bool) (m : Int) : (topS W H f m).length = (W * H).toNat := gridB_len _ _ _
theorem topS_zero {W H : Int} (f : Int → Int → Bool) (hW : 0 ≤ W) : topS W H f 0 = List.replicate (W * H).toNat false := by
  rw [← gridB_false]
  refine gridB_congr hW fun i j h1 h2 h3 h4 => ?_
  have := Int.mul_nonneg (show 0 ≤ H - 1 - j by omega) hW
  rw [decide_eq_false (by omega)]
  rfl
theorem topS_all {W H : Int} (f : Int → Int → Bool) (hW : 0 ≤ W) {m : Int} (hm : H * W ≤ m) : topS W H f m = gridB W H f := by
  refine gridB_congr hW fun i j h1 h2 h3 h4 => ?_
  have := (grid_lt (x := i) (y := H - 1 - j) (W := W) (H := H) ⟨h1, h2⟩ ⟨by omega, by omega⟩).2
  rw [Int.mul_comm W H] at this
  rw [decide_eq_true (by omega), Bool.true_and]
theorem topS_step {W H : Int} {f : Int → Int → Bool} {i j k : Int} (hi : 0 ≤ i ∧ i < W) (hj : 0 ≤ j ∧ j < H) (hk : k = H - 1 - j) :
    topS W H f (k * W + i + 1) = (topS W H f (k * W + i)).set (j * W + i).toNat (f i j) := by
  subst hk
  unfold topS
  rw [gridB_set _ hi hj]
  refine gridB_congr (by omega) fun a b h1 h2 h3 h4 => ?_
  by_cases e : a = i ∧ b = j
  · rw [if_pos e, e.1, e.2, decide_eq_true (by omega), Bool.true_and]
  · rw [if_neg e]
    have hne : (H - 1 - b) * W + a ≠ (H - 1 - j) * W + i := fun he => by
      obtain ⟨m1, m2⟩ := grid_mod (x := a) (y := H - 1 - b) (W := W) ⟨h1, h2⟩
      obtain ⟨m3, m4⟩ := grid_mod (x := i) (y := H - 1 - j) (W := W) hi
      rw [he] at m1 m2
      exact e ⟨m1.symm.trans m3, by have := m2.symm.trans m4; omega⟩
    congr 1
    rw [decide_eq_decide]
    omega
/-- The dot that the rows say. -/
def rowF (R : List (List UInt8)) (H i j : Int) : Bool := dotC ((((R[(H - 1 - j).toNat]?).getD [])[i.toNat]?).getD 0)
theorem dots_rows {R : List (List UInt8)} {w : Nat} (hR : ∀ r ∈ R, r.length = w) (hw : 1 ≤ w) : gridB w R.length (rowF R R.length) = dotsR R := by
  apply List.ext_getElem?
  intro k
  have hRl : ∀ r ∈ R.reverse, r.length = w := fun r hr => hR r (List.mem_reverse.1 hr)
  have hl2 : (dotsR R).length = R.length * w := by
    unfold dotsR
    rw [List.length_map, len_flatten_rows hRl, List.length_reverse]
  have hl1 : (gridB (w : Int) (R.length : Int) (rowF R R.length)).length = w * R.length := by rw [gridB_len]; norm_cast
  by_cases hk : k < w * R.length
  · have hq : k / w < R.length := Nat.div_lt_of_lt_mul hk
    have hm : k % w < w := Nat.mod_lt _ (by omega)
    have f0 : 0 ≤ (k : Int) / (w : Int) := Int.ediv_nonneg (by omega) (by omega)
    rw [gridB_at (by have : ((w : Int) * (R.length : Int)).toNat = w * R.length := by norm_cast
                     omega)]
    obtain ⟨r, hr⟩ : ∃ r, R[R.length - 1 - k / w]? = some r := ⟨_, List.getElem?_eq_getElem (by omega)⟩
    have hrow : R.reverse[k / w]? = some r := by rw [List.getElem?_reverse hq]; exact hr
    have hfl := flat_get hRl hrow hm
    have ek : k / w * w + k % w = k := by rw [Nat.mul_comm]; exact Nat.div_add_mod k w
    rw [ek] at hfl
    have e1 : (k : Int) % (w : Int) = ((k % w : Nat) : Int) := by norm_cast
    have e2 : (R.length : Int) - 1 - (k : Int) / (w : Int) = ((R.length - 1 - k / w : Nat) : Int) := by
      have : (k : Int) / (w : Int) = ((k / w : Nat) : Int) := by norm_cast
      omega
    have hrl : r.length = w := hR r (List.mem_of_getElem? hr)
    unfold rowF dotsR
    rw [e1, e2, Int.toNat_natCast, Int.toNat_natCast, hr, Option.getD_some, List.getElem?_map, hfl, List.getElem?_eq_getElem (by omega)]
    rfl
  · rw [List.getElem?_eq_none (by omega), List.getElem?_eq_none (by rw [hl2, Nat.mul_comm]; omega)]
theorem rowF_at {R : List (List UInt8)} {H : Nat} {k x : Nat} {r : List UInt8} {c : UInt8} {y : Int} (hr : R[k]? = some r) (hc : r[x]? = some c) (hy : (k : Int) = (H : Int) - 1 - y) : rowF R H x y = dotC c := by
  unfold rowF
  rw [← hy, Int.toNat_natCast, Int.toNat_natCast, hr, Option.getD_some, hc]
  rfl
end Go.Proofs.YtaafmgkjfmngjaaDoor
