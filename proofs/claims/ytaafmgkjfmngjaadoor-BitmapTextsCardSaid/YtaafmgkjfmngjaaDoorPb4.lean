/-
  Parse of bitmaps, place by place, in plain words. Plain lemmas.
-/
import Derived.Test.YtaafmgkjfmngjaaDoorB4p
import Derived.Test.YtaafmgkjfmngjaaDoorParB
namespace Go.Proofs.YtaafmgkjfmngjaaDoor
open Go.RowKit
set_option linter.unusedVariables false

theorem flat_get {R : List (List UInt8)} {w : Nat} (h : ∀ r ∈ R, r.length = w) {y x : Nat} {r : List UInt8} (hy : R[y]? = some r) (hx : x < w) : R.flatten[y * w + x]? = r[x]? := by
  rw [← flatten_rows h hy, List.getElem?_take, if_pos hx, List.getElem?_drop]
/-- The place of a dot in the text. -/
def idxT (w H : Nat) (x y : Int) : Int := ((H : Int) - 1 - y) * ((w : Int) + 1) + x
def charT (L : List UInt8) (k : Int) : Bool := dotC ((L[k.toNat]?).getD 0)
/-- The dots behind the first k places. -/
def parS (w H : Nat) (L : List UInt8) (k : Nat) : List Bool := gridB w H fun x y => decide (idxT w H x y < k) && charT L (idxT w H x y)
theorem parS_len (w H : Nat) (L : List UInt8) (k : Nat) : (parS w H L k).length = w * H := by unfold parS; rw [gridB_len]; norm_cast
theorem idxT_pos {w H : Nat} {x y : Int} (hx : 0 ≤ x) (hy : y < H) : 0 ≤ idxT w H x y := by
  unfold idxT
  have := Int.mul_nonneg (show 0 ≤ (H : Int) - 1 - y by omega) (show 0 ≤ (w : Int) + 1 by omega)
  omega
theorem parS_zero (w H : Nat) (L : List UInt8) : parS w H L 0 = List.replicate (w * H) false := by
  have h := gridB_false (w : Int) (H : Int)
  rw [show ((w : Int) * (H : Int)).toNat = w * H by norm_cast] at h
  rw [← h]
  refine gridB_congr (by omega) fun i j h1 h2 h3 h4 => ?_
  have := idxT_pos (w := w) (H := H) h1 h4
  rw [decide_eq_false (by omega)]
  rfl
theorem idxT_eq {w H : Nat} {k : Nat} {i j : Int} (hi : 0 ≤ i ∧ i < w) : idxT w H i j = k ↔ i = (k : Int) % ((w : Int) + 1) ∧ (H : Int) - 1 - j = (k : Int) / ((w : Int) + 1) := by
  unfold idxT
  obtain ⟨h1, h2⟩ := grid_mod (x := i) (y := (H : Int) - 1 - j) (W := (w : Int) + 1) ⟨hi.1, by omega⟩
  constructor
  · intro e
    rw [e] at h1 h2
    exact ⟨h1.symm, h2.symm⟩
  · rintro ⟨e1, e2⟩
    rw [e1, e2, Int.mul_comm]
    exact Int.mul_ediv_add_emod _ _
theorem parS_same {w H : Nat} {L : List UInt8} {k : Nat} (h : (k : Int) % ((w : Int) + 1) = w) : parS w H L (k + 1) = parS w H L k := by
  unfold parS
  refine gridB_congr (by omega) fun i j h1 h2 h3 h4 => ?_
  have hne : idxT w H i j ≠ k := fun e => by
    have := ((idxT_eq (k := k) ⟨h1, h2⟩).1 e).1
    omega
  congr 1
  rw [decide_eq_decide]
  omega
theorem parS_step {w H : Nat} {L : List UInt8} {k : Nat} {x y : Int} (hx : (k : Int) % ((w : Int) + 1) = x) (hxw : 0 ≤ x ∧ x < w) (hy : (H : Int) - 1 - (k : Int) / ((w : Int) + 1) = y) (hyH : 0 ≤ y ∧ y < H) {c : UInt8} (hc : L[k]? = some c) :
    parS w H L (k + 1) = (parS w H L k).set (y * w + x).toNat (dotC c) := by
  unfold parS
  rw [gridB_set _ hxw hyH]
  refine gridB_congr (by omega) fun i j h1 h2 h3 h4 => ?_
  by_cases e : i = x ∧ j = y
  · rw [if_pos e]
    have he : idxT w H i j = k := (idxT_eq ⟨h1, h2⟩).2 ⟨by omega, by omega⟩
    rw [he, decide_eq_true (by omega)]
    unfold charT
    rw [Int.toNat_natCast, hc]
    rfl
  · rw [if_neg e]
    have hne : idxT w H i j ≠ k := fun he => by
      obtain ⟨e1, e2⟩ := (idxT_eq (k := k) ⟨h1, h2⟩).1 he
      exact e ⟨by omega, by omega⟩
    congr 1
    rw [decide_eq_decide]
    omega
theorem parS_all {w H : Nat} {L : List UInt8} (hlen : L.length = H * (w + 1)) (hw : 1 ≤ w) : parS w H L L.length = dotsR (rowsAt w L H) := by
  apply List.ext_getElem?
  intro k
  have hRl : ∀ r ∈ (rowsAt w L H).reverse, r.length = w := fun r hr => by
    have hr := List.mem_reverse.1 hr
    unfold rowsAt at hr
    obtain ⟨y, hy, rfl⟩ := List.mem_map.1 hr
    exact rowAt_len hlen (List.mem_range.1 hy)
  have hl2 : (dotsR (rowsAt w L H)).length = H * w := by
    unfold dotsR
    rw [List.length_map, len_flatten_rows hRl, List.length_reverse, rowsAt_len]
  by_cases hk : k < w * H
  · have hq : k / w < H := Nat.div_lt_of_lt_mul hk
    have hm : k % w < w := Nat.mod_lt _ (by omega)
    have f0 : 0 ≤ (k : Int) / (w : Int) := Int.ediv_nonneg (by omega) (by omega)
    unfold parS
    rw [gridB_at (by have : ((w : Int) * (H : Int)).toNat = w * H := by norm_cast
                     omega)]
    have hrow : (rowsAt w L H).reverse[k / w]? = some (rowAt w L (H - 1 - k / w)) := by
      rw [List.getElem?_reverse (by rw [rowsAt_len]; exact hq), rowsAt_len]
      unfold rowsAt
      rw [List.getElem?_map, List.getElem?_range (by omega)]
      rfl
    have hfl := flat_get hRl hrow hm
    rw [rowAt_get hm] at hfl
    have ek : k / w * w + k % w = k := by rw [Nat.mul_comm]; exact Nat.div_add_mod k w
    rw [ek] at hfl
    have hidx : idxT w H ((k : Int) % (w : Int)) ((k : Int) / (w : Int)) = (((H - 1 - k / w) * (w + 1) + k % w : Nat) : Int) := by
      unfold idxT
      have e1 : (k : Int) % (w : Int) = ((k % w : Nat) : Int) := by norm_cast
      have e2 : (H : Int) - 1 - (k : Int) / (w : Int) = ((H - 1 - k / w : Nat) : Int) := by
        have : (k : Int) / (w : Int) = ((k / w : Nat) : Int) := by norm_cast
        omega
      rw [e1, e2]
      push_cast
      rfl
    have hlt : (H - 1 - k / w) * (w + 1) + k % w < L.length := by
      rw [hlen]
      have h4 : (H - 1 - k / w + 1) * (w + 1) ≤ H * (w + 1) := Nat.mul_le_mul_right _ (by omega)
      rw [Nat.add_mul _ 1, Nat.one_mul] at h4
      omega
    rw [hidx, decide_eq_true (by omega), Bool.true_and]
    unfold dotsR charT
    rw [List.getElem?_map, hfl, Int.toNat_natCast, List.getElem?_eq_getElem hlt]
    rfl
  · rw [List.getElem?_eq_none (by rw [parS_len]; omega), List.getElem?_eq_none (by rw [hl2, Nat.mul_comm]; omega)]
end Go.Proofs.YtaafmgkjfmngjaaDoor
