/-
  Texts of bitmaps: the size, the first row, and what is no text. Plain lemmas.
-/
import Derived.Test.YtaafmgkjfmngjaaDoorTb
import Derived.Test.YtaafmgkjfmngjaaDoorLw4
namespace Go.Proofs.YtaafmgkjfmngjaaDoor
open Go.RowKit
set_option linter.unusedVariables false

theorem rowsB_okAll {x : Bm} (h : bmOk x) : ∀ r ∈ rowsB x.1.toNat x.2.2 x.2.1.toNat, r.length = x.1.toNat ∧ ∀ c ∈ r, okB c = true := rowsB_all (bmOk_nat h) _ (Nat.le_refl _)
theorem textB_size {x : Bm} (h : bmOk x) : (textB x).length = x.2.1.toNat * (x.1.toNat + 1) := by
  unfold textB
  rw [if_pos h, join_len (w := x.1.toNat) (fun r hr => (rowsB_okAll h r hr).1), rowsB_len]
theorem textB_sizeI {x : Bm} (h : bmOk x) : ((textB x).length : Int) = (x.1 + 1) * x.2.1 := by
  rw [textB_size h, Int.natCast_mul, Int.natCast_add, Int.toNat_of_nonneg h.2.1.1, Int.toNat_of_nonneg h.1.1, Int.mul_comm]
  rfl
theorem parse_textB_no {x : Bm} (h : bmOk x) (hn : ¬ (1 ≤ x.1 ∧ 1 ≤ x.2.1)) : parseB (textB x) = (zeroB, false) := by
  unfold parseB
  rw [if_neg]
  rintro ⟨hg, hj⟩
  obtain ⟨g1, g2, g3⟩ := hg
  obtain ⟨R, hR⟩ : ∃ R, rowsOf (textB x) = R := ⟨_, rfl⟩
  rw [hR] at g1 g2 g3 hj
  have hlen := join_len (w := (R.headD []).length) (R := R) (fun r hr => (g3 r hr).1)
  rw [hj, textB_size h] at hlen
  by_cases hH : 1 ≤ x.2.1
  · have hW : x.1.toNat = 0 := by omega
    match R, g1, g2, g3, hj with
    | [], g1, _, _, _ => simp at g1
    | r :: R', _, g2, g3, hj =>
      simp only [List.headD_cons] at g2 g3
      match r, g2, g3, hj with
      | [], g2, _, _ => simp at g2
      | c :: r', _, g3, hj =>
        have hc := (g3 (c :: r') (by simp)).2 c (by simp)
        have h0 : (textB x)[0]? = some c := by rw [← hj, join_cons]; rfl
        obtain ⟨m, hm⟩ : ∃ m, x.2.1.toNat = m + 1 := ⟨x.2.1.toNat - 1, by omega⟩
        have h1 : (textB x)[0]? = some 10 := by
          unfold textB
          rw [if_pos h, hm, hW]
          simp [rowsB, join_cons, rowB]
        rw [h1] at h0
        cases h0
        revert hc
        decide
  · have : x.2.1.toNat = 0 := by omega
    rw [this, Nat.zero_mul] at hlen
    have : 1 * 1 ≤ R.length * ((R.headD []).length + 1) := Nat.mul_le_mul (by omega) (by omega)
    omega
theorem textB_first {x : Bm} (h : bmOk x) {i : Nat} (hi : (i : Int) < x.1) (hH : 0 < x.2.1) : (textB x)[i]? = some (chrB (getB x i (x.2.1 - 1))) := by
  obtain ⟨m, hm⟩ : ∃ m, x.2.1.toNat = m + 1 := ⟨x.2.1.toNat - 1, by omega⟩
  have hb := bmOk_iff.1 h
  have hl := bmOk_nat h
  have hlen := rowB_len (W := x.1.toNat) (l := x.2.2) (y := m) (H := m + 1) (by rw [hl, hm]) (by omega)
  unfold textB
  rw [if_pos h, hm, rowsB, join_cons, List.append_assoc, List.getElem?_append_left (by omega)]
  unfold rowB
  rw [List.getElem?_map, List.getElem?_take, if_pos (by omega), List.getElem?_drop]
  obtain ⟨g0, g1⟩ := grid_lt (x := (i : Int)) (y := x.2.1 - 1) (W := x.1) (H := x.2.1) ⟨by omega, hi⟩ ⟨by omega, by omega⟩
  have hidx : ((x.2.1 - 1) * x.1 + i).toNat = m * x.1.toNat + i := by
    have e : (x.2.1 - 1) = (m : Int) := by omega
    have e2 : ((m * x.1.toNat : Nat) : Int) = (m : Int) * x.1 := by rw [Int.natCast_mul, Int.toNat_of_nonneg h.1.1]
    rw [e] at g0 ⊢
    omega
  have hlt : m * x.1.toNat + i < x.2.2.length := by
    have := h.2.2.1
    omega
  rw [getB_ok hb, hasB_in ⟨by omega, hi, by omega, by omega⟩ (d := x.2.2[m * x.1.toNat + i]) (by rw [hidx]; exact List.getElem?_eq_getElem hlt), List.getElem?_eq_getElem hlt]
  rfl
theorem chrB_dot (d : Bool) : (chrB d == 35) = d := by cases d <;> rfl
end Go.Proofs.YtaafmgkjfmngjaaDoor
