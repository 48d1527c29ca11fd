/-
  Bitmaps: counts of dots, compared; what BitmapCounts and BitmapDots say, in plain words. Plain lemmas.
-/
import Derived.Test.YtaafmgkjfmngjaaDoorFl4
namespace Go.Proofs.YtaafmgkjfmngjaaDoor
open Go.RowKit
set_option linter.unusedVariables false

/-! ### Lists without repetition -/
theorem len_le_inj {α β : Type} [DecidableEq β] (f : α → β) : ∀ (l : List α) (m : List β), l.Nodup → (∀ x ∈ l, f x ∈ m) → (∀ x ∈ l, ∀ y ∈ l, f x = f y → x = y) → l.length ≤ m.length
  | [], m, _, _, _ => Nat.zero_le _
  | a :: l, m, hn, hm, hi => by
    obtain ⟨h1, h2⟩ := List.nodup_cons.1 hn
    have ha := hm a (by simp)
    have := len_le_inj f l (m.erase (f a)) h2 (fun x hx => (List.mem_erase_of_ne (fun e => h1 (by rw [hi a (by simp) x (by simp [hx]) e.symm]; exact hx))).2 (hm x (by simp [hx]))) (fun x hx y hy => hi x (by simp [hx]) y (by simp [hy]))
    rw [List.length_erase_of_mem ha] at this
    have : 0 < m.length := List.length_pos_of_mem ha
    simp only [List.length_cons]
    omega
theorem filter_one {α : Type} [DecidableEq α] (p : α → Bool) (d : α) : ∀ (l : List α), l.Nodup → p d = false → (l.filter fun x => p x || decide (x = d)).length = (l.filter p).length + if d ∈ l then 1 else 0
  | [], _, _ => by simp
  | a :: l, hn, hp => by
    obtain ⟨h1, h2⟩ := List.nodup_cons.1 hn
    have ih := filter_one p d l h2 hp
    by_cases e : a = d
    · subst e
      rw [if_neg h1] at ih
      rw [List.filter_cons_of_pos (by simp), List.filter_cons_of_neg (by simp [hp]), if_pos (by simp), List.length_cons, ih]
    · have e2 : (d ∈ a :: l) = (d ∈ l) := by rw [List.mem_cons]; exact propext ⟨fun h => h.resolve_left (fun x => e x.symm), Or.inr⟩
      simp only [e2]
      by_cases hpa : p a = true
      · rw [List.filter_cons_of_pos (by simp [hpa]), List.filter_cons_of_pos hpa, List.length_cons, List.length_cons, ih]; omega
      · rw [List.filter_cons_of_neg (by simp [hpa, e]), List.filter_cons_of_neg hpa, ih]
theorem filter_split {α : Type} (p : α → Bool) : ∀ (l : List α), (l.filter p).length + (l.filter fun x => !p x).length = l.length
  | [] => rfl
  | a :: l => by
    have ih := filter_split p l
    by_cases hp : p a = true
    · rw [List.filter_cons_of_pos hp, List.filter_cons_of_neg (by simp [hp]), List.length_cons, List.length_cons]; omega
    · rw [List.filter_cons_of_neg hp, List.filter_cons_of_pos (by simp [hp]), List.length_cons, List.length_cons]; omega
theorem filter_split2 {α : Type} (p q : α → Bool) (l : List α) : (l.filter fun x => p x && q x).length + (l.filter fun x => p x && !q x).length = (l.filter p).length := by
  rw [← filter_split q (l.filter p), List.filter_filter, List.filter_filter]
  congr 2
  · congr 1; funext x; exact Bool.and_comm _ _
  · congr 1; funext x; exact Bool.and_comm _ _

/-! ### The dots of a bitmap -/
theorem dotsTo_nodup (b : Bm) : ∀ k, (dotsTo b k).Nodup
  | 0 => List.nodup_nil
  | k + 1 => by
    unfold dotsTo
    split
    · rw [List.nodup_append]
      refine ⟨dotsTo_nodup b k, by simp, ?_⟩
      intro x hx y hy e
      simp only [List.mem_singleton] at hy
      subst hy e
      obtain ⟨j, h1, -, h2⟩ := mem_dotsTo.1 hx
      simp only [Prod.mk.injEq] at h2
      have e1 := Int.mul_ediv_add_emod (j : Int) b.1
      have e2 := Int.mul_ediv_add_emod (k : Int) b.1
      rw [h2.1, h2.2] at e1
      omega
    · exact dotsTo_nodup b k
theorem dotsB_nodup (b : Bm) : (dotsB b).Nodup := by
  unfold dotsB
  split
  · exact dotsTo_nodup _ _
  · exact List.nodup_nil
theorem filter_nodup {α : Type} (p : α → Bool) {l : List α} (h : l.Nodup) : (l.filter p).Nodup := List.Pairwise.filter p h
theorem cntD_congr {b : Bm} {p q : Int × Int → Bool} (h : ∀ d, getB b d.1 d.2 = true → p d = q d) : cntD b p = cntD b q := by
  unfold cntD
  congr 1
  exact List.filter_congr fun d hd => h d (mem_dotsB.1 hd)
theorem cntD_inj {b c : Bm} {p q : Int × Int → Bool} (f : Int × Int → Int × Int) (hf : ∀ d e, f d = f e → d = e) (h : ∀ d, getB b d.1 d.2 = true → p d = true → getB c (f d).1 (f d).2 = true ∧ q (f d) = true) : cntD b p ≤ cntD c q := by
  unfold cntD
  refine len_le_inj f _ _ (filter_nodup _ (dotsB_nodup b)) (fun d hd => ?_) (fun d _ e _ => hf d e)
  obtain ⟨h1, h2⟩ := List.mem_filter.1 hd
  obtain ⟨h3, h4⟩ := h d (mem_dotsB.1 h1) h2
  exact List.mem_filter.2 ⟨mem_dotsB.2 h3, h4⟩
theorem cntD_split (b : Bm) (p q : Int × Int → Bool) : cntD b (fun d => p d && q d) + cntD b (fun d => p d && !q d) = cntD b p := filter_split2 p q _
theorem cntD_one (b : Bm) (p : Int × Int → Bool) (d : Int × Int) (hp : p d = false) : cntD b (fun x => p x || decide (x = d)) = cntD b p + if getB b d.1 d.2 = true then 1 else 0 := by
  unfold cntD
  rw [filter_one p d _ (dotsB_nodup b) hp]
  simp only [mem_dotsB]
theorem cntD_none {b : Bm} {p : Int × Int → Bool} (h : ∀ d, getB b d.1 d.2 = true → p d = false) : cntD b p = 0 := by
  unfold cntD
  rw [List.length_eq_zero_iff, List.filter_eq_nil_iff]
  exact fun d hd => by rw [h d (mem_dotsB.1 hd)]; simp
theorem cntD_le (b : Bm) (p : Int × Int → Bool) : cntD b p ≤ cntD b fun _ => true := by
  unfold cntD
  refine Nat.le_trans (List.length_filter_le _ _) ?_
  rw [List.filter_eq_self.2 (fun _ _ => rfl)]
  exact Nat.le_refl _
theorem cntD_len (b : Bm) (p : Int × Int → Bool) : cntD b p ≤ b.2.2.length := Nat.le_trans (List.length_filter_le _ _) (dotsB_len b)
theorem wrap_in {a : Int} (h : -1000 ≤ a ∧ a ≤ 1000) : wrap64 a = a := by unfold wrap64; omega

/-! ### BitmapCounts -/
/-- Alone against b: all columns. -/
theorem only_all {a b : Bm} (hb : bmE b = 0) {dx dy : Int} (hx : -36 ≤ dx ∧ dx ≤ 36) (hy : -36 ≤ dy ∧ dy ≤ 36) : cntD a (onlyP (validB b) dx dy 0 0) = cntD a fun d => !getB b (d.1 - dx) (d.2 - dy) := by
  refine cntD_congr fun d hd => ?_
  obtain ⟨s1, s2⟩ := getB_side hd
  unfold onlyP
  rw [getB_valid, wrap_in (by omega), wrap_in (by omega), show (decide (d.1 < 0) || decide (0 ≤ d.1)) = true by simp; omega, Bool.true_and]
theorem only_cols {a b : Bm} (hb : bmE b = 0) {dx dy f t : Int} (hx : -36 ≤ dx ∧ dx ≤ 36) (hy : -36 ≤ dy ∧ dy ≤ 36) : cntD a (onlyP (validB b) dx dy f t) = cntD a fun d => (!getB b (d.1 - dx) (d.2 - dy)) && !(decide (f ≤ d.1 ∧ d.1 < t)) := by
  refine cntD_congr fun d hd => ?_
  obtain ⟨s1, s2⟩ := getB_side hd
  unfold onlyP
  rw [getB_valid, wrap_in (by omega), wrap_in (by omega), Bool.and_comm]
  congr 1
  rw [Bool.eq_iff_iff]
  simp only [Bool.or_eq_true, decide_eq_true_eq, Bool.not_eq_true', decide_eq_false_iff_not]
  omega
theorem counts_sum {x y z : Bm} {p0 p1 p2 p3 : Int} : cntD x (fun d => !getB z (d.1 - (p0 + p2)) (d.2 - (p1 + p3))) ≤ cntD x (fun d => !getB y (d.1 - p0) (d.2 - p1)) + cntD y (fun d => !getB z (d.1 - p2) (d.2 - p3)) := by
  rw [← cntD_split x _ (fun d => !getB y (d.1 - p0) (d.2 - p1))]
  refine Nat.add_le_add (cntD_inj id (fun _ _ h => h) fun d hd h => ?_) (cntD_inj (fun d => (d.1 - p0, d.2 - p1)) (fun d e h => ?_) fun d hd h => ?_)
  · simp only [Bool.and_eq_true] at h; exact ⟨hd, h.2⟩
  · simp only [Prod.mk.injEq] at h; exact Prod.ext (by omega) (by omega)
  · simp only [Bool.and_eq_true, Bool.not_not] at h
    refine ⟨h.2, ?_⟩
    simp only
    rw [show d.1 - p0 - p2 = d.1 - (p0 + p2) by omega, show d.2 - p1 - p3 = d.2 - (p1 + p3) by omega]
    exact h.1
theorem counts_turn {x y : Bm} {p0 p1 : Int} : cntD x (fun d => getB y (d.1 - p0) (d.2 - p1)) = cntD y (fun d => getB x (d.1 - -p0) (d.2 - -p1)) := by
  apply Nat.le_antisymm
  · refine cntD_inj (fun d => (d.1 - p0, d.2 - p1)) (fun d e h => ?_) fun d hd h => ⟨h, ?_⟩
    · simp only [Prod.mk.injEq] at h; exact Prod.ext (by omega) (by omega)
    · simp only
      rw [show d.1 - p0 - -p0 = d.1 by omega, show d.2 - p1 - -p1 = d.2 by omega]
      exact hd
  · refine cntD_inj (fun d => (d.1 - -p0, d.2 - -p1)) (fun d e h => ?_) fun d hd h => ⟨h, ?_⟩
    · simp only [Prod.mk.injEq] at h; exact Prod.ext (by omega) (by omega)
    · simp only
      rw [show d.1 - -p0 - p0 = d.1 by omega, show d.2 - -p1 - p1 = d.2 by omega]
      exact hd
theorem counts_both {x y : Bm} {p0 p1 : Int} : (cntD x (fun _ => true) : Int) - cntD x (fun d => !getB y (d.1 - p0) (d.2 - p1)) = (cntD y (fun _ => true) : Int) - cntD y (fun d => !getB x (d.1 - -p0) (d.2 - -p1)) := by
  have h1 := cntD_split x (fun _ => true) (fun d => getB y (d.1 - p0) (d.2 - p1))
  have h2 := cntD_split y (fun _ => true) (fun d => getB x (d.1 - -p0) (d.2 - -p1))
  have h3 := counts_turn (x := x) (y := y) (p0 := p0) (p1 := p1)
  simp only [Bool.true_and] at h1 h2
  omega
theorem counts_self {x : Bm} : cntD x (fun d => !getB x (d.1 - 0) (d.2 - 0)) = 0 :=
  cntD_none fun d hd => by rw [Int.sub_zero, Int.sub_zero, hd]; rfl
theorem getB_zero (u v : Int) : getB zeroB u v = false := by
  unfold getB
  rw [hasB_out (by simp only [zeroB]; omega), Bool.and_false]
theorem counts_none {x : Bm} {p0 p1 : Int} : cntD x (fun d => !getB zeroB (d.1 - p0) (d.2 - p1)) = cntD x fun _ => true :=
  cntD_congr fun d _ => by rw [getB_zero]; rfl
theorem getB_crop {b : Bm} (h : bmE b = 0) {x y w h' : Int} (hx : -100 ≤ x ∧ x ≤ 100) (hy : -100 ≤ y ∧ y ≤ 100) (hw : 0 ≤ w ∧ w ≤ 96) (hh : 0 ≤ h' ∧ h' ≤ 96) (i j : Int) :
    getB (cropM b x y w h').1 i j = (decide (0 ≤ i ∧ i < w ∧ 0 ≤ j ∧ j < h') && getB b (x + i) (y + j)) := by
  unfold cropM
  rw [if_pos h, if_pos ⟨sideOk_iff.2 hw, sideOk_iff.2 hh⟩]
  simp only
  rw [getB_grid hw hh]
  by_cases hi : 0 ≤ i ∧ i < w ∧ 0 ≤ j ∧ j < h'
  · rw [decide_eq_true hi, Bool.true_and, Bool.true_and, wrap_in (by omega), wrap_in (by omega), getB_ok h]
  · rw [decide_eq_false hi, Bool.false_and, Bool.false_and]
theorem crop_e {b : Bm} (h : bmE b = 0) {x y w h' : Int} (hw : 0 ≤ w ∧ w ≤ 96) (hh : 0 ≤ h' ∧ h' ≤ 96) : (cropM b x y w h').2 = 0 ∧ (cropM b x y w h').1.1 = w ∧ (cropM b x y w h').1.2.1 = h' ∧ bmE (cropM b x y w h').1 = 0 := by
  unfold cropM
  rw [if_pos h, if_pos ⟨sideOk_iff.2 hw, sideOk_iff.2 hh⟩]
  exact ⟨rfl, rfl, rfl, gridB_ok hw hh⟩
theorem getB_lies {b : Bm} {x y : Int} (h : getB b x y = true) : 0 ≤ x ∧ x < b.1 ∧ 0 ≤ y ∧ y < b.2.1 := by
  unfold getB hasB at h
  simp only [Bool.and_eq_true, decide_eq_true_eq] at h
  exact h.2.1
/-- The columns that are left out take away exactly their dots. -/
theorem counts_strip {x y : Bm} (hx : bmE x = 0) (hy : bmE y = 0) {p0 p1 f t w : Int} (h0 : -36 ≤ p0 ∧ p0 ≤ 36) (h1 : -36 ≤ p1 ∧ p1 ≤ 36) (hf : -30 ≤ f ∧ f ≤ 30) (ht : -30 ≤ t ∧ t ≤ 30) (hw : w = max (t - f) 0) :
    (cntD x (fun d => (!getB y (d.1 - p0) (d.2 - p1)) && !(decide (f ≤ d.1 ∧ d.1 < t))) : Int) = cntD x (fun d => !getB y (d.1 - p0) (d.2 - p1)) - cntD (cropM x f 0 w x.2.1).1 (fun d => !getB (cropM y (f - p0) (-p1) w x.2.1).1 (d.1 - 0) (d.2 - 0)) := by
  have hs := cntD_split x (fun d => !getB y (d.1 - p0) (d.2 - p1)) (fun d => decide (f ≤ d.1 ∧ d.1 < t))
  obtain ⟨-, hH, -⟩ := bmE_ok hx
  have hw0 : 0 ≤ w ∧ w ≤ 96 := by omega
  have key : cntD x (fun d => (!getB y (d.1 - p0) (d.2 - p1)) && decide (f ≤ d.1 ∧ d.1 < t)) = cntD (cropM x f 0 w x.2.1).1 (fun d => !getB (cropM y (f - p0) (-p1) w x.2.1).1 (d.1 - 0) (d.2 - 0)) := by
    apply Nat.le_antisymm
    · refine cntD_inj (fun d => (d.1 - f, d.2)) (fun d e h => ?_) fun d hd h => ?_
      · simp only [Prod.mk.injEq] at h; exact Prod.ext (by omega) (by omega)
      · simp only [Bool.and_eq_true, decide_eq_true_eq, Bool.not_eq_true'] at h
        obtain ⟨g1, g2, g3, g4⟩ := getB_lies hd
        have hin : 0 ≤ d.1 - f ∧ d.1 - f < w ∧ 0 ≤ d.2 ∧ d.2 < x.2.1 := by omega
        simp only [Int.sub_zero]
        rw [getB_crop hx (by omega) (by omega) hw0 hH, getB_crop hy (by omega) (by omega) hw0 hH, decide_eq_true hin, Bool.true_and, Bool.true_and, show f + (d.1 - f) = d.1 by omega, show (0 : Int) + d.2 = d.2 by omega, show f - p0 + (d.1 - f) = d.1 - p0 by omega, show -p1 + d.2 = d.2 - p1 by omega, h.1]
        exact ⟨hd, rfl⟩
    · refine cntD_inj (fun d => (d.1 + f, d.2)) (fun d e h => ?_) fun d hd h => ?_
      · simp only [Prod.mk.injEq] at h; exact Prod.ext (by omega) (by omega)
      · simp only [Int.sub_zero] at h
        rw [getB_crop hx (by omega) (by omega) hw0 hH, Bool.and_eq_true, decide_eq_true_eq] at hd
        obtain ⟨hin, hd⟩ := hd
        rw [getB_crop hy (by omega) (by omega) hw0 hH, decide_eq_true hin, Bool.true_and, show f - p0 + d.1 = d.1 + f - p0 by omega, show -p1 + d.2 = d.2 - p1 by omega] at h
        rw [show f + d.1 = d.1 + f by omega, show (0 : Int) + d.2 = d.2 by omega] at hd
        simp only
        rw [h, decide_eq_true (by omega)]
        exact ⟨hd, rfl⟩
  omega

/-! ### BitmapDots -/
theorem getB_paste {a b : Bm} (h : bmE a = 0) {x y : Int} (hx : -100 ≤ x ∧ x ≤ 100) (hy : -100 ≤ y ∧ y ≤ 100) (i j : Int) :
    getB (pasteM a b x y) i j = (decide (0 ≤ i ∧ i < a.1 ∧ 0 ≤ j ∧ j < a.2.1) && (getB a i j || getB b (i - x) (j - y))) := by
  obtain ⟨hW, hH, -⟩ := bmE_ok h
  unfold pasteM
  rw [if_pos h, getB_grid hW hH]
  by_cases hi : 0 ≤ i ∧ i < a.1 ∧ 0 ≤ j ∧ j < a.2.1
  · rw [decide_eq_true hi, Bool.true_and, Bool.true_and, wrap_in (by omega), wrap_in (by omega), getB_ok h]
  · rw [decide_eq_false hi, Bool.false_and, Bool.false_and]
theorem paste_e {a b : Bm} (h : bmE a = 0) (x y : Int) : bmE (pasteM a b x y) = 0 ∧ (pasteM a b x y).1 = a.1 ∧ (pasteM a b x y).2.1 = a.2.1 := by
  obtain ⟨hW, hH, -⟩ := bmE_ok h
  unfold pasteM
  rw [if_pos h]
  exact ⟨gridB_ok hW hH, rfl, rfl⟩
theorem paste_count {a b : Bm} (h : bmE a = 0) {x y : Int} (hx : -100 ≤ x ∧ x ≤ 100) (hy : -100 ≤ y ∧ y ≤ 100) : cntD (pasteM a b x y) (fun _ => true) ≤ cntD a (fun _ => true) + cntD b (fun _ => true) := by
  rw [← cntD_split (pasteM a b x y) (fun _ => true) (fun d => getB a d.1 d.2)]
  refine Nat.add_le_add (cntD_inj id (fun _ _ e => e) fun d hd hp => ?_) (cntD_inj (fun d => (d.1 - x, d.2 - y)) (fun d e hh => ?_) fun d hd hp => ?_)
  · simp only [Bool.true_and] at hp; exact ⟨hp, rfl⟩
  · simp only [Prod.mk.injEq] at hh; exact Prod.ext (by omega) (by omega)
  · rw [getB_paste h hx hy] at hd
    simp only [Bool.true_and, Bool.not_eq_true'] at hp
    rw [hp, Bool.false_or, Bool.and_eq_true] at hd
    exact ⟨hd.2, rfl⟩
theorem new_e {w h : Int} (hw : 0 ≤ w ∧ w ≤ 96) (hh : 0 ≤ h ∧ h ≤ 96) : (newM w h).2 = 0 ∧ bmE (newM w h).1 = 0 ∧ (newM w h).1.1 = w ∧ (newM w h).1.2.1 = h ∧ ∀ i j, getB (newM w h).1 i j = false := by
  unfold newM
  rw [if_pos ⟨sideOk_iff.2 hw, sideOk_iff.2 hh⟩, ← gridB_false]
  refine ⟨rfl, gridB_ok hw hh, rfl, rfl, fun i j => ?_⟩
  simp only
  rw [getB_grid hw hh, Bool.and_false]
/-- The dots ahead of a place, row by row. -/
def aheadP (i j : Int) (d : Int × Int) : Bool := decide (d.2 < j) || (decide (d.2 = j) && decide (d.1 < i))
theorem ahead_step (b : Bm) (i j : Int) : cntD b (aheadP (i + 1) j) = cntD b (aheadP i j) + if getB b i j = true then 1 else 0 := by
  rw [← cntD_one b (aheadP i j) (i, j) (by simp [aheadP])]
  refine cntD_congr fun d _ => ?_
  unfold aheadP
  rw [Bool.eq_iff_iff]
  obtain ⟨d1, d2⟩ := d
  simp
  omega
theorem ahead_row {b : Bm} {i j k : Int} (hi : b.1 ≤ i) (hk : k ≤ 0) : cntD b (aheadP i j) = cntD b (aheadP k (j + 1)) := by
  refine cntD_congr fun d hd => ?_
  obtain ⟨g1, g2, g3, g4⟩ := getB_lies hd
  unfold aheadP
  rw [Bool.eq_iff_iff]
  simp
  omega
theorem ahead_none {b : Bm} {i j : Int} (hj : j < 0) : cntD b (aheadP i j) = 0 := cntD_none fun d hd => by
  obtain ⟨g1, g2, g3, g4⟩ := getB_lies hd
  unfold aheadP
  simp
  omega
theorem ahead_all {b : Bm} {i j : Int} (hj : b.2.1 ≤ j) : cntD b (aheadP i j) = cntD b fun _ => true := cntD_congr fun d hd => by
  obtain ⟨g1, g2, g3, g4⟩ := getB_lies hd
  unfold aheadP
  simp
  omega
end Go.Proofs.YtaafmgkjfmngjaaDoor
