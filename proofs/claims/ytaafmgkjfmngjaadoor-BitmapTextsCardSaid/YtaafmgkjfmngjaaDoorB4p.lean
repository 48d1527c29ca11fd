/-
  Bitmaps: New, Paste and Crop in plain words: grids of dots. Plain lemmas.
-/
import Derived.Test.YtaafmgkjfmngjaaDoorBonly
import Derived.Test.YtaafmgkjfmngjaaDoorTb
namespace Go.Proofs.YtaafmgkjfmngjaaDoor
open Go.RowKit
set_option linter.unusedVariables false

/-- The dots of a grid, the lowest row first. -/
def gridB (W H : Int) (f : Int → Int → Bool) : List Bool := (List.range (W * H).toNat).map fun (k : Nat) => f ((k : Int) % W) ((k : Int) / W)
theorem gridB_len (W H : Int) (f : Int → Int → Bool) : (gridB W H f).length = (W * H).toNat := by simp [gridB]
theorem gridB_at {W H : Int} {f : Int → Int → Bool} {k : Nat} (h : k < (W * H).toNat) : (gridB W H f)[k]? = some (f ((k : Int) % W) ((k : Int) / W)) := by simp [gridB, h]
theorem gridB_ok {W H : Int} {f : Int → Int → Bool} (hW : 0 ≤ W ∧ W ≤ 96) (hH : 0 ≤ H ∧ H ≤ 96) : bmE (W, H, gridB W H f) = 0 := by
  refine bmE_eq hW hH ?_
  simp only [gridB_len]
  exact Int.toNat_of_nonneg (Int.mul_nonneg hW.1 hH.1)
theorem gridB_congr {W H : Int} {f g : Int → Int → Bool} (hW : 0 ≤ W) (h : ∀ i j, 0 ≤ i → i < W → 0 ≤ j → j < H → f i j = g i j) : gridB W H f = gridB W H g := by
  unfold gridB
  refine List.map_congr_left fun k hk => ?_
  have hk' : (k : Int) < W * H := by have := List.mem_range.1 hk; omega
  have h0 := grid_pos (by omega) hk' hW
  obtain ⟨⟨a1, a2⟩, ⟨b1, b2⟩, -⟩ := grid_of (by omega) hk' h0
  exact h _ _ a1 a2 b1 b2
theorem hasB_grid {W H : Int} {f : Int → Int → Bool} {x y : Int} (hx : 0 ≤ x ∧ x < W) (hy : 0 ≤ y ∧ y < H) : hasB (W, H, gridB W H f) x y = f x y := by
  obtain ⟨h1, h2⟩ := grid_lt hx hy
  obtain ⟨h3, h4⟩ := grid_mod (y := y) hx
  refine hasB_in ⟨hx.1, hx.2, hy.1, hy.2⟩ ?_
  show (gridB W H f)[(y * W + x).toNat]? = _
  rw [gridB_at (by omega), Int.toNat_of_nonneg h1, h3, h4]
theorem getB_grid {W H : Int} {f : Int → Int → Bool} (hW : 0 ≤ W ∧ W ≤ 96) (hH : 0 ≤ H ∧ H ≤ 96) (x y : Int) : getB (W, H, gridB W H f) x y = (decide (0 ≤ x ∧ x < W ∧ 0 ≤ y ∧ y < H) && f x y) := by
  unfold getB
  rw [decide_eq_true (gridB_ok hW hH), Bool.true_and]
  by_cases h : 0 ≤ x ∧ x < W ∧ 0 ≤ y ∧ y < H
  · rw [hasB_grid ⟨h.1, h.2.1⟩ ⟨h.2.2.1, h.2.2.2⟩, decide_eq_true h, Bool.true_and]
  · rw [hasB_out h, decide_eq_false h, Bool.false_and]
/-- A bitmap is the grid of its dots. -/
theorem grid_self {b : Bm} (h : bmE b = 0) : gridB b.1 b.2.1 (hasB b) = b.2.2 := by
  obtain ⟨hW, hH, hl⟩ := bmE_ok h
  apply List.ext_getElem?
  intro k
  by_cases hk : k < (b.1 * b.2.1).toNat
  · rw [gridB_at hk]
    have hk' : (k : Int) < b.1 * b.2.1 := by omega
    have h0 := grid_pos (by omega) hk' hW.1
    obtain ⟨a1, b1, e⟩ := grid_of (by omega) hk' h0
    obtain ⟨d, hd⟩ : ∃ d, b.2.2[k]? = some d := ⟨_, List.getElem?_eq_getElem (by omega)⟩
    rw [hd, hasB_in ⟨a1.1, a1.2, b1.1, b1.2⟩ (by rw [e]; exact hd)]
  · rw [List.getElem?_eq_none (by rw [gridB_len]; omega), List.getElem?_eq_none (by omega)]
theorem gridB_set {W H : Int} {f : Int → Int → Bool} {p q : Int} (d : Bool) (hp : 0 ≤ p ∧ p < W) (hq : 0 ≤ q ∧ q < H) :
    (gridB W H f).set (q * W + p).toNat d = gridB W H fun i j => if i = p ∧ j = q then d else f i j := by
  obtain ⟨h1, h2⟩ := grid_lt hp hq
  obtain ⟨h3, h4⟩ := grid_mod (y := q) hp
  apply List.ext_getElem?
  intro k
  rw [List.getElem?_set]
  by_cases hk : k < (W * H).toNat
  · rw [gridB_at hk, gridB_at hk]
    by_cases e : (q * W + p).toNat = k
    · subst e
      rw [if_pos rfl, gridB_len, if_pos hk, Int.toNat_of_nonneg h1, h3, h4, if_pos ⟨rfl, rfl⟩]
    · rw [if_neg e, if_neg]
      rintro ⟨e1, e2⟩
      obtain ⟨-, -, e3⟩ := grid_of (k := (k : Int)) (W := W) (H := H) (by omega) (by omega) (by omega)
      rw [e1, e2] at e3
      omega
  · rw [List.getElem?_eq_none (l := gridB W H _) (by rw [gridB_len]; omega), List.getElem?_eq_none (l := gridB W H _) (by rw [gridB_len]; omega)]
    split
    · rename_i e
      rw [if_neg (by rw [gridB_len]; omega)]
    · rfl

/-! ### New, Paste, Crop -/
def newM (w h : Int) : Bm × Int := if sideOk w = true ∧ sideOk h = true then ((w, h, List.replicate (w * h).toNat false), 0) else (zeroB, 13)
def pasteM (b c : Bm) (x y : Int) : Bm := if bmE b = 0 then (b.1, b.2.1, gridB b.1 b.2.1 fun i j => hasB b i j || getB c (wrap64 (i - x)) (wrap64 (j - y))) else zeroB
def cropM (b : Bm) (x y w h : Int) : Bm × Int :=
  if bmE b = 0 then (if sideOk w = true ∧ sideOk h = true then ((w, h, gridB w h fun i j => hasB b (wrap64 (x + i)) (wrap64 (y + j))), 0) else (zeroB, 13)) else (zeroB, bmE b)
theorem sideOk_iff {n : Int} : sideOk n = true ↔ 0 ≤ n ∧ n ≤ 96 := by simp [sideOk]
theorem gridB_false (W H : Int) : gridB W H (fun _ _ => false) = List.replicate (W * H).toNat false := by
  unfold gridB
  apply List.ext_getElem?
  intro k
  rw [List.getElem?_map, List.getElem?_replicate]
  by_cases hk : k < (W * H).toNat
  · rw [if_pos hk, List.getElem?_range hk]; rfl
  · rw [if_neg hk, List.getElem?_eq_none (by simp; omega)]; rfl

/-! ### The dots of a bitmap, and Paste dot by dot -/
theorem mem_dotsTo {b : Bm} {k : Nat} {d : Int × Int} : d ∈ dotsTo b k ↔ ∃ j, j < k ∧ (b.2.2[j]?).getD false = true ∧ ((j : Int) % b.1, (j : Int) / b.1) = d := by
  induction k with
  | zero => simp [dotsTo]
  | succ k ih =>
    unfold dotsTo
    by_cases hb : (b.2.2[k]?).getD false = true
    · rw [if_pos hb, List.mem_append, ih]
      constructor
      · rintro (⟨j, h1, h2⟩ | h)
        · exact ⟨j, by omega, h2⟩
        · simp only [List.mem_singleton] at h
          exact ⟨k, by omega, hb, h.symm⟩
      · rintro ⟨j, h1, h2, h3⟩
        by_cases e : j = k
        · subst e
          right
          simp [h3]
        · exact Or.inl ⟨j, by omega, h2, h3⟩
    · rw [if_neg hb, ih]
      constructor
      · rintro ⟨j, h1, h2⟩
        exact ⟨j, by omega, h2⟩
      · rintro ⟨j, h1, h2, h3⟩
        by_cases e : j = k
        · subst e; exact absurd h2 hb
        · exact ⟨j, by omega, h2, h3⟩
theorem mem_dotsB {b : Bm} {d : Int × Int} : d ∈ dotsB b ↔ getB b d.1 d.2 = true := by
  unfold dotsB getB
  by_cases h : bmE b = 0
  · rw [if_pos h, decide_eq_true h, Bool.true_and, hasB_iff h, mem_dotsTo]
    constructor
    · rintro ⟨j, h1, h2, h3⟩
      refine ⟨j, h1, h2, congrArg Prod.fst h3, congrArg Prod.snd h3, ?_⟩
      obtain ⟨hW, hH, hl⟩ := bmE_ok h
      exact grid_pos (k := (j : Int)) (H := b.2.1) (by omega) (by omega) hW.1
    · rintro ⟨j, h1, h2, h3, h4, -⟩
      exact ⟨j, h1, h2, by rw [h3, h4]⟩
  · rw [if_neg h, decide_eq_false h]; simp
/-- The target of a dot. -/
def atP (x y : Int) (d : Int × Int) : Int × Int := (wrap64 (d.1 + x), wrap64 (d.2 + y))
/-- The dots behind the list D of dots. -/
def pasteS (b : Bm) (x y : Int) (D : List (Int × Int)) : List Bool := gridB b.1 b.2.1 fun i j => hasB b i j || D.any fun d => decide (atP x y d = (i, j))
theorem pasteS_nil {b : Bm} (h : bmE b = 0) (x y : Int) : pasteS b x y [] = b.2.2 := by
  unfold pasteS
  simp only [List.any_nil, Bool.or_false]
  exact grid_self h
theorem pasteS_len (b : Bm) (x y : Int) (D : List (Int × Int)) : (pasteS b x y D).length = (b.1 * b.2.1).toNat := gridB_len _ _ _
theorem pasteS_in {b : Bm} {x y : Int} {D : List (Int × Int)} {d : Int × Int} (hp : 0 ≤ (atP x y d).1 ∧ (atP x y d).1 < b.1) (hq : 0 ≤ (atP x y d).2 ∧ (atP x y d).2 < b.2.1) :
    pasteS b x y (D ++ [d]) = (pasteS b x y D).set ((atP x y d).2 * b.1 + (atP x y d).1).toNat true := by
  unfold pasteS
  rw [gridB_set true hp hq]
  congr 1
  funext i j
  rw [List.any_append]
  by_cases e : i = (atP x y d).1 ∧ j = (atP x y d).2
  · rw [if_pos e]
    have : atP x y d = (i, j) := by rw [e.1, e.2]
    simp [this]
  · rw [if_neg e]
    have : ¬ atP x y d = (i, j) := fun h => e ⟨by rw [h], by rw [h]⟩
    simp [this]
theorem pasteS_out {b : Bm} {x y : Int} {D : List (Int × Int)} {d : Int × Int} (hW : 0 ≤ b.1) (h : ¬ (0 ≤ (atP x y d).1 ∧ (atP x y d).1 < b.1 ∧ 0 ≤ (atP x y d).2 ∧ (atP x y d).2 < b.2.1)) : pasteS b x y (D ++ [d]) = pasteS b x y D := by
  unfold pasteS
  refine gridB_congr hW fun i j h1 h2 h3 h4 => ?_
  rw [List.any_append]
  have : ¬ atP x y d = (i, j) := fun e => h (by rw [e]; exact ⟨h1, h2, h3, h4⟩)
  simp [this]
theorem wrap_turn {u i x : Int} (hu : 0 ≤ u ∧ u < 96) (hi : 0 ≤ i ∧ i < 96) (hx : -9223372036854775808 ≤ x ∧ x ≤ 9223372036854775807) : wrap64 (u + x) = i ↔ wrap64 (i - x) = u := by unfold wrap64; omega
theorem getB_side {c : Bm} {u v : Int} (h : getB c u v = true) : (0 ≤ u ∧ u < 96) ∧ (0 ≤ v ∧ v < 96) := by
  unfold getB at h
  simp only [Bool.and_eq_true, decide_eq_true_eq] at h
  obtain ⟨hE, h⟩ := h
  obtain ⟨hW, hH, -⟩ := bmE_ok hE
  unfold hasB at h
  simp only [Bool.and_eq_true, decide_eq_true_eq] at h
  omega
theorem pasteS_all {b c : Bm} {x y : Int} (h : bmE b = 0) (hx : -9223372036854775808 ≤ x ∧ x ≤ 9223372036854775807) (hy : -9223372036854775808 ≤ y ∧ y ≤ 9223372036854775807) : (b.1, b.2.1, pasteS b x y (dotsB c)) = pasteM b c x y := by
  unfold pasteM pasteS
  rw [if_pos h]
  obtain ⟨hW, hH, -⟩ := bmE_ok h
  congr 2
  refine gridB_congr hW.1 fun i j h1 h2 h3 h4 => ?_
  congr 1
  rw [Bool.eq_iff_iff, List.any_eq_true]
  constructor
  · rintro ⟨d, hd, he⟩
    have hg := mem_dotsB.1 hd
    obtain ⟨s1, s2⟩ := getB_side hg
    simp only [atP, decide_eq_true_eq, Prod.mk.injEq] at he
    rw [(wrap_turn s1 (by omega) hx).1 he.1, (wrap_turn s2 (by omega) hy).1 he.2]
    exact hg
  · intro hg
    obtain ⟨s1, s2⟩ := getB_side hg
    refine ⟨(_, _), mem_dotsB.2 hg, ?_⟩
    simp only [atP, decide_eq_true_eq, Prod.mk.injEq]
    exact ⟨(wrap_turn s1 (by omega) hx).2 rfl, (wrap_turn s2 (by omega) hy).2 rfl⟩
end Go.Proofs.YtaafmgkjfmngjaaDoor
