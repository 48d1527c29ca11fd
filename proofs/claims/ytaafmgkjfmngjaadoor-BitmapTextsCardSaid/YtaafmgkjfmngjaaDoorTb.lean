/-
  Texts of bitmaps, in plain words: Text and Parse of the package bitmap. Of no program.
-/
import Derived.Test.YtaafmgkjfmngjaaDoorTxt
namespace Go.Proofs.YtaafmgkjfmngjaaDoor
set_option linter.unusedVariables false

def bmOk (b : Bm) : Prop := (0 ≤ b.1 ∧ b.1 ≤ 96) ∧ (0 ≤ b.2.1 ∧ b.2.1 ≤ 96) ∧ (b.2.2.length : Int) = b.1 * b.2.1 ∧ True
theorem bmOk_iff {b : Bm} : bmOk b ↔ bmE b = 0 :=
  ⟨fun h => bmE_eq h.1 h.2.1 h.2.2.1, fun h => by obtain ⟨h1, h2, h3⟩ := bmE_ok h; exact ⟨h1, h2, h3, trivial⟩⟩
instance (b : Bm) : Decidable (bmOk b) := decidable_of_iff _ bmOk_iff.symm
def zeroB : Bm := (0, 0, [])
theorem bmOk_zero : bmOk zeroB := by unfold bmOk zeroB; simp
def chrB (d : Bool) : UInt8 := if d = true then 35 else 46
def okB (c : UInt8) : Bool := c == 46 || c == 35
def dotC (c : UInt8) : Bool := c == 35
theorem okB_chr (p : Bool) : okB (chrB p) = true := by cases p <;> rfl
theorem dot_chr (p : Bool) : dotC (chrB p) = p := by cases p <;> rfl
theorem chr_dot {c : UInt8} (h : okB c = true) : chrB (dotC c) = c := by
  simp only [okB, Bool.or_eq_true, beq_iff_eq] at h
  rcases h with rfl | rfl <;> rfl
def rowB (W : Nat) (l : List Bool) (y : Nat) : List UInt8 := ((l.drop (y * W)).take W).map chrB
/-- The rows below y, the highest one first. -/
def rowsB (W : Nat) (l : List Bool) : Nat → List (List UInt8)
  | 0 => []
  | y + 1 => rowB W l y :: rowsB W l y
def textB (x : Bm) : List UInt8 := if bmOk x then join (rowsB x.1.toNat x.2.2 x.2.1.toNat) else []
/-- The dots of rows, the lowest one first. -/
def dotsR (R : List (List UInt8)) : List Bool := R.reverse.flatten.map dotC
def bmR (R : List (List UInt8)) : Bm := ((R.headD []).length, R.length, dotsR R)
def parseB (s : List UInt8) : Bm × Bool := if isText okB 96 s then (bmR (rowsOf s), true) else (zeroB, false)

theorem rowB_len {W : Nat} {l : List Bool} {y H : Nat} (hl : l.length = W * H) (hy : y < H) : (rowB W l y).length = W := by
  unfold rowB
  have h4 : (y + 1) * W ≤ H * W := Nat.mul_le_mul_right _ (by omega)
  rw [Nat.add_mul, Nat.one_mul, Nat.mul_comm H W] at h4
  simp
  omega
theorem rowsB_len (W : Nat) (l : List Bool) (y : Nat) : (rowsB W l y).length = y := by
  induction y with
  | zero => rfl
  | succ y ih => simp [rowsB, ih]
theorem rowsB_all {W : Nat} {l : List Bool} {H : Nat} (hl : l.length = W * H) (y : Nat) (hy : y ≤ H) : ∀ r ∈ rowsB W l y, r.length = W ∧ ∀ c ∈ r, okB c = true := by
  induction y with
  | zero => intro r h; cases h
  | succ y ih =>
    intro r hr
    rcases List.mem_cons.1 hr with rfl | hr
    · refine ⟨rowB_len hl (by omega), fun c hc => ?_⟩
      unfold rowB at hc
      obtain ⟨p, -, rfl⟩ := List.mem_map.1 hc
      exact okB_chr p
    · exact ih (by omega) r hr
theorem textB_len {x : Bm} (h : bmOk x) : (textB x).length ≤ 9312 := by
  unfold textB
  rw [if_pos h]
  obtain ⟨h1, h2, h3, -⟩ := h
  have hl : x.2.2.length = x.1.toNat * x.2.1.toNat := by
    have : ((x.1.toNat * x.2.1.toNat : Nat) : Int) = x.1 * x.2.1 := by rw [Int.natCast_mul, Int.toNat_of_nonneg h1.1, Int.toNat_of_nonneg h2.1]
    omega
  rw [join_len (w := x.1.toNat) (fun r hr => (rowsB_all hl _ (Nat.le_refl _) r hr).1), rowsB_len]
  have : x.2.1.toNat * (x.1.toNat + 1) ≤ 96 * 97 := Nat.mul_le_mul (by omega) (by omega)
  omega
theorem bmOk_nat {x : Bm} (h : bmOk x) : x.2.2.length = x.1.toNat * x.2.1.toNat := by
  obtain ⟨h1, h2, h3, -⟩ := h
  have : ((x.1.toNat * x.2.1.toNat : Nat) : Int) = x.1 * x.2.1 := by rw [Int.natCast_mul, Int.toNat_of_nonneg h1.1, Int.toNat_of_nonneg h2.1]
  omega

/-! ### Parse of Text -/
theorem rowsB_rev (W : Nat) (l : List Bool) (y : Nat) : (rowsB W l y).reverse.flatten = ((l.take (y * W))).map chrB := by
  induction y with
  | zero => simp [rowsB]
  | succ y ih =>
    simp only [rowsB, List.reverse_cons, List.flatten_append, ih, List.flatten_singleton]
    rw [Nat.add_mul, Nat.one_mul, List.take_add, List.map_append]
    rfl
theorem map_dot (l : List Bool) : (l.map chrB).map dotC = l := by
  induction l with
  | nil => rfl
  | cons p l ih =>
    simp only [List.map_cons]
    rw [dot_chr, ih]
theorem goodB {x : Bm} (h : bmOk x) (hW : 1 ≤ x.1) (hH : 1 ≤ x.2.1) : GoodR okB 96 (rowsB x.1.toNat x.2.2 x.2.1.toNat) ∧ bmR (rowsB x.1.toNat x.2.2 x.2.1.toNat) = x := by
  have hl := bmOk_nat h
  obtain ⟨h1, h2, h3, h4⟩ := h
  have hall := rowsB_all hl _ (Nat.le_refl _)
  obtain ⟨m, hm⟩ : ∃ m, x.2.1.toNat = m + 1 := ⟨x.2.1.toNat - 1, by omega⟩
  have hhead : ((rowsB x.1.toNat x.2.2 x.2.1.toNat).headD []).length = x.1.toNat := by
    rw [hm] at hall ⊢
    exact (hall _ (by simp [rowsB])).1
  refine ⟨⟨by rw [rowsB_len]; omega, by rw [hhead]; omega, fun r hr => by rw [hhead]; exact hall r hr⟩, ?_⟩
  unfold bmR dotsR
  rw [hhead, rowsB_len, rowsB_rev, map_dot, List.take_of_length_le (by rw [hl, Nat.mul_comm]; exact Nat.le_refl _)]
  obtain ⟨a, b, c⟩ := x
  simp only at h1 h2 ⊢
  rw [Int.toNat_of_nonneg h1.1, Int.toNat_of_nonneg h2.1]
theorem parse_textB {x : Bm} (h : bmOk x) (hW : 1 ≤ x.1) (hH : 1 ≤ x.2.1) : parseB (textB x) = (x, true) := by
  obtain ⟨hg, hi⟩ := goodB h hW hH
  unfold parseB textB
  rw [if_pos h, if_pos (isText_of hg rfl), rowsOf_join hg rfl, hi]

/-! ### Text of Parse -/
theorem map_chrB {l : List UInt8} (h : ∀ c ∈ l, okB c = true) : (l.map dotC).map chrB = l := by
  induction l with
  | nil => rfl
  | cons p l ih =>
    simp only [List.map_cons]
    rw [chr_dot (h p (by simp)), ih fun q hq => h q (List.mem_cons_of_mem _ hq)]
theorem rowsB_of {R : List (List UInt8)} {w : Nat} (h : ∀ r ∈ R, r.length = w ∧ ∀ c ∈ r, okB c = true) (y : Nat) (hy : y ≤ R.length) : rowsB w (dotsR R) y = R.drop (R.length - y) := by
  induction y with
  | zero => simp [rowsB]
  | succ y ih =>
    have hk : R.length - (y + 1) < R.length := by omega
    rw [rowsB, ih (by omega), List.drop_eq_getElem_cons hk]
    congr 1
    · unfold rowB dotsR
      have hr : R.reverse[y]? = some R[R.length - (y + 1)] := by
        rw [List.getElem?_reverse (by omega)]
        have : R.length - 1 - y = R.length - (y + 1) := by omega
        rw [this]
        exact List.getElem?_eq_getElem hk
      have h2 := flatten_rows (R := R.reverse) (w := w) (fun r hr => (h r (List.mem_reverse.1 hr)).1) hr
      rw [← List.map_drop, ← List.map_take, h2]
      exact map_chrB (h _ (List.getElem_mem hk)).2
    · congr 1
      omega
theorem bmR_ok {R : List (List UInt8)} (hg : GoodR okB 96 R) : bmOk (bmR R) := by
  obtain ⟨h1, h2, h3⟩ := hg
  have hlen : R.reverse.flatten.length = R.length * (R.headD []).length := by
    rw [len_flatten_rows (w := (R.headD []).length) (fun r hr => (h3 r (List.mem_reverse.1 hr)).1), List.length_reverse]
  refine ⟨by simp only [bmR]; omega, by simp only [bmR]; omega, ?_, trivial⟩
  · simp only [bmR, dotsR, List.length_map, hlen, Int.natCast_mul]
    exact Int.mul_comm _ _
theorem parseB_ok (s : List UInt8) : bmOk (parseB s).1 := by
  unfold parseB
  split
  · rename_i h; exact bmR_ok h.1
  · exact bmOk_zero
theorem text_bmR {R : List (List UInt8)} (hg : GoodR okB 96 R) : textB (bmR R) = join R := by
  unfold textB
  rw [if_pos (bmR_ok hg)]
  obtain ⟨h1, h2, h3⟩ := hg
  have := rowsB_of (R := R) (w := (R.headD []).length) h3 R.length (Nat.le_refl _)
  simp only [bmR, Int.toNat_natCast, this]
  simp
theorem text_parseB {s : List UInt8} (h : (parseB s).2 = true) : textB (parseB s).1 = s := by
  unfold parseB at h ⊢
  split
  · rename_i hs
    simp only
    rw [text_bmR hs.1, hs.2]
  · rename_i hs
    rw [if_neg hs] at h
    cases h
theorem parseB_false {s : List UInt8} (h : (parseB s).2 = false) : (parseB s).1 = zeroB := by
  unfold parseB at h ⊢
  split
  · rename_i hs; rw [if_pos hs] at h; cases h
  · rfl
end Go.Proofs.YtaafmgkjfmngjaaDoor
