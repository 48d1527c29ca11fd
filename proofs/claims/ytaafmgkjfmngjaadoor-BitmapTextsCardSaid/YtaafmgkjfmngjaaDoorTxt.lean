/-
  Texts of images, in plain words: Text and Parse of the package image. Of no program.
-/
import Derived.Test.YtaafmgkjfmngjaaDoorIm
import Derived.Test.YtaafmgkjfmngjaaDoorLines
namespace Go.Proofs.YtaafmgkjfmngjaaDoor
set_option linter.unusedVariables false

def chrI (p : Int) : UInt8 := if p = 0 then 46 else if p = 1 then 35 else 63
def okI (c : UInt8) : Bool := c == 46 || c == 35 || c == 63
def pixI (c : UInt8) : Int := if c = 46 then 0 else if c = 35 then 1 else 2
theorem okI_chr (p : Int) : okI (chrI p) = true := by unfold chrI; split <;> (try split) <;> rfl
theorem pix_chr {p : Int} (h : 0 ≤ p ∧ p ≤ 2) : pixI (chrI p) = p := by
  have : p = 0 ∨ p = 1 ∨ p = 2 := by omega
  rcases this with rfl | rfl | rfl <;> rfl
theorem chr_pix {c : UInt8} (h : okI c = true) : chrI (pixI c) = c := by
  simp only [okI, Bool.or_eq_true, beq_iff_eq] at h
  rcases h with (rfl | rfl) | rfl <;> rfl
theorem pixI_in (c : UInt8) : 0 ≤ pixI c ∧ pixI c ≤ 2 := by unfold pixI; split <;> (try split) <;> omega
def rowI (W : Nat) (l : List Int) (y : Nat) : List UInt8 := ((l.drop (y * W)).take W).map chrI
/-- The rows below y, the highest one first. -/
def rowsI (W : Nat) (l : List Int) : Nat → List (List UInt8)
  | 0 => []
  | y + 1 => rowI W l y :: rowsI W l y
def textM (x : Im) : List UInt8 := if imOk x then join (rowsI x.1.toNat x.2.2 x.2.1.toNat) else []
/-- The pixels of rows, the lowest one first. -/
def pxR (R : List (List UInt8)) : List Int := R.reverse.flatten.map pixI
def imgR (R : List (List UInt8)) : Im := ((R.headD []).length, R.length, pxR R)
def parseM (s : List UInt8) : Im × Bool := if isText okI 100 s then (imgR (rowsOf s), true) else (zeroI, false)

theorem rowI_len {W : Nat} {l : List Int} {y H : Nat} (hl : l.length = W * H) (hy : y < H) : (rowI W l y).length = W := by
  unfold rowI
  have h4 : (y + 1) * W ≤ H * W := Nat.mul_le_mul_right _ (by omega)
  rw [Nat.add_mul, Nat.one_mul, Nat.mul_comm H W] at h4
  simp
  omega
theorem rowsI_len (W : Nat) (l : List Int) (y : Nat) : (rowsI W l y).length = y := by
  induction y with
  | zero => rfl
  | succ y ih => simp [rowsI, ih]
theorem rowsI_all {W : Nat} {l : List Int} {H : Nat} (hl : l.length = W * H) (y : Nat) (hy : y ≤ H) : ∀ r ∈ rowsI W l y, r.length = W ∧ ∀ c ∈ r, okI c = true := by
  induction y with
  | zero => intro r h; cases h
  | succ y ih =>
    intro r hr
    rcases List.mem_cons.1 hr with rfl | hr
    · refine ⟨rowI_len hl (by omega), fun c hc => ?_⟩
      unfold rowI at hc
      obtain ⟨p, -, rfl⟩ := List.mem_map.1 hc
      exact okI_chr p
    · exact ih (by omega) r hr
theorem textM_len {x : Im} (h : imOk x) : (textM x).length ≤ 10100 := by
  unfold textM
  rw [if_pos h]
  obtain ⟨h1, h2, h3, -⟩ := h
  have hl : x.2.2.length = x.1.toNat * x.2.1.toNat := by
    have : ((x.1.toNat * x.2.1.toNat : Nat) : Int) = x.1 * x.2.1 := by rw [Int.natCast_mul, Int.toNat_of_nonneg h1.1, Int.toNat_of_nonneg h2.1]
    omega
  rw [join_len (w := x.1.toNat) (fun r hr => (rowsI_all hl _ (Nat.le_refl _) r hr).1), rowsI_len]
  have : x.2.1.toNat * (x.1.toNat + 1) ≤ 100 * 101 := Nat.mul_le_mul (by omega) (by omega)
  omega
theorem imOk_nat {x : Im} (h : imOk x) : x.2.2.length = x.1.toNat * x.2.1.toNat := by
  obtain ⟨h1, h2, h3, -⟩ := h
  have : ((x.1.toNat * x.2.1.toNat : Nat) : Int) = x.1 * x.2.1 := by rw [Int.natCast_mul, Int.toNat_of_nonneg h1.1, Int.toNat_of_nonneg h2.1]
  omega

/-! ### Parse of Text -/
theorem rowsI_rev (W : Nat) (l : List Int) (y : Nat) : (rowsI W l y).reverse.flatten = ((l.take (y * W))).map chrI := by
  induction y with
  | zero => simp [rowsI]
  | succ y ih =>
    simp only [rowsI, List.reverse_cons, List.flatten_append, ih, List.flatten_singleton]
    rw [Nat.add_mul, Nat.one_mul, List.take_add, List.map_append]
    rfl
theorem map_pix {l : List Int} (h : ∀ p ∈ l, 0 ≤ p ∧ p ≤ 2) : (l.map chrI).map pixI = l := by
  induction l with
  | nil => rfl
  | cons p l ih =>
    simp only [List.map_cons]
    rw [pix_chr (h p (by simp)), ih fun q hq => h q (List.mem_cons_of_mem _ hq)]
theorem goodI {x : Im} (h : imOk x) (hW : 1 ≤ x.1) (hH : 1 ≤ x.2.1) : GoodR okI 100 (rowsI x.1.toNat x.2.2 x.2.1.toNat) ∧ imgR (rowsI x.1.toNat x.2.2 x.2.1.toNat) = x := by
  have hl := imOk_nat h
  obtain ⟨h1, h2, h3, h4⟩ := h
  have hall := rowsI_all hl _ (Nat.le_refl _)
  obtain ⟨m, hm⟩ : ∃ m, x.2.1.toNat = m + 1 := ⟨x.2.1.toNat - 1, by omega⟩
  have hhead : ((rowsI x.1.toNat x.2.2 x.2.1.toNat).headD []).length = x.1.toNat := by
    rw [hm] at hall ⊢
    exact (hall _ (by simp [rowsI])).1
  refine ⟨⟨by rw [rowsI_len]; omega, by rw [hhead]; omega, fun r hr => by rw [hhead]; exact hall r hr⟩, ?_⟩
  unfold imgR pxR
  rw [hhead, rowsI_len, rowsI_rev, map_pix (fun p hp => h4 p (List.mem_of_mem_take hp)), List.take_of_length_le (by rw [hl, Nat.mul_comm]; exact Nat.le_refl _)]
  obtain ⟨a, b, c⟩ := x
  simp only at h1 h2 ⊢
  rw [Int.toNat_of_nonneg h1.1, Int.toNat_of_nonneg h2.1]
theorem parse_text {x : Im} (h : imOk x) (hW : 1 ≤ x.1) (hH : 1 ≤ x.2.1) : parseM (textM x) = (x, true) := by
  obtain ⟨hg, hi⟩ := goodI h hW hH
  unfold parseM textM
  rw [if_pos h, if_pos (isText_of hg rfl), rowsOf_join hg rfl, hi]

/-! ### Text of Parse -/
theorem flatten_rows {R : List (List UInt8)} {w : Nat} (h : ∀ r ∈ R, r.length = w) {y : Nat} {r : List UInt8} (hy : R[y]? = some r) : ((R.flatten).drop (y * w)).take w = r := by
  induction R generalizing y with
  | nil => cases hy
  | cons q R ih =>
    have hq := h q (by simp)
    cases y with
    | zero => simp at hy; subst hy; simp [hq]
    | succ y =>
      have := ih (fun p hp => h p (List.mem_cons_of_mem _ hp)) (y := y) (by simpa using hy)
      rw [← this]
      simp only [List.flatten_cons]
      have e : (y + 1) * w - q.length = y * w := by rw [hq, Nat.add_mul]; omega
      rw [List.drop_append, List.drop_of_length_le (by rw [hq, Nat.add_mul]; omega), List.nil_append, e]
theorem len_flatten_rows {R : List (List UInt8)} {w : Nat} (h : ∀ r ∈ R, r.length = w) : R.flatten.length = R.length * w := by
  induction R with
  | nil => simp
  | cons q R ih =>
    rw [List.flatten_cons, List.length_append, ih fun p hp => h p (List.mem_cons_of_mem _ hp), h q (by simp)]
    simp [Nat.add_mul]
    omega
theorem map_chr {l : List UInt8} (h : ∀ c ∈ l, okI c = true) : (l.map pixI).map chrI = l := by
  induction l with
  | nil => rfl
  | cons p l ih =>
    simp only [List.map_cons]
    rw [chr_pix (h p (by simp)), ih fun q hq => h q (List.mem_cons_of_mem _ hq)]
theorem rowsI_of {R : List (List UInt8)} {w : Nat} (h : ∀ r ∈ R, r.length = w ∧ ∀ c ∈ r, okI c = true) (y : Nat) (hy : y ≤ R.length) : rowsI w (pxR R) y = R.drop (R.length - y) := by
  induction y with
  | zero => simp [rowsI]
  | succ y ih =>
    have hk : R.length - (y + 1) < R.length := by omega
    rw [rowsI, ih (by omega), List.drop_eq_getElem_cons hk]
    congr 1
    · unfold rowI pxR
      have hr : R.reverse[y]? = some R[R.length - (y + 1)] := by
        rw [List.getElem?_reverse (by omega)]
        have : R.length - 1 - y = R.length - (y + 1) := by omega
        rw [this]
        exact List.getElem?_eq_getElem hk
      have h2 := flatten_rows (R := R.reverse) (w := w) (fun r hr => (h r (List.mem_reverse.1 hr)).1) hr
      rw [← List.map_drop, ← List.map_take, h2]
      exact map_chr (h _ (List.getElem_mem hk)).2
    · congr 1
      omega
theorem imgR_ok {R : List (List UInt8)} (hg : GoodR okI 100 R) : imOk (imgR R) := by
  obtain ⟨h1, h2, h3⟩ := hg
  have hlen : R.reverse.flatten.length = R.length * (R.headD []).length := by
    rw [len_flatten_rows (w := (R.headD []).length) (fun r hr => (h3 r (List.mem_reverse.1 hr)).1), List.length_reverse]
  refine ⟨by simp only [imgR]; omega, by simp only [imgR]; omega, ?_, fun p hp => ?_⟩
  · simp only [imgR, pxR, List.length_map, hlen, Int.natCast_mul]
    exact Int.mul_comm _ _
  · simp only [imgR, pxR, List.mem_map] at hp
    obtain ⟨c, -, rfl⟩ := hp
    exact pixI_in c
theorem parseM_ok (s : List UInt8) : imOk (parseM s).1 := by
  unfold parseM
  split
  · rename_i h; exact imgR_ok h.1
  · exact imOk_zero
theorem text_imgR {R : List (List UInt8)} (hg : GoodR okI 100 R) : textM (imgR R) = join R := by
  unfold textM
  rw [if_pos (imgR_ok hg)]
  obtain ⟨h1, h2, h3⟩ := hg
  have := rowsI_of (R := R) (w := (R.headD []).length) h3 R.length (Nat.le_refl _)
  simp only [imgR, Int.toNat_natCast, this]
  simp
theorem text_parse {s : List UInt8} (h : (parseM s).2 = true) : textM (parseM s).1 = s := by
  unfold parseM at h ⊢
  split
  · rename_i hs
    simp only
    rw [text_imgR hs.1, hs.2]
  · rename_i hs
    rw [if_neg hs] at h
    cases h
theorem parseM_false {s : List UInt8} (h : (parseM s).2 = false) : (parseM s).1 = zeroI := by
  unfold parseM at h ⊢
  split
  · rename_i hs; rw [if_pos hs] at h; cases h
  · rfl
end Go.Proofs.YtaafmgkjfmngjaaDoor
