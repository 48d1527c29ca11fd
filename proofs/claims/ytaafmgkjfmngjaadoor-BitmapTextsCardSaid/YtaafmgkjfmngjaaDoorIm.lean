/-
  Bitmaps and images in plain words: what the functions of the packages bitmap and image compute, and their references. Of no program.
-/
import Derived.WalkKit
namespace Go.Proofs.YtaafmgkjfmngjaaDoor
set_option linter.unusedVariables false

/-- Width, height, dots. -/
abbrev Bm := Int × Int × List Bool
/-- Width, height, pixels. -/
abbrev Im := Int × Int × List Int

/-! ### How many places of a list meet a condition -/
def cnt (f : Nat → Bool) : Nat → Nat
  | 0 => 0
  | k + 1 => cnt f k + if f k then 1 else 0
theorem cnt_le (f : Nat → Bool) (n : Nat) : cnt f n ≤ n := by
  induction n with
  | zero => exact Nat.le_refl _
  | succ n ih => unfold cnt; split <;> omega
theorem cnt_mono {f g : Nat → Bool} {n : Nat} (h : ∀ k, k < n → f k = true → g k = true) : cnt f n ≤ cnt g n := by
  induction n with
  | zero => exact Nat.le_refl _
  | succ n ih =>
    have := ih fun k hk => h k (by omega)
    have h0 := h n (by omega)
    unfold cnt
    cases hf : f n with
    | false => simp; omega
    | true => rw [h0 hf]; simp; omega
theorem cnt_congr {f g : Nat → Bool} {n : Nat} (h : ∀ k, k < n → f k = g k) : cnt f n = cnt g n :=
  Nat.le_antisymm (cnt_mono fun k hk e => by rw [← h k hk]; exact e) (cnt_mono fun k hk e => by rw [h k hk]; exact e)
theorem cnt_zero {f : Nat → Bool} {n : Nat} (h : ∀ k, k < n → f k = false) : cnt f n = 0 := by
  induction n with
  | zero => rfl
  | succ n ih => unfold cnt; rw [ih fun k hk => h k (by omega), h n (by omega)]; rfl
theorem cnt_all {f : Nat → Bool} {n : Nat} (h : ∀ k, k < n → f k = true) : cnt f n = n := by
  induction n with
  | zero => rfl
  | succ n ih => unfold cnt; rw [ih fun k hk => h k (by omega), h n (by omega)]; rfl
theorem cnt_split (f g : Nat → Bool) (n : Nat) : cnt f n = cnt (fun k => f k && g k) n + cnt (fun k => f k && !g k) n := by
  induction n with
  | zero => rfl
  | succ n ih =>
    have key : ∀ a b : Bool, (if a = true then 1 else 0) = (if (a && b) = true then 1 else 0) + (if (a && !b) = true then 1 else 0) := by decide
    have := key (f n) (g n)
    have e1 : cnt (fun k => f k && g k) (n + 1) = cnt (fun k => f k && g k) n + if (f n && g n) = true then 1 else 0 := rfl
    have e2 : cnt (fun k => f k && !g k) (n + 1) = cnt (fun k => f k && !g k) n + if (f n && !g n) = true then 1 else 0 := rfl
    have e3 : cnt f (n + 1) = cnt f n + if f n = true then 1 else 0 := rfl
    omega
theorem cnt_lt {f : Nat → Bool} {n : Nat} (h : cnt f n < n) : ∃ k, k < n ∧ f k = false := by
  refine Decidable.byContradiction fun hc => ?_
  have : cnt f n = n := cnt_all fun k hk => by
    cases hf : f k with
    | true => rfl
    | false => exact absurd ⟨k, hk, hf⟩ hc
  omega

/-! ### Bitmaps -/
def sideOk (n : Int) : Bool := decide (0 ≤ n ∧ n ≤ 96)
/-- Check: the error. -/
def bmE (b : Bm) : Int := if sideOk b.1 = true ∧ sideOk b.2.1 = true then (if (b.2.2.length : Int) = b.1 * b.2.1 then 0 else 5) else 13
def hasB (b : Bm) (x y : Int) : Bool := decide (0 ≤ x ∧ x < b.1 ∧ 0 ≤ y ∧ y < b.2.1) && (b.2.2[(y * b.1 + x).toNat]?).getD false
def getB (b : Bm) (x y : Int) : Bool := decide (bmE b = 0) && hasB b x y
/-- What Check means where it finds no error. -/
theorem bmE_ok {b : Bm} (h : bmE b = 0) : (0 ≤ b.1 ∧ b.1 ≤ 96) ∧ (0 ≤ b.2.1 ∧ b.2.1 ≤ 96) ∧ (b.2.2.length : Int) = b.1 * b.2.1 := by
  unfold bmE at h
  split at h
  · rename_i hs
    split at h
    · rename_i hl
      simp [sideOk] at hs
      exact ⟨hs.1, hs.2, hl⟩
    · cases h
  · cases h
theorem bmE_eq {b : Bm} (h1 : 0 ≤ b.1 ∧ b.1 ≤ 96) (h2 : 0 ≤ b.2.1 ∧ b.2.1 ≤ 96) (h3 : (b.2.2.length : Int) = b.1 * b.2.1) : bmE b = 0 := by
  unfold bmE
  rw [if_pos (by simp [sideOk]; omega), if_pos h3]
theorem bmE_in (b : Bm) : bmE b = 0 ∨ bmE b = 5 ∨ bmE b = 13 := by unfold bmE; split <;> (try split) <;> simp

/-! ### Places of a grid -/
theorem grid_lt {x y W H : Int} (hx : 0 ≤ x ∧ x < W) (hy : 0 ≤ y ∧ y < H) : 0 ≤ y * W + x ∧ y * W + x < W * H := by
  have h1 : 0 ≤ y * W := Int.mul_nonneg hy.1 (by omega)
  have h2 : (y + 1) * W ≤ H * W := Int.mul_le_mul_of_nonneg_right (by omega) (by omega)
  rw [Int.add_mul, Int.one_mul] at h2
  rw [Int.mul_comm W H]
  omega
theorem grid_mod {x y W : Int} (hx : 0 ≤ x ∧ x < W) : (y * W + x) % W = x ∧ (y * W + x) / W = y := by
  constructor
  · rw [Int.add_comm, Int.add_mul_emod_self_right]; exact Int.emod_eq_of_lt hx.1 hx.2
  · rw [Int.add_comm, Int.add_mul_ediv_right _ _ (by omega), Int.ediv_eq_zero_of_lt hx.1 hx.2]; omega
theorem grid_of {k W H : Int} (h0 : 0 ≤ k) (h : k < W * H) (hW : 0 < W) : (0 ≤ k % W ∧ k % W < W) ∧ (0 ≤ k / W ∧ k / W < H) ∧ (k / W) * W + k % W = k := by
  refine ⟨⟨Int.emod_nonneg _ (by omega), Int.emod_lt_of_pos _ hW⟩, ⟨Int.ediv_nonneg h0 (by omega), ?_⟩, by rw [Int.mul_comm]; exact Int.mul_ediv_add_emod k W⟩
  exact Int.ediv_lt_of_lt_mul hW (by rw [Int.mul_comm]; exact h)
theorem grid_pos {k W H : Int} (h0 : 0 ≤ k) (h : k < W * H) (hW : 0 ≤ W) : 0 < W := by
  rcases Int.lt_or_eq_of_le hW with h1 | h1
  · exact h1
  · rw [← h1, Int.zero_mul] at h; omega

/-! ### Images -/
def imOk (x : Im) : Prop := (0 ≤ x.1 ∧ x.1 ≤ 100) ∧ (0 ≤ x.2.1 ∧ x.2.1 ≤ 100) ∧ (x.2.2.length : Int) = x.1 * x.2.1 ∧ ∀ p ∈ x.2.2, 0 ≤ p ∧ p ≤ 2
instance (x : Im) : Decidable (imOk x) := by unfold imOk; infer_instance
def imE (x : Im) : Int := if imOk x then 0 else 50
theorem imE_ok {x : Im} : imE x = 0 ↔ imOk x := by unfold imE; split <;> simp_all
def shiftOk (dx dy : Int) : Prop := (-2 ≤ dx ∧ dx ≤ 2) ∧ -2 ≤ dy ∧ dy ≤ 2
instance (dx dy : Int) : Decidable (shiftOk dx dy) := by unfold shiftOk; infer_instance
def zeroI : Im := (0, 0, [])
theorem imOk_zero : imOk zeroI := ⟨by simp [zeroI], by simp [zeroI], by simp [zeroI], by simp [zeroI]⟩
/-- The pixel at place k of the frame of a bitmap at a shift. -/
def putP (b : Bm) (dx dy : Int) (k : Int) : Int := if getB b (k % (b.1 + 4) - 2 - dx) (k / (b.1 + 4) - 2 - dy) = true then 1 else 0
def frameN (b : Bm) : Nat := ((b.1 + 4) * (b.2.1 + 4)).toNat
def putL (b : Bm) (dx dy : Int) : List Int := (List.range (frameN b)).map fun (k : Nat) => putP b dx dy (k : Int)
def putM (b : Bm) (dx dy : Int) : Im × Int := if bmE b ≠ 0 then (zeroI, bmE b) else if shiftOk dx dy then ((b.1 + 4, b.2.1 + 4, putL b dx dy), 0) else (zeroI, 3)
def hideP (W from' till : Int) (k p : Int) : Int := if from' ≤ k % W ∧ k % W < till then 2 else p
def hideL (W from' till : Int) (px : List Int) : List Int := px.mapIdx fun k p => hideP W from' till k p
def hideM (x : Im) (from' till : Int) : Im := if imOk x then (x.1, x.2.1, hideL x.1 from' till x.2.2) else zeroI
def px (l : List Int) (k : Nat) : Int := (l[k]?).getD 0
def knP (_ : Nat) (x : Int) : Bool := decide (x ≠ 2)
def knownN (l : List Int) : Nat := cnt (fun k => knP k (px l k)) l.length
def knownM (x : Im) : Int := if imOk x then knownN x.2.2 else 0
def lostP (f : List Int) (k : Nat) (x : Int) : Bool := decide (x = 0) && decide (px f k = 1)
def blotP (f : List Int) (k : Nat) (x : Int) : Bool := decide (x = 1) && decide (px f k = 0)
def lostN (l f : List Int) : Nat := cnt (fun k => lostP f k (px l k)) l.length
def blotN (l f : List Int) : Nat := cnt (fun k => blotP f k (px l k)) l.length
def fitOk (x : Im) (b : Bm) (dx dy : Int) : Prop := bmE b = 0 ∧ shiftOk dx dy ∧ imOk x ∧ x.1 = b.1 + 4 ∧ x.2.1 = b.2.1 + 4
instance (x : Im) (b : Bm) (dx dy : Int) : Decidable (fitOk x b dx dy) := by unfold fitOk; infer_instance
def fitsM (x : Im) (b : Bm) (dx dy : Int) : Int × Int × Bool := if fitOk x b dx dy then ((lostN x.2.2 (putL b dx dy) : Int), (blotN x.2.2 (putL b dx dy) : Int), true) else (0, 0, false)

theorem px_get {l : List Int} {k : Nat} {p : Int} (h : l[k]? = some p) : px l k = p := by unfold px; rw [h]; rfl
theorem putL_len (b : Bm) (dx dy : Int) : (putL b dx dy).length = frameN b := by simp [putL]
theorem putL_get {b : Bm} {dx dy : Int} {k : Nat} (h : k < frameN b) : (putL b dx dy)[k]? = some (putP b dx dy k) := by simp [putL, h]
theorem frame_len {b : Bm} (h : bmE b = 0) : (frameN b : Int) = (b.1 + 4) * (b.2.1 + 4) := by
  obtain ⟨h1, h2, -⟩ := bmE_ok h
  unfold frameN
  have : 0 ≤ (b.1 + 4) * (b.2.1 + 4) := Int.mul_nonneg (by omega) (by omega)
  omega
theorem frame_le {b : Bm} (h : bmE b = 0) : frameN b ≤ 10000 := by
  obtain ⟨h1, h2, -⟩ := bmE_ok h
  have h3 := frame_len h
  have h4 : (b.1 + 4) * (b.2.1 + 4) ≤ 100 * 100 := Int.mul_le_mul (by omega) (by omega) (by omega) (by omega)
  omega
theorem putP_in (b : Bm) (dx dy k : Int) : 0 ≤ putP b dx dy k ∧ putP b dx dy k ≤ 1 := by unfold putP; split <;> omega
theorem putL_ok {b : Bm} {dx dy : Int} (h : bmE b = 0) : imOk (b.1 + 4, b.2.1 + 4, putL b dx dy) := by
  obtain ⟨h1, h2, -⟩ := bmE_ok h
  refine ⟨by simp only; omega, by simp only; omega, by simp only [putL_len, frame_len h], fun p hp => ?_⟩
  simp only [putL, List.mem_map] at hp
  obtain ⟨k, -, rfl⟩ := hp
  have := putP_in b dx dy k
  omega
theorem putM_ok {b : Bm} {dx dy : Int} (h : bmE b = 0) (hs : shiftOk dx dy) : putM b dx dy = ((b.1 + 4, b.2.1 + 4, putL b dx dy), 0) := by unfold putM; rw [if_neg (by simp [h]), if_pos hs]
theorem putM_imOk (b : Bm) (dx dy : Int) : imOk (putM b dx dy).1 := by
  unfold putM
  split
  · exact imOk_zero
  · rename_i h
    split
    · exact putL_ok (by simpa using h)
    · exact imOk_zero
theorem putM_len (b : Bm) (dx dy : Int) : (putM b dx dy).1.2.2.length ≤ 10000 := by
  unfold putM
  split
  · simp [zeroI]
  · rename_i h
    split
    · simp only [putL_len]; exact frame_le (by simpa using h)
    · simp [zeroI]
theorem imOk_len {x : Im} (h : imOk x) : x.2.2.length ≤ 10000 := by
  obtain ⟨h1, h2, h3, -⟩ := h
  have h4 : x.1 * x.2.1 ≤ 100 * 100 := Int.mul_le_mul (by omega) (by omega) (by omega) (by omega)
  omega
theorem hideL_len (W f t : Int) (l : List Int) : (hideL W f t l).length = l.length := by simp [hideL]
theorem hideL_get {W f t : Int} {l : List Int} {k : Nat} {p : Int} (h : l[k]? = some p) : (hideL W f t l)[k]? = some (hideP W f t k p) := by simp [hideL, h]
theorem hideP_in {W f t k p : Int} (h : 0 ≤ p ∧ p ≤ 2) : 0 ≤ hideP W f t k p ∧ hideP W f t k p ≤ 2 := by unfold hideP; split <;> omega
theorem hideL_ok {x : Im} {f t : Int} (h : imOk x) : imOk (x.1, x.2.1, hideL x.1 f t x.2.2) := by
  refine ⟨h.1, h.2.1, by rw [hideL_len]; exact h.2.2.1, fun p hp => ?_⟩
  obtain ⟨k, hk⟩ := List.mem_iff_getElem?.1 hp
  have hl := (List.getElem?_eq_some_iff.1 hk).1
  simp only [hideL_len] at hl
  have hq := List.getElem?_eq_getElem hl
  rw [hideL_get hq] at hk
  injection hk with hk
  rw [← hk]
  exact hideP_in (h.2.2.2 _ (List.getElem_mem hl))
theorem hideM_ok (x : Im) (f t : Int) : imOk (hideM x f t) := by
  unfold hideM
  split
  · rename_i h; exact hideL_ok h
  · exact imOk_zero

/-! ### Put by dots: the dots of the bitmap one after the other -/
/-- Where the dot k lies in the frame. -/
def putAt (b : Bm) (dx dy : Int) (k : Int) : Int := (k / b.1 + 2 + dy) * (b.1 + 4) + k % b.1 + 2 + dx
/-- The frame behind the first k dots. -/
def putS (b : Bm) (dx dy : Int) : Nat → List Int
  | 0 => List.replicate (frameN b) 0
  | k + 1 => if (b.2.2[k]?).getD false = true then (putS b dx dy k).set (putAt b dx dy k).toNat 1 else putS b dx dy k
theorem putS_len (b : Bm) (dx dy : Int) (k : Nat) : (putS b dx dy k).length = frameN b := by
  induction k with
  | zero => simp [putS]
  | succ k ih => unfold putS; split <;> simp [ih]
theorem putAt_in {b : Bm} {dx dy : Int} (h : bmE b = 0) (hs : shiftOk dx dy) {k : Nat} (hk : k < b.2.2.length) :
    0 < b.1 ∧ (0 ≤ (k : Int) / b.1 ∧ (k : Int) / b.1 < b.2.1) ∧ (0 ≤ (k : Int) % b.1 ∧ (k : Int) % b.1 < b.1) ∧ 0 ≤ putAt b dx dy k ∧ putAt b dx dy k < (b.1 + 4) * (b.2.1 + 4) ∧ (putAt b dx dy k).toNat < frameN b ∧
    putAt b dx dy k % (b.1 + 4) = (k : Int) % b.1 + 2 + dx ∧ putAt b dx dy k / (b.1 + 4) = (k : Int) / b.1 + 2 + dy := by
  obtain ⟨h1, h2, h3⟩ := bmE_ok h
  obtain ⟨⟨s1, s2⟩, s3, s4⟩ := hs
  have hp := grid_pos (k := (k : Int)) (W := b.1) (H := b.2.1) (by omega) (by omega) h1.1
  obtain ⟨g1, g2, g3⟩ := grid_of (k := (k : Int)) (W := b.1) (H := b.2.1) (by omega) (by omega) hp
  have e : putAt b dx dy k = ((k : Int) / b.1 + 2 + dy) * (b.1 + 4) + ((k : Int) % b.1 + 2 + dx) := by unfold putAt; omega
  have gl := grid_lt (x := (k : Int) % b.1 + 2 + dx) (y := (k : Int) / b.1 + 2 + dy) (W := b.1 + 4) (H := b.2.1 + 4) (by omega) (by omega)
  have gm := grid_mod (x := (k : Int) % b.1 + 2 + dx) (y := (k : Int) / b.1 + 2 + dy) (W := b.1 + 4) (by omega)
  rw [← e] at gl gm
  have hf := frame_len h
  exact ⟨hp, g2, g1, gl.1, gl.2, by omega, gm.1, gm.2⟩
/-- What lies at a place: a dot out of the first k. -/
theorem putS_get {b : Bm} {dx dy : Int} (h : bmE b = 0) (hs : shiftOk dx dy) {m : Nat} (hm : m < frameN b) (k : Nat) (hk : k ≤ b.2.2.length) :
    (putS b dx dy k)[m]? = some (if ∃ j, j < k ∧ (b.2.2[j]?).getD false = true ∧ (putAt b dx dy j).toNat = m then 1 else 0) := by
  induction k with
  | zero =>
    rw [if_neg (by rintro ⟨j, hj, -⟩; omega)]
    simp [putS, hm]
  | succ k ih =>
    have ih := ih (by omega)
    unfold putS
    split
    · rename_i hd
      by_cases e : (putAt b dx dy k).toNat = m
      · rw [if_pos ⟨k, by omega, hd, e⟩, e, List.getElem?_set_self (by rw [putS_len]; exact hm)]
      · rw [List.getElem?_set_ne e, ih]
        congr 1
        by_cases hx : ∃ j, j < k ∧ (b.2.2[j]?).getD false = true ∧ (putAt b dx dy j).toNat = m
        · obtain ⟨j, h1, h2⟩ := hx
          rw [if_pos ⟨j, h1, h2⟩, if_pos ⟨j, by omega, h2⟩]
        · rw [if_neg hx, if_neg]
          rintro ⟨j, h1, h2, h3⟩
          by_cases ej : j = k
          · subst ej; exact e h3
          · exact hx ⟨j, by omega, h2, h3⟩
    · rename_i hd
      rw [ih]
      congr 1
      by_cases hx : ∃ j, j < k ∧ (b.2.2[j]?).getD false = true ∧ (putAt b dx dy j).toNat = m
      · obtain ⟨j, h1, h2⟩ := hx
        rw [if_pos ⟨j, h1, h2⟩, if_pos ⟨j, by omega, h2⟩]
      · rw [if_neg hx, if_neg]
        rintro ⟨j, h1, h2, h3⟩
        by_cases ej : j = k
        · subst ej; exact hd h2
        · exact hx ⟨j, by omega, h2, h3⟩
theorem hasB_iff {b : Bm} (h : bmE b = 0) (x y : Int) : hasB b x y = true ↔ ∃ j, j < b.2.2.length ∧ (b.2.2[j]?).getD false = true ∧ (j : Int) % b.1 = x ∧ (j : Int) / b.1 = y ∧ 0 < b.1 := by
  obtain ⟨h1, h2, h3⟩ := bmE_ok h
  unfold hasB
  simp only [Bool.and_eq_true, decide_eq_true_eq]
  constructor
  · rintro ⟨⟨x0, x1, y0, y1⟩, hd⟩
    have hg := grid_lt (x := x) (y := y) (W := b.1) (H := b.2.1) ⟨x0, x1⟩ ⟨y0, y1⟩
    have hm := grid_mod (x := x) (y := y) (W := b.1) ⟨x0, x1⟩
    refine ⟨(y * b.1 + x).toNat, by omega, hd, ?_, ?_, by omega⟩
    · rw [Int.toNat_of_nonneg hg.1]; exact hm.1
    · rw [Int.toNat_of_nonneg hg.1]; exact hm.2
  · rintro ⟨j, hj, hd, ex, ey, hp⟩
    obtain ⟨g1, g2, g3⟩ := grid_of (k := (j : Int)) (W := b.1) (H := b.2.1) (by omega) (by omega) hp
    rw [ex, ey] at g3
    rw [ex] at g1
    rw [ey] at g2
    refine ⟨⟨g1.1, g1.2, g2.1, g2.2⟩, ?_⟩
    rw [g3]
    simpa using hd
theorem putS_done {b : Bm} {dx dy : Int} (h : bmE b = 0) (hs : shiftOk dx dy) : putS b dx dy b.2.2.length = putL b dx dy := by
  apply List.ext_getElem?
  intro m
  by_cases hm : m < frameN b
  · rw [putS_get h hs hm _ (Nat.le_refl _), putL_get hm]
    congr 1
    unfold putP getB
    have hE : decide (bmE b = 0) = true := by simp [h]
    rw [hE, Bool.true_and]
    have hh := hasB_iff h ((m : Int) % (b.1 + 4) - 2 - dx) ((m : Int) / (b.1 + 4) - 2 - dy)
    obtain ⟨b1, b2, b3⟩ := bmE_ok h
    by_cases hx : ∃ j, j < b.2.2.length ∧ (b.2.2[j]?).getD false = true ∧ (putAt b dx dy j).toNat = m
    · obtain ⟨j, h1, h2, h3⟩ := hx
      rw [if_pos ⟨j, h1, h2, h3⟩, if_pos]
      obtain ⟨p0, p1, p2, p3, p4, p5, p6, p7⟩ := putAt_in h hs h1
      refine hh.2 ⟨j, h1, h2, ?_, ?_, p0⟩
      · have : (m : Int) = putAt b dx dy j := by omega
        rw [this, p6]; omega
      · have : (m : Int) = putAt b dx dy j := by omega
        rw [this, p7]; omega
    · rw [if_neg hx, if_neg]
      intro hc
      obtain ⟨j, h1, h2, h3, h4, h5⟩ := hh.1 hc
      apply hx
      refine ⟨j, h1, h2, ?_⟩
      have e : putAt b dx dy j = m := by
        have hg := grid_of (k := (m : Int)) (W := b.1 + 4) (H := b.2.1 + 4) (by omega) (by have := frame_len h; omega) (by omega)
        unfold putAt
        rw [h3, h4]
        have := hg.2.2
        have e2 : ((m : Int) / (b.1 + 4) - 2 - dy + 2 + dy) = (m : Int) / (b.1 + 4) := by omega
        rw [e2]
        omega
      omega
  · rw [List.getElem?_eq_none (by rw [putS_len]; omega), List.getElem?_eq_none (by rw [putL_len]; omega)]
end Go.Proofs.YtaafmgkjfmngjaaDoor
