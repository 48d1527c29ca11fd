/-
  Scripts, symbols, ranges and runs of a string, in plain words. Plain lemmas, of no program.
-/
import Derived.Test.YtnibgjpbijlhbaaDoorNo
namespace Go.Proofs.YtnibgjpbijlhbaaDoor
set_option linter.unusedVariables false

def scr (c : UInt8) : Nat := if 97 ≤ c.toNat ∧ c.toNat ≤ 122 then 1 else if 48 ≤ c.toNat ∧ c.toNat ≤ 57 then 2 else if c.toNat = 45 then 3 else 0
def sym (c : UInt8) : Int := if 97 ≤ c.toNat ∧ c.toNat ≤ 122 then c.toNat - 97 else if 48 ≤ c.toNat ∧ c.toNat ≤ 57 then c.toNat - 22 else if c.toNat = 45 then 36 else -1
theorem scr_two (c : UInt8) : scr c = 2 ↔ isD c = true := by
  unfold scr isD
  rw [decide_eq_true_eq]
  split
  · constructor
    · intro h; cases h
    · intro h; omega
  · split
    · simp; assumption
    · split <;> simp <;> omega
theorem scr_le (c : UInt8) : scr c ≤ 3 := by unfold scr; split <;> (try split) <;> (try split) <;> omega
theorem sym_none (c : UInt8) : sym c = -1 ↔ scr c = 0 := by
  unfold sym scr
  split
  · simp; omega
  · split
    · simp; omega
    · split <;> simp
theorem sym_lt (c : UInt8) : sym c < 37 := by unfold sym; split <;> (try split) <;> (try split) <;> omega
theorem sym_inj {a b : UInt8} (h : sym a = sym b) (hn : sym a ≠ -1) : a = b := by
  apply UInt8.toNat_inj.1
  have ha := UInt8.toNat_lt a
  have hb := UInt8.toNat_lt b
  unfold sym at h hn
  split at h <;> split at h <;> (try split at h) <;> (try split at h) <;> (try split at h) <;> (try split at h) <;> simp_all <;> omega

/-! ### Ranges -/
def at0 (s : List UInt8) (k : Nat) : UInt8 := s.getD k 0
theorem at0_get {s : List UInt8} {k : Nat} {c : UInt8} (h : s[k]? = some c) : at0 s k = c := by simp [at0, List.getD_eq_getElem?_getD, h]
/-- The ranges that end at k or before it, and where the next one begins. -/
def rngTo (goes : UInt8 → UInt8 → Bool) (s : List UInt8) : Nat → List (Nat × Nat) × Nat
  | 0 => ([], 0)
  | k + 1 => if k + 1 < s.length ∧ goes (at0 s k) (at0 s (k + 1)) = true then rngTo goes s k else ((rngTo goes s k).1 ++ [((rngTo goes s k).2, k + 1)], k + 1)
theorem rngTo_go {goes : UInt8 → UInt8 → Bool} {s : List UInt8} {k : Nat} (h : k + 1 < s.length) (hg : goes (at0 s k) (at0 s (k + 1)) = true) : rngTo goes s (k + 1) = rngTo goes s k := by rw [rngTo, if_pos ⟨h, hg⟩]
theorem rngTo_cut {goes : UInt8 → UInt8 → Bool} {s : List UInt8} {k : Nat} (h : ¬ (k + 1 < s.length ∧ goes (at0 s k) (at0 s (k + 1)) = true)) : rngTo goes s (k + 1) = ((rngTo goes s k).1 ++ [((rngTo goes s k).2, k + 1)], k + 1) := by rw [rngTo, if_neg h]
def ranges (goes : UInt8 → UInt8 → Bool) (s : List UInt8) : List (Nat × Nat) := (rngTo goes s s.length).1
theorem rngTo_le (goes : UInt8 → UInt8 → Bool) (s : List UInt8) : ∀ k, (rngTo goes s k).2 ≤ k
  | 0 => Nat.le_refl _
  | k + 1 => by
    have := rngTo_le goes s k
    rw [rngTo]
    split
    · omega
    · exact Nat.le_refl _
theorem rngTo_len (goes : UInt8 → UInt8 → Bool) (s : List UInt8) : ∀ k, (rngTo goes s k).1.length ≤ k
  | 0 => Nat.le_refl _
  | k + 1 => by
    have := rngTo_len goes s k
    rw [rngTo]
    split
    · omega
    · simp; omega
/-- Within a range each byte goes on with the one before it. -/
theorem rngTo_in (goes : UInt8 → UInt8 → Bool) (s : List UInt8) : ∀ k j, (rngTo goes s k).2 ≤ j → j < k → goes (at0 s j) (at0 s (j + 1)) = true
  | 0, _, _, h => absurd h (Nat.not_lt_zero _)
  | k + 1, j, h1, h2 => by
    rw [rngTo] at h1
    split at h1
    · rename_i hc
      rcases Nat.lt_or_ge j k with h | h
      · exact rngTo_in goes s k j h1 h
      · rw [show j = k by omega]; exact hc.2
    · simp only at h1; omega
def sub (s : List UInt8) (a b : Nat) : List UInt8 := (s.drop a).take (b - a)

/-! ### Pieces -/
def goesD (x y : UInt8) : Bool := decide (scr x = 2) && decide (scr y = 2)
theorem goesD_iff (x y : UInt8) : goesD x y = true ↔ isD x = true ∧ isD y = true := by
  unfold goesD
  rw [Bool.and_eq_true, decide_eq_true_eq, decide_eq_true_eq, scr_two, scr_two]
/-- The piece of a range. -/
def pcOf (s : List UInt8) (r : Nat × Nat) : Pc := if isD (at0 s r.1) = true then numP (sub s r.1 r.2) else (true, 0, sub s r.1 r.2)
theorem drop_at {s : List UInt8} {k : Nat} (h : k < s.length) : s.drop k = at0 s k :: s.drop (k + 1) := by
  rw [List.drop_eq_getElem_cons h]
  congr 1
  simp [at0, List.getD_eq_getElem?_getD, h]
theorem tw_range : ∀ (n : Nat) (s : List UInt8) (a : Nat), a + n ≤ s.length → (∀ j, a ≤ j → j < a + n → isD (at0 s j) = true) → (a + n < s.length → isD (at0 s (a + n)) = false) →
    (s.drop a).takeWhile isD = sub s a (a + n) ∧ (s.drop a).dropWhile isD = s.drop (a + n)
  | 0, s, a, h1, h2, h3 => by
    rw [Nat.add_zero] at h1 h3 ⊢
    rcases Nat.lt_or_ge a s.length with h | h
    · have := h3 h
      rw [drop_at h]
      rw [List.takeWhile_cons, if_neg (by simp [this]), List.dropWhile_cons, if_neg (by simp [this])]
      simp [sub]
    · rw [List.drop_of_length_le h]
      simp [sub]
  | n + 1, s, a, h1, h2, h3 => by
    have ih := tw_range n s (a + 1) (by omega) (fun j hj1 hj2 => h2 j (by omega) (by omega)) (fun h => by have := h3 (by omega); rwa [show a + 1 + n = a + (n + 1) by omega])
    rw [show a + 1 + n = a + (n + 1) by omega] at ih
    have ha := h2 a (Nat.le_refl _) (by omega)
    have hl : a < s.length := by omega
    have hs : sub s a (a + (n + 1)) = at0 s a :: sub s (a + 1) (a + (n + 1)) := by
      unfold sub
      rw [drop_at hl, show a + (n + 1) - a = (a + (n + 1) - (a + 1)) + 1 by omega, List.take_succ_cons]
    rw [hs]
    constructor
    · rw [drop_at hl, List.takeWhile_cons, if_pos ha, ih.1]
    · rw [drop_at hl, List.dropWhile_cons, if_pos ha, ih.2]
theorem pcs_cut {s : List UInt8} {a n : Nat} (hn : 1 ≤ n) (h1 : a + n ≤ s.length) (hd : isD (at0 s a) = true) (h2 : ∀ j, a ≤ j → j < a + n → isD (at0 s j) = true) (h3 : a + n < s.length → isD (at0 s (a + n)) = false) :
    pcs (s.drop a) = numP (sub s a (a + n)) :: pcs (s.drop (a + n)) := by
  obtain ⟨e1, e2⟩ := tw_range n s a h1 h2 h3
  have hl : a < s.length := by omega
  rw [drop_at hl] at e1 e2 ⊢
  rw [List.takeWhile_cons, if_pos hd] at e1
  rw [List.dropWhile_cons, if_pos hd] at e2
  rw [pcs, if_pos hd, e1, e2]
theorem pcs_other {s : List UInt8} {a : Nat} (h : a < s.length) (hd : isD (at0 s a) = false) : pcs (s.drop a) = (true, 0, sub s a (a + 1)) :: pcs (s.drop (a + 1)) := by
  rw [drop_at h, pcs, if_neg (by simp [hd])]
  congr 2
  unfold sub
  rw [drop_at h]
  simp
theorem pcs_rng (s : List UInt8) : ∀ k, k ≤ s.length → pcs s = (rngTo goesD s k).1.map (pcOf s) ++ pcs (s.drop (rngTo goesD s k).2)
  | 0, _ => by simp [rngTo]
  | k + 1, hk => by
    have ih := pcs_rng s k (by omega)
    have hle := rngTo_le goesD s k
    have hin := rngTo_in goesD s k
    by_cases hc : k + 1 < s.length ∧ goesD (at0 s k) (at0 s (k + 1)) = true
    · rw [rngTo_go hc.1 hc.2]; exact ih
    · rw [rngTo_cut hc]
      obtain ⟨f, hf⟩ : ∃ f, (rngTo goesD s k).2 = f := ⟨_, rfl⟩
      rw [hf] at ih hle hin ⊢
      simp only [List.map_append, List.map_cons, List.map_nil, List.append_assoc, List.singleton_append]
      rw [ih]
      congr 1
      have hfl : f < s.length := by omega
      by_cases hd : isD (at0 s f) = true
      · obtain ⟨n, hn⟩ : ∃ n, f + n = k + 1 := ⟨k + 1 - f, by omega⟩
        have hall : ∀ j, f ≤ j → j < f + n → isD (at0 s j) = true := by
          intro j h1 h2
          rcases Nat.lt_or_ge f j with h | h
          · have := (goesD_iff _ _).1 (hin (j - 1) (by omega) (by omega))
            rw [show j - 1 + 1 = j by omega] at this
            exact this.2
          · rw [show j = f by omega]; exact hd
        rw [← hn, pcs_cut (by omega) (by omega) hd hall (fun h => ?_)]
        · unfold pcOf
          rw [if_pos hd]
        · cases hx : isD (at0 s (f + n)) with
          | false => rfl
          | true =>
            refine absurd ⟨by omega, (goesD_iff _ _).2 ⟨hall k (by omega) (by omega), ?_⟩⟩ hc
            rw [← hn]; exact hx
      · have hfk : f = k := by
          rcases Nat.lt_or_ge f k with h | h
          · exact absurd ((goesD_iff _ _).1 (hin f (Nat.le_refl _) h)).1 hd
          · omega
        subst hfk
        rw [pcs_other hfl (by simpa using hd)]
        unfold pcOf
        rw [if_neg hd]
theorem pcs_ranges (s : List UInt8) : (ranges goesD s).map (pcOf s) = pcs s := by
  have h := pcs_rng s s.length (Nat.le_refl _)
  have hf : (rngTo goesD s s.length).2 = s.length := by
    cases hl : s.length with
    | zero => rfl
    | succ k => rw [rngTo_cut (by omega)]
  rw [hf, List.drop_length] at h
  simp only [pcs, List.append_nil] at h
  exact h.symm

/-! ### Runs -/
def goesS (x y : UInt8) : Bool := decide (scr x = scr y)
/-- Family, From, Till. -/
abbrev Rn := Nat × Nat × Nat
def rnOf (s : List UInt8) (r : Nat × Nat) : Rn := (scr (at0 s r.1), r.1, r.2)
def runsM (s : List UInt8) : List Rn := (ranges goesS s).map (rnOf s)
/-- The runs of the first k bytes. -/
def runsTo (s : List UInt8) : Nat → List Rn
  | 0 => []
  | k + 1 => if k = 0 ∨ scr (at0 s k) ≠ scr (at0 s (k - 1)) then runsTo s k ++ [(scr (at0 s k), k, k + 1)] else (runsTo s k).dropLast ++ [((((runsTo s k).getLastD (0, 0, 0)).1), ((runsTo s k).getLastD (0, 0, 0)).2.1, k + 1)]
theorem rngTo_scr (s : List UInt8) (k : Nat) : ∀ j, (rngTo goesS s k).2 ≤ j → j ≤ k → scr (at0 s j) = scr (at0 s (rngTo goesS s k).2) := by
  intro j
  induction j with
  | zero => intro h _; rw [show (rngTo goesS s k).2 = 0 by omega]
  | succ j ih =>
    intro h1 h2
    rcases Nat.lt_or_ge (rngTo goesS s k).2 (j + 1) with h | h
    · have h3 := rngTo_in goesS s k j (by omega) (by omega)
      rw [← ih (by omega) (by omega)]
      unfold goesS at h3
      exact (of_decide_eq_true h3).symm
    · rw [show (rngTo goesS s k).2 = j + 1 by omega]
theorem runsTo_rng (s : List UInt8) : ∀ k, k < s.length → runsTo s (k + 1) = (rngTo goesS s k).1.map (rnOf s) ++ [(scr (at0 s (rngTo goesS s k).2), (rngTo goesS s k).2, k + 1)]
  | 0, _ => by simp [runsTo, rngTo]
  | k + 1, hk => by
    have ih := runsTo_rng s k (by omega)
    rw [runsTo]
    by_cases hc : goesS (at0 s k) (at0 s (k + 1)) = true
    · have e := of_decide_eq_true hc
      rw [if_neg (by simp [e]), rngTo_go hk hc, ih]
      simp
    · have e : scr (at0 s k) ≠ scr (at0 s (k + 1)) := fun h => hc (decide_eq_true h)
      rw [if_pos (Or.inr (by rw [Nat.add_sub_cancel]; exact fun h => e h.symm)), rngTo_cut (fun h => hc h.2), ih]
      simp [rnOf]
theorem runsTo_all (s : List UInt8) : runsTo s s.length = runsM s := by
  unfold runsM ranges
  cases hl : s.length with
  | zero => rfl
  | succ k =>
    rw [runsTo_rng s k (by omega), rngTo_cut (by omega)]
    simp [rnOf]
/-! ### What NamesRuns says -/
/-- Where the ranges ahead of number i end. -/
def endB (L : List (Nat × Nat)) (i : Nat) : Nat := if i = 0 then 0 else (L.getD (i - 1) (0, 0)).2
theorem endB_app {L : List (Nat × Nat)} {r : Nat × Nat} {i : Nat} (h : i ≤ L.length) : endB (L ++ [r]) i = endB L i := by
  unfold endB
  split
  · rfl
  · rw [List.getD_eq_getElem?_getD, List.getElem?_append_left (by omega), ← List.getD_eq_getElem?_getD]
theorem endB_last (L : List (Nat × Nat)) (r : Nat × Nat) : endB (L ++ [r]) (L.length + 1) = r.2 := by
  unfold endB
  rw [if_neg (by omega), Nat.add_sub_cancel, List.getD_eq_getElem?_getD, List.getElem?_append_right (Nat.le_refl _)]
  simp
theorem rngTo_at (goes : UInt8 → UInt8 → Bool) (s : List UInt8) : ∀ k, k ≤ s.length →
    (∀ i r, (rngTo goes s k).1[i]? = some r → r.1 = endB (rngTo goes s k).1 i ∧ r.1 < r.2 ∧ r.2 ≤ k ∧ (∀ j, r.1 ≤ j → j + 1 < r.2 → goes (at0 s j) (at0 s (j + 1)) = true) ∧ (i = 0 ∨ goes (at0 s (r.1 - 1)) (at0 s r.1) = false)) ∧
    (rngTo goes s k).2 = endB (rngTo goes s k).1 (rngTo goes s k).1.length ∧ (0 < (rngTo goes s k).2 → (rngTo goes s k).2 < s.length → goes (at0 s ((rngTo goes s k).2 - 1)) (at0 s (rngTo goes s k).2) = false) ∧
    ((rngTo goes s k).2 = 0 → (rngTo goes s k).1 = [])
  | 0, _ => ⟨fun i r h => by simp [rngTo] at h, rfl, fun h => absurd h (Nat.lt_irrefl _), fun _ => rfl⟩
  | k + 1, hk => by
    obtain ⟨ih1, ih2, ih3, ih4⟩ := rngTo_at goes s k (by omega)
    have hle := rngTo_le goes s k
    have hin := rngTo_in goes s k
    by_cases hc : k + 1 < s.length ∧ goes (at0 s k) (at0 s (k + 1)) = true
    · rw [rngTo_go hc.1 hc.2]
      refine ⟨fun i r h => ?_, ih2, ih3, ih4⟩
      obtain ⟨h1, h2, h3, h4, h5⟩ := ih1 i r h
      exact ⟨h1, h2, by omega, h4, h5⟩
    · rw [rngTo_cut hc]
      obtain ⟨L, hL⟩ : ∃ L, (rngTo goes s k).1 = L := ⟨_, rfl⟩
      obtain ⟨f, hf⟩ : ∃ f, (rngTo goes s k).2 = f := ⟨_, rfl⟩
      rw [hL] at ih1 ih2 ih4 ⊢
      rw [hf] at ih2 ih3 ih4 hle hin ⊢
      simp only
      refine ⟨fun i r h => ?_, ?_, fun _ h => ?_, fun h => by omega⟩
      · rcases Nat.lt_or_ge i L.length with hi | hi
        · rw [List.getElem?_append_left hi] at h
          obtain ⟨h1, h2, h3, h4, h5⟩ := ih1 i r h
          exact ⟨by rw [endB_app (by omega)]; exact h1, h2, by omega, h4, h5⟩
        · rw [List.getElem?_append_right hi] at h
          have hi2 : i = L.length := by
            have := (List.getElem?_eq_some_iff.1 h).1
            simp at this
            omega
          subst hi2
          rw [Nat.sub_self] at h
          simp only [List.getElem?_cons_zero, Option.some.injEq] at h
          subst h
          refine ⟨by rw [endB_app (Nat.le_refl _)]; exact ih2, by simp only; omega, Nat.le_refl _, fun j h1 h2 => hin j h1 (by simp only at h2; omega), ?_⟩
          by_cases h0 : f = 0
          · left; rw [ih4 h0]; rfl
          · exact Or.inr (ih3 (by omega) (by omega))
      · rw [List.length_append, List.length_singleton, endB_last]
      · rw [Nat.add_sub_cancel]
        cases hg : goes (at0 s k) (at0 s (k + 1)) with
        | false => rfl
        | true => exact absurd ⟨h, hg⟩ hc
def tillB (R : List Rn) (i : Nat) : Nat := if i = 0 then 0 else (R.getD (i - 1) (0, 0, 0)).2.2
def famB (R : List Rn) (i : Nat) : Int := if i = 0 then -1 else ((R.getD (i - 1) (0, 0, 0)).1 : Int)
theorem tillB_succ {R : List Rn} {i : Nat} {r : Rn} (h : R[i]? = some r) : tillB R (i + 1) = r.2.2 ∧ famB R (i + 1) = r.1 := by
  unfold tillB famB
  rw [if_neg (by omega), if_neg (by omega), Nat.add_sub_cancel]
  simp [List.getD_eq_getElem?_getD, h]
theorem runs_till (s : List UInt8) (i : Nat) (hi : i ≤ (runsM s).length) : tillB (runsM s) i = endB (ranges goesS s) i := by
  unfold tillB endB
  split
  · rfl
  · have hl : i - 1 < (ranges goesS s).length := by unfold runsM at hi; rw [List.length_map] at hi; omega
    simp [List.getD_eq_getElem?_getD, runsM, hl, rnOf]
theorem same_range {s : List UInt8} {a b : Nat} (h : ∀ j, a ≤ j → j + 1 < b → goesS (at0 s j) (at0 s (j + 1)) = true) : ∀ j, a ≤ j → j < b → scr (at0 s j) = scr (at0 s a) := by
  intro j
  induction j with
  | zero => intro h1 _; rw [show a = 0 by omega]
  | succ j ih =>
    intro h1 h2
    rcases Nat.lt_or_ge a (j + 1) with h3 | h3
    · rw [← ih (by omega) (by omega)]
      exact (of_decide_eq_true (h j (by omega) h2)).symm
    · rw [show a = j + 1 by omega]
theorem runs_at {s : List UInt8} {i : Nat} {r : Rn} (h : (runsM s)[i]? = some r) :
    r.2.1 = tillB (runsM s) i ∧ r.2.1 < r.2.2 ∧ r.2.2 ≤ s.length ∧ (r.1 : Int) ≠ famB (runsM s) i ∧ ∀ k, r.2.1 ≤ k → k < r.2.2 → scr (at0 s k) = r.1 := by
  have hil : i < (runsM s).length := (List.getElem?_eq_some_iff.1 h).1
  rw [runs_till s i (by omega)]
  have h' := h
  unfold runsM at h
  rw [List.getElem?_map] at h
  obtain ⟨p, hp, hr⟩ := Option.map_eq_some_iff.1 h
  subst hr
  obtain ⟨h1, h2, h3, h4, h5⟩ := (rngTo_at goesS s s.length (Nat.le_refl _)).1 i p hp
  have hs := same_range h4
  refine ⟨h1, h2, h3, ?_, hs⟩
  unfold famB
  split
  · simp only [rnOf]; omega
  · rename_i h0
    rcases h5 with h5 | h5
    · exact absurd h5 h0
    · have hl : i - 1 < (ranges goesS s).length := by unfold runsM at hil; rw [List.length_map] at hil; omega
      obtain ⟨q, hq⟩ : ∃ q, (ranges goesS s)[i - 1]? = some q := ⟨_, List.getElem?_eq_getElem hl⟩
      obtain ⟨g1, g2, g3, g4, -⟩ := (rngTo_at goesS s s.length (Nat.le_refl _)).1 (i - 1) q hq
      have gs := same_range g4
      have he : p.1 = q.2 := by
        rw [h1]
        unfold endB
        rw [if_neg h0]
        show ((ranges goesS s).getD (i - 1) (0, 0)).2 = q.2
        simp [List.getD_eq_getElem?_getD, hq]
      have hg : (runsM s).getD (i - 1) (0, 0, 0) = rnOf s q := by simp [List.getD_eq_getElem?_getD, runsM, hq]
      rw [hg]
      intro e
      have e2 : scr (at0 s p.1) = scr (at0 s q.1) := Int.ofNat.inj e
      have e3 := gs (q.2 - 1) (by omega) (by omega)
      have : goesS (at0 s (p.1 - 1)) (at0 s p.1) = true := by
        unfold goesS
        rw [he] at e2 ⊢
        exact decide_eq_true (e3.trans e2.symm)
      rw [this] at h5
      cases h5
theorem runs_end (s : List UInt8) : tillB (runsM s) (runsM s).length = s.length := by
  rw [runs_till s _ (Nat.le_refl _)]
  have hl : (runsM s).length = (ranges goesS s).length := by unfold runsM; rw [List.length_map]
  have h := (rngTo_at goesS s s.length (Nat.le_refl _)).2.1
  rw [hl]
  unfold ranges
  rw [← h]
  cases hs : s.length with
  | zero => rfl
  | succ k => rw [rngTo_cut (by omega)]
theorem runs_len (s : List UInt8) : (runsM s).length ≤ s.length := by unfold runsM; rw [List.length_map]; exact rngTo_len _ _ _
end Go.Proofs.YtnibgjpbijlhbaaDoor
