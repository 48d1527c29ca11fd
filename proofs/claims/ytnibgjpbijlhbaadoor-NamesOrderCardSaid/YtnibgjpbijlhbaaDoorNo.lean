/-
  The order of names in plain words: pieces (numbers and other bytes), their keys, the order of strings; numbers in decimal. Plain lemmas, of no program.
-/
namespace Go.Proofs.YtnibgjpbijlhbaaDoor
set_option linter.unusedVariables false
set_option linter.unusedSimpArgs false

def isD (c : UInt8) : Bool := decide (48 ≤ c.toNat ∧ c.toNat ≤ 57)
/-- A piece: whether it is another byte, its size, its text. -/
abbrev Pc := Bool × Nat × List UInt8
/-- A number's piece. -/
def numP (l : List UInt8) : Pc := (false, (l.dropWhile (· == 48)).length, l.dropWhile (· == 48))
def pcs : List UInt8 → List Pc
  | [] => []
  | c :: s => if isD c = true then numP (c :: s.takeWhile isD) :: pcs (s.dropWhile isD) else (true, 0, [c]) :: pcs s
termination_by s => s.length
decreasing_by
  · exact Nat.lt_succ_of_le (List.dropWhile_suffix isD).length_le
  · exact Nat.lt_succ_self _
/-- What a piece counts. -/
def enc (p : Pc) : List Nat := (if p.1 = true then 1 else 0) :: p.2.1 :: p.2.2.map UInt8.toNat
theorem map_toNat_inj {l m : List UInt8} (h : l.map UInt8.toNat = m.map UInt8.toNat) : l = m :=
  (List.map_inj_right (fun a b h => UInt8.toNat_inj.1 h)).1 h
theorem enc_inj {p q : Pc} (h : enc p = enc q) : p = q := by
  obtain ⟨a, n, l⟩ := p
  obtain ⟨b, m, k⟩ := q
  simp only [enc, List.cons.injEq] at h
  obtain ⟨h1, h2, h3⟩ := h
  have h4 := map_toNat_inj h3
  cases a <;> cases b <;> simp_all
def key (s : List UInt8) : List (List Nat) := (pcs s).map enc
/-- A string precedes another one. -/
def lessM (a b : List UInt8) : Prop := key a < key b ∨ (key a = key b ∧ a.map UInt8.toNat < b.map UInt8.toNat)
theorem lessM_irrefl (a : List UInt8) : ¬ lessM a a := by
  rintro (h | ⟨-, h⟩)
  · exact List.lt_irrefl _ h
  · exact List.lt_irrefl _ h
theorem lessM_trans {a b c : List UInt8} (h : lessM a b) (k : lessM b c) : lessM a c := by
  rcases h with h | ⟨h1, h2⟩
  · rcases k with k | ⟨k1, -⟩
    · exact Or.inl (List.lt_trans h k)
    · exact Or.inl (k1 ▸ h)
  · rcases k with k | ⟨k1, k2⟩
    · exact Or.inl (h1 ▸ k)
    · exact Or.inr ⟨h1.trans k1, List.lt_trans h2 k2⟩
theorem lessM_asymm {a b : List UInt8} (h : lessM a b) : ¬ lessM b a := fun k => lessM_irrefl a (lessM_trans h k)
theorem tri_list {α : Type} [LT α] [Std.Trichotomous (α := α) (· < ·)] [Std.Asymm (α := α) (· < ·)] (l m : List α) : l < m ∨ l = m ∨ m < l := by
  by_cases h : l < m
  · exact Or.inl h
  · by_cases k : m < l
    · exact Or.inr (Or.inr k)
    · exact Or.inr (Or.inl (List.le_antisymm (List.not_lt.1 k) (List.not_lt.1 h)))
theorem lessM_total {a b : List UInt8} (h : a ≠ b) : lessM a b ∨ lessM b a := by
  rcases tri_list (key a) (key b) with k | k | k
  · exact Or.inl (Or.inl k)
  · rcases tri_list (a.map UInt8.toNat) (b.map UInt8.toNat) with j | j | j
    · exact Or.inl (Or.inr ⟨k, j⟩)
    · exact absurd (map_toNat_inj j) h
    · exact Or.inr (Or.inr ⟨k.symm, j⟩)
  · exact Or.inr (Or.inl k)

/-! ### Piece by piece -/
/-- What the pieces say: who precedes, if they are not all equal. -/
def lessP : List Pc → List Pc → Option Bool
  | [], [] => none
  | [], _ :: _ => some true
  | _ :: _, [] => some false
  | x :: xs, y :: ys => if x = y then lessP xs ys else some (decide (enc x < enc y))
theorem lessP_none : ∀ {x y : List Pc}, lessP x y = none → x = y
  | [], [], _ => rfl
  | [], _ :: _, h => by cases h
  | _ :: _, [], h => by cases h
  | x :: xs, y :: ys, h => by
    unfold lessP at h
    split at h
    · rename_i e
      rw [e, lessP_none h]
    · cases h
theorem lessP_self : ∀ x : List Pc, lessP x x = none
  | [] => rfl
  | x :: xs => by unfold lessP; rw [if_pos rfl, lessP_self xs]
theorem lessP_some : ∀ {x y : List Pc} {r : Bool}, lessP x y = some r → x ≠ y ∧ (r = true ↔ x.map enc < y.map enc)
  | [], [], _, h => by cases h
  | [], y :: ys, r, h => by
    cases h
    exact ⟨by simp, by simp⟩
  | x :: xs, [], r, h => by
    cases h
    exact ⟨by simp, by simp⟩
  | x :: xs, y :: ys, r, h => by
    unfold lessP at h
    split at h
    · rename_i e
      subst e
      obtain ⟨h1, h2⟩ := lessP_some h
      refine ⟨fun e => h1 (List.cons.inj e).2, ?_⟩
      rw [h2, List.map_cons, List.map_cons, List.cons_lt_cons_iff]
      constructor
      · exact fun h => Or.inr ⟨rfl, h⟩
      · rintro (h | ⟨-, h⟩)
        · exact absurd h (List.lt_irrefl _)
        · exact h
    · rename_i e
      injection h with h
      subst h
      refine ⟨fun hh => e (List.cons.inj hh).1, ?_⟩
      rw [decide_eq_true_eq, List.map_cons, List.map_cons, List.cons_lt_cons_iff]
      constructor
      · exact Or.inl
      · rintro (h | ⟨h, -⟩)
        · exact h
        · exact absurd (enc_inj h) e
/-- Bytes, in order. -/
def bytesLt (a b : List UInt8) : Bool := decide (a.map UInt8.toNat < b.map UInt8.toNat)
def lessB (a b : List UInt8) : Bool := (lessP (pcs a) (pcs b)).getD (bytesLt a b)
theorem lessB_iff (a b : List UInt8) : lessB a b = true ↔ lessM a b := by
  unfold lessB lessM key
  cases h : lessP (pcs a) (pcs b) with
  | none =>
    rw [lessP_none h]
    simp [bytesLt, List.lt_irrefl]
  | some r =>
    obtain ⟨h1, h2⟩ := lessP_some h
    rw [Option.getD_some, h2]
    constructor
    · exact Or.inl
    · rintro (h | ⟨h, -⟩)
      · exact h
      · exact absurd ((List.map_inj_right (fun _ _ => enc_inj)).1 h) h1

/-! ### Pieces of strings that are put together -/
theorem pcs_app_other {p : List UInt8} {c : UInt8} (hc : isD c = false) (s : List UInt8) : pcs (p ++ c :: s) = pcs (p ++ [c]) ++ pcs s := by
  have hdw : ∀ p : List UInt8, (p ++ c :: s).takeWhile isD = (p ++ [c]).takeWhile isD ∧ (p ++ c :: s).dropWhile isD = (p ++ [c]).dropWhile isD ++ s := by
    intro p
    induction p with
    | nil => simp [List.takeWhile_cons, List.dropWhile_cons, hc]
    | cons x p ih =>
      by_cases hx : isD x = true
      · simp [List.takeWhile_cons, List.dropWhile_cons, hx, ih.1, ih.2]
      · simp [List.takeWhile_cons, List.dropWhile_cons, hx]
  have hlast : ∀ p : List UInt8, ∃ q, (p ++ [c]).dropWhile isD = q ++ [c] ∧ q.length ≤ p.length := by
    intro p
    induction p with
    | nil => exact ⟨[], by simp [List.dropWhile_cons, hc], Nat.le_refl _⟩
    | cons x p ih =>
      by_cases hx : isD x = true
      · obtain ⟨q, hq, hl⟩ := ih
        exact ⟨q, by simp [List.dropWhile_cons, hx, hq], by simp only [List.length_cons]; omega⟩
      · exact ⟨x :: p, by simp [List.dropWhile_cons, hx], Nat.le_refl _⟩
  have go : ∀ (n : Nat) (p : List UInt8), p.length ≤ n → pcs (p ++ c :: s) = pcs (p ++ [c]) ++ pcs s := by
    intro n
    induction n with
    | zero =>
      intro p hp
      have : p = [] := List.eq_nil_of_length_eq_zero (by omega)
      subst this
      rw [List.nil_append, List.nil_append, pcs, if_neg (by simp [hc])]
      simp [pcs, hc]
    | succ n ih =>
      intro p hp
      cases p with
      | nil =>
        rw [List.nil_append, List.nil_append, pcs, if_neg (by simp [hc])]
        simp [pcs, hc]
      | cons x p =>
        simp only [List.length_cons] at hp
        rw [List.cons_append, List.cons_append, pcs, pcs]
        by_cases hx : isD x = true
        · rw [if_pos hx, if_pos hx, (hdw p).1, (hdw p).2]
          obtain ⟨q, hq, hl⟩ := hlast p
          rw [hq, List.append_assoc, List.singleton_append, ih q (by omega), List.cons_append]
        · rw [if_neg hx, if_neg hx, ih p (by omega), List.cons_append]
  exact go p.length p (Nat.le_refl _)
theorem tw_all {l : List UInt8} (h : ∀ x ∈ l, isD x = true) : l.takeWhile isD = l ∧ l.dropWhile isD = [] := by
  induction l with
  | nil => exact ⟨rfl, rfl⟩
  | cons x l ih =>
    obtain ⟨h1, h2⟩ := ih fun y hy => h y (List.mem_cons_of_mem _ hy)
    have hx := h x (by simp)
    exact ⟨by rw [List.takeWhile_cons, if_pos hx, h1], by rw [List.dropWhile_cons, if_pos hx, h2]⟩
theorem pcs_digits {c : UInt8} {l : List UInt8} (h : ∀ x ∈ c :: l, isD x = true) : pcs (c :: l) = [numP (c :: l)] := by
  have hl : ∀ x ∈ l, isD x = true := fun x hx => h x (List.mem_cons_of_mem _ hx)
  rw [pcs, if_pos (h c (by simp)), (tw_all hl).1, (tw_all hl).2]
  simp [pcs]
/-- Two numbers behind the same bytes. -/
theorem lessM_num {p : List UInt8} {c : UInt8} (hc : isD c = false) {l m : List UInt8} (hl : ∀ x ∈ l, isD x = true) (hm : ∀ x ∈ m, isD x = true) (hl0 : l ≠ []) (hm0 : m ≠ []) (h : enc (numP l) < enc (numP m)) :
    lessM (p ++ c :: l) (p ++ c :: m) := by
  left
  unfold key
  cases l with
  | nil => exact absurd rfl hl0
  | cons x l =>
    cases m with
    | nil => exact absurd rfl hm0
    | cons y m =>
      rw [pcs_app_other hc (x :: l), pcs_app_other hc (y :: m), List.map_append, List.map_append, pcs_digits hl, pcs_digits hm]
      refine List.append_left_lt ?_
      rw [List.map_cons, List.map_cons, List.cons_lt_cons_iff]
      exact Or.inl h

/-! ### Decimal numbers -/
def digB (n : Nat) : UInt8 := UInt8.ofNat (48 + n)
def dec (n : Nat) : List UInt8 := if n < 10 then [digB n] else dec (n / 10) ++ [digB (n % 10)]
/-- The digits without leading zeros. -/
def digs (n : Nat) : List UInt8 := if n = 0 then [] else digs (n / 10) ++ [digB (n % 10)]
theorem digB_nat {n : Nat} (h : n < 10) : (digB n).toNat = 48 + n := by
  unfold digB
  rw [UInt8.toNat_ofNat', Nat.mod_eq_of_lt (by omega)]
theorem isD_dig {n : Nat} (h : n < 10) : isD (digB n) = true := by
  unfold isD
  rw [digB_nat h]
  exact decide_eq_true (by omega)
theorem digs_zero : digs 0 = [] := by rw [digs, if_pos rfl]
theorem digs_pos {n : Nat} (h : n ≠ 0) : digs n = digs (n / 10) ++ [digB (n % 10)] := by rw [digs, if_neg h]
theorem dec_all (n : Nat) : ∀ x ∈ dec n, isD x = true := by
  induction n using Nat.strongRecOn with
  | ind n ih =>
    intro x hx
    rw [dec] at hx
    split at hx
    · simp only [List.mem_singleton] at hx
      subst hx
      exact isD_dig (by omega)
    · rcases List.mem_append.1 hx with hx | hx
      · exact ih (n / 10) (by omega) x hx
      · simp only [List.mem_singleton] at hx
        subst hx
        exact isD_dig (by omega)
theorem dec_ne (n : Nat) : dec n ≠ [] := by rw [dec]; split <;> simp
theorem digs_first {n : Nat} (h : n ≠ 0) : ∃ c l, digs n = c :: l ∧ c.toNat ≠ 48 := by
  induction n using Nat.strongRecOn with
  | ind n ih =>
    rw [digs_pos h]
    by_cases h0 : n / 10 = 0
    · rw [h0, digs_zero]
      exact ⟨digB (n % 10), [], rfl, by rw [digB_nat (by omega)]; omega⟩
    · obtain ⟨c, l, e, hc⟩ := ih (n / 10) (by omega) h0
      exact ⟨c, l ++ [digB (n % 10)], by rw [e]; rfl, hc⟩
theorem dec_digs (n : Nat) : dec n = if n = 0 then [48] else digs n := by
  induction n using Nat.strongRecOn with
  | ind n ih =>
    rw [dec]
    by_cases h : n < 10
    · rw [if_pos h]
      by_cases h0 : n = 0
      · subst h0; rfl
      · rw [if_neg h0, digs_pos h0, show n / 10 = 0 by omega, digs_zero, show n % 10 = n by omega]
        rfl
    · rw [if_neg h, if_neg (by omega), digs_pos (n := n) (by omega), ih (n / 10) (by omega), if_neg (by omega)]
theorem dw_zeros (z : Nat) (l : List UInt8) : (List.replicate z 48 ++ l).dropWhile (· == 48) = l.dropWhile (· == 48) := by
  induction z with
  | zero => rfl
  | succ z ih => rw [List.replicate_succ, List.cons_append, List.dropWhile_cons, if_pos (by simp), ih]
theorem dw_dec (n : Nat) : (dec n).dropWhile (· == 48) = digs n := by
  rw [dec_digs]
  by_cases h : n = 0
  · rw [if_pos h, h, digs_zero]; rfl
  · rw [if_neg h]
    obtain ⟨c, l, e, hc⟩ := digs_first h
    rw [e, List.dropWhile_cons, if_neg]
    intro h
    simp only [beq_iff_eq] at h
    subst h
    exact hc rfl
theorem lt_snoc : ∀ {l m : List Nat} (x y : Nat), l.length = m.length → l < m → l ++ [x] < m ++ [y]
  | [], [], _, _, _, h => absurd h (List.lt_irrefl _)
  | [], _ :: _, _, _, e, _ => by simp at e
  | _ :: _, [], _, _, e, _ => by simp at e
  | a :: l, b :: m, x, y, e, h => by
    rw [List.cons_append, List.cons_append, List.cons_lt_cons_iff]
    rcases List.cons_lt_cons_iff.1 h with h | ⟨h1, h2⟩
    · exact Or.inl h
    · exact Or.inr ⟨h1, lt_snoc x y (by simpa using e) h2⟩
theorem digs_lt {n m : Nat} (h : n < m) : (digs n).length < (digs m).length ∨ ((digs n).length = (digs m).length ∧ (digs n).map UInt8.toNat < (digs m).map UInt8.toNat) := by
  induction m using Nat.strongRecOn generalizing n with
  | ind m ih =>
    rw [digs_pos (n := m) (by omega)]
    by_cases h0 : n = 0
    · left
      rw [h0, digs_zero]
      simp
    · rw [digs_pos h0]
      by_cases he : n / 10 = m / 10
      · right
        refine ⟨by simp [he], ?_⟩
        rw [he, List.map_append, List.map_append]
        refine List.append_left_lt ?_
        simp only [List.map_cons, List.map_nil, List.cons_lt_cons_iff]
        left
        rw [digB_nat (by omega), digB_nat (by omega)]
        omega
      · rcases ih (m / 10) (by omega) (n := n / 10) (by omega) with k | ⟨k1, k2⟩
        · left; simp; exact k
        · right
          refine ⟨by simp [k1], ?_⟩
          rw [List.map_append, List.map_append]
          exact lt_snoc _ _ (by simpa using k1) k2
theorem enc_num {l m : List UInt8} {n k : Nat} (hl : l.dropWhile (· == 48) = digs n) (hm : m.dropWhile (· == 48) = digs k) (h : n < k) : enc (numP l) < enc (numP m) := by
  unfold enc numP
  rw [hl, hm]
  simp only [List.cons_lt_cons_iff]
  right
  refine ⟨by simp, ?_⟩
  rcases digs_lt h with h | ⟨h1, h2⟩
  · exact Or.inl h
  · exact Or.inr ⟨h1, h2⟩
/-- Numbers behind the same bytes are in the order of their values, whatever their leading zeros. -/
theorem lessM_dec {p : List UInt8} {c : UInt8} (hc : isD c = false) (y z : Nat) {n m : Nat} (h : n < m) : lessM (p ++ c :: (List.replicate y 48 ++ dec n)) (p ++ c :: (List.replicate z 48 ++ dec m)) := by
  have h48 : isD 48 = true := by decide
  have hall : ∀ (y n : Nat), ∀ x ∈ List.replicate y 48 ++ dec n, isD x = true := by
    intro y n x hx
    rcases List.mem_append.1 hx with hx | hx
    · rw [List.eq_of_mem_replicate hx]; exact h48
    · exact dec_all n x hx
  exact lessM_num hc (hall y n) (hall z m) (by simp [dec_ne]) (by simp [dec_ne]) (enc_num (by rw [dw_zeros, dw_dec]) (by rw [dw_zeros, dw_dec]) h)
end Go.Proofs.YtnibgjpbijlhbaaDoor
