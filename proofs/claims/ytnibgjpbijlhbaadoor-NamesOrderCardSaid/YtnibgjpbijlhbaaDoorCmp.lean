/-
  Comparing strings, integers and pieces, in plain words. Plain lemmas, of no program.
-/
import Derived.Test.YtnibgjpbijlhbaaDoorNo
import Derived.Lib.Bytealg
import Derived.Lib.Small
namespace Go.Proofs.YtnibgjpbijlhbaaDoor
set_option linter.unusedVariables false
set_option linter.unusedSimpArgs false

theorem compareBytes_eq : ∀ l m : List UInt8, Lib.compareBytes l m = if l = m then 0 else if l.map UInt8.toNat < m.map UInt8.toNat then -1 else 1
  | [], [] => by simp [Lib.compareBytes]
  | [], _ :: _ => by simp [Lib.compareBytes]
  | _ :: _, [] => by simp [Lib.compareBytes]
  | x :: l, y :: m => by
    unfold Lib.compareBytes
    rw [compareBytes_eq l m]
    by_cases h : x < y
    · have hne : x ≠ y := fun e => by subst e; exact UInt8.lt_irrefl _ h
      rw [if_pos h, if_neg (by simp [hne]), if_pos]
      rw [List.map_cons, List.map_cons, List.cons_lt_cons_iff]
      exact Or.inl (UInt8.lt_iff_toNat_lt.1 h)
    · rw [if_neg h]
      by_cases k : y < x
      · have hne : x ≠ y := fun e => by subst e; exact UInt8.lt_irrefl _ k
        rw [if_pos k, if_neg (by simp [hne]), if_neg]
        rw [List.map_cons, List.map_cons, List.cons_lt_cons_iff]
        have := UInt8.lt_iff_toNat_lt.1 k
        rintro (h | ⟨h, -⟩) <;> omega
      · rw [if_neg k]
        have e : x = y := by
          apply UInt8.toNat_inj.1
          have h1 : ¬ x.toNat < y.toNat := fun e => h (UInt8.lt_iff_toNat_lt.2 e)
          have h2 : ¬ y.toNat < x.toNat := fun e => k (UInt8.lt_iff_toNat_lt.2 e)
          omega
        subst e
        by_cases e : l = m
        · subst e; simp
        · have hc : ((x :: l).map UInt8.toNat < (x :: m).map UInt8.toNat) = (l.map UInt8.toNat < m.map UInt8.toNat) := by
            rw [List.map_cons, List.map_cons, List.cons_lt_cons_iff]
            simp
          rw [if_neg e, if_neg (fun h => e (List.cons.inj h).2)]
          by_cases k : l.map UInt8.toNat < m.map UInt8.toNat
          · rw [if_pos k, if_pos (by rw [hc]; exact k)]
          · rw [if_neg k, if_neg (by rw [hc]; exact k)]
def or2 (a b : Int) : Int := if a = 0 then b else a
/-- Pieces compared. -/
def cmpP (p q : Pc) : Int := if p = q then 0 else if enc p < enc q then -1 else 1
theorem cmpP_self (p : Pc) : cmpP p p = 0 := if_pos rfl
theorem cmpP_other (p q : Pc) (h : p.1 ≠ q.1) : cmpP p q = if q.1 = true then -1 else 1 := by
  obtain ⟨a, n, l⟩ := p
  obtain ⟨b, m, k⟩ := q
  simp only at h ⊢
  unfold cmpP
  rw [if_neg (by simp [h])]
  congr 1
  simp only [enc, List.cons_lt_cons_iff]
  cases a <;> cases b <;> simp_all
theorem cmpP_same (a : Bool) (n m : Nat) (l k : List UInt8) : cmpP (a, n, l) (a, m, k) = or2 (Lib.compareInt n m) (Lib.compareBytes l k) := by
  unfold cmpP or2 Lib.compareInt
  rw [compareBytes_eq]
  simp only [enc, List.cons_lt_cons_iff]
  rcases Nat.lt_trichotomy n m with h | h | h
  · have h1 : (n : Int) < (m : Int) := by omega
    have h2 : n ≠ m := by omega
    simp [h1, h2, h]
  · subst h
    by_cases e : l = k <;> simp [e]
  · have h1 : (m : Int) < (n : Int) := by omega
    have h2 : n ≠ m := by omega
    have h3 : ¬ (n : Int) < (m : Int) := by omega
    have h4 : ¬ n < m := by omega
    simp [h1, h2, h3, h4]
/-- Less, as it is computed once all common pieces are equal. -/
theorem last_less (x y : List Pc) (a b : List UInt8) (h : ∀ (k : Nat) (p q : Pc), x[k]? = some p → y[k]? = some q → p = q) :
    decide (or2 (Lib.compareInt x.length y.length) (Lib.compareBytes a b) < 0) = (lessP x y).getD (bytesLt a b) := by
  induction x generalizing y with
  | nil =>
    cases y with
    | nil =>
      simp only [lessP, Option.getD_none, bytesLt, or2, Lib.compareInt, List.length_nil]
      rw [compareBytes_eq]
      by_cases e : a = b
      · subst e; simp [List.lt_irrefl]
      · by_cases k : a.map UInt8.toNat < b.map UInt8.toNat <;> simp [e, k]
    | cons q y => simp [lessP, or2, Lib.compareInt]
  | cons p x ih =>
    cases y with
    | nil =>
      have : ¬ ((x.length : Int) + 1 < 0) := by omega
      have h2 : (0 : Int) < (x.length : Int) + 1 := by omega
      simp [lessP, or2, Lib.compareInt, this, h2]
    | cons q y =>
      have e := h 0 p q rfl rfl
      subst e
      unfold lessP
      rw [if_pos rfl, ← ih y (fun k p q h1 h2 => h (k + 1) p q h1 h2)]
      simp [Lib.compareInt]
/-- Less, as it is computed at the first pieces that differ. -/
theorem first_less : ∀ (k : Nat) (x y : List Pc) (p q : Pc) (z : Bool), (∀ j, j < k → x[j]? = y[j]?) → x[k]? = some p → y[k]? = some q → p ≠ q → (lessP x y).getD z = decide (cmpP p q < 0)
  | 0, x :: xs, y :: ys, p, q, z, _, h1, h2, hne => by
    simp only [List.getElem?_cons_zero, Option.some.injEq] at h1 h2
    subst h1 h2
    unfold lessP cmpP
    rw [if_neg hne, if_neg hne, Option.getD_some]
    split <;> simp_all
  | k + 1, x :: xs, y :: ys, p, q, z, h0, h1, h2, hne => by
    have e := h0 0 (by omega)
    simp only [List.getElem?_cons_zero, Option.some.injEq] at e
    subst e
    unfold lessP
    rw [if_pos rfl]
    exact first_less k xs ys p q z (fun j hj => by have := h0 (j + 1) (by omega); simpa using this) (by simpa using h1) (by simpa using h2) hne
  | 0, [], _, _, _, _, _, h, _, _ => by cases h
  | 0, _ :: _, [], _, _, _, _, _, h, _ => by cases h
  | _ + 1, [], _, _, _, _, _, h, _, _ => by cases h
  | _ + 1, _ :: _, [], _, _, _, _, _, h, _ => by cases h

end Go.Proofs.YtnibgjpbijlhbaaDoor
