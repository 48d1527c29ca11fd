/-
  Texts of programs as the reference reads them: words and numerals exactly; it answers as the program's own reading. Plain laws: no walk.
-/
import Derived.Test.YtdpbdcaefdcooaaDoorVt
namespace Go.Proofs.YtdpbdcaefdcooaaDoor
set_option linter.unusedVariables false

/-! ### Cutting -/
/-- The parts of s from `from` on, where the separator is looked for from k on. -/
def splAt (s t : List UInt8) (fr k : Nat) : List (List UInt8) :=
  if h : 0 < t.length ∧ k + t.length ≤ s.length then
    if (s.drop k).take t.length = t then (s.drop fr).take (k - fr) :: splAt s t (k + t.length) (k + t.length) else splAt s t fr (k + 1)
  else [s.drop fr]
termination_by s.length + 1 - k
theorem splAt_hit {s t : List UInt8} {fr k : Nat} (h0 : 0 < t.length) (h1 : k + t.length ≤ s.length) (h2 : (s.drop k).take t.length = t) : splAt s t fr k = (s.drop fr).take (k - fr) :: splAt s t (k + t.length) (k + t.length) := by
  rw [splAt, dif_pos ⟨h0, h1⟩, if_pos h2]
theorem splAt_miss {s t : List UInt8} {fr k : Nat} (h0 : 0 < t.length) (h1 : k + t.length ≤ s.length) (h2 : ¬ (s.drop k).take t.length = t) : splAt s t fr k = splAt s t fr (k + 1) := by
  rw [splAt, dif_pos ⟨h0, h1⟩, if_neg h2]
theorem splAt_end {s t : List UInt8} {fr k : Nat} (h1 : ¬ k + t.length ≤ s.length) : splAt s t fr k = [s.drop fr] := by
  rw [splAt, dif_neg (fun h => h1 h.2)]
def splR (s t : List UInt8) : List (List UInt8) := splAt s t 0 0
theorem splAt_ne (s t : List UInt8) : ∀ (n fr k : Nat), s.length + 1 - k ≤ n → splAt s t fr k ≠ [] := by
  intro n
  induction n with
  | zero => intro fr k h; rw [splAt]; split; omega; simp
  | succ n ih =>
    intro fr k h
    rw [splAt]
    split
    · split
      · simp
      · exact ih _ _ (by omega)
    · simp
theorem join_two {x : List UInt8} {r : List (List UInt8)} {t : List UInt8} (h : r ≠ []) : Lib.join (x :: r) t = x ++ t ++ Lib.join r t := by
  match r, h with
  | y :: r, _ =>
    rw [Lib.join_cons, Lib.join_cons]
    simp [Lib.joinTail]
theorem splAt_join (s t : List UInt8) : ∀ (n fr k : Nat), s.length + 1 - k ≤ n → fr ≤ k → Lib.join (splAt s t fr k) t = s.drop fr := by
  intro n
  induction n with
  | zero =>
    intro fr k h hf
    rw [splAt_end (by omega), Lib.join_one]
  | succ n ih =>
    intro fr k h hf
    by_cases h1 : 0 < t.length ∧ k + t.length ≤ s.length
    · by_cases h2 : (s.drop k).take t.length = t
      · rw [splAt_hit h1.1 h1.2 h2, join_two (splAt_ne s t _ _ _ (Nat.le_refl _)), ih _ _ (by omega) (Nat.le_refl _)]
        have e1 : s.drop (k + t.length) = (s.drop k).drop t.length := by rw [List.drop_drop]
        have e2 : t ++ s.drop (k + t.length) = s.drop k := by rw [e1]; exact (congrArg (· ++ (s.drop k).drop t.length) h2.symm).trans (List.take_append_drop _ _)
        rw [List.append_assoc, e2]
        have e3 : s.drop k = (s.drop fr).drop (k - fr) := by rw [List.drop_drop]; congr 1; omega
        rw [e3, List.take_append_drop]
      · rw [splAt_miss h1.1 h1.2 h2]
        exact ih _ _ (by omega) (by omega)
    · rw [splAt, dif_neg h1, Lib.join_one]
theorem splR_join (s t : List UInt8) : Lib.join (splR s t) t = s := by
  have := splAt_join s t _ 0 0 (Nat.le_refl _) (Nat.le_refl _)
  rwa [List.drop_zero] at this
theorem no_hit {s : List UInt8} {c : UInt8} {t : List UInt8} {k : Nat} (h : s[k]? ≠ some c) : ¬ (s.drop k).take (c :: t).length = c :: t := by
  intro e
  have := congrArg (fun l => l[0]?) e
  simp only [List.length_cons, List.getElem?_cons_zero] at this
  rw [List.getElem?_take, if_pos (by omega), List.getElem?_drop, Nat.add_zero] at this
  exact h this
theorem splAt_run {s : List UInt8} {c : UInt8} {t : List UInt8} {fr e : Nat} : ∀ (n k : Nat), e - k ≤ n → k ≤ e → (∀ j, k ≤ j → j < e → s[j]? ≠ some c) → e ≤ s.length → splAt s (c :: t) fr k = splAt s (c :: t) fr e := by
  intro n
  induction n with
  | zero =>
                 intro k h hk hno hs
                 have e0 : k = e := by omega
                 rw [e0]
  | succ n ih =>
    intro k h hk hno hs
    by_cases hke : k = e
    · rw [hke]
    · by_cases h1 : k + (c :: t).length ≤ s.length
      · rw [splAt_miss (by simp) h1 (no_hit (hno k (Nat.le_refl _) (by omega)))]
        exact ih (k + 1) (by omega) (by omega) (fun j h1 h2 => hno j (by omega) h2) hs
      · rw [splAt_end h1, splAt_end (by omega)]
theorem splAt_joined {c : UInt8} {t : List UInt8} : ∀ (xs : List (List UInt8)) (pre : List UInt8), xs ≠ [] → (∀ x ∈ xs, c ∉ x) → splAt (pre ++ Lib.join xs (c :: t)) (c :: t) pre.length pre.length = xs
  | [], _, h, _ => absurd rfl h
  | [x], pre, _, hno => by
    rw [Lib.join_one]
    have hx := hno x (by simp)
    rw [splAt_run (e := (pre ++ x).length) x.length pre.length (by simp) (by simp) (fun j h1 h2 e => hx (by
      rw [List.getElem?_append_right h1] at e
      exact List.mem_of_getElem? e)) (Nat.le_refl _)]
    rw [splAt_end (by simp), List.drop_left]
  | x :: y :: r, pre, _, hno => by
    have hx := hno x (by simp)
    have ej : pre ++ Lib.join (x :: y :: r) (c :: t) = (pre ++ x ++ (c :: t)) ++ Lib.join (y :: r) (c :: t) := by rw [join_two (by simp)]; simp
    have ih := splAt_joined (c := c) (t := t) (y :: r) (pre ++ x ++ (c :: t)) (by simp) (fun z hz => hno z (List.mem_cons_of_mem _ hz))
    rw [← ej] at ih
    have el : (pre ++ x ++ (c :: t)).length = (pre ++ x).length + (c :: t).length := by rw [List.length_append]
    have ej2 : pre ++ Lib.join (x :: y :: r) (c :: t) = (pre ++ x) ++ ((c :: t) ++ Lib.join (y :: r) (c :: t)) := by rw [ej]; simp
    rw [splAt_run (e := (pre ++ x).length) x.length pre.length (by simp) (by simp) (fun j h1 h2 e => hx (by
      rw [ej2, List.getElem?_append_left h2, List.getElem?_append_right h1] at e
      exact List.mem_of_getElem? e)) (by rw [ej2, List.length_append (as := pre ++ x)]; omega)]
    rw [splAt_hit (by simp) (by rw [ej2]; simp only [List.length_append]; omega) (by rw [ej2, List.drop_left, List.take_left]), ← el, ih]
    congr 1
    rw [ej2, List.append_assoc, List.drop_left]
    rw [show (pre ++ x).length - pre.length = x.length by simp, List.take_left]
theorem splR_joined {c : UInt8} {t : List UInt8} {xs : List (List UInt8)} (h : xs ≠ []) (hno : ∀ x ∈ xs, c ∉ x) : splR (Lib.join xs (c :: t)) (c :: t) = xs := by
  have := splAt_joined (c := c) (t := t) xs [] h hno
  simpa [splR] using this

/-! ### Numerals -/
def wrapR (x : Int) : Int := IntKind.i64.wrap x
theorem wrapR_eq (x : Int) : wrapR x = (x + 9223372036854775808) % 18446744073709551616 - 9223372036854775808 := by
  unfold wrapR
  rw [IntKind.wrap_i64]
theorem wrapR_ok (x : Int) : numOk (wrapR x) := by rw [wrapR_eq]; unfold numOk; omega
/-- One digit more. -/
def stepW (n : Int) (c : UInt8) : Int := wrapR (wrapR (10 * n) + ((c.toNat : Int) - 48))
def accW : Int → List UInt8 → Option Int
  | n, [] => some n
  | n, c :: l => if 48 ≤ c.toNat ∧ c.toNat ≤ 57 then accW (stepW n c) l else none
def headNeg : List UInt8 → Bool
  | c :: _ => decide (c = 45)
  | [] => false
def bodyN (t : List UInt8) : List UInt8 := if headNeg t = true then t.tail else t
def numV (t : List UInt8) (v : Int) : Int := if headNeg t = true then wrapR (-v) else v
/-- The number that a string is. -/
def numR (t : List UInt8) : Option Int := match accW 0 (bodyN t) with
  | none => none
  | some v => if Lib.itoa (numV t v) = t then some (numV t v) else none
theorem accW_ok : ∀ (l : List UInt8) (n v : Int), numOk n → accW n l = some v → numOk v
  | [], n, v, hn, h => by simp only [accW, Option.some.injEq] at h; subst h; exact hn
  | c :: l, n, v, hn, h => by
    unfold accW at h
    split at h
    · exact accW_ok l _ v (wrapR_ok _) h
    · cases h
theorem numR_ok {t : List UInt8} {v : Int} (h : numR t = some v) : Lib.itoa v = t ∧ numOk v := by
  unfold numR at h
  cases ha : accW 0 (bodyN t) with
  | none => rw [ha] at h; cases h
  | some u =>
    rw [ha] at h
    simp only at h
    split at h
    · rename_i h1
      cases h
      refine ⟨h1, ?_⟩
      unfold numV
      split
      · exact wrapR_ok _
      · exact accW_ok _ 0 u (by simp [numOk]) ha
    · cases h
theorem accW_append : ∀ (l m : List UInt8) (n v : Int), accW n l = some v → accW n (l ++ m) = accW v m
  | [], m, n, v, h => by simp only [accW, Option.some.injEq] at h; subst h; rfl
  | c :: l, m, n, v, h => by
    unfold accW at h
    rw [List.cons_append, accW]
    split at h
    · rename_i h1
      rw [if_pos h1]
      exact accW_append l m _ v h
    · cases h
theorem accW_dec : ∀ (u : Nat), accW 0 (Lib.decDigits u) = some (wrapR u) := by
  intro u
  induction u using Nat.strongRecOn with
  | ind u ih =>
    rw [Lib.decDigits]
    split
    · rename_i h
      rw [accW, if_pos (by rw [dig_val h]; omega), accW]
      congr 1
      unfold stepW
      rw [dig_val h, wrapR_eq, wrapR_eq, wrapR_eq]
      omega
    · rename_i h
      rw [accW_append _ _ 0 _ (ih (u / 10) (by omega)), accW, if_pos (by rw [dig_val (by omega)]; omega), accW]
      congr 1
      unfold stepW
      rw [dig_val (by omega), wrapR_eq, wrapR_eq, wrapR_eq, wrapR_eq]
      omega
theorem itoa_nonneg {n : Int} (h : ¬ n < 0) : Lib.itoa n = Lib.decDigits n.toNat := by unfold Lib.itoa; rw [if_neg h]
theorem itoa_neg {n : Int} (h : n < 0) : Lib.itoa n = 45 :: Lib.decDigits n.natAbs := by unfold Lib.itoa; rw [if_pos h]
theorem numR_itoa {n : Int} (h : numOk n) : numR (Lib.itoa n) = some n := by
  obtain ⟨h0, h1⟩ := h
  by_cases hn : n < 0
  · have e := itoa_neg hn
    have hh : headNeg (Lib.itoa n) = true := by rw [e]; rfl
    have hb : bodyN (Lib.itoa n) = Lib.decDigits n.natAbs := by unfold bodyN; rw [if_pos hh, e]; rfl
    unfold numR
    rw [hb, accW_dec]
    simp only
    have hv : numV (Lib.itoa n) (wrapR n.natAbs) = n := by
      unfold numV
      rw [if_pos hh, wrapR_eq, wrapR_eq]
      omega
    rw [hv, if_pos rfl]
  · have e := itoa_nonneg hn
    have hh : headNeg (Lib.itoa n) = false := by
      rw [e]
      have hd := dec_dig n.toNat
      cases hl : Lib.decDigits n.toNat with
      | nil => rfl
      | cons c l =>
        rw [hl] at hd
        have := hd c (by simp)
        unfold headNeg
        simp only [decide_eq_false_iff_not]
        intro e
        subst e
        simp at this
    have hb : bodyN (Lib.itoa n) = Lib.decDigits n.toNat := by unfold bodyN; rw [if_neg (by simp [hh]), e]
    unfold numR
    rw [hb, accW_dec]
    simp only
    have hv : numV (Lib.itoa n) (wrapR n.toNat) = n := by
      unfold numV
      rw [if_neg (by simp [hh]), wrapR_eq]
      omega
    rw [hv, if_pos rfl]

/-! ### Operations -/
/-- The first code whose word is w, from i on. -/
def codeRF (w : List UInt8) : Nat → Nat → Option Int
  | 0, _ => none
  | n + 1, i => if wordB i = w then some i else codeRF w n (i + 1)
def codeR (w : List UInt8) : Option Int := codeRF w 15 1
theorem codeRF_in (w : List UInt8) : ∀ (n i : Nat) (c : Int), codeRF w n i = some c → ((i : Int) ≤ c ∧ c < i + n ∧ wordB c = w)
  | 0, i, c, h => by cases h
  | n + 1, i, c, h => by
    unfold codeRF at h
    split at h
    · rename_i h1; cases h; exact ⟨by omega, by omega, h1⟩
    · obtain ⟨a, b, d⟩ := codeRF_in w n (i + 1) c h
      exact ⟨by omega, by omega, d⟩
theorem codeR_in {w : List UInt8} {c : Int} (h : codeR w = some c) : (1 ≤ c ∧ c ≤ 15) ∧ wordB c = w := by
  obtain ⟨a, b, d⟩ := codeRF_in w 15 1 c h
  exact ⟨by omega, d⟩
theorem codeR_word {c : Int} (h : 1 ≤ c ∧ c ≤ 15) : codeR (wordB c) = some c := by
  rcases fifteen h with rfl | rfl | rfl | rfl | rfl | rfl | rfl | rfl | rfl | rfl | rfl | rfl | rfl | rfl | rfl <;> decide
def manyR (c : Int) : Nat := 1 + (if usesN c = true then 1 else 0) + (if usesM c = true then 1 else 0)
def numAt (l : List (List UInt8)) (i : Nat) : Option Int := numR (l.getD i [])
/-- The operation that a string is. -/
def opR (x : List UInt8) : Option VOp :=
  match codeR ((splR x [32]).getD 0 []) with
  | none => none
  | some c => if (splR x [32]).length ≠ manyR c then none else
    match (if usesN c = true then numAt (splR x [32]) 1 else some 0) with
    | none => none
    | some n => match (if usesM c = true then numAt (splR x [32]) 2 else some 0) with
      | none => none
      | some m => some (c, n, m)
theorem opR_text {o : VOp} (hf : vform o.1 o.2.1 o.2.2) (hn : numOk o.2.1) (hm : numOk o.2.2) : opR (textW o) = some o := by
  obtain ⟨c, n, m⟩ := o
  obtain ⟨hc, hn0, hm0⟩ := hf
  simp only at hc hn0 hm0 hn hm
  obtain ⟨w1, w2, w3⟩ := word_ok hc
  have i1 : (32 : UInt8) ∉ Lib.itoa n := itoa_no (Or.inl (by decide))
  have i2 : (32 : UInt8) ∉ Lib.itoa m := itoa_no (Or.inl (by decide))
  have key : splR (textW (c, n, m)) [32] = wordB c :: ((if usesN c = true then [Lib.itoa n] else []) ++ (if usesM c = true then [Lib.itoa m] else [])) := by
    have ht : textW (c, n, m) = Lib.join (wordB c :: ((if usesN c = true then [Lib.itoa n] else []) ++ (if usesM c = true then [Lib.itoa m] else []))) [32] := by
      unfold textW
      simp only
      by_cases hN : usesN c = true
      · rw [if_pos hN, if_pos hN]
        by_cases hM : usesM c = true
        · rw [if_pos hM, if_pos hM, join_two (by simp), List.singleton_append, join_two (by simp), Lib.join_one]
          simp
        · rw [if_neg hM, if_neg hM, join_two (by simp), List.append_nil, List.append_nil, Lib.join_one]
          simp
      · have hM : ¬ usesM c = true := by unfold usesN usesM at *; simp at hN ⊢; omega
        rw [if_neg hN, if_neg hN, if_neg hM, if_neg hM, List.append_nil, List.append_nil, List.append_nil, Lib.join_one]
    rw [ht]
    refine splR_joined (by simp) fun x hx => ?_
    rcases List.mem_cons.1 hx with rfl | hx
    · exact w2
    · rcases List.mem_append.1 hx with hx | hx
      · split at hx
        · simp only [List.mem_singleton] at hx; subst hx; exact i1
        · cases hx
      · split at hx
        · simp only [List.mem_singleton] at hx; subst hx; exact i2
        · cases hx
  unfold opR
  simp only [key, List.getD_cons_zero, codeR_word hc]
  rw [if_neg (by unfold manyR; split <;> split <;> simp)]
  by_cases hN : usesN c = true
  · by_cases hM : usesM c = true
    · have f1 : numAt (wordB c :: ([Lib.itoa n] ++ [Lib.itoa m])) 1 = some n := by unfold numAt; exact numR_itoa hn
      have f2 : numAt (wordB c :: ([Lib.itoa n] ++ [Lib.itoa m])) 2 = some m := by unfold numAt; exact numR_itoa hm
      simp only [hN, hM, if_true, f1, f2]
    · have f1 : numAt (wordB c :: ([Lib.itoa n] ++ [])) 1 = some n := by unfold numAt; exact numR_itoa hn
      have h0 : m = 0 := by unfold usesM at hM; simp at hM; omega
      simp only [hN, if_true, if_neg hM, f1, h0]
  · have hM : ¬ usesM c = true := by unfold usesN usesM at *; simp at hN ⊢; omega
    have h0 : n = 0 := by unfold usesN at hN; simp at hN; omega
    have h1 : m = 0 := by unfold usesM at hM; simp at hM; omega
    simp only [if_neg hN, if_neg hM, h0, h1]
theorem opR_ok {x : List UInt8} {o : VOp} (h : opR x = some o) : textW o = x ∧ vform o.1 o.2.1 o.2.2 ∧ numOk o.2.1 ∧ numOk o.2.2 := by
  have hj := splR_join x [32]
  unfold opR at h
  cases hc : codeR ((splR x [32]).getD 0 []) with
  | none => rw [hc] at h; cases h
  | some c =>
    rw [hc] at h
    simp only at h
    obtain ⟨c1, c2⟩ := codeR_in hc
    generalize splR x [32] = l at h hj c2
    split at h
    · cases h
    · rename_i hl
      have hl' : l.length = manyR c := Decidable.not_not.1 hl
      unfold manyR at hl'
      by_cases hN : usesN c = true
      · rw [if_pos hN] at h hl'
        cases h1 : numAt l 1 with
        | none => rw [h1] at h; cases h
        | some n =>
          rw [h1] at h
          simp only at h
          obtain ⟨n1, n2⟩ := numR_ok h1
          by_cases hM : usesM c = true
          · rw [if_pos hM] at h hl'
            cases h2 : numAt l 2 with
            | none => rw [h2] at h; cases h
            | some m =>
              rw [h2] at h
              simp only [Option.some.injEq] at h
              subst h
              obtain ⟨m1, m2⟩ := numR_ok h2
              refine ⟨?_, ⟨c1, by unfold usesN at hN; simp at hN; omega, by unfold usesM at hM; simp at hM; omega⟩, n2, m2⟩
              match l, hl', c2, n1, m1, hj with
              | [a, b, d], _, c2, n1, m1, hj =>
                simp only [List.getD_cons_zero, List.getD_cons_succ] at c2 n1 m1
                rw [join_two (by simp), join_two (by simp), Lib.join_one] at hj
                unfold textW
                simp only [hN, hM, if_true, c2, n1, m1]
                rw [← hj]
                simp
          · rw [if_neg hM] at h hl'
            simp only [Option.some.injEq] at h
            subst h
            refine ⟨?_, ⟨c1, by unfold usesN at hN; simp at hN; omega, Or.inr rfl⟩, n2, by simp [numOk]⟩
            match l, hl', c2, n1, hj with
            | [a, b], _, c2, n1, hj =>
              simp only [List.getD_cons_zero, List.getD_cons_succ] at c2 n1
              rw [join_two (by simp), Lib.join_one] at hj
              unfold textW
              simp only [hN, if_true, if_neg hM, c2, n1]
              rw [← hj]
              simp
      · have hM : ¬ usesM c = true := by unfold usesN usesM at *; simp at hN ⊢; omega
        rw [if_neg hN] at h hl'
        rw [if_neg hM] at hl'
        simp only at h
        rw [if_neg hM] at h
        simp only [Option.some.injEq] at h
        subst h
        refine ⟨?_, ⟨c1, Or.inr (Or.inr rfl), Or.inr rfl⟩, by simp [numOk], by simp [numOk]⟩
        match l, hl', c2, hj with
        | [a], _, c2, hj =>
          simp only [List.getD_cons_zero] at c2
          rw [Lib.join_one] at hj
          unfold textW
          simp only [if_neg hN, if_neg hM, c2, hj, List.append_nil]
def opsR : List (List UInt8) → Option (List VOp)
  | [] => some []
  | x :: r => match opR x with
    | none => none
    | some o => match opsR r with
      | none => none
      | some p => some (o :: p)
theorem opsR_ok : ∀ {l : List (List UInt8)} {P : List VOp}, opsR l = some P → P.map textW = l ∧ ∀ o ∈ P, vform o.1 o.2.1 o.2.2 ∧ numOk o.2.1 ∧ numOk o.2.2
  | [], P, h => by simp only [opsR, Option.some.injEq] at h; subst h; simp
  | x :: r, P, h => by
    unfold opsR at h
    cases ho : opR x with
    | none => rw [ho] at h; cases h
    | some o =>
      rw [ho] at h
      simp only at h
      cases hq : opsR r with
      | none => rw [hq] at h; cases h
      | some Q =>
        rw [hq] at h
        simp only [Option.some.injEq] at h
        subst h
        obtain ⟨h1, h2⟩ := opsR_ok hq
        obtain ⟨h3, h4⟩ := opR_ok ho
        refine ⟨by rw [List.map_cons, h1, h3], fun y hy => ?_⟩
        rcases List.mem_cons.1 hy with rfl | hy
        · exact h4
        · exact h2 y hy
theorem opsR_text : ∀ L : List VOp, (∀ o ∈ L, vform o.1 o.2.1 o.2.2 ∧ numOk o.2.1 ∧ numOk o.2.2) → opsR (L.map textW) = some L
  | [], _ => rfl
  | o :: L, h => by
    obtain ⟨h1, h2, h3⟩ := h o (by simp)
    rw [List.map_cons, opsR, opR_text h1 h2 h3]
    simp only
    rw [opsR_text L (fun x hx => h x (List.mem_cons_of_mem _ hx))]
theorem opsR_app : ∀ (a b : List (List UInt8)), opsR (a ++ b) = match opsR a with
    | none => none
    | some p => match opsR b with
      | none => none
      | some q => some (p ++ q)
  | [], b => by
    simp only [List.nil_append, opsR]
    cases opsR b <;> rfl
  | x :: a, b => by
    rw [List.cons_append, opsR, opsR, opsR_app a b]
    cases opR x with
    | none => rfl
    | some o =>
      simp only
      cases opsR a with
      | none => rfl
      | some p =>
        simp only
        cases opsR b <;> rfl
theorem opsR_next {ws : List (List UInt8)} {k : Nat} {x : List UInt8} {P : List VOp} {o : VOp} (h : opsR (ws.take k) = some P) (hx : ws[k]? = some x) (ho : opR x = some o) : opsR (ws.take (k + 1)) = some (P ++ [o]) := by
  rw [List.take_add_one, hx, opsR_app, h]
  simp [opsR, ho]
theorem opsR_fail {ws : List (List UInt8)} {k : Nat} {x : List UInt8} {P : List VOp} (h : opsR (ws.take k) = some P) (hx : ws[k]? = some x) (ho : opR x = none) : opsR ws = none := by
  obtain ⟨hk1, hk2⟩ := List.getElem?_eq_some_iff.1 hx
  have e : ws = ws.take k ++ (x :: ws.drop (k + 1)) := by
    rw [← hk2, ← List.drop_eq_getElem_cons hk1, List.take_append_drop]
  rw [e, opsR_app, h]
  simp [opsR, ho]
/-- What the reference's reading of a text gives. -/
def parseR (s : List UInt8) : List VOp × Bool :=
  if s = [] then ([], true) else match opsR (splR s [59, 32]) with
  | none => ([], false)
  | some p => (p, true)
theorem parseC_num {s : List UInt8} (hnum : ∀ ws P, opsOfL ws = some P → ∀ o ∈ P, numOk o.2.1 ∧ numOk o.2.2) : ∀ o ∈ (parseC s).1, numOk o.2.1 ∧ numOk o.2.2 := by
  unfold parseC
  split
  · intro o ho; cases ho
  · cases h : opsOfL (Lib.split s [59, 32]) with
    | none => intro o ho; cases ho
    | some p =>
      simp only
      split
      · exact hnum _ _ h
      · intro o ho; cases ho
/-- Both readings answer alike. -/
theorem parseR_eq (s : List UInt8) (hnum : ∀ ws P, opsOfL ws = some P → ∀ o ∈ P, numOk o.2.1 ∧ numOk o.2.2) : parseR s = parseC s := by
  unfold parseR
  split
  · rename_i h; subst h; rfl
  · rename_i hne
    cases hq : opsR (splR s [59, 32]) with
    | some P =>
      simp only
      obtain ⟨h1, h2⟩ := opsR_ok hq
      have hj := splR_join s [59, 32]
      rw [← h1] at hj
      have hf : formedL P = true := formedL_iff.2 fun o ho => (h2 o ho).1
      have ht : textM P = s := by rw [textM_formed hf, hj]
      have := parse_text hf (fun o ho => (h2 o ho).2)
      rw [ht] at this
      exact this.symm
    | none =>
      simp only
      rcases parseC_cases s with ⟨h, -⟩ | ⟨-, h⟩ | ⟨-, h, h2⟩
      · exact absurd h hne
      · exact h.symm
      · exfalso
        have hnm := parseC_num (s := s) hnum
        generalize (parseC s).1 = P at h hnm
        have hf : formedL P = true := by
          cases hf : formedL P with
          | true => rfl
          | false => exact absurd (by rw [← h]; unfold textM; rw [if_neg (by simp [hf])]) hne
        have hPn : P ≠ [] := by
          rintro rfl
          exact hne (by rw [← h]; rfl)
        rw [textM_formed hf] at h
        rw [← h, splR_joined (by simpa using hPn) (fun x hx => by obtain ⟨o, ho, rfl⟩ := List.mem_map.1 hx; exact textW_no (formedL_iff.1 hf o ho).1), opsR_text P (fun o ho => ⟨formedL_iff.1 hf o ho, hnm o ho⟩)] at hq
        cases hq
end Go.Proofs.YtdpbdcaefdcooaaDoor
