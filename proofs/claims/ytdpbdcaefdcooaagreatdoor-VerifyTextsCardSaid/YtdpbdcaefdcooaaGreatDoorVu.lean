/-
  How the reference of chapter 08 reads texts: what it computes is parseC, too. Plain laws: no walk.
-/
import Derived.Test.YtdpbdcaefdcooaaGreatDoorVt
import Derived.Laws.BitsLemmas
namespace Go.Proofs.YtdpbdcaefdcooaaGreatDoor
set_option linter.unusedVariables false
set_option linter.unusedSimpArgs false

/-! ### Joining what was cut -/
theorem splitK_ne (sep : List UInt8) (k : Nat) (s : List UInt8) : ∃ y r, Lib.splitK sep 0 k s = y :: r := by
  cases k with
  | zero => exact ⟨s, [], rfl⟩
  | succ k =>
    unfold Lib.splitK
    split
    · exact ⟨_, _, rfl⟩
    · exact ⟨_, _, rfl⟩
theorem join_two (x y : List UInt8) (r : List (List UInt8)) (sep : List UInt8) : Lib.join (x :: y :: r) sep = x ++ sep ++ Lib.join (y :: r) sep := by
  rw [Lib.join_cons, Lib.join_cons]
  simp [Lib.joinTail]
theorem join_splitK (sep : List UInt8) : ∀ (k : Nat) (s : List UInt8), Lib.join (Lib.splitK sep 0 k s) sep = s
  | 0, s => Lib.join_one s sep
  | k + 1, s => by
    unfold Lib.splitK
    split
    · exact Lib.join_one s sep
    · rename_i h
      have ih := join_splitK sep k (s.drop ((Lib.index s sep).toNat + sep.length))
      obtain ⟨y, r, e⟩ := splitK_ne sep k (s.drop ((Lib.index s sep).toNat + sep.length))
      rw [e] at ih ⊢
      rw [join_two, ih]
      rcases Lib.index_spec s sep with ⟨h1, -⟩ | ⟨i, h1, h2, h3, -⟩
      · rw [h1] at h; exact absurd rfl h
      · rw [h1, Int.toNat_natCast, Nat.add_zero]
        unfold Lib.occAt at h3
        obtain ⟨t, ht⟩ := List.isPrefixOf_iff_prefix.1 h3
        have e1 : s.drop (i + sep.length) = t := by rw [← List.drop_drop, ← ht, List.drop_left]
        rw [e1, List.append_assoc, ht, List.take_append_drop]
theorem join_split (s sep : List UInt8) : Lib.join (Lib.split s sep) sep = s := join_splitK sep _ s

/-! ### Cutting, place by place -/
theorem occ_drop (s sep : List UInt8) (f j : Nat) : Lib.occAt (s.drop f) sep j = Lib.occAt s sep (f + j) := by
  unfold Lib.occAt
  rw [List.drop_drop]
theorem split_step {s sep : List UInt8} {f k : Nat} (hsep : sep ≠ []) (hf : f ≤ k) (hno : ∀ j, f ≤ j → j < k → Lib.occAt s sep j = false) (hk : k + sep.length ≤ s.length) (ho : Lib.occAt s sep k = true) :
    Lib.split (s.drop f) sep = (s.drop f).take (k - f) :: Lib.split (s.drop (k + sep.length)) sep := by
  have hi : Lib.index (s.drop f) sep = ((k - f : Nat) : Int) := by
    refine Lib.index_first (by rw [List.length_drop]; omega) ?_ ?_
    · rw [occ_drop, show f + (k - f) = k by omega]; exact ho
    · intro j hj
      rw [occ_drop]
      exact hno _ (by omega) (by omega)
  unfold Lib.split
  rw [Lib.count_hit hsep hi, List.drop_drop, show f + (k - f + sep.length) = k + sep.length by omega, Nat.add_comm 1, Lib.splitK, if_neg (by rw [hi]; simp), hi, Int.toNat_natCast, List.drop_drop, Nat.add_zero, show f + (k - f + sep.length) = k + sep.length by omega]
theorem split_end {s sep : List UInt8} {f k : Nat} (hsep : sep ≠ []) (hno : ∀ j, f ≤ j → j < k → Lib.occAt s sep j = false) (hk : s.length < k + sep.length) : Lib.split (s.drop f) sep = [s.drop f] := by
  have hi : Lib.index (s.drop f) sep = -1 := by
    refine Lib.index_none fun j _ => ?_
    rw [occ_drop]
    rcases Nat.lt_or_ge (f + j) k with h | h
    · exact hno _ (by omega) h
    · cases ho : Lib.occAt s sep (f + j) with
      | false => rfl
      | true => rcases Lib.occAt_room ho with h1 | h1
                · omega
                · exact absurd h1 hsep
  unfold Lib.split
  rw [Lib.count_miss hi]
  rfl

/-! ### Numbers -/
/-- The digits of a number, one after the other; a '-' may stand ahead. -/
def numGo : Bool → Int → List UInt8 → Option Int
  | _, n, [] => some n
  | b, n, c :: l => if b = true ∧ c = 45 then numGo false n l else if c.toNat < 48 ∨ 57 < c.toNat then none else numGo false (IntKind.i64.wrap (IntKind.i64.wrap (10 * n) + ((c.toNat : Int) - 48))) l
/-- The number that a string is. -/
def numV (s : List UInt8) (n : Int) : Int := if s.head? = some 45 then IntKind.i64.wrap (-n) else n
def numM (s : List UInt8) : Int × Bool := match numGo true 0 s with
  | none => (0, false)
  | some n => (numV s n, decide (Lib.itoa (numV s n) = s))
theorem numGo_ok : ∀ (s : List UInt8) (b : Bool) (n r : Int), numOk n → numGo b n s = some r → numOk r
  | [], b, n, r, hn, h => by
    simp only [numGo, Option.some.injEq] at h
    subst h; exact hn
  | c :: l, b, n, r, hn, h => by
    unfold numGo at h
    split at h
    · exact numGo_ok l false n r hn h
    · split at h
      · cases h
      · refine numGo_ok l false _ r ?_ h
        rw [IntKind.wrap_i64]; unfold numOk; omega
theorem numGo_app : ∀ (l m : List UInt8) (n r : Int), (∀ c ∈ l, 48 ≤ c.toNat) → numGo false n l = some r → numGo false n (l ++ m) = numGo false r m
  | [], m, n, r, hc, h => by
    simp only [numGo, Option.some.injEq] at h
    subst h; rfl
  | c :: l, m, n, r, hc, h => by
    have h1 := hc c (by simp)
    rw [List.cons_append]
    rw [numGo]
    rw [numGo] at h
    simp only [Bool.false_eq_true, false_and, if_false] at h ⊢
    split at h
    · cases h
    · rename_i h2
      rw [if_neg h2]
      exact numGo_app l m _ r (fun c hm => hc c (List.mem_cons_of_mem _ hm)) h
theorem numGo_dec : ∀ u : Nat, numGo false 0 (Lib.decDigits u) = some (IntKind.i64.wrap u) := by
  intro u
  induction u using Nat.strongRecOn with
  | ind u ih =>
    rw [Lib.decDigits]
    split
    · rename_i h
      unfold numGo
      rw [if_neg (by simp), if_neg (by rw [dig_val h]; omega), numGo, dig_val h]
      congr 1
      simp only [IntKind.wrap_i64]
      omega
    · rename_i h
      rw [numGo_app (Lib.decDigits (u / 10)) _ 0 _ (fun c hc => (dec_dig (u / 10) c hc).1) (ih (u / 10) (by omega))]
      unfold numGo
      rw [if_neg (by simp), if_neg (by rw [dig_val (by omega)]; omega), numGo, dig_val (by omega)]
      congr 1
      simp only [IntKind.wrap_i64]
      omega
theorem numGo_first {c : UInt8} {l : List UInt8} (n : Int) (h : c ≠ 45) : numGo true n (c :: l) = numGo false n (c :: l) := by
  simp [numGo, h]
/-- A numeral is its number. -/
theorem numM_itoa {v : Int} (h : numOk v) : numM (Lib.itoa v) = (v, true) := by
  have key : ∃ n, numGo true 0 (Lib.itoa v) = some n ∧ numV (Lib.itoa v) n = v := by
    unfold numOk at h
    unfold Lib.itoa
    split
    · rename_i hn
      refine ⟨IntKind.i64.wrap (v.natAbs : Nat), ?_, ?_⟩
      · unfold numGo
        rw [if_pos ⟨rfl, rfl⟩, numGo_dec]
      · unfold numV
        rw [if_pos (by rfl)]
        simp only [IntKind.wrap_i64]
        omega
    · rename_i hn
      have hd := dec_dig v.toNat
      have hg := numGo_dec v.toNat
      have hne := dec_nonempty v.toNat
      generalize Lib.decDigits v.toNat = l at hd hg hne
      match l, hne with
      | c :: r, _ =>
        have hc := (hd c (by simp)).1
        have h45 : c ≠ 45 := fun e => by subst e; exact absurd hc (by decide)
        refine ⟨_, (numGo_first 0 h45).trans hg, ?_⟩
        unfold numV
        rw [if_neg (by simp [h45])]
        simp only [IntKind.wrap_i64]
        omega
  obtain ⟨n, h1, h2⟩ := key
  unfold numM
  rw [h1]
  simp only [h2, decide_true]
theorem numM_ok {s : List UInt8} {v : Int} (h : numM s = (v, true)) : Lib.itoa v = s ∧ numOk v := by
  unfold numM at h
  cases hg : numGo true 0 s with
  | none => rw [hg] at h; cases h
  | some n =>
    rw [hg] at h
    simp only [Prod.mk.injEq, decide_eq_true_eq] at h
    obtain ⟨h1, h2⟩ := h
    subst h1
    refine ⟨h2, ?_⟩
    have hn := numGo_ok s true 0 n (by unfold numOk; omega) hg
    unfold numV
    split
    · rw [IntKind.wrap_i64]; unfold numOk; omega
    · exact hn

theorem numOk0 : numOk 0 := by unfold numOk; omega

/-! ### Operations -/
def codeR (w : List UInt8) : Int := codeFrom w 15 1
theorem codeR_in (w : List UInt8) : codeR w = -1 ∨ (1 ≤ codeR w ∧ codeR w ≤ 15 ∧ wordB (codeR w) = w) := by
  unfold codeR
  rcases codeFrom_in w 15 1 with h | ⟨h1, h2, h3⟩
  · exact Or.inl h
  · exact Or.inr ⟨by omega, by omega, h3⟩
theorem codeR_word {c : Int} (h : 1 ≤ c ∧ c ≤ 15) : codeR (wordB c) = c := by
  rcases fifteen h with rfl | rfl | rfl | rfl | rfl | rfl | rfl | rfl | rfl | rfl | rfl | rfl | rfl | rfl | rfl <;> decide
def manyW (c : Int) : Nat := 1 + (if usesN c = true then 1 else 0) + (if usesM c = true then 1 else 0)
/-- The numbers of an operation, and whether they are numbers. -/
def rNum (c : Int) (l : List (List UInt8)) : Int × Bool := if usesN c = true then numM (l.getD 1 []) else (0, true)
def rNum2 (c : Int) (l : List (List UInt8)) : Int × Bool := if usesM c = true ∧ (rNum c l).2 = true then numM (l.getD 2 []) else (0, (rNum c l).2)
/-- The operation of a part of a text, as the reference reads it. -/
def rOpL (l : List (List UInt8)) : Option VOp :=
  let c := codeR (l.getD 0 [])
  if c < 0 then none else if l.length ≠ manyW c then none else if (rNum2 c l).2 = true then some (c, (rNum c l).1, (rNum2 c l).1) else none
def rOpM (x : List UInt8) : Option VOp := rOpL (Lib.split x [32])
theorem usesNM {c : Int} (h : usesM c = true) : usesN c = true := by unfold usesN usesM at *; simp at h ⊢; omega
theorem rOpM_text {x : List UInt8} {o : VOp} (h : rOpM x = some o) : vform o.1 o.2.1 o.2.2 ∧ numOk o.2.1 ∧ numOk o.2.2 ∧ textW o = x := by
  have hj := join_split x [32]
  unfold rOpM rOpL at h
  generalize Lib.split x [32] = l at h hj
  simp only at h
  rcases codeR_in (l.getD 0 []) with hc | ⟨hc1, hc2, hw⟩
  · rw [if_pos (by omega)] at h; cases h
  rw [if_neg (by omega)] at h
  generalize codeR (l.getD 0 []) = c at h hc1 hc2 hw
  split at h
  · cases h
  rename_i hl
  have hl : l.length = manyW c := by omega
  split at h
  · rename_i h2
    cases h
    simp only
    unfold manyW at hl
    unfold rNum2 at h2
    unfold rNum2
    unfold rNum at *
    by_cases hN : usesN c = true
    · by_cases hM : usesM c = true
      · simp only [hN, hM, if_true, true_and] at h2 hl ⊢
        match l, hl with
        | [a, b, d], _ =>
        simp only [List.getD_cons_zero, List.getD_cons_succ] at h2 hw ⊢
        by_cases hb : (numM b).2 = true
        · simp only [hb, if_true] at h2 ⊢
          obtain ⟨e1, e2⟩ := numM_ok (s := b) (v := (numM b).1) (by rw [← hb])
          obtain ⟨e3, e4⟩ := numM_ok (s := d) (v := (numM d).1) (by rw [← h2])
          refine ⟨⟨⟨hc1, hc2⟩, ?_, ?_⟩, e2, e4, ?_⟩
          · unfold usesN at hN; simp at hN; omega
          · unfold usesM at hM; simp at hM; omega
          · unfold textW
            simp only [hN, hM, if_true, e1, e3, hw]
            rw [← hj, join_two, join_two, Lib.join_one]
            simp
        · rw [if_neg hb] at h2; exact absurd h2 hb
      · simp only [hN, hM, if_true, false_and, if_false, Bool.false_eq_true] at h2 hl ⊢
        match l, hl with
        | [a, b], _ =>
        simp only [List.getD_cons_zero, List.getD_cons_succ] at h2 hw ⊢
        obtain ⟨e1, e2⟩ := numM_ok (s := b) (v := (numM b).1) (by rw [← h2])
        refine ⟨⟨⟨hc1, hc2⟩, ?_, ?_⟩, e2, numOk0, ?_⟩
        · unfold usesN at hN; simp at hN; omega
        · exact Or.inr rfl
        · unfold textW
          simp only [hN, hM, if_true, if_false, e1, hw]
          rw [← hj, join_two, Lib.join_one]
          simp
    · have hM : ¬ usesM c = true := fun e => hN (usesNM e)
      simp only [hN, hM, if_false, false_and, Bool.false_eq_true] at h2 hl ⊢
      match l, hl with
      | [a], _ =>
      simp only [List.getD_cons_zero] at hw ⊢
      refine ⟨⟨⟨hc1, hc2⟩, Or.inr (Or.inr rfl), Or.inr rfl⟩, numOk0, numOk0, ?_⟩
      unfold textW
      simp only [hN, hM, if_false, hw]
      rw [← hj, Lib.join_one]
      simp
  · cases h
theorem split_text {o : VOp} (hc : 1 ≤ o.1 ∧ o.1 ≤ 15) : Lib.split (textW o) [32] = wordB o.1 :: ((if usesN o.1 = true then [Lib.itoa o.2.1] else []) ++ (if usesM o.1 = true then [Lib.itoa o.2.2] else [])) := by
  obtain ⟨c, n, m⟩ := o
  obtain ⟨w1, w2, w3⟩ := word_ok hc
  have i1 : (32 : UInt8) ∉ Lib.itoa n := itoa_no (Or.inl (by decide))
  have i2 : (32 : UInt8) ∉ Lib.itoa m := itoa_no (Or.inl (by decide))
  unfold textW
  simp only at w2 ⊢
  by_cases hN : usesN c = true
  · rw [if_pos hN, if_pos hN]
    by_cases hM : usesM c = true
    · rw [if_pos hM, if_pos hM]
      have e : wordB c ++ 32 :: Lib.itoa n ++ 32 :: Lib.itoa m = wordB c ++ [32] ++ (Lib.itoa n ++ [32] ++ Lib.itoa m) := by simp
      rw [e, split_more w2, split_more i1, split_one i2]
      rfl
    · rw [if_neg hM, if_neg hM, List.append_nil, List.append_nil]
      have e : wordB c ++ 32 :: Lib.itoa n = wordB c ++ [32] ++ Lib.itoa n := by simp
      rw [e, split_more w2, split_one i1]
  · have hM : ¬ usesM c = true := fun e => hN (usesNM e)
    rw [if_neg hN, if_neg hN, if_neg hM, if_neg hM, List.append_nil, List.append_nil, split_one w2]
    rfl
theorem rOpM_of_text {o : VOp} (hf : vform o.1 o.2.1 o.2.2) (hn : numOk o.2.1) (hm : numOk o.2.2) : rOpM (textW o) = some o := by
  have hc := hf.1
  have key := split_text hc
  obtain ⟨c, n, m⟩ := o
  obtain ⟨-, hn0, hm0⟩ := hf
  simp only at hc hn0 hm0 hn hm key
  have hcode := codeR_word hc
  have a1 := numM_itoa hn
  have a2 := numM_itoa hm
  unfold rOpM rOpL
  rw [key]
  simp only [List.getD_cons_zero, hcode]
  rw [if_neg (by omega)]
  by_cases hN : usesN c = true
  · by_cases hM : usesM c = true
    · simp [manyW, rNum, rNum2, hN, hM, a1, a2]
    · have h0 : m = 0 := by unfold usesM at hM; simp at hM; omega
      simp [manyW, rNum, rNum2, hN, hM, a1, h0]
  · have hM : ¬ usesM c = true := fun e => hN (usesNM e)
    have h0 : n = 0 := by unfold usesN at hN; simp at hN; omega
    have h1 : m = 0 := by unfold usesM at hM; simp at hM; omega
    simp [manyW, rNum, rNum2, hN, hM, h0, h1]

/-! ### Texts -/
def rOpsL : List (List UInt8) → Option (List VOp)
  | [] => some []
  | x :: r => match rOpM x with
    | none => none
    | some o => match rOpsL r with
      | none => none
      | some p => some (o :: p)
/-- What reading a text gives, as the reference reads it. -/
def rParseM (s : List UInt8) : List VOp × Bool :=
  if s = [] then ([], true) else match rOpsL (Lib.split s [59, 32]) with
  | none => ([], false)
  | some p => (p, true)
theorem rOpsL_text : ∀ L : List VOp, (∀ o ∈ L, vform o.1 o.2.1 o.2.2 ∧ numOk o.2.1 ∧ numOk o.2.2) → rOpsL (L.map textW) = some L
  | [], _ => rfl
  | o :: L, h => by
    obtain ⟨h1, h2, h3⟩ := h o (by simp)
    rw [List.map_cons, rOpsL, rOpM_of_text h1 h2 h3]
    simp only
    rw [rOpsL_text L (fun x hx => h x (List.mem_cons_of_mem _ hx))]
theorem rOpsL_ok : ∀ {ws : List (List UInt8)} {P : List VOp}, rOpsL ws = some P → (∀ o ∈ P, vform o.1 o.2.1 o.2.2 ∧ numOk o.2.1 ∧ numOk o.2.2) ∧ P.map textW = ws
  | [], P, h => by simp only [rOpsL, Option.some.injEq] at h; subst h; simp
  | x :: ws, P, h => by
    unfold rOpsL at h
    cases ho : rOpM x with
    | none => rw [ho] at h; cases h
    | some o =>
      rw [ho] at h
      simp only at h
      cases hq : rOpsL ws with
      | none => rw [hq] at h; cases h
      | some p =>
        rw [hq] at h
        simp only [Option.some.injEq] at h
        subst h
        obtain ⟨h1, h2⟩ := rOpsL_ok hq
        obtain ⟨t1, t2, t3, t4⟩ := rOpM_text ho
        refine ⟨fun y hy => ?_, by rw [List.map_cons, t4, h2]⟩
        rcases List.mem_cons.1 hy with rfl | hy
        · exact ⟨t1, t2, t3⟩
        · exact h1 y hy
theorem rOpsL_app : ∀ (a b : List (List UInt8)), rOpsL (a ++ b) = match rOpsL a with
    | none => none
    | some p => match rOpsL b with
      | none => none
      | some q => some (p ++ q)
  | [], b => by
    simp only [List.nil_append, rOpsL]
    cases rOpsL b <;> rfl
  | x :: a, b => by
    rw [List.cons_append, rOpsL, rOpsL, rOpsL_app a b]
    cases rOpM x with
    | none => rfl
    | some o =>
      simp only
      cases rOpsL a with
      | none => rfl
      | some p =>
        simp only
        cases rOpsL b <;> rfl
theorem rOpsL_next {ws : List (List UInt8)} {k : Nat} {x : List UInt8} {P : List VOp} {o : VOp} (h : rOpsL (ws.take k) = some P) (hx : ws[k]? = some x) (ho : rOpM x = some o) : rOpsL (ws.take (k + 1)) = some (P ++ [o]) := by
  rw [List.take_add_one, hx, rOpsL_app, h]
  simp [rOpsL, ho]
theorem rOpsL_fail {ws : List (List UInt8)} {k : Nat} {x : List UInt8} {P : List VOp} (h : rOpsL (ws.take k) = some P) (hx : ws[k]? = some x) (ho : rOpM x = none) : rOpsL ws = none := by
  obtain ⟨hk1, hk2⟩ := (List.getElem?_eq_some_iff.1 hx)
  have e : ws = ws.take k ++ (x :: ws.drop (k + 1)) := by
    rw [← hk2, ← List.drop_eq_getElem_cons hk1, List.take_append_drop]
  rw [e, rOpsL_app, h]
  simp [rOpsL, ho]
theorem rParse_some {s : List UInt8} {P : List VOp} (h0 : s ≠ []) (h : rOpsL (Lib.split s [59, 32]) = some P) : parseC s = (P, true) := by
  obtain ⟨h1, h2⟩ := rOpsL_ok h
  have hf : formedL P = true := formedL_iff.2 fun o ho => (h1 o ho).1
  have ht : textM P = s := by
    rw [textM_formed hf, h2, join_split]
  rw [← ht]
  exact parse_text hf fun o ho => (h1 o ho).2
theorem rParse_none {s : List UInt8} (h0 : s ≠ []) (h : rOpsL (Lib.split s [59, 32]) = none) (hok : ∀ P, opsOfL (Lib.split s [59, 32]) = some P → ∀ o ∈ P, numOk o.2.1 ∧ numOk o.2.2) : parseC s = ([], false) := by
  have key : ∀ P, opsOfL (Lib.split s [59, 32]) = some P → textM P = s → False := by
    intro P hP ht
    have hn := hok P hP
    have hf : formedL P = true := by
      cases hf : formedL P with
      | true => rfl
      | false => exact absurd (by rw [← ht]; unfold textM; rw [if_neg (by simp [hf])]) h0
    have hall := formedL_iff.1 hf
    match P, hP, ht, hn, hf, hall with
    | [], _, ht, _, _, _ => exact h0 ht.symm
    | o :: L, _, ht, hn, hf, hall =>
      have hsp : Lib.split s [59, 32] = (o :: L).map textW := by
        rw [← ht, textM_formed hf, List.map_cons]
        refine split_join _ _ fun w hw => ?_
        rw [← List.map_cons] at hw
        obtain ⟨x, hx, rfl⟩ := List.mem_map.1 hw
        exact textW_no (hall x hx).1
      rw [hsp, rOpsL_text _ (fun x hx => ⟨hall x hx, hn x hx⟩)] at h
      cases h
  unfold parseC
  rw [if_neg h0]
  cases hP : opsOfL (Lib.split s [59, 32]) with
  | none => rfl
  | some P =>
    simp only
    rw [if_neg (fun ht => key P hP ht)]

/-! ### Numerals, as the reference writes them -/
theorem dec_one {u : Nat} (h : u < 10) : Lib.decDigits u = [UInt8.ofNat (48 + u)] := by rw [Lib.decDigits, dif_pos h]
theorem itoa_small {n : Int} (h0 : 0 ≤ n) (h1 : n < 10) (c : UInt8) (hc : (c.toNat : Int) = 48 + n) : Lib.itoa n = [c] := by
  unfold Lib.itoa
  rw [if_neg (by omega), Lib.decDigits, dif_pos (by omega)]
  congr 1
  apply UInt8.toNat_inj.1
  rw [dig_val (by omega)]
  omega
theorem itoa_neg {n : Int} (h0 : n < 0) (h1 : -10 < n) : Lib.itoa n = 45 :: Lib.itoa (-n) := by
  unfold Lib.itoa
  rw [if_pos h0, if_neg (by omega), show n.natAbs = (-n).toNat by omega]
theorem itoa_big {n : Int} (h0 : 10 ≤ n) : Lib.itoa n = Lib.itoa (n / 10) ++ Lib.itoa (n % 10) := by
  unfold Lib.itoa
  rw [if_neg (by omega), if_neg (by omega), if_neg (by omega), Lib.decDigits, dif_neg (by omega), dec_one (u := (n % 10).toNat) (by omega), show (n / 10).toNat = n.toNat / 10 by omega, show (n % 10).toNat = n.toNat % 10 by omega]
theorem itoa_bigneg {n r l : Int} (h0 : n ≤ -10) (hr : r = -((-n) / 10)) (hl : l = (-n) % 10) : Lib.itoa n = Lib.itoa r ++ Lib.itoa l := by
  unfold Lib.itoa
  rw [if_pos (by omega), if_pos (by omega), if_neg (by omega), Lib.decDigits, dif_neg (by omega), dec_one (u := l.toNat) (by omega), show r.natAbs = n.natAbs / 10 by omega, show l.toNat = n.natAbs % 10 by omega]
  rfl
end Go.Proofs.YtdpbdcaefdcooaaGreatDoor
