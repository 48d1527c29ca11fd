/-
  Texts of programs: words, numerals, and how they are read again. Plain laws: no walk.
-/
import Derived.Test.YtdpbdcaefdcooaaGreatDoorVm
import Derived.Lib.Join
import Derived.Lib.Split
import Derived.Lib.SplitLaws
import Derived.Lib.ItoaNum
import Derived.Lib.ItoaLen
import Derived.Lib.AtoiAll
import Derived.Lib.IndexMore
import Derived.Lib.CountLaws
namespace Go.Proofs.YtdpbdcaefdcooaaGreatDoor
set_option linter.unusedVariables false

/-! ### Cutting what was joined -/
theorem occ_head {s : List UInt8} {c : UInt8} {t : List UInt8} {j : Nat} (h : s[j]? ≠ some c) : Lib.occAt s (c :: t) j = false := by
  cases ho : Lib.occAt s (c :: t) j with
  | false => rfl
  | true => exact absurd (Lib.occAt_head rfl ho) h
theorem idx_miss {s : List UInt8} {c : UInt8} {t : List UInt8} (h : c ∉ s) : Lib.index s (c :: t) = -1 :=
  Lib.index_none fun j _ => occ_head fun e => h (List.mem_of_getElem? e)
theorem idx_hit {s r : List UInt8} {c : UInt8} {t : List UInt8} (h : c ∉ s) : Lib.index (s ++ (c :: t) ++ r) (c :: t) = s.length := by
  refine Lib.index_first (by simp) ?_ ?_
  · unfold Lib.occAt
    rw [List.append_assoc, List.drop_left]
    simp
  · intro j hj
    refine occ_head fun e => h ?_
    rw [List.append_assoc, List.getElem?_append_left hj] at e
    exact List.mem_of_getElem? e
theorem split_one {s : List UInt8} {c : UInt8} {t : List UInt8} (h : c ∉ s) : Lib.split s (c :: t) = [s] := by
  unfold Lib.split
  rw [Lib.count_miss (idx_miss h)]
  rfl
theorem split_more {s r : List UInt8} {c : UInt8} {t : List UInt8} (h : c ∉ s) : Lib.split (s ++ (c :: t) ++ r) (c :: t) = s :: Lib.split r (c :: t) := by
  unfold Lib.split
  have hi := idx_hit (r := r) (t := t) h
  have hd : (s ++ (c :: t) ++ r).drop (s.length + (c :: t).length) = r := by
    rw [← List.length_append, List.drop_left]
  rw [Lib.count_hit (by simp) hi, hd, Nat.add_comm 1]
  rw [Lib.splitK, if_neg (by rw [hi]; simp), hi, Int.toNat_natCast, hd, Nat.add_zero, List.append_assoc, List.take_left]
theorem split_join {c : UInt8} {t : List UInt8} : ∀ (x : List UInt8) (r : List (List UInt8)), (∀ w ∈ x :: r, c ∉ w) → Lib.split (Lib.join (x :: r) (c :: t)) (c :: t) = x :: r
  | x, [], h => by rw [Lib.join_one]; exact split_one (h x (by simp))
  | x, y :: r, h => by
    have ih := split_join (c := c) (t := t) y r (fun w hw => h w (List.mem_cons_of_mem _ hw))
    have e : Lib.join (x :: y :: r) (c :: t) = x ++ (c :: t) ++ Lib.join (y :: r) (c :: t) := by
      rw [Lib.join_cons, Lib.join_cons]
      simp [Lib.joinTail]
    rw [e, split_more (h x (by simp)), ih]

/-! ### Numerals -/
theorem dig_val {d : Nat} (h : d < 10) : (UInt8.ofNat (48 + d)).toNat = 48 + d := by rw [UInt8.toNat_ofNat_of_lt']; simp [UInt8.size]; omega
theorem dec_dig : ∀ (u : Nat) (b : UInt8), b ∈ Lib.decDigits u → 48 ≤ b.toNat ∧ b.toNat ≤ 57 := by
  intro u
  induction u using Nat.strongRecOn with
  | ind u ih =>
    intro b hb
    rw [Lib.decDigits] at hb
    split at hb
    · rw [List.mem_singleton.1 hb, dig_val (by omega)]; omega
    · rename_i h
      rcases List.mem_append.1 hb with h1 | h1
      · exact ih (u / 10) (by omega) b h1
      · rw [List.mem_singleton.1 h1, dig_val (by omega)]; omega
theorem dec_nonempty (u : Nat) : Lib.decDigits u ≠ [] := by
  rw [Lib.decDigits]; split <;> simp
theorem pu_append : ∀ (l m : List UInt8) (acc u : Nat), Lib.parseUint10 acc l = .ok u → Lib.parseUint10 acc (l ++ m) = Lib.parseUint10 u m
  | [], m, acc, u, h => by simp only [Lib.parseUint10] at h; injection h with h; subst h; rfl
  | c :: l, m, acc, u, h => by
    simp only [Lib.parseUint10] at h
    rw [List.cons_append, Lib.parseUint10]
    split at h
    · rename_i h1
      rw [if_pos h1]
      split at h
      · cases h
      · rename_i h2
        rw [if_neg h2]
        split at h
        · cases h
        · rename_i h3
          rw [if_neg h3]
          exact pu_append l m _ u h
    · cases h
theorem pu_dec : ∀ (u : Nat), u < 18446744073709551616 → Lib.parseUint10 0 (Lib.decDigits u) = .ok u := by
  intro u
  induction u using Nat.strongRecOn with
  | ind u ih =>
    intro hu
    rw [Lib.decDigits]
    split
    · rename_i h
      rw [Lib.parseUint10, if_pos (by rw [dig_val h]; omega), if_neg (by omega), if_neg (by rw [dig_val h]; omega), Lib.parseUint10, dig_val h]
      congr 1
      omega
    · rename_i h
      rw [pu_append _ _ 0 (u / 10) (ih (u / 10) (by omega) (by omega))]
      rw [Lib.parseUint10, if_pos (by rw [dig_val (by omega)]; omega), if_neg (by omega), if_neg (by rw [dig_val (by omega)]; omega), Lib.parseUint10, dig_val (by omega)]
      congr 1
      omega
theorem mag_ok {l : List UInt8} {u : Nat} (h : Lib.parseUint10 0 l = .ok u) (hne : l ≠ []) : Lib.parseMag l = .ok u := by unfold Lib.parseMag; rw [if_neg hne, h]
theorem atoi_neg {l : List UInt8} {u : Nat} (h : Lib.parseMag l = .ok u) (hu : u ≤ 9223372036854775808) : Lib.atoiAll (45 :: l) = .ok (-(u : Int)) := by
  have h1 : ¬ 9223372036854775808 < u := by omega
  simp [Lib.atoiAll, h, h1]
theorem atoi_pos {c : UInt8} {l : List UInt8} {u : Nat} (hc : 48 ≤ c.toNat) (h : Lib.parseMag (c :: l) = .ok u) (hu : u < 9223372036854775808) : Lib.atoiAll (c :: l) = .ok (u : Int) := by
  have h1 : ¬ c.toNat = 43 := by omega
  have h2 : ¬ c.toNat = 45 := by omega
  have h3 : ¬ 9223372036854775808 ≤ u := by omega
  simp [Lib.atoiAll, h1, h2, h, h3]
/-- A numeral read again is its number. -/
theorem atoi_itoa {n : Int} (h0 : -9223372036854775808 ≤ n) (h1 : n ≤ 9223372036854775807) : Lib.atoiAll (Lib.itoa n) = .ok n := by
  unfold Lib.itoa
  split
  · rename_i hn
    rw [atoi_neg (mag_ok (pu_dec n.natAbs (by omega)) (dec_nonempty _)) (by omega)]
    congr 1
    omega
  · rename_i hn
    have hp := pu_dec n.toNat (by omega)
    have hne := dec_nonempty n.toNat
    have hd := dec_dig n.toNat
    generalize Lib.decDigits n.toNat = l at hp hne hd
    match l, hne with
    | c :: r, hne =>
      have hc := hd c (by simp)
      rw [atoi_pos hc.1 (mag_ok hp hne) (by omega)]
      congr 1
      omega
theorem itoa_no {n : Int} {b : UInt8} (hb : b.toNat < 45 ∨ 57 < b.toNat) : b ∉ Lib.itoa n := by
  intro h
  unfold Lib.itoa at h
  split at h
  · rcases List.mem_cons.1 h with h | h
    · subst h; simp at hb
    · have := dec_dig _ _ h; omega
  · have := dec_dig _ _ h; omega

/-! ### Words -/
def wordB (c : Int) : List UInt8 :=
  if c = 1 then [112, 117, 115, 104] else if c = 2 then [97, 100, 100] else if c = 3 then [115, 117, 98] else if c = 4 then [109, 105, 110] else if c = 5 then [109, 97, 120] else if c = 6 then [110, 101, 103] else if c = 7 then [104, 97, 108, 102]
  else if c = 8 then [114, 111, 117, 110, 100] else if c = 9 then [115, 105, 122, 101] else if c = 10 then [103, 101, 116, 120] else if c = 11 then [103, 101, 116, 121] else if c = 12 then [115, 101, 116, 120] else if c = 13 then [115, 101, 116, 121]
  else if c = 14 then [105, 102] else if c = 15 then [108, 111, 111, 112] else []
def usesN (c : Int) : Bool := decide (c = 1 ∨ 10 ≤ c)
def usesM (c : Int) : Bool := decide (c = 15)
def textW (o : VOp) : List UInt8 := wordB o.1 ++ (if usesN o.1 = true then 32 :: Lib.itoa o.2.1 else []) ++ (if usesM o.1 = true then 32 :: Lib.itoa o.2.2 else [])
def formedL (L : List VOp) : Bool := L.all fun o => decide (vform o.1 o.2.1 o.2.2)
/-- The text of a program. -/
def textM (L : List VOp) : List UInt8 := if formedL L = true then Lib.join (L.map textW) [59, 32] else []
theorem fifteen {c : Int} (h : 1 ≤ c ∧ c ≤ 15) : c = 1 ∨ c = 2 ∨ c = 3 ∨ c = 4 ∨ c = 5 ∨ c = 6 ∨ c = 7 ∨ c = 8 ∨ c = 9 ∨ c = 10 ∨ c = 11 ∨ c = 12 ∨ c = 13 ∨ c = 14 ∨ c = 15 := by omega
theorem word_ok {c : Int} (h : 1 ≤ c ∧ c ≤ 15) : wordB c ≠ [] ∧ 32 ∉ wordB c ∧ 59 ∉ wordB c := by
  rcases fifteen h with rfl | rfl | rfl | rfl | rfl | rfl | rfl | rfl | rfl | rfl | rfl | rfl | rfl | rfl | rfl <;> decide
/-- The place of a word in the table; -1: it is no word. -/
def codeFrom (w : List UInt8) : Nat → Nat → Int
  | 0, _ => -1
  | n + 1, i => if wordB i = w then i else codeFrom w n (i + 1)
def codeOf (w : List UInt8) : Int := codeFrom w 16 0
theorem code_word {c : Int} (h : 1 ≤ c ∧ c ≤ 15) : codeOf (wordB c) = c := by
  rcases fifteen h with rfl | rfl | rfl | rfl | rfl | rfl | rfl | rfl | rfl | rfl | rfl | rfl | rfl | rfl | rfl <;> decide
theorem codeFrom_in (w : List UInt8) : ∀ (n i : Nat), codeFrom w n i = -1 ∨ ((i : Int) ≤ codeFrom w n i ∧ codeFrom w n i < i + n ∧ wordB (codeFrom w n i) = w)
  | 0, i => Or.inl rfl
  | n + 1, i => by
    unfold codeFrom
    split
    · rename_i h; exact Or.inr ⟨by omega, by omega, h⟩
    · rcases codeFrom_in w n (i + 1) with h | ⟨h1, h2, h3⟩
      · exact Or.inl h
      · exact Or.inr ⟨by omega, by omega, h3⟩

/-! ### Reading -/
def atoiV (s : List UInt8) : Int := match Lib.atoiAll s with
  | .ok v => v
  | .range => Lib.atoiSat s
  | _ => 0
def fieldV (l : List (List UInt8)) (i : Nat) : Int := match l[i]? with | some x => atoiV x | none => 0
/-- The operation of a part of a text. -/
def opOf (x : List UInt8) : Option VOp :=
  let l := Lib.split x [32]
  let w := l.getD 0 []
  if w = [] ∨ codeOf w < 0 then none else some (codeOf w, fieldV l 1, fieldV l 2)
def opsOfL : List (List UInt8) → Option (List VOp)
  | [] => some []
  | x :: r => match opOf x with
    | none => none
    | some o => match opsOfL r with
      | none => none
      | some p => some (o :: p)
/-- What reading a text gives. -/
def parseC (s : List UInt8) : List VOp × Bool :=
  if s = [] then ([], true) else match opsOfL (Lib.split s [59, 32]) with
  | none => ([], false)
  | some p => if textM p = s then (p, true) else ([], false)
theorem parseC_cases (s : List UInt8) : (s = [] ∧ parseC s = ([], true)) ∨ (s ≠ [] ∧ parseC s = ([], false)) ∨ (s ≠ [] ∧ textM (parseC s).1 = s ∧ (parseC s).2 = true) := by
  unfold parseC
  split
  · rename_i h; exact Or.inl ⟨h, rfl⟩
  · rename_i h
    cases opsOfL (Lib.split s [59, 32]) with
    | none => exact Or.inr (Or.inl ⟨h, rfl⟩)
    | some p =>
      simp only
      split
      · rename_i h2; exact Or.inr (Or.inr ⟨h, h2, rfl⟩)
      · exact Or.inr (Or.inl ⟨h, rfl⟩)

def numOk (n : Int) : Prop := -9223372036854775808 ≤ n ∧ n ≤ 9223372036854775807
theorem textW_no {o : VOp} (h : 1 ≤ o.1 ∧ o.1 ≤ 15) : 59 ∉ textW o := by
  obtain ⟨h1, h2, h3⟩ := word_ok h
  unfold textW
  intro hm
  rcases List.mem_append.1 hm with hm | hm
  · rcases List.mem_append.1 hm with hm | hm
    · exact h3 hm
    · split at hm
      · rcases List.mem_cons.1 hm with h | h
        · cases h
        · exact itoa_no (Or.inr (by decide)) h
      · cases hm
  · split at hm
    · rcases List.mem_cons.1 hm with h | h
      · cases h
      · exact itoa_no (Or.inr (by decide)) h
    · cases hm
theorem textW_ne {o : VOp} (h : 1 ≤ o.1 ∧ o.1 ≤ 15) : textW o ≠ [] := by
  obtain ⟨h1, -⟩ := word_ok h
  unfold textW
  simp [h1]
theorem opOf_text {o : VOp} (hf : vform o.1 o.2.1 o.2.2) (hn : numOk o.2.1) (hm : numOk o.2.2) : opOf (textW o) = some o := by
  obtain ⟨c, n, m⟩ := o
  obtain ⟨hc, hn0, hm0⟩ := hf
  simp only at hc hn0 hm0 hn hm
  obtain ⟨w1, w2, w3⟩ := word_ok hc
  have hcode := code_word hc
  have i1 : (32 : UInt8) ∉ Lib.itoa n := itoa_no (Or.inl (by decide))
  have i2 : (32 : UInt8) ∉ Lib.itoa m := itoa_no (Or.inl (by decide))
  have a1 : atoiV (Lib.itoa n) = n := by unfold atoiV; rw [atoi_itoa hn.1 hn.2]
  have a2 : atoiV (Lib.itoa m) = m := by unfold atoiV; rw [atoi_itoa hm.1 hm.2]
  have key : Lib.split (textW (c, n, m)) [32] = wordB c :: ((if usesN c = true then [Lib.itoa n] else []) ++ (if usesM c = true then [Lib.itoa m] else [])) := by
    unfold textW
    simp only
    by_cases hN : usesN c = true
    · rw [if_pos hN, if_pos hN]
      by_cases hM : usesM c = true
      · rw [if_pos hM, if_pos hM]
        have e : wordB c ++ 32 :: Lib.itoa n ++ 32 :: Lib.itoa m = wordB c ++ [32] ++ (Lib.itoa n ++ [32] ++ Lib.itoa m) := by simp
        rw [e, split_more w2, split_more i1, split_one i2]
        rfl
      · rw [if_neg hM, if_neg hM, List.append_nil, List.append_nil]
        have e : wordB c ++ 32 :: Lib.itoa n = wordB c ++ [32] ++ Lib.itoa n := by simp
        rw [e, split_more w2, split_one i1]
    · have hM : ¬ usesM c = true := by unfold usesN usesM at *; simp at hN ⊢; omega
      rw [if_neg hN, if_neg hN, if_neg hM, if_neg hM, List.append_nil, List.append_nil, split_one w2]
      rfl
  unfold opOf
  simp only [key, List.getD_cons_zero]
  rw [if_neg (by rintro (h | h); exact w1 h; rw [hcode] at h; omega), hcode]
  have f1 : fieldV (wordB c :: ((if usesN c = true then [Lib.itoa n] else []) ++ (if usesM c = true then [Lib.itoa m] else []))) 1 = n := by
    by_cases hN : usesN c = true
    · rw [if_pos hN]; simp [fieldV, a1]
    · have hM : ¬ usesM c = true := by unfold usesN usesM at *; simp at hN ⊢; omega
      have h0 : n = 0 := by unfold usesN at hN; simp at hN; omega
      rw [if_neg hN, if_neg hM, h0]; simp [fieldV]
  have f2 : fieldV (wordB c :: ((if usesN c = true then [Lib.itoa n] else []) ++ (if usesM c = true then [Lib.itoa m] else []))) 2 = m := by
    by_cases hM : usesM c = true
    · have hN : usesN c = true := by unfold usesN usesM at *; simp at hM ⊢; omega
      rw [if_pos hN, if_pos hM]; simp [fieldV, a2]
    · have h0 : m = 0 := by unfold usesM at hM; simp at hM; omega
      rw [if_neg hM, h0]
      by_cases hN : usesN c = true
      · rw [if_pos hN]; simp [fieldV]
      · rw [if_neg hN]; simp [fieldV]
  rw [f1, f2]
theorem opsOfL_text : ∀ L : List VOp, (∀ o ∈ L, vform o.1 o.2.1 o.2.2 ∧ numOk o.2.1 ∧ numOk o.2.2) → opsOfL (L.map textW) = some L
  | [], _ => rfl
  | o :: L, h => by
    obtain ⟨h1, h2, h3⟩ := h o (by simp)
    rw [List.map_cons, opsOfL, opOf_text h1 h2 h3]
    simp only
    rw [opsOfL_text L (fun x hx => h x (List.mem_cons_of_mem _ hx))]
theorem formedL_iff {L : List VOp} : formedL L = true ↔ ∀ o ∈ L, vform o.1 o.2.1 o.2.2 := by unfold formedL; rw [List.all_eq_true]; simp
theorem textM_formed {L : List VOp} (h : formedL L = true) : textM L = Lib.join (L.map textW) [59, 32] := by unfold textM; rw [if_pos h]
theorem textM_ne {o : VOp} {L : List VOp} (h : formedL (o :: L) = true) : textM (o :: L) ≠ [] := by
  rw [textM_formed h, List.map_cons, Lib.join_cons]
  have := textW_ne (formedL_iff.1 h o (by simp)).1
  simp [this]
/-- The text of a program read again is the program. -/
theorem parse_text {L : List VOp} (h : formedL L = true) (hn : ∀ o ∈ L, numOk o.2.1 ∧ numOk o.2.2) : parseC (textM L) = (L, true) := by
  match L, h, hn with
  | [], _, _ => rfl
  | o :: L, h, hn =>
    have hne := textM_ne h
    have hall := formedL_iff.1 h
    have hsp : Lib.split (textM (o :: L)) [59, 32] = (o :: L).map textW := by
      rw [textM_formed h, List.map_cons]
      refine split_join _ _ fun w hw => ?_
      rw [← List.map_cons] at hw
      obtain ⟨x, hx, rfl⟩ := List.mem_map.1 hw
      exact textW_no (hall x hx).1
    unfold parseC
    rw [if_neg hne, hsp, opsOfL_text _ (fun x hx => ⟨hall x hx, hn x hx⟩)]
    simp
/-- What is not empty is the text of one program at most. -/
theorem text_inj {L M : List VOp} (hL : ∀ o ∈ L, numOk o.2.1 ∧ numOk o.2.2) (hM : ∀ o ∈ M, numOk o.2.1 ∧ numOk o.2.2) (h : textM L = textM M) (hne : textM L ≠ []) : L = M := by
  have f : ∀ X : List VOp, textM X ≠ [] → formedL X = true := by
    intro X hX
    cases hf : formedL X with
    | true => rfl
    | false => exact absurd (by unfold textM; rw [if_neg (by simp [hf])]) hX
  have h1 := parse_text (f L hne) hL
  have h2 := parse_text (f M (by rw [← h]; exact hne)) hM
  rw [h, h2] at h1
  exact (congrArg Prod.fst h1).symm
end Go.Proofs.YtdpbdcaefdcooaaGreatDoor
