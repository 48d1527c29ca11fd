/-
  Rows of text, in plain words: a string cut at each byte 10; the texts of pictures, and what a text is the text of. Of no program.
-/
import Derived.WalkKit
import Derived.Lib.SplitLaws
namespace Go.Proofs.YtaafmgkjfmngjaaDoor
set_option linter.unusedVariables false

/-- The pieces of a list between its bytes 10. -/
def lines : List UInt8 → List (List UInt8)
  | [] => [[]]
  | c :: l => if c = 10 then [] :: lines l else match lines l with | [] => [[c]] | r :: rs => (c :: r) :: rs
theorem lines_ne (l : List UInt8) : lines l ≠ [] := by
  cases l with
  | nil => simp [lines]
  | cons c l => unfold lines; split <;> (try split) <;> simp
theorem lines_cons {c : UInt8} {l r : List UInt8} {rs : List (List UInt8)} (hc : c ≠ 10) (h : lines l = r :: rs) : lines (c :: l) = (c :: r) :: rs := by
  rw [lines, if_neg hc, h]
theorem lines_nl (l : List UInt8) : lines (10 :: l) = [] :: lines l := by rw [lines, if_pos rfl]
theorem split_lines (s : List UInt8) : Lib.split s [10] = lines s := by
  induction s with
  | nil => rfl
  | cons b l ih =>
    unfold Lib.split at ih ⊢
    by_cases h : b = 10
    · subst h
      have hix : Lib.index (10 :: l) [10] = ((0 : Nat) : Int) := by rw [Lib.index]; simp [List.isPrefixOf]
      rw [Lib.count_cons_eq, Nat.add_comm, Lib.splitK, hix, lines_nl, ← ih]
      simp
    · have hc := Lib.count_cons_ne b 10 l h
      have hp : ([10] : List UInt8).isPrefixOf (b :: l) = false := by simp [List.isPrefixOf, Ne.symm h]
      have hix : Lib.index (b :: l) [10] = if Lib.index l [10] == -1 then -1 else Lib.index l [10] + 1 := by rw [Lib.index, hp]; simp
      rw [hc]
      cases hk : Lib.count l [10] with
      | zero =>
        rw [hk] at ih
        rw [Lib.splitK] at ih ⊢
        rw [lines_cons h ih.symm]
      | succ k =>
        rw [hk] at ih
        rw [Lib.splitK] at ih ⊢
        have hge := Lib.index_ge l [10]
        by_cases hm : Lib.index l [10] = -1
        · have e1 : (Lib.index l [10] == -1) = true := beq_iff_eq.2 hm
          rw [if_pos e1] at ih
          rw [hix, if_pos e1, if_pos (by decide), lines_cons h ih.symm]
        · have e1 : ¬ (Lib.index l [10] == -1) = true := fun e => hm (beq_iff_eq.1 e)
          rw [if_neg e1] at ih
          obtain ⟨i, hi⟩ : ∃ i : Nat, Lib.index l [10] = i := ⟨(Lib.index l [10]).toNat, by omega⟩
          have e2 : ¬ ((Lib.index (b :: l) [10]) == -1) = true := fun e => by have := beq_iff_eq.1 e; rw [hix, if_neg e1] at this; omega
          rw [if_neg e2]
          have e3 : (Lib.index (b :: l) [10]).toNat = i + 1 := by rw [hix, if_neg e1]; omega
          have e4 : (Lib.index l [10]).toNat = i := by omega
          rw [e4] at ih
          rw [e3, lines_cons h ih.symm]
          simp
theorem splitB_lines (s : ByteArray) (nl : ByteArray) (h : nl.data.toList = [10]) : (Lib.splitB nl 0 (Lib.countB s nl) s).map (·.data.toList) = lines s.data.toList := by
  rw [Lib.splitB_data, h, ← split_lines]
  unfold Lib.split
  rw [show Lib.countB s nl = Lib.count s.data.toList nl.data.toList from rfl, h]

/-- The text of rows. -/
def join (R : List (List UInt8)) : List UInt8 := (R.map fun r => r ++ [10]).flatten
theorem join_cons (r : List UInt8) (R : List (List UInt8)) : join (r :: R) = r ++ [10] ++ join R := by simp [join]
theorem join_snoc (R : List (List UInt8)) (r : List UInt8) : join (R ++ [r]) = join R ++ (r ++ [10]) := by simp [join]
theorem lines_row (r l : List UInt8) (h : ∀ c ∈ r, c ≠ 10) : lines (r ++ [10] ++ l) = r :: lines l := by
  induction r with
  | nil => exact lines_nl l
  | cons c r ih =>
    have := ih fun d hd => h d (List.mem_cons_of_mem _ hd)
    exact lines_cons (h c (by simp)) this
theorem lines_join (R : List (List UInt8)) (h : ∀ r ∈ R, ∀ c ∈ r, c ≠ 10) : lines (join R) = R ++ [[]] := by
  induction R with
  | nil => rfl
  | cons r R ih =>
    rw [join_cons, lines_row r _ (h r (by simp)), ih fun q hq => h q (List.mem_cons_of_mem _ hq)]
    rfl
theorem lines_no (s : List UInt8) : ∀ r ∈ lines s, ∀ c ∈ r, c ≠ 10 := by
  induction s with
  | nil => intro r hr c hc; simp [lines] at hr; subst hr; cases hc
  | cons b l ih =>
    by_cases h : b = 10
    · subst h
      rw [lines_nl]
      intro r hr c hc
      rcases List.mem_cons.1 hr with rfl | hr
      · cases hc
      · exact ih r hr c hc
    · cases hl : lines l with
      | nil => exact absurd hl (lines_ne l)
      | cons r rs =>
        rw [lines_cons h hl]
        rw [hl] at ih
        intro q hq c hc
        rcases List.mem_cons.1 hq with rfl | hq
        · rcases List.mem_cons.1 hc with rfl | hc
          · exact h
          · exact ih r (by simp) c hc
        · exact ih q (List.mem_cons_of_mem _ hq) c hc
/-- All of a string, out of its pieces. -/
theorem lines_whole (s : List UInt8) : ∃ R t, lines s = R ++ [t] ∧ s = join R ++ t := by
  induction s with
  | nil => exact ⟨[], [], rfl, rfl⟩
  | cons b l ih =>
    obtain ⟨R, t, h1, h2⟩ := ih
    by_cases h : b = 10
    · subst h
      refine ⟨[] :: R, t, by rw [lines_nl, h1]; rfl, ?_⟩
      rw [join_cons]
      simp [← h2]
    · cases R with
      | nil =>
        refine ⟨[], b :: t, by rw [lines_cons h (by simpa using h1)]; rfl, ?_⟩
        simp [join] at h2 ⊢
        exact h2
      | cons r R =>
        refine ⟨(b :: r) :: R, t, by rw [lines_cons h (by simpa using h1)]; rfl, ?_⟩
        rw [join_cons] at h2 ⊢
        simp at h2 ⊢
        exact h2

/-- Rows of a picture: at least one row and one column, at most m; all of one length, and of bytes that are allowed. -/
def GoodR (ok : UInt8 → Bool) (m : Nat) (R : List (List UInt8)) : Prop :=
  (1 ≤ R.length ∧ R.length ≤ m) ∧ (1 ≤ (R.headD []).length ∧ (R.headD []).length ≤ m) ∧ ∀ r ∈ R, r.length = (R.headD []).length ∧ ∀ c ∈ r, ok c = true
instance (ok : UInt8 → Bool) (m : Nat) (R : List (List UInt8)) : Decidable (GoodR ok m R) := by unfold GoodR; infer_instance
theorem GoodR.no10 {ok : UInt8 → Bool} {m : Nat} {R : List (List UInt8)} (h : GoodR ok m R) (h10 : ok 10 = false) : ∀ r ∈ R, ∀ c ∈ r, c ≠ 10 := by
  intro r hr c hc e
  have := (h.2.2 r hr).2 c hc
  rw [e, h10] at this
  cases this
/-- The rows of which a string is the text. -/
def rowsOf (s : List UInt8) : List (List UInt8) := (lines s).dropLast
theorem rowsOf_join {ok : UInt8 → Bool} {m : Nat} {R : List (List UInt8)} (h : GoodR ok m R) (h10 : ok 10 = false) : rowsOf (join R) = R := by
  unfold rowsOf
  rw [lines_join R (h.no10 h10)]
  simp
def isText (ok : UInt8 → Bool) (m : Nat) (s : List UInt8) : Prop := GoodR ok m (rowsOf s) ∧ join (rowsOf s) = s
instance (ok : UInt8 → Bool) (m : Nat) (s : List UInt8) : Decidable (isText ok m s) := by unfold isText; infer_instance
theorem isText_of {ok : UInt8 → Bool} {m : Nat} {R : List (List UInt8)} (h : GoodR ok m R) (h10 : ok 10 = false) : isText ok m (join R) := by
  unfold isText
  rw [rowsOf_join h h10]
  exact ⟨h, rfl⟩
/-- What a string's pieces say of it. -/
theorem isText_lines {ok : UInt8 → Bool} {m : Nat} {s : List UInt8} {R : List (List UInt8)} {t : List UInt8} (hl : lines s = R ++ [t]) : isText ok m s ↔ GoodR ok m R ∧ t = [] := by
  have e : rowsOf s = R := by unfold rowsOf; rw [hl]; simp
  obtain ⟨R', t', h1, h2⟩ := lines_whole s
  rw [hl] at h1
  obtain ⟨rfl, h3⟩ := List.append_inj' h1 rfl
  injection h3 with h3
  subst h3
  unfold isText
  rw [e]
  constructor
  · rintro ⟨a, b⟩
    refine ⟨a, ?_⟩
    rw [h2] at b
    exact (List.append_right_eq_self (xs := join R)).1 b.symm
  · rintro ⟨a, rfl⟩
    exact ⟨a, by rw [h2]; simp⟩
/-- The length of a text, and what lies at its places. -/
theorem join_len {R : List (List UInt8)} {w : Nat} (h : ∀ r ∈ R, r.length = w) : (join R).length = R.length * (w + 1) := by
  induction R with
  | nil => simp [join]
  | cons r R ih =>
    rw [join_cons, List.length_append, ih fun q hq => h q (List.mem_cons_of_mem _ hq)]
    simp [h r (by simp)]
    rw [Nat.add_mul]
    omega
theorem join_get {R : List (List UInt8)} {w : Nat} (h : ∀ r ∈ R, r.length = w) {y x : Nat} {r : List UInt8} (hy : R[y]? = some r) : (join R)[y * (w + 1) + x]? = if x < w then r[x]? else if x = w then some 10 else (join (R.drop (y + 1)))[x - (w + 1)]? := by
  induction R generalizing y with
  | nil => cases hy
  | cons q R ih =>
    have hq := h q (by simp)
    rw [join_cons]
    cases y with
    | zero =>
      simp at hy
      subst hy
      simp only [Nat.zero_mul, Nat.zero_add, List.append_assoc]
      split
      · rw [List.getElem?_append_left (by omega)]
      · split
        · rename_i h1 h2
          subst h2
          rw [List.getElem?_append_right (by omega), hq]
          simp
        · rw [List.getElem?_append_right (by omega), hq, List.getElem?_append_right (by simp; omega)]
          simp
          congr 1
    | succ y =>
      have := ih (fun q hq => h q (List.mem_cons_of_mem _ hq)) (y := y) (by simpa using hy)
      rw [List.getElem?_append_right (by simp [hq]; rw [Nat.add_mul]; omega)]
      have e : (y + 1) * (w + 1) + x - (q ++ [10]).length = y * (w + 1) + x := by simp [hq]; rw [Nat.add_mul]; omega
      rw [e, this]
      simp
end Go.Proofs.YtaafmgkjfmngjaaDoor
