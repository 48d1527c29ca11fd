/-
  Plain laws of the model 'exec' of the machine: it does not depend on the fuel; what a right part of a program does (Good); parts one after the other, in a loop, under a condition.
-/
import Derived.Test.YtlgcijafjcfnhaaDoorRunAll
namespace Go.Proofs.YtlgcijafjcfnhaaDoor
open Go.RowKit
set_option linter.unusedVariables false

theorem iter_congr {f g : St → Except Int St} {s0 : Int} (h : ∀ st : St, s0 ≤ st.2.2 → st.2.2 ≤ 2000 → f st = g st) (hst : ∀ st st' : St, f st = .ok st' → st.2.2 ≤ 2000 → st.2.2 ≤ st'.2.2 ∧ st'.2.2 ≤ 2000) :
    ∀ (r : Nat) (st : St), s0 ≤ st.2.2 → st.2.2 ≤ 2000 → iter f r st = iter g r st ∧ ∀ st', iter f r st = .ok st' → s0 ≤ st'.2.2 ∧ st'.2.2 ≤ 2000 := by
  intro r
  induction r with
  | zero => intro st h1 h2; exact ⟨rfl, fun st' h => by cases h; exact ⟨h1, h2⟩⟩
  | succ r ih =>
    intro st h1 h2
    obtain ⟨a, b⟩ := ih st h1 h2
    unfold iter
    rw [← a]
    cases e : iter f r st with
    | error x => exact ⟨rfl, fun st' h => by cases h⟩
    | ok s1 =>
      obtain ⟨b1, b2⟩ := b s1 e
      refine ⟨h s1 b1 b2, fun st' h' => ?_⟩
      have := hst s1 st' h' b2
      omega

theorem exec_fuel (l : List Op3) (size : Int) (fuel : Nat) : ∀ (fuel' i e nest : Nat) (st : St), 2001 ≤ (fuel : Int) + st.2.2 → 2001 ≤ (fuel' : Int) + st.2.2 → st.2.2 ≤ 2000 → exec l size fuel i e nest st = exec l size fuel' i e nest st := by
  induction fuel with
  | zero => intro fuel' i e nest st h1 h2 h3; omega
  | succ fuel ih =>
    intro fuel' i e nest st h1 h2 h3
    obtain ⟨f', rfl⟩ : ∃ f', fuel' = f' + 1 := ⟨fuel' - 1, by omega⟩
    unfold exec
    by_cases hi : i < e
    · rw [if_pos hi, if_pos hi]
      generalize l.getD i default = op
      obtain ⟨c, n, m⟩ := op
      simp only
      cases hc : chk c n m (e - i) nest st.1.length st.2.1.length st.2.2 with
      | some x => rfl
      | none =>
        simp only
        have hs := (chk_none hc).1
        have ho : (own size c n st).2.2 = st.2.2 + 1 := by unfold own; split <;> (try split) <;> rfl
        obtain ⟨q1, q2⟩ := iter_congr (f := exec l size fuel (i + 1) (i + 1 + (blen c n m).toNat) (nest + 1)) (g := exec l size f' (i + 1) (i + 1 + (blen c n m).toNat) (nest + 1)) (s0 := st.2.2 + 1)
          (fun s a b => ih f' _ _ _ s (by omega) (by omega) b) (fun s s' a b => exec_steps l size fuel _ _ _ s s' a b) (rounds c n st.2.1) (own size c n st) (by omega) (by omega)
        rw [← q1]
        cases hit : iter (exec l size fuel (i + 1) (i + 1 + (blen c n m).toNat) (nest + 1)) (rounds c n st.2.1) (own size c n st) with
        | error x => rfl
        | ok s1 =>
          obtain ⟨b1, b2⟩ := q2 s1 hit
          exact ih f' _ _ _ s1 (by omega) (by omega) b2
    · rw [if_neg hi, if_neg hi]

/-- The machine from an index up to another one. -/
def E (l : List Op3) (size : Int) (i e nest : Nat) (st : St) : Except Int St := exec l size 2001 i e nest st

theorem E_done {l : List Op3} {size : Int} {i e nest : Nat} {st : St} (h : e ≤ i) : E l size i e nest st = .ok st := by
  unfold E exec; rw [if_neg (by omega)]

theorem E_step {l : List Op3} {size : Int} {i e nest : Nat} {st : St} {c n m : Int} (hi : i < e) (hl : l[i]? = some (c, n, m)) (h0 : 0 ≤ st.2.2)
    (hc : chk c n m (e - i) nest st.1.length st.2.1.length st.2.2 = none) :
    E l size i e nest st = match iter (E l size (i + 1) (i + 1 + (blen c n m).toNat) (nest + 1)) (rounds c n st.2.1) (own size c n st) with
      | .error x => .error x
      | .ok st' => E l size (i + 1 + (blen c n m).toNat) e nest st' := by
  have hs := (chk_none hc).1
  unfold E
  rw [exec]
  rw [if_pos hi, List.getD_eq_getElem?_getD, hl]
  simp only [Option.getD_some]
  rw [hc]
  simp only
  have ho : (own size c n st).2.2 = st.2.2 + 1 := by unfold own; split <;> (try split) <;> rfl
  obtain ⟨q1, q2⟩ := iter_congr (f := exec l size 2000 (i + 1) (i + 1 + (blen c n m).toNat) (nest + 1)) (g := exec l size 2001 (i + 1) (i + 1 + (blen c n m).toNat) (nest + 1)) (s0 := st.2.2 + 1)
    (fun s a b => exec_fuel l size 2000 2001 _ _ _ s (by omega) (by omega) b) (fun s s' a b => exec_steps l size 2000 _ _ _ s s' a b) (rounds c n st.2.1) (own size c n st) (by omega) (by omega)
  rw [← q1]
  cases hit : iter (exec l size 2000 (i + 1) (i + 1 + (blen c n m).toNat) (nest + 1)) (rounds c n st.2.1) (own size c n st) with
  | error x => rfl
  | ok s1 =>
    obtain ⟨b1, b2⟩ := q2 s1 hit
    exact exec_fuel l size 2000 2001 _ _ _ s1 (by omega) (by omega) b2

/-- An operation without a block. -/
theorem E_plain {l : List Op3} {size : Int} {i e nest : Nat} {o : List Pt} {stk : List Int} {s : Int} {c n : Int} (hi : i < e) (hl : l[i]? = some (c, n, 0)) (h0 : 0 ≤ s) (h2 : s < 2000)
    (hc : 1 ≤ c ∧ c ≤ 13) (hn : n = 0 ∨ c = 1 ∨ (10 ≤ c ∧ 0 ≤ n ∧ n < (o.length : Int))) (hp : pops c ≤ stk.length) (hh : stk.length - pops c + pushes c ≤ 8) (hpt : 10 ≤ c → 0 ≤ n ∧ n < (o.length : Int)) :
    E l size i e nest (o, stk, s) = E l size (i + 1) e nest ((doOp size c n o stk).1, (doOp size c n o stk).2, s + 1) := by
  have hb : isBlk c = false := by unfold isBlk; exact decide_eq_false (by omega)
  have hbl : blen c n 0 = 0 := by unfold blen; rw [if_neg (by omega), if_neg (by omega)]
  rw [E_step hi hl h0 (chk_ok h2 ⟨by unfold bad; omega, .inl rfl, ?_, by omega, fun h => by rw [hb] at h; cases h⟩ (by simp only; omega) (by simp only; omega) (fun h => hpt (by unfold isPt at h; simp at h; omega)))]
  · have hr : rounds c n stk = 0 := by unfold rounds; rw [if_neg (by omega), if_neg (by omega)]
    simp only [hr, hbl, iter]
    have : own size c n (o, stk, s) = ((doOp size c n o stk).1, (doOp size c n o stk).2, s + 1) := by unfold own; rw [if_neg (by omega), if_neg (by omega)]
    rw [this]
    rfl
  · rcases hn with h | h | h
    · exact .inl h
    · exact .inr (.inl (by unfold isNum; exact decide_eq_true h))
    · exact .inr (.inr (.inl (by unfold isPt; exact decide_eq_true (by omega))))

/-- At an index of l the part u begins. -/
def At (l : List Op3) (i : Nat) (u : List Op3) : Prop := ∀ j q, u[j]? = some q → l[i + j]? = some q
theorem At.left {l u v : List Op3} {i : Nat} (h : At l i (u ++ v)) : At l i u := fun j q hj => h j q (by rw [List.getElem?_append_left (List.getElem?_eq_some_iff.1 hj).1]; exact hj)
theorem At.right {l u v : List Op3} {i : Nat} (h : At l i (u ++ v)) : At l (i + u.length) v := fun j q hj => by
  have := h (u.length + j) q (by rw [List.getElem?_append_right (by omega)]; simpa using hj)
  rw [← Nat.add_assoc] at this; exact this
theorem At.head {l v : List Op3} {q : Op3} {i : Nat} (h : At l i (q :: v)) : l[i]? = some q := h 0 q rfl
theorem At.tail {l v : List Op3} {q : Op3} {i : Nat} (h : At l i (q :: v)) : At l (i + 1) v := fun j r hj => by
  have := h (j + 1) r (by simpa using hj)
  rw [show i + 1 + j = i + (j + 1) from by omega]; exact this
theorem At.self (l : List Op3) : At l 0 l := fun j q h => by rw [Nat.zero_add]; exact h

/-- The part u, wherever it stands within at most 3 - d blocks, begins and ends with an empty stack, does f to the points, and takes k steps (at most C). -/
structure Good (size : Int) (np : Nat) (u : List Op3) (d : Nat) (C : Int) (f : List Pt → List Pt) (k : List Pt → Int) : Prop where
  len : ∀ o, o.length = np → (f o).length = np ∧ 0 ≤ k o ∧ k o ≤ C
  does : ∀ (l : List Op3) (i e nest : Nat) (o : List Pt) (s : Int), At l i u → i + u.length ≤ e → nest + d ≤ 3 → o.length = np → 0 ≤ s → s + C ≤ 2000 →
    E l size i e nest (o, [], s) = E l size (i + u.length) e nest (f o, [], s + k o)

theorem Good.nil (size : Int) (np : Nat) : Good size np [] 0 0 (fun o => o) (fun _ => 0) where
  len o h := ⟨h, by omega, by omega⟩
  does l i e nest o s _ _ _ _ _ _ := by simp

theorem Good.mono {size : Int} {np : Nat} {u : List Op3} {d d' : Nat} {C C' : Int} {f : List Pt → List Pt} {k : List Pt → Int} (h : Good size np u d C f k) (hd : d ≤ d') (hC : C ≤ C') : Good size np u d' C' f k where
  len o ho := ⟨(h.len o ho).1, (h.len o ho).2.1, by have := (h.len o ho).2.2; omega⟩
  does l i e nest o s a b c ho h0 hs := h.does l i e nest o s a b (by omega) ho h0 (by omega)

theorem Good.app {size : Int} {np : Nat} {u v : List Op3} {d d' : Nat} {C C' : Int} {f g : List Pt → List Pt} {k k' : List Pt → Int} (h : Good size np u d C f k) (h' : Good size np v d' C' g k') (hC : 0 ≤ C) (hC' : 0 ≤ C') :
    Good size np (u ++ v) (max d d') (C + C') (fun o => g (f o)) (fun o => k o + k' (f o)) where
  len o ho := by
    obtain ⟨a, b, c⟩ := h.len o ho
    obtain ⟨a', b', c'⟩ := h'.len (f o) a
    exact ⟨a', by omega, by omega⟩
  does l i e nest o s a b c ho h0 hs := by
    rw [List.length_append] at b
    obtain ⟨a1, b1, c1⟩ := h.len o ho
    rw [h.does l i e nest o s a.left (by omega) (by omega) ho h0 (by omega)]
    rw [h'.does l (i + u.length) e nest (f o) (s + k o) a.right (by omega) (by omega) a1 (by omega) (by omega)]
    rw [List.length_append, Nat.add_assoc, Int.add_assoc]

/-- f, k times. -/
def times (f : List Pt → List Pt) : Nat → List Pt → List Pt
  | 0, o => o
  | n + 1, o => f (times f n o)
def total (f : List Pt → List Pt) (k : List Pt → Int) : Nat → List Pt → Int
  | 0, _ => 0
  | n + 1, o => total f k n o + k (times f n o)

theorem times_len {f : List Pt → List Pt} {k : List Pt → Int} {np : Nat} {C : Int} (h : ∀ o, o.length = np → (f o).length = np ∧ 0 ≤ k o ∧ k o ≤ C) (n : Nat) : ∀ o, o.length = np → (times f n o).length = np ∧ 0 ≤ total f k n o ∧ total f k n o ≤ n * C := by
  induction n with
  | zero => intro o ho; exact ⟨ho, by simp [total], by simp [total]⟩
  | succ n ih =>
    intro o ho
    obtain ⟨a, b, c⟩ := ih o ho
    obtain ⟨a', b', c'⟩ := h _ a
    refine ⟨a', ?_, ?_⟩
    · show 0 ≤ total f k n o + k (times f n o); omega
    · show total f k n o + k (times f n o) ≤ _
      rw [show ((n + 1 : Nat) : Int) * C = n * C + C from by rw [Int.natCast_add, Int.add_mul]; simp]
      omega

theorem Good.iter {size : Int} {np : Nat} {u : List Op3} {d : Nat} {C : Int} {f : List Pt → List Pt} {k : List Pt → Int} (h : Good size np u d C f k) {l : List Op3} {i nest : Nat} (ha : At l i u) (hn : nest + d ≤ 3) (hC : 0 ≤ C)
    (o : List Pt) (s : Int) (ho : o.length = np) (h0 : 0 ≤ s) (n : Nat) (hs : s + n * C ≤ 2000) : iter (E l size i (i + u.length) nest) n (o, [], s) = .ok (times f n o, [], s + total f k n o) := by
  induction n with
  | zero => simp [Go.Proofs.YtlgcijafjcfnhaaDoor.iter, times, total]
  | succ n ih =>
    rw [show ((n + 1 : Nat) : Int) * C = n * C + C from by rw [Int.natCast_add, Int.add_mul]; simp] at hs
    obtain ⟨a, b, c⟩ := times_len h.len n o ho
    unfold Go.Proofs.YtlgcijafjcfnhaaDoor.iter
    rw [ih (by omega)]
    simp only
    rw [h.does l i (i + u.length) nest _ _ ha (Nat.le_refl _) hn a (by omega) (by omega), E_done (Nat.le_refl _)]
    simp [times, total, Int.add_assoc]

/-- A part in a loop. -/
theorem Good.loop {size : Int} {np : Nat} {u : List Op3} {d : Nat} {C : Int} {f : List Pt → List Pt} {k : List Pt → Int} (h : Good size np u d C f k) (hC : 0 ≤ C) (hu : 0 < u.length) (hd : d + 1 ≤ 3) (n : Nat) (hn : 1 ≤ n ∧ n ≤ 16) :
    Good size np ((15, (n : Int), (u.length : Int)) :: u) (d + 1) (1 + n * C) (times f n) (fun o => 1 + total f k n o) where
  len o ho := by
    obtain ⟨a, b, c⟩ := times_len h.len n o ho
    exact ⟨a, by omega, by omega⟩
  does l i e nest o s a b c ho h0 hs := by
    rw [List.length_cons] at b ⊢
    have hnC : 0 ≤ (n : Int) * C := Int.mul_nonneg (by omega) hC
    have hb : blen 15 (n : Int) (u.length : Int) = u.length := by unfold blen; simp
    rw [E_step (by omega) a.head h0 (chk_ok (by simp only; omega) ⟨by unfold bad; omega, .inr rfl, .inr (.inr (.inr rfl)), fun _ => by omega, fun _ => ⟨by rw [hb]; omega, by omega⟩⟩ (by simp [pops]) (by simp [pops, pushes]) (by simp [isPt]))]
    rw [hb]
    have hr : rounds 15 (n : Int) [] = n := by unfold rounds; simp
    have ho' : own size 15 (n : Int) (o, [], s) = (o, [], s + 1) := by unfold own; simp
    simp only [hr, ho', Int.toNat_natCast]
    rw [h.iter a.tail (by omega) hC o (s + 1) ho (by omega) n (by omega)]
    simp only
    rw [show i + 1 + u.length = i + (u.length + 1) from by omega, Int.add_assoc]

/-! ### Parts without blocks -/
def LineOk (np : Nat) : Nat → List Op3 → Nat → Prop
  | h, [], h' => h = h'
  | h, (c, n, m) :: u, h' => m = 0 ∧ (1 ≤ c ∧ c ≤ 13) ∧ (n = 0 ∨ c = 1 ∨ 10 ≤ c) ∧ (10 ≤ c → 0 ≤ n ∧ n < (np : Int)) ∧ pops c ≤ h ∧ h - pops c + pushes c ≤ 8 ∧ LineOk np (h - pops c + pushes c) u h'

def line (size : Int) : List Op3 → List Pt × List Int → List Pt × List Int
  | [], r => r
  | q :: u, r => line size u (doOp size q.1 q.2.1 r.1 r.2)

theorem doOp_len {size c n : Int} {o : List Pt} {s : List Int} (hc : 1 ≤ c ∧ c ≤ 13) (hp : pops c ≤ s.length) : (doOp size c n o s).1.length = o.length ∧ (doOp size c n o s).2.length = s.length - pops c + pushes c := by
  obtain h | h | h | h | h | h | h | h | h | h | h | h | h : c = 1 ∨ c = 2 ∨ c = 3 ∨ c = 4 ∨ c = 5 ∨ c = 6 ∨ c = 7 ∨ c = 8 ∨ c = 9 ∨ c = 10 ∨ c = 11 ∨ c = 12 ∨ c = 13 := by omega
  all_goals
    subst h
    simp [pops] at hp
    simp [doOp, rest, pops, pushes]
    try omega

theorem line_E {size : Int} {np : Nat} (u : List Op3) : ∀ (h h' : Nat) (l : List Op3) (i e nest : Nat) (o : List Pt) (stk : List Int) (s : Int), LineOk np h u h' → At l i u → i + u.length ≤ e → o.length = np → stk.length = h → 0 ≤ s → s + u.length ≤ 2000 →
    E l size i e nest (o, stk, s) = E l size (i + u.length) e nest ((line size u (o, stk)).1, (line size u (o, stk)).2, s + u.length) ∧ (line size u (o, stk)).1.length = np ∧ (line size u (o, stk)).2.length = h' := by
  induction u with
  | nil =>
    intro h h' l i e nest o stk s hl ha he ho hs h0 h2
    refine ⟨by simp [line], ho, ?_⟩
    unfold LineOk at hl
    rw [← hl]; exact hs
  | cons q u ih =>
    obtain ⟨c, n, m⟩ := q
    intro h h' l i e nest o stk s hl ha he ho hs h0 h2
    unfold LineOk at hl
    obtain ⟨rfl, hc, hn, hpt, hp, h8, hl⟩ := hl
    rw [List.length_cons] at he h2 ⊢
    subst ho hs
    obtain ⟨d1, d2⟩ := doOp_len (size := size) (n := n) (o := o) (s := stk) hc hp
    rw [E_plain (by omega) ha.head h0 (by omega) hc (by rcases hn with h | h | h; exact .inl h; exact .inr (.inl h); exact .inr (.inr ⟨h, hpt h⟩)) hp h8 hpt]
    obtain ⟨a, b, d⟩ := ih _ _ l (i + 1) e nest (doOp size c n o stk).1 (doOp size c n o stk).2 (s + 1) hl ha.tail (by omega) d1 d2 (by omega) (by omega)
    rw [a]
    refine ⟨?_, b, d⟩
    rw [show i + 1 + u.length = i + (u.length + 1) from by omega, show s + 1 + (u.length : Int) = s + ((u.length + 1 : Nat) : Int) from by omega]
    rfl

theorem Good.line {size : Int} {np : Nat} {u : List Op3} (h : LineOk np 0 u 0) (hu : u.length ≤ 2000) : Good size np u 0 u.length (fun o => (Go.Proofs.YtlgcijafjcfnhaaDoor.line size u (o, [])).1) (fun _ => u.length) where
  len o ho := ⟨(line_E (size := size) u 0 0 u 0 u.length 0 o [] 0 h (At.self u) (by omega) ho rfl (by omega) (by omega)).2.1, by omega, by omega⟩
  does l i e nest o s a b c ho h0 hs := by
    obtain ⟨q1, q2, q3⟩ := line_E (size := size) u 0 0 l i e nest o [] s h a b ho rfl h0 hs
    rw [q1, List.eq_nil_of_length_eq_zero q3]

/-- A part behind a condition. -/
theorem Good.cond {size : Int} {np : Nat} {u : List Op3} {d : Nat} {C : Int} {f : List Pt → List Pt} {k : List Pt → Int} (h : Good size np u d C f k) (hC : 0 ≤ C) (hu : 0 < u.length) (hd : d + 1 ≤ 3) (n : Int) :
    ∃ f' k', Good size np ((9, 0, 0) :: (1, n, 0) :: (3, 0, 0) :: (14, (u.length : Int), 0) :: u) (d + 1) (4 + C) f' k' := by
  by_cases hx : 0 < lim (lim size - lim n)
  · refine ⟨f, fun o => 4 + k o, fun o ho => ?_, fun l i e nest o s a b c ho h0 hs => ?_⟩
    · obtain ⟨a, b, c⟩ := h.len o ho
      exact ⟨a, by omega, by omega⟩
    · simp only [List.length_cons] at b ⊢
      obtain ⟨q1, q2, q3⟩ := line_E (size := size) (np := np) [(9, 0, 0), (1, n, 0), (3, 0, 0)] 0 1 l i e nest o [] s (by simp [LineOk, pops, pushes]) (At.left (v := (14, (u.length : Int), 0) :: u) a) (by simp; omega) ho rfl h0 (by simp; omega)
      rw [q1]
      have a3 : At l (i + 3) ((14, (u.length : Int), 0) :: u) := a.tail.tail.tail
      have hl : Go.Proofs.YtlgcijafjcfnhaaDoor.line size [(9, 0, 0), (1, n, 0), (3, 0, 0)] (o, []) = (o, [lim (lim size - lim n)]) := by simp [Go.Proofs.YtlgcijafjcfnhaaDoor.line, doOp, rest, top]
      rw [hl]
      have hb : blen 14 (u.length : Int) 0 = u.length := by unfold blen; simp
      simp only [List.length_cons, List.length_nil]
      rw [E_step (by omega) a3.head (by simp only; omega) (chk_ok (by simp only; omega) ⟨by unfold bad; omega, .inl rfl, .inr (.inr (.inr rfl)), fun h => by omega, fun _ => ⟨by rw [hb]; omega, by omega⟩⟩ (by simp [pops]) (by simp [pops, pushes]) (by simp [isPt]))]
      rw [hb]
      have hr : rounds 14 (u.length : Int) [lim (lim size - lim n)] = 1 := by unfold rounds; simp [top, hx]
      have ho' : own size 14 (u.length : Int) (o, [lim (lim size - lim n)], s + ((0 + 1 + 1 + 1 : Nat) : Int)) = (o, [], s + 4) := by unfold own; simp [rest]; omega
      simp only [hr, ho', Int.toNat_natCast]
      rw [h.iter a3.tail (by omega) hC o (s + 4) ho (by omega) 1 (by simp; omega)]
      simp only [times, total]
      rw [show i + (0 + 1 + 1 + 1) + 1 + u.length = i + (u.length + 1 + 1 + 1 + 1) from by omega, show s + 4 + (0 + k o) = s + (4 + k o) from by omega]
  · refine ⟨fun o => o, fun o => 4, fun o ho => ⟨ho, by omega, by omega⟩, fun l i e nest o s a b c ho h0 hs => ?_⟩
    simp only [List.length_cons] at b ⊢
    obtain ⟨q1, q2, q3⟩ := line_E (size := size) (np := np) [(9, 0, 0), (1, n, 0), (3, 0, 0)] 0 1 l i e nest o [] s (by simp [LineOk, pops, pushes]) (At.left (v := (14, (u.length : Int), 0) :: u) a) (by simp; omega) ho rfl h0 (by simp; omega)
    rw [q1]
    have a3 : At l (i + 3) ((14, (u.length : Int), 0) :: u) := a.tail.tail.tail
    have hl : Go.Proofs.YtlgcijafjcfnhaaDoor.line size [(9, 0, 0), (1, n, 0), (3, 0, 0)] (o, []) = (o, [lim (lim size - lim n)]) := by simp [Go.Proofs.YtlgcijafjcfnhaaDoor.line, doOp, rest, top]
    rw [hl]
    have hb : blen 14 (u.length : Int) 0 = u.length := by unfold blen; simp
    simp only [List.length_cons, List.length_nil]
    rw [E_step (by omega) a3.head (by simp only; omega) (chk_ok (by simp only; omega) ⟨by unfold bad; omega, .inl rfl, .inr (.inr (.inr rfl)), fun h => by omega, fun _ => ⟨by rw [hb]; omega, by omega⟩⟩ (by simp [pops]) (by simp [pops, pushes]) (by simp [isPt]))]
    rw [hb]
    have hr : rounds 14 (u.length : Int) [lim (lim size - lim n)] = 0 := by unfold rounds; simp [top, hx]
    have ho' : own size 14 (u.length : Int) (o, [lim (lim size - lim n)], s + ((0 + 1 + 1 + 1 : Nat) : Int)) = (o, [], s + 4) := by unfold own; simp [rest]; omega
    simp only [hr, ho', Int.toNat_natCast, Go.Proofs.YtlgcijafjcfnhaaDoor.iter]
    rw [show i + (0 + 1 + 1 + 1) + 1 + u.length = i + (u.length + 1 + 1 + 1 + 1) from by omega]

/-! ### Made programs -/
/-- A short part that is right for np points. -/
def IsUnit (np : Nat) (u : List Op3) : Prop :=
  ∃ a b g : Int, (0 ≤ a ∧ a < (np : Int)) ∧ (0 ≤ b ∧ b < (np : Int)) ∧ (g = 10 ∨ g = 11) ∧
    (u = [(g, a, 0), (8, 0, 0), (g + 2, a, 0)] ∨ (∃ j : Int, (0 ≤ j ∧ j ≤ 3) ∧ u = [(g, a, 0), (g, b, 0), (2 + j, 0, 0), (g + 2, a, 0)]) ∨
      (∃ j v : Int, (0 ≤ j ∧ j ≤ 1) ∧ u = [(g, a, 0), (6 + j, 0, 0), (1, v, 0), (3, 0, 0), (g + 2, b, 0)]) ∨
      u = [(9, 0, 0), (9, 0, 0), (2, 0, 0), (g, a, 0), (5, 0, 0), (g + 2, b, 0)])

theorem IsUnit.len {np : Nat} {u : List Op3} (h : IsUnit np u) : 0 < u.length ∧ u.length ≤ 6 := by
  obtain ⟨a, b, g, -, -, -, h | ⟨j, -, h⟩ | ⟨j, v, -, h⟩ | h⟩ := h <;> subst h <;> simp

theorem IsUnit.ok {np : Nat} {u : List Op3} (h : IsUnit np u) : LineOk np 0 u 0 := by
  obtain ⟨a, b, g, ha, hb, hg, h | ⟨j, hj, h⟩ | ⟨j, v, hj, h⟩ | h⟩ := h
  · subst h; rcases hg with rfl | rfl <;> simp [LineOk, pops, pushes] <;> omega
  · subst h
    obtain rfl | rfl | rfl | rfl : j = 0 ∨ j = 1 ∨ j = 2 ∨ j = 3 := by omega
    all_goals (rcases hg with rfl | rfl <;> simp [LineOk, pops, pushes] <;> omega)
  · subst h
    obtain rfl | rfl : j = 0 ∨ j = 1 := by omega
    all_goals (rcases hg with rfl | rfl <;> simp [LineOk, pops, pushes] <;> omega)
  · subst h; rcases hg with rfl | rfl <;> simp [LineOk, pops, pushes] <;> omega

/-- A unit, perhaps behind a condition. -/
def IsCond (np : Nat) (u : List Op3) : Prop := IsUnit np u ∨ ∃ v n, IsUnit np v ∧ u = (9, 0, 0) :: (1, n, 0) :: (3, 0, 0) :: (14, (v.length : Int), 0) :: v
/-- That, perhaps in a loop of at most three rounds. -/
def IsPart (np : Nat) (u : List Op3) : Prop := IsCond np u ∨ ∃ v, ∃ n : Nat, IsCond np v ∧ (1 ≤ n ∧ n ≤ 3) ∧ u = (15, (n : Int), (v.length : Int)) :: v
/-- At most m such parts. -/
inductive IsMade (np : Nat) : Nat → List Op3 → Prop
  | nil : IsMade np 0 []
  | snoc {m : Nat} {p u : List Op3} : IsMade np m p → IsPart np u → IsMade np (m + 1) (p ++ u)

theorem IsCond.len {np : Nat} {u : List Op3} (h : IsCond np u) : 0 < u.length ∧ u.length ≤ 10 := by
  rcases h with h | ⟨v, n, h, rfl⟩
  · have := h.len; omega
  · have := h.len; simp; omega
theorem IsPart.len {np : Nat} {u : List Op3} (h : IsPart np u) : 0 < u.length ∧ u.length ≤ 11 := by
  rcases h with h | ⟨v, n, h, -, rfl⟩
  · have := h.len; omega
  · have := h.len; simp; omega
theorem IsMade.len {np m : Nat} {p : List Op3} (h : IsMade np m p) : p.length ≤ m * 11 := by
  induction h with
  | nil => simp
  | snoc _ hu ih => have := hu.len; rw [List.length_append]; omega
theorem IsCond.good {np : Nat} {u : List Op3} (size : Int) (h : IsCond np u) : ∃ f k, Good size np u 1 10 f k := by
  rcases h with h | ⟨v, n, h, rfl⟩
  · exact ⟨_, _, (Good.line h.ok (by have := h.len; omega)).mono (by omega) (by have := h.len; omega)⟩
  · obtain ⟨f, k, hg⟩ := (Good.line (size := size) h.ok (by have := h.len; omega)).cond (by omega) h.len.1 (by omega) n
    exact ⟨f, k, hg.mono (by omega) (by have := h.len; omega)⟩
theorem IsPart.good {np : Nat} {u : List Op3} (size : Int) (h : IsPart np u) : ∃ f k, Good size np u 2 31 f k := by
  rcases h with h | ⟨v, n, h, hn, rfl⟩
  · obtain ⟨f, k, hg⟩ := h.good size
    exact ⟨f, k, hg.mono (by omega) (by omega)⟩
  · obtain ⟨f, k, hg⟩ := h.good size
    exact ⟨_, _, (hg.loop (by omega) h.len.1 (by omega) n (by omega)).mono (by omega) (by omega)⟩
theorem IsMade.good {np m : Nat} {p : List Op3} (size : Int) (h : IsMade np m p) : ∃ f k, Good size np p 2 (m * 31) f k := by
  induction h with
  | nil => exact ⟨_, _, (Good.nil size np).mono (by omega) (by omega)⟩
  | snoc _ hu ih =>
    obtain ⟨f, k, hg⟩ := ih
    obtain ⟨f', k', hg'⟩ := hu.good size
    exact ⟨_, _, (hg.app hg' (by omega) (by omega)).mono (by omega) (by omega)⟩

theorem refill_flatten (o : List (List Pt)) : ∀ l : List Pt, l.length = o.flatten.length → (refill o l).flatten = l := by
  induction o with
  | nil => intro l h; simp at h; subst h; rfl
  | cons c o ih =>
    intro l h
    simp only [List.flatten_cons, List.length_append] at h
    simp only [refill, List.flatten_cons]
    rw [ih _ (by rw [List.length_drop]; omega), List.take_append_drop]

/-- A right part is run without a fault. -/
theorem Good.run {size : Int} {p : List Op3} {d : Nat} {C : Int} {f : List Pt → List Pt} {k : List Pt → Int} {o : List (List Pt)} (h : Good size o.flatten.length p d C f k) (hd : d ≤ 3) (hC : C ≤ 2000) :
    runM p size o = .ok (refill o (f o.flatten), k o.flatten) := by
  have := h.does p 0 p.length 0 o.flatten 0 (At.self p) (by omega) (by omega) rfl (by omega) (by omega)
  rw [Nat.zero_add, E_done (Nat.le_refl _), Int.zero_add] at this
  unfold runM
  unfold E at this
  rw [this]

theorem refill_refill (o : List (List Pt)) : ∀ (l L : List Pt), l.length = o.flatten.length → L.length = o.flatten.length → refill (refill o l) L = refill o L := by
  induction o with
  | nil => intro l L h h'; rfl
  | cons c o ih =>
    intro l L h h'
    simp only [List.flatten_cons, List.length_append] at h h'
    simp only [refill]
    have e : (l.take c.length).length = c.length := by simp; omega
    rw [e, ih _ _ (by rw [List.length_drop]; omega) (by rw [List.length_drop]; omega)]

theorem joins_plain {o : List (List Pt)} {np m m' : Nat} {p q : List Op3} (size : Int) (hnp : np = o.flatten.length) (h : IsMade np m p) (h' : IsMade np m' q) (hm : m ≤ 3) (hm' : m' ≤ 3) :
    ∃ a n b k, runM p size o = .ok (a, n) ∧ runM q size a = .ok (b, k) ∧ runM (p ++ q) size o = .ok (b, n + k) ∧ (0 ≤ n ∧ n ≤ 93) ∧ 0 ≤ k ∧ k ≤ 93 := by
  subst hnp
  obtain ⟨f, k, g⟩ := h.good size
  obtain ⟨f', k', g'⟩ := h'.good size
  obtain ⟨l1, l2, l3⟩ := g.len o.flatten rfl
  obtain ⟨r1, r2, r3⟩ := g'.len _ l1
  have ea : (refill o (f o.flatten)).flatten = f o.flatten := refill_flatten _ _ l1
  have ga : Good size (refill o (f o.flatten)).flatten.length q 2 (m' * 31) f' k' := by rw [ea, l1]; exact g'
  refine ⟨_, _, refill o (f' (f o.flatten)), k' (f o.flatten), g.run (by omega) (by omega), ?_, (g.app g' (by omega) (by omega)).run (by omega) (by omega), ⟨l2, by omega⟩, r2, by omega⟩
  rw [ga.run (by omega) (by omega), ea, refill_refill _ _ _ l1 r1]

/-- The part u, n times. -/
def rep (u : List Op3) : Nat → List Op3
  | 0 => []
  | n + 1 => rep u n ++ u
theorem rep_length (u : List Op3) (n : Nat) : (rep u n).length = n * u.length := by
  induction n with
  | zero => simp [rep]
  | succ n ih => rw [rep, List.length_append, ih, Nat.add_mul]; omega
theorem Good.rep {size : Int} {np : Nat} {u : List Op3} {d : Nat} {C : Int} {f : List Pt → List Pt} {k : List Pt → Int} (h : Good size np u d C f k) (hC : 0 ≤ C) (n : Nat) : Good size np (Go.Proofs.YtlgcijafjcfnhaaDoor.rep u n) d (n * C) (times f n) (total f k n) := by
  induction n with
  | zero => exact (Good.nil size np).mono (by omega) (by simp)
  | succ n ih =>
    have hnC : 0 ≤ (n : Int) * C := Int.mul_nonneg (by omega) hC
    have := ih.app h hnC hC
    rw [Nat.max_self] at this
    rw [show ((n + 1 : Nat) : Int) * C = n * C + C from by rw [Int.natCast_add, Int.add_mul]; simp]
    exact this

theorem loops_plain {o : List (List Pt)} {np m : Nat} {p : List Op3} (size : Int) (hnp : np = o.flatten.length) (h : IsMade np m p) (hm : m ≤ 3) (hp : 0 < p.length) (n : Nat) (hn : 1 ≤ n ∧ n ≤ 4) :
    ∃ b y, runM ((15, (n : Int), (p.length : Int)) :: p) size o = .ok (b, 1 + y) ∧ runM (rep p n) size o = .ok (b, y) ∧ 0 ≤ y ∧ y ≤ 400 := by
  subst hnp
  obtain ⟨f, k, g⟩ := h.good size
  obtain ⟨l1, l2, l3⟩ := times_len g.len n o.flatten rfl
  have hb : (n : Int) * (m * 31) ≤ 372 := by
    have := Int.mul_le_mul (show (n : Int) ≤ 4 from by omega) (show (m : Int) * 31 ≤ 93 from by omega) (by omega) (by omega)
    omega
  exact ⟨_, _, (g.loop (by omega) hp (by omega) n (by omega)).run (by omega) (by omega), (g.rep (by omega) n).run (by omega) (by omega), l2, by omega⟩
end Go.Proofs.YtlgcijafjcfnhaaDoor
