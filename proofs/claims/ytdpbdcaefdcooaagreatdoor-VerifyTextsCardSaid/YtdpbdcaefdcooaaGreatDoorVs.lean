/-
  What the statements of chapter 08 say of verification: plain laws, no walk.
-/
import Derived.Test.YtdpbdcaefdcooaaGreatDoorVq
import Derived.Test.YtdpbdcaefdcooaaGreatDoorVt
import Derived.Lib.SlicesCompact
namespace Go.Proofs.YtdpbdcaefdcooaaGreatDoor
set_option linter.unusedVariables false

/-! ### Rows of increasing numbers -/
/-- The numbers in order, each once. -/
def sortedP (r : List Int) : List Int := Lib.compact (r.mergeSort fun x y => decide (x ≤ y))
/-- A number is put into a row. -/
def putM (n : Int) : List Int → List Int
  | [] => [n]
  | x :: l => if n < x then n :: x :: l else if x = n then x :: l else x :: putM n l
theorem putM_mem (n x : Int) : ∀ l : List Int, x ∈ putM n l ↔ x = n ∨ x ∈ l
  | [] => by simp [putM]
  | y :: l => by
    unfold putM
    split
    · simp
    · split
      · rename_i h; subst h; simp
      · rw [List.mem_cons, putM_mem n x l, List.mem_cons]
        constructor
        · rintro (h | h | h)
          · exact Or.inr (Or.inl h)
          · exact Or.inl h
          · exact Or.inr (Or.inr h)
        · rintro (h | h | h)
          · exact Or.inr (Or.inl h)
          · exact Or.inl h
          · exact Or.inr (Or.inr h)
theorem putM_inc (n : Int) : ∀ l : List Int, l.Pairwise (· < ·) → (putM n l).Pairwise (· < ·)
  | [], _ => by simp [putM]
  | y :: l, h => by
    rw [List.pairwise_cons] at h
    unfold putM
    split
    · rename_i h1
      rw [List.pairwise_cons, List.pairwise_cons]
      refine ⟨fun z hz => ?_, h⟩
      rcases List.mem_cons.1 hz with rfl | hz
      · exact h1
      · have := h.1 z hz; omega
    · split
      · rw [List.pairwise_cons]; exact h
      · rename_i h1 h2
        rw [List.pairwise_cons]
        refine ⟨fun z hz => ?_, putM_inc n l h.2⟩
        rcases (putM_mem n z l).1 hz with rfl | hz
        · omega
        · exact h.1 z hz
/-- Increasing rows with the same numbers are equal. -/
theorem inc_ext : ∀ l m : List Int, l.Pairwise (· < ·) → m.Pairwise (· < ·) → (∀ x, x ∈ l ↔ x ∈ m) → l = m
  | [], [], _, _, _ => rfl
  | [], y :: m, _, _, h => absurd ((h y).2 (by simp)) (by simp)
  | x :: l, [], _, _, h => absurd ((h x).1 (by simp)) (by simp)
  | x :: l, y :: m, hl, hm, h => by
    rw [List.pairwise_cons] at hl hm
    have e : x = y := by
      rcases List.mem_cons.1 ((h x).1 (by simp)) with e | e
      · exact e
      · rcases List.mem_cons.1 ((h y).2 (by simp)) with e2 | e2
        · exact e2.symm
        · have h1 := hm.1 x e; have h2 := hl.1 y e2; omega
    subst e
    rw [inc_ext l m hl.2 hm.2]
    intro z
    constructor
    · intro hz
      rcases List.mem_cons.1 ((h z).1 (List.mem_cons_of_mem _ hz)) with e | e
      · have := hl.1 z hz; omega
      · exact e
    · intro hz
      rcases List.mem_cons.1 ((h z).2 (List.mem_cons_of_mem _ hz)) with e | e
      · have := hm.1 z hz; omega
      · exact e
theorem compact_hasP (d : Array Int) (m : Nat) : ∀ j, j < m → d[j]! ∈ Lib.compactUpTo d m := by
  induction m with
  | zero => intro j h; omega
  | succ m ih =>
    intro j hj
    rw [Lib.compactUpTo_succ]
    by_cases hlt : j < m
    · exact List.mem_append_left _ (ih j hlt)
    · obtain rfl : j = m := by omega
      by_cases hk : Lib.keeps d j = true
      · exact List.mem_append_right _ (by rw [if_pos hk]; simp)
      · refine List.mem_append_left _ ?_
        have h0 : j ≠ 0 ∧ d[j]! = d[j - 1]! := by
          refine ⟨fun h => hk (by simp [Lib.keeps, h]), Decidable.byContradiction fun h => hk (Lib.keeps_pos h)⟩
        rw [h0.2]
        exact ih (j - 1) (by omega)
theorem compact_subP (d : Array Int) (m : Nat) : ∀ x, x ∈ Lib.compactUpTo d m → ∃ j, j < m ∧ x = d[j]! := by
  induction m with
  | zero => intro x h; simp [Lib.compactUpTo] at h
  | succ m ih =>
    intro x h
    rw [Lib.compactUpTo_succ] at h
    rcases List.mem_append.1 h with h | h
    · obtain ⟨j, h1, h2⟩ := ih x h
      exact ⟨j, by omega, h2⟩
    · split at h
      · exact ⟨m, by omega, by simpa using h⟩
      · cases h
theorem compact_inc (d : Array Int) (hd : ∀ i j, i ≤ j → j < d.size → d[i]! ≤ d[j]!) (m : Nat) (hm : m ≤ d.size) : (Lib.compactUpTo d m).Pairwise (· < ·) := by
  induction m with
  | zero => simp [Lib.compactUpTo]
  | succ m ih =>
    rw [Lib.compactUpTo_succ, List.pairwise_append]
    refine ⟨ih (by omega), ?_, ?_⟩
    · split <;> simp
    · intro a ha b hb
      split at hb
      · rename_i hk
        simp only [List.mem_singleton] at hb
        subst hb
        obtain ⟨j, hj, rfl⟩ := compact_subP d m a ha
        have h1 := hd j (m - 1) (by omega) (by omega)
        have h2 := hd (m - 1) m (by omega) (by omega)
        have h3 : d[m]! ≠ d[m - 1]! := by
          unfold Lib.keeps at hk
          simp only [decide_eq_true_eq] at hk
          rcases hk with hk | hk
          · omega
          · exact hk
        omega
      · cases hb
theorem sortedP_inc (r : List Int) : (sortedP r).Pairwise (· < ·) := by
  have hs := List.pairwise_mergeSort (le := fun x y : Int => decide (x ≤ y)) (by intro a b c h1 h2; simp at *; omega) (by intro a b; simp; omega) r
  unfold sortedP Lib.compact
  refine compact_inc _ (fun i j hij hj => ?_) _ (by simp)
  have hj' : j < (r.mergeSort fun x y => decide (x ≤ y)).length := by simpa using hj
  rw [getElem!_pos _ i (by omega), getElem!_pos _ j hj]
  rcases Nat.lt_or_ge i j with h | h
  · have := List.pairwise_iff_getElem.1 hs i j (by omega) hj' h
    simpa using this
  · obtain rfl : i = j := by omega
    simp
theorem sortedP_mem (r : List Int) (x : Int) : x ∈ sortedP r ↔ x ∈ r := by
  constructor
  · intro h
    unfold sortedP Lib.compact at h
    obtain ⟨j, h1, h2⟩ := compact_subP _ _ x h
    rw [getElem!_pos _ j (by simpa using h1)] at h2
    have hm := List.mem_mergeSort.1 (List.getElem_mem h1)
    rw [h2]
    simpa using hm
  · intro h
    have h2 : x ∈ r.mergeSort fun x y => decide (x ≤ y) := List.mem_mergeSort.2 h
    unfold sortedP Lib.compact
    obtain ⟨j, hj⟩ := List.mem_iff_getElem?.1 h2
    have hlt := (List.getElem?_eq_some_iff.1 hj).1
    have := compact_hasP (r.mergeSort fun x y => decide (x ≤ y)).toArray (r.mergeSort fun x y => decide (x ≤ y)).length j hlt
    have e : (r.mergeSort fun x y => decide (x ≤ y)).toArray[j]! = x := by
      rw [getElem!_pos _ j (by simpa using hlt)]
      have := (List.getElem?_eq_some_iff.1 hj).2
      simpa using this
    rwa [e] at this
/-- Numbers are put into a row, one after the other. -/
def putsM (l r : List Int) : List Int := r.foldl (fun l n => putM n l) l
theorem putsM_snoc (l r : List Int) (n : Int) : putsM l (r ++ [n]) = putM n (putsM l r) := by simp [putsM, List.foldl_append]
theorem putsM_inc : ∀ (r l : List Int), l.Pairwise (· < ·) → (putsM l r).Pairwise (· < ·)
  | [], l, h => h
  | n :: r, l, h => putsM_inc r _ (putM_inc n l h)
theorem putsM_mem (x : Int) : ∀ (r l : List Int), x ∈ putsM l r ↔ x ∈ l ∨ x ∈ r
  | [], l => by simp [putsM]
  | n :: r, l => by
    show x ∈ putsM (putM n l) r ↔ _
    rw [putsM_mem x r, putM_mem, List.mem_cons]
    constructor
    · rintro ((h | h) | h)
      · exact Or.inr (Or.inl h)
      · exact Or.inl h
      · exact Or.inr (Or.inr h)
    · rintro (h | h | h)
      · exact Or.inl (Or.inr h)
      · exact Or.inl (Or.inl h)
      · exact Or.inr h
theorem putsM_nil (r : List Int) : putsM [] r = sortedP r := inc_ext _ _ (putsM_inc r [] (by simp)) (sortedP_inc r) fun x => by rw [putsM_mem, sortedP_mem]; simp
theorem putsM_join (a b : List Int) : putsM (sortedP a) (sortedP b) = sortedP (a ++ b) := inc_ext _ _ (putsM_inc _ _ (sortedP_inc a)) (sortedP_inc _) fun x => by rw [putsM_mem, sortedP_mem, sortedP_mem, sortedP_mem, List.mem_append]

/-! ### The statements -/
theorem made_len {np : Int} {L : List VOp} (h : MadeOk np L) : L.length ≤ 40 := h.1
theorem checkM_ok {np k : Int} {L : List VOp} {v : VS} (hl : L.length ≤ 64) (h : V np L 0 0 ⟨0, 0, []⟩ = .ok (k, v)) (hh : v.h = 0) (hk : k ≤ 2000) : checkM np L = .ok (k, v.d, v.r) := by
  unfold checkM
  rw [if_neg (by omega), h]
  simp only
  rw [if_neg (by simp [hh]), if_neg (by omega)]
theorem checkM_err {np x : Int} {L : List VOp} (hl : L.length ≤ 64) (h : V np L 0 0 ⟨0, 0, []⟩ = .error x) : checkM np L = .error x := by
  unfold checkM
  rw [if_neg (by omega), h]
/-- What is known of a made program at all: its facts. -/
structure Facts (np : Int) (L : List VOp) (k : Int) (d : Nat) (r : List Int) : Prop where
  k0 : 0 ≤ k
  k1 : k ≤ 640
  d8 : d ≤ 8
  v : ∀ nest, nest ≤ 1 → V np L nest 0 ⟨0, 0, []⟩ = .ok (k, ⟨0, d, r⟩)
  check : checkM np L = .ok (k, d, r)
theorem facts_of {np : Int} {L : List VOp} (h : MadeOk np L) : ∃ k d r, Facts np L k d r := by
  obtain ⟨k, d, r, a, b, c, e, f⟩ := h.facts
  exact ⟨k, d, r, a, b, c, e, f⟩
/-- The form and the size of what is made. -/
theorem made_formed {np : Int} {L : List VOp} (h : MadeOk np L) : ∀ o ∈ L, vform o.1 o.2.1 o.2.2 := by
  obtain ⟨k, d, r, hf⟩ := facts_of h
  exact V_formed np L.length L 0 0 _ _ (Nat.le_refl _) (hf.v 0 (by omega))
theorem made_small {np : Int} {L : List VOp} (h : MadeOk np L) (hn : np ≤ 1000000) : ∀ o ∈ L, (-1000000 ≤ o.2.1 ∧ o.2.1 ≤ 1000000) ∧ -1000000 ≤ o.2.2 ∧ o.2.2 ≤ 1000000 := by
  intro o ho
  have := h.2.1 o ho
  unfold smallOp at this
  omega
theorem made_num {np : Int} {L : List VOp} (h : MadeOk np L) (hn : np ≤ 1000000) : ∀ o ∈ L, numOk o.2.1 ∧ numOk o.2.2 := by
  intro o ho
  have := made_small h hn o ho
  unfold numOk
  omega
/-- The points of a made program. -/
theorem made_reach {np k : Int} {L : List VOp} {d : Nat} {r : List Int} (h : Facts np L k d r) : ∀ x ∈ r, 0 ≤ x ∧ x < np := by
  obtain ⟨-, -, -, -, t, ht, -, h2⟩ := V_bound (h.v 0 (by omega)) (by omega) (by simp) (by simp)
  simp only [List.nil_append] at ht
  rw [ht]
  exact h2

/-- P8.4. -/
theorem joins_law {np : Int} {p q : List VOp} {ka kb : Int} {da db : Nat} {ra rb : List Int} (hp : Facts np p ka da ra) (hq : Facts np q kb db rb) :
    (64 < (p ++ q).length → checkM np (p ++ q) = .error 2) ∧ ((p ++ q).length ≤ 64 → checkM np (p ++ q) = .ok (ka + kb, max da db, ra ++ rb)) := by
  refine ⟨fun h => by unfold checkM; rw [if_pos h], fun h => ?_⟩
  have h1 := V_append np q p.length p 0 0 _ _ _ (Nat.le_refl _) (hp.v 0 (by omega))
  rw [V_shift np q 0 ka, hq.v 0 (by omega)] at h1
  simp only [vmap, vadd] at h1
  have := hp.k1
  have := hq.k1
  exact checkM_ok h h1 rfl (by omega)

/-- P8.5: a loop around a verified program. -/
theorem loop_bad {np n : Int} {p : List VOp} (hl : p.length ≤ 40) (h : p = [] ∨ n < 1 ∨ 16 < n) : checkM np ((15, n, (p.length : Int)) :: p) = .error 5 := by
  refine checkM_err (by rw [List.length_cons]; omega) (V_bad ?_)
  have hf : vform 15 n p.length := ⟨by omega, by omega, by omega⟩
  unfold vchk
  by_cases h2 : n < 1 ∨ 16 < n
  · rw [if_pos (Or.inr ⟨rfl, h2⟩)]
  · rcases h with rfl | h
    · rw [if_neg (by rintro (h | h); exact h hf; omega), if_pos ⟨by omega, Or.inl (by simp [vlen])⟩]
    · omega
theorem loop_good {np n k : Int} {d : Nat} {r : List Int} {p : List VOp} (hl : p.length ≤ 40) (hp : Facts np p k d r) (hne : p ≠ []) (h1 : 1 ≤ n) (h2 : n ≤ 16) :
    (2000 < 1 + n * k → checkM np ((15, n, (p.length : Int)) :: p) = .error 21) ∧ (1 + n * k ≤ 2000 → checkM np ((15, n, (p.length : Int)) :: p) = .ok (1 + n * k, d, r)) := by
  have hpos : 0 < p.length := List.length_pos_iff.2 hne
  have hk : vchk 15 n (p.length : Int) (p.length + 1) 0 np 0 = none := vchk_ok ⟨by omega, by omega, by omega⟩ (fun _ => by omega) (fun _ => by unfold vlen; simp; omega) (fun h => by omega) (by unfold vtakes; simp) (by unfold vtakes vputs; simp)
  have hlen : (vlen 15 n (p.length : Int)).toNat = p.length := by unfold vlen; simp
  have ho : vown 15 n ⟨0, 0, []⟩ = ⟨0, 0, []⟩ := by unfold vown vtakes vputs; simp
  have hv : V np ((15, n, (p.length : Int)) :: p) 0 0 ⟨0, 0, []⟩ = .ok (1 + n * k, ⟨0, d, r⟩) := by
    rw [V_on hk (by omega) (by rw [hlen, List.take_length, ho]; exact hp.v 1 (by omega)) (by rw [ho]), hlen, List.drop_length, V_nil]
    simp [vrounds]
  constructor
  · intro h
    unfold checkM
    rw [if_neg (by rw [List.length_cons]; omega), hv]
    simp only
    rw [if_neg (by simp), if_pos h]
  · intro h
    exact checkM_ok (by rw [List.length_cons]; omega) hv rfl h
/-- P8.5: a condition around a verified program. -/
theorem cond_bad {np : Int} : checkM np [(1, 5, 0), (14, 0, 0)] = .error 5 := by
  have h1 : vchk 1 5 0 2 0 np 0 = none := vchk_ok ⟨by omega, by omega, by omega⟩ (fun _ => by omega) (fun _ => by omega) (fun h => by omega) (by unfold vtakes; simp) (by unfold vtakes vputs; simp)
  refine checkM_err (by simp) ?_
  rw [V_plain h1 (by omega)]
  refine V_bad ?_
  have hf : vform 14 0 0 := ⟨by omega, by omega, by omega⟩
  unfold vchk
  rw [if_neg (by rintro (h | h); exact h hf; omega), if_pos ⟨by omega, Or.inl (by simp [vlen])⟩]
theorem cond_good {np k : Int} {d : Nat} {r : List Int} {p : List VOp} (hl : p.length ≤ 40) (hp : Facts np p k d r) (hne : p ≠ []) : checkM np ((1, 5, 0) :: (14, (p.length : Int), 0) :: p) = .ok (k + 2, max d 1, r) := by
  have hpos : 0 < p.length := List.length_pos_iff.2 hne
  have h1 : vchk 1 5 0 (p.length + 1 + 1) 0 np 0 = none := vchk_ok ⟨by omega, by omega, by omega⟩ (fun _ => by omega) (fun _ => by omega) (fun h => by omega) (by unfold vtakes; simp) (by unfold vtakes vputs; simp)
  have ho1 : vown 1 5 ⟨0, 0, []⟩ = ⟨1, 1, []⟩ := by unfold vown vtakes vputs; simp
  have h2 : vchk 14 (p.length : Int) 0 (p.length + 1) 0 np 1 = none := vchk_ok ⟨by omega, by omega, by omega⟩ (fun _ => by omega) (fun _ => by unfold vlen; simp; omega) (fun h => by omega) (by unfold vtakes; simp) (by unfold vtakes vputs; simp)
  have hlen : (vlen 14 (p.length : Int) 0).toNat = p.length := by unfold vlen; simp
  have ho : vown 14 (p.length : Int) ⟨1, 1, []⟩ = ⟨0, 1, []⟩ := by unfold vown vtakes vputs; simp
  have hi : V np p 1 0 ⟨0, 1, []⟩ = .ok (k, ⟨0, max 1 d, r⟩) := by
    rw [V_shift, hp.v 1 (by omega)]
    simp [vmap, vadd]
  have hv : V np ((1, 5, 0) :: (14, (p.length : Int), 0) :: p) 0 0 ⟨0, 0, []⟩ = .ok (k + 2, ⟨0, max 1 d, r⟩) := by
    rw [V_plain (by rw [List.length_cons]; exact h1) (by omega), ho1, V_on h2 (by omega) (by rw [hlen, List.take_length, ho]; exact hi) (by rw [ho]), hlen, List.drop_length, V_nil]
    simp [vrounds]
    omega
  have := hp.k1
  have h9 := checkM_ok (by simp only [List.length_cons]; omega) hv rfl (by omega)
  rw [h9]
  simp only [Except.ok.injEq, Prod.mk.injEq]
  exact ⟨trivial, by omega, trivial⟩

/-- P8.6. -/
theorem uses_own {np : Int} {p : List VOp} {k : Int} {d : Nat} {r : List Int} (hp : Facts np p k d r) : usesOk np p := by
  refine Classical.byContradiction fun h => ?_
  have h1 := (V_points np np p.length p 0 0 _ _ (Nat.le_refl _) (hp.v 0 (by omega))).2 h
  rw [hp.v 0 (by omega)] at h1
  cases h1
theorem points_more {np m : Int} {p : List VOp} {k : Int} {d : Nat} {r : List Int} (hl : p.length ≤ 40) (hp : Facts np p k d r) (h : usesOk m p) : checkM m p = .ok (k, d, r) := by
  have h1 := (V_points np m p.length p 0 0 _ _ (Nat.le_refl _) (hp.v 0 (by omega))).1 h
  have := hp.k1
  exact checkM_ok (by omega) h1 rfl (by omega)
theorem points_less {np m : Int} {p : List VOp} {k : Int} {d : Nat} {r : List Int} (hl : p.length ≤ 40) (hp : Facts np p k d r) (h : ¬ usesOk m p) : checkM m p = .error 22 :=
  checkM_err (by omega) ((V_points np m p.length p 0 0 _ _ (Nat.le_refl _) (hp.v 0 (by omega))).2 h)
theorem uses_mono {n m : Int} {p : List VOp} (h : usesOk n p) (hm : n ≤ m) : usesOk m p := fun o ho hc => by have := h o ho hc; omega
/-- How many points a program uses. -/
def usedM (p : List VOp) : Int := p.foldl (fun u o => if 10 ≤ o.1 ∧ o.1 ≤ 13 then max u (o.2.1 + 1) else u) 0
theorem usedM_snoc (p : List VOp) (o : VOp) : usedM (p ++ [o]) = if 10 ≤ o.1 ∧ o.1 ≤ 13 then max (usedM p) (o.2.1 + 1) else usedM p := by simp [usedM, List.foldl_append]
theorem used_fold (m : Int) : ∀ (p : List VOp) (u : Int), (p.foldl (fun u o => if 10 ≤ o.1 ∧ o.1 ≤ 13 then max u (o.2.1 + 1) else u) u ≤ m) ↔ (u ≤ m ∧ usesOk m p)
  | [], u => by simp [usesOk]
  | o :: p, u => by
    rw [List.foldl_cons, used_fold m p, usesOk_cons]
    constructor
    · rintro ⟨h1, h2⟩
      split at h1
      · exact ⟨by omega, fun _ => by omega, h2⟩
      · rename_i h; exact ⟨h1, fun g => absurd g h, h2⟩
    · rintro ⟨h1, h2, h3⟩
      refine ⟨?_, h3⟩
      split
      · rename_i h; have := h2 h; omega
      · exact h1
theorem used_iff {m : Int} {p : List VOp} (hm : 0 ≤ m) : usedM p ≤ m ↔ usesOk m p := by
  unfold usedM
  rw [used_fold]
  exact ⟨fun h => h.2, fun h => ⟨hm, h⟩⟩
end Go.Proofs.YtdpbdcaefdcooaaGreatDoor
