/-
  The state of a run of the machine: its block, and the points that its pointers lead to. Plain lemmas.
-/
import Derived.Test.YtlgcijafjcfnhaaDoorMs
namespace Go.Proofs.YtlgcijafjcfnhaaDoor
open Go.RowKit

/-- A point: X, Y, On. -/
abbrev Pt := Int × Int × Bool

structure Cfg where
  b : Nat
  p : Value
  bp : Nat
  pa : Option Addr
  cap : Nat
  size : Int
  adr : List (Nat × Nat)

/-- The blocks that a run may change. -/
def Cfg.own (c : Cfg) (k : Nat) : Prop := k = c.b ∨ ∃ a ∈ c.adr, a.1 = k

structure FlS (w : World) (c : Cfg) (o : List Pt) (stk : List Int) (steps : Int) : Prop where
  ms : MS w c.b c.p (.slice c.pa o.length c.cap) c.size stk steps
  pa : o ≠ [] → c.pa = some ⟨c.bp, 0, none⟩
  lm : ∀ x ∈ stk, -1073741824 ≤ x ∧ x ≤ 1073741824
  len : c.adr.length = o.length
  ptr : ∀ i a, c.adr[i]? = some a → w.cell? ⟨c.bp, i, none⟩ = some (.pointer (some ⟨a.1, a.2, none⟩))
  cx : ∀ (i : Nat) (a : Nat × Nat) (q : Pt), c.adr[i]? = some a → o[i]? = some q → w.cell? ⟨a.1, a.2 + 0, none⟩ = some (.int .i64 q.1)
  cy : ∀ (i : Nat) (a : Nat × Nat) (q : Pt), c.adr[i]? = some a → o[i]? = some q → w.cell? ⟨a.1, a.2 + 1, none⟩ = some (.int .i64 q.2.1)
  con : ∀ (i : Nat) (a : Nat × Nat) (q : Pt), c.adr[i]? = some a → o[i]? = some q → w.cell? ⟨a.1, a.2 + 2, none⟩ = some (.bool q.2.2)
  fr : ∀ a ∈ c.adr, ∀ j, w.frozen? ⟨a.1, j, none⟩ = false
  ne : ∀ a ∈ c.adr, a.1 ≠ c.b ∧ a.1 ≠ c.bp ∧ c.b ≠ c.bp
  apart : ∀ (i j : Nat) (a a' : Nat × Nat), i ≠ j → c.adr[i]? = some a → c.adr[j]? = some a' → a.1 ≠ a'.1 ∨ a.2 + 3 ≤ a'.2 ∨ a'.2 + 3 ≤ a.2

section
variable {w : World} {c : Cfg} {o : List Pt} {stk : List Int} {steps : Int}
theorem lim_in (n : Int) : -1073741824 ≤ lim n ∧ lim n ≤ 1073741824 := by unfold lim; omega

/-- A call that changes the machine's block alone. -/
theorem FlS.next {w' : World} {stk' : List Int} {steps' : Int} (h : FlS w c o stk steps) (m : MS w' c.b c.p (.slice c.pa o.length c.cap) c.size stk' steps') (hl : ∀ x ∈ stk', -1073741824 ≤ x ∧ x ≤ 1073741824) (hc : Ch (· = c.b) w w') : FlS w' c o stk' steps' where
  ms := m
  pa := h.pa
  lm := hl
  len := h.len
  ptr i a ha := hc.cell (h.ptr i a ha) (fun e => (h.ne a (List.mem_of_getElem? ha)).2.2 e.symm)
  cx i a q ha hq := hc.cell (h.cx i a q ha hq) (h.ne a (List.mem_of_getElem? ha)).1
  cy i a q ha hq := hc.cell (h.cy i a q ha hq) (h.ne a (List.mem_of_getElem? ha)).1
  con i a q ha hq := hc.cell (h.con i a q ha hq) (h.ne a (List.mem_of_getElem? ha)).1
  fr a ha j := by
    obtain ⟨i, hi, rfl⟩ := List.getElem_of_mem ha
    have hio : i < o.length := by rw [← h.len]; exact hi
    have hx := h.cx i c.adr[i] o[i] (List.getElem?_eq_getElem hi) (List.getElem?_eq_getElem hio)
    exact (hc.frozen (a := ⟨c.adr[i].1, j, none⟩) (World.block_lt_of_cell? w ⟨_, _, none⟩ hx : c.adr[i].1 < w.heap.size) (h.ne _ ha).1).trans (h.fr _ ha j)
  ne := h.ne
  apart := h.apart

theorem FlS.own_lt (h : FlS w c o stk steps) {k : Nat} (hk : c.own k) : k < w.heap.size := by
  rcases hk with rfl | ⟨a, ha, rfl⟩
  · exact h.ms.lt
  · obtain ⟨i, hi, rfl⟩ := List.getElem_of_mem ha
    have hio : i < o.length := by rw [← h.len]; exact hi
    exact World.block_lt_of_cell? w ⟨_, _, none⟩ (h.cx i c.adr[i] o[i] (List.getElem?_eq_getElem hi) (List.getElem?_eq_getElem hio))

/-- Nothing of the machine's has changed. -/
theorem FlS.kept {w' : World} (h : FlS w c o stk steps) (hc : Nw w w') : FlS w' c o stk steps :=
  h.next (h.ms.kept hc fun x => x) h.lm (hc.mono fun _ _ x => x.elim)

theorem mem_dropLast_lim {stk : List Int} {x : Int} (h : ∀ y ∈ stk ++ [x], -1073741824 ≤ y ∧ y ≤ 1073741824) : (∀ y ∈ stk, -1073741824 ≤ y ∧ y ≤ 1073741824) ∧ -1073741824 ≤ x ∧ x ≤ 1073741824 :=
  ⟨fun y hy => h y (by simp [hy]), h x (by simp)⟩
theorem snoc_lim {stk : List Int} {x : Int} (h : ∀ y ∈ stk, -1073741824 ≤ y ∧ y ≤ 1073741824) (hx : -1073741824 ≤ x ∧ x ≤ 1073741824) : ∀ y ∈ stk ++ [x], -1073741824 ≤ y ∧ y ≤ 1073741824 := by
  intro y hy; simp at hy; rcases hy with hy | rfl; exact h y hy; exact hx

/-- The point with X or Y turned. -/
def updX (x : Int) (q : Pt) : Pt := (x, q.2.1, q.2.2)
def updY (y : Int) (q : Pt) : Pt := (q.1, y, q.2.2)

theorem FlS.setX {n : Nat} {x : Int} {d : Nat} {a : Nat × Nat} {q : Pt} (h : FlS w c o stk steps) (ha : c.adr[n]? = some a) (hq : o[n]? = some q) :
    FlS ((w.setCell ⟨a.1, a.2 + 0, none⟩ (.int .i64 x)).drewN d) c (o.set n (updX x q)) stk steps := by
  have hne := h.ne a (List.mem_of_getElem? ha)
  have hn : n < o.length := (List.getElem?_eq_some_iff.1 hq).1
  have hch : Ch (· = a.1) w ((w.setCell ⟨a.1, a.2 + 0, none⟩ (.int .i64 x)).drewN d) := ((Ch.refl (· = a.1) w).setb (fun _ => rfl) _).drewN _
  have oth : ∀ (i k : Nat) (a' : Nat × Nat) (v : Value), c.adr[i]? = some a' → k < 3 → (i ≠ n ∨ k ≠ 0) → w.cell? ⟨a'.1, a'.2 + k, none⟩ = some v → ((w.setCell ⟨a.1, a.2 + 0, none⟩ (.int .i64 x)).drewN d).cell? ⟨a'.1, a'.2 + k, none⟩ = some v := by
    intro i k a' v hi hk hik hv
    rw [cell_drewN, World.cell?_setCell_other]
    · exact hv
    · intro e
      simp only [Addr.mk.injEq, and_true] at e
      by_cases hin : i = n
      · subst hin
        obtain rfl : a = a' := Option.some.inj (ha.symm.trans hi)
        rcases hik with h | h
        · exact h rfl
        · omega
      · rcases h.apart n i a a' (fun e => hin e.symm) ha hi with h | h | h
        · exact h e.1
        · omega
        · omega
  refine { ms := ?_, pa := ?_, lm := h.lm, len := ?_, ptr := ?_, cx := ?_, cy := ?_, con := ?_, fr := ?_, ne := h.ne, apart := h.apart }
  · have := h.ms.kept hch (fun e => hne.1 e.symm)
    simpa using this
  · intro h0; exact h.pa (fun e => h0 (by simp [e]))
  · simpa using h.len
  · intro i a' ha'; exact hch.cell (h.ptr i a' ha') (fun e => hne.2.1 e.symm)
  · intro i a' q' ha' hq'
    by_cases hin : n = i
    · subst hin
      obtain rfl : a = a' := Option.some.inj (ha.symm.trans ha')
      simp [List.getElem?_set_self hn] at hq'
      subst hq'
      rw [cell_drewN]
      exact World.cell?_setCell_same _ _ _ (h.cx n a q ha hq)
    · rw [List.getElem?_set_ne hin] at hq'
      exact oth i 0 a' _ ha' (by omega) (.inl (fun e => hin e.symm)) (h.cx i a' q' ha' hq')
  · intro i a' q' ha' hq'
    by_cases hin : n = i
    · subst hin
      simp [List.getElem?_set_self hn] at hq'
      subst hq'
      exact oth n 1 a' _ ha' (by omega) (.inr (by omega)) (h.cy n a' q ha' hq)
    · rw [List.getElem?_set_ne hin] at hq'
      exact oth i 1 a' _ ha' (by omega) (.inl (fun e => hin e.symm)) (h.cy i a' q' ha' hq')
  · intro i a' q' ha' hq'
    by_cases hin : n = i
    · subst hin
      simp [List.getElem?_set_self hn] at hq'
      subst hq'
      exact oth n 2 a' _ ha' (by omega) (.inr (by omega)) (h.con n a' q ha' hq)
    · rw [List.getElem?_set_ne hin] at hq'
      exact oth i 2 a' _ ha' (by omega) (.inl (fun e => hin e.symm)) (h.con i a' q' ha' hq')
  · intro a' ha' j
    show (w.setCell _ _).frozen? _ = false
    rw [World.frozen?_setCell]; exact h.fr a' ha' j

theorem FlS.setY {n : Nat} {x : Int} {d : Nat} {a : Nat × Nat} {q : Pt} (h : FlS w c o stk steps) (ha : c.adr[n]? = some a) (hq : o[n]? = some q) :
    FlS ((w.setCell ⟨a.1, a.2 + 1, none⟩ (.int .i64 x)).drewN d) c (o.set n (updY x q)) stk steps := by
  have hne := h.ne a (List.mem_of_getElem? ha)
  have hn : n < o.length := (List.getElem?_eq_some_iff.1 hq).1
  have hch : Ch (· = a.1) w ((w.setCell ⟨a.1, a.2 + 1, none⟩ (.int .i64 x)).drewN d) := ((Ch.refl (· = a.1) w).setb (fun _ => rfl) _).drewN _
  have oth : ∀ (i k : Nat) (a' : Nat × Nat) (v : Value), c.adr[i]? = some a' → k < 3 → (i ≠ n ∨ k ≠ 1) → w.cell? ⟨a'.1, a'.2 + k, none⟩ = some v → ((w.setCell ⟨a.1, a.2 + 1, none⟩ (.int .i64 x)).drewN d).cell? ⟨a'.1, a'.2 + k, none⟩ = some v := by
    intro i k a' v hi hk hik hv
    rw [cell_drewN, World.cell?_setCell_other]
    · exact hv
    · intro e
      simp only [Addr.mk.injEq, and_true] at e
      by_cases hin : i = n
      · subst hin
        obtain rfl : a = a' := Option.some.inj (ha.symm.trans hi)
        rcases hik with h | h
        · exact h rfl
        · omega
      · rcases h.apart n i a a' (fun e => hin e.symm) ha hi with h | h | h
        · exact h e.1
        · omega
        · omega
  refine { ms := ?_, pa := ?_, lm := h.lm, len := ?_, ptr := ?_, cx := ?_, cy := ?_, con := ?_, fr := ?_, ne := h.ne, apart := h.apart }
  · have := h.ms.kept hch (fun e => hne.1 e.symm)
    simpa using this
  · intro h0; exact h.pa (fun e => h0 (by simp [e]))
  · simpa using h.len
  · intro i a' ha'; exact hch.cell (h.ptr i a' ha') (fun e => hne.2.1 e.symm)
  · intro i a' q' ha' hq'
    by_cases hin : n = i
    · subst hin
      simp [List.getElem?_set_self hn] at hq'
      subst hq'
      exact oth n 0 a' _ ha' (by omega) (.inr (by omega)) (h.cx n a' q ha' hq)
    · rw [List.getElem?_set_ne hin] at hq'
      exact oth i 0 a' _ ha' (by omega) (.inl (fun e => hin e.symm)) (h.cx i a' q' ha' hq')
  · intro i a' q' ha' hq'
    by_cases hin : n = i
    · subst hin
      obtain rfl : a = a' := Option.some.inj (ha.symm.trans ha')
      simp [List.getElem?_set_self hn] at hq'
      subst hq'
      rw [cell_drewN]
      exact World.cell?_setCell_same _ _ _ (h.cy n a q ha hq)
    · rw [List.getElem?_set_ne hin] at hq'
      exact oth i 1 a' _ ha' (by omega) (.inl (fun e => hin e.symm)) (h.cy i a' q' ha' hq')
  · intro i a' q' ha' hq'
    by_cases hin : n = i
    · subst hin
      simp [List.getElem?_set_self hn] at hq'
      subst hq'
      exact oth n 2 a' _ ha' (by omega) (.inr (by omega)) (h.con n a' q ha' hq)
    · rw [List.getElem?_set_ne hin] at hq'
      exact oth i 2 a' _ ha' (by omega) (.inl (fun e => hin e.symm)) (h.con i a' q' ha' hq')
  · intro a' ha' j
    show (w.setCell _ _).frozen? _ = false
    rw [World.frozen?_setCell]; exact h.fr a' ha' j

theorem snoc_of_pos {stk : List Int} (h : 0 < stk.length) : ∃ s x, stk = s ++ [x] :=
  ⟨stk.dropLast, stk.getLast (by intro e; simp [e] at h), (List.dropLast_concat_getLast (by intro e; simp [e] at h)).symm⟩
end
end Go.Proofs.YtlgcijafjcfnhaaDoor
