/-
  What the function of an operation does to the state of a run: the model 'doOp', and the contract 'DoOk' of a function value.
-/
import Derived.Test.YtlgcijafjcfnhaaDoorCfg
import Derived.Test.YtlgcijafjcfnhaaDoorOps
import Derived.Test.YtlgcijafjcfnhaaDoorFn
namespace Go.Proofs.YtlgcijafjcfnhaaDoor
open Go.RowKit

def pops (c : Int) : Nat := if c = 2 ∨ c = 3 ∨ c = 4 ∨ c = 5 then 2 else if c = 6 ∨ c = 7 ∨ c = 8 ∨ c = 12 ∨ c = 13 ∨ c = 14 then 1 else 0
def pushes (c : Int) : Nat := if 1 ≤ c ∧ c ≤ 11 then 1 else 0
def isNum (c : Int) : Bool := decide (c = 1)
def isPt (c : Int) : Bool := decide (10 ≤ c ∧ c ≤ 13)
def isBlk (c : Int) : Bool := decide (c = 14 ∨ c = 15)

/-- The numbers on the stack but the last one; the last one. -/
def rest (s : List Int) : List Int := s.dropLast
def top (s : List Int) : Int := s.getLastD 0
theorem rest_snoc (s : List Int) (x : Int) : rest (s ++ [x]) = s := by simp [rest]
theorem top_snoc (s : List Int) (x : Int) : top (s ++ [x]) = x := by simp [top]

/-- What an operation without a block does. -/
def doOp (size c n : Int) (o : List Pt) (s : List Int) : List Pt × List Int :=
  if c = 1 then (o, s ++ [lim n])
  else if c = 2 then (o, rest (rest s) ++ [lim (top (rest s) + top s)])
  else if c = 3 then (o, rest (rest s) ++ [lim (top (rest s) - top s)])
  else if c = 4 then (o, rest (rest s) ++ [lim (min (top (rest s)) (top s))])
  else if c = 5 then (o, rest (rest s) ++ [lim (max (top (rest s)) (top s))])
  else if c = 6 then (o, rest s ++ [lim (-top s)])
  else if c = 7 then (o, rest s ++ [lim (top s / 2)])
  else if c = 8 then (o, rest s ++ [lim (rnd64 (top s))])
  else if c = 9 then (o, s ++ [lim size])
  else if c = 10 then (o, s ++ [lim (o.getD n.toNat default).1])
  else if c = 11 then (o, s ++ [lim (o.getD n.toNat default).2.1])
  else if c = 12 then (o.set n.toNat (updX (top s) (o.getD n.toNat default)), rest s)
  else if c = 13 then (o.set n.toNat (updY (top s) (o.getD n.toNat default)), rest s)
  else (o, s)

/-- The operation can be carried out. -/
def can (c n : Int) (o : List Pt) (s : List Int) : Prop :=
  pops c ≤ s.length ∧ s.length - pops c + pushes c ≤ 8 ∧ (isPt c = true → 0 ≤ n ∧ n < o.length)

/-- The function value v carries out the operations of the code c, wherever the blocks from lo on are as they are in w. -/
def DoOk (w : World) (lo b : Nat) (c : Int) (v : Value) : Prop :=
  ∃ G fst caps, v = .func (.func G) fst caps ∧ (∀ args w, (callFunc G args).run Tryd.prog w = .ok (.enter G args) w) ∧
    ∀ (w' : World) (g : Cfg) (o : List Pt) (s : List Int) (steps n : Int) (R : Ending → World → Prop),
      (∀ k, lo ≤ k → k < w.heap.size → w'.heap[k]? = w.heap[k]?) → FlS w' g o s steps → g.b = b → (∀ k, g.own k ∨ k = g.bp → k < lo) → can c n o s →
      (∀ w'', FlS w'' g (doOp g.size c n o s).1 (doOp g.size c n o s).2 steps → Ch g.own w' w'' → R (.returned (.tuple #[])) w'') →
      Calls Tryd.prog G (fst ++ #[.int .i64 n] ++ caps) w' R

section
variable {w' : World} {g : Cfg} {o : List Pt} {s : List Int} {steps n : Int} {R : Ending → World → Prop}
theorem cell_same {w w' : World} {lo k j : Nat} {v : Value} (h : ∀ k, lo ≤ k → k < w.heap.size → w'.heap[k]? = w.heap[k]?) (hk : lo ≤ k) (hv : w.cell? ⟨k, j, none⟩ = some v) : w'.cell? ⟨k, j, none⟩ = some v :=
  (World.cell?_of_block (h k hk (World.block_lt_of_cell? w ⟨k, j, none⟩ hv))).trans hv

theorem own_b {g : Cfg} {w w' : World} (h : Ch (· = g.b) w w') : Ch g.own w w' := h.mono fun _ _ e => .inl e


theorem can_nat {c : Int} (hp : isPt c = true) (h : can c n o s) : ∃ k : Nat, n = k ∧ k < o.length := by
  have := h.2.2 hp
  exact ⟨n.toNat, by omega, by omega⟩

theorem do1 (w : World) (lo b : Nat) : DoOk w lo b 1 (.func (.func 58) #[.pointer (some ⟨b, 0, none⟩)] #[]) := by
  refine ⟨58, _, _, rfl, fun _ _ => by kernel_rfl, ?_⟩
  intro w' g o s steps n R _ hf hb _ hc hR
  subst hb
  refine push_any n hf.ms (by have := hc.2.1; simp [pops, pushes] at this; omega) R fun w2 m2 c2 => ?_
  exact hR w2 (hf.next m2 (snoc_lim hf.lm (lim_in _)) c2) (own_b c2)

theorem do2 (w : World) (lo b bm bf : Nat) (hm : lo ≤ bm) (hf0 : lo ≤ bf) (hb0 : b < lo) (h1 : w.cell? ⟨bm, 0, none⟩ = some (.pointer (some ⟨b, 0, none⟩))) (h2 : w.cell? ⟨bf, 0, none⟩ = some (.func (.func 60) #[] #[])) :
    DoOk w lo b 2 (.func (.func 76) #[] #[.pointer (some ⟨bm, 0, none⟩), .pointer (some ⟨bf, 0, none⟩)]) := by
  refine ⟨76, _, _, rfl, fun _ _ => by kernel_rfl, ?_⟩
  intro w' g o s steps n R hsame hf hb _ hc hR
  subst hb
  obtain ⟨s1, y, rfl⟩ := snoc_of_pos (stk := s) (by have := hc.1; simp [pops] at this; omega)
  obtain ⟨s2, x, rfl⟩ := snoc_of_pos (stk := s1) (by have := hc.1; simp [pops] at this; omega)
  obtain ⟨l1, hy⟩ := mem_dropLast_lim hf.lm
  obtain ⟨l2, hx⟩ := mem_dropLast_lim l1
  refine two1_any bm bf 60 (fun x y => x + y) n x y hf.ms (by omega) (by omega) (cell_same hsame hm h1) (cell_same hsame hf0 h2) (fun _ _ => by kernel_rfl) (fun w R h => o1_any w R x y hx hy h) R fun w2 m2 c2 => ?_
  have := hR w2
  simp only [doOp, rest_snoc, top_snoc, reduceIte, Int.reduceEq] at this
  exact this (hf.next m2 (snoc_lim l2 (lim_in _)) c2) (own_b c2)

theorem do3 (w : World) (lo b bm bf : Nat) (hm : lo ≤ bm) (hf0 : lo ≤ bf) (hb0 : b < lo) (h1 : w.cell? ⟨bm, 0, none⟩ = some (.pointer (some ⟨b, 0, none⟩))) (h2 : w.cell? ⟨bf, 0, none⟩ = some (.func (.func 61) #[] #[])) :
    DoOk w lo b 3 (.func (.func 76) #[] #[.pointer (some ⟨bm, 0, none⟩), .pointer (some ⟨bf, 0, none⟩)]) := by
  refine ⟨76, _, _, rfl, fun _ _ => by kernel_rfl, ?_⟩
  intro w' g o s steps n R hsame hf hb _ hc hR
  subst hb
  obtain ⟨s1, y, rfl⟩ := snoc_of_pos (stk := s) (by have := hc.1; simp [pops] at this; omega)
  obtain ⟨s2, x, rfl⟩ := snoc_of_pos (stk := s1) (by have := hc.1; simp [pops] at this; omega)
  obtain ⟨l1, hy⟩ := mem_dropLast_lim hf.lm
  obtain ⟨l2, hx⟩ := mem_dropLast_lim l1
  refine two1_any bm bf 61 (fun x y => x - y) n x y hf.ms (by omega) (by omega) (cell_same hsame hm h1) (cell_same hsame hf0 h2) (fun _ _ => by kernel_rfl) (fun w R h => o2_any w R x y hx hy h) R fun w2 m2 c2 => ?_
  have := hR w2
  simp only [doOp, rest_snoc, top_snoc, reduceIte, Int.reduceEq] at this
  exact this (hf.next m2 (snoc_lim l2 (lim_in _)) c2) (own_b c2)

theorem do4 (w : World) (lo b bm bf : Nat) (hm : lo ≤ bm) (hf0 : lo ≤ bf) (hb0 : b < lo) (h1 : w.cell? ⟨bm, 0, none⟩ = some (.pointer (some ⟨b, 0, none⟩))) (h2 : w.cell? ⟨bf, 0, none⟩ = some (.func (.func 62) #[] #[])) :
    DoOk w lo b 4 (.func (.func 76) #[] #[.pointer (some ⟨bm, 0, none⟩), .pointer (some ⟨bf, 0, none⟩)]) := by
  refine ⟨76, _, _, rfl, fun _ _ => by kernel_rfl, ?_⟩
  intro w' g o s steps n R hsame hf hb _ hc hR
  subst hb
  obtain ⟨s1, y, rfl⟩ := snoc_of_pos (stk := s) (by have := hc.1; simp [pops] at this; omega)
  obtain ⟨s2, x, rfl⟩ := snoc_of_pos (stk := s1) (by have := hc.1; simp [pops] at this; omega)
  obtain ⟨l1, hy⟩ := mem_dropLast_lim hf.lm
  obtain ⟨l2, hx⟩ := mem_dropLast_lim l1
  refine two1_any bm bf 62 (fun x y => min x y) n x y hf.ms (by omega) (by omega) (cell_same hsame hm h1) (cell_same hsame hf0 h2) (fun _ _ => by kernel_rfl) (fun w R h => o3_any w R x y h) R fun w2 m2 c2 => ?_
  have := hR w2
  simp only [doOp, rest_snoc, top_snoc, reduceIte, Int.reduceEq] at this
  exact this (hf.next m2 (snoc_lim l2 (lim_in _)) c2) (own_b c2)

theorem do5 (w : World) (lo b bm bf : Nat) (hm : lo ≤ bm) (hf0 : lo ≤ bf) (hb0 : b < lo) (h1 : w.cell? ⟨bm, 0, none⟩ = some (.pointer (some ⟨b, 0, none⟩))) (h2 : w.cell? ⟨bf, 0, none⟩ = some (.func (.func 63) #[] #[])) :
    DoOk w lo b 5 (.func (.func 76) #[] #[.pointer (some ⟨bm, 0, none⟩), .pointer (some ⟨bf, 0, none⟩)]) := by
  refine ⟨76, _, _, rfl, fun _ _ => by kernel_rfl, ?_⟩
  intro w' g o s steps n R hsame hf hb _ hc hR
  subst hb
  obtain ⟨s1, y, rfl⟩ := snoc_of_pos (stk := s) (by have := hc.1; simp [pops] at this; omega)
  obtain ⟨s2, x, rfl⟩ := snoc_of_pos (stk := s1) (by have := hc.1; simp [pops] at this; omega)
  obtain ⟨l1, hy⟩ := mem_dropLast_lim hf.lm
  obtain ⟨l2, hx⟩ := mem_dropLast_lim l1
  refine two1_any bm bf 63 (fun x y => max x y) n x y hf.ms (by omega) (by omega) (cell_same hsame hm h1) (cell_same hsame hf0 h2) (fun _ _ => by kernel_rfl) (fun w R h => o4_any w R x y h) R fun w2 m2 c2 => ?_
  have := hR w2
  simp only [doOp, rest_snoc, top_snoc, reduceIte, Int.reduceEq] at this
  exact this (hf.next m2 (snoc_lim l2 (lim_in _)) c2) (own_b c2)

theorem do6 (w : World) (lo b bm bf : Nat) (hm : lo ≤ bm) (hf0 : lo ≤ bf) (hb0 : b < lo) (h1 : w.cell? ⟨bm, 0, none⟩ = some (.pointer (some ⟨b, 0, none⟩))) (h2 : w.cell? ⟨bf, 0, none⟩ = some (.func (.func 65) #[] #[])) :
    DoOk w lo b 6 (.func (.func 77) #[] #[.pointer (some ⟨bm, 0, none⟩), .pointer (some ⟨bf, 0, none⟩)]) := by
  refine ⟨77, _, _, rfl, fun _ _ => by kernel_rfl, ?_⟩
  intro w' g o s steps n R hsame hf hb _ hc hR
  subst hb
  obtain ⟨s1, x, rfl⟩ := snoc_of_pos (stk := s) (by have := hc.1; simp [pops] at this; omega)
  obtain ⟨l1, hx⟩ := mem_dropLast_lim hf.lm
  refine one1_any bm bf 65 (fun x => -x) n x hf.ms (by omega) (by omega) (cell_same hsame hm h1) (cell_same hsame hf0 h2) (fun _ _ => by kernel_rfl) (fun w R h => o5_any w R x hx h) R fun w2 m2 c2 => ?_
  have := hR w2
  simp only [doOp, rest_snoc, top_snoc, reduceIte, Int.reduceEq] at this
  exact this (hf.next m2 (snoc_lim l1 (lim_in _)) c2) (own_b c2)

theorem do7 (w : World) (lo b bm bf : Nat) (hm : lo ≤ bm) (hf0 : lo ≤ bf) (hb0 : b < lo) (h1 : w.cell? ⟨bm, 0, none⟩ = some (.pointer (some ⟨b, 0, none⟩))) (h2 : w.cell? ⟨bf, 0, none⟩ = some (.func (.func 66) #[] #[])) :
    DoOk w lo b 7 (.func (.func 77) #[] #[.pointer (some ⟨bm, 0, none⟩), .pointer (some ⟨bf, 0, none⟩)]) := by
  refine ⟨77, _, _, rfl, fun _ _ => by kernel_rfl, ?_⟩
  intro w' g o s steps n R hsame hf hb _ hc hR
  subst hb
  obtain ⟨s1, x, rfl⟩ := snoc_of_pos (stk := s) (by have := hc.1; simp [pops] at this; omega)
  obtain ⟨l1, hx⟩ := mem_dropLast_lim hf.lm
  refine one1_any bm bf 66 (fun x => x / 2) n x hf.ms (by omega) (by omega) (cell_same hsame hm h1) (cell_same hsame hf0 h2) (fun _ _ => by kernel_rfl) (fun w R h => o6_any w R x hx h) R fun w2 m2 c2 => ?_
  have := hR w2
  simp only [doOp, rest_snoc, top_snoc, reduceIte, Int.reduceEq] at this
  exact this (hf.next m2 (snoc_lim l1 (lim_in _)) c2) (own_b c2)

theorem do8 (w : World) (lo b bm bf : Nat) (hm : lo ≤ bm) (hf0 : lo ≤ bf) (hb0 : b < lo) (h1 : w.cell? ⟨bm, 0, none⟩ = some (.pointer (some ⟨b, 0, none⟩))) (h2 : w.cell? ⟨bf, 0, none⟩ = some (.func (.func 67) #[] #[])) :
    DoOk w lo b 8 (.func (.func 77) #[] #[.pointer (some ⟨bm, 0, none⟩), .pointer (some ⟨bf, 0, none⟩)]) := by
  refine ⟨77, _, _, rfl, fun _ _ => by kernel_rfl, ?_⟩
  intro w' g o s steps n R hsame hf hb _ hc hR
  subst hb
  obtain ⟨s1, x, rfl⟩ := snoc_of_pos (stk := s) (by have := hc.1; simp [pops] at this; omega)
  obtain ⟨l1, hx⟩ := mem_dropLast_lim hf.lm
  refine one1_any bm bf 67 (fun x => rnd64 x) n x hf.ms (by omega) (by omega) (cell_same hsame hm h1) (cell_same hsame hf0 h2) (fun _ _ => by kernel_rfl) (fun w R h => rnd_any w R x hx h) R fun w2 m2 c2 => ?_
  have := hR w2
  simp only [doOp, rest_snoc, top_snoc, reduceIte, Int.reduceEq] at this
  exact this (hf.next m2 (snoc_lim l1 (lim_in _)) c2) (own_b c2)

theorem do9 (w : World) (lo b bm : Nat) (hm : lo ≤ bm) (hb0 : b < lo) (h1 : w.cell? ⟨bm, 0, none⟩ = some (.pointer (some ⟨b, 0, none⟩))) :
    DoOk w lo b 9 (.func (.func 68) #[] #[.pointer (some ⟨bm, 0, none⟩)]) := by
  refine ⟨68, _, _, rfl, fun _ _ => by kernel_rfl, ?_⟩
  intro w' g o s steps n R hsame hf hb _ hc hR
  subst hb
  refine of7_any bm n hf.ms (by have := hc.2.1; simp [pops, pushes] at this; omega) (by omega) (cell_same hsame hm h1) R fun w2 m2 c2 => ?_
  exact hR w2 (hf.next m2 (snoc_lim hf.lm (lim_in _)) c2) (own_b c2)

theorem do10 (w : World) (lo b bm bf : Nat) (hm : lo ≤ bm) (hf0 : lo ≤ bf) (hb0 : b < lo) (h1 : w.cell? ⟨bm, 0, none⟩ = some (.pointer (some ⟨b, 0, none⟩))) (h2 : w.cell? ⟨bf, 0, none⟩ = some (.func (.func 70) #[] #[])) :
    DoOk w lo b 10 (.func (.func 79) #[] #[.pointer (some ⟨bm, 0, none⟩), .pointer (some ⟨bf, 0, none⟩)]) := by
  refine ⟨79, _, _, rfl, fun _ _ => by kernel_rfl, ?_⟩
  intro w' g o s steps n R hsame hf hb hlo hc hR
  subst hb
  obtain ⟨k, rfl, hk⟩ := can_nat (by decide) hc
  have ha : g.adr[k]? = some (g.adr[k]'(by rw [hf.len]; exact hk)) := List.getElem?_eq_getElem _
  have hq : o[k]? = some o[k] := List.getElem?_eq_getElem _
  have ne := hf.ne _ (List.mem_of_getElem? ha)
  have hms := hf.ms
  rw [hf.pa (fun e => by simp [e] at hk)] at hms
  refine get1_any bm bf 70 g.bp k _ _ 0 o.length g.cap _ hms (by have := hc.2.1; simp [pops, pushes] at this; omega) (by omega) (by omega) ne.2.2 ne.1.symm (cell_same hsame hm h1) (cell_same hsame hf0 h2) (hf.ptr k _ ha) hk (hf.cx k _ _ ha hq) (fun _ _ => by kernel_rfl) (fun pb po w R h => fx_any w R pb po h) R fun w2 m2 c2 => ?_
  rw [← hf.pa (fun e => by simp [e] at hk)] at m2
  have := hR w2
  simp only [doOp, reduceIte, Int.reduceEq, Int.toNat_natCast, List.getD_eq_getElem?_getD, hq, Option.getD_some] at this
  exact this (hf.next m2 (snoc_lim hf.lm (lim_in _)) c2) (own_b c2)

theorem do11 (w : World) (lo b bm bf : Nat) (hm : lo ≤ bm) (hf0 : lo ≤ bf) (hb0 : b < lo) (h1 : w.cell? ⟨bm, 0, none⟩ = some (.pointer (some ⟨b, 0, none⟩))) (h2 : w.cell? ⟨bf, 0, none⟩ = some (.func (.func 71) #[] #[])) :
    DoOk w lo b 11 (.func (.func 79) #[] #[.pointer (some ⟨bm, 0, none⟩), .pointer (some ⟨bf, 0, none⟩)]) := by
  refine ⟨79, _, _, rfl, fun _ _ => by kernel_rfl, ?_⟩
  intro w' g o s steps n R hsame hf hb hlo hc hR
  subst hb
  obtain ⟨k, rfl, hk⟩ := can_nat (by decide) hc
  have ha : g.adr[k]? = some (g.adr[k]'(by rw [hf.len]; exact hk)) := List.getElem?_eq_getElem _
  have hq : o[k]? = some o[k] := List.getElem?_eq_getElem _
  have ne := hf.ne _ (List.mem_of_getElem? ha)
  have hms := hf.ms
  rw [hf.pa (fun e => by simp [e] at hk)] at hms
  refine get1_any bm bf 71 g.bp k _ _ 1 o.length g.cap _ hms (by have := hc.2.1; simp [pops, pushes] at this; omega) (by omega) (by omega) ne.2.2 ne.1.symm (cell_same hsame hm h1) (cell_same hsame hf0 h2) (hf.ptr k _ ha) hk (hf.cy k _ _ ha hq) (fun _ _ => by kernel_rfl) (fun pb po w R h => fy_any w R pb po h) R fun w2 m2 c2 => ?_
  rw [← hf.pa (fun e => by simp [e] at hk)] at m2
  have := hR w2
  simp only [doOp, reduceIte, Int.reduceEq, Int.toNat_natCast, List.getD_eq_getElem?_getD, hq, Option.getD_some] at this
  exact this (hf.next m2 (snoc_lim hf.lm (lim_in _)) c2) (own_b c2)

theorem do12 (w : World) (lo b bm bf : Nat) (hm : lo ≤ bm) (hf0 : lo ≤ bf) (hb0 : b < lo) (h1 : w.cell? ⟨bm, 0, none⟩ = some (.pointer (some ⟨b, 0, none⟩))) (h2 : w.cell? ⟨bf, 0, none⟩ = some (.func (.func 70) #[] #[])) :
    DoOk w lo b 12 (.func (.func 80) #[] #[.pointer (some ⟨bm, 0, none⟩), .pointer (some ⟨bf, 0, none⟩)]) := by
  refine ⟨80, _, _, rfl, fun _ _ => by kernel_rfl, ?_⟩
  intro w' g o s steps n R hsame hf hb hlo hc hR
  subst hb
  obtain ⟨k, rfl, hk⟩ := can_nat (by decide) hc
  obtain ⟨s1, x, rfl⟩ := snoc_of_pos (stk := s) (by have := hc.1; simp [pops] at this; omega)
  obtain ⟨l1, hx⟩ := mem_dropLast_lim hf.lm
  have ha : g.adr[k]? = some (g.adr[k]'(by rw [hf.len]; exact hk)) := List.getElem?_eq_getElem _
  have hq : o[k]? = some o[k] := List.getElem?_eq_getElem _
  have hmem := List.mem_of_getElem? ha
  have ne := hf.ne _ hmem
  have hbp := hlo g.bp (.inr rfl)
  have hown := hlo _ (.inl (.inr ⟨_, hmem, rfl⟩))
  have hms := hf.ms
  rw [hf.pa (fun e => by simp [e] at hk)] at hms
  refine set1_any bm bf 70 g.bp k _ _ 0 o.length g.cap x _ hms (by omega) (by omega) ne.2.2 ne.1.symm (by omega) (by omega) ne.2.1.symm (cell_same hsame hm h1) (cell_same hsame hf0 h2) (hf.ptr k _ ha) hk (hf.cx k _ _ ha hq) (hf.fr _ hmem _) (fun _ _ => by kernel_rfl) (fun pb po w R h => fx_any w R pb po h) R fun w2 d m2 c2 => ?_
  rw [← hf.pa (fun e => by simp [e] at hk)] at m2
  have f2 := hf.next m2 l1 c2
  have := hR _ (by
    simp only [doOp, rest_snoc, top_snoc, reduceIte, Int.reduceEq, Int.toNat_natCast, List.getD_eq_getElem?_getD, hq, Option.getD_some]
    exact f2.setX (d := d) ha hq)
  exact this (((own_b c2).setb (fun _ => .inr ⟨_, hmem, rfl⟩) _).drewN _)

theorem do13 (w : World) (lo b bm bf : Nat) (hm : lo ≤ bm) (hf0 : lo ≤ bf) (hb0 : b < lo) (h1 : w.cell? ⟨bm, 0, none⟩ = some (.pointer (some ⟨b, 0, none⟩))) (h2 : w.cell? ⟨bf, 0, none⟩ = some (.func (.func 71) #[] #[])) :
    DoOk w lo b 13 (.func (.func 80) #[] #[.pointer (some ⟨bm, 0, none⟩), .pointer (some ⟨bf, 0, none⟩)]) := by
  refine ⟨80, _, _, rfl, fun _ _ => by kernel_rfl, ?_⟩
  intro w' g o s steps n R hsame hf hb hlo hc hR
  subst hb
  obtain ⟨k, rfl, hk⟩ := can_nat (by decide) hc
  obtain ⟨s1, x, rfl⟩ := snoc_of_pos (stk := s) (by have := hc.1; simp [pops] at this; omega)
  obtain ⟨l1, hx⟩ := mem_dropLast_lim hf.lm
  have ha : g.adr[k]? = some (g.adr[k]'(by rw [hf.len]; exact hk)) := List.getElem?_eq_getElem _
  have hq : o[k]? = some o[k] := List.getElem?_eq_getElem _
  have hmem := List.mem_of_getElem? ha
  have ne := hf.ne _ hmem
  have hbp := hlo g.bp (.inr rfl)
  have hown := hlo _ (.inl (.inr ⟨_, hmem, rfl⟩))
  have hms := hf.ms
  rw [hf.pa (fun e => by simp [e] at hk)] at hms
  refine set1_any bm bf 71 g.bp k _ _ 1 o.length g.cap x _ hms (by omega) (by omega) ne.2.2 ne.1.symm (by omega) (by omega) ne.2.1.symm (cell_same hsame hm h1) (cell_same hsame hf0 h2) (hf.ptr k _ ha) hk (hf.cy k _ _ ha hq) (hf.fr _ hmem _) (fun _ _ => by kernel_rfl) (fun pb po w R h => fy_any w R pb po h) R fun w2 d m2 c2 => ?_
  rw [← hf.pa (fun e => by simp [e] at hk)] at m2
  have f2 := hf.next m2 l1 c2
  have := hR _ (by
    simp only [doOp, rest_snoc, top_snoc, reduceIte, Int.reduceEq, Int.toNat_natCast, List.getD_eq_getElem?_getD, hq, Option.getD_some]
    exact f2.setY (d := d) ha hq)
  exact this (((own_b c2).setb (fun _ => .inr ⟨_, hmem, rfl⟩) _).drewN _)

theorem do14 (w : World) (lo b : Nat) : DoOk w lo b 14 (.func (.func 73) #[] #[]) := by
  refine ⟨73, _, _, rfl, fun _ _ => by kernel_rfl, ?_⟩
  intro w' g o s steps n R _ hf hb _ hc hR
  show Calls Tryd.prog 73 #[.int .i64 n] w' R
  go_enter Tryd.func73, Tryd.ntmps73
  go_wp2
  go_end0
  exact hR w' hf (Ch.refl _ _)

theorem do15 (w : World) (lo b : Nat) : DoOk w lo b 15 (.func (.func 74) #[] #[]) := by
  refine ⟨74, _, _, rfl, fun _ _ => by kernel_rfl, ?_⟩
  intro w' g o s steps n R _ hf hb _ hc hR
  show Calls Tryd.prog 74 #[.int .i64 n] w' R
  go_enter Tryd.func74, Tryd.ntmps74
  go_wp2
  go_end0
  exact hR w' hf (Ch.refl _ _)

end
end Go.Proofs.YtlgcijafjcfnhaaDoor
