/-
  A slice literal in one step, and what its block holds. No conditions: plain lemmas.
-/
import Derived.Test.YtdpbdcaefdcooaaGreatDoorLib
import Derived.Great.BuildSlice
namespace Go.Proofs.YtdpbdcaefdcooaaGreatDoor
open Go.RowKit
set_option linter.unusedVariables false

/-- What the new block of a slice literal holds. -/
def builtS (P : Program) (e : TypeId) (len : Nat) (parts : List (Nat × Value)) : Option (Array Value) :=
  match P.info? e with
  | some ie =>
    match ie.zero with
    | some z => if len * ie.size > 2 ^ 24 ∨ len * ie.size = 0 then none else Instr.fill (fun i => some (i * ie.size, ie.size)) ((Array.range (len * ie.size)).map (z.cells[· % z.cells.size]!)) parts
    | none => none
  | none => none

theorem wp_lit {P : Program} {o : Oper} {a : Act} {w : World} {K : Act → World → Prop} {Q : Exit → Act → World → Prop} (t e : TypeId) (len : Nat) (parts : Array (Nat × Operand)) (ho : o.op = .buildSlice t len parts)
    (hu : P.underlying t = some (.slice e)) (cells : Array Value) (hf : builtS P e len (parts.map fun (i, x) => (i, a.eval x)).toList = some cells)
    (h : K (a.put o.dst (.slice (some ⟨w.heap.size, 0, none⟩) len len)) (w.alloc (.cells cells e))) : o.wp P a w K Q := by
  unfold builtS at hf
  cases hie : P.info? e with
  | none => simp [hie] at hf
  | some ie =>
    simp only [hie] at hf
    cases hz : ie.zero with
    | none => simp [hz] at hf
    | some z =>
      simp only [hz] at hf
      by_cases hc : len * ie.size > 2 ^ 24 ∨ len * ie.size = 0
      · simp [hc] at hf
      · rw [if_neg hc] at hf
        exact wp_buildSlice t e len parts ho cells ie z hu hie hz (fun h' => hc (Or.inl h')) (fun h' => hc (Or.inr h')) hf h
theorem fill3 (a b c d e f g h i : Value) (c0 : Array Value) (hs : c0.size = 9) :
    Instr.fill (fun i => some (i * 3, 3)) c0 [(0, .agg #[a, b, c]), (1, .agg #[d, e, f]), (2, .agg #[g, h, i])] = some #[a, b, c, d, e, f, g, h, i] := by
  obtain ⟨l⟩ := c0
  match l, hs with
  | [b1, b2, b3, b4, b5, b6, b7, b8, b9], _ => simp [Instr.fill, Value.cells]

/-- A slice of three values of three cells each. -/
theorem wp_lit3 {P : Program} {o : Oper} {a : Act} {w : World} {K : Act → World → Prop} {Q : Exit → Act → World → Prop} (t e : TypeId) (x0 x1 x2 : Operand) (ho : o.op = .buildSlice t 3 #[(0, x0), (1, x1), (2, x2)])
    (hu : P.underlying t = some (.slice e)) (hi : (P.info? e).map (fun ie => (ie.size, ie.zero.map (·.cells.size))) = some (3, some 3)) {a1 a2 a3 a4 a5 a6 a7 a8 a9 : Value}
    (h0 : a.eval x0 = .agg #[a1, a2, a3]) (h1 : a.eval x1 = .agg #[a4, a5, a6]) (h2 : a.eval x2 = .agg #[a7, a8, a9])
    (h : K (a.put o.dst (.slice (some ⟨w.heap.size, 0, none⟩) 3 3)) (w.alloc (.cells #[a1, a2, a3, a4, a5, a6, a7, a8, a9] e))) : o.wp P a w K Q := by
  cases hie : P.info? e with
  | none => simp [hie] at hi
  | some ie =>
    simp only [hie, Option.map_some, Option.some.injEq, Prod.mk.injEq] at hi
    obtain ⟨hs, hz⟩ := hi
    obtain ⟨z, hz1, hz2⟩ := Option.map_eq_some_iff.1 hz
    refine wp_buildSlice t e 3 _ ho _ ie z hu hie hz1 (by rw [hs]; decide) (by rw [hs]; decide) ?_ h
    have : (#[(0, x0), (1, x1), (2, x2)].map fun (i, x) => (i, a.eval x)).toList = [(0, .agg #[a1, a2, a3]), (1, .agg #[a4, a5, a6]), (2, .agg #[a7, a8, a9])] := by
      simp [h0, h1, h2]
    rw [this, hs]
    exact fill3 _ _ _ _ _ _ _ _ _ _ (by simp)
/-- A slice of values of one cell each. -/
theorem wp_litF {P : Program} {o : Oper} {a : Act} {w : World} {K : Act → World → Prop} {Q : Exit → Act → World → Prop} (t e : TypeId) (len : Nat) (parts : Array (Nat × Operand)) (ho : o.op = .buildSlice t len parts)
    (hu : P.underlying t = some (.slice e)) (hi : (P.info? e).map (fun ie => (ie.size, ie.zero.isSome)) = some (1, true)) (vs : List Value)
    (hv : (parts.map fun (i, x) => (i, a.eval x)).toList = (vs.zipIdx 0).map fun x => (x.2, x.1)) (hl : len = vs.length) (h1 : vs.all (·.oneCell') = true) (hp : 0 < len) (hs : len ≤ 1000)
    (h : K (a.put o.dst (.slice (some ⟨w.heap.size, 0, none⟩) len len)) (w.alloc (.cells vs.toArray e))) : o.wp P a w K Q := by
  cases hie : P.info? e with
  | none => simp [hie] at hi
  | some ie =>
    simp only [hie, Option.map_some, Option.some.injEq, Prod.mk.injEq] at hi
    obtain ⟨hs1, hz⟩ := hi
    obtain ⟨z, hz1⟩ := Option.isSome_iff_exists.1 hz
    refine wp_buildSlice t e len _ ho _ ie z hu hie hz1 (by rw [hs1]; omega) (by rw [hs1]; omega) ?_ h
    rw [hv, hs1]
    exact Great.fill_flat _ _ (fun v hm => by
      have := List.all_eq_true.1 h1 v hm
      cases v <;> first | rfl | cases this) (by simp [hl])
/-- A slice of n values of one cell each: n = 2. -/
theorem wp_lits2 {P : Program} {o : Oper} {a : Act} {w : World} {K : Act → World → Prop} {Q : Exit → Act → World → Prop} (t e : TypeId) (x0 x1 : Operand) (ho : o.op = .buildSlice t 2 #[(0, x0), (1, x1)])
    (hu : P.underlying t = some (.slice e)) (hi : (P.info? e).map (fun ie => (ie.size, ie.zero.isSome)) = some (1, true)) {v0 v1 : Value} (h0 : a.eval x0 = v0) (h1 : a.eval x1 = v1)
    (hc : [v0, v1].all (·.oneCell') = true)
    (h : K (a.put o.dst (.slice (some ⟨w.heap.size, 0, none⟩) 2 2)) (w.alloc (.cells #[v0, v1] e))) : o.wp P a w K Q :=
  wp_litF t e 2 _ ho hu hi [v0, v1] (by simp [h0, h1]) rfl hc (by decide) (by decide) h

/-- A slice of n values of one cell each: n = 3. -/
theorem wp_lits3 {P : Program} {o : Oper} {a : Act} {w : World} {K : Act → World → Prop} {Q : Exit → Act → World → Prop} (t e : TypeId) (x0 x1 x2 : Operand) (ho : o.op = .buildSlice t 3 #[(0, x0), (1, x1), (2, x2)])
    (hu : P.underlying t = some (.slice e)) (hi : (P.info? e).map (fun ie => (ie.size, ie.zero.isSome)) = some (1, true)) {v0 v1 v2 : Value} (h0 : a.eval x0 = v0) (h1 : a.eval x1 = v1) (h2 : a.eval x2 = v2)
    (hc : [v0, v1, v2].all (·.oneCell') = true)
    (h : K (a.put o.dst (.slice (some ⟨w.heap.size, 0, none⟩) 3 3)) (w.alloc (.cells #[v0, v1, v2] e))) : o.wp P a w K Q :=
  wp_litF t e 3 _ ho hu hi [v0, v1, v2] (by simp [h0, h1, h2]) rfl hc (by decide) (by decide) h

/-- A slice of n values of one cell each: n = 4. -/
theorem wp_lits4 {P : Program} {o : Oper} {a : Act} {w : World} {K : Act → World → Prop} {Q : Exit → Act → World → Prop} (t e : TypeId) (x0 x1 x2 x3 : Operand) (ho : o.op = .buildSlice t 4 #[(0, x0), (1, x1), (2, x2), (3, x3)])
    (hu : P.underlying t = some (.slice e)) (hi : (P.info? e).map (fun ie => (ie.size, ie.zero.isSome)) = some (1, true)) {v0 v1 v2 v3 : Value} (h0 : a.eval x0 = v0) (h1 : a.eval x1 = v1) (h2 : a.eval x2 = v2) (h3 : a.eval x3 = v3)
    (hc : [v0, v1, v2, v3].all (·.oneCell') = true)
    (h : K (a.put o.dst (.slice (some ⟨w.heap.size, 0, none⟩) 4 4)) (w.alloc (.cells #[v0, v1, v2, v3] e))) : o.wp P a w K Q :=
  wp_litF t e 4 _ ho hu hi [v0, v1, v2, v3] (by simp [h0, h1, h2, h3]) rfl hc (by decide) (by decide) h

/-- A slice of n values of one cell each: n = 5. -/
theorem wp_lits5 {P : Program} {o : Oper} {a : Act} {w : World} {K : Act → World → Prop} {Q : Exit → Act → World → Prop} (t e : TypeId) (x0 x1 x2 x3 x4 : Operand) (ho : o.op = .buildSlice t 5 #[(0, x0), (1, x1), (2, x2), (3, x3), (4, x4)])
    (hu : P.underlying t = some (.slice e)) (hi : (P.info? e).map (fun ie => (ie.size, ie.zero.isSome)) = some (1, true)) {v0 v1 v2 v3 v4 : Value} (h0 : a.eval x0 = v0) (h1 : a.eval x1 = v1) (h2 : a.eval x2 = v2) (h3 : a.eval x3 = v3) (h4 : a.eval x4 = v4)
    (hc : [v0, v1, v2, v3, v4].all (·.oneCell') = true)
    (h : K (a.put o.dst (.slice (some ⟨w.heap.size, 0, none⟩) 5 5)) (w.alloc (.cells #[v0, v1, v2, v3, v4] e))) : o.wp P a w K Q :=
  wp_litF t e 5 _ ho hu hi [v0, v1, v2, v3, v4] (by simp [h0, h1, h2, h3, h4]) rfl hc (by decide) (by decide) h

/-- A slice of n values of one cell each: n = 6. -/
theorem wp_lits6 {P : Program} {o : Oper} {a : Act} {w : World} {K : Act → World → Prop} {Q : Exit → Act → World → Prop} (t e : TypeId) (x0 x1 x2 x3 x4 x5 : Operand) (ho : o.op = .buildSlice t 6 #[(0, x0), (1, x1), (2, x2), (3, x3), (4, x4), (5, x5)])
    (hu : P.underlying t = some (.slice e)) (hi : (P.info? e).map (fun ie => (ie.size, ie.zero.isSome)) = some (1, true)) {v0 v1 v2 v3 v4 v5 : Value} (h0 : a.eval x0 = v0) (h1 : a.eval x1 = v1) (h2 : a.eval x2 = v2) (h3 : a.eval x3 = v3) (h4 : a.eval x4 = v4) (h5 : a.eval x5 = v5)
    (hc : [v0, v1, v2, v3, v4, v5].all (·.oneCell') = true)
    (h : K (a.put o.dst (.slice (some ⟨w.heap.size, 0, none⟩) 6 6)) (w.alloc (.cells #[v0, v1, v2, v3, v4, v5] e))) : o.wp P a w K Q :=
  wp_litF t e 6 _ ho hu hi [v0, v1, v2, v3, v4, v5] (by simp [h0, h1, h2, h3, h4, h5]) rfl hc (by decide) (by decide) h

/-- A slice of n values of m cells each: n = 2, m = 2. -/
theorem wp_lit2x2 {P : Program} {o : Oper} {a : Act} {w : World} {K : Act → World → Prop} {Q : Exit → Act → World → Prop} (t e : TypeId) (x0 x1 : Operand) (ho : o.op = .buildSlice t 2 #[(0, x0), (1, x1)])
    (hu : P.underlying t = some (.slice e)) (hi : (P.info? e).map (fun ie => (ie.size, ie.zero.map (·.cells.size))) = some (2, some 2)) {a0 a1 a2 a3 : Value}
    (h0 : a.eval x0 = .agg #[a0, a1]) (h1 : a.eval x1 = .agg #[a2, a3])
    (h : K (a.put o.dst (.slice (some ⟨w.heap.size, 0, none⟩) 2 2)) (w.alloc (.cells #[a0, a1, a2, a3] e))) : o.wp P a w K Q := by
  cases hie : P.info? e with
  | none => simp [hie] at hi
  | some ie =>
    simp only [hie, Option.map_some, Option.some.injEq, Prod.mk.injEq] at hi
    obtain ⟨hs, hz⟩ := hi
    obtain ⟨z, hz1, hz2⟩ := Option.map_eq_some_iff.1 hz
    refine wp_buildSlice t e 2 _ ho _ ie z hu hie hz1 (by rw [hs]; decide) (by rw [hs]; decide) ?_ h
    have : (#[(0, x0), (1, x1)].map fun (i, x) => (i, a.eval x)).toList = [(0, .agg #[a0, a1]), (1, .agg #[a2, a3])] := by simp [h0, h1]
    rw [this, hs]
    obtain ⟨l, hl⟩ : ∃ l : Array Value, (Array.range (2 * 2)).map (z.cells[· % z.cells.size]!) = l := ⟨_, rfl⟩
    have hs9 : l.size = 4 := by rw [← hl]; simp
    rw [hl]
    obtain ⟨l⟩ := l
    match l, hs9 with
    | [b0, b1, b2, b3], _ => simp [Instr.fill, Value.cells]

/-- A slice of n values of m cells each: n = 2, m = 3. -/
theorem wp_lit2x3 {P : Program} {o : Oper} {a : Act} {w : World} {K : Act → World → Prop} {Q : Exit → Act → World → Prop} (t e : TypeId) (x0 x1 : Operand) (ho : o.op = .buildSlice t 2 #[(0, x0), (1, x1)])
    (hu : P.underlying t = some (.slice e)) (hi : (P.info? e).map (fun ie => (ie.size, ie.zero.map (·.cells.size))) = some (3, some 3)) {a0 a1 a2 a3 a4 a5 : Value}
    (h0 : a.eval x0 = .agg #[a0, a1, a2]) (h1 : a.eval x1 = .agg #[a3, a4, a5])
    (h : K (a.put o.dst (.slice (some ⟨w.heap.size, 0, none⟩) 2 2)) (w.alloc (.cells #[a0, a1, a2, a3, a4, a5] e))) : o.wp P a w K Q := by
  cases hie : P.info? e with
  | none => simp [hie] at hi
  | some ie =>
    simp only [hie, Option.map_some, Option.some.injEq, Prod.mk.injEq] at hi
    obtain ⟨hs, hz⟩ := hi
    obtain ⟨z, hz1, hz2⟩ := Option.map_eq_some_iff.1 hz
    refine wp_buildSlice t e 2 _ ho _ ie z hu hie hz1 (by rw [hs]; decide) (by rw [hs]; decide) ?_ h
    have : (#[(0, x0), (1, x1)].map fun (i, x) => (i, a.eval x)).toList = [(0, .agg #[a0, a1, a2]), (1, .agg #[a3, a4, a5])] := by simp [h0, h1]
    rw [this, hs]
    obtain ⟨l, hl⟩ : ∃ l : Array Value, (Array.range (2 * 3)).map (z.cells[· % z.cells.size]!) = l := ⟨_, rfl⟩
    have hs9 : l.size = 6 := by rw [← hl]; simp
    rw [hl]
    obtain ⟨l⟩ := l
    match l, hs9 with
    | [b0, b1, b2, b3, b4, b5], _ => simp [Instr.fill, Value.cells]

/-- A slice of n values of m cells each: n = 4, m = 3. -/
theorem wp_lit4x3 {P : Program} {o : Oper} {a : Act} {w : World} {K : Act → World → Prop} {Q : Exit → Act → World → Prop} (t e : TypeId) (x0 x1 x2 x3 : Operand) (ho : o.op = .buildSlice t 4 #[(0, x0), (1, x1), (2, x2), (3, x3)])
    (hu : P.underlying t = some (.slice e)) (hi : (P.info? e).map (fun ie => (ie.size, ie.zero.map (·.cells.size))) = some (3, some 3)) {a0 a1 a2 a3 a4 a5 a6 a7 a8 a9 a10 a11 : Value}
    (h0 : a.eval x0 = .agg #[a0, a1, a2]) (h1 : a.eval x1 = .agg #[a3, a4, a5]) (h2 : a.eval x2 = .agg #[a6, a7, a8]) (h3 : a.eval x3 = .agg #[a9, a10, a11])
    (h : K (a.put o.dst (.slice (some ⟨w.heap.size, 0, none⟩) 4 4)) (w.alloc (.cells #[a0, a1, a2, a3, a4, a5, a6, a7, a8, a9, a10, a11] e))) : o.wp P a w K Q := by
  cases hie : P.info? e with
  | none => simp [hie] at hi
  | some ie =>
    simp only [hie, Option.map_some, Option.some.injEq, Prod.mk.injEq] at hi
    obtain ⟨hs, hz⟩ := hi
    obtain ⟨z, hz1, hz2⟩ := Option.map_eq_some_iff.1 hz
    refine wp_buildSlice t e 4 _ ho _ ie z hu hie hz1 (by rw [hs]; decide) (by rw [hs]; decide) ?_ h
    have : (#[(0, x0), (1, x1), (2, x2), (3, x3)].map fun (i, x) => (i, a.eval x)).toList = [(0, .agg #[a0, a1, a2]), (1, .agg #[a3, a4, a5]), (2, .agg #[a6, a7, a8]), (3, .agg #[a9, a10, a11])] := by simp [h0, h1, h2, h3]
    rw [this, hs]
    obtain ⟨l, hl⟩ : ∃ l : Array Value, (Array.range (4 * 3)).map (z.cells[· % z.cells.size]!) = l := ⟨_, rfl⟩
    have hs9 : l.size = 12 := by rw [← hl]; simp
    rw [hl]
    obtain ⟨l⟩ := l
    match l, hs9 with
    | [b0, b1, b2, b3, b4, b5, b6, b7, b8, b9, b10, b11], _ => simp [Instr.fill, Value.cells]

/-- A slice of n values of m cells each: n = 5, m = 3. -/
theorem wp_lit5x3 {P : Program} {o : Oper} {a : Act} {w : World} {K : Act → World → Prop} {Q : Exit → Act → World → Prop} (t e : TypeId) (x0 x1 x2 x3 x4 : Operand) (ho : o.op = .buildSlice t 5 #[(0, x0), (1, x1), (2, x2), (3, x3), (4, x4)])
    (hu : P.underlying t = some (.slice e)) (hi : (P.info? e).map (fun ie => (ie.size, ie.zero.map (·.cells.size))) = some (3, some 3)) {a0 a1 a2 a3 a4 a5 a6 a7 a8 a9 a10 a11 a12 a13 a14 : Value}
    (h0 : a.eval x0 = .agg #[a0, a1, a2]) (h1 : a.eval x1 = .agg #[a3, a4, a5]) (h2 : a.eval x2 = .agg #[a6, a7, a8]) (h3 : a.eval x3 = .agg #[a9, a10, a11]) (h4 : a.eval x4 = .agg #[a12, a13, a14])
    (h : K (a.put o.dst (.slice (some ⟨w.heap.size, 0, none⟩) 5 5)) (w.alloc (.cells #[a0, a1, a2, a3, a4, a5, a6, a7, a8, a9, a10, a11, a12, a13, a14] e))) : o.wp P a w K Q := by
  cases hie : P.info? e with
  | none => simp [hie] at hi
  | some ie =>
    simp only [hie, Option.map_some, Option.some.injEq, Prod.mk.injEq] at hi
    obtain ⟨hs, hz⟩ := hi
    obtain ⟨z, hz1, hz2⟩ := Option.map_eq_some_iff.1 hz
    refine wp_buildSlice t e 5 _ ho _ ie z hu hie hz1 (by rw [hs]; decide) (by rw [hs]; decide) ?_ h
    have : (#[(0, x0), (1, x1), (2, x2), (3, x3), (4, x4)].map fun (i, x) => (i, a.eval x)).toList = [(0, .agg #[a0, a1, a2]), (1, .agg #[a3, a4, a5]), (2, .agg #[a6, a7, a8]), (3, .agg #[a9, a10, a11]), (4, .agg #[a12, a13, a14])] := by simp [h0, h1, h2, h3, h4]
    rw [this, hs]
    obtain ⟨l, hl⟩ : ∃ l : Array Value, (Array.range (5 * 3)).map (z.cells[· % z.cells.size]!) = l := ⟨_, rfl⟩
    have hs9 : l.size = 15 := by rw [← hl]; simp
    rw [hl]
    obtain ⟨l⟩ := l
    match l, hs9 with
    | [b0, b1, b2, b3, b4, b5, b6, b7, b8, b9, b10, b11, b12, b13, b14], _ => simp [Instr.fill, Value.cells]

/-- A slice of n values of m cells each: n = 2, m = 4. -/
theorem wp_lit2x4 {P : Program} {o : Oper} {a : Act} {w : World} {K : Act → World → Prop} {Q : Exit → Act → World → Prop} (t e : TypeId) (x0 x1 : Operand) (ho : o.op = .buildSlice t 2 #[(0, x0), (1, x1)])
    (hu : P.underlying t = some (.slice e)) (hi : (P.info? e).map (fun ie => (ie.size, ie.zero.map (·.cells.size))) = some (4, some 4)) {a0 a1 a2 a3 a4 a5 a6 a7 : Value}
    (h0 : a.eval x0 = .agg #[a0, a1, a2, a3]) (h1 : a.eval x1 = .agg #[a4, a5, a6, a7])
    (h : K (a.put o.dst (.slice (some ⟨w.heap.size, 0, none⟩) 2 2)) (w.alloc (.cells #[a0, a1, a2, a3, a4, a5, a6, a7] e))) : o.wp P a w K Q := by
  cases hie : P.info? e with
  | none => simp [hie] at hi
  | some ie =>
    simp only [hie, Option.map_some, Option.some.injEq, Prod.mk.injEq] at hi
    obtain ⟨hs, hz⟩ := hi
    obtain ⟨z, hz1, hz2⟩ := Option.map_eq_some_iff.1 hz
    refine wp_buildSlice t e 2 _ ho _ ie z hu hie hz1 (by rw [hs]; decide) (by rw [hs]; decide) ?_ h
    have : (#[(0, x0), (1, x1)].map fun (i, x) => (i, a.eval x)).toList = [(0, .agg #[a0, a1, a2, a3]), (1, .agg #[a4, a5, a6, a7])] := by simp [h0, h1]
    rw [this, hs]
    obtain ⟨l, hl⟩ : ∃ l : Array Value, (Array.range (2 * 4)).map (z.cells[· % z.cells.size]!) = l := ⟨_, rfl⟩
    have hs9 : l.size = 8 := by rw [← hl]; simp
    rw [hl]
    obtain ⟨l⟩ := l
    match l, hs9 with
    | [b0, b1, b2, b3, b4, b5, b6, b7], _ => simp [Instr.fill, Value.cells]

/-- A slice of n values of m cells each: n = 3, m = 2. -/
theorem wp_lit3x2 {P : Program} {o : Oper} {a : Act} {w : World} {K : Act → World → Prop} {Q : Exit → Act → World → Prop} (t e : TypeId) (x0 x1 x2 : Operand) (ho : o.op = .buildSlice t 3 #[(0, x0), (1, x1), (2, x2)])
    (hu : P.underlying t = some (.slice e)) (hi : (P.info? e).map (fun ie => (ie.size, ie.zero.map (·.cells.size))) = some (2, some 2)) {a0 a1 a2 a3 a4 a5 : Value}
    (h0 : a.eval x0 = .agg #[a0, a1]) (h1 : a.eval x1 = .agg #[a2, a3]) (h2 : a.eval x2 = .agg #[a4, a5])
    (h : K (a.put o.dst (.slice (some ⟨w.heap.size, 0, none⟩) 3 3)) (w.alloc (.cells #[a0, a1, a2, a3, a4, a5] e))) : o.wp P a w K Q := by
  cases hie : P.info? e with
  | none => simp [hie] at hi
  | some ie =>
    simp only [hie, Option.map_some, Option.some.injEq, Prod.mk.injEq] at hi
    obtain ⟨hs, hz⟩ := hi
    obtain ⟨z, hz1, hz2⟩ := Option.map_eq_some_iff.1 hz
    refine wp_buildSlice t e 3 _ ho _ ie z hu hie hz1 (by rw [hs]; decide) (by rw [hs]; decide) ?_ h
    have : (#[(0, x0), (1, x1), (2, x2)].map fun (i, x) => (i, a.eval x)).toList = [(0, .agg #[a0, a1]), (1, .agg #[a2, a3]), (2, .agg #[a4, a5])] := by simp [h0, h1, h2]
    rw [this, hs]
    obtain ⟨l, hl⟩ : ∃ l : Array Value, (Array.range (3 * 2)).map (z.cells[· % z.cells.size]!) = l := ⟨_, rfl⟩
    have hs9 : l.size = 6 := by rw [← hl]; simp
    rw [hl]
    obtain ⟨l⟩ := l
    match l, hs9 with
    | [b0, b1, b2, b3, b4, b5], _ => simp [Instr.fill, Value.cells]
end Go.Proofs.YtdpbdcaefdcooaaGreatDoor
