/-
  Slice literals in one step (printed by mksl4.py).
-/
import Derived.Test.YtaafmgkjfmngjaaDoorSlc
namespace Go.Proofs.YtaafmgkjfmngjaaDoor
open Go.RowKit
set_option linter.unusedVariables false

/-- A slice of n values of m cells each: n = 5, m = 6. -/
theorem wp_lit5x6 {P : Program} {o : Oper} {a : Act} {w : World} {K : Act → World → Prop} {Q : Exit → Act → World → Prop} (t e : TypeId) (x0 x1 x2 x3 x4 : Operand) (ho : o.op = .buildSlice t 5 #[(0, x0), (1, x1), (2, x2), (3, x3), (4, x4)])
    (hu : P.underlying t = some (.slice e)) (hi : (P.info? e).map (fun ie => (ie.size, ie.zero.map (·.cells.size))) = some (6, some 6)) {a0 a1 a2 a3 a4 a5 a6 a7 a8 a9 a10 a11 a12 a13 a14 a15 a16 a17 a18 a19 a20 a21 a22 a23 a24 a25 a26 a27 a28 a29 : Value}
    (h0 : a.eval x0 = .agg #[a0, a1, a2, a3, a4, a5]) (h1 : a.eval x1 = .agg #[a6, a7, a8, a9, a10, a11]) (h2 : a.eval x2 = .agg #[a12, a13, a14, a15, a16, a17]) (h3 : a.eval x3 = .agg #[a18, a19, a20, a21, a22, a23]) (h4 : a.eval x4 = .agg #[a24, a25, a26, a27, a28, a29])
    (h : K (a.put o.dst (.slice (some ⟨w.heap.size, 0, none⟩) 5 5)) (w.alloc (.cells #[a0, a1, a2, a3, a4, a5, a6, a7, a8, a9, a10, a11, a12, a13, a14, a15, a16, a17, a18, a19, a20, a21, a22, a23, a24, a25, a26, a27, a28, a29] e))) : o.wp P a w K Q := by
  cases hie : P.info? e with
  | none => simp [hie] at hi
  | some ie =>
    simp only [hie, Option.map_some, Option.some.injEq, Prod.mk.injEq] at hi
    obtain ⟨hs, hz⟩ := hi
    obtain ⟨z, hz1, hz2⟩ := Option.map_eq_some_iff.1 hz
    refine wp_buildSlice t e 5 _ ho _ ie z hu hie hz1 (by rw [hs]; decide) (by rw [hs]; decide) ?_ h
    have : (#[(0, x0), (1, x1), (2, x2), (3, x3), (4, x4)].map fun (i, x) => (i, a.eval x)).toList = [(0, .agg #[a0, a1, a2, a3, a4, a5]), (1, .agg #[a6, a7, a8, a9, a10, a11]), (2, .agg #[a12, a13, a14, a15, a16, a17]), (3, .agg #[a18, a19, a20, a21, a22, a23]), (4, .agg #[a24, a25, a26, a27, a28, a29])] := by simp [h0, h1, h2, h3, h4]
    rw [this, hs]
    obtain ⟨l, hl⟩ : ∃ l : Array Value, (Array.range (5 * 6)).map (z.cells[· % z.cells.size]!) = l := ⟨_, rfl⟩
    have hs9 : l.size = 30 := by rw [← hl]; simp
    rw [hl]
    obtain ⟨l⟩ := l
    match l, hs9 with
    | [b0, b1, b2, b3, b4, b5, b6, b7, b8, b9, b10, b11, b12, b13, b14, b15, b16, b17, b18, b19, b20, b21, b22, b23, b24, b25, b26, b27, b28, b29], _ => simp [Instr.fill, Value.cells]

end Go.Proofs.YtaafmgkjfmngjaaDoor
