/-
  A slice literal of one struct of three cells, in one step. No conditions: a plain lemma.
-/
import Derived.Test.YtdpbdcaefdcooaaGreatDoorSlc
namespace Go.Proofs.YtdpbdcaefdcooaaGreatDoor
open Go.RowKit
set_option linter.unusedVariables false
set_option linter.unusedSimpArgs false

theorem wp_lit1x3 {P : Program} {o : Oper} {a : Act} {w : World} {K : Act → World → Prop} {Q : Exit → Act → World → Prop} (t e : TypeId) (x0 : Operand) (ho : o.op = .buildSlice t 1 #[(0, x0)])
    (hu : P.underlying t = some (.slice e)) (hi : (P.info? e).map (fun ie => (ie.size, ie.zero.map (·.cells.size))) = some (3, some 3)) {a0 a1 a2 : Value}
    (h0 : a.eval x0 = .agg #[a0, a1, a2])
    (h : K (a.put o.dst (.slice (some ⟨w.heap.size, 0, none⟩) 1 1)) (w.alloc (.cells #[a0, a1, a2] e))) : o.wp P a w K Q := by
  cases hie : P.info? e with
  | none => simp [hie] at hi
  | some ie =>
    simp only [hie, Option.map_some, Option.some.injEq, Prod.mk.injEq] at hi
    obtain ⟨hs, hz⟩ := hi
    obtain ⟨z, hz1, hz2⟩ := Option.map_eq_some_iff.1 hz
    refine wp_buildSlice t e 1 _ ho _ ie z hu hie hz1 (by rw [hs]; decide) (by rw [hs]; decide) ?_ h
    have : (#[(0, x0)].map fun (i, x) => (i, a.eval x)).toList = [(0, .agg #[a0, a1, a2])] := by simp [h0]
    rw [this, hs]
    obtain ⟨l, hl⟩ : ∃ l : Array Value, (Array.range (1 * 3)).map (z.cells[· % z.cells.size]!) = l := ⟨_, rfl⟩
    have hs9 : l.size = 3 := by rw [← hl]; simp
    rw [hl]
    obtain ⟨l⟩ := l
    match l, hs9 with
    | [b0, b1, b2], _ => simp [Instr.fill, Value.cells]

end Go.Proofs.YtdpbdcaefdcooaaGreatDoor
