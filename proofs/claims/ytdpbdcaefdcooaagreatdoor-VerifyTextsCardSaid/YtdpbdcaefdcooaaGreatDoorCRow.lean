/-
  Rows of structs that a call makes by appending: small laws on rows of cells. No conditions: plain lemmas.
-/
import Derived.Test.YtdpbdcaefdcooaaGreatDoorWn
import Derived.OwnWalk
import Derived.Deep.AppendLies
import Derived.Laws.OwnMore
import Derived.RangeFuncNested
namespace Go.Proofs.YtdpbdcaefdcooaaGreatDoor
open Go.RowKit
set_option linter.unusedVariables false
set_option linter.unusedSimpArgs false

/-- The slice v has a block of its own, at or beyond B, and holds n elements of type T, z cells each: xs. -/
def CRow (w : World) (T : TypeId) (z : Nat) (B : Nat) (v : Value) (n : Nat) (xs : List Value) : Prop := w.ownsRow B T z v n xs
section
variable {T : TypeId} {z : Nat}
theorem CRow.nil (w : World) (B : Nat) : CRow w T z B (.slice none 0 0) 0 [] := World.ownsRow_nil _ _ _ _
theorem CRow.len {w : World} {B : Nat} {v : Value} {n : Nat} {l : List Value} (h : CRow w T z B v n l) : l.length = n * z := h.1
theorem CRow.ch {w w' : World} {F : Nat → Prop} {B : Nat} {v : Value} {n : Nat} {l : List Value} (h : CRow w T z B v n l) (hc : Ch F w w') (hF : ∀ k, B ≤ k → ¬ F k) : CRow w' T z B v n l := by
  refine ⟨h.1, ?_⟩
  rcases h.2 with hn | ⟨g, cap, cur, rfl, hb, hgg, rest⟩
  · exact .inl hn
  · exact .inr ⟨g, cap, cur, rfl, hb, hc.heap hgg (hF g hb), rest⟩
theorem CRow.ch' {w w' : World} {F : Nat → Prop} {B : Nat} {v : Value} {n : Nat} {l : List Value} (h : CRow w T z B v n l) (hc : Ch F w w') (hF : ∀ k, v.ownBlock = some k → ¬ F k) : CRow w' T z B v n l := by
  refine ⟨h.1, ?_⟩
  rcases h.2 with hn | ⟨g, cap, cur, rfl, hb, hgg, rest⟩
  · exact .inl hn
  · exact .inr ⟨g, cap, cur, rfl, hb, hc.heap hgg (hF g rfl), rest⟩
theorem CRow.lo {w : World} {B B' : Nat} {v : Value} {n : Nat} {l : List Value} (h : CRow w T z B v n l) (hb : B' ≤ B) : CRow w T z B' v n l := by
  refine ⟨h.1, ?_⟩
  rcases h.2 with hn | ⟨g, cap, cur, rfl, h1, rest⟩
  · exact .inl hn
  · exact .inr ⟨g, cap, cur, rfl, by omega, rest⟩
theorem CRow.form {w : World} {B : Nat} {v : Value} {n : Nat} {l : List Value} (h : CRow w T z B v n l) : ∃ A c, v = .slice A n c := by
  rcases h.2 with ⟨h1, h2⟩ | ⟨g, cap, cur, h1, -⟩
  · exact ⟨none, 0, by rw [h2]; exact h1⟩
  · exact ⟨_, _, h1⟩
theorem CRow.lt {w : World} {B : Nat} {v : Value} {n : Nat} {l : List Value} (h : CRow w T z B v n l) (k : Nat) (hk : v.ownBlock = some k) : B ≤ k ∧ k < w.heap.size := World.ownsRow.lt h k hk
theorem CRow.grown {w w' : World} {row : Option Nat} {B : Nat} {v : Value} {n : Nat} {l : List Value} (h : CRow w T z B v n l) (hg : w.grownBy w' row) (hr : ∀ k, row = some k → ∃ o, w.heap[k]? = some o ∧ o.isCells = false) : CRow w' T z B v n l := by
  refine ⟨h.1, ?_⟩
  rcases h.2 with hn | ⟨g, cap, cur, rfl, hb, hgg, rest⟩
  · exact .inl hn
  · refine .inr ⟨g, cap, cur, rfl, hb, ?_, rest⟩
    rw [hg.block g (lt_of_heap hgg) (fun e => by
      obtain ⟨o, ho, hc⟩ := hr g e.symm
      rw [hgg] at ho
      cases ho
      cases hc)]
    exact hgg
theorem CRow.keeps {w w' : World} {B : Nat} {v : Value} {n : Nat} {l : List Value} (h : CRow w T z B v n l) (hg : w.grownBy w' v.ownBlock) : KeepsOthers w w' :=
  ⟨hg.size, fun k o hk hnc => by
    rw [hg.block k (lt_of_heap hk) (fun e => ?_)]
    · exact hk
    · rcases h.2 with ⟨hv, -⟩ | ⟨g, cap, cur, rfl, hb, hgg, rest⟩
      · rw [hv] at e; cases e
      · have e' : g = k := by injection e with e; exact e.symm
        subst e'
        rw [hgg] at hk
        cases hk
        cases hnc⟩
/-- The row as an argument that is only read: its cells. -/
def IsC (w : World) (lo : Nat) (v : Value) (n z : Nat) (xs : List Value) : Prop :=
  ∃ A cap, v = .slice A n cap ∧ n ≤ cap ∧ xs.length = n * z ∧ ∀ i x, xs[i]? = some x → ∃ g, g < lo ∧ A = some ⟨g, 0, none⟩ ∧ w.cell? ⟨g, i, none⟩ = some x
theorem IsC.kept {w w' : World} {lo n z : Nat} {v : Value} {xs : List Value} {F : Nat → Prop} (h : IsC w lo v n z xs) (hc : Ch F w w') (hF : ∀ k, k < lo → ¬ F k) : IsC w' lo v n z xs := by
  obtain ⟨A, cap, e, h1, h2, h⟩ := h
  refine ⟨A, cap, e, h1, h2, fun i x hi => ?_⟩
  obtain ⟨g, hg, ea, h0⟩ := h i x hi
  exact ⟨g, hg, ea, hc.cell h0 (hF g hg)⟩
theorem IsC.hi {w : World} {lo lo' n z : Nat} {v : Value} {xs : List Value} (h : IsC w lo v n z xs) (hl : lo ≤ lo') : IsC w lo' v n z xs := by
  obtain ⟨A, cap, e, h1, h2, h⟩ := h
  refine ⟨A, cap, e, h1, h2, fun i x hi => ?_⟩
  obtain ⟨g, hg, ea, h0⟩ := h i x hi
  exact ⟨g, by omega, ea, h0⟩
theorem CRow.isC {w : World} {B : Nat} {v : Value} {n : Nat} {l : List Value} (h : CRow w T z B v n l) : IsC w w.heap.size v n z l := by
  have hn := h.len
  rcases h.2 with ⟨h1, h2⟩ | ⟨g, cap, cur, rfl, hb, hgg, hnc, hcm, hcs, ht⟩
  · refine ⟨none, 0, by rw [h2]; exact h1, by omega, hn, fun i x hi => ?_⟩
    have := (List.getElem?_eq_some_iff.1 hi).1
    rw [hn, h2] at this
    omega
  · refine ⟨_, cap, rfl, hnc, hn, fun i x hi => ⟨g, lt_of_heap hgg, rfl, ?_⟩⟩
    have hil := (List.getElem?_eq_some_iff.1 hi).1
    have := World.ownsRow.cellAt h i (by omega)
    have hadd : (⟨g, 0, none⟩ : Addr).add i = ⟨g, i, none⟩ := by unfold Addr.add; split <;> simp_all
    first | exact this.trans hi | (rw [hadd] at this; exact this.trans hi)
end
/-- One element more is appended: a block of its cells lies ready. -/
theorem wp_app {P : Program} {o : Oper} {a : Act} {K : Act → World → Prop} {Q : Exit → Act → World → Prop} (w : World) (s x : Operand) (t T : TypeId) (z bytes : Nat)
    (ho : o.op = .call { callee := .builtin .append, args := #[s, x], argTypes := #[t, t] }) (ht : P.underlying t = some (.slice T)) (zv : Value) (hi : (P.info? T).map (fun i => (i.zero, i.size, i.bytes)) = some (some zv, z, bytes)) (hzs : zv.cells.size = z) (hz : 0 < z) (hby : bytes ≤ 1000)
    (B : Nat) (v : Value) (n : Nat) (xs : List Value) (hs : a.eval s = v) (hown : CRow w T z B v n xs)
    (g0 : Nat) (cs : Array Value) (fr : Nat × Nat) (hx : a.eval x = .slice (some ⟨g0, 0, none⟩) 1 1) (hc : w.heap[g0]? = some (.cells cs T fr)) (hl : cs.size = z) (h1 : ∀ u ∈ cs.toList, u.oneCell' = true) (hn : n ≤ 1000000) (hB : B ≤ w.heap.size)
    (h : ∀ g cap w', CRow w' T z B (.slice (some ⟨g, 0, none⟩) (n + 1) cap) (n + 1) (xs ++ cs.toList) → w.grownBy w' v.ownBlock → (v.ownBlock = some g ∨ g = w.heap.size) → K (a.put o.dst (.slice (some ⟨g, 0, none⟩) (n + 1) cap)) w') : o.wp P a w K Q := by
  cases hinf : P.info? T with
  | none => rw [hinf] at hi; cases hi
  | some i =>
    rw [hinf] at hi
    simp only [Option.map_some, Option.some.injEq, Prod.mk.injEq] at hi
    obtain ⟨e1, e2, e3⟩ := hi
    refine wp_append_lies w s x t ho B T i zv z bytes ht hinf e1 e2 e3 hzs hz v n xs hs hown ⟨g0, 0, none⟩ 1 1 cs.toList hx (by simp [hl]) (World.news_of_block hc) h1 (by omega) (by unfold maxLen; omega) ?_ hB _ rfl ?_
    · have : (n + 1) * bytes ≤ 1000001 * 1000 := Nat.mul_le_mul (by omega) hby
      omega
    · intro g cap w' h2 h3 h4 _
      exact h g cap w' h2 h3 h4
end Go.Proofs.YtdpbdcaefdcooaaGreatDoor
