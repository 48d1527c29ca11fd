/-
  Rows of numbers that a call makes by appending: small laws.
-/
import Derived.Test.YtdpbdcaefdcooaaGreatDoorCRow
import Derived.Test.YtdpbdcaefdcooaaGreatDoorDrw
import Derived.OwnWalk
import Derived.Deep.AppendLies
import Derived.Laws.OwnMore
namespace Go.Proofs.YtdpbdcaefdcooaaGreatDoor
open Go.RowKit
set_option linter.unusedVariables false
set_option linter.unusedSimpArgs false

theorem info_int : (Tryz.prog.info? 3).map (fun i => (i.zero, i.size, i.bytes)) = some (some (.int .i64 0), 1, 8) := by kernel_rfl
/-- The slice v has a block of its own, at or beyond B, and holds the numbers l, n of them. -/
def IRow (w : World) (B : Nat) (v : Value) (n : Nat) (l : List Int) : Prop := w.ownsRow B 3 1 v n (l.map (Value.int .i64))
theorem IRow.nil (w : World) (B : Nat) : IRow w B (.slice none 0 0) 0 [] := World.ownsRow_nil _ _ _ _
theorem IRow.len {w : World} {B : Nat} {v : Value} {n : Nat} {l : List Int} (h : IRow w B v n l) : l.length = n := by have := h.1; simpa using this
theorem IRow.ch {w w' : World} {F : Nat → Prop} {B : Nat} {v : Value} {n : Nat} {l : List Int} (h : IRow w B v n l) (hc : Ch F w w') (hF : ∀ k, B ≤ k → ¬ F k) : IRow w' B v n l := by
  refine ⟨h.1, ?_⟩
  rcases h.2 with hn | ⟨g, cap, cur, rfl, hb, hgg, rest⟩
  · exact .inl hn
  · exact .inr ⟨g, cap, cur, rfl, hb, hc.heap hgg (hF g hb), rest⟩
theorem IRow.ch' {w w' : World} {F : Nat → Prop} {B : Nat} {v : Value} {n : Nat} {l : List Int} (h : IRow w B v n l) (hc : Ch F w w') (hF : ∀ k, v.ownBlock = some k → ¬ F k) : IRow w' B v n l := by
  refine ⟨h.1, ?_⟩
  rcases h.2 with hn | ⟨g, cap, cur, rfl, hb, hgg, rest⟩
  · exact .inl hn
  · exact .inr ⟨g, cap, cur, rfl, hb, hc.heap hgg (hF g rfl), rest⟩
theorem IRow.lo {w : World} {B B' : Nat} {v : Value} {n : Nat} {l : List Int} (h : IRow w B v n l) (hb : B' ≤ B) : IRow w B' v n l := by
  refine ⟨h.1, ?_⟩
  rcases h.2 with hn | ⟨g, cap, cur, rfl, h1, rest⟩
  · exact .inl hn
  · exact .inr ⟨g, cap, cur, rfl, by omega, rest⟩
theorem IRow.form {w : World} {B : Nat} {v : Value} {n : Nat} {l : List Int} (h : IRow w B v n l) : ∃ A c, v = .slice A n c := by
  rcases h.2 with ⟨h1, h2⟩ | ⟨g, cap, cur, h1, -⟩
  · exact ⟨none, 0, by rw [h2]; exact h1⟩
  · exact ⟨_, _, h1⟩
theorem IRow.lt {w : World} {B : Nat} {v : Value} {n : Nat} {l : List Int} (h : IRow w B v n l) (k : Nat) (hk : v.ownBlock = some k) : B ≤ k ∧ k < w.heap.size := World.ownsRow.lt h k hk
theorem IRow.isC {w : World} {B : Nat} {v : Value} {n : Nat} {l : List Int} (h : IRow w B v n l) : IsC w w.heap.size v n 1 (l.map (Value.int .i64)) := CRow.isC (T := 3) (z := 1) h
theorem IRow.at {w : World} {B n cap : Nat} {A : Option Addr} {l : List Int} (h : IRow w B (.slice A n cap) n l) {i : Nat} {x : Int} (hi : l[i]? = some x) : ∃ g, A = some ⟨g, 0, none⟩ ∧ B ≤ g ∧ w.cell? ⟨g, i, none⟩ = some (.int .i64 x) := by
  obtain ⟨A', c', e, -, -, h3⟩ := h.isC
  cases e
  obtain ⟨g, hg, e, hc⟩ := h3 i (.int .i64 x) (by rw [List.getElem?_map, hi]; rfl)
  refine ⟨g, e, ?_, hc⟩
  exact (h.lt g (by rw [e]; rfl)).1
/-- One number more is appended. -/
theorem app_int {ops : Array Oper} {rest : List Oper} {o : Oper} {a : Act} {Q : Exit → Act → World → Prop} (w : World) (hgd : o.guard = none) (s x : Operand)
    (ho : o.op = .call { callee := .builtin .append, args := #[s, x], argTypes := #[22, 22] }) (B : Nat) (v : Value) (n : Nat) (l : List Int) (hs : a.eval s = v) (hown : IRow w B v n l)
    (g0 : Nat) (y : Int) (hx : a.eval x = .slice (some ⟨g0, 0, none⟩) 1 1) (hc : w.cell? ⟨g0, 0, none⟩ = some (.int .i64 y)) (hn : n ≤ 1000000) (hB : B ≤ w.heap.size)
    (h : ∀ g cap w', IRow w' B (.slice (some ⟨g, 0, none⟩) (n + 1) cap) (n + 1) (l ++ [y]) → w.grownBy w' v.ownBlock → wpList Tryz.prog ops Q rest (a.put o.dst (.slice (some ⟨g, 0, none⟩) (n + 1) cap)) w') : wpList Tryz.prog ops Q (o :: rest) a w := by
  obtain ⟨i, hi, hz, hs1, hb⟩ := info_parts info_int
  refine wpList_append_lies w hgd s x 22 ho B 3 i _ 1 8 Tryz.underlying22 hi hz hs1 hb rfl (by omega) v n (l.map (Value.int .i64)) hs hown ⟨g0, 0, none⟩ 1 1 [.int .i64 y] hx rfl ?_ ?_ (by omega) (by unfold maxLen; omega) (by omega) hB _ rfl ?_
  · intro j u hj
    have hadd : (⟨g0, 0, none⟩ : Addr).add j = ⟨g0, 0 + j, none⟩ := by unfold Addr.add; split <;> simp_all
    cases j with
    | zero => simp at hj; subst hj; rw [hadd]; exact hc
    | succ j => simp at hj
  · intro u hu; simp at hu; subst hu; rfl
  · intro g cap w' h1 h2 h3 h4
    exact h g cap w' (by unfold IRow; rw [List.map_append]; exact h1) h2
/-- One number more is appended, in one step. -/
theorem app_int9 {o : Oper} {a : Act} {K : Act → World → Prop} {Q : Exit → Act → World → Prop} (w : World) (s x : Operand)
    (ho : o.op = .call { callee := .builtin .append, args := #[s, x], argTypes := #[22, 22] }) (B : Nat) (v : Value) (n : Nat) (l : List Int) (hs : a.eval s = v) (hown : IRow w B v n l)
    (g0 : Nat) (y : Int) (hx : a.eval x = .slice (some ⟨g0, 0, none⟩) 1 1) {fz : Nat × Nat} (hc : w.heap[g0]? = some (.cells #[.int .i64 y] 3 fz)) (hn : n ≤ 1000000) (hB : B ≤ w.heap.size)
    (h : ∀ g cap w', IRow w' B (.slice (some ⟨g, 0, none⟩) (n + 1) cap) (n + 1) (l ++ [y]) → w.grownBy w' v.ownBlock → K (a.put o.dst (.slice (some ⟨g, 0, none⟩) (n + 1) cap)) w') : o.wp Tryz.prog a w K Q :=
  wp_app w s x 22 3 1 8 ho Tryz.underlying22 (.int .i64 0) (by kernel_rfl) rfl (by omega) (by omega) B v n _ hs hown g0 #[.int .i64 y] fz hx hc rfl (by intro u hu; simp at hu; subst hu; rfl) hn hB (fun g cap w' h1 h2 _ => h g cap w' (by unfold IRow; rw [List.map_append]; exact h1) h2)
end Go.Proofs.YtdpbdcaefdcooaaGreatDoor
