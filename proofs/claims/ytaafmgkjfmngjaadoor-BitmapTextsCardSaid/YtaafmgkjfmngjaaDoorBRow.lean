/-
  Rows of bools that a call makes by appending: small laws.
-/
import Derived.Test.YtaafmgkjfmngjaaDoorImP
import Derived.Test.YtaafmgkjfmngjaaDoorRow
import Derived.OwnWalk
import Derived.Deep.AppendLies
import Derived.Laws.OwnMore
namespace Go.Proofs.YtaafmgkjfmngjaaDoor
open Go.RowKit
set_option linter.unusedVariables false
set_option linter.unusedSimpArgs false

theorem info_bool : (Tryd.prog.info? 4).map (fun i => (i.zero, i.size, i.bytes)) = some (some (.bool false), 1, 1) := by kernel_rfl

/-- The slice v has a block of its own, at or beyond B, and holds the bools l, n of them. -/
def BRow (w : World) (B : Nat) (v : Value) (n : Nat) (l : List Bool) : Prop := w.ownsRow B 4 1 v n (l.map Value.bool)
theorem BRow.nil (w : World) (B : Nat) : BRow w B (.slice none 0 0) 0 [] := World.ownsRow_nil _ _ _ _
theorem BRow.len {w : World} {B : Nat} {v : Value} {n : Nat} {l : List Bool} (h : BRow w B v n l) : l.length = n := by have := h.1; simpa using this
theorem BRow.ch {w w' : World} {F : Nat → Prop} {B : Nat} {v : Value} {n : Nat} {l : List Bool} (h : BRow w B v n l) (hc : Ch F w w') (hF : ∀ k, B ≤ k → ¬ F k) : BRow w' B v n l := by
  refine ⟨h.1, ?_⟩
  rcases h.2 with hn | ⟨g, cap, cur, rfl, hb, hgg, rest⟩
  · exact .inl hn
  · exact .inr ⟨g, cap, cur, rfl, hb, hc.heap hgg (hF g hb), rest⟩
theorem BRow.ch' {w w' : World} {F : Nat → Prop} {B : Nat} {v : Value} {n : Nat} {l : List Bool} (h : BRow w B v n l) (hc : Ch F w w') (hF : ∀ k, v.ownBlock = some k → ¬ F k) : BRow w' B v n l := by
  refine ⟨h.1, ?_⟩
  rcases h.2 with hn | ⟨g, cap, cur, rfl, hb, hgg, rest⟩
  · exact .inl hn
  · exact .inr ⟨g, cap, cur, rfl, hb, hc.heap hgg (hF g rfl), rest⟩
theorem BRow.lo {w : World} {B B' : Nat} {v : Value} {n : Nat} {l : List Bool} (h : BRow w B v n l) (hb : B' ≤ B) : BRow w B' v n l := by
  refine ⟨h.1, ?_⟩
  rcases h.2 with hn | ⟨g, cap, cur, rfl, h1, rest⟩
  · exact .inl hn
  · exact .inr ⟨g, cap, cur, rfl, by omega, rest⟩
theorem BRow.form {w : World} {B : Nat} {v : Value} {n : Nat} {l : List Bool} (h : BRow w B v n l) : ∃ A c, v = .slice A n c := by
  rcases h.2 with ⟨h1, h2⟩ | ⟨g, cap, cur, h1, -⟩
  · exact ⟨none, 0, by rw [h2]; exact h1⟩
  · exact ⟨_, _, h1⟩
theorem BRow.lt {w : World} {B : Nat} {v : Value} {n : Nat} {l : List Bool} (h : BRow w B v n l) (k : Nat) (hk : v.ownBlock = some k) : B ≤ k ∧ k < w.heap.size := World.ownsRow.lt h k hk
theorem BRow.isBools {w : World} {B : Nat} {v : Value} {n : Nat} {l : List Bool} (h : BRow w B v n l) (hl : n ≤ 1000000) : IsBools w w.heap.size v l := by
  have hn := h.len
  rcases h.2 with ⟨h1, h2⟩ | ⟨g, cap, cur, rfl, hb, hgg, hnc, hcm, hcs, ht⟩
  · refine ⟨none, 0, by rw [hn, h2]; exact h1, by omega, fun i x hi => ?_⟩
    have := (List.getElem?_eq_some_iff.1 hi).1
    omega
  · refine ⟨_, cap, by rw [hn], by omega, fun i x hi => ⟨g, 0, lt_of_heap hgg, rfl, ?_⟩⟩
    have hil := (List.getElem?_eq_some_iff.1 hi).1
    have := World.ownsRow.cellAt h i (by simp; omega)
    have hadd : (⟨g, 0, none⟩ : Addr).add i = ⟨g, 0 + i, none⟩ := by unfold Addr.add; split <;> simp_all
    rw [Nat.zero_add]
    rw [this]
    simp [hi]
/-- One bool more is appended. -/
theorem app_bool {ops : Array Oper} {rest : List Oper} {o : Oper} {a : Act} {Q : Exit → Act → World → Prop} (w : World) (hgd : o.guard = none) (s x : Operand)
    (ho : o.op = .call { callee := .builtin .append, args := #[s, x], argTypes := #[26, 26] }) (B : Nat) (v : Value) (n : Nat) (l : List Bool) (hs : a.eval s = v) (hown : BRow w B v n l)
    (g0 : Nat) (y : Bool) (hx : a.eval x = .slice (some ⟨g0, 0, none⟩) 1 1) (hc : w.cell? ⟨g0, 0, none⟩ = some (.bool y)) (hn : n ≤ 1000000) (hB : B ≤ w.heap.size)
    (h : ∀ g cap w', BRow w' B (.slice (some ⟨g, 0, none⟩) (n + 1) cap) (n + 1) (l ++ [y]) → w.grownBy w' v.ownBlock → wpList Tryd.prog ops Q rest (a.put o.dst (.slice (some ⟨g, 0, none⟩) (n + 1) cap)) w') : wpList Tryd.prog ops Q (o :: rest) a w := by
  obtain ⟨i, hi, hz, hs1, hb⟩ := info_parts info_bool
  refine wpList_append_lies w hgd s x 26 ho B 4 i _ 1 1 Tryd.underlying26 hi hz hs1 hb rfl (by omega) v n (l.map Value.bool) hs hown ⟨g0, 0, none⟩ 1 1 [.bool y] hx rfl ?_ ?_ (by omega) (by unfold maxLen; omega) (by omega) hB _ rfl ?_
  · intro j u hj
    have hadd : (⟨g0, 0, none⟩ : Addr).add j = ⟨g0, 0 + j, none⟩ := by unfold Addr.add; split <;> simp_all
    cases j with
    | zero => simp at hj; subst hj; rw [hadd]; exact hc
    | succ j => simp at hj
  · intro u hu; simp at hu; subst hu; rfl
  · intro g cap w' h1 h2 h3 h4
    exact h g cap w' (by unfold BRow; rw [List.map_append]; exact h1) h2
end Go.Proofs.YtaafmgkjfmngjaaDoor
