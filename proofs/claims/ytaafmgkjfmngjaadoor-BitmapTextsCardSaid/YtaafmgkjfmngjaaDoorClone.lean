/-
  slices.Clone at []int: a new row with the same numbers.
-/
import Derived.Test.YtaafmgkjfmngjaaDoorRow
import Derived.Lib.SliceRun
namespace Go.Proofs.YtaafmgkjfmngjaaDoor
open Go.RowKit
set_option linter.unusedVariables false
set_option linter.unusedSimpArgs false
set_option maxRecDepth 100000

/-- 'append(s, x...)' onto an empty slice with a block of its own, whatever the number: at numbers. -/
theorem app_copy {ops : Array Oper} {rest : List Oper} {oo : Oper} {a : Act} {Q : Exit → Act → World → Prop} (w : World) (hgd : oo.guard = none) (s x : Operand)
    (ho : oo.op = .call { callee := .builtin .append, args := #[s, x], argTypes := #[22, 22] })
    (B g0 : Nat) (hs : a.eval s = .slice (some ⟨g0, 0, none⟩) 0 0) (hown : w.ownsRow B 3 1 (.slice (some ⟨g0, 0, none⟩) 0 0) 0 [])
    (lo : Nat) (v : Value) (l : List Int) (hx : a.eval x = v) (hi : IsInts w lo v l) (hA : ∃ ad n c, v = .slice (some ad) n c) (hl : l.length ≤ 1000000) (hB : B ≤ w.heap.size)
    (h : ∀ g cap w', IRow w' B (.slice (some ⟨g, 0, none⟩) l.length cap) l.length l → w.grownBy w' (some g0) → (g0 = g ∨ g = w.heap.size) → wpList Tryd.prog ops Q rest (a.put oo.dst (.slice (some ⟨g, 0, none⟩) l.length cap)) w') :
    wpList Tryd.prog ops Q (oo :: rest) a w := by
  obtain ⟨i, hi1, hz, hs1, hb⟩ := info_parts info_int
  obtain ⟨A, c, rfl, -, hel⟩ := hi
  obtain ⟨ad, n', c', e⟩ := hA
  injection e with e1 e2 e3
  subst e1 e2 e3
  by_cases hm : l.length = 0
  · have hn : l = [] := List.eq_nil_of_length_eq_zero hm
    subst hn
    refine wpList_append_fits_any w hgd s x 22 ho B 3 i 1 Tryd.underlying22 hi1 hs1 g0 0 0 [] hs hown (some ad) 0 c [] hx rfl (fun h => by cases h) (fun _ _ j u hj => by cases hj) (fun u hu => by cases hu) (by omega) ?_
    intro w' h1 h2
    exact h g0 0 w' h1 h2 (Or.inl rfl)
  · refine wpList_append_lies w hgd s x 22 ho B 3 i _ 1 8 Tryd.underlying22 hi1 hz hs1 hb rfl (by omega) _ 0 [] hs hown ad l.length c (l.map (Value.int .i64)) hx (by simp) ?_ ?_ (by omega) (by unfold maxLen; omega) (by omega) hB _ rfl ?_
    · intro j u hj
      rw [List.getElem?_map] at hj
      obtain ⟨y, hy, rfl⟩ := Option.map_eq_some_iff.1 hj
      obtain ⟨-, pk, po, -, ea, h0⟩ := hel j y hy
      injection ea with ea
      subst ea
      have hadd : (⟨pk, po, none⟩ : Addr).add j = ⟨pk, po + j, none⟩ := by unfold Addr.add; split <;> simp_all
      rw [hadd]; exact h0
    · intro u hu
      obtain ⟨y, -, rfl⟩ := List.mem_map.1 hu
      rfl
    · intro g cap w' h1 h2 h3 _
      simp only [Nat.zero_add, List.nil_append] at h1 ⊢
      refine h g cap w' h1 h2 ?_
      rcases h3 with h3 | h3
      · injection h3 with h3; exact Or.inl h3
      · exact Or.inr h3

end Go.Proofs.YtaafmgkjfmngjaaDoor
