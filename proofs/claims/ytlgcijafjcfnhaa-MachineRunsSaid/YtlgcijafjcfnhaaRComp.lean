/-
  The reference of the machine: the operations that only change the stack.
-/
import Derived.Test.YtlgcijafjcfnhaaRMach
namespace Go.Proofs.Ytlgcijafjcfnhaa
open Go.RowKit
set_option linter.unusedVariables false
set_option linter.unusedSimpArgs false

/-- What an operation without a point and without a block does to the stack. -/
def opS (c : Int) (stk : List Int) : List Int := (doOp 0 c 0 [] stk).2

section
variable {w : World} {R : Ending → World → Prop} {b : Nat} {vp vo : Value} {size : Int} {stk : List Int} {steps : Int}
set_option maxRecDepth 100000 in
set_option maxHeartbeats 1000000 in
theorem rcompute_any (c : Int) (hc : 2 ≤ c ∧ c ≤ 8) (h : RS w b vp vo size stk steps) (hp : pops c ≤ stk.length) (hl : stk.length ≤ 8) (hlim : ∀ x ∈ stk, -1073741824 ≤ x ∧ x ≤ 1073741824)
    (hR : ∀ w', RS w' b vp vo size (opS c stk) steps → Ch (fun k => b ≤ k) w w' → R (.returned (.tuple #[])) w') : Calls Try.prog 46 #[.pointer (some ⟨b, 0, none⟩), .int .i64 c] w R := by
  have HR := Lib.hid hR
  have HS := Lib.hid h
  clear hR h
  obtain h2 | h3 | h4 | h5 | h6 | h7 | h8 : c = 2 ∨ c = 3 ∨ c = 4 ∨ c = 5 ∨ c = 6 ∨ c = 7 ∨ c = 8 := by omega
  · subst h2
    obtain ⟨s1, x, rfl⟩ := snoc_of_pos (stk := stk) (by simp [pops] at hp; omega)
    obtain ⟨s, y, rfl⟩ := snoc_of_pos (stk := s1) (by simp [pops] at hp; omega)
    have hx := hlim x (by simp)
    have hy := hlim y (by simp)
    obtain ⟨x1, x2⟩ := hx
    obtain ⟨y1, y2⟩ := hy
    rw [List.length_append, List.length_append, List.length_singleton, List.length_singleton] at hl
    clear hp hlim
    go_enter Try.func46, Try.ntmps46
    go_wp2_with (go_at_call 38; fail)
    refine rpop_any x HS.out (by rw [List.length_append, List.length_singleton]; omega) ?_
    intro w1 hs1 c1
    have H1 := Lib.hid hs1
    have C1 := Lib.hid (c1.mono (G := fun k => b ≤ k) (fun n _ e => by omega))
    clear hs1 c1
    go_wp2_with (go_at_call 38; fail)
    refine rpop_any y H1.out (by omega) ?_
    intro w2 hs2 c2
    have H2 := Lib.hid hs2
    have C2 := Lib.hid (C1.out.trans (c2.mono (G := fun k => b ≤ k) (fun n _ e => by omega)))
    clear hs2 c2
    have e : opS 2 (s ++ [y] ++ [x]) = s ++ [lim (y + x)] := by simp [opS, doOp, rest, top]
    have E := Lib.hid e
    clear e
    go_wp2_with (go_at_call 38; fail)
    all_goals (refine rpush_any _ H2.out (by omega) ?_; intro w3 hs3 c3; have H3 := Lib.hid hs3; have C3 := Lib.hid (C2.out.trans c3); clear hs3 c3; go_wp2; go_end0; refine HR.out _ ?_ C3.out; rw [E.out])
    all_goals first | exact H3.out | (have h3 := H3.out; simp only [Int.min_def, Int.max_def] at h3 ⊢; first | (rw [if_pos (by omega)]; exact h3) | (rw [if_neg (by omega)]; exact h3) | (rcases Decidable.em (x = y) with e | e; (subst e; simp only [ite_self]; exact h3); (rw [if_neg (by omega)]; exact h3)))
  · subst h3
    obtain ⟨s1, x, rfl⟩ := snoc_of_pos (stk := stk) (by simp [pops] at hp; omega)
    obtain ⟨s, y, rfl⟩ := snoc_of_pos (stk := s1) (by simp [pops] at hp; omega)
    have hx := hlim x (by simp)
    have hy := hlim y (by simp)
    obtain ⟨x1, x2⟩ := hx
    obtain ⟨y1, y2⟩ := hy
    rw [List.length_append, List.length_append, List.length_singleton, List.length_singleton] at hl
    clear hp hlim
    go_enter Try.func46, Try.ntmps46
    go_wp2_with (go_at_call 38; fail)
    refine rpop_any x HS.out (by rw [List.length_append, List.length_singleton]; omega) ?_
    intro w1 hs1 c1
    have H1 := Lib.hid hs1
    have C1 := Lib.hid (c1.mono (G := fun k => b ≤ k) (fun n _ e => by omega))
    clear hs1 c1
    go_wp2_with (go_at_call 38; fail)
    refine rpop_any y H1.out (by omega) ?_
    intro w2 hs2 c2
    have H2 := Lib.hid hs2
    have C2 := Lib.hid (C1.out.trans (c2.mono (G := fun k => b ≤ k) (fun n _ e => by omega)))
    clear hs2 c2
    have e : opS 3 (s ++ [y] ++ [x]) = s ++ [lim (y - x)] := by simp [opS, doOp, rest, top]
    have E := Lib.hid e
    clear e
    go_wp2_with (go_at_call 38; fail)
    all_goals (refine rpush_any _ H2.out (by omega) ?_; intro w3 hs3 c3; have H3 := Lib.hid hs3; have C3 := Lib.hid (C2.out.trans c3); clear hs3 c3; go_wp2; go_end0; refine HR.out _ ?_ C3.out; rw [E.out])
    all_goals first | exact H3.out | (have h3 := H3.out; simp only [Int.min_def, Int.max_def] at h3 ⊢; first | (rw [if_pos (by omega)]; exact h3) | (rw [if_neg (by omega)]; exact h3) | (rcases Decidable.em (x = y) with e | e; (subst e; simp only [ite_self]; exact h3); (rw [if_neg (by omega)]; exact h3)))
  · subst h4
    obtain ⟨s1, x, rfl⟩ := snoc_of_pos (stk := stk) (by simp [pops] at hp; omega)
    obtain ⟨s, y, rfl⟩ := snoc_of_pos (stk := s1) (by simp [pops] at hp; omega)
    have hx := hlim x (by simp)
    have hy := hlim y (by simp)
    obtain ⟨x1, x2⟩ := hx
    obtain ⟨y1, y2⟩ := hy
    rw [List.length_append, List.length_append, List.length_singleton, List.length_singleton] at hl
    clear hp hlim
    go_enter Try.func46, Try.ntmps46
    go_wp2_with (go_at_call 38; fail)
    refine rpop_any x HS.out (by rw [List.length_append, List.length_singleton]; omega) ?_
    intro w1 hs1 c1
    have H1 := Lib.hid hs1
    have C1 := Lib.hid (c1.mono (G := fun k => b ≤ k) (fun n _ e => by omega))
    clear hs1 c1
    go_wp2_with (go_at_call 38; fail)
    refine rpop_any y H1.out (by omega) ?_
    intro w2 hs2 c2
    have H2 := Lib.hid hs2
    have C2 := Lib.hid (C1.out.trans (c2.mono (G := fun k => b ≤ k) (fun n _ e => by omega)))
    clear hs2 c2
    have e : opS 4 (s ++ [y] ++ [x]) = s ++ [lim (min y x)] := by simp [opS, doOp, rest, top]
    have E := Lib.hid e
    clear e
    go_wp2_with (go_at_call 38; fail)
    all_goals (refine rpush_any _ H2.out (by omega) ?_; intro w3 hs3 c3; have H3 := Lib.hid hs3; have C3 := Lib.hid (C2.out.trans c3); clear hs3 c3; go_wp2; go_end0; refine HR.out _ ?_ C3.out; rw [E.out])
    all_goals first | exact H3.out | (have h3 := H3.out; simp only [Int.min_def, Int.max_def] at h3 ⊢; first | (rw [if_pos (by omega)]; exact h3) | (rw [if_neg (by omega)]; exact h3) | (rcases Decidable.em (x = y) with e | e; (subst e; simp only [ite_self]; exact h3); (rw [if_neg (by omega)]; exact h3)))
  · subst h5
    obtain ⟨s1, x, rfl⟩ := snoc_of_pos (stk := stk) (by simp [pops] at hp; omega)
    obtain ⟨s, y, rfl⟩ := snoc_of_pos (stk := s1) (by simp [pops] at hp; omega)
    have hx := hlim x (by simp)
    have hy := hlim y (by simp)
    obtain ⟨x1, x2⟩ := hx
    obtain ⟨y1, y2⟩ := hy
    rw [List.length_append, List.length_append, List.length_singleton, List.length_singleton] at hl
    clear hp hlim
    go_enter Try.func46, Try.ntmps46
    go_wp2_with (go_at_call 38; fail)
    refine rpop_any x HS.out (by rw [List.length_append, List.length_singleton]; omega) ?_
    intro w1 hs1 c1
    have H1 := Lib.hid hs1
    have C1 := Lib.hid (c1.mono (G := fun k => b ≤ k) (fun n _ e => by omega))
    clear hs1 c1
    go_wp2_with (go_at_call 38; fail)
    refine rpop_any y H1.out (by omega) ?_
    intro w2 hs2 c2
    have H2 := Lib.hid hs2
    have C2 := Lib.hid (C1.out.trans (c2.mono (G := fun k => b ≤ k) (fun n _ e => by omega)))
    clear hs2 c2
    have e : opS 5 (s ++ [y] ++ [x]) = s ++ [lim (max y x)] := by simp [opS, doOp, rest, top]
    have E := Lib.hid e
    clear e
    go_wp2_with (go_at_call 38; fail)
    all_goals (refine rpush_any _ H2.out (by omega) ?_; intro w3 hs3 c3; have H3 := Lib.hid hs3; have C3 := Lib.hid (C2.out.trans c3); clear hs3 c3; go_wp2; go_end0; refine HR.out _ ?_ C3.out; rw [E.out])
    all_goals first | exact H3.out | (have h3 := H3.out; simp only [Int.min_def, Int.max_def] at h3 ⊢; first | (rw [if_pos (by omega)]; exact h3) | (rw [if_neg (by omega)]; exact h3) | (rcases Decidable.em (x = y) with e | e; (subst e; simp only [ite_self]; exact h3); (rw [if_neg (by omega)]; exact h3)))
  · subst h6
    obtain ⟨s, x, rfl⟩ := snoc_of_pos (stk := stk) (by simp [pops] at hp; omega)
    have hx := hlim x (by simp)
    obtain ⟨x1, x2⟩ := hx
    rw [List.length_append, List.length_singleton] at hl
    clear hp hlim
    go_enter Try.func46, Try.ntmps46
    go_wp2_with (go_at_call 38; fail)
    refine rpop_any x HS.out (by omega) ?_
    intro w1 hs1 c1
    have H1 := Lib.hid hs1
    have C1 := Lib.hid (c1.mono (G := fun k => b ≤ k) (fun n _ e => by omega))
    clear hs1 c1
    go_wp2_with (go_at_call 38; fail)
    refine rpush_any _ H1.out (by omega) ?_
    intro w2 hs2 c2
    have H2 := Lib.hid hs2
    have C2 := Lib.hid (C1.out.trans c2)
    clear hs2 c2
    go_wp2
    go_end0
    refine HR.out _ ?_ C2.out
    have e : opS 6 (s ++ [x]) = s ++ [lim (-x)] := by simp [opS, doOp, rest_snoc, top_snoc]
    rw [e]
    exact H2.out
  · subst h7
    obtain ⟨s, x, rfl⟩ := snoc_of_pos (stk := stk) (by simp [pops] at hp; omega)
    have hx := hlim x (by simp)
    obtain ⟨x1, x2⟩ := hx
    rw [List.length_append, List.length_singleton] at hl
    clear hp hlim
    go_enter Try.func46, Try.ntmps46
    go_wp2_with (go_at_call 38; fail)
    refine rpop_any x HS.out (by omega) ?_
    intro w1 hs1 c1
    have H1 := Lib.hid hs1
    have C1 := Lib.hid (c1.mono (G := fun k => b ≤ k) (fun n _ e => by omega))
    clear hs1 c1
    go_wp2_with (go_at_call 38; fail)
    refine rhalf_any x ⟨x1, x2⟩ ?_
    intro w9 hn9
    have H9 := Lib.hid (show RS w9 b vp vo size s steps from by obtain ⟨vs, hb, ho⟩ := H1.out; exact ⟨vs, hn9.heap hb id, row_ch ho hn9 (fun _ _ h => h)⟩)
    have C9 := Lib.hid (C1.out.trans' hn9 (fun _ _ h => h.elim))
    clear hn9
    go_wp2_with (go_at_call 38; fail)
    refine rpush_any _ H9.out (by omega) ?_
    intro w2 hs2 c2
    have H2 := Lib.hid hs2
    have C2 := Lib.hid (C9.out.trans c2)
    clear hs2 c2
    go_wp2
    go_end0
    refine HR.out _ ?_ C2.out
    have e : opS 7 (s ++ [x]) = s ++ [lim (x / 2)] := by simp [opS, doOp, rest_snoc, top_snoc]
    rw [e]
    exact H2.out
  · subst h8
    obtain ⟨s, x, rfl⟩ := snoc_of_pos (stk := stk) (by simp [pops] at hp; omega)
    have hx := hlim x (by simp)
    obtain ⟨x1, x2⟩ := hx
    rw [List.length_append, List.length_singleton] at hl
    clear hp hlim
    go_enter Try.func46, Try.ntmps46
    go_wp2_with (go_at_call 38; fail)
    refine rpop_any x HS.out (by omega) ?_
    intro w1 hs1 c1
    have H1 := Lib.hid hs1
    have C1 := Lib.hid (c1.mono (G := fun k => b ≤ k) (fun n _ e => by omega))
    clear hs1 c1
    go_wp2_with (go_at_call 38; fail)
    refine rgrid_any x ⟨x1, x2⟩ ?_
    intro w9 hn9
    have H9 := Lib.hid (show RS w9 b vp vo size s steps from by obtain ⟨vs, hb, ho⟩ := H1.out; exact ⟨vs, hn9.heap hb id, row_ch ho hn9 (fun _ _ h => h)⟩)
    have C9 := Lib.hid (C1.out.trans' hn9 (fun _ _ h => h.elim))
    clear hn9
    go_wp2_with (go_at_call 38; fail)
    refine rpush_any _ H9.out (by omega) ?_
    intro w2 hs2 c2
    have H2 := Lib.hid hs2
    have C2 := Lib.hid (C9.out.trans c2)
    clear hs2 c2
    go_wp2
    go_end0
    refine HR.out _ ?_ C2.out
    have e : opS 8 (s ++ [x]) = s ++ [lim (rnd64 x)] := by simp [opS, doOp, rest_snoc, top_snoc]
    rw [e]
    exact H2.out
end
end Go.Proofs.Ytlgcijafjcfnhaa
