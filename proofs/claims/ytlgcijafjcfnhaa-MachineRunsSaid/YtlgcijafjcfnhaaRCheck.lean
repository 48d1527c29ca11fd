/-
  The reference of the machine: the error of an operation.
-/
import Derived.Test.YtlgcijafjcfnhaaRComp
import Derived.Test.YtlgcijafjcfnhaaScale
import Derived.Test.YtlgcijafjcfnhaaRunAll
namespace Go.Proofs.Ytlgcijafjcfnhaa
open Go.RowKit
set_option linter.unusedVariables false
set_option linter.unusedSimpArgs false

theorem nof2 {L : Nat} : ∀ k : Nat, k < L → ¬ (fun _ : Nat => False) k := fun _ _ h => h
/-- 'chk', said by way of the form. -/
theorem chk_form (c n m : Int) (i e nest npts h : Nat) (s : Int) (hie : i < e) :
    chk c n m (e - i) nest npts h s = if 2000 ≤ s then some 21 else if formB c n m ((e : Int) - 1 - i) = false then some 5 else if (c = 14 ∨ c = 15) ∧ 3 ≤ nest then some 20 else if h < pops c then some 20 else if 8 < h - pops c + pushes c then some 20
      else if isPt c = true ∧ (n < 0 ∨ (npts : Int) ≤ n) then some 22 else none := by
  by_cases h0 : 2000 ≤ s
  · unfold chk; rw [if_pos h0, if_pos h0]
  rw [if_neg h0]
  have hroom : ((e - i : Nat) : Int) = (e : Int) - i := by omega
  by_cases hf : formB c n m ((e : Int) - 1 - i) = true
  · rw [if_neg (by rw [hf]; simp)]
    unfold formB at hf
    split at hf
    · cases hf
    rename_i hbad0
    have hbad : ¬ bad c := hbad0
    by_cases h15 : c = 15
    · subst h15
      simp only [if_true] at hf
      have hf := of_decide_eq_true hf
      unfold chk
      rw [if_neg h0, if_neg hbad, if_neg (by omega), if_neg (by simp [isBlk]), if_neg (by omega), if_neg (by unfold blen; simp; omega)]
      simp [isBlk, isPt]
    · rw [if_neg h15] at hf
      by_cases h14 : c = 14
      · subst h14
        simp only [if_true] at hf
        have hf := of_decide_eq_true hf
        unfold chk
        rw [if_neg h0, if_neg hbad, if_neg (by omega), if_neg (by simp [isBlk]), if_neg (by omega), if_neg (by unfold blen; simp; omega)]
        simp [isBlk, isPt]
      · rw [if_neg h14] at hf
        have hf := of_decide_eq_true hf
        have hb : isBlk c = false := by unfold isBlk; exact decide_eq_false (by omega)
        unfold chk
        rw [if_neg h0, if_neg hbad, if_neg (by omega), if_neg ?_, if_neg (by omega), if_neg (by rw [hb]; simp), if_neg (by rw [hb]; simp), if_neg (show ¬ ((c = 14 ∨ c = 15) ∧ 3 ≤ nest) from by omega)]
        rintro ⟨hn, h1, h2, h3⟩
        rcases hf.2 with h | h | h
        · subst h; simp [isNum] at h1
        · rw [h] at h2; cases h2
        · exact hn h
  · have hf' : formB c n m ((e : Int) - 1 - i) = false := by simpa using hf
    rw [if_pos hf']
    unfold formB at hf'
    unfold chk
    rw [if_neg h0]
    split at hf'
    · rename_i hbad0; rw [if_pos (show bad c from hbad0)]
    rename_i hbad0
    rw [if_neg (show ¬ bad c from hbad0)]
    by_cases h15 : c = 15
    · subst h15
      simp only [if_true] at hf'
      have hf' := of_decide_eq_false hf'
      rw [if_neg (by omega), if_neg (by simp [isBlk])]
      by_cases hn : 1 ≤ n ∧ n ≤ 16
      · rw [if_neg (by omega), if_pos (by unfold blen; simp [isBlk]; omega)]
      · rw [if_pos (by omega)]
    · rw [if_neg h15] at hf'
      by_cases h14 : c = 14
      · subst h14
        simp only [if_true] at hf'
        have hf' := of_decide_eq_false hf'
        by_cases hm : m = 0
        · rw [if_neg (by omega), if_neg (by simp [isBlk]), if_neg (by omega), if_pos (by unfold blen; simp [isBlk]; omega)]
        · rw [if_pos (by omega)]
      · rw [if_neg h14] at hf'
        have hf' := of_decide_eq_false hf'
        have hb : isBlk c = false := by unfold isBlk; exact decide_eq_false (by omega)
        by_cases hm : m = 0
        · rw [if_neg (by omega), if_pos]
          refine ⟨fun h => hf' ⟨hm, .inr (.inr h)⟩, ?_, ?_, hb⟩
          · cases h : isNum c with
            | false => rfl
            | true => exact absurd ⟨hm, .inl (by unfold isNum at h; exact of_decide_eq_true h)⟩ hf'
          · cases h : isPt c with
            | false => rfl
            | true => exact absurd ⟨hm, .inr (.inl h)⟩ hf'
        · rw [if_pos (by omega)]

section
variable {w : World} {R : Ending → World → Prop} {b : Nat} {vp vo : Value} {size : Int} {stk : List Int} {steps : Int}
set_option maxRecDepth 100000 in
set_option maxHeartbeats 4000000 in
theorem rcheck_any (lo lo2 : Nat) (l : List Op3) (o : List (List Pt)) (i e nest : Nat) {c n m : Int} (h : RS w b vp vo size stk steps) (hp : IsOps w lo vp l) (ho : IsOut w lo2 vo o) (hi : l[i]? = some (c, n, m)) (hie : i < e) (he : e ≤ l.length) (hnest : nest ≤ 3) (hstk : stk.length ≤ 8)
    (hR : ∀ w', Nw w w' → R (.returned (.int .i64 ((chk c n m (e - i) nest o.flatten.length stk.length steps).getD 0))) w') : Calls Try.prog 37 #[.pointer (some ⟨b, 0, none⟩), .int .i64 i, .int .i64 e, .int .i64 nest] w R := by
  rw [chk_form c n m i e nest o.flatten.length stk.length steps hie] at hR
  obtain ⟨np, hnp⟩ : ∃ np : Nat, o.flatten.length = np := ⟨_, rfl⟩
  rw [hnp] at hR
  have HNP := Lib.hid hnp
  have HR := Lib.hid hR
  have HO := Lib.hid ho
  clear hR hnp
  obtain ⟨vs, hb, hrow⟩ := h
  obtain ⟨Ap, capp, rfl, hl63, hel⟩ := hp
  obtain ⟨pk, po, -, rfl, g0, g1, g2⟩ := hel i c n m hi
  obtain ⟨Av, cv, rfl⟩ : ∃ A c, vs = .slice A stk.length c := by
    rcases hrow.2 with ⟨h1, h2⟩ | ⟨g, cap, cur, h1, -⟩
    · exact ⟨none, 0, by rw [h2]; exact h1⟩
    · exact ⟨_, _, h1⟩
  obtain ⟨Ao, co, rfl, -, -⟩ := ho
  have d0 : w.cell? ⟨b, 0, none⟩ = some (.slice (some ⟨pk, po, none⟩) l.length capp) := by rw [cell_of hb]; rfl
  have d1 : w.cell? ⟨b, 1, none⟩ = some (.slice Ao o.length co) := by rw [cell_of hb]; rfl
  have d3 : w.cell? ⟨b, 3, none⟩ = some (.slice Av stk.length cv) := by rw [cell_of hb]; rfl
  have d4 : w.cell? ⟨b, 4, none⟩ = some (.int .i64 steps) := by rw [cell_of hb]; rfl
  have i0 : (0 : Int) ≤ (i : Int) := by omega
  have i1 : (i : Int) < (l.length : Int) := by omega
  have lb := lt_of_heap hb
  have lpk : pk < w.heap.size := World.block_lt_of_cell? w ⟨pk, _, none⟩ g0
  have ee : (e : Int) ≤ 9223372036854775807 := by omega
  clear hb hrow hel hi
  by_cases hs : 2000 ≤ steps
  · rw [if_pos hs] at HR
    go_enter Try.func37, Try.ntmps37
    go_wp2
    exact HR.out _ ((Ch.refl _ _).alloc _)
  · rw [if_neg hs] at HR
    obtain ⟨fb, hfb⟩ : ∃ fb, fb = formB c n m ((e : Int) - 1 - i) := ⟨_, rfl⟩
    rw [← hfb] at HR
    have HFB := Lib.hid hfb
    clear hfb
    go_enter Try.func37, Try.ntmps37
    go_wp2_with (go_at_call 42; fail)
    refine rform_any _ _ _ _ ?_
    intro w1 hn1
    rw [← HFB.out]
    have q1 : w1.cell? ⟨b, 1, none⟩ = some (.slice Ao o.length co) := hn1.cell (cell_alloc_old _ d1) id
    have q3 : w1.cell? ⟨b, 3, none⟩ = some (.slice Av stk.length cv) := hn1.cell (cell_alloc_old _ d3) id
    have o0 : w1.cell? ⟨w.heap.size, 0, none⟩ = some (.int .i64 c) := hn1.cell (cell_alloc_new rfl rfl) id
    have o1 : w1.cell? ⟨w.heap.size, 1, none⟩ = some (.int .i64 n) := hn1.cell (cell_alloc_new rfl rfl) id
    have N1 := Lib.hid (show Nw w w1 from ((Ch.refl (fun _ => False) w).alloc _).trans hn1)
    have HO1 := Lib.hid (show IsOut w1 lo2 (.slice Ao o.length co) o from HO.out.kept N1.out nof2)
    clear hn1 d0 d1 d3 d4 g0 g1 g2
    cases fb with
    | false =>
      rw [if_pos rfl] at HR
      go_wp2
      exact HR.out _ N1.out
    | true =>
      rw [if_neg (by simp)] at HR
      by_cases h14 : c = 14
      · subst h14
        obtain ⟨p, hp⟩ : ∃ p : Nat, p = pops 14 := ⟨_, rfl⟩
        obtain ⟨q, hq⟩ : ∃ q : Nat, q = pushes 14 := ⟨_, rfl⟩
        obtain ⟨pt, hpt⟩ : ∃ pt : Bool, pt = isPt 14 := ⟨_, rfl⟩
        have p2 : p ≤ 2 := by rw [hp]; unfold pops; split <;> (try split) <;> omega
        have q2 : q ≤ 1 := by rw [hq]; unfold pushes; split <;> omega
        rw [← hp, ← hq, ← hpt] at HR
        have HP := Lib.hid hp
        have HQ := Lib.hid hq
        have HPT := Lib.hid hpt
        clear hp hq hpt
        go_wp2_with (go_at_call 41; fail)
        refine rtakes_any _ ?_
        rw [← HP.out, ← HQ.out]
        by_cases h0 : 3 ≤ nest
        · rw [if_pos ⟨by simp, h0⟩] at HR
          have k0 : (3 : Int) ≤ (nest : Int) := by omega
          go_wp2
          exact HR.out _ N1.out
        rw [if_neg (by rintro ⟨-, h⟩; exact h0 h)] at HR
        have k0 : (nest : Int) < 3 := by omega
        have kd : decide ((3 : Int) ≤ (nest : Int)) = false := decide_eq_false (by omega)
        clear h0
        by_cases h1 : stk.length < p
        · rw [if_pos h1] at HR
          have k1 : (stk.length : Int) < (p : Int) := by omega
          go_wp2
          exact HR.out _ N1.out
        rw [if_neg h1] at HR
        have k1 : (p : Int) ≤ (stk.length : Int) := by omega
        have k1n : p ≤ stk.length := by omega
        have k1d : decide ((stk.length : Int) < (p : Int)) = false := decide_eq_false (by omega)
        by_cases h2 : 8 < stk.length - p + q
        · rw [if_pos h2] at HR
          have k2 : (8 : Int) < (stk.length : Int) - (p : Int) + (q : Int) := by omega
          go_wp2
          exact HR.out _ N1.out
        rw [if_neg h2] at HR
        have k2 : ¬ (8 : Int) < (stk.length : Int) - (p : Int) + (q : Int) := by omega
        have k3 : decide ((8 : Int) < (stk.length : Int) - (p : Int) + (q : Int)) = false := decide_eq_false k2
        have k4 : (stk.length : Int) - (p : Int) + (q : Int) ≤ 8 := by omega
        clear h1 h2
        have hct : ∀ (d : Nat) (R : Ending → World → Prop), R (.returned (.int .i64 np)) (w1.drewN d) → Calls Try.prog 16 #[.slice Ao o.length co] (w1.drewN d) R := fun d R h => Count_any lo2 _ o (w1.drewN d) R (HO1.out.kept ((Ch.refl (fun _ => False) w1).drewN d) nof2) (by rw [HNP.out]; exact h)
        have hpo : ∀ (w : World) (R : Ending → World → Prop), R (.returned (.bool pt)) w → Calls Try.prog 43 #[.int .i64 14] w R := fun w R h => rpoint_any 14 (by rw [← HPT.out]; exact h)
        have HCT := Lib.hid hct
        have HPO := Lib.hid hpo
        clear hct hpo
        obtain rfl : pt = false := by rw [HPT.out]; rfl
        rw [if_neg (by simp)] at HR
        go_wp2
        all_goals (try (exfalso; omega))
        go_quiet (first | (go_at_call 43; refine HPO.out _ _ ?_; exact ⟨rfl, _, rfl⟩) | (go_at_call 16; refine HCT.out _ _ ?_; exact ⟨rfl, _, rfl⟩))
        go_wp2
        exact HR.out _ (N1.out.drewN _)
      by_cases h15 : c = 15
      · subst h15
        obtain ⟨p, hp⟩ : ∃ p : Nat, p = pops 15 := ⟨_, rfl⟩
        obtain ⟨q, hq⟩ : ∃ q : Nat, q = pushes 15 := ⟨_, rfl⟩
        obtain ⟨pt, hpt⟩ : ∃ pt : Bool, pt = isPt 15 := ⟨_, rfl⟩
        have p2 : p ≤ 2 := by rw [hp]; unfold pops; split <;> (try split) <;> omega
        have q2 : q ≤ 1 := by rw [hq]; unfold pushes; split <;> omega
        rw [← hp, ← hq, ← hpt] at HR
        have HP := Lib.hid hp
        have HQ := Lib.hid hq
        have HPT := Lib.hid hpt
        clear hp hq hpt
        go_wp2_with (go_at_call 41; fail)
        refine rtakes_any _ ?_
        rw [← HP.out, ← HQ.out]
        by_cases h0 : 3 ≤ nest
        · rw [if_pos ⟨by simp, h0⟩] at HR
          have k0 : (3 : Int) ≤ (nest : Int) := by omega
          go_wp2
          exact HR.out _ N1.out
        rw [if_neg (by rintro ⟨-, h⟩; exact h0 h)] at HR
        have k0 : (nest : Int) < 3 := by omega
        have kd : decide ((3 : Int) ≤ (nest : Int)) = false := decide_eq_false (by omega)
        clear h0
        by_cases h1 : stk.length < p
        · rw [if_pos h1] at HR
          have k1 : (stk.length : Int) < (p : Int) := by omega
          go_wp2
          exact HR.out _ N1.out
        rw [if_neg h1] at HR
        have k1 : (p : Int) ≤ (stk.length : Int) := by omega
        have k1n : p ≤ stk.length := by omega
        have k1d : decide ((stk.length : Int) < (p : Int)) = false := decide_eq_false (by omega)
        by_cases h2 : 8 < stk.length - p + q
        · rw [if_pos h2] at HR
          have k2 : (8 : Int) < (stk.length : Int) - (p : Int) + (q : Int) := by omega
          go_wp2
          exact HR.out _ N1.out
        rw [if_neg h2] at HR
        have k2 : ¬ (8 : Int) < (stk.length : Int) - (p : Int) + (q : Int) := by omega
        have k3 : decide ((8 : Int) < (stk.length : Int) - (p : Int) + (q : Int)) = false := decide_eq_false k2
        have k4 : (stk.length : Int) - (p : Int) + (q : Int) ≤ 8 := by omega
        clear h1 h2
        have hct : ∀ (d : Nat) (R : Ending → World → Prop), R (.returned (.int .i64 np)) (w1.drewN d) → Calls Try.prog 16 #[.slice Ao o.length co] (w1.drewN d) R := fun d R h => Count_any lo2 _ o (w1.drewN d) R (HO1.out.kept ((Ch.refl (fun _ => False) w1).drewN d) nof2) (by rw [HNP.out]; exact h)
        have hpo : ∀ (w : World) (R : Ending → World → Prop), R (.returned (.bool pt)) w → Calls Try.prog 43 #[.int .i64 15] w R := fun w R h => rpoint_any 15 (by rw [← HPT.out]; exact h)
        have HCT := Lib.hid hct
        have HPO := Lib.hid hpo
        clear hct hpo
        obtain rfl : pt = false := by rw [HPT.out]; rfl
        rw [if_neg (by simp)] at HR
        go_wp2
        all_goals (try (exfalso; omega))
        go_quiet (first | (go_at_call 43; refine HPO.out _ _ ?_; exact ⟨rfl, _, rfl⟩) | (go_at_call 16; refine HCT.out _ _ ?_; exact ⟨rfl, _, rfl⟩))
        go_wp2
        exact HR.out _ (N1.out.drewN _)
      have b14 : (c == 14) = false := beq_eq_false_iff_ne.2 h14
      have b15 : (c == 15) = false := beq_eq_false_iff_ne.2 h15
      rw [if_neg (by rintro ⟨h | h, -⟩ <;> contradiction)] at HR
      clear h14 h15
      obtain ⟨p, hp⟩ : ∃ p : Nat, p = pops c := ⟨_, rfl⟩
      obtain ⟨q, hq⟩ : ∃ q : Nat, q = pushes c := ⟨_, rfl⟩
      obtain ⟨pt, hpt⟩ : ∃ pt : Bool, pt = isPt c := ⟨_, rfl⟩
      have p2 : p ≤ 2 := by rw [hp]; unfold pops; split <;> (try split) <;> omega
      have q2 : q ≤ 1 := by rw [hq]; unfold pushes; split <;> omega
      rw [← hp, ← hq, ← hpt] at HR
      have HP := Lib.hid hp
      have HQ := Lib.hid hq
      have HPT := Lib.hid hpt
      clear hp hq hpt
      go_wp2_with (go_at_call 41; fail)
      refine rtakes_any _ ?_
      rw [← HP.out, ← HQ.out]
      by_cases h1 : stk.length < p
      · rw [if_pos h1] at HR
        have k1 : (stk.length : Int) < (p : Int) := by omega
        go_wp2
        exact HR.out _ N1.out
      rw [if_neg h1] at HR
      have k1 : (p : Int) ≤ (stk.length : Int) := by omega
      have k1n : p ≤ stk.length := by omega
      have k1d : decide ((stk.length : Int) < (p : Int)) = false := decide_eq_false (by omega)
      by_cases h2 : 8 < stk.length - p + q
      · rw [if_pos h2] at HR
        have k2 : (8 : Int) < (stk.length : Int) - (p : Int) + (q : Int) := by omega
        go_wp2
        exact HR.out _ N1.out
      rw [if_neg h2] at HR
      have k2 : ¬ (8 : Int) < (stk.length : Int) - (p : Int) + (q : Int) := by omega
      have k3 : decide ((8 : Int) < (stk.length : Int) - (p : Int) + (q : Int)) = false := decide_eq_false k2
      have k4 : (stk.length : Int) - (p : Int) + (q : Int) ≤ 8 := by omega
      clear h1 h2
      have hct : ∀ (d : Nat) (R : Ending → World → Prop), R (.returned (.int .i64 np)) (w1.drewN d) → Calls Try.prog 16 #[.slice Ao o.length co] (w1.drewN d) R := fun d R h => Count_any lo2 _ o (w1.drewN d) R (HO1.out.kept ((Ch.refl (fun _ => False) w1).drewN d) nof2) (by rw [HNP.out]; exact h)
      have hpo : ∀ (w : World) (R : Ending → World → Prop), R (.returned (.bool pt)) w → Calls Try.prog 43 #[.int .i64 c] w R := fun w R h => rpoint_any c (by rw [← HPT.out]; exact h)
      have HCT := Lib.hid hct
      have HPO := Lib.hid hpo
      clear hct hpo
      cases pt with
      | false =>
        rw [if_neg (by simp)] at HR
        go_wp2
        all_goals (try (exfalso; omega))
        go_quiet (first | (go_at_call 43; refine HPO.out _ _ ?_; exact ⟨rfl, _, rfl⟩) | (go_at_call 16; refine HCT.out _ _ ?_; exact ⟨rfl, _, rfl⟩))
        go_wp2
        exact HR.out _ (N1.out.drewN _)
      | true =>
        by_cases h3 : n < 0
        · rw [if_pos ⟨rfl, .inl h3⟩] at HR
          go_wp2
          all_goals (try (exfalso; omega))
          go_quiet (first | (go_at_call 43; refine HPO.out _ _ ?_; exact ⟨rfl, _, rfl⟩) | (go_at_call 16; refine HCT.out _ _ ?_; exact ⟨rfl, _, rfl⟩))
          go_wp2
          exact HR.out _ (N1.out.drewN _)
        · by_cases h4 : (np : Int) ≤ n
          · rw [if_pos ⟨rfl, .inr h4⟩] at HR
            go_wp2
            all_goals (try (exfalso; omega))
            go_quiet (first | (go_at_call 43; refine HPO.out _ _ ?_; exact ⟨rfl, _, rfl⟩) | (go_at_call 16; refine HCT.out _ _ ?_; exact ⟨rfl, _, rfl⟩))
            go_wp2
            exact HR.out _ (N1.out.drewN _)
          · rw [if_neg (by rintro ⟨-, h | h⟩ <;> omega)] at HR
            go_wp2
            all_goals (try (exfalso; omega))
            go_quiet (first | (go_at_call 43; refine HPO.out _ _ ?_; exact ⟨rfl, _, rfl⟩) | (go_at_call 16; refine HCT.out _ _ ?_; exact ⟨rfl, _, rfl⟩))
            go_wp2
            exact HR.out _ (N1.out.drewN _)
end
end Go.Proofs.Ytlgcijafjcfnhaa
