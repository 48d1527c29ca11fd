/-
  ref08: uses, Formed, Takes, Block.
-/
import Derived.Test.YtdpbdcaefdcooaaGreatDoorVForm
import Derived.Test.YtdpbdcaefdcooaaGreatDoorVt
namespace Go.Proofs.YtdpbdcaefdcooaaGreatDoor
open Go.RowKit
set_option linter.unusedVariables false
set_option linter.unusedSimpArgs false
set_option maxRecDepth 100000

theorem uses_any (c : Int) (w : World) (R : Ending → World → Prop) (hR : R (.returned (.tuple #[.bool (usesN c), .bool (usesM c)])) w) : Calls Tryz.prog 48 #[.int .i64 c] w R := by
  obtain h | h | ⟨h1, h2⟩ | ⟨h1, h2⟩ : c = 1 ∨ c = 15 ∨ (10 ≤ c ∧ c ≠ 15) ∨ (c < 10 ∧ c ≠ 1) := by omega
  · have eN : usesN c = true := by unfold usesN; simp; omega
    have eM : usesM c = false := by unfold usesM; simp; omega
    rw [eN, eM] at hR
    have HR := Lib.hid hR
    clear hR eN eM
    have t1 : (c == 1) = true := by simp [h]
    have t15 : (c == 15) = false := by simp [h]
    clear h
    go_enter Tryz.func48, Tryz.ntmps48
    go_wp2
    exact HR.out
  · have eN : usesN c = true := by unfold usesN; simp; omega
    have eM : usesM c = true := by unfold usesM; simp; omega
    rw [eN, eM] at hR
    have HR := Lib.hid hR
    clear hR eN eM
    have t1 : (c == 1) = false := by simp [h]
    have t15 : (c == 15) = true := by simp [h]
    have g : c ≥ 10 := by omega
    clear h
    go_enter Tryz.func48, Tryz.ntmps48
    go_wp2
    exact HR.out
  · have eN : usesN c = true := by unfold usesN; simp; omega
    have eM : usesM c = false := by unfold usesM; simp; omega
    rw [eN, eM] at hR
    have HR := Lib.hid hR
    clear hR eN eM
    have t1 : (c == 1) = false := by simp; omega
    have t15 : (c == 15) = false := by simp; omega
    have g : c ≥ 10 := by omega
    clear h1 h2
    go_enter Tryz.func48, Tryz.ntmps48
    go_wp2
    exact HR.out
  · have eN : usesN c = false := by unfold usesN; simp; omega
    have eM : usesM c = false := by unfold usesM; simp; omega
    rw [eN, eM] at hR
    have HR := Lib.hid hR
    clear hR eN eM
    have t1 : (c == 1) = false := by simp; omega
    have t15 : (c == 15) = false := by simp; omega
    have g : ¬ c ≥ 10 := by omega
    clear h1 h2
    go_enter Tryz.func48, Tryz.ntmps48
    go_wp2
    exact HR.out

set_option maxHeartbeats 4000000 in
theorem rformed_any (c n m : Int) (w : World) (R : Ending → World → Prop) (hR : ∀ w', Nw w w' → R (.returned (.bool (decide (vform c n m)))) w') : Calls Tryz.prog 29 #[.agg #[.int .i64 c, .int .i64 n, .int .i64 m]] w R := by
  have HR := Lib.hid hR
  clear hR
  by_cases h0 : c < 1
  · have e : decide (vform c n m) = false := by unfold vform; exact decide_eq_false (by omega)
    have E := Lib.hid e
    clear e
    go_enter Tryz.func29, Tryz.ntmps29
    go_wp2
    exact ret_b (HR.out _ ((Ch.refl _ _).alloc _)) E.out
  · by_cases h1 : 15 < c
    · have e : decide (vform c n m) = false := by unfold vform; exact decide_eq_false (by omega)
      have E := Lib.hid e
      have g : c > 15 := h1
      clear e
      go_enter Tryz.func29, Tryz.ntmps29
      go_wp2
      exact ret_b (HR.out _ ((Ch.refl _ _).alloc _)) E.out
    · have E := Lib.hid (show decide (vform c n m) = ((usesN c || decide (n = 0)) && (usesM c || decide (m = 0))) from by
        unfold usesN usesM
        rw [Bool.eq_iff_iff]
        simp only [Bool.and_eq_true, Bool.or_eq_true, decide_eq_true_eq]
        unfold vform
        constructor
        · rintro ⟨a, b, c⟩
          exact ⟨by omega, by omega⟩
        · rintro ⟨b, c⟩
          exact ⟨by omega, by omega, by omega⟩)
      have h2 : 1 ≤ c := by omega
      have h3 : c ≤ 15 := by omega
      clear h0 h1
      have HU := Lib.hid (uses_any c)
      generalize usesN c = uN at E HU
      generalize usesM c = uM at E HU
      cases uN <;> cases uM <;> by_cases hn : n = 0 <;> by_cases hm : m = 0
      all_goals
        have Hn := Lib.hid hn
        have Hm := Lib.hid hm
        first | (have tn : (n == 0) = true := by simp [hn]) | (have tn : (n == 0) = false := by simp [hn])
        first | (have tm : (m == 0) = true := by simp [hm]) | (have tm : (m == 0) = false := by simp [hm])
        clear hn hm
        go_enter Tryz.func29, Tryz.ntmps29
        go_wp2_with (go_at_call 48; refine HU.out _ _ ?_)
        exact ret_b (HR.out _ ((Ch.refl _ _).alloc _)) (by rw [E.out]; simp [Hn.out, Hm.out])

set_option maxHeartbeats 4000000 in
theorem takes_any (c : Int) (h : 1 ≤ c ∧ c ≤ 15) (w : World) (R : Ending → World → Prop) (hR : R (.returned (.tuple #[.int .i64 (vtakes c), .int .i64 (vputs c)])) w) : Calls Tryz.prog 66 #[.int .i64 c] w R := by
  have HR := Lib.hid hR
  clear hR
  rcases fifteen h with rfl | rfl | rfl | rfl | rfl | rfl | rfl | rfl | rfl | rfl | rfl | rfl | rfl | rfl | rfl
  all_goals
    go_enter Tryz.func66, Tryz.ntmps66
    go_wp2
    exact HR.out

theorem blk_any (c n m : Int) (w : World) (R : Ending → World → Prop) (hR : ∀ w', Nw w w' → R (.returned (.int .i64 (vlen c n m))) w') : Calls Tryz.prog 43 #[.agg #[.int .i64 c, .int .i64 n, .int .i64 m]] w R := by
  have HR := Lib.hid hR
  clear hR
  obtain h | h | ⟨h, h'⟩ : c = 14 ∨ c = 15 ∨ (c ≠ 14 ∧ c ≠ 15) := by omega
  · have t14 : (c == 14) = true := by simp [h]
    have E := Lib.hid (show vlen c n m = n from by rw [h]; rfl)
    clear h
    go_enter Tryz.func43, Tryz.ntmps43
    go_wp2
    exact ret_i (HR.out _ ((Ch.refl _ _).alloc _)) E.out
  · have t14 : (c == 14) = false := by simp [h]
    have t15 : (c == 15) = true := by simp [h]
    have E := Lib.hid (show vlen c n m = m from by rw [h]; rfl)
    clear h
    go_enter Tryz.func43, Tryz.ntmps43
    go_wp2
    exact ret_i (HR.out _ ((Ch.refl _ _).alloc _)) E.out
  · have t14 : (c == 14) = false := by simp [h]
    have t15 : (c == 15) = false := by simp [h']
    have E := Lib.hid (show vlen c n m = 0 from by unfold vlen; rw [if_neg h, if_neg h'])
    clear h h'
    go_enter Tryz.func43, Tryz.ntmps43
    go_wp2
    exact ret_i (HR.out _ ((Ch.refl _ _).alloc _)) E.out
end Go.Proofs.YtdpbdcaefdcooaaGreatDoor
