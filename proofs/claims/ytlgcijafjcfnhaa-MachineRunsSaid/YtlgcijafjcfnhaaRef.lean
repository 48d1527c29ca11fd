/-
  The reference of the machine: what its small functions return.
-/
import Derived.Test.YtlgcijafjcfnhaaNext
namespace Go.Proofs.Ytlgcijafjcfnhaa
open Go.RowKit
set_option linter.unusedVariables false
set_option linter.unusedSimpArgs false

section
variable {w : World} {R : Ending → World → Prop}
set_option maxRecDepth 100000 in
theorem rlimited_any (n : Int) (hR : R (.returned (.int .i64 (lim n))) w) : Calls Try.prog 64 #[.int .i64 n] w R := by
  have HR := Lib.hid hR
  clear hR
  go_enter Try.func64, Try.ntmps64
  go_wp2
  all_goals exact ret_i HR.out (by unfold lim; omega)

set_option maxRecDepth 100000 in
theorem rpoint_any (c : Int) (hR : R (.returned (.bool (isPt c))) w) : Calls Try.prog 43 #[.int .i64 c] w R := by
  have HR := Lib.hid hR
  clear hR
  by_cases h10 : c = 10
  · subst h10
    go_enter Try.func43, Try.ntmps43
    go_wp2
    exact HR.out
  by_cases h11 : c = 11
  · subst h11
    go_enter Try.func43, Try.ntmps43
    go_wp2
    exact HR.out
  by_cases h12 : c = 12
  · subst h12
    go_enter Try.func43, Try.ntmps43
    go_wp2
    exact HR.out
  by_cases h13 : c = 13
  · subst h13
    go_enter Try.func43, Try.ntmps43
    go_wp2
    exact HR.out
  have b10 : (c == 10) = false := beq_eq_false_iff_ne.2 (by omega)
  have b11 : (c == 11) = false := beq_eq_false_iff_ne.2 (by omega)
  have b12 : (c == 12) = false := beq_eq_false_iff_ne.2 (by omega)
  have b13 : (c == 13) = false := beq_eq_false_iff_ne.2 (by omega)
  have hp : isPt c = false := by unfold isPt; exact decide_eq_false (by omega)
  rw [hp] at HR
  clear hp
  go_enter Try.func43, Try.ntmps43
  go_wp2
  exact HR.out

set_option maxRecDepth 100000 in
theorem rtakes_any (c : Int) (hR : R (.returned (.tuple #[.int .i64 (pops c), .int .i64 (pushes c)])) w) : Calls Try.prog 42 #[.int .i64 c] w R := by
  have HR := Lib.hid hR
  clear hR
  by_cases h1 : c = 1
  · subst h1
    go_enter Try.func42, Try.ntmps42
    go_wp2
    exact HR.out
  by_cases h2 : c = 2
  · subst h2
    go_enter Try.func42, Try.ntmps42
    go_wp2
    exact HR.out
  by_cases h3 : c = 3
  · subst h3
    go_enter Try.func42, Try.ntmps42
    go_wp2
    exact HR.out
  by_cases h4 : c = 4
  · subst h4
    go_enter Try.func42, Try.ntmps42
    go_wp2
    exact HR.out
  by_cases h5 : c = 5
  · subst h5
    go_enter Try.func42, Try.ntmps42
    go_wp2
    exact HR.out
  by_cases h6 : c = 6
  · subst h6
    go_enter Try.func42, Try.ntmps42
    go_wp2
    exact HR.out
  by_cases h7 : c = 7
  · subst h7
    go_enter Try.func42, Try.ntmps42
    go_wp2
    exact HR.out
  by_cases h8 : c = 8
  · subst h8
    go_enter Try.func42, Try.ntmps42
    go_wp2
    exact HR.out
  by_cases h9 : c = 9
  · subst h9
    go_enter Try.func42, Try.ntmps42
    go_wp2
    exact HR.out
  by_cases h10 : c = 10
  · subst h10
    go_enter Try.func42, Try.ntmps42
    go_wp2
    exact HR.out
  by_cases h11 : c = 11
  · subst h11
    go_enter Try.func42, Try.ntmps42
    go_wp2
    exact HR.out
  by_cases h12 : c = 12
  · subst h12
    go_enter Try.func42, Try.ntmps42
    go_wp2
    exact HR.out
  by_cases h13 : c = 13
  · subst h13
    go_enter Try.func42, Try.ntmps42
    go_wp2
    exact HR.out
  by_cases h14 : c = 14
  · subst h14
    go_enter Try.func42, Try.ntmps42
    go_wp2
    exact HR.out
  have b1 : (c == 1) = false := beq_eq_false_iff_ne.2 (by omega)
  have b2 : (c == 2) = false := beq_eq_false_iff_ne.2 (by omega)
  have b3 : (c == 3) = false := beq_eq_false_iff_ne.2 (by omega)
  have b4 : (c == 4) = false := beq_eq_false_iff_ne.2 (by omega)
  have b5 : (c == 5) = false := beq_eq_false_iff_ne.2 (by omega)
  have b6 : (c == 6) = false := beq_eq_false_iff_ne.2 (by omega)
  have b7 : (c == 7) = false := beq_eq_false_iff_ne.2 (by omega)
  have b8 : (c == 8) = false := beq_eq_false_iff_ne.2 (by omega)
  have b9 : (c == 9) = false := beq_eq_false_iff_ne.2 (by omega)
  have b10 : (c == 10) = false := beq_eq_false_iff_ne.2 (by omega)
  have b11 : (c == 11) = false := beq_eq_false_iff_ne.2 (by omega)
  have b12 : (c == 12) = false := beq_eq_false_iff_ne.2 (by omega)
  have b13 : (c == 13) = false := beq_eq_false_iff_ne.2 (by omega)
  have b14 : (c == 14) = false := beq_eq_false_iff_ne.2 (by omega)
  have hp : pops c = 0 := by unfold pops; rw [if_neg (by omega), if_neg (by omega)]
  have hq : pushes c = 0 := by unfold pushes; rw [if_neg (by omega)]
  rw [hp, hq] at HR
  clear hp hq
  go_enter Try.func42, Try.ntmps42
  go_wp2
  exact HR.out


set_option maxRecDepth 100000 in
theorem rsize_any (n : Int) (hn : -1073741824 ≤ n ∧ n ≤ 1073741824) (hR : R (.returned (.int .u64 (n.natAbs : Int))) w) : Calls Try.prog 74 #[.int .i64 n] w R := by
  have HR := Lib.hid hR
  clear hR
  obtain ⟨h1, h2⟩ := hn
  by_cases h : n < 0
  · go_enter Try.func74, Try.ntmps74
    go_wp2
    exact ret_i HR.out (by rw [IntKind.wrap_u64, IntKind.wrap_u64]; omega)
  · go_enter Try.func74, Try.ntmps74
    go_wp2
    exact ret_i HR.out (by omega)

set_option maxRecDepth 100000 in
theorem rwhole_any (neg : Bool) (q : Int) (hq : 0 ≤ q ∧ q ≤ 1073741825) (hR : ∀ w', Nw w w' → R (.returned (.tuple #[.int .i64 (if neg then -q else q), .bool true])) w') : Calls Try.prog 75 #[.bool neg, .agg #[.int .u64 0, .int .u64 q]] w R := by
  have HR := Lib.hid hR
  clear hR
  obtain ⟨h1, h2⟩ := hq
  cases neg with
  | true =>
    go_enter Try.func75, Try.ntmps75
    go_wp2
    exact ret_ib (HR.out _ ((Ch.refl _ _).alloc _)) (by rw [IntKind.wrap_u64]; simp only [if_true, reduceIte]; unfold wrap64; omega) rfl
  | false =>
    go_enter Try.func75, Try.ntmps75
    go_wp2
    exact ret_ib (HR.out _ ((Ch.refl _ _).alloc _)) (by rw [if_neg (by simp)]) rfl

theorem floor_neg (n b : Int) (hb : 0 < b) : (n % b = 0 → -(n / b) = (-n) / b) ∧ (n % b ≠ 0 → -(n / b + 1) = (-n) / b) := by
  have h1 := Int.mul_ediv_add_emod n b
  have h2 := Int.emod_nonneg n (show b ≠ 0 by omega)
  have h3 := Int.emod_lt_of_pos n hb
  refine ⟨fun h => ?_, fun h => ?_⟩
  · have := (Int.ediv_emod_unique (a := -n) (b := b) (r := 0) (q := -(n / b)) hb).2 ⟨by rw [Int.mul_neg]; omega, by omega, hb⟩
    exact this.1.symm
  · have := (Int.ediv_emod_unique (a := -n) (b := b) (r := b - n % b) (q := -(n / b + 1)) hb).2 ⟨by rw [Int.mul_neg, Int.mul_add]; omega, by omega, by omega⟩
    exact this.1.symm

set_option maxRecDepth 100000 in
theorem rFloor_any (a b : Int) (ha : -1073741824 ≤ a ∧ a ≤ 1073741824) (hb : 0 < b ∧ b ≤ 1000) (hR : ∀ w', Nw w w' → R (.returned (.tuple #[.int .i64 (a / b), .bool true])) w') : Calls Try.prog 72 #[.int .i64 a, .int .i64 b] w R := by
  have HR := Lib.hid hR
  have HA := Lib.hid ha
  clear hR
  obtain ⟨a1, a2⟩ := ha
  obtain ⟨b1, b2⟩ := hb
  have b3 : (b == 0) = false := beq_eq_false_iff_ne.2 (by omega)
  have b4 : decide (b < 0) = false := decide_eq_false (by omega)
  have eb : (b.natAbs : Int) = b := by omega
  have n1 : (0 : Int) ≤ (a.natAbs : Int) := by omega
  have n2 : (a.natAbs : Int) ≤ 1073741824 := by omega
  obtain ⟨n, hn⟩ : ∃ n : Int, n = (a.natAbs : Int) := ⟨_, rfl⟩
  rw [← hn] at n1 n2
  have HN := Lib.hid hn
  have EB := Lib.hid eb
  have q1 : 0 ≤ n / b := Int.ediv_nonneg n1 (by omega)
  have q2 : n / b ≤ 1073741824 := Int.le_trans (Int.ediv_le_self _ n1) n2
  clear hn eb
  by_cases h : a < 0
  · go_enter Try.func72, Try.ntmps72
    go_wp2_with (go_at_call 75; fail)
    refine rsize_any _ HA.out ?_
    rw [← HN.out]
    go_wp2_with (go_at_call 75; fail)
    refine rsize_any _ (by omega) ?_
    rw [EB.out]
    go_wp2_with (go_at_call 75; fail)
    refine rsize_any _ HA.out ?_
    rw [← HN.out]
    go_wp2_with (go_at_call 75; fail)
    refine rsize_any _ (by omega) ?_
    rw [EB.out]
    have m1 : 0 ≤ n % b := Int.emod_nonneg _ (by omega)
    by_cases hm : n % b = 0
    · have hm0 : (n % b != 0) = false := by simp [hm]
      have HM := Lib.hid hm
      clear hm
      go_wp2_with (go_at_call 75; fail)
      refine rwhole_any true (n / b) ⟨q1, by omega⟩ ?_
      intro w1 hn1
      go_wp2
      refine ret_ib (HR.out _ hn1) ?_ rfl
      have e := (floor_neg n b b1).1 HM.out
      have e2 : -n = a := by have := HN.out; omega
      rw [e2] at e
      simp [e]
    · have hm0 : (n % b != 0) = true := bne_iff_ne.2 hm
      have HM := Lib.hid hm
      clear hm
      go_wp2_with (go_at_call 75; fail)
      refine rwhole_any true (n / b + 1) ⟨by omega, by omega⟩ ?_
      intro w1 hn1
      go_wp2
      refine ret_ib (HR.out _ hn1) ?_ rfl
      have e := (floor_neg n b b1).2 HM.out
      have e2 : -n = a := by have := HN.out; omega
      rw [e2] at e
      simp [e]
  · have h0 : decide (a < 0) = false := decide_eq_false h
    go_enter Try.func72, Try.ntmps72
    go_wp2_with (go_at_call 75; fail)
    refine rsize_any _ HA.out ?_
    rw [← HN.out]
    go_wp2_with (go_at_call 75; fail)
    refine rsize_any _ (by omega) ?_
    rw [EB.out]
    go_wp2_with (go_at_call 75; fail)
    refine rwhole_any false (n / b) ⟨q1, by omega⟩ ?_
    intro w1 hn1
    go_wp2
    refine ret_ib (HR.out _ hn1) ?_ rfl
    have e2 : n = a := by have := HN.out; omega
    simp [e2]

set_option maxRecDepth 100000 in
theorem rhalf_any (a : Int) (ha : -1073741824 ≤ a ∧ a ≤ 1073741824) (hR : ∀ w', Nw w w' → R (.returned (.int .i64 (a / 2))) w') : Calls Try.prog 65 #[.int .i64 a] w R := by
  have HR := Lib.hid hR
  have HA := Lib.hid ha
  clear hR ha
  go_enter Try.func65, Try.ntmps65
  go_wp2_with (go_at_call 75; fail)
  refine rFloor_any a 2 HA.out (by omega) ?_
  intro w1 hn1
  go_wp2
  exact HR.out _ hn1

set_option maxRecDepth 100000 in
theorem rRound_any (a : Int) (ha : -1073741824 ≤ a ∧ a ≤ 1073741824) (hR : ∀ w', Nw w w' → R (.returned (.tuple #[.int .i64 (near a), .bool true])) w') : Calls Try.prog 73 #[.int .i64 a, .int .i64 64] w R := by
  have HR := Lib.hid hR
  have HA := Lib.hid ha
  clear hR
  obtain ⟨a1, a2⟩ := ha
  obtain ⟨q, hq⟩ : ∃ q : Int, q = a / 64 := ⟨_, rfl⟩
  have q1 : -16777216 ≤ q := by omega
  have q2 : q ≤ 16777216 := by omega
  have q3 : 0 ≤ a - q * 64 := by omega
  have q4 : a - q * 64 ≤ 63 := by omega
  have HQ := Lib.hid hq
  clear hq
  go_enter Try.func73, Try.ntmps73
  go_wp2_with (go_at_call 75; fail)
  refine rFloor_any a 64 HA.out (by omega) ?_
  intro w1 hn1
  rw [← HQ.out]
  go_wp2
  all_goals refine ret_ib (HR.out _ hn1) ?_ rfl
  all_goals have := HQ.out
  all_goals unfold near
  all_goals omega

set_option maxRecDepth 100000 in
theorem rgrid_any (a : Int) (ha : -1073741824 ≤ a ∧ a ≤ 1073741824) (hR : ∀ w', Nw w w' → R (.returned (.int .i64 (rnd64 a))) w') : Calls Try.prog 66 #[.int .i64 a] w R := by
  have HR := Lib.hid hR
  have HA := Lib.hid ha
  clear hR
  obtain ⟨n1, n2⟩ := near_le a ha
  clear ha
  go_enter Try.func66, Try.ntmps66
  go_wp2_with (go_at_call 75; fail)
  refine rRound_any a HA.out ?_
  intro w1 hn1
  go_wp2
  exact ret_i (HR.out _ hn1) (by unfold rnd64; rfl)

/-- Whether an operation has the right form, with room for a block. -/
def formB (c n m room : Int) : Bool :=
  if c < 1 ∨ 15 < c then false else if c = 15 then decide (1 ≤ n ∧ n ≤ 16 ∧ 1 ≤ m ∧ m ≤ room) else if c = 14 then decide (m = 0 ∧ 1 ≤ n ∧ n ≤ room) else decide (m = 0 ∧ (c = 1 ∨ isPt c = true ∨ n = 0))

set_option maxRecDepth 100000 in
theorem rform_any (c n m room : Int) (hR : ∀ w', Nw w w' → R (.returned (.bool (formB c n m room))) w') : Calls Try.prog 41 #[.agg #[.int .i64 c, .int .i64 n, .int .i64 m], .int .i64 room] w R := by
  have HR := Lib.hid hR
  clear hR
  by_cases h15 : c = 15
  · subst h15
    go_enter Try.func41, Try.ntmps41
    go_wp2
    all_goals refine ret_b (HR.out _ ((Ch.refl _ _).alloc _)) ?_
    all_goals unfold formB
    all_goals rw [if_neg (by omega), if_pos rfl]
    all_goals first | exact decide_eq_false (by omega) | exact decide_eq_decide.2 (by omega) | exact decide_eq_true (by omega)
  · by_cases h14 : c = 14
    · subst h14
      go_enter Try.func41, Try.ntmps41
      go_wp2
      all_goals refine ret_b (HR.out _ ((Ch.refl _ _).alloc _)) ?_
      all_goals unfold formB
      all_goals rw [if_neg (by omega), if_neg h15, if_pos rfl]
      all_goals first | exact decide_eq_false (by omega) | exact decide_eq_decide.2 (by omega) | exact decide_eq_true (by omega)
    · have b15 : (c == 15) = false := beq_eq_false_iff_ne.2 h15
      have b14 : (c == 14) = false := beq_eq_false_iff_ne.2 h14
      go_enter Try.func41, Try.ntmps41
      go_wp2_with (first | (go_at_call 43; refine rpoint_any _ ?_))
      all_goals refine ret_b (HR.out _ ((Ch.refl _ _).alloc _)) ?_
      all_goals unfold formB
      all_goals first | (rw [if_pos (by omega)]; done) | rw [if_neg (by omega), if_neg h15, if_neg h14]
      all_goals simp_all
      all_goals (by_cases h0 : n = 0 <;> simp [h0])
end
end Go.Proofs.Ytlgcijafjcfnhaa
