/-
  The functions on numbers and points that the closures of the machine call; the length of a block.
-/
import Derived.Test.YtlgcijafjcfnhaaProg
import Derived.Test.YtlgcijafjcfnhaaLib
namespace Go.Proofs.Ytlgcijafjcfnhaa
open Go.RowKit

section
variable (w : World) (R : Ending → World → Prop)
theorem o1_any (a b : Int) (ha : -1073741824 ≤ a ∧ a ≤ 1073741824) (hb : -1073741824 ≤ b ∧ b ≤ 1073741824) (hR : R (.returned (.int .i64 (a + b))) w) : Calls Try.prog 49 #[.int .i64 a, .int .i64 b] w R := by
  obtain ⟨a1, a2⟩ := ha
  obtain ⟨b1, b2⟩ := hb
  go_enter Try.func49, Try.ntmps49
  go_wp2
  exact hR
theorem o2_any (a b : Int) (ha : -1073741824 ≤ a ∧ a ≤ 1073741824) (hb : -1073741824 ≤ b ∧ b ≤ 1073741824) (hR : R (.returned (.int .i64 (a - b))) w) : Calls Try.prog 50 #[.int .i64 a, .int .i64 b] w R := by
  obtain ⟨a1, a2⟩ := ha
  obtain ⟨b1, b2⟩ := hb
  go_enter Try.func50, Try.ntmps50
  go_wp2
  exact hR
theorem o3_any (a b : Int) (hR : R (.returned (.int .i64 (min a b))) w) : Calls Try.prog 51 #[.int .i64 a, .int .i64 b] w R := by
  rcases Int.lt_or_le a b with h | h
  · rw [Int.min_eq_left (by omega)] at hR
    go_enter Try.func51, Try.ntmps51
    go_wp2
    all_goals exact ret_i hR (by omega)
  · rw [Int.min_eq_right (by omega)] at hR
    go_enter Try.func51, Try.ntmps51
    go_wp2
    all_goals exact ret_i hR (by omega)
theorem o4_any (a b : Int) (hR : R (.returned (.int .i64 (max a b))) w) : Calls Try.prog 52 #[.int .i64 a, .int .i64 b] w R := by
  rcases Int.lt_or_le a b with h | h
  · rw [Int.max_eq_right (by omega)] at hR
    go_enter Try.func52, Try.ntmps52
    go_wp2
    all_goals exact ret_i hR (by omega)
  · rw [Int.max_eq_left (by omega)] at hR
    go_enter Try.func52, Try.ntmps52
    go_wp2
    all_goals exact ret_i hR (by omega)
theorem o5_any (a : Int) (ha : -1073741824 ≤ a ∧ a ≤ 1073741824) (hR : R (.returned (.int .i64 (-a))) w) : Calls Try.prog 54 #[.int .i64 a] w R := by
  obtain ⟨a1, a2⟩ := ha
  go_enter Try.func54, Try.ntmps54
  go_wp2
  exact hR
theorem o6_any (a : Int) (ha : -1073741824 ≤ a ∧ a ≤ 1073741824) (hR : R (.returned (.int .i64 (a / 2))) w) : Calls Try.prog 55 #[.int .i64 a] w R := by
  obtain ⟨a1, a2⟩ := ha
  go_enter Try.func55, Try.ntmps55
  go_wp2
  exact hR
theorem fx_any (pb po : Nat) (hR : R (.returned (.pointer (some ⟨pb, po + 0, none⟩))) w) : Calls Try.prog 59 #[.pointer (some ⟨pb, po, none⟩)] w R := by
  go_enter Try.func59, Try.ntmps59
  go_wp2
  exact hR
theorem fy_any (pb po : Nat) (hR : R (.returned (.pointer (some ⟨pb, po + 1, none⟩))) w) : Calls Try.prog 60 #[.pointer (some ⟨pb, po, none⟩)] w R := by
  go_enter Try.func60, Try.ntmps60
  go_wp2
  exact hR
/-- The nearest integer to a / 64. -/
def near (a : Int) : Int := (a + 32) / 64
theorem eround_any (a : Int) (ha : -1073741824 ≤ a ∧ a ≤ 1073741824) (hR : R (.returned (.tuple #[.int .i64 (near a), .bool true])) w) : Calls Try.prog 69 #[.int .i64 a, .int .i64 64] w R := by
  obtain ⟨a1, a2⟩ := ha
  obtain ⟨e1, e2, e3, e4, e5⟩ := tdiv_tmod a 64 (by omega)
  have E1 : Hid (a = 64 * a.tdiv 64 + a.tmod 64) := e1
  have q1 : -16777217 ≤ a.tdiv 64 := by omega
  have q2 : a.tdiv 64 ≤ 16777217 := by omega
  have E4 : Hid (0 ≤ a → 0 ≤ a.tmod 64) := e4
  have E5 : Hid (a ≤ 0 → a.tmod 64 ≤ 0) := e5
  clear e1 e4 e5
  go_enter Try.func69, Try.ntmps69
  go_wp2
  all_goals
    refine ret_ib hR ?_ rfl
    have e1 := E1.out
    have e4 := E4.out
    have e5 := E5.out
    unfold near
    omega
def rnd64 (a : Int) : Int := 64 * near a
theorem near_le (a : Int) (ha : -1073741824 ≤ a ∧ a ≤ 1073741824) : -16777216 ≤ near a ∧ near a ≤ 16777216 := by unfold near; omega
theorem rnd_any (a : Int) (ha : -1073741824 ≤ a ∧ a ≤ 1073741824) (hR : R (.returned (.int .i64 (rnd64 a))) w) : Calls Try.prog 56 #[.int .i64 a] w R := by
  obtain ⟨n1, n2⟩ := near_le a ha
  have Ha : Hid (-1073741824 ≤ a ∧ a ≤ 1073741824) := ha
  clear ha
  go_enter Try.func56, Try.ntmps56
  go_wp2_with (go_at_call 69; refine eround_any _ _ _ Ha.out ?_)
  exact ret_i hR (by unfold rnd64; rfl)
/-- The length of the block of an operation. -/
def blen (c n m : Int) : Int := if c = 14 then n else if c = 15 then m else 0
theorem length_any (c n m : Int) (hR : ∀ w', Nw w w' → R (.returned (.int .i64 (blen c n m))) w') : Calls Try.prog 36 #[.agg #[.int .i64 c, .int .i64 n, .int .i64 m]] w R := by
  by_cases h1 : c = 14
  · subst h1
    have HR := Lib.hid hR
    clear hR
    go_enter Try.func36, Try.ntmps36
    go_wp2
    exact HR.out _ ((Ch.refl _ _).alloc _)
  by_cases h2 : c = 15
  · subst h2
    have HR := Lib.hid hR
    clear hR
    go_enter Try.func36, Try.ntmps36
    go_wp2
    exact HR.out _ ((Ch.refl _ _).alloc _)
  · have b1 : (c == 14) = false := beq_eq_false_iff_ne.2 h1
    have b2 : (c == 15) = false := beq_eq_false_iff_ne.2 h2
    rw [show blen c n m = 0 from by unfold blen; rw [if_neg h1, if_neg h2]] at hR
    clear h1 h2
    have HR := Lib.hid hR
    clear hR
    go_enter Try.func36, Try.ntmps36
    go_wp2
    exact HR.out _ ((Ch.refl _ _).alloc _)
end
end Go.Proofs.Ytlgcijafjcfnhaa
