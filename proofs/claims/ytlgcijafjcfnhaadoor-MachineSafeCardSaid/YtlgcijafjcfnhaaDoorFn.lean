/-
  The functions on numbers and points that the closures of the machine call; the length of a block.
-/
import Derived.Test.YtlgcijafjcfnhaaDoorProg
import Derived.Test.YtlgcijafjcfnhaaDoorLib
namespace Go.Proofs.YtlgcijafjcfnhaaDoor
open Go.RowKit

section
variable (w : World) (R : Ending → World → Prop)
theorem o1_any (a b : Int) (ha : -1073741824 ≤ a ∧ a ≤ 1073741824) (hb : -1073741824 ≤ b ∧ b ≤ 1073741824) (hR : R (.returned (.int .i64 (a + b))) w) : Calls Tryd.prog 60 #[.int .i64 a, .int .i64 b] w R := by
  obtain ⟨a1, a2⟩ := ha
  obtain ⟨b1, b2⟩ := hb
  go_enter Tryd.func60, Tryd.ntmps60
  go_wp2
  exact hR
theorem o2_any (a b : Int) (ha : -1073741824 ≤ a ∧ a ≤ 1073741824) (hb : -1073741824 ≤ b ∧ b ≤ 1073741824) (hR : R (.returned (.int .i64 (a - b))) w) : Calls Tryd.prog 61 #[.int .i64 a, .int .i64 b] w R := by
  obtain ⟨a1, a2⟩ := ha
  obtain ⟨b1, b2⟩ := hb
  go_enter Tryd.func61, Tryd.ntmps61
  go_wp2
  exact hR
theorem o3_any (a b : Int) (hR : R (.returned (.int .i64 (min a b))) w) : Calls Tryd.prog 62 #[.int .i64 a, .int .i64 b] w R := by
  rcases Int.lt_or_le a b with h | h
  · rw [Int.min_eq_left (by omega)] at hR
    go_enter Tryd.func62, Tryd.ntmps62
    go_wp2
    all_goals exact ret_i hR (by omega)
  · rw [Int.min_eq_right (by omega)] at hR
    go_enter Tryd.func62, Tryd.ntmps62
    go_wp2
    all_goals exact ret_i hR (by omega)
theorem o4_any (a b : Int) (hR : R (.returned (.int .i64 (max a b))) w) : Calls Tryd.prog 63 #[.int .i64 a, .int .i64 b] w R := by
  rcases Int.lt_or_le a b with h | h
  · rw [Int.max_eq_right (by omega)] at hR
    go_enter Tryd.func63, Tryd.ntmps63
    go_wp2
    all_goals exact ret_i hR (by omega)
  · rw [Int.max_eq_left (by omega)] at hR
    go_enter Tryd.func63, Tryd.ntmps63
    go_wp2
    all_goals exact ret_i hR (by omega)
theorem o5_any (a : Int) (ha : -1073741824 ≤ a ∧ a ≤ 1073741824) (hR : R (.returned (.int .i64 (-a))) w) : Calls Tryd.prog 65 #[.int .i64 a] w R := by
  obtain ⟨a1, a2⟩ := ha
  go_enter Tryd.func65, Tryd.ntmps65
  go_wp2
  exact hR
theorem o6_any (a : Int) (ha : -1073741824 ≤ a ∧ a ≤ 1073741824) (hR : R (.returned (.int .i64 (a / 2))) w) : Calls Tryd.prog 66 #[.int .i64 a] w R := by
  obtain ⟨a1, a2⟩ := ha
  go_enter Tryd.func66, Tryd.ntmps66
  go_wp2
  exact hR
theorem fx_any (pb po : Nat) (hR : R (.returned (.pointer (some ⟨pb, po + 0, none⟩))) w) : Calls Tryd.prog 70 #[.pointer (some ⟨pb, po, none⟩)] w R := by
  go_enter Tryd.func70, Tryd.ntmps70
  go_wp2
  exact hR
theorem fy_any (pb po : Nat) (hR : R (.returned (.pointer (some ⟨pb, po + 1, none⟩))) w) : Calls Tryd.prog 71 #[.pointer (some ⟨pb, po, none⟩)] w R := by
  go_enter Tryd.func71, Tryd.ntmps71
  go_wp2
  exact hR
/-- The nearest integer to a / 64. -/
def near (a : Int) : Int := (a + 32) / 64
theorem eround_any (a : Int) (ha : -1073741824 ≤ a ∧ a ≤ 1073741824) (hR : R (.returned (.tuple #[.int .i64 (near a), .bool true])) w) : Calls Tryd.prog 78 #[.int .i64 a, .int .i64 64] w R := by
  obtain ⟨a1, a2⟩ := ha
  obtain ⟨e1, e2, e3, e4, e5⟩ := tdiv_tmod a 64 (by omega)
  have E1 : Hid (a = 64 * a.tdiv 64 + a.tmod 64) := e1
  have q1 : -16777217 ≤ a.tdiv 64 := by omega
  have q2 : a.tdiv 64 ≤ 16777217 := by omega
  have E4 : Hid (0 ≤ a → 0 ≤ a.tmod 64) := e4
  have E5 : Hid (a ≤ 0 → a.tmod 64 ≤ 0) := e5
  clear e1 e4 e5
  go_enter Tryd.func78, Tryd.ntmps78
  go_wp2
  all_goals
    refine ret_ib hR ?_ rfl
    have e1 := E1.out
    have e4 := E4.out
    have e5 := E5.out
    unfold near
    omega
def rnd64 (a : Int) : Int := 64 * near a
theorem near_le (a : Int) (ha : -1073741824 ≤ a ∧ a ≤ 1073741824) : -16777216 ≤ near a ∧ near a ≤ 16777216 := by unfold near; omega
theorem rnd_any (a : Int) (ha : -1073741824 ≤ a ∧ a ≤ 1073741824) (hR : R (.returned (.int .i64 (rnd64 a))) w) : Calls Tryd.prog 67 #[.int .i64 a] w R := by
  obtain ⟨n1, n2⟩ := near_le a ha
  have Ha : Hid (-1073741824 ≤ a ∧ a ≤ 1073741824) := ha
  clear ha
  go_enter Tryd.func67, Tryd.ntmps67
  go_wp2_with (go_at_call 78; refine eround_any _ _ _ Ha.out ?_)
  exact ret_i hR (by unfold rnd64; rfl)
/-- The length of the block of an operation. -/
def blen (c n m : Int) : Int := if c = 14 then n else if c = 15 then m else 0
theorem length_any (c n m : Int) (hR : ∀ w', Nw w w' → R (.returned (.int .i64 (blen c n m))) w') : Calls Tryd.prog 39 #[.agg #[.int .i64 c, .int .i64 n, .int .i64 m]] w R := by
  by_cases h1 : c = 14
  · subst h1
    have HR := Lib.hid hR
    clear hR
    go_enter Tryd.func39, Tryd.ntmps39
    go_wp2
    exact HR.out _ ((Ch.refl _ _).alloc _)
  by_cases h2 : c = 15
  · subst h2
    have HR := Lib.hid hR
    clear hR
    go_enter Tryd.func39, Tryd.ntmps39
    go_wp2
    exact HR.out _ ((Ch.refl _ _).alloc _)
  · have b1 : (c == 14) = false := beq_eq_false_iff_ne.2 h1
    have b2 : (c == 15) = false := beq_eq_false_iff_ne.2 h2
    rw [show blen c n m = 0 from by unfold blen; rw [if_neg h1, if_neg h2]] at hR
    clear h1 h2
    have HR := Lib.hid hR
    clear hR
    go_enter Tryd.func39, Tryd.ntmps39
    go_wp2
    exact HR.out _ ((Ch.refl _ _).alloc _)
end
end Go.Proofs.YtlgcijafjcfnhaaDoor
