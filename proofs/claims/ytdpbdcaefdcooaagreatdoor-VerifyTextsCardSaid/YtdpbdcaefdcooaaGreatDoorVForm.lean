/-
  verify.formed, verify.point: the form of an operation, by the table of the kinds.
-/
import Derived.Test.YtdpbdcaefdcooaaGreatDoorProg
import Derived.Test.YtdpbdcaefdcooaaGreatDoorLib
import Derived.Test.YtdpbdcaefdcooaaGreatDoorVm
import Derived.BigQuiet
import Derived.Deep.QuietTactic
namespace Go.Proofs.YtdpbdcaefdcooaaGreatDoor
open Go.RowKit
set_option linter.unusedVariables false
set_option linter.unusedSimpArgs false

def kN (c : Nat) : Bool := decide (c = 1 ∨ 10 ≤ c)
def kM (c : Nat) : Bool := decide (c = 15)
/-- The table of the kinds is as the program's text lays it. -/
def KindsOk (w : World) : Prop := ∀ c : Nat, 1 ≤ c → c ≤ 15 → ∃ s, w.cell? ⟨0, c * 5, none⟩ = some (.string s) ∧ w.cell? ⟨0, c * 5 + 1, none⟩ = some (.bool (kN c)) ∧ w.cell? ⟨0, c * 5 + 2, none⟩ = some (.bool (kM c)) ∧
  w.cell? ⟨0, c * 5 + 3, none⟩ = some (.int .i64 (vtakes c)) ∧ w.cell? ⟨0, c * 5 + 4, none⟩ = some (.int .i64 (vputs c))
theorem KindsOk.kept {w w' : World} {F : Nat → Prop} (h : KindsOk w) (hc : Ch F w w') (hF : ¬ F 0) : KindsOk w' := fun c h1 h2 => by
  obtain ⟨s, a, b, d, e, f⟩ := h c h1 h2
  exact ⟨s, hc.cell a hF, hc.cell b hF, hc.cell d hF, hc.cell e hF, hc.cell f hF⟩

set_option maxRecDepth 100000 in
set_option maxHeartbeats 4000000 in
theorem formed_any (c n m : Int) (w : World) (R : Ending → World → Prop) (hk : KindsOk w) (hR : ∀ w', Nw w w' → R (.returned (.bool (decide (vform c n m)))) w') :
    Calls Tryz.prog 26 #[.agg #[.int .i64 c, .int .i64 n, .int .i64 m]] w R := by
  have HR := Lib.hid hR
  clear hR
  by_cases h0 : c < 1
  · have e : decide (vform c n m) = false := by unfold vform; exact decide_eq_false (by omega)
    have E := Lib.hid e
    clear e
    go_enter Tryz.func26, Tryz.ntmps26
    go_wp2
    exact ret_b (HR.out _ ((Ch.refl _ _).alloc _)) E.out
  · by_cases h1 : 15 < c
    · have e : decide (vform c n m) = false := by unfold vform; exact decide_eq_false (by omega)
      have E := Lib.hid e
      clear e
      go_enter Tryz.func26, Tryz.ntmps26
      go_wp2
      exact ret_b (HR.out _ ((Ch.refl _ _).alloc _)) E.out
    · obtain ⟨k, rfl⟩ : ∃ k : Nat, c = k := ⟨c.toNat, by omega⟩
      obtain ⟨s, a, b, d, e, f⟩ := hk k (by omega) (by omega)
      have h2 : (0 : Int) ≤ (k : Int) := by omega
      have h3 : (k : Int) < 16 := by omega
      have hz : 0 < w.heap.size := World.block_lt_of_cell? w _ a
      have E := Lib.hid (show decide (vform (k : Int) n m) = ((kN k || decide (n = 0)) && (kM k || decide (m = 0))) from by
        unfold kN kM
        rw [Bool.eq_iff_iff]
        simp only [Bool.and_eq_true, Bool.or_eq_true, decide_eq_true_eq]
        unfold vform
        constructor
        · rintro ⟨a, b, c⟩
          exact ⟨by omega, by omega⟩
        · rintro ⟨b, c⟩
          exact ⟨by omega, by omega, by omega⟩)
      have h4 : 1 ≤ (k : Int) := by omega
      have h5 : (k : Int) ≤ 15 := by omega
      clear h0 h1 hk
      cases hN : kN k <;> cases hM : kM k <;> rw [hN] at b <;> rw [hM] at d <;> by_cases hn : n = 0 <;> by_cases hm : m = 0
      all_goals
        have EN := Lib.hid hN
        have EM := Lib.hid hM
        have Hn := Lib.hid hn
        have Hm := Lib.hid hm
        first | (have tn : (n == 0) = true := by simp [hn]) | (have tn : (n == 0) = false := by simp [hn])
        first | (have tm : (m == 0) = true := by simp [hm]) | (have tm : (m == 0) = false := by simp [hm])
        clear hN hM hn hm
        go_enter Tryz.func26, Tryz.ntmps26
        go_wp2
        exact ret_b (HR.out _ (((Ch.refl _ _).alloc _).alloc _)) (by rw [E.out, EN.out, EM.out]; simp [Hn.out, Hm.out])

set_option maxRecDepth 100000 in
theorem point_any (c n m : Int) (w : World) (R : Ending → World → Prop) (hR : ∀ w', Nw w w' → R (.returned (.bool (decide (10 ≤ c ∧ c ≤ 13)))) w') :
    Calls Tryz.prog 39 #[.agg #[.int .i64 c, .int .i64 n, .int .i64 m]] w R := by
  have HR := Lib.hid hR
  clear hR
  obtain h | ⟨h0, h1⟩ | ⟨h0, h1⟩ : c < 10 ∨ (10 ≤ c ∧ c ≤ 13) ∨ (10 ≤ c ∧ 13 < c) := by omega
  all_goals
    have E := Lib.hid HR
    go_enter Tryz.func39, Tryz.ntmps39
    go_wp2
    exact ret_b (HR.out _ ((Ch.refl _ _).alloc _)) (by simp; omega)
end Go.Proofs.YtdpbdcaefdcooaaGreatDoor
