/-
  names: Script and Symbol; their reference; law12's cut.
-/
import Derived.Test.YtnibgjpbijlhbaaDoorNr
import Derived.Test.YtnibgjpbijlhbaaDoorShelf
import Derived.Test.YtnibgjpbijlhbaaDoorRegV
import Derived.Test.YtnibgjpbijlhbaaDoorWn
namespace Go.Proofs.YtnibgjpbijlhbaaDoor
open Go.RowKit
set_option linter.unusedVariables false
set_option linter.unusedSimpArgs false
set_option maxRecDepth 100000

theorem scr_cases (c : UInt8) : ∃ m : Int, (c.toNat : Int) = m ∧ 0 ≤ m ∧ m < 256 ∧
    ((97 ≤ m ∧ m ≤ 122 ∧ (scr c : Int) = 1 ∧ sym c = m - 97) ∨ (97 ≤ m ∧ ¬ m ≤ 122 ∧ 48 ≤ m ∧ ¬ m ≤ 57 ∧ ¬ m = 45 ∧ (scr c : Int) = 0 ∧ sym c = -1) ∨ (¬ 97 ≤ m ∧ 48 ≤ m ∧ m ≤ 57 ∧ (scr c : Int) = 2 ∧ sym c = m - 22) ∨ (¬ 97 ≤ m ∧ 48 ≤ m ∧ ¬ m ≤ 57 ∧ ¬ m = 45 ∧ (scr c : Int) = 0 ∧ sym c = -1) ∨
      (¬ 97 ≤ m ∧ ¬ 48 ≤ m ∧ m = 45 ∧ (scr c : Int) = 3 ∧ sym c = 36) ∨ (¬ 97 ≤ m ∧ ¬ 48 ≤ m ∧ ¬ m = 45 ∧ (scr c : Int) = 0 ∧ sym c = -1)) := by
  refine ⟨_, rfl, by omega, by have := UInt8.toNat_lt c; omega, ?_⟩
  unfold scr sym
  by_cases h1 : 97 ≤ c.toNat ∧ c.toNat ≤ 122
  · rw [if_pos h1, if_pos h1]; left; omega
  · rw [if_neg h1, if_neg h1]
    by_cases h2 : 48 ≤ c.toNat ∧ c.toNat ≤ 57
    · rw [if_pos h2, if_pos h2]; right; right; left; omega
    · rw [if_neg h2, if_neg h2]
      by_cases h3 : c.toNat = 45
      · rw [if_pos h3, if_pos h3]; omega
      · rw [if_neg h3, if_neg h3]; omega
theorem index_sym (c : UInt8) : Lib.indexByte [97, 98, 99, 100, 101, 102, 103, 104, 105, 106, 107, 108, 109, 110, 111, 112, 113, 114, 115, 116, 117, 118, 119, 120, 121, 122, 48, 49, 50, 51, 52, 53, 54, 55, 56, 57, 45] c = sym c := by
  have h : ∀ n : Fin 256, Lib.indexByte [97, 98, 99, 100, 101, 102, 103, 104, 105, 106, 107, 108, 109, 110, 111, 112, 113, 114, 115, 116, 117, 118, 119, 120, 121, 122, 48, 49, 50, 51, 52, 53, 54, 55, 56, 57, 45] (UInt8.ofNat n.val) = sym (UInt8.ofNat n.val) := by decide +kernel
  have := h ⟨c.toNat, UInt8.toNat_lt c⟩
  simpa using this

theorem script_any (c : UInt8) (w : World) (R : Ending → World → Prop) (hR : R (.returned (.int .i64 (scr c : Nat))) w) : Calls Tryd.prog 18 #[.int .u8 (c.toNat : Nat)] w R := by
  have HR := Lib.hid hR
  clear hR
  obtain ⟨m, hm, m0, m1, hc⟩ := scr_cases c
  rw [hm]
  clear hm
  go_enter Tryd.func18, Tryd.ntmps18
  rcases hc with ⟨h1, h2, e, es⟩ | ⟨h1, h2, h3, h4, h5, e, es⟩ | ⟨h1, h2, h3, e, es⟩ | ⟨h1, h2, h3, h4, e, es⟩ | ⟨h1, h2, h3, e, es⟩ | ⟨h1, h2, h3, e, es⟩
  all_goals
    have E := Lib.hid e
    clear e es
    (try subst h3)
    go_wp2
    exact ret_i HR.out (by rw [E.out])
theorem rscript_any (c : UInt8) (w : World) (R : Ending → World → Prop) (hR : R (.returned (.int .i64 (scr c : Nat))) w) : Calls Tryd.prog 19 #[.int .u8 (c.toNat : Nat)] w R := by
  have HR := Lib.hid hR
  clear hR
  obtain ⟨m, hm, m0, m1, hc⟩ := scr_cases c
  rw [hm]
  clear hm
  go_enter Tryd.func19, Tryd.ntmps19
  rcases hc with ⟨h1, h2, e, es⟩ | ⟨h1, h2, h3, h4, h5, e, es⟩ | ⟨h1, h2, h3, e, es⟩ | ⟨h1, h2, h3, h4, e, es⟩ | ⟨h1, h2, h3, e, es⟩ | ⟨h1, h2, h3, e, es⟩
  all_goals
    have E := Lib.hid e
    clear e es
    (try subst h3)
    go_wp2
    exact ret_i HR.out (by rw [E.out])
set_option maxHeartbeats 2000000 in
theorem symbol_any (c : UInt8) (w : World) (R : Ending → World → Prop) (hR : R (.returned (.int .i64 (sym c))) w) : Calls Tryd.prog 16 #[.int .u8 (c.toNat : Nat)] w R := by
  have HR := Lib.hid hR
  clear hR
  go_enter Tryd.func16, Tryd.ntmps16
  go_wp2_with (go_at_call 33; refine (Tryd.strings_IndexByte _ _ _).mono ?_; rintro e w' ⟨rfl, rfl⟩)
  rw [index_sym]
  exact HR.out
set_option maxHeartbeats 2000000 in
theorem rsymbol_any (c : UInt8) (w : World) (R : Ending → World → Prop) (hR : R (.returned (.int .i64 (sym c))) w) : Calls Tryd.prog 17 #[.int .u8 (c.toNat : Nat)] w R := by
  have HR := Lib.hid hR
  clear hR
  obtain ⟨m, rfl, m0, m1, hc⟩ := scr_cases c
  go_enter Tryd.func17, Tryd.ntmps17
  go_wp2_with (go_at_call 19; fail)
  refine rscript_any c _ _ ?_
  rcases hc with ⟨h1, h2, e, es⟩ | ⟨h1, h2, h3, h4, h5, e, es⟩ | ⟨h1, h2, h3, e, es⟩ | ⟨h1, h2, h3, h4, e, es⟩ | ⟨h1, h2, h3, e, es⟩ | ⟨h1, h2, h3, e, es⟩
  all_goals
    rw [e]
    have ES := Lib.hid es
    clear e es
    trace "A"
    go_wp2
    exact ret_i HR.out (by rw [ES.out]; try omega)
end Go.Proofs.YtnibgjpbijlhbaaDoor
