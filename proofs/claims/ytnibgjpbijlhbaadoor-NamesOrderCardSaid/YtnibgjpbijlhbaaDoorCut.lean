/-
  law12.cut: at most 16 bytes of a string.
-/
import Derived.Test.YtnibgjpbijlhbaaDoorPc
import Derived.Laws.Cover1
namespace Go.Proofs.YtnibgjpbijlhbaaDoor
open Go.RowKit Go.Shelf
set_option linter.unusedVariables false
set_option linter.unusedSimpArgs false
set_option maxRecDepth 100000

theorem cut_any (s : ByteArray) (w : World) (R : Ending → World → Prop) (hR : R (.returned (.string ⟨(s.data.toList.take 16).toArray⟩)) w) : Calls Tryd.prog 27 #[.string s] w R := by
  have HR := Lib.hid hR
  clear hR
  obtain ⟨m, hm⟩ : ∃ m : Nat, min s.size 16 = m := ⟨_, rfl⟩
  have em : (if (16 : Int) < (s.size : Int) then (16 : Int) else (s.size : Int)) = (m : Int) := by split <;> omega
  have m0 : (0 : Int) ≤ (m : Int) := by omega
  have m1 : (m : Int) ≤ (s.size : Int) := by omega
  have E := Lib.hid (show s.extract 0 m = ⟨(s.data.toList.take 16).toArray⟩ from by
    rw [extract_sub, ← hm]
    unfold sub
    congr 2
    rw [List.drop_zero, Nat.sub_zero]
    rcases Nat.le_total s.size 16 with h | h
    · rw [Nat.min_eq_left h, List.take_of_length_le (by rw [ba_len]; omega), List.take_of_length_le (by rw [ba_len]; omega)]
    · rw [Nat.min_eq_right h])
  have HMM := Lib.hid hm
  clear hm
  go_enter Tryd.func27, Tryd.ntmps27
  go_wp2
  rw [show (min (s.size : Int) 16).toNat = m from by have := HMM.out; omega, E.out]
  exact HR.out

end Go.Proofs.YtnibgjpbijlhbaaDoor
