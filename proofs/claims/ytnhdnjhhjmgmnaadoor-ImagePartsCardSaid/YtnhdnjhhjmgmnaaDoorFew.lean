/-
  indeliblelaw22.few: the pixels stay in their block.
-/
import Derived.Test.YtnhdnjhhjmgmnaaDoorLwA
namespace Go.Proofs.YtnhdnjhhjmgmnaaDoor
open Go.RowKit
set_option linter.unusedVariables false
set_option linter.unusedSimpArgs false
set_option maxRecDepth 100000

theorem few_lo (lo : Nat) (v : Value) (x : Im) (w : World) (R : Ending → World → Prop) (h : IsIm w lo v x)
    (hR : ∀ w' v', IsIm w' lo v' (x.1, x.2.1, x.2.2.take 400) → Nw w w' → R (.returned v') w') : Calls Tryd.prog 9 #[v] w R := by
  have HR := Lib.hid hR
  clear hR
  obtain ⟨W, H, l⟩ := x
  obtain ⟨s, rfl, hi, hw, hh⟩ := h
  simp only at hw hh hi
  have HI := Lib.hid hi
  obtain ⟨A, cap, rfl, ⟨hlc, hl⟩, -⟩ := hi
  go_enter Tryd.func9, Tryd.ntmps9
  go_wp2
  obtain ⟨k, hk⟩ : ∃ k : Nat, (min (l.length : Int) 400).toNat = k := ⟨_, rfl⟩
  have hkl : k ≤ l.length := by omega
  have ht : l.take 400 = l.take k := by
    by_cases h4 : l.length ≤ 400
    · rw [List.take_of_length_le h4, List.take_of_length_le (by omega)]
    · rw [show k = 400 by omega]
  rw [hk]
  refine bodyPost_ret (v := .agg #[.int .i64 W, .int .i64 H, .slice A k cap]) (by simp [results, Tryd.results9, go_sem]) rfl ?_
  have n1 : Nw w ((w.alloc (.cells #[.int .i64 W, .int .i64 H, .slice A k cap] 25)).alloc (.cells #[.int .i64 W, .int .i64 H, .slice A k cap] 25)) := ((Ch.refl _ _).alloc _).alloc _
  refine HR.out _ _ ⟨_, rfl, ?_, hw, hh⟩ n1
  simp only
  rw [ht]
  exact isInts_take k hkl (HI.out.kept n1 nof)
end Go.Proofs.YtnhdnjhhjmgmnaaDoor
