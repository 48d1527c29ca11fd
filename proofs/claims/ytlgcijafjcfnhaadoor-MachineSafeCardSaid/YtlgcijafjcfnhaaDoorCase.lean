/-
  indeliblelaw09.Case: the made outline and the made program of a case.
-/
import Derived.Test.YtlgcijafjcfnhaaDoorRoundsP
import Derived.Test.YtlgcijafjcfnhaaDoorMade9
import Derived.Deep.RegionHeld3
import Derived.BigGuardPart
namespace Go.Proofs.YtlgcijafjcfnhaaDoor
open Go.RowKit
set_option linter.unusedVariables false
set_option linter.unusedSimpArgs false

/-- The numbers of a case. -/
abbrev CaseD := List (List Int) × List Int × Int × Int × Int
def IsCase (w : World) (lo : Nat) (v : Value) (c : CaseD) : Prop :=
  ∃ vo vp, v = .agg #[vo, vp, .int .i64 c.2.2.1, .int .i64 c.2.2.2.1, .int .i64 c.2.2.2.2] ∧ IsIntss w lo vo c.1 ∧ IsInts w lo vp c.2.1 ∧ wfI c.2.2.1 ∧ wfI c.2.2.2.1 ∧ wfI c.2.2.2.2
theorem IsCase.kept {w w' : World} {lo : Nat} {v : Value} {c : CaseD} {F : Nat → Prop} (h : IsCase w lo v c) (hc : Ch F w w') (hF : ∀ k, k < lo → ¬ F k) : IsCase w' lo v c := by
  obtain ⟨vo, vp, e, h1, h2, h3⟩ := h
  exact ⟨vo, vp, e, h1.kept hc hF, h2.kept hc hF, h3⟩
/-- Its outline. -/
def outC (c : CaseD) : List (List Pt) := scO 12 (madeO c.1)
theorem outC_len (c : CaseD) : (outC c).flatten.length ≤ 128 := by
  have h := sc_made c.1 12 (by omega)
  have h1 := flat_le (o := outC c) (fun d hd => by have := (h.2 d hd).1; omega)
  have h2 : (outC c).length ≤ 2 := h.1
  omega

set_option maxRecDepth 100000 in
set_option maxHeartbeats 4000000 in
theorem made_any (lo : Nat) (v : Value) (c : CaseD) (w : World) (R : Ending → World → Prop) (hlo : lo ≤ w.heap.size) (hc : IsCase w lo v c)
    (hR : ∀ w' vo vp p m, m ≤ 3 → IsMade (outC c).flatten.length m p → IsOut w' w'.heap.size vo (outC c) → OwnOps w' w.heap.size vp p → Nw w w' → R (.returned (.tuple #[vo, vp])) w') : Calls Tryd.prog 5 #[v] w R := by
  have HR := Lib.hid hR
  clear hR
  obtain ⟨vo, vp, rfl, ho, hp, -⟩ := hc
  have HO := Lib.hid ho
  have HP := Lib.hid hp
  clear ho
  obtain ⟨Ap, capp, rfl, -, -⟩ := hp
  go_enter Tryd.func5, Tryd.ntmps5
  go_wp2_with (go_at_call 15; fail)
  have NA := Lib.hid (show Nw w (w.alloc (.cells #[vo, .slice Ap c.2.1.length capp, .int .i64 c.2.2.1, .int .i64 c.2.2.2.1, .int .i64 c.2.2.2.2] 26)) from (Ch.refl _ _).alloc _)
  refine Made6_any lo _ c.1 _ _ (HO.out.kept NA.out nof) (by have := NA.out.size; omega) ?_
  intro w1 vm bs1 hcm hn
  have IM := Lib.hid (made_isOut hcm)
  have N1 := Lib.hid (NA.out.trans hn)
  have cp : w1.cell? ⟨w.heap.size, 1, none⟩ = some (.slice Ap c.2.1.length capp) := hn.cell (cell_alloc_new rfl rfl) id
  clear hn hcm
  have lw : w.heap.size < w1.heap.size := World.block_lt_of_cell? w1 ⟨_, _, none⟩ cp
  go_wp2_with (go_at_call 15; fail)
  refine Scale_any w1.heap.size _ (madeO c.1) 12 _ _ IM.out (Nat.le_refl _) (by omega) (made_wf c.1) ?_
  intro w2 vo2 bs2 hco hn
  have N2 := Lib.hid (N1.out.trans hn)
  have HOC := Lib.hid (show IsOut w2 w2.heap.size vo2 (outC c) from sc_isOut (by omega) hco)
  have cp2 : w2.cell? ⟨w.heap.size, 1, none⟩ = some (.slice Ap c.2.1.length capp) := hn.cell cp id
  clear hn hco cp
  have HP2 := Lib.hid (HP.out.kept N2.out nof)
  have hob := outC_len c
  generalize outC c = o at HR HOC hob
  obtain ⟨np, hnp⟩ : ∃ np : Nat, np = o.flatten.length := ⟨_, rfl⟩
  rw [← hnp] at hob HR
  have HNP := Lib.hid hnp
  have hcount : ∀ (w : World) (R : Ending → World → Prop), IsOut w w2.heap.size vo2 o → R (.returned (.int .i64 np)) w → Calls Tryd.prog 17 #[vo2] w R := fun w R h1 h2 => Count_any w2.heap.size _ o w R h1 (by rw [← HNP.out]; exact h2)
  have HCT := Lib.hid hcount
  clear hnp hcount
  go_wp2_with fail
  go_region_held3 (fun w' => w'.cell? ⟨w.heap.size, 1, none⟩ = some (.slice Ap c.2.1.length capp)) (first | (exact cp2) | (exact hn3.cell cp2 id)) (first | (go_at_call 17; refine HCT.out _ _ (by exact HOC.out) ?_) | (go_at_call 16; refine Made9_any lo _ c.2.1 np _ _ (by have := N2.out.size; simp only [heap_drew]; omega) (by exact HP2.out) (by omega) ?_; intro w3 p vp m hm hmade hown hn3))
  go_wp2
  have hn4 := hn3.undrew
  exact HR.out _ _ _ p m hm hmade ((HOC.out.kept hn4 nof).hi hn4.size) (hown.lo N2.out.size) (N2.out.trans hn4)
theorem case_alloc {w w1 : World} {lo : Nat} {vo vp : Value} {a b c : Int} (hn : Nw (w.alloc (.cells #[vo, vp, .int .i64 a, .int .i64 b, .int .i64 c] 26)) w1) :
    w1.cell? ⟨w.heap.size, 0, none⟩ = some vo ∧ w1.cell? ⟨w.heap.size, 1, none⟩ = some vp ∧ w1.cell? ⟨w.heap.size, 2, none⟩ = some (.int .i64 a) ∧ w1.cell? ⟨w.heap.size, 3, none⟩ = some (.int .i64 b) ∧ w1.cell? ⟨w.heap.size, 4, none⟩ = some (.int .i64 c) :=
  ⟨hn.cell (cell_alloc_new rfl rfl) id, hn.cell (cell_alloc_new rfl rfl) id, hn.cell (cell_alloc_new rfl rfl) id, hn.cell (cell_alloc_new rfl rfl) id, hn.cell (cell_alloc_new rfl rfl) id⟩
end Go.Proofs.YtlgcijafjcfnhaaDoor
