/-
  indeliblelaw22.sanity: the chapter's examples hold.
-/
import Derived.Test.YtnhdnjhhjmgmnaaDoorLwA
import Derived.Test.YtnhdnjhhjmgmnaaDoorBm4
import Derived.Test.YtnhdnjhhjmgmnaaDoorImZ
import Derived.Test.YtnhdnjhhjmgmnaaDoorImI
import Derived.Test.YtnhdnjhhjmgmnaaDoorImK
import Derived.Test.YtnhdnjhhjmgmnaaDoorRegT
namespace Go.Proofs.YtnhdnjhhjmgmnaaDoor
open Go.RowKit
set_option linter.unusedVariables false
set_option linter.unusedSimpArgs false
set_option maxRecDepth 100000

theorem Calls_nm {P : Program} {f : FuncId} {args : Array Value} {w : World} {R : Ending → World → Prop} (h : ∀ W, W = w → Calls P f args W R) : Calls P f args w R := h _ rfl
def b0 : Bm := (2, 1, [true, false])
def pxX : List Int := (putM b0 1 0).1.2.2
def pxY : List Int := (putM b0 0 (-2)).1.2.2
theorem e_put1 : putM b0 1 0 = ((6, 5, pxX), 0) := by kernel_rfl
theorem e_put2 : putM b0 3 0 = (zeroI, 3) := by kernel_rfl
theorem e_put3 : putM b0 0 (-2) = ((6, 5, pxY), 0) := by kernel_rfl
theorem e_text : textM (6, 5, pxX) = [46, 46, 46, 46, 46, 46, 10, 46, 46, 46, 46, 46, 46, 10, 46, 46, 46, 35, 46, 46, 10, 46, 46, 46, 46, 46, 46, 10, 46, 46, 46, 46, 46, 46, 10] := by kernel_rfl
theorem e_known : knownM (6, 5, pxX) = 30 := by kernel_rfl
theorem e_fits : fitsM (6, 5, pxX) b0 0 3 = (0, 0, false) := by kernel_rfl
theorem e_one1 : fitsB (6, 5, pxX) b0 1 0 0 0 = true := by kernel_rfl
theorem e_one2 : fitsB (6, 5, pxX) b0 0 0 1 1 = true := by kernel_rfl
def pxV : List Int := hideL 6 2 4 pxX
theorem e_hide3 : hideM (6, 5, pxX) 2 4 = (6, 5, pxV) := by kernel_rfl
theorem e_hide2 : hideM (6, 5, pxX) 2 2 = (6, 5, pxX) := by kernel_rfl
theorem e_two2 : fitsB (6, 5, pxV) b0 0 0 0 0 = true := by kernel_rfl
def pxH : List Int := hideL 6 3 4 pxX
theorem e_hide1 : hideM (6, 5, pxX) 3 4 = (6, 5, pxH) := by kernel_rfl
theorem e_known2 : knownM (6, 5, pxH) = 25 := by kernel_rfl
theorem e_two1 : fitsB (6, 5, pxH) b0 0 0 1 0 = true := by kernel_rfl
theorem e_check1 : imE (1, 1, [3]) = 50 := by kernel_rfl
theorem e_check2 : imE (101, 0, []) = 50 := by kernel_rfl
theorem e_check3 : imE (6, 5, pxX) = 0 := by kernel_rfl
theorem e_parse1 : parseM (⟨#[35, 63, 10, 46, 46, 10]⟩ : ByteArray).data.toList = ((2, 2, [0, 0, 1, 2]), true) := by kernel_rfl
theorem e_parse2 : parseM (⟨#[35, 120, 10]⟩ : ByteArray).data.toList = (zeroI, false) := by kernel_rfl
theorem isIm_formN {w : World} {lo : Nat} {v : Value} {x : Im} {W H : Int} {n : Nat} (h : IsIm w lo v x) (h1 : x.1 = W) (h2 : x.2.1 = H) (hn : x.2.2.length = n) : ∃ A cap, v = .agg #[.int .i64 W, .int .i64 H, .slice A n cap] ∧ IsIm w lo (.agg #[.int .i64 W, .int .i64 H, .slice A n cap]) x := by
  subst h1 h2 hn
  have h0 := h
  obtain ⟨A, cap, rfl, -⟩ := isIm_form h
  exact ⟨A, cap, rfl, h0⟩
theorem isIm_cell {w : World} {lo : Nat} {x : Im} {a b : Value} {A : Option Addr} {n cap i : Nat} {p : Int} (h : IsIm w lo (.agg #[a, b, .slice A n cap]) x) (hi : x.2.2[i]? = some p) : ∃ pk po, A = some ⟨pk, po, none⟩ ∧ w.cell? ⟨pk, po + i, none⟩ = some (.int .i64 p) := by
  obtain ⟨s, e, ⟨A', c', e2, -, h3⟩, -⟩ := h
  simp at e
  obtain ⟨-, -, rfl⟩ := e
  injection e2 with e2
  subst e2
  obtain ⟨-, pk, po, -, e4, e5⟩ := h3 i p hi
  exact ⟨pk, po, e4, e5⟩
theorem isIm_cell' {w : World} {lo : Nat} {x : Im} {a b : Value} {pk po : Nat} {n cap i : Nat} {p : Int} (h : IsIm w lo (.agg #[a, b, .slice (some ⟨pk, po, none⟩) n cap]) x) (hi : x.2.2[i]? = some p) : w.cell? ⟨pk, po + i, none⟩ = some (.int .i64 p) := by
  obtain ⟨pk', po', e, h1⟩ := isIm_cell h hi
  injection e with e
  injection e with e1 e2
  subst e1 e2
  exact h1
set_option maxHeartbeats 8000000 in
theorem sanity_any (w : World) (R : Ending → World → Prop) (hrn : RunesOk w) (hmx : MaxOk w) (hR : ∀ w', Nw w w' → R (.returned (.bool true)) w') : Calls Tryd.prog 8 #[] w R := by
  have HR := Lib.hid hR
  clear hR
  have NX := Lib.hid (Ch.refl (fun _ => False) w)
  have RN := Lib.hid hrn
  have MX := Lib.hid hmx
  clear hrn hmx
  go_enter Tryd.func8, Tryd.ntmps8
  go_wp2_with (go_at_call 15; fail)
  refine Calls_nm ?_
  intro W1 hW
  have n : Nw w W1 := by rw [hW]; exact ((Ch.refl _ _).alloc _).alloc _
  have NX := Lib.hid (NX.out.trans n)
  have RN := Lib.hid (RN.out.kept n id)
  have MX := Lib.hid (MX.out.kept n id)
  have HBB := Lib.hid (show W1.heap[w.heap.size + 1]? = some (.cells #[.int .i64 2, .int .i64 1, .slice (some ⟨w.heap.size, 0, none⟩) 2 2] 31 (0, 0)) from by rw [hW]; exact heap_alloc_eq _ (by simp only [alloc_size]))
  have HBM := Lib.hid (show IsBm W1 W1.heap.size (.agg #[.int .i64 2, .int .i64 1, .slice (some ⟨w.heap.size, 0, none⟩) 2 2]) b0 from by rw [hW]; exact ⟨_, rfl, isBools_block (l := [true, false]) (heap_alloc_old' _ (heap_alloc_eq _ rfl)) (by simp only [alloc_size]; omega) (by decide), by unfold wfI; decide, by unfold wfI; decide⟩)
  clear hW n
  refine imPut_any W1.heap.size _ b0 (1) (0) _ _ HBM.out (by unfold wfI; decide) (by unfold wfI; decide) ?_
  rw [e_put1]
  intro w2 v hi n
  have NX := Lib.hid (NX.out.trans n)
  have RN := Lib.hid (RN.out.kept n id)
  have MX := Lib.hid (MX.out.kept n id)
  have HBB := Lib.hid (n.heap HBB.out id)
  have HBM := Lib.hid ((HBM.out.kept n nof).hi n.size)
  obtain ⟨AX, cX, rfl, hI⟩ := isIm_formN (W := 6) (H := 5) (n := 30) hi rfl rfl rfl
  have HIX := Lib.hid (show IsIm w2 w2.heap.size (.agg #[.int .i64 6, .int .i64 5, .slice AX 30 cX]) (6, 5, pxX) from hI)
  clear hi hI n
  have kHBB0 : w2.cell? ⟨w.heap.size + 1, 0, none⟩ = some (.int .i64 2) := by rw [cell_of HBB.out]; rfl
  have jHBB0 : ∀ o, (w2.alloc o).cell? ⟨w.heap.size + 1, 0, none⟩ = some (.int .i64 2) := fun o => cell_alloc_old o kHBB0
  have kHBB1 : w2.cell? ⟨w.heap.size + 1, 1, none⟩ = some (.int .i64 1) := by rw [cell_of HBB.out]; rfl
  have jHBB1 : ∀ o, (w2.alloc o).cell? ⟨w.heap.size + 1, 1, none⟩ = some (.int .i64 1) := fun o => cell_alloc_old o kHBB1
  have kHBB2 : w2.cell? ⟨w.heap.size + 1, 2, none⟩ = some (.slice (some ⟨w.heap.size, 0, none⟩) 2 2) := by rw [cell_of HBB.out]; rfl
  have jHBB2 : ∀ o, (w2.alloc o).cell? ⟨w.heap.size + 1, 2, none⟩ = some (.slice (some ⟨w.heap.size, 0, none⟩) 2 2) := fun o => cell_alloc_old o kHBB2
  go_wp2_with (go_at_call 15; fail)
  clear kHBB0 jHBB0 kHBB1 jHBB1 kHBB2 jHBB2
  refine Calls_nm ?_
  intro W3 hW
  have n : Nw w2 W3 := by rw [hW]; exact (Ch.refl _ _).alloc _
  have NX := Lib.hid (NX.out.trans n)
  have RN := Lib.hid (RN.out.kept n id)
  have MX := Lib.hid (MX.out.kept n id)
  have HBB := Lib.hid (n.heap HBB.out id)
  have HBM := Lib.hid ((HBM.out.kept n nof).hi n.size)
  have HIX := Lib.hid ((HIX.out.kept n nof).hi n.size)
  have HBX := Lib.hid (show W3.heap[w2.heap.size]? = some (.cells #[.int .i64 6, .int .i64 5, .slice AX 30 cX] 25 (0, 0)) from by rw [hW]; exact heap_alloc_eq _ rfl)
  clear hW n
  refine imPut_any W3.heap.size _ b0 (3) (0) _ _ HBM.out (by unfold wfI; decide) (by unfold wfI; decide) ?_
  rw [e_put2]
  intro w4 v hi n
  have NX := Lib.hid (NX.out.trans n)
  have RN := Lib.hid (RN.out.kept n id)
  have MX := Lib.hid (MX.out.kept n id)
  have HBB := Lib.hid (n.heap HBB.out id)
  have HBM := Lib.hid ((HBM.out.kept n nof).hi n.size)
  have HIX := Lib.hid ((HIX.out.kept n nof).hi n.size)
  have HBX := Lib.hid (n.heap HBX.out id)
  obtain ⟨AZ, cZ, rfl, hI⟩ := isIm_formN (W := 0) (H := 0) (n := 0) hi rfl rfl rfl
  have HIZ := Lib.hid (show IsIm w4 w4.heap.size (.agg #[.int .i64 0, .int .i64 0, .slice AZ 0 cZ]) zeroI from hI)
  clear hi hI n
  have kHBB0 : w4.cell? ⟨w.heap.size + 1, 0, none⟩ = some (.int .i64 2) := by rw [cell_of HBB.out]; rfl
  have jHBB0 : ∀ o, (w4.alloc o).cell? ⟨w.heap.size + 1, 0, none⟩ = some (.int .i64 2) := fun o => cell_alloc_old o kHBB0
  have kHBB1 : w4.cell? ⟨w.heap.size + 1, 1, none⟩ = some (.int .i64 1) := by rw [cell_of HBB.out]; rfl
  have jHBB1 : ∀ o, (w4.alloc o).cell? ⟨w.heap.size + 1, 1, none⟩ = some (.int .i64 1) := fun o => cell_alloc_old o kHBB1
  have kHBB2 : w4.cell? ⟨w.heap.size + 1, 2, none⟩ = some (.slice (some ⟨w.heap.size, 0, none⟩) 2 2) := by rw [cell_of HBB.out]; rfl
  have jHBB2 : ∀ o, (w4.alloc o).cell? ⟨w.heap.size + 1, 2, none⟩ = some (.slice (some ⟨w.heap.size, 0, none⟩) 2 2) := fun o => cell_alloc_old o kHBB2
  go_wp2_with (go_at_call 15; fail)
  clear kHBB0 jHBB0 kHBB1 jHBB1 kHBB2 jHBB2
  refine Calls_nm ?_
  intro W5 hW
  have n : Nw w4 W5 := by rw [hW]; exact (Ch.refl _ _).alloc _
  have NX := Lib.hid (NX.out.trans n)
  have RN := Lib.hid (RN.out.kept n id)
  have MX := Lib.hid (MX.out.kept n id)
  have HBB := Lib.hid (n.heap HBB.out id)
  have HBM := Lib.hid ((HBM.out.kept n nof).hi n.size)
  have HIX := Lib.hid ((HIX.out.kept n nof).hi n.size)
  have HBX := Lib.hid (n.heap HBX.out id)
  have HIZ := Lib.hid ((HIZ.out.kept n nof).hi n.size)
  clear hW n
  refine imPut_any W5.heap.size _ b0 (0) (-2) _ _ HBM.out (by unfold wfI; decide) (by unfold wfI; decide) ?_
  rw [e_put3]
  intro w6 v hi n
  have NX := Lib.hid (NX.out.trans n)
  have RN := Lib.hid (RN.out.kept n id)
  have MX := Lib.hid (MX.out.kept n id)
  have HBB := Lib.hid (n.heap HBB.out id)
  have HBM := Lib.hid ((HBM.out.kept n nof).hi n.size)
  have HIX := Lib.hid ((HIX.out.kept n nof).hi n.size)
  have HBX := Lib.hid (n.heap HBX.out id)
  have HIZ := Lib.hid ((HIZ.out.kept n nof).hi n.size)
  obtain ⟨AY, cY, rfl, hI⟩ := isIm_formN (W := 6) (H := 5) (n := 30) hi rfl rfl rfl
  have HIY := Lib.hid (show IsIm w6 w6.heap.size (.agg #[.int .i64 6, .int .i64 5, .slice AY 30 cY]) (6, 5, pxY) from hI)
  clear hi hI n
  obtain ⟨pk, po, rfl, hY2⟩ := isIm_cell HIY.out (i := 2) (p := 1) (by kernel_rfl)
  have kY2 : w6.cell? ⟨pk, po + 2, none⟩ = some (.int .i64 1) := isIm_cell' HIY.out (by kernel_rfl)
  have jY2 : ∀ o, (w6.alloc o).cell? ⟨pk, po + 2, none⟩ = some (.int .i64 1) := fun o => cell_alloc_old o kY2
  have kHBX0 : w6.cell? ⟨w2.heap.size, 0, none⟩ = some (.int .i64 6) := by rw [cell_of HBX.out]; rfl
  have jHBX0 : ∀ o, (w6.alloc o).cell? ⟨w2.heap.size, 0, none⟩ = some (.int .i64 6) := fun o => cell_alloc_old o kHBX0
  have kHBX1 : w6.cell? ⟨w2.heap.size, 1, none⟩ = some (.int .i64 5) := by rw [cell_of HBX.out]; rfl
  have jHBX1 : ∀ o, (w6.alloc o).cell? ⟨w2.heap.size, 1, none⟩ = some (.int .i64 5) := fun o => cell_alloc_old o kHBX1
  have kHBX2 : w6.cell? ⟨w2.heap.size, 2, none⟩ = some (.slice AX 30 cX) := by rw [cell_of HBX.out]; rfl
  have jHBX2 : ∀ o, (w6.alloc o).cell? ⟨w2.heap.size, 2, none⟩ = some (.slice AX 30 cX) := fun o => cell_alloc_old o kHBX2
  go_wp2_with (go_at_call 15; fail)
  clear kHBX0 jHBX0 kHBX1 jHBX1 kHBX2 jHBX2
  clear hY2 kY2 jY2
  refine Calls_nm ?_
  intro W7 hW
  have n : Nw w6 W7 := by rw [hW]; exact (Ch.refl _ _).alloc _
  have NX := Lib.hid (NX.out.trans n)
  have RN := Lib.hid (RN.out.kept n id)
  have MX := Lib.hid (MX.out.kept n id)
  have HBB := Lib.hid (n.heap HBB.out id)
  have HBM := Lib.hid ((HBM.out.kept n nof).hi n.size)
  have HIX := Lib.hid ((HIX.out.kept n nof).hi n.size)
  have HBX := Lib.hid (n.heap HBX.out id)
  have HIZ := Lib.hid ((HIZ.out.kept n nof).hi n.size)
  have HIY := Lib.hid ((HIY.out.kept n nof).hi n.size)
  have HBY := Lib.hid (show W7.heap[w6.heap.size]? = some (.cells #[.int .i64 6, .int .i64 5, .slice (some ⟨pk, po, none⟩) 30 cY] 25 (0, 0)) from by rw [hW]; exact heap_alloc_eq _ rfl)
  clear hW n
  refine imText_any W7.heap.size _ (6, 5, pxX) _ _ HIX.out (Nat.le_refl _) RN.out ?_
  rw [e_text]
  intro w8 n
  have NX := Lib.hid (NX.out.trans n)
  have RN := Lib.hid (RN.out.kept n id)
  have MX := Lib.hid (MX.out.kept n id)
  have HBB := Lib.hid (n.heap HBB.out id)
  have HBM := Lib.hid ((HBM.out.kept n nof).hi n.size)
  have HIX := Lib.hid ((HIX.out.kept n nof).hi n.size)
  have HBX := Lib.hid (n.heap HBX.out id)
  have HIZ := Lib.hid ((HIZ.out.kept n nof).hi n.size)
  have HIY := Lib.hid ((HIY.out.kept n nof).hi n.size)
  have HBY := Lib.hid (n.heap HBY.out id)
  have kY2 : w8.cell? ⟨pk, po + 2, none⟩ = some (.int .i64 1) := isIm_cell' HIY.out (by kernel_rfl)
  have jY2 : ∀ o, (w8.alloc o).cell? ⟨pk, po + 2, none⟩ = some (.int .i64 1) := fun o => cell_alloc_old o kY2
  have kHBX0 : w8.cell? ⟨w2.heap.size, 0, none⟩ = some (.int .i64 6) := by rw [cell_of HBX.out]; rfl
  have jHBX0 : ∀ o, (w8.alloc o).cell? ⟨w2.heap.size, 0, none⟩ = some (.int .i64 6) := fun o => cell_alloc_old o kHBX0
  have kHBX1 : w8.cell? ⟨w2.heap.size, 1, none⟩ = some (.int .i64 5) := by rw [cell_of HBX.out]; rfl
  have jHBX1 : ∀ o, (w8.alloc o).cell? ⟨w2.heap.size, 1, none⟩ = some (.int .i64 5) := fun o => cell_alloc_old o kHBX1
  have kHBX2 : w8.cell? ⟨w2.heap.size, 2, none⟩ = some (.slice AX 30 cX) := by rw [cell_of HBX.out]; rfl
  have jHBX2 : ∀ o, (w8.alloc o).cell? ⟨w2.heap.size, 2, none⟩ = some (.slice AX 30 cX) := fun o => cell_alloc_old o kHBX2
  have kHBY0 : w8.cell? ⟨w6.heap.size, 0, none⟩ = some (.int .i64 6) := by rw [cell_of HBY.out]; rfl
  have jHBY0 : ∀ o, (w8.alloc o).cell? ⟨w6.heap.size, 0, none⟩ = some (.int .i64 6) := fun o => cell_alloc_old o kHBY0
  have kHBY1 : w8.cell? ⟨w6.heap.size, 1, none⟩ = some (.int .i64 5) := by rw [cell_of HBY.out]; rfl
  have jHBY1 : ∀ o, (w8.alloc o).cell? ⟨w6.heap.size, 1, none⟩ = some (.int .i64 5) := fun o => cell_alloc_old o kHBY1
  have kHBY2 : w8.cell? ⟨w6.heap.size, 2, none⟩ = some (.slice (some ⟨pk, po, none⟩) 30 cY) := by rw [cell_of HBY.out]; rfl
  have jHBY2 : ∀ o, (w8.alloc o).cell? ⟨w6.heap.size, 2, none⟩ = some (.slice (some ⟨pk, po, none⟩) 30 cY) := fun o => cell_alloc_old o kHBY2
  go_wp2_with (go_at_call 15; fail)
  clear kHBX0 jHBX0 kHBX1 jHBX1 kHBX2 jHBX2 kHBY0 jHBY0 kHBY1 jHBY1 kHBY2 jHBY2
  clear kY2 jY2
  refine Calls_nm ?_
  intro W9 hW
  have n : Nw w8 W9 := by rw [hW]; exact Ch.refl _ _
  have NX := Lib.hid (NX.out.trans n)
  have RN := Lib.hid (RN.out.kept n id)
  have MX := Lib.hid (MX.out.kept n id)
  have HBB := Lib.hid (n.heap HBB.out id)
  have HBM := Lib.hid ((HBM.out.kept n nof).hi n.size)
  have HIX := Lib.hid ((HIX.out.kept n nof).hi n.size)
  have HBX := Lib.hid (n.heap HBX.out id)
  have HIZ := Lib.hid ((HIZ.out.kept n nof).hi n.size)
  have HIY := Lib.hid ((HIY.out.kept n nof).hi n.size)
  have HBY := Lib.hid (n.heap HBY.out id)
  clear hW n
  refine imKnown_any W9.heap.size _ (6, 5, pxX) _ _ HIX.out ?_
  rw [e_known]
  intro w10 n
  have NX := Lib.hid (NX.out.trans n)
  have RN := Lib.hid (RN.out.kept n id)
  have MX := Lib.hid (MX.out.kept n id)
  have HBB := Lib.hid (n.heap HBB.out id)
  have HBM := Lib.hid ((HBM.out.kept n nof).hi n.size)
  have HIX := Lib.hid ((HIX.out.kept n nof).hi n.size)
  have HBX := Lib.hid (n.heap HBX.out id)
  have HIZ := Lib.hid ((HIZ.out.kept n nof).hi n.size)
  have HIY := Lib.hid ((HIY.out.kept n nof).hi n.size)
  have HBY := Lib.hid (n.heap HBY.out id)
  have kHBX0 : w10.cell? ⟨w2.heap.size, 0, none⟩ = some (.int .i64 6) := by rw [cell_of HBX.out]; rfl
  have jHBX0 : ∀ o, (w10.alloc o).cell? ⟨w2.heap.size, 0, none⟩ = some (.int .i64 6) := fun o => cell_alloc_old o kHBX0
  have kHBX1 : w10.cell? ⟨w2.heap.size, 1, none⟩ = some (.int .i64 5) := by rw [cell_of HBX.out]; rfl
  have jHBX1 : ∀ o, (w10.alloc o).cell? ⟨w2.heap.size, 1, none⟩ = some (.int .i64 5) := fun o => cell_alloc_old o kHBX1
  have kHBX2 : w10.cell? ⟨w2.heap.size, 2, none⟩ = some (.slice AX 30 cX) := by rw [cell_of HBX.out]; rfl
  have jHBX2 : ∀ o, (w10.alloc o).cell? ⟨w2.heap.size, 2, none⟩ = some (.slice AX 30 cX) := fun o => cell_alloc_old o kHBX2
  have kHBB0 : w10.cell? ⟨w.heap.size + 1, 0, none⟩ = some (.int .i64 2) := by rw [cell_of HBB.out]; rfl
  have jHBB0 : ∀ o, (w10.alloc o).cell? ⟨w.heap.size + 1, 0, none⟩ = some (.int .i64 2) := fun o => cell_alloc_old o kHBB0
  have kHBB1 : w10.cell? ⟨w.heap.size + 1, 1, none⟩ = some (.int .i64 1) := by rw [cell_of HBB.out]; rfl
  have jHBB1 : ∀ o, (w10.alloc o).cell? ⟨w.heap.size + 1, 1, none⟩ = some (.int .i64 1) := fun o => cell_alloc_old o kHBB1
  have kHBB2 : w10.cell? ⟨w.heap.size + 1, 2, none⟩ = some (.slice (some ⟨w.heap.size, 0, none⟩) 2 2) := by rw [cell_of HBB.out]; rfl
  have jHBB2 : ∀ o, (w10.alloc o).cell? ⟨w.heap.size + 1, 2, none⟩ = some (.slice (some ⟨w.heap.size, 0, none⟩) 2 2) := fun o => cell_alloc_old o kHBB2
  go_wp2_with (go_at_call 15; fail)
  clear kHBX0 jHBX0 kHBX1 jHBX1 kHBX2 jHBX2 kHBB0 jHBB0 kHBB1 jHBB1 kHBB2 jHBB2
  refine Calls_nm ?_
  intro W11 hW
  have n : Nw w10 W11 := by rw [hW]; exact Ch.refl _ _
  have NX := Lib.hid (NX.out.trans n)
  have RN := Lib.hid (RN.out.kept n id)
  have MX := Lib.hid (MX.out.kept n id)
  have HBB := Lib.hid (n.heap HBB.out id)
  have HBM := Lib.hid ((HBM.out.kept n nof).hi n.size)
  have HIX := Lib.hid ((HIX.out.kept n nof).hi n.size)
  have HBX := Lib.hid (n.heap HBX.out id)
  have HIZ := Lib.hid ((HIZ.out.kept n nof).hi n.size)
  have HIY := Lib.hid ((HIY.out.kept n nof).hi n.size)
  have HBY := Lib.hid (n.heap HBY.out id)
  clear hW n
  refine imFits_any W11.heap.size _ (6, 5, pxX) _ b0 0 3 _ _ HIX.out HBM.out (by unfold wfI; decide) (by unfold wfI; decide) (Nat.le_refl _) ?_
  rw [e_fits]
  intro w12 n
  have NX := Lib.hid (NX.out.trans n)
  have RN := Lib.hid (RN.out.kept n id)
  have MX := Lib.hid (MX.out.kept n id)
  have HBB := Lib.hid (n.heap HBB.out id)
  have HBM := Lib.hid ((HBM.out.kept n nof).hi n.size)
  have HIX := Lib.hid ((HIX.out.kept n nof).hi n.size)
  have HBX := Lib.hid (n.heap HBX.out id)
  have HIZ := Lib.hid ((HIZ.out.kept n nof).hi n.size)
  have HIY := Lib.hid ((HIY.out.kept n nof).hi n.size)
  have HBY := Lib.hid (n.heap HBY.out id)
  have kHBX0 : w12.cell? ⟨w2.heap.size, 0, none⟩ = some (.int .i64 6) := by rw [cell_of HBX.out]; rfl
  have jHBX0 : ∀ o, (w12.alloc o).cell? ⟨w2.heap.size, 0, none⟩ = some (.int .i64 6) := fun o => cell_alloc_old o kHBX0
  have kHBX1 : w12.cell? ⟨w2.heap.size, 1, none⟩ = some (.int .i64 5) := by rw [cell_of HBX.out]; rfl
  have jHBX1 : ∀ o, (w12.alloc o).cell? ⟨w2.heap.size, 1, none⟩ = some (.int .i64 5) := fun o => cell_alloc_old o kHBX1
  have kHBX2 : w12.cell? ⟨w2.heap.size, 2, none⟩ = some (.slice AX 30 cX) := by rw [cell_of HBX.out]; rfl
  have jHBX2 : ∀ o, (w12.alloc o).cell? ⟨w2.heap.size, 2, none⟩ = some (.slice AX 30 cX) := fun o => cell_alloc_old o kHBX2
  have kHBB0 : w12.cell? ⟨w.heap.size + 1, 0, none⟩ = some (.int .i64 2) := by rw [cell_of HBB.out]; rfl
  have jHBB0 : ∀ o, (w12.alloc o).cell? ⟨w.heap.size + 1, 0, none⟩ = some (.int .i64 2) := fun o => cell_alloc_old o kHBB0
  have kHBB1 : w12.cell? ⟨w.heap.size + 1, 1, none⟩ = some (.int .i64 1) := by rw [cell_of HBB.out]; rfl
  have jHBB1 : ∀ o, (w12.alloc o).cell? ⟨w.heap.size + 1, 1, none⟩ = some (.int .i64 1) := fun o => cell_alloc_old o kHBB1
  have kHBB2 : w12.cell? ⟨w.heap.size + 1, 2, none⟩ = some (.slice (some ⟨w.heap.size, 0, none⟩) 2 2) := by rw [cell_of HBB.out]; rfl
  have jHBB2 : ∀ o, (w12.alloc o).cell? ⟨w.heap.size + 1, 2, none⟩ = some (.slice (some ⟨w.heap.size, 0, none⟩) 2 2) := fun o => cell_alloc_old o kHBB2
  go_wp2_with (go_at_call 15; fail)
  clear kHBX0 jHBX0 kHBX1 jHBX1 kHBX2 jHBX2 kHBB0 jHBB0 kHBB1 jHBB1 kHBB2 jHBB2
  refine Calls_nm ?_
  intro W13 hW
  have n : Nw w12 W13 := by rw [hW]; exact Ch.refl _ _
  have NX := Lib.hid (NX.out.trans n)
  have RN := Lib.hid (RN.out.kept n id)
  have MX := Lib.hid (MX.out.kept n id)
  have HBB := Lib.hid (n.heap HBB.out id)
  have HBM := Lib.hid ((HBM.out.kept n nof).hi n.size)
  have HIX := Lib.hid ((HIX.out.kept n nof).hi n.size)
  have HBX := Lib.hid (n.heap HBX.out id)
  have HIZ := Lib.hid ((HIZ.out.kept n nof).hi n.size)
  have HIY := Lib.hid ((HIY.out.kept n nof).hi n.size)
  have HBY := Lib.hid (n.heap HBY.out id)
  clear hW n
  refine fits_any W13.heap.size _ (6, 5, pxX) _ b0 (1) (0) 0 0 _ _ HIX.out HBM.out (by unfold wfI; decide) (by unfold wfI; decide) (Nat.le_refl _) ?_
  rw [e_one1]
  intro w14 n
  have NX := Lib.hid (NX.out.trans n)
  have RN := Lib.hid (RN.out.kept n id)
  have MX := Lib.hid (MX.out.kept n id)
  have HBB := Lib.hid (n.heap HBB.out id)
  have HBM := Lib.hid ((HBM.out.kept n nof).hi n.size)
  have HIX := Lib.hid ((HIX.out.kept n nof).hi n.size)
  have HBX := Lib.hid (n.heap HBX.out id)
  have HIZ := Lib.hid ((HIZ.out.kept n nof).hi n.size)
  have HIY := Lib.hid ((HIY.out.kept n nof).hi n.size)
  have HBY := Lib.hid (n.heap HBY.out id)
  have kHBX0 : w14.cell? ⟨w2.heap.size, 0, none⟩ = some (.int .i64 6) := by rw [cell_of HBX.out]; rfl
  have jHBX0 : ∀ o, (w14.alloc o).cell? ⟨w2.heap.size, 0, none⟩ = some (.int .i64 6) := fun o => cell_alloc_old o kHBX0
  have kHBX1 : w14.cell? ⟨w2.heap.size, 1, none⟩ = some (.int .i64 5) := by rw [cell_of HBX.out]; rfl
  have jHBX1 : ∀ o, (w14.alloc o).cell? ⟨w2.heap.size, 1, none⟩ = some (.int .i64 5) := fun o => cell_alloc_old o kHBX1
  have kHBX2 : w14.cell? ⟨w2.heap.size, 2, none⟩ = some (.slice AX 30 cX) := by rw [cell_of HBX.out]; rfl
  have jHBX2 : ∀ o, (w14.alloc o).cell? ⟨w2.heap.size, 2, none⟩ = some (.slice AX 30 cX) := fun o => cell_alloc_old o kHBX2
  have kHBB0 : w14.cell? ⟨w.heap.size + 1, 0, none⟩ = some (.int .i64 2) := by rw [cell_of HBB.out]; rfl
  have jHBB0 : ∀ o, (w14.alloc o).cell? ⟨w.heap.size + 1, 0, none⟩ = some (.int .i64 2) := fun o => cell_alloc_old o kHBB0
  have kHBB1 : w14.cell? ⟨w.heap.size + 1, 1, none⟩ = some (.int .i64 1) := by rw [cell_of HBB.out]; rfl
  have jHBB1 : ∀ o, (w14.alloc o).cell? ⟨w.heap.size + 1, 1, none⟩ = some (.int .i64 1) := fun o => cell_alloc_old o kHBB1
  have kHBB2 : w14.cell? ⟨w.heap.size + 1, 2, none⟩ = some (.slice (some ⟨w.heap.size, 0, none⟩) 2 2) := by rw [cell_of HBB.out]; rfl
  have jHBB2 : ∀ o, (w14.alloc o).cell? ⟨w.heap.size + 1, 2, none⟩ = some (.slice (some ⟨w.heap.size, 0, none⟩) 2 2) := fun o => cell_alloc_old o kHBB2
  go_wp2_with (go_at_call 15; fail)
  clear kHBX0 jHBX0 kHBX1 jHBX1 kHBX2 jHBX2 kHBB0 jHBB0 kHBB1 jHBB1 kHBB2 jHBB2
  refine Calls_nm ?_
  intro W15 hW
  have n : Nw w14 W15 := by rw [hW]; exact Ch.refl _ _
  have NX := Lib.hid (NX.out.trans n)
  have RN := Lib.hid (RN.out.kept n id)
  have MX := Lib.hid (MX.out.kept n id)
  have HBB := Lib.hid (n.heap HBB.out id)
  have HBM := Lib.hid ((HBM.out.kept n nof).hi n.size)
  have HIX := Lib.hid ((HIX.out.kept n nof).hi n.size)
  have HBX := Lib.hid (n.heap HBX.out id)
  have HIZ := Lib.hid ((HIZ.out.kept n nof).hi n.size)
  have HIY := Lib.hid ((HIY.out.kept n nof).hi n.size)
  have HBY := Lib.hid (n.heap HBY.out id)
  clear hW n
  refine fits_any W15.heap.size _ (6, 5, pxX) _ b0 (0) (0) 1 1 _ _ HIX.out HBM.out (by unfold wfI; decide) (by unfold wfI; decide) (Nat.le_refl _) ?_
  rw [e_one2]
  intro w16 n
  have NX := Lib.hid (NX.out.trans n)
  have RN := Lib.hid (RN.out.kept n id)
  have MX := Lib.hid (MX.out.kept n id)
  have HBB := Lib.hid (n.heap HBB.out id)
  have HBM := Lib.hid ((HBM.out.kept n nof).hi n.size)
  have HIX := Lib.hid ((HIX.out.kept n nof).hi n.size)
  have HBX := Lib.hid (n.heap HBX.out id)
  have HIZ := Lib.hid ((HIZ.out.kept n nof).hi n.size)
  have HIY := Lib.hid ((HIY.out.kept n nof).hi n.size)
  have HBY := Lib.hid (n.heap HBY.out id)
  have kHBX0 : w16.cell? ⟨w2.heap.size, 0, none⟩ = some (.int .i64 6) := by rw [cell_of HBX.out]; rfl
  have jHBX0 : ∀ o, (w16.alloc o).cell? ⟨w2.heap.size, 0, none⟩ = some (.int .i64 6) := fun o => cell_alloc_old o kHBX0
  have kHBX1 : w16.cell? ⟨w2.heap.size, 1, none⟩ = some (.int .i64 5) := by rw [cell_of HBX.out]; rfl
  have jHBX1 : ∀ o, (w16.alloc o).cell? ⟨w2.heap.size, 1, none⟩ = some (.int .i64 5) := fun o => cell_alloc_old o kHBX1
  have kHBX2 : w16.cell? ⟨w2.heap.size, 2, none⟩ = some (.slice AX 30 cX) := by rw [cell_of HBX.out]; rfl
  have jHBX2 : ∀ o, (w16.alloc o).cell? ⟨w2.heap.size, 2, none⟩ = some (.slice AX 30 cX) := fun o => cell_alloc_old o kHBX2
  go_wp2_with (go_at_call 15; fail)
  clear kHBX0 jHBX0 kHBX1 jHBX1 kHBX2 jHBX2
  refine Calls_nm ?_
  intro W17 hW
  have n : Nw w16 W17 := by rw [hW]; exact Ch.refl _ _
  have NX := Lib.hid (NX.out.trans n)
  have RN := Lib.hid (RN.out.kept n id)
  have MX := Lib.hid (MX.out.kept n id)
  have HBB := Lib.hid (n.heap HBB.out id)
  have HBM := Lib.hid ((HBM.out.kept n nof).hi n.size)
  have HIX := Lib.hid ((HIX.out.kept n nof).hi n.size)
  have HBX := Lib.hid (n.heap HBX.out id)
  have HIZ := Lib.hid ((HIZ.out.kept n nof).hi n.size)
  have HIY := Lib.hid ((HIY.out.kept n nof).hi n.size)
  have HBY := Lib.hid (n.heap HBY.out id)
  clear hW n
  refine imHide_any W17.heap.size _ (6, 5, pxX) 3 4 _ _ HIX.out (Nat.le_refl _) (by unfold wfI; decide) (by unfold wfI; decide) ?_
  rw [e_hide1]
  intro w18 v hi n
  have NX := Lib.hid (NX.out.trans n)
  have RN := Lib.hid (RN.out.kept n id)
  have MX := Lib.hid (MX.out.kept n id)
  have HBB := Lib.hid (n.heap HBB.out id)
  have HBM := Lib.hid ((HBM.out.kept n nof).hi n.size)
  have HIX := Lib.hid ((HIX.out.kept n nof).hi n.size)
  have HBX := Lib.hid (n.heap HBX.out id)
  have HIZ := Lib.hid ((HIZ.out.kept n nof).hi n.size)
  have HIY := Lib.hid ((HIY.out.kept n nof).hi n.size)
  have HBY := Lib.hid (n.heap HBY.out id)
  obtain ⟨AH, cH, rfl, hI⟩ := isIm_formN (W := 6) (H := 5) (n := 30) hi rfl rfl rfl
  have HIH := Lib.hid (show IsIm w18 w18.heap.size (.agg #[.int .i64 6, .int .i64 5, .slice AH 30 cH]) (6, 5, pxH) from hI)
  clear hi hI n
  go_wp2_with fail
  refine wp_named ?_
  intro W19 hW
  have n : Nw w18 W19 := by rw [hW]; first | exact Ch.refl _ _ | exact (Ch.refl _ _).alloc _
  have NX := Lib.hid (NX.out.trans n)
  have RN := Lib.hid (RN.out.kept n id)
  have MX := Lib.hid (MX.out.kept n id)
  have HBB := Lib.hid (n.heap HBB.out id)
  have HBM := Lib.hid ((HBM.out.kept n nof).hi n.size)
  have HIX := Lib.hid ((HIX.out.kept n nof).hi n.size)
  have HBX := Lib.hid (n.heap HBX.out id)
  have HIZ := Lib.hid ((HIZ.out.kept n nof).hi n.size)
  have HIY := Lib.hid ((HIY.out.kept n nof).hi n.size)
  have HBY := Lib.hid (n.heap HBY.out id)
  have HIH := Lib.hid ((HIH.out.kept n nof).hi n.size)
  have HBH := Lib.hid (show W19.heap[w18.heap.size]? = some (.cells #[.int .i64 6, .int .i64 5, .slice AH 30 cH] 25 (0, 0)) from by rw [hW]; exact heap_alloc_eq _ rfl)
  clear hW n
  refine wp_region_U (F := fun w' => w'.cell? ⟨w18.heap.size, 0, none⟩ = some (.int .i64 6) ∧ w'.cell? ⟨w18.heap.size, 1, none⟩ = some (.int .i64 5) ∧ w'.cell? ⟨w18.heap.size, 2, none⟩ = some (.slice AH 30 cH) ∧ w'.cell? ⟨w2.heap.size, 0, none⟩ = some (.int .i64 6) ∧ w'.cell? ⟨w2.heap.size, 1, none⟩ = some (.int .i64 5) ∧ w'.cell? ⟨w2.heap.size, 2, none⟩ = some (.slice AX 30 cX) ∧ w'.cell? ⟨w.heap.size + 1, 0, none⟩ = some (.int .i64 2) ∧ w'.cell? ⟨w.heap.size + 1, 1, none⟩ = some (.int .i64 1) ∧ w'.cell? ⟨w.heap.size + 1, 2, none⟩ = some (.slice (some ⟨w.heap.size, 0, none⟩) 2 2)) (opsOf Tryd.f8 10) 20 21 (by kernel_rfl) (by kernel_rfl) (by kernel_rfl) ⟨by show W19.cell? _ = _; rw [cell_of HBH.out]; rfl, by show W19.cell? _ = _; rw [cell_of HBH.out]; rfl, by show W19.cell? _ = _; rw [cell_of HBH.out]; rfl, by show W19.cell? _ = _; rw [cell_of HBX.out]; rfl, by show W19.cell? _ = _; rw [cell_of HBX.out]; rfl, by show W19.cell? _ = _; rw [cell_of HBX.out]; rfl, by show W19.cell? _ = _; rw [cell_of HBB.out]; rfl, by show W19.cell? _ = _; rw [cell_of HBB.out]; rfl, by show W19.cell? _ = _; rw [cell_of HBB.out]; rfl⟩ (fun HOPS hHeld => ?_)
  refine wpT_named ?_
  intro W20 hW
  rw [← hW] at hHeld
  have n : Nw W19 W20 := by rw [hW]; exact (Ch.refl _ _).drew
  have NX := Lib.hid (NX.out.trans n)
  have RN := Lib.hid (RN.out.kept n id)
  have MX := Lib.hid (MX.out.kept n id)
  have HBB := Lib.hid (n.heap HBB.out id)
  have HBM := Lib.hid ((HBM.out.kept n nof).hi n.size)
  have HIX := Lib.hid ((HIX.out.kept n nof).hi n.size)
  have HBX := Lib.hid (n.heap HBX.out id)
  have HIZ := Lib.hid ((HIZ.out.kept n nof).hi n.size)
  have HIY := Lib.hid ((HIY.out.kept n nof).hi n.size)
  have HBY := Lib.hid (n.heap HBY.out id)
  have HIH := Lib.hid ((HIH.out.kept n nof).hi n.size)
  have HBH := Lib.hid (n.heap HBH.out id)
  clear hW n
  first | (refine wpT_takeB (i := 0) (v := ?_) HOPS rfl (by kernel_rfl) (fun _ _ _ h => h) (Or.inl ⟨by rfl, ?hy⟩) (by assumption) ?_; case hy => (intro w hSw; (try dsimp only at hSw); go_simp; (try with_reducible rfl))) | (refine wpT_takeB (i := 0) (v := _) HOPS rfl (by kernel_rfl) (fun _ _ _ h => h) (Or.inr ⟨by rfl, rfl⟩) (by assumption) ?_)
  try simp only [Act.put, List.getElem_toArray, List.getElem_cons_succ, List.getElem_cons_zero, List.setIfInBounds_toArray, List.set_cons_zero, List.set_cons_succ]
  refine wpT_ready (rs := [1]) (by kernel_rfl) (by simp) ?_
  refine ReadyT.consB HOPS rfl (by rfl) (fun K hK => ?_) ReadyT.nil
  go_simp
  go_at_call 24
  refine imKnown_any W20.heap.size _ (6, 5, pxH) _ _ HIH.out ?_
  rw [e_known2]
  intro w21 n
  have NX := Lib.hid (NX.out.trans n)
  have RN := Lib.hid (RN.out.kept n id)
  have MX := Lib.hid (MX.out.kept n id)
  have HBB := Lib.hid (n.heap HBB.out id)
  have HBM := Lib.hid ((HBM.out.kept n nof).hi n.size)
  have HIX := Lib.hid ((HIX.out.kept n nof).hi n.size)
  have HBX := Lib.hid (n.heap HBX.out id)
  have HIZ := Lib.hid ((HIZ.out.kept n nof).hi n.size)
  have HIY := Lib.hid ((HIY.out.kept n nof).hi n.size)
  have HBY := Lib.hid (n.heap HBY.out id)
  have HIH := Lib.hid ((HIH.out.kept n nof).hi n.size)
  have HBH := Lib.hid (n.heap HBH.out id)
  refine hK.out _ _ ⟨by rw [cell_of HBH.out]; rfl, by rw [cell_of HBH.out]; rfl, by rw [cell_of HBH.out]; rfl, by rw [cell_of HBX.out]; rfl, by rw [cell_of HBX.out]; rfl, by rw [cell_of HBX.out]; rfl, by rw [cell_of HBB.out]; rfl, by rw [cell_of HBB.out]; rfl, by rw [cell_of HBB.out]; rfl⟩ (fun hHeld => ?_)
  clear hK K
  try simp only [Act.put, List.getElem_toArray, List.getElem_cons_succ, List.getElem_cons_zero, List.setIfInBounds_toArray, List.set_cons_zero, List.set_cons_succ]
  first | (refine wpT_takeB (i := 2) (v := ?_) HOPS rfl (by kernel_rfl) (fun _ _ _ h => h) (Or.inl ⟨by rfl, ?hy⟩) (by assumption) ?_; case hy => (intro w hSw; (try dsimp only at hSw); go_simp; (try with_reducible rfl))) | (refine wpT_takeB (i := 2) (v := _) HOPS rfl (by kernel_rfl) (fun _ _ _ h => h) (Or.inr ⟨by rfl, rfl⟩) (by assumption) ?_)
  try simp only [Act.put, List.getElem_toArray, List.getElem_cons_succ, List.getElem_cons_zero, List.setIfInBounds_toArray, List.set_cons_zero, List.set_cons_succ]
  first | (refine wpT_takeB (i := 3) (v := ?_) HOPS rfl (by kernel_rfl) (fun _ _ _ h => h) (Or.inl ⟨by rfl, ?hy⟩) (by assumption) ?_; case hy => (intro w hSw; (try dsimp only at hSw); go_simp; (try with_reducible rfl))) | (refine wpT_takeB (i := 3) (v := _) HOPS rfl (by kernel_rfl) (fun _ _ _ h => h) (Or.inr ⟨by rfl, rfl⟩) (by assumption) ?_)
  try simp only [Act.put, List.getElem_toArray, List.getElem_cons_succ, List.getElem_cons_zero, List.setIfInBounds_toArray, List.set_cons_zero, List.set_cons_succ]
  first | (refine wpT_takeB (i := 4) (v := ?_) HOPS rfl (by kernel_rfl) (fun _ _ _ h => h) (Or.inl ⟨by rfl, ?hy⟩) (by assumption) ?_; case hy => (intro w hSw; (try dsimp only at hSw); go_simp; (try with_reducible rfl))) | (refine wpT_takeB (i := 4) (v := _) HOPS rfl (by kernel_rfl) (fun _ _ _ h => h) (Or.inr ⟨by rfl, rfl⟩) (by assumption) ?_)
  try simp only [Act.put, List.getElem_toArray, List.getElem_cons_succ, List.getElem_cons_zero, List.setIfInBounds_toArray, List.set_cons_zero, List.set_cons_succ]
  refine wpT_ready (rs := [5]) (by kernel_rfl) (by simp) ?_
  refine ReadyT.consB HOPS rfl (by rfl) (fun K hK => ?_) ReadyT.nil
  go_simp
  go_at_call 20
  refine imHide_any w21.heap.size _ (6, 5, pxX) 2 2 _ _ HIX.out (Nat.le_refl _) (by unfold wfI; decide) (by unfold wfI; decide) ?_
  rw [e_hide2]
  intro w22 v hi n
  have NX := Lib.hid (NX.out.trans n)
  have RN := Lib.hid (RN.out.kept n id)
  have MX := Lib.hid (MX.out.kept n id)
  have HBB := Lib.hid (n.heap HBB.out id)
  have HBM := Lib.hid ((HBM.out.kept n nof).hi n.size)
  have HIX := Lib.hid ((HIX.out.kept n nof).hi n.size)
  have HBX := Lib.hid (n.heap HBX.out id)
  have HIZ := Lib.hid ((HIZ.out.kept n nof).hi n.size)
  have HIY := Lib.hid ((HIY.out.kept n nof).hi n.size)
  have HBY := Lib.hid (n.heap HBY.out id)
  have HIH := Lib.hid ((HIH.out.kept n nof).hi n.size)
  have HBH := Lib.hid (n.heap HBH.out id)
  obtain ⟨AU, cU, rfl, hI⟩ := isIm_formN (W := 6) (H := 5) (n := 30) hi rfl rfl rfl
  have HIU := Lib.hid (show IsIm w22 w22.heap.size (.agg #[.int .i64 6, .int .i64 5, .slice AU 30 cU]) (6, 5, pxX) from hI)
  clear hi hI n
  refine hK.out _ _ ⟨by rw [cell_of HBH.out]; rfl, by rw [cell_of HBH.out]; rfl, by rw [cell_of HBH.out]; rfl, by rw [cell_of HBX.out]; rfl, by rw [cell_of HBX.out]; rfl, by rw [cell_of HBX.out]; rfl, by rw [cell_of HBB.out]; rfl, by rw [cell_of HBB.out]; rfl, by rw [cell_of HBB.out]; rfl⟩ (fun hHeld => ?_)
  clear hK K
  try simp only [Act.put, List.getElem_toArray, List.getElem_cons_succ, List.getElem_cons_zero, List.setIfInBounds_toArray, List.set_cons_zero, List.set_cons_succ]
  refine wpT_ready (rs := [6]) (by kernel_rfl) (by simp) ?_
  refine ReadyT.consB HOPS rfl (by rfl) (fun K hK => ?_) ReadyT.nil
  go_simp
  go_at_call 24
  refine imKnown_any w22.heap.size _ (6, 5, pxX) _ _ HIU.out ?_
  rw [e_known]
  intro w23 n
  have NX := Lib.hid (NX.out.trans n)
  have RN := Lib.hid (RN.out.kept n id)
  have MX := Lib.hid (MX.out.kept n id)
  have HBB := Lib.hid (n.heap HBB.out id)
  have HBM := Lib.hid ((HBM.out.kept n nof).hi n.size)
  have HIX := Lib.hid ((HIX.out.kept n nof).hi n.size)
  have HBX := Lib.hid (n.heap HBX.out id)
  have HIZ := Lib.hid ((HIZ.out.kept n nof).hi n.size)
  have HIY := Lib.hid ((HIY.out.kept n nof).hi n.size)
  have HBY := Lib.hid (n.heap HBY.out id)
  have HIH := Lib.hid ((HIH.out.kept n nof).hi n.size)
  have HBH := Lib.hid (n.heap HBH.out id)
  have HIU := Lib.hid ((HIU.out.kept n nof).hi n.size)
  refine hK.out _ _ ⟨by rw [cell_of HBH.out]; rfl, by rw [cell_of HBH.out]; rfl, by rw [cell_of HBH.out]; rfl, by rw [cell_of HBX.out]; rfl, by rw [cell_of HBX.out]; rfl, by rw [cell_of HBX.out]; rfl, by rw [cell_of HBB.out]; rfl, by rw [cell_of HBB.out]; rfl, by rw [cell_of HBB.out]; rfl⟩ (fun hHeld => ?_)
  clear hK K
  try simp only [Act.put, List.getElem_toArray, List.getElem_cons_succ, List.getElem_cons_zero, List.setIfInBounds_toArray, List.set_cons_zero, List.set_cons_succ]
  first | (refine wpT_takeB (i := 7) (v := ?_) HOPS rfl (by kernel_rfl) (fun _ _ _ h => h) (Or.inl ⟨by rfl, ?hy⟩) (by assumption) ?_; case hy => (intro w hSw; (try dsimp only at hSw); go_simp; (try with_reducible rfl))) | (refine wpT_takeB (i := 7) (v := _) HOPS rfl (by kernel_rfl) (fun _ _ _ h => h) (Or.inr ⟨by rfl, rfl⟩) (by assumption) ?_)
  try simp only [Act.put, List.getElem_toArray, List.getElem_cons_succ, List.getElem_cons_zero, List.setIfInBounds_toArray, List.set_cons_zero, List.set_cons_succ]
  first | (refine wpT_takeB (i := 8) (v := ?_) HOPS rfl (by kernel_rfl) (fun _ _ _ h => h) (Or.inl ⟨by rfl, ?hy⟩) (by assumption) ?_; case hy => (intro w hSw; (try dsimp only at hSw); go_simp; (try with_reducible rfl))) | (refine wpT_takeB (i := 8) (v := _) HOPS rfl (by kernel_rfl) (fun _ _ _ h => h) (Or.inr ⟨by rfl, rfl⟩) (by assumption) ?_)
  try simp only [Act.put, List.getElem_toArray, List.getElem_cons_succ, List.getElem_cons_zero, List.setIfInBounds_toArray, List.set_cons_zero, List.set_cons_succ]
  first | (refine wpT_takeB (i := 9) (v := ?_) HOPS rfl (by kernel_rfl) (fun _ _ _ h => h) (Or.inl ⟨by rfl, ?hy⟩) (by assumption) ?_; case hy => (intro w hSw; (try dsimp only at hSw); go_simp; (try with_reducible rfl))) | (refine wpT_takeB (i := 9) (v := _) HOPS rfl (by kernel_rfl) (fun _ _ _ h => h) (Or.inr ⟨by rfl, rfl⟩) (by assumption) ?_)
  try simp only [Act.put, List.getElem_toArray, List.getElem_cons_succ, List.getElem_cons_zero, List.setIfInBounds_toArray, List.set_cons_zero, List.set_cons_succ]
  first | (refine wpT_takeB (i := 10) (v := ?_) HOPS rfl (by kernel_rfl) (fun _ _ _ h => h) (Or.inl ⟨by rfl, ?hy⟩) (by assumption) ?_; case hy => (intro w hSw; (try dsimp only at hSw); go_simp; (try with_reducible rfl))) | (refine wpT_takeB (i := 10) (v := _) HOPS rfl (by kernel_rfl) (fun _ _ _ h => h) (Or.inr ⟨by rfl, rfl⟩) (by assumption) ?_)
  try simp only [Act.put, List.getElem_toArray, List.getElem_cons_succ, List.getElem_cons_zero, List.setIfInBounds_toArray, List.set_cons_zero, List.set_cons_succ]
  first | (refine wpT_takeB (i := 11) (v := ?_) HOPS rfl (by kernel_rfl) (fun _ _ _ h => h) (Or.inl ⟨by rfl, ?hy⟩) (by assumption) ?_; case hy => (intro w hSw; (try dsimp only at hSw); go_simp; (try with_reducible rfl))) | (refine wpT_takeB (i := 11) (v := _) HOPS rfl (by kernel_rfl) (fun _ _ _ h => h) (Or.inr ⟨by rfl, rfl⟩) (by assumption) ?_)
  try simp only [Act.put, List.getElem_toArray, List.getElem_cons_succ, List.getElem_cons_zero, List.setIfInBounds_toArray, List.set_cons_zero, List.set_cons_succ]
  refine wpT_ready (rs := [12]) (by kernel_rfl) (by simp) ?_
  refine ReadyT.consB HOPS rfl (by rfl) (fun K hK => ?_) ReadyT.nil
  go_simp
  go_at_call 32
  refine fits_any w23.heap.size _ (6, 5, pxH) _ b0 (0) (0) 1 0 _ _ HIH.out HBM.out (by unfold wfI; decide) (by unfold wfI; decide) (Nat.le_refl _) ?_
  rw [e_two1]
  intro w24 n
  have NX := Lib.hid (NX.out.trans n)
  have RN := Lib.hid (RN.out.kept n id)
  have MX := Lib.hid (MX.out.kept n id)
  have HBB := Lib.hid (n.heap HBB.out id)
  have HBM := Lib.hid ((HBM.out.kept n nof).hi n.size)
  have HIX := Lib.hid ((HIX.out.kept n nof).hi n.size)
  have HBX := Lib.hid (n.heap HBX.out id)
  have HIZ := Lib.hid ((HIZ.out.kept n nof).hi n.size)
  have HIY := Lib.hid ((HIY.out.kept n nof).hi n.size)
  have HBY := Lib.hid (n.heap HBY.out id)
  have HIH := Lib.hid ((HIH.out.kept n nof).hi n.size)
  have HBH := Lib.hid (n.heap HBH.out id)
  have HIU := Lib.hid ((HIU.out.kept n nof).hi n.size)
  refine hK.out _ _ ⟨by rw [cell_of HBH.out]; rfl, by rw [cell_of HBH.out]; rfl, by rw [cell_of HBH.out]; rfl, by rw [cell_of HBX.out]; rfl, by rw [cell_of HBX.out]; rfl, by rw [cell_of HBX.out]; rfl, by rw [cell_of HBB.out]; rfl, by rw [cell_of HBB.out]; rfl, by rw [cell_of HBB.out]; rfl⟩ (fun hHeld => ?_)
  clear hK K
  try simp only [Act.put, List.getElem_toArray, List.getElem_cons_succ, List.getElem_cons_zero, List.setIfInBounds_toArray, List.set_cons_zero, List.set_cons_succ]
  first | (refine wpT_takeB (i := 13) (v := ?_) HOPS rfl (by kernel_rfl) (fun _ _ _ h => h) (Or.inl ⟨by rfl, ?hy⟩) (by assumption) ?_; case hy => (intro w hSw; (try dsimp only at hSw); go_simp; (try with_reducible rfl))) | (refine wpT_takeB (i := 13) (v := _) HOPS rfl (by kernel_rfl) (fun _ _ _ h => h) (Or.inr ⟨by rfl, rfl⟩) (by assumption) ?_)
  try simp only [Act.put, List.getElem_toArray, List.getElem_cons_succ, List.getElem_cons_zero, List.setIfInBounds_toArray, List.set_cons_zero, List.set_cons_succ]
  first | (refine wpT_takeB (i := 14) (v := ?_) HOPS rfl (by kernel_rfl) (fun _ _ _ h => h) (Or.inl ⟨by rfl, ?hy⟩) (by assumption) ?_; case hy => (intro w hSw; (try dsimp only at hSw); go_simp; (try with_reducible rfl))) | (refine wpT_takeB (i := 14) (v := _) HOPS rfl (by kernel_rfl) (fun _ _ _ h => h) (Or.inr ⟨by rfl, rfl⟩) (by assumption) ?_)
  try simp only [Act.put, List.getElem_toArray, List.getElem_cons_succ, List.getElem_cons_zero, List.setIfInBounds_toArray, List.set_cons_zero, List.set_cons_succ]
  first | (refine wpT_takeB (i := 15) (v := ?_) HOPS rfl (by kernel_rfl) (fun _ _ _ h => h) (Or.inl ⟨by rfl, ?hy⟩) (by assumption) ?_; case hy => (intro w hSw; (try dsimp only at hSw); go_simp; (try with_reducible rfl))) | (refine wpT_takeB (i := 15) (v := _) HOPS rfl (by kernel_rfl) (fun _ _ _ h => h) (Or.inr ⟨by rfl, rfl⟩) (by assumption) ?_)
  try simp only [Act.put, List.getElem_toArray, List.getElem_cons_succ, List.getElem_cons_zero, List.setIfInBounds_toArray, List.set_cons_zero, List.set_cons_succ]
  first | (refine wpT_takeB (i := 17) (v := ?_) HOPS rfl (by kernel_rfl) (fun _ _ _ h => h) (Or.inl ⟨by rfl, ?hy⟩) (by assumption) ?_; case hy => (intro w hSw; (try dsimp only at hSw); go_simp; (try with_reducible rfl))) | (refine wpT_takeB (i := 17) (v := _) HOPS rfl (by kernel_rfl) (fun _ _ _ h => h) (Or.inr ⟨by rfl, rfl⟩) (by assumption) ?_)
  try simp only [Act.put, List.getElem_toArray, List.getElem_cons_succ, List.getElem_cons_zero, List.setIfInBounds_toArray, List.set_cons_zero, List.set_cons_succ]
  refine wpT_ready (rs := [16]) (by kernel_rfl) (by simp) ?_
  refine ReadyT.consB HOPS rfl (by rfl) (fun K hK => ?_) ReadyT.nil
  go_simp
  go_at_call 20
  refine imHide_any w24.heap.size _ (6, 5, pxX) 2 4 _ _ HIX.out (Nat.le_refl _) (by unfold wfI; decide) (by unfold wfI; decide) ?_
  rw [e_hide3]
  intro w25 v hi n
  have NX := Lib.hid (NX.out.trans n)
  have RN := Lib.hid (RN.out.kept n id)
  have MX := Lib.hid (MX.out.kept n id)
  have HBB := Lib.hid (n.heap HBB.out id)
  have HBM := Lib.hid ((HBM.out.kept n nof).hi n.size)
  have HIX := Lib.hid ((HIX.out.kept n nof).hi n.size)
  have HBX := Lib.hid (n.heap HBX.out id)
  have HIZ := Lib.hid ((HIZ.out.kept n nof).hi n.size)
  have HIY := Lib.hid ((HIY.out.kept n nof).hi n.size)
  have HBY := Lib.hid (n.heap HBY.out id)
  have HIH := Lib.hid ((HIH.out.kept n nof).hi n.size)
  have HBH := Lib.hid (n.heap HBH.out id)
  have HIU := Lib.hid ((HIU.out.kept n nof).hi n.size)
  obtain ⟨AV, cV, rfl, hI⟩ := isIm_formN (W := 6) (H := 5) (n := 30) hi rfl rfl rfl
  have HIV := Lib.hid (show IsIm w25 w25.heap.size (.agg #[.int .i64 6, .int .i64 5, .slice AV 30 cV]) (6, 5, pxV) from hI)
  clear hi hI n
  refine hK.out _ _ ⟨by rw [cell_of HBH.out]; rfl, by rw [cell_of HBH.out]; rfl, by rw [cell_of HBH.out]; rfl, by rw [cell_of HBX.out]; rfl, by rw [cell_of HBX.out]; rfl, by rw [cell_of HBX.out]; rfl, by rw [cell_of HBB.out]; rfl, by rw [cell_of HBB.out]; rfl, by rw [cell_of HBB.out]; rfl⟩ (fun hHeld => ?_)
  clear hK K
  try simp only [Act.put, List.getElem_toArray, List.getElem_cons_succ, List.getElem_cons_zero, List.setIfInBounds_toArray, List.set_cons_zero, List.set_cons_succ]
  refine wpT_ready (rs := [18]) (by kernel_rfl) (by simp) ?_
  refine ReadyT.consB HOPS rfl (by rfl) (fun K hK => ?_) ReadyT.nil
  go_simp
  go_at_call 32
  refine fits_any w25.heap.size _ (6, 5, pxV) _ b0 (0) (0) 0 0 _ _ HIV.out HBM.out (by unfold wfI; decide) (by unfold wfI; decide) (Nat.le_refl _) ?_
  rw [e_two2]
  intro w26 n
  have NX := Lib.hid (NX.out.trans n)
  have RN := Lib.hid (RN.out.kept n id)
  have MX := Lib.hid (MX.out.kept n id)
  have HBB := Lib.hid (n.heap HBB.out id)
  have HBM := Lib.hid ((HBM.out.kept n nof).hi n.size)
  have HIX := Lib.hid ((HIX.out.kept n nof).hi n.size)
  have HBX := Lib.hid (n.heap HBX.out id)
  have HIZ := Lib.hid ((HIZ.out.kept n nof).hi n.size)
  have HIY := Lib.hid ((HIY.out.kept n nof).hi n.size)
  have HBY := Lib.hid (n.heap HBY.out id)
  have HIH := Lib.hid ((HIH.out.kept n nof).hi n.size)
  have HBH := Lib.hid (n.heap HBH.out id)
  have HIU := Lib.hid ((HIU.out.kept n nof).hi n.size)
  have HIV := Lib.hid ((HIV.out.kept n nof).hi n.size)
  refine hK.out _ _ ⟨by rw [cell_of HBH.out]; rfl, by rw [cell_of HBH.out]; rfl, by rw [cell_of HBH.out]; rfl, by rw [cell_of HBX.out]; rfl, by rw [cell_of HBX.out]; rfl, by rw [cell_of HBX.out]; rfl, by rw [cell_of HBB.out]; rfl, by rw [cell_of HBB.out]; rfl, by rw [cell_of HBB.out]; rfl⟩ (fun hHeld => ?_)
  clear hK K
  try simp only [Act.put, List.getElem_toArray, List.getElem_cons_succ, List.getElem_cons_zero, List.setIfInBounds_toArray, List.set_cons_zero, List.set_cons_succ]
  first | (refine wpT_takeB (i := 19) (v := ?_) HOPS rfl (by kernel_rfl) (fun _ _ _ h => h) (Or.inl ⟨by rfl, ?hy⟩) (by assumption) ?_; case hy => (intro w hSw; (try dsimp only at hSw); go_simp; (try with_reducible rfl))) | (refine wpT_takeB (i := 19) (v := _) HOPS rfl (by kernel_rfl) (fun _ _ _ h => h) (Or.inr ⟨by rfl, rfl⟩) (by assumption) ?_)
  try simp only [Act.put, List.getElem_toArray, List.getElem_cons_succ, List.getElem_cons_zero, List.setIfInBounds_toArray, List.set_cons_zero, List.set_cons_succ]
  refine wpT_ready (rs := [20]) (by kernel_rfl) (by simp) ?_
  refine ReadyT.lastB HOPS rfl (by rfl) (by kernel_rfl) (fun K hK => ?_) ReadyT.nil
  go_simp
  refine hK.out _ _ ?_
  clear hK K
  try simp only [Act.put, List.getElem_toArray, List.getElem_cons_succ, List.getElem_cons_zero, List.setIfInBounds_toArray, List.set_cons_zero, List.set_cons_succ]
  refine wpT_done (by kernel_rfl) ?_ _
  clear HOPS
  repeat clear hHeld
  go_wp2_with (go_at_call 15; fail)
  refine Calls_nm ?_
  intro W27 hW
  have n : Nw w26 W27 := by rw [hW]; exact (Ch.refl _ _).alloc _
  have NX := Lib.hid (NX.out.trans n)
  have RN := Lib.hid (RN.out.kept n id)
  have MX := Lib.hid (MX.out.kept n id)
  have HBB := Lib.hid (n.heap HBB.out id)
  have HBM := Lib.hid ((HBM.out.kept n nof).hi n.size)
  have HIX := Lib.hid ((HIX.out.kept n nof).hi n.size)
  have HBX := Lib.hid (n.heap HBX.out id)
  have HIZ := Lib.hid ((HIZ.out.kept n nof).hi n.size)
  have HIY := Lib.hid ((HIY.out.kept n nof).hi n.size)
  have HBY := Lib.hid (n.heap HBY.out id)
  have HIH := Lib.hid ((HIH.out.kept n nof).hi n.size)
  have HBH := Lib.hid (n.heap HBH.out id)
  have HIU := Lib.hid ((HIU.out.kept n nof).hi n.size)
  have HIV := Lib.hid ((HIV.out.kept n nof).hi n.size)
  have HIL := Lib.hid (show IsIm W27 W27.heap.size (.agg #[.int .i64 1, .int .i64 1, .slice (some ⟨w26.heap.size, 0, none⟩) 1 1]) (1, 1, [3]) from by rw [hW]; exact ⟨_, rfl, isInts_block (l := [3]) (heap_alloc_eq _ rfl) (by simp only [alloc_size]; omega) (by decide) (by unfold wfI; decide), by unfold wfI; decide, by unfold wfI; decide⟩)
  clear hW n
  refine imCheck_any W27.heap.size _ (1, 1, [3]) _ _ HIL.out ?_
  rw [e_check1]
  intro w28 n
  have NX := Lib.hid (NX.out.trans n)
  have RN := Lib.hid (RN.out.kept n id)
  have MX := Lib.hid (MX.out.kept n id)
  have HBB := Lib.hid (n.heap HBB.out id)
  have HBM := Lib.hid ((HBM.out.kept n nof).hi n.size)
  have HIX := Lib.hid ((HIX.out.kept n nof).hi n.size)
  have HBX := Lib.hid (n.heap HBX.out id)
  have HIZ := Lib.hid ((HIZ.out.kept n nof).hi n.size)
  have HIY := Lib.hid ((HIY.out.kept n nof).hi n.size)
  have HBY := Lib.hid (n.heap HBY.out id)
  have HIH := Lib.hid ((HIH.out.kept n nof).hi n.size)
  have HBH := Lib.hid (n.heap HBH.out id)
  have HIU := Lib.hid ((HIU.out.kept n nof).hi n.size)
  have HIV := Lib.hid ((HIV.out.kept n nof).hi n.size)
  have HIL := Lib.hid ((HIL.out.kept n nof).hi n.size)
  go_wp2_with (go_at_call 15; fail)
  refine Calls_nm ?_
  intro W29 hW
  have n : Nw w28 W29 := by rw [hW]; exact Ch.refl _ _
  have NX := Lib.hid (NX.out.trans n)
  have RN := Lib.hid (RN.out.kept n id)
  have MX := Lib.hid (MX.out.kept n id)
  have HBB := Lib.hid (n.heap HBB.out id)
  have HBM := Lib.hid ((HBM.out.kept n nof).hi n.size)
  have HIX := Lib.hid ((HIX.out.kept n nof).hi n.size)
  have HBX := Lib.hid (n.heap HBX.out id)
  have HIZ := Lib.hid ((HIZ.out.kept n nof).hi n.size)
  have HIY := Lib.hid ((HIY.out.kept n nof).hi n.size)
  have HBY := Lib.hid (n.heap HBY.out id)
  have HIH := Lib.hid ((HIH.out.kept n nof).hi n.size)
  have HBH := Lib.hid (n.heap HBH.out id)
  have HIU := Lib.hid ((HIU.out.kept n nof).hi n.size)
  have HIV := Lib.hid ((HIV.out.kept n nof).hi n.size)
  have HIL := Lib.hid ((HIL.out.kept n nof).hi n.size)
  clear hW n
  refine imCheck_any W29.heap.size _ (101, 0, []) _ _ ⟨_, rfl, ⟨none, 0, rfl, by decide, fun i x h => by cases h⟩, by unfold wfI; decide, by unfold wfI; decide⟩ ?_
  rw [e_check2]
  intro w30 n
  have NX := Lib.hid (NX.out.trans n)
  have RN := Lib.hid (RN.out.kept n id)
  have MX := Lib.hid (MX.out.kept n id)
  have HBB := Lib.hid (n.heap HBB.out id)
  have HBM := Lib.hid ((HBM.out.kept n nof).hi n.size)
  have HIX := Lib.hid ((HIX.out.kept n nof).hi n.size)
  have HBX := Lib.hid (n.heap HBX.out id)
  have HIZ := Lib.hid ((HIZ.out.kept n nof).hi n.size)
  have HIY := Lib.hid ((HIY.out.kept n nof).hi n.size)
  have HBY := Lib.hid (n.heap HBY.out id)
  have HIH := Lib.hid ((HIH.out.kept n nof).hi n.size)
  have HBH := Lib.hid (n.heap HBH.out id)
  have HIU := Lib.hid ((HIU.out.kept n nof).hi n.size)
  have HIV := Lib.hid ((HIV.out.kept n nof).hi n.size)
  have HIL := Lib.hid ((HIL.out.kept n nof).hi n.size)
  have kHBX0 : w30.cell? ⟨w2.heap.size, 0, none⟩ = some (.int .i64 6) := by rw [cell_of HBX.out]; rfl
  have jHBX0 : ∀ o, (w30.alloc o).cell? ⟨w2.heap.size, 0, none⟩ = some (.int .i64 6) := fun o => cell_alloc_old o kHBX0
  have kHBX1 : w30.cell? ⟨w2.heap.size, 1, none⟩ = some (.int .i64 5) := by rw [cell_of HBX.out]; rfl
  have jHBX1 : ∀ o, (w30.alloc o).cell? ⟨w2.heap.size, 1, none⟩ = some (.int .i64 5) := fun o => cell_alloc_old o kHBX1
  have kHBX2 : w30.cell? ⟨w2.heap.size, 2, none⟩ = some (.slice AX 30 cX) := by rw [cell_of HBX.out]; rfl
  have jHBX2 : ∀ o, (w30.alloc o).cell? ⟨w2.heap.size, 2, none⟩ = some (.slice AX 30 cX) := fun o => cell_alloc_old o kHBX2
  go_wp2_with (go_at_call 15; fail)
  clear kHBX0 jHBX0 kHBX1 jHBX1 kHBX2 jHBX2
  refine Calls_nm ?_
  intro W31 hW
  have n : Nw w30 W31 := by rw [hW]; exact Ch.refl _ _
  have NX := Lib.hid (NX.out.trans n)
  have RN := Lib.hid (RN.out.kept n id)
  have MX := Lib.hid (MX.out.kept n id)
  have HBB := Lib.hid (n.heap HBB.out id)
  have HBM := Lib.hid ((HBM.out.kept n nof).hi n.size)
  have HIX := Lib.hid ((HIX.out.kept n nof).hi n.size)
  have HBX := Lib.hid (n.heap HBX.out id)
  have HIZ := Lib.hid ((HIZ.out.kept n nof).hi n.size)
  have HIY := Lib.hid ((HIY.out.kept n nof).hi n.size)
  have HBY := Lib.hid (n.heap HBY.out id)
  have HIH := Lib.hid ((HIH.out.kept n nof).hi n.size)
  have HBH := Lib.hid (n.heap HBH.out id)
  have HIU := Lib.hid ((HIU.out.kept n nof).hi n.size)
  have HIV := Lib.hid ((HIV.out.kept n nof).hi n.size)
  have HIL := Lib.hid ((HIL.out.kept n nof).hi n.size)
  clear hW n
  refine imCheck_any W31.heap.size _ (6, 5, pxX) _ _ HIX.out ?_
  rw [e_check3]
  intro w32 n
  have NX := Lib.hid (NX.out.trans n)
  have RN := Lib.hid (RN.out.kept n id)
  have MX := Lib.hid (MX.out.kept n id)
  have HBB := Lib.hid (n.heap HBB.out id)
  have HBM := Lib.hid ((HBM.out.kept n nof).hi n.size)
  have HIX := Lib.hid ((HIX.out.kept n nof).hi n.size)
  have HBX := Lib.hid (n.heap HBX.out id)
  have HIZ := Lib.hid ((HIZ.out.kept n nof).hi n.size)
  have HIY := Lib.hid ((HIY.out.kept n nof).hi n.size)
  have HBY := Lib.hid (n.heap HBY.out id)
  have HIH := Lib.hid ((HIH.out.kept n nof).hi n.size)
  have HBH := Lib.hid (n.heap HBH.out id)
  have HIU := Lib.hid ((HIU.out.kept n nof).hi n.size)
  have HIV := Lib.hid ((HIV.out.kept n nof).hi n.size)
  have HIL := Lib.hid ((HIL.out.kept n nof).hi n.size)
  go_wp2_with (go_at_call 15; fail)
  refine Calls_nm ?_
  intro W33 hW
  have n : Nw w32 W33 := by rw [hW]; exact Ch.refl _ _
  have NX := Lib.hid (NX.out.trans n)
  have RN := Lib.hid (RN.out.kept n id)
  have MX := Lib.hid (MX.out.kept n id)
  have HBB := Lib.hid (n.heap HBB.out id)
  have HBM := Lib.hid ((HBM.out.kept n nof).hi n.size)
  have HIX := Lib.hid ((HIX.out.kept n nof).hi n.size)
  have HBX := Lib.hid (n.heap HBX.out id)
  have HIZ := Lib.hid ((HIZ.out.kept n nof).hi n.size)
  have HIY := Lib.hid ((HIY.out.kept n nof).hi n.size)
  have HBY := Lib.hid (n.heap HBY.out id)
  have HIH := Lib.hid ((HIH.out.kept n nof).hi n.size)
  have HBH := Lib.hid (n.heap HBH.out id)
  have HIU := Lib.hid ((HIU.out.kept n nof).hi n.size)
  have HIV := Lib.hid ((HIV.out.kept n nof).hi n.size)
  have HIL := Lib.hid ((HIL.out.kept n nof).hi n.size)
  clear hW n
  refine imParse_any ⟨#[35, 63, 10, 46, 46, 10]⟩ _ _ RN.out MX.out (by decide) ?_
  rw [e_parse1]
  intro w34 v hi n
  have NX := Lib.hid (NX.out.trans n)
  have RN := Lib.hid (RN.out.kept n id)
  have MX := Lib.hid (MX.out.kept n id)
  have HBB := Lib.hid (n.heap HBB.out id)
  have HBM := Lib.hid ((HBM.out.kept n nof).hi n.size)
  have HIX := Lib.hid ((HIX.out.kept n nof).hi n.size)
  have HBX := Lib.hid (n.heap HBX.out id)
  have HIZ := Lib.hid ((HIZ.out.kept n nof).hi n.size)
  have HIY := Lib.hid ((HIY.out.kept n nof).hi n.size)
  have HBY := Lib.hid (n.heap HBY.out id)
  have HIH := Lib.hid ((HIH.out.kept n nof).hi n.size)
  have HBH := Lib.hid (n.heap HBH.out id)
  have HIU := Lib.hid ((HIU.out.kept n nof).hi n.size)
  have HIV := Lib.hid ((HIV.out.kept n nof).hi n.size)
  have HIL := Lib.hid ((HIL.out.kept n nof).hi n.size)
  obtain ⟨AP, cP, rfl, hI⟩ := isIm_formN (W := 2) (H := 2) (n := 4) hi rfl rfl rfl
  have HIP := Lib.hid (show IsIm w34 w34.heap.size (.agg #[.int .i64 2, .int .i64 2, .slice AP 4 cP]) (2, 2, [0, 0, 1, 2]) from hI)
  clear hi hI n
  go_wp2_with (go_at_call 15; fail)
  refine Calls_nm ?_
  intro W35 hW
  have n : Nw w34 W35 := by rw [hW]; exact (Ch.refl _ _).alloc _
  have NX := Lib.hid (NX.out.trans n)
  have RN := Lib.hid (RN.out.kept n id)
  have MX := Lib.hid (MX.out.kept n id)
  have HBB := Lib.hid (n.heap HBB.out id)
  have HBM := Lib.hid ((HBM.out.kept n nof).hi n.size)
  have HIX := Lib.hid ((HIX.out.kept n nof).hi n.size)
  have HBX := Lib.hid (n.heap HBX.out id)
  have HIZ := Lib.hid ((HIZ.out.kept n nof).hi n.size)
  have HIY := Lib.hid ((HIY.out.kept n nof).hi n.size)
  have HBY := Lib.hid (n.heap HBY.out id)
  have HIH := Lib.hid ((HIH.out.kept n nof).hi n.size)
  have HBH := Lib.hid (n.heap HBH.out id)
  have HIU := Lib.hid ((HIU.out.kept n nof).hi n.size)
  have HIV := Lib.hid ((HIV.out.kept n nof).hi n.size)
  have HIL := Lib.hid ((HIL.out.kept n nof).hi n.size)
  have HIP := Lib.hid ((HIP.out.kept n nof).hi n.size)
  have HBP := Lib.hid (show W35.heap[w34.heap.size]? = some (.cells #[.int .i64 2, .int .i64 2, .slice AP 4 cP] 25 (0, 0)) from by rw [hW]; exact heap_alloc_eq _ rfl)
  clear hW n
  refine imParse_any ⟨#[35, 120, 10]⟩ _ _ RN.out MX.out (by decide) ?_
  rw [e_parse2]
  intro w36 v hi n
  have NX := Lib.hid (NX.out.trans n)
  have RN := Lib.hid (RN.out.kept n id)
  have MX := Lib.hid (MX.out.kept n id)
  have HBB := Lib.hid (n.heap HBB.out id)
  have HBM := Lib.hid ((HBM.out.kept n nof).hi n.size)
  have HIX := Lib.hid ((HIX.out.kept n nof).hi n.size)
  have HBX := Lib.hid (n.heap HBX.out id)
  have HIZ := Lib.hid ((HIZ.out.kept n nof).hi n.size)
  have HIY := Lib.hid ((HIY.out.kept n nof).hi n.size)
  have HBY := Lib.hid (n.heap HBY.out id)
  have HIH := Lib.hid ((HIH.out.kept n nof).hi n.size)
  have HBH := Lib.hid (n.heap HBH.out id)
  have HIU := Lib.hid ((HIU.out.kept n nof).hi n.size)
  have HIV := Lib.hid ((HIV.out.kept n nof).hi n.size)
  have HIL := Lib.hid ((HIL.out.kept n nof).hi n.size)
  have HIP := Lib.hid ((HIP.out.kept n nof).hi n.size)
  have HBP := Lib.hid (n.heap HBP.out id)
  obtain ⟨AQ, cQ, rfl, hI⟩ := isIm_formN (W := 0) (H := 0) (n := 0) hi rfl rfl rfl
  have HIQ := Lib.hid (show IsIm w36 w36.heap.size (.agg #[.int .i64 0, .int .i64 0, .slice AQ 0 cQ]) zeroI from hI)
  clear hi hI n
  have kHBP0 : w36.cell? ⟨w34.heap.size, 0, none⟩ = some (.int .i64 2) := by rw [cell_of HBP.out]; rfl
  have jHBP0 : ∀ o, (w36.alloc o).cell? ⟨w34.heap.size, 0, none⟩ = some (.int .i64 2) := fun o => cell_alloc_old o kHBP0
  have kHBP1 : w36.cell? ⟨w34.heap.size, 1, none⟩ = some (.int .i64 2) := by rw [cell_of HBP.out]; rfl
  have jHBP1 : ∀ o, (w36.alloc o).cell? ⟨w34.heap.size, 1, none⟩ = some (.int .i64 2) := fun o => cell_alloc_old o kHBP1
  have kHBP2 : w36.cell? ⟨w34.heap.size, 2, none⟩ = some (.slice AP 4 cP) := by rw [cell_of HBP.out]; rfl
  have jHBP2 : ∀ o, (w36.alloc o).cell? ⟨w34.heap.size, 2, none⟩ = some (.slice AP 4 cP) := fun o => cell_alloc_old o kHBP2
  go_wp2_with (go_at_call 15; fail)
  clear kHBP0 jHBP0 kHBP1 jHBP1 kHBP2 jHBP2
  refine Calls_nm ?_
  intro W37 hW
  have n : Nw w36 W37 := by rw [hW]; exact ((Ch.refl _ _).alloc _).alloc _
  have NX := Lib.hid (NX.out.trans n)
  have RN := Lib.hid (RN.out.kept n id)
  have MX := Lib.hid (MX.out.kept n id)
  have HBB := Lib.hid (n.heap HBB.out id)
  have HBM := Lib.hid ((HBM.out.kept n nof).hi n.size)
  have HIX := Lib.hid ((HIX.out.kept n nof).hi n.size)
  have HBX := Lib.hid (n.heap HBX.out id)
  have HIZ := Lib.hid ((HIZ.out.kept n nof).hi n.size)
  have HIY := Lib.hid ((HIY.out.kept n nof).hi n.size)
  have HBY := Lib.hid (n.heap HBY.out id)
  have HIH := Lib.hid ((HIH.out.kept n nof).hi n.size)
  have HBH := Lib.hid (n.heap HBH.out id)
  have HIU := Lib.hid ((HIU.out.kept n nof).hi n.size)
  have HIV := Lib.hid ((HIV.out.kept n nof).hi n.size)
  have HIL := Lib.hid ((HIL.out.kept n nof).hi n.size)
  have HIP := Lib.hid ((HIP.out.kept n nof).hi n.size)
  have HBP := Lib.hid (n.heap HBP.out id)
  have HIQ := Lib.hid ((HIQ.out.kept n nof).hi n.size)
  have HIM := Lib.hid (show IsIm W37 W37.heap.size (.agg #[.int .i64 2, .int .i64 2, .slice (some ⟨w36.heap.size + 1, 0, none⟩) 4 4]) (2, 2, [0, 0, 1, 2]) from by rw [hW]; exact ⟨_, rfl, isInts_block (l := [0, 0, 1, 2]) (heap_alloc_eq _ (by simp only [alloc_size])) (by simp only [alloc_size]; omega) (by decide) (by unfold wfI; decide), by unfold wfI; decide, by unfold wfI; decide⟩)
  clear hW n
  refine riSame_any W37.heap.size _ _ (2, 2, [0, 0, 1, 2]) (2, 2, [0, 0, 1, 2]) _ _ HIP.out HIM.out ?_
  rw [decide_eq_true rfl]
  intro w38 n
  have NX := Lib.hid (NX.out.trans n)
  have RN := Lib.hid (RN.out.kept n id)
  have MX := Lib.hid (MX.out.kept n id)
  have HBB := Lib.hid (n.heap HBB.out id)
  have HBM := Lib.hid ((HBM.out.kept n nof).hi n.size)
  have HIX := Lib.hid ((HIX.out.kept n nof).hi n.size)
  have HBX := Lib.hid (n.heap HBX.out id)
  have HIZ := Lib.hid ((HIZ.out.kept n nof).hi n.size)
  have HIY := Lib.hid ((HIY.out.kept n nof).hi n.size)
  have HBY := Lib.hid (n.heap HBY.out id)
  have HIH := Lib.hid ((HIH.out.kept n nof).hi n.size)
  have HBH := Lib.hid (n.heap HBH.out id)
  have HIU := Lib.hid ((HIU.out.kept n nof).hi n.size)
  have HIV := Lib.hid ((HIV.out.kept n nof).hi n.size)
  have HIL := Lib.hid ((HIL.out.kept n nof).hi n.size)
  have HIP := Lib.hid ((HIP.out.kept n nof).hi n.size)
  have HBP := Lib.hid (n.heap HBP.out id)
  have HIQ := Lib.hid ((HIQ.out.kept n nof).hi n.size)
  have HIM := Lib.hid ((HIM.out.kept n nof).hi n.size)
  go_wp2_with fail
  exact ret_b (HR.out _ NX.out) rfl
end Go.Proofs.YtnhdnjhhjmgmnaaDoor
