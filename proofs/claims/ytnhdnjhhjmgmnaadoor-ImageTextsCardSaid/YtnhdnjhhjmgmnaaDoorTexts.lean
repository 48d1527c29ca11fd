/-
  The contract of the law ImageTexts: it returns true.
-/
import Derived.Test.YtnhdnjhhjmgmnaaDoorSan22
import Derived.Test.YtnhdnjhhjmgmnaaDoorIp
import Derived.Test.YtnhdnjhhjmgmnaaDoorImK
import Derived.Test.YtnhdnjhhjmgmnaaDoorLawLib
namespace Go.Proofs.YtnhdnjhhjmgmnaaDoor
open Go.RowKit
set_option linter.unusedVariables false
set_option linter.unusedSimpArgs false
set_option maxRecDepth 100000

theorem fits_two {a b : Int} {px : List Int} {c : Bm} (h : imOk (a + 4, b + 4, px)) (hc : bmE c = 0) : (fitsM (a + 4, b + 4, px) c 0 0).2.2 = decide (a = c.1 ∧ b = c.2.1) := by
  unfold fitsM
  by_cases e : a = c.1 ∧ b = c.2.1
  · rw [if_pos ⟨hc, ⟨by decide, by decide⟩, h, by simp only; omega, by simp only; omega⟩, decide_eq_true e]
  · rw [if_neg (fun hf => e (by obtain ⟨-, -, -, h1, h2⟩ := hf; simp only at h1 h2; omega)), decide_eq_false e]
set_option maxHeartbeats 8000000 in
theorem texts_any (lo : Nat) (va vb vc : Value) (la lb lc : List Int) (z : ByteArray) (w : World) (R : Ending → World → Prop) (hlo : lo ≤ w.heap.size) (hla : IsInts w lo va la) (hlb : IsInts w lo vb lb) (hlc : IsInts w lo vc lc)
    (hz : z.size ≤ maxLen) (hrn : RunesOk w) (hmx : MaxOk w)
    (hR : ∀ w', Nw w w' → R (.returned (.bool true)) w') : Calls Tryd.prog 7 #[.agg #[va, vb, vc], .string z] w R := by
  have HR := Lib.hid hR
  clear hR
  have HLA := Lib.hid (hla.hi hlo)
  have HLB := Lib.hid (hlb.hi hlo)
  have HLC := Lib.hid (hlc.hi hlo)
  obtain ⟨A0, c0, rfl, -⟩ := hla
  obtain ⟨A1, c1, rfl, -⟩ := hlb
  obtain ⟨A2, c2, rfl, -⟩ := hlc
  have NX := Lib.hid (Ch.refl (fun _ => False) w)
  have RN := Lib.hid hrn
  have MX := Lib.hid hmx
  clear hrn hmx
  unfold maxLen at hz
  go_enter Tryd.func7, Tryd.ntmps7
  go_wp2_with (go_at_call 6; fail)
  refine Calls_nm ?_
  intro W1 hW
  have n : Nw w W1 := by rw [hW]; exact (Ch.refl _ _).alloc _
  replace NX := Lib.hid (NX.out.trans n)
  replace RN := Lib.hid (RN.out.kept n id)
  replace MX := Lib.hid (MX.out.kept n id)
  replace HLA := Lib.hid (HLA.out.kept n nof)
  replace HLB := Lib.hid (HLB.out.kept n nof)
  replace HLC := Lib.hid (HLC.out.kept n nof)
  have HB0 := Lib.hid (show W1.heap[w.heap.size]? = some (.cells #[.slice A0 la.length c0, .slice A1 lb.length c1, .slice A2 lc.length c2] 61 (0, 0)) from by rw [hW]; exact heap_alloc_eq _ rfl)
  clear hW n
  have SZ : w.heap.size < W1.heap.size := lt_of_heap HB0.out
  refine sanity_any _ _ RN.out MX.out ?_
  intro w2 n
  replace NX := Lib.hid (NX.out.trans n)
  replace RN := Lib.hid (RN.out.kept n id)
  replace MX := Lib.hid (MX.out.kept n id)
  replace HLA := Lib.hid (HLA.out.kept n nof)
  replace HLB := Lib.hid (HLB.out.kept n nof)
  replace HLC := Lib.hid (HLC.out.kept n nof)
  replace HB0 := Lib.hid (n.heap HB0.out id)
  replace SZ := Nat.lt_of_lt_of_le SZ n.size
  clear n
  have kHB00 : w2.cell? ⟨w.heap.size, 0, none⟩ = some (.slice A0 la.length c0) := by rw [cell_of HB0.out]; rfl
  have jHB00 : ∀ o, (w2.alloc o).cell? ⟨w.heap.size, 0, none⟩ = some (.slice A0 la.length c0) := fun o => cell_alloc_old o kHB00
  have kHB01 : w2.cell? ⟨w.heap.size, 1, none⟩ = some (.slice A1 lb.length c1) := by rw [cell_of HB0.out]; rfl
  have jHB01 : ∀ o, (w2.alloc o).cell? ⟨w.heap.size, 1, none⟩ = some (.slice A1 lb.length c1) := fun o => cell_alloc_old o kHB01
  have kHB02 : w2.cell? ⟨w.heap.size, 2, none⟩ = some (.slice A2 lc.length c2) := by rw [cell_of HB0.out]; rfl
  have jHB02 : ∀ o, (w2.alloc o).cell? ⟨w.heap.size, 2, none⟩ = some (.slice A2 lc.length c2) := fun o => cell_alloc_old o kHB02
  go_wp2_with (go_at_call 6; fail)
  clear kHB00 jHB00 kHB01 jHB01 kHB02 jHB02
  obtain ⟨zs, hzs⟩ : ∃ s, z.extract 0 (min (z.size : Int) 300).toNat = s := ⟨_, rfl⟩
  rw [hzs]
  have hz3 : zs.size ≤ 300 := by rw [← hzs, ByteArray.size_extract]; omega
  clear hzs
  refine Calls_nm ?_
  intro W3 hW
  have n : Nw w2 W3 := by rw [hW]; first | exact Ch.refl _ _ | exact (Ch.refl _ _).alloc _ | exact ((Ch.refl _ _).alloc _).alloc _
  replace NX := Lib.hid (NX.out.trans n)
  replace RN := Lib.hid (RN.out.kept n id)
  replace MX := Lib.hid (MX.out.kept n id)
  replace HLA := Lib.hid (HLA.out.kept n nof)
  replace HLB := Lib.hid (HLB.out.kept n nof)
  replace HLC := Lib.hid (HLC.out.kept n nof)
  replace HB0 := Lib.hid (n.heap HB0.out id)
  replace SZ := Nat.lt_of_lt_of_le SZ n.size
  clear hW n
  refine rMade4_any w.heap.size _ la _ _ HLA.out (by omega) ?_
  intro w4 vb bb hb hbE hb1 hb2 n hvb
  replace NX := Lib.hid (NX.out.trans n)
  replace RN := Lib.hid (RN.out.kept n id)
  replace MX := Lib.hid (MX.out.kept n id)
  replace HLA := Lib.hid (HLA.out.kept n nof)
  replace HLB := Lib.hid (HLB.out.kept n nof)
  replace HLC := Lib.hid (HLC.out.kept n nof)
  replace HB0 := Lib.hid (n.heap HB0.out id)
  replace SZ := Nat.lt_of_lt_of_le SZ n.size
  have HEb := Lib.hid hbE
  obtain ⟨Ab, nb, rfl⟩ := hvb
  have HMb := Lib.hid hb
  obtain ⟨⟨e1, e2⟩, ⟨e3, e4⟩, -⟩ := bmE_ok hbE
  generalize hbw : bb.1 = bw at *
  generalize hbh : bb.2.1 = bh at *
  have HBW := Lib.hid hbw
  have HBH := Lib.hid hbh
  clear hb hbw hbh hbE n
  have kHB00 : w4.cell? ⟨w.heap.size, 0, none⟩ = some (.slice A0 la.length c0) := by rw [cell_of HB0.out]; rfl
  have jHB00 : ∀ o, (w4.alloc o).cell? ⟨w.heap.size, 0, none⟩ = some (.slice A0 la.length c0) := fun o => cell_alloc_old o kHB00
  have kHB01 : w4.cell? ⟨w.heap.size, 1, none⟩ = some (.slice A1 lb.length c1) := by rw [cell_of HB0.out]; rfl
  have jHB01 : ∀ o, (w4.alloc o).cell? ⟨w.heap.size, 1, none⟩ = some (.slice A1 lb.length c1) := fun o => cell_alloc_old o kHB01
  have kHB02 : w4.cell? ⟨w.heap.size, 2, none⟩ = some (.slice A2 lc.length c2) := by rw [cell_of HB0.out]; rfl
  have jHB02 : ∀ o, (w4.alloc o).cell? ⟨w.heap.size, 2, none⟩ = some (.slice A2 lc.length c2) := fun o => cell_alloc_old o kHB02
  go_wp2_with (go_at_call 6; fail)
  clear kHB00 jHB00 kHB01 jHB01 kHB02 jHB02
  refine Calls_nm ?_
  intro W5 hW
  have n : Nw w4 W5 := by rw [hW]; first | exact Ch.refl _ _ | exact (Ch.refl _ _).alloc _ | exact ((Ch.refl _ _).alloc _).alloc _
  replace NX := Lib.hid (NX.out.trans n)
  replace RN := Lib.hid (RN.out.kept n id)
  replace MX := Lib.hid (MX.out.kept n id)
  replace HLA := Lib.hid (HLA.out.kept n nof)
  replace HLB := Lib.hid (HLB.out.kept n nof)
  replace HLC := Lib.hid (HLC.out.kept n nof)
  replace HB0 := Lib.hid (n.heap HB0.out id)
  replace SZ := Nat.lt_of_lt_of_le SZ n.size
  replace HMb := Lib.hid ((HMb.out.kept n nof).hi n.size)
  have HB8 := Lib.hid (show W5.heap[w4.heap.size]? = some (.cells #[.int .i64 bw, .int .i64 bh, .slice (some Ab) nb nb] 31 (0, 0)) from by rw [hW]; exact heap_alloc_eq _ rfl)
  clear hW n
  refine rMade22_any W5.heap.size _ bb _ lb _ _ HMb.out HEb.out (HLB.out.hi (by omega)) (Nat.le_refl _) ?_
  intro w6 vx x hx hok hx1 hx2 n hvx
  replace NX := Lib.hid (NX.out.trans n)
  replace RN := Lib.hid (RN.out.kept n id)
  replace MX := Lib.hid (MX.out.kept n id)
  replace HLA := Lib.hid (HLA.out.kept n nof)
  replace HLB := Lib.hid (HLB.out.kept n nof)
  replace HLC := Lib.hid (HLC.out.kept n nof)
  replace HB0 := Lib.hid (n.heap HB0.out id)
  replace SZ := Nat.lt_of_lt_of_le SZ n.size
  replace HMb := Lib.hid ((HMb.out.kept n nof).hi n.size)
  replace HB8 := Lib.hid (n.heap HB8.out id)
  obtain ⟨g9, n9, c9, rfl⟩ := hvx
  obtain ⟨xw, xh, px0⟩ := x
  simp only at hx1 hx2
  rw [HBW.out] at hx1
  rw [HBH.out] at hx2
  subst hx1 hx2
  have h9 : n9 = px0.length := by obtain ⟨A, cap, e, -⟩ := isIm_form hx; simp at e; omega
  subst h9
  have HIX := Lib.hid hx
  have HOK := Lib.hid hok
  have LX := imOk_len hok
  have LG := imOk_ge hok e1 e3
  simp only at LX
  clear hx hok n
  simp only
  go_wp2_with (go_at_call 6; fail)
  refine Calls_nm ?_
  intro W7 hW
  have n : Nw w6 W7 := by rw [hW]; first | exact Ch.refl _ _ | exact (Ch.refl _ _).alloc _ | exact ((Ch.refl _ _).alloc _).alloc _
  replace NX := Lib.hid (NX.out.trans n)
  replace RN := Lib.hid (RN.out.kept n id)
  replace MX := Lib.hid (MX.out.kept n id)
  replace HLA := Lib.hid (HLA.out.kept n nof)
  replace HLB := Lib.hid (HLB.out.kept n nof)
  replace HLC := Lib.hid (HLC.out.kept n nof)
  replace HB0 := Lib.hid (n.heap HB0.out id)
  replace SZ := Nat.lt_of_lt_of_le SZ n.size
  replace HMb := Lib.hid ((HMb.out.kept n nof).hi n.size)
  replace HB8 := Lib.hid (n.heap HB8.out id)
  replace HIX := Lib.hid ((HIX.out.kept n nof).hi n.size)
  have HB9 := Lib.hid (show W7.heap[w6.heap.size]? = some (.cells #[.int .i64 (bw + 4), .int .i64 (bh + 4), .slice (some ⟨g9, 0, none⟩) px0.length c9] 25 (0, 0)) from by rw [hW]; exact heap_alloc_eq _ rfl)
  clear hW n
  refine imText_any W7.heap.size _ (bw + 4, bh + 4, px0) _ _ HIX.out (Nat.le_refl _) RN.out ?_
  intro w8 n
  replace NX := Lib.hid (NX.out.trans n)
  replace RN := Lib.hid (RN.out.kept n id)
  replace MX := Lib.hid (MX.out.kept n id)
  replace HLA := Lib.hid (HLA.out.kept n nof)
  replace HLB := Lib.hid (HLB.out.kept n nof)
  replace HLC := Lib.hid (HLC.out.kept n nof)
  replace HB0 := Lib.hid (n.heap HB0.out id)
  replace SZ := Nat.lt_of_lt_of_le SZ n.size
  replace HMb := Lib.hid ((HMb.out.kept n nof).hi n.size)
  replace HB8 := Lib.hid (n.heap HB8.out id)
  replace HIX := Lib.hid ((HIX.out.kept n nof).hi n.size)
  replace HB9 := Lib.hid (n.heap HB9.out id)
  clear n
  go_wp2_with (go_at_call 6; fail)
  refine Calls_nm ?_
  intro W9 hW
  have n : Nw w8 W9 := by rw [hW]; first | exact Ch.refl _ _ | exact (Ch.refl _ _).alloc _ | exact ((Ch.refl _ _).alloc _).alloc _
  replace NX := Lib.hid (NX.out.trans n)
  replace RN := Lib.hid (RN.out.kept n id)
  replace MX := Lib.hid (MX.out.kept n id)
  replace HLA := Lib.hid (HLA.out.kept n nof)
  replace HLB := Lib.hid (HLB.out.kept n nof)
  replace HLC := Lib.hid (HLC.out.kept n nof)
  replace HB0 := Lib.hid (n.heap HB0.out id)
  replace SZ := Nat.lt_of_lt_of_le SZ n.size
  replace HMb := Lib.hid ((HMb.out.kept n nof).hi n.size)
  replace HB8 := Lib.hid (n.heap HB8.out id)
  replace HIX := Lib.hid ((HIX.out.kept n nof).hi n.size)
  replace HB9 := Lib.hid (n.heap HB9.out id)
  clear hW n
  refine imParse_any _ _ _ RN.out MX.out (by have := textM_len HOK.out; simp only [ByteArray.size, List.size_toArray]; omega) ?_
  rw [show (⟨(textM (bw + 4, bh + 4, px0)).toArray⟩ : ByteArray).data.toList = textM (bw + 4, bh + 4, px0) from rfl, parse_text HOK.out (by simp only; omega) (by simp only; omega)]
  intro w10 v hi n
  replace NX := Lib.hid (NX.out.trans n)
  replace RN := Lib.hid (RN.out.kept n id)
  replace MX := Lib.hid (MX.out.kept n id)
  replace HLA := Lib.hid (HLA.out.kept n nof)
  replace HLB := Lib.hid (HLB.out.kept n nof)
  replace HLC := Lib.hid (HLC.out.kept n nof)
  replace HB0 := Lib.hid (n.heap HB0.out id)
  replace SZ := Nat.lt_of_lt_of_le SZ n.size
  replace HMb := Lib.hid ((HMb.out.kept n nof).hi n.size)
  replace HB8 := Lib.hid (n.heap HB8.out id)
  replace HIX := Lib.hid ((HIX.out.kept n nof).hi n.size)
  replace HB9 := Lib.hid (n.heap HB9.out id)
  obtain ⟨AY, cY, rfl, hI⟩ := isIm_formN (n := px0.length) hi rfl rfl rfl
  have HIY := Lib.hid hI
  clear hi hI n
  have kHB90 : w10.cell? ⟨w6.heap.size, 0, none⟩ = some (.int .i64 (bw + 4)) := by rw [cell_of HB9.out]; rfl
  have jHB90 : ∀ o, (w10.alloc o).cell? ⟨w6.heap.size, 0, none⟩ = some (.int .i64 (bw + 4)) := fun o => cell_alloc_old o kHB90
  have kHB91 : w10.cell? ⟨w6.heap.size, 1, none⟩ = some (.int .i64 (bh + 4)) := by rw [cell_of HB9.out]; rfl
  have jHB91 : ∀ o, (w10.alloc o).cell? ⟨w6.heap.size, 1, none⟩ = some (.int .i64 (bh + 4)) := fun o => cell_alloc_old o kHB91
  have kHB92 : w10.cell? ⟨w6.heap.size, 2, none⟩ = some (.slice (some ⟨g9, 0, none⟩) px0.length c9) := by rw [cell_of HB9.out]; rfl
  have jHB92 : ∀ o, (w10.alloc o).cell? ⟨w6.heap.size, 2, none⟩ = some (.slice (some ⟨g9, 0, none⟩) px0.length c9) := fun o => cell_alloc_old o kHB92
  go_wp2_with (go_at_call 6; fail)
  clear kHB90 jHB90 kHB91 jHB91 kHB92 jHB92
  refine Calls_nm ?_
  intro W11 hW
  have n : Nw w10 W11 := by rw [hW]; first | exact Ch.refl _ _ | exact (Ch.refl _ _).alloc _ | exact ((Ch.refl _ _).alloc _).alloc _
  replace NX := Lib.hid (NX.out.trans n)
  replace RN := Lib.hid (RN.out.kept n id)
  replace MX := Lib.hid (MX.out.kept n id)
  replace HLA := Lib.hid (HLA.out.kept n nof)
  replace HLB := Lib.hid (HLB.out.kept n nof)
  replace HLC := Lib.hid (HLC.out.kept n nof)
  replace HB0 := Lib.hid (n.heap HB0.out id)
  replace SZ := Nat.lt_of_lt_of_le SZ n.size
  replace HMb := Lib.hid ((HMb.out.kept n nof).hi n.size)
  replace HB8 := Lib.hid (n.heap HB8.out id)
  replace HIX := Lib.hid ((HIX.out.kept n nof).hi n.size)
  replace HB9 := Lib.hid (n.heap HB9.out id)
  replace HIY := Lib.hid ((HIY.out.kept n nof).hi n.size)
  have HBY := Lib.hid (show W11.heap[w10.heap.size]? = some (.cells #[.int .i64 (bw + 4), .int .i64 (bh + 4), .slice AY px0.length cY] 25 (0, 0)) from by rw [hW]; exact heap_alloc_eq _ rfl)
  clear hW n
  refine imSame_any W11.heap.size _ _ (bw + 4, bh + 4, px0) (bw + 4, bh + 4, px0) _ _ HIX.out HIY.out ?_
  rw [decide_eq_true rfl]
  intro w12 n
  replace NX := Lib.hid (NX.out.trans n)
  replace RN := Lib.hid (RN.out.kept n id)
  replace MX := Lib.hid (MX.out.kept n id)
  replace HLA := Lib.hid (HLA.out.kept n nof)
  replace HLB := Lib.hid (HLB.out.kept n nof)
  replace HLC := Lib.hid (HLC.out.kept n nof)
  replace HB0 := Lib.hid (n.heap HB0.out id)
  replace SZ := Nat.lt_of_lt_of_le SZ n.size
  replace HMb := Lib.hid ((HMb.out.kept n nof).hi n.size)
  replace HB8 := Lib.hid (n.heap HB8.out id)
  replace HIX := Lib.hid ((HIX.out.kept n nof).hi n.size)
  replace HB9 := Lib.hid (n.heap HB9.out id)
  replace HIY := Lib.hid ((HIY.out.kept n nof).hi n.size)
  replace HBY := Lib.hid (n.heap HBY.out id)
  clear n
  have kHB90 : w12.cell? ⟨w6.heap.size, 0, none⟩ = some (.int .i64 (bw + 4)) := by rw [cell_of HB9.out]; rfl
  have jHB90 : ∀ o, (w12.alloc o).cell? ⟨w6.heap.size, 0, none⟩ = some (.int .i64 (bw + 4)) := fun o => cell_alloc_old o kHB90
  have kHB91 : w12.cell? ⟨w6.heap.size, 1, none⟩ = some (.int .i64 (bh + 4)) := by rw [cell_of HB9.out]; rfl
  have jHB91 : ∀ o, (w12.alloc o).cell? ⟨w6.heap.size, 1, none⟩ = some (.int .i64 (bh + 4)) := fun o => cell_alloc_old o kHB91
  have kHB92 : w12.cell? ⟨w6.heap.size, 2, none⟩ = some (.slice (some ⟨g9, 0, none⟩) px0.length c9) := by rw [cell_of HB9.out]; rfl
  have jHB92 : ∀ o, (w12.alloc o).cell? ⟨w6.heap.size, 2, none⟩ = some (.slice (some ⟨g9, 0, none⟩) px0.length c9) := fun o => cell_alloc_old o kHB92
  have kHBY0 : w12.cell? ⟨w10.heap.size, 0, none⟩ = some (.int .i64 (bw + 4)) := by rw [cell_of HBY.out]; rfl
  have jHBY0 : ∀ o, (w12.alloc o).cell? ⟨w10.heap.size, 0, none⟩ = some (.int .i64 (bw + 4)) := fun o => cell_alloc_old o kHBY0
  have kHBY1 : w12.cell? ⟨w10.heap.size, 1, none⟩ = some (.int .i64 (bh + 4)) := by rw [cell_of HBY.out]; rfl
  have jHBY1 : ∀ o, (w12.alloc o).cell? ⟨w10.heap.size, 1, none⟩ = some (.int .i64 (bh + 4)) := fun o => cell_alloc_old o kHBY1
  have kHBY2 : w12.cell? ⟨w10.heap.size, 2, none⟩ = some (.slice AY px0.length cY) := by rw [cell_of HBY.out]; rfl
  have jHBY2 : ∀ o, (w12.alloc o).cell? ⟨w10.heap.size, 2, none⟩ = some (.slice AY px0.length cY) := fun o => cell_alloc_old o kHBY2
  go_wp2_with (go_at_call 6; fail)
  clear kHB90 jHB90 kHB91 jHB91 kHB92 jHB92 kHBY0 jHBY0 kHBY1 jHBY1 kHBY2 jHBY2
  refine Calls_nm ?_
  intro W13 hW
  have n : Nw w12 W13 := by rw [hW]; first | exact Ch.refl _ _ | exact (Ch.refl _ _).alloc _ | exact ((Ch.refl _ _).alloc _).alloc _
  replace NX := Lib.hid (NX.out.trans n)
  replace RN := Lib.hid (RN.out.kept n id)
  replace MX := Lib.hid (MX.out.kept n id)
  replace HLA := Lib.hid (HLA.out.kept n nof)
  replace HLB := Lib.hid (HLB.out.kept n nof)
  replace HLC := Lib.hid (HLC.out.kept n nof)
  replace HB0 := Lib.hid (n.heap HB0.out id)
  replace SZ := Nat.lt_of_lt_of_le SZ n.size
  replace HMb := Lib.hid ((HMb.out.kept n nof).hi n.size)
  replace HB8 := Lib.hid (n.heap HB8.out id)
  replace HIX := Lib.hid ((HIX.out.kept n nof).hi n.size)
  replace HB9 := Lib.hid (n.heap HB9.out id)
  replace HIY := Lib.hid ((HIY.out.kept n nof).hi n.size)
  replace HBY := Lib.hid (n.heap HBY.out id)
  clear hW n
  refine riSame_any W13.heap.size _ _ (bw + 4, bh + 4, px0) (bw + 4, bh + 4, px0) _ _ HIX.out HIY.out ?_
  rw [decide_eq_true rfl]
  intro w14 n
  replace NX := Lib.hid (NX.out.trans n)
  replace RN := Lib.hid (RN.out.kept n id)
  replace MX := Lib.hid (MX.out.kept n id)
  replace HLA := Lib.hid (HLA.out.kept n nof)
  replace HLB := Lib.hid (HLB.out.kept n nof)
  replace HLC := Lib.hid (HLC.out.kept n nof)
  replace HB0 := Lib.hid (n.heap HB0.out id)
  replace SZ := Nat.lt_of_lt_of_le SZ n.size
  replace HMb := Lib.hid ((HMb.out.kept n nof).hi n.size)
  replace HB8 := Lib.hid (n.heap HB8.out id)
  replace HIX := Lib.hid ((HIX.out.kept n nof).hi n.size)
  replace HB9 := Lib.hid (n.heap HB9.out id)
  replace HIY := Lib.hid ((HIY.out.kept n nof).hi n.size)
  replace HBY := Lib.hid (n.heap HBY.out id)
  clear n
  have kHB90 : w14.cell? ⟨w6.heap.size, 0, none⟩ = some (.int .i64 (bw + 4)) := by rw [cell_of HB9.out]; rfl
  have kHB91 : w14.cell? ⟨w6.heap.size, 1, none⟩ = some (.int .i64 (bh + 4)) := by rw [cell_of HB9.out]; rfl
  have kHB92 : w14.cell? ⟨w6.heap.size, 2, none⟩ = some (.slice (some ⟨g9, 0, none⟩) px0.length c9) := by rw [cell_of HB9.out]; rfl
  go_wp2_with (fail)
  clear kHB90 kHB91 kHB92
  have n0 : (0 : Int) ≤ (px0.length : Int) := by omega
  refine wp_named ?_
  intro W15 hW
  have n : Nw w14 W15 := by rw [hW]; first | exact Ch.refl _ _ | exact (Ch.refl _ _).alloc _ | exact ((Ch.refl _ _).alloc _).alloc _
  replace NX := Lib.hid (NX.out.trans n)
  replace RN := Lib.hid (RN.out.kept n id)
  replace MX := Lib.hid (MX.out.kept n id)
  replace HLA := Lib.hid (HLA.out.kept n nof)
  replace HLB := Lib.hid (HLB.out.kept n nof)
  replace HLC := Lib.hid (HLC.out.kept n nof)
  replace HB0 := Lib.hid (n.heap HB0.out id)
  replace SZ := Nat.lt_of_lt_of_le SZ n.size
  replace HMb := Lib.hid ((HMb.out.kept n nof).hi n.size)
  replace HB8 := Lib.hid (n.heap HB8.out id)
  replace HIX := Lib.hid ((HIX.out.kept n nof).hi n.size)
  replace HB9 := Lib.hid (n.heap HB9.out id)
  replace HIY := Lib.hid ((HIY.out.kept n nof).hi n.size)
  replace HBY := Lib.hid (n.heap HBY.out id)
  clear hW n
  go_loopw [10, 11, 57] (fun s10 _ s57 wr => ∃ (k : Nat), s57 = .int .i64 k ∧ s10 = .int .i64 (cnt (fun j => decide (px px0 j = 1)) k) ∧ k ≤ px0.length ∧ Hid (Nw W15 wr)) (fun _ _ s57 _ => px0.length - (intOf s57).toNat)
  case atStart => exact ⟨0, rfl, rfl, Nat.zero_le _, Lib.hid (Ch.refl _ _)⟩
  case round =>
    obtain ⟨k, rfl, rfl, hk, HC⟩ := hrel
    have k0 : (0 : Int) ≤ (k : Int) := by omega
    obtain ⟨wr0, hwr0⟩ : ∃ W : World, W = wr := ⟨_, rfl⟩
    subst hwr0
    replace NX := Lib.hid (NX.out.trans HC.out)
    replace RN := Lib.hid (RN.out.kept HC.out id)
    replace MX := Lib.hid (MX.out.kept HC.out id)
    replace HLA := Lib.hid (HLA.out.kept HC.out nof)
    replace HLB := Lib.hid (HLB.out.kept HC.out nof)
    replace HLC := Lib.hid (HLC.out.kept HC.out nof)
    replace HB0 := Lib.hid (HC.out.heap HB0.out id)
    replace SZ := Nat.lt_of_lt_of_le SZ HC.out.size
    replace HMb := Lib.hid ((HMb.out.kept HC.out nof).hi HC.out.size)
    replace HB8 := Lib.hid (HC.out.heap HB8.out id)
    replace HIX := Lib.hid ((HIX.out.kept HC.out nof).hi HC.out.size)
    replace HB9 := Lib.hid (HC.out.heap HB9.out id)
    replace HIY := Lib.hid ((HIY.out.kept HC.out nof).hi HC.out.size)
    replace HBY := Lib.hid (HC.out.heap HBY.out id)
    by_cases hlt : k < px0.length
    · obtain ⟨xk, hxk⟩ : ∃ x, px0[k]? = some x := ⟨_, List.getElem?_eq_getElem hlt⟩
      have k1 : (k : Int) < (px0.length : Int) := by omega
      have kx : wr0.cell? ⟨g9, k, none⟩ = some (.int .i64 xk) := by have := isIm_cell' HIX.out (i := k) (p := xk) hxk; rwa [Nat.zero_add] at this
      have hcnt : (cnt (fun j => decide (px px0 j = 1)) (k + 1) : Int) = (cnt (fun j => decide (px px0 j = 1)) k : Int) + if xk = 1 then 1 else 0 := by
        show ((cnt _ k + (if decide (px px0 k = 1) = true then 1 else 0) : Nat) : Int) = _
        rw [px_get hxk]
        by_cases h : xk = 1 <;> simp [h]
      have hcl := cnt_le (fun j => decide (px px0 j = 1)) k
      generalize hcN : cnt (fun j => decide (px px0 j = 1)) k = cN at hcnt hcl ⊢
      clear hcN hxk
      have kHB92 : wr0.cell? ⟨w6.heap.size, 2, none⟩ = some (.slice (some ⟨g9, 0, none⟩) px0.length c9) := by rw [cell_of HB9.out]; rfl
      by_cases hx1 : xk = 1
      · subst hx1
        have HCN := Lib.hid hcnt
        clear hcnt
        go_wp2_with fail
        refine ⟨⟨k + 1, by go_num, by rw [HCN.out]; simp, by omega, HC⟩, ?_⟩
        simp [intOf]; omega
      · rw [if_neg hx1] at hcnt
        have HCN := Lib.hid hcnt
        clear hcnt
        go_wp2_with fail
        refine ⟨⟨k + 1, by go_num, by rw [HCN.out]; simp, by omega, HC⟩, ?_⟩
        simp [intOf]; omega
    · as_aux_lemma =>
      obtain rfl : k = px0.length := by omega
      have hsh : shiftOk 1 (-1) := by decide
      have FD := fun h => fits_diff (x := (bw + 4, bh + 4, px0)) HEb.out hsh HOK.out (by show bw + 4 = bb.1 + 4; rw [HBW.out]) (by show bh + 4 = bb.2.1 + 4; rw [HBH.out]) h
      have FO : (fitsM (bw + 4, bh + 4, px0) bb 1 (-1)).2.2 = true := by unfold fitsM; rw [if_pos ⟨HEb.out, hsh, HOK.out, by show bw + 4 = bb.1 + 4; rw [HBW.out], by show bh + 4 = bb.2.1 + 4; rw [HBH.out]⟩]
      have FR : 0 ≤ (fitsM (bw + 4, bh + 4, px0) bb 1 (-1)).1 ∧ (fitsM (bw + 4, bh + 4, px0) bb 1 (-1)).1 ≤ 10000 ∧ 0 ≤ (fitsM (bw + 4, bh + 4, px0) bb 1 (-1)).2.1 ∧ (fitsM (bw + 4, bh + 4, px0) bb 1 (-1)).2.1 ≤ 10000 := by
        unfold fitsM
        split
        · have h1 := cnt_le (fun k => lostP (putL bb 1 (-1)) k (px px0 k)) px0.length
          have h2 := cnt_le (fun k => blotP (putL bb 1 (-1)) k (px px0 k)) px0.length
          simp only [lostN, blotN]
          omega
        · simp
      obtain ⟨FF, hFF⟩ : ∃ F, fitsM (bw + 4, bh + 4, px0) bb 1 (-1) = F := ⟨_, rfl⟩
      rw [hFF] at FD FO FR
      have HFF := Lib.hid hFF
      clear hFF
      obtain ⟨f1, f2, f3⟩ := FF
      simp only at FD FO FR
      subst FO
      obtain ⟨r1, r2, r3, r4⟩ := FR
      obtain ⟨kn, hkn⟩ : ∃ c, knownM (bw + 4, bh + 4, px0) = c := ⟨_, rfl⟩
      rw [hkn] at FD
      have HKN := Lib.hid hkn
      clear hkn
      obtain ⟨cB, hcB⟩ : ∃ c : Nat, cntD bb (fun _ => true) = c := ⟨_, rfl⟩
      rw [hcB] at FD
      have hcb2 : cB ≤ 10000 := by
        rw [← hcB]
        unfold cntD
        have h1 := dotsB_len bb
        have h2 := List.length_filter_le (fun _ => true) (dotsB bb)
        obtain ⟨x1, x2, x3⟩ := bmE_ok HEb.out
        have := (mul96 (a := bb.1) (b := bb.2.1) ⟨x1.1, by omega⟩ ⟨x2.1, by omega⟩).2
        omega
      have HCB := Lib.hid hcB
      clear hcB
      have hcl := cnt_le (fun j => decide (px px0 j = 1)) px0.length
      generalize cnt (fun j => decide (px px0 j = 1)) px0.length = cN at FD hcl ⊢
      have hbl : bb.2.2.length ≤ 1000000000 := by
        obtain ⟨x1, x2, x3⟩ := bmE_ok HEb.out
        have := (mul96 (a := bb.1) (b := bb.2.1) ⟨x1.1, by omega⟩ ⟨x2.1, by omega⟩).2
        omega
      have kHB90 : wr0.cell? ⟨w6.heap.size, 0, none⟩ = some (.int .i64 (bw + 4)) := by rw [cell_of HB9.out]; rfl
      have jHB90 : ∀ o, (wr0.alloc o).cell? ⟨w6.heap.size, 0, none⟩ = some (.int .i64 (bw + 4)) := fun o => cell_alloc_old o kHB90
      have kHB91 : wr0.cell? ⟨w6.heap.size, 1, none⟩ = some (.int .i64 (bh + 4)) := by rw [cell_of HB9.out]; rfl
      have jHB91 : ∀ o, (wr0.alloc o).cell? ⟨w6.heap.size, 1, none⟩ = some (.int .i64 (bh + 4)) := fun o => cell_alloc_old o kHB91
      have kHB92 : wr0.cell? ⟨w6.heap.size, 2, none⟩ = some (.slice (some ⟨g9, 0, none⟩) px0.length c9) := by rw [cell_of HB9.out]; rfl
      have jHB92 : ∀ o, (wr0.alloc o).cell? ⟨w6.heap.size, 2, none⟩ = some (.slice (some ⟨g9, 0, none⟩) px0.length c9) := fun o => cell_alloc_old o kHB92
      have kHB80 : wr0.cell? ⟨w4.heap.size, 0, none⟩ = some (.int .i64 bw) := by rw [cell_of HB8.out]; rfl
      have jHB80 : ∀ o, (wr0.alloc o).cell? ⟨w4.heap.size, 0, none⟩ = some (.int .i64 bw) := fun o => cell_alloc_old o kHB80
      have kHB81 : wr0.cell? ⟨w4.heap.size, 1, none⟩ = some (.int .i64 bh) := by rw [cell_of HB8.out]; rfl
      have jHB81 : ∀ o, (wr0.alloc o).cell? ⟨w4.heap.size, 1, none⟩ = some (.int .i64 bh) := fun o => cell_alloc_old o kHB81
      have kHB82 : wr0.cell? ⟨w4.heap.size, 2, none⟩ = some (.slice (some Ab) nb nb) := by rw [cell_of HB8.out]; rfl
      have jHB82 : ∀ o, (wr0.alloc o).cell? ⟨w4.heap.size, 2, none⟩ = some (.slice (some Ab) nb nb) := fun o => cell_alloc_old o kHB82
      go_wp2_with (go_at_call 6; fail)
      clear kHB90 jHB90 kHB91 jHB91 kHB92 jHB92 kHB80 jHB80 kHB81 jHB81 kHB82 jHB82
      refine imFits_any wr0.heap.size _ (bw + 4, bh + 4, px0) _ bb 1 (-1) _ _ HIX.out HMb.out (by unfold wfI; omega) (by unfold wfI; omega) (Nat.le_refl _) ?_
      rw [HFF.out]
      intro w16 n
      replace NX := Lib.hid (NX.out.trans n)
      replace RN := Lib.hid (RN.out.kept n id)
      replace MX := Lib.hid (MX.out.kept n id)
      replace HLA := Lib.hid (HLA.out.kept n nof)
      replace HLB := Lib.hid (HLB.out.kept n nof)
      replace HLC := Lib.hid (HLC.out.kept n nof)
      replace HB0 := Lib.hid (n.heap HB0.out id)
      replace SZ := Nat.lt_of_lt_of_le SZ n.size
      replace HMb := Lib.hid ((HMb.out.kept n nof).hi n.size)
      replace HB8 := Lib.hid (n.heap HB8.out id)
      replace HIX := Lib.hid ((HIX.out.kept n nof).hi n.size)
      replace HB9 := Lib.hid (n.heap HB9.out id)
      replace HIY := Lib.hid ((HIY.out.kept n nof).hi n.size)
      replace HBY := Lib.hid (n.heap HBY.out id)
      clear n
      go_upto_region 16 with (fail)
      refine wp_named ?_
      intro W17 hW
      have n : Nw w16 W17 := by rw [hW]; first | exact Ch.refl _ _ | exact (Ch.refl _ _).alloc _ | exact ((Ch.refl _ _).alloc _).alloc _
      replace NX := Lib.hid (NX.out.trans n)
      replace RN := Lib.hid (RN.out.kept n id)
      replace MX := Lib.hid (MX.out.kept n id)
      replace HLA := Lib.hid (HLA.out.kept n nof)
      replace HLB := Lib.hid (HLB.out.kept n nof)
      replace HLC := Lib.hid (HLC.out.kept n nof)
      replace HB0 := Lib.hid (n.heap HB0.out id)
      replace SZ := Nat.lt_of_lt_of_le SZ n.size
      replace HMb := Lib.hid ((HMb.out.kept n nof).hi n.size)
      replace HB8 := Lib.hid (n.heap HB8.out id)
      replace HIX := Lib.hid ((HIX.out.kept n nof).hi n.size)
      replace HB9 := Lib.hid (n.heap HB9.out id)
      replace HIY := Lib.hid ((HIY.out.kept n nof).hi n.size)
      replace HBY := Lib.hid (n.heap HBY.out id)
      clear hW n
      go_cut [95] (fun s95 wx => s95 = .bool false ∧ Hid (Nw W17 wx))
      case first => as_aux_lemma =>
        by_cases hk : kn = (px0.length : Int)
        · have fd := FD hk
          subst hk
          have ew1 : IntKind.i64.wrap (f1 - f2) = f1 - f2 := by rw [IntKind.wrap_i64]; omega
          have ew2 : IntKind.i64.wrap ((cB : Int) - (cN : Int)) = f1 - f2 := by rw [IntKind.wrap_i64]; omega
          clear fd FD
          have NW0 := Lib.hid (Ch.refl (fun _ => False) W17)
          refine wp_named ?_
          intro W18 hW
          have n : Nw W17 W18 := by rw [hW]; first | exact Ch.refl _ _ | exact (Ch.refl _ _).alloc _
          replace NX := Lib.hid (NX.out.trans n)
          replace RN := Lib.hid (RN.out.kept n id)
          replace MX := Lib.hid (MX.out.kept n id)
          replace HLA := Lib.hid (HLA.out.kept n nof)
          replace HLB := Lib.hid (HLB.out.kept n nof)
          replace HLC := Lib.hid (HLC.out.kept n nof)
          replace HB0 := Lib.hid (n.heap HB0.out id)
          replace SZ := Nat.lt_of_lt_of_le SZ n.size
          replace HMb := Lib.hid ((HMb.out.kept n nof).hi n.size)
          replace HB8 := Lib.hid (n.heap HB8.out id)
          replace HIX := Lib.hid ((HIX.out.kept n nof).hi n.size)
          replace HB9 := Lib.hid (n.heap HB9.out id)
          replace HIY := Lib.hid ((HIY.out.kept n nof).hi n.size)
          replace HBY := Lib.hid (n.heap HBY.out id)
          replace NW0 := Lib.hid (NW0.out.trans n)
          clear hW n
          refine wp_region_U (F := fun w' => w'.cell? ⟨w6.heap.size, 0, none⟩ = some (.int .i64 (bw + 4)) ∧ w'.cell? ⟨w6.heap.size, 1, none⟩ = some (.int .i64 (bh + 4)) ∧ w'.cell? ⟨w6.heap.size, 2, none⟩ = some (.slice (some ⟨g9, 0, none⟩) px0.length c9) ∧ w'.cell? ⟨w4.heap.size, 0, none⟩ = some (.int .i64 bw) ∧ w'.cell? ⟨w4.heap.size, 1, none⟩ = some (.int .i64 bh) ∧ w'.cell? ⟨w4.heap.size, 2, none⟩ = some (.slice (some Ab) nb nb)) (opsOf Tryd.f7 16) 20 20 (by kernel_rfl) (by kernel_rfl) (by kernel_rfl) ⟨by show W18.cell? _ = _; rw [cell_of HB9.out]; rfl, by show W18.cell? _ = _; rw [cell_of HB9.out]; rfl, by show W18.cell? _ = _; rw [cell_of HB9.out]; rfl, by show W18.cell? _ = _; rw [cell_of HB8.out]; rfl, by show W18.cell? _ = _; rw [cell_of HB8.out]; rfl, by show W18.cell? _ = _; rw [cell_of HB8.out]; rfl⟩ (fun HOPS hHeld => ?_)
          refine wpT_named ?_
          intro W19 hW
          rw [← hW] at hHeld
          have n : Nw W18 W19 := by rw [hW]; exact (Ch.refl _ _).drew
          replace NX := Lib.hid (NX.out.trans n)
          replace RN := Lib.hid (RN.out.kept n id)
          replace MX := Lib.hid (MX.out.kept n id)
          replace HLA := Lib.hid (HLA.out.kept n nof)
          replace HLB := Lib.hid (HLB.out.kept n nof)
          replace HLC := Lib.hid (HLC.out.kept n nof)
          replace HB0 := Lib.hid (n.heap HB0.out id)
          replace SZ := Nat.lt_of_lt_of_le SZ n.size
          replace HMb := Lib.hid ((HMb.out.kept n nof).hi n.size)
          replace HB8 := Lib.hid (n.heap HB8.out id)
          replace HIX := Lib.hid ((HIX.out.kept n nof).hi n.size)
          replace HB9 := Lib.hid (n.heap HB9.out id)
          replace HIY := Lib.hid ((HIY.out.kept n nof).hi n.size)
          replace HBY := Lib.hid (n.heap HBY.out id)
          replace NW0 := Lib.hid (NW0.out.trans n)
          clear hW n
          first | (refine wpT_takeB (i := 0) (v := ?_) HOPS rfl (by kernel_rfl) (fun _ _ _ h => h) (Or.inl ⟨by rfl, ?hy⟩) (by assumption) ?_; case hy => (intro w hSw; (try dsimp only at hSw); go_simp; (try with_reducible rfl))) | (refine wpT_takeB (i := 0) (v := _) HOPS rfl (by kernel_rfl) (fun _ _ _ h => h) (Or.inr ⟨by rfl, rfl⟩) (by assumption) ?_)
          try simp only [Act.put, List.getElem_toArray, List.getElem_cons_succ, List.getElem_cons_zero, List.setIfInBounds_toArray, List.set_cons_zero, List.set_cons_succ]
          first | (refine wpT_takeB (i := 1) (v := ?_) HOPS rfl (by kernel_rfl) (fun _ _ _ h => h) (Or.inl ⟨by rfl, ?hy⟩) (by assumption) ?_; case hy => (intro w hSw; (try dsimp only at hSw); go_simp; (try with_reducible rfl))) | (refine wpT_takeB (i := 1) (v := _) HOPS rfl (by kernel_rfl) (fun _ _ _ h => h) (Or.inr ⟨by rfl, rfl⟩) (by assumption) ?_)
          try simp only [Act.put, List.getElem_toArray, List.getElem_cons_succ, List.getElem_cons_zero, List.setIfInBounds_toArray, List.set_cons_zero, List.set_cons_succ]
          first | (refine wpT_takeB (i := 2) (v := ?_) HOPS rfl (by kernel_rfl) (fun _ _ _ h => h) (Or.inl ⟨by rfl, ?hy⟩) (by assumption) ?_; case hy => (intro w hSw; (try dsimp only at hSw); go_simp; (try with_reducible rfl))) | (refine wpT_takeB (i := 2) (v := _) HOPS rfl (by kernel_rfl) (fun _ _ _ h => h) (Or.inr ⟨by rfl, rfl⟩) (by assumption) ?_)
          try simp only [Act.put, List.getElem_toArray, List.getElem_cons_succ, List.getElem_cons_zero, List.setIfInBounds_toArray, List.set_cons_zero, List.set_cons_succ]
          first | (refine wpT_takeB (i := 3) (v := ?_) HOPS rfl (by kernel_rfl) (fun _ _ _ h => h) (Or.inl ⟨by rfl, ?hy⟩) (by assumption) ?_; case hy => (intro w hSw; (try dsimp only at hSw); go_simp; (try with_reducible rfl))) | (refine wpT_takeB (i := 3) (v := _) HOPS rfl (by kernel_rfl) (fun _ _ _ h => h) (Or.inr ⟨by rfl, rfl⟩) (by assumption) ?_)
          try simp only [Act.put, List.getElem_toArray, List.getElem_cons_succ, List.getElem_cons_zero, List.setIfInBounds_toArray, List.set_cons_zero, List.set_cons_succ]
          first | (refine wpT_takeB (i := 5) (v := ?_) HOPS rfl (by kernel_rfl) (fun _ _ _ h => h) (Or.inl ⟨by rfl, ?hy⟩) (by assumption) ?_; case hy => (intro w hSw; (try dsimp only at hSw); go_simp; (try with_reducible rfl))) | (refine wpT_takeB (i := 5) (v := _) HOPS rfl (by kernel_rfl) (fun _ _ _ h => h) (Or.inr ⟨by rfl, rfl⟩) (by assumption) ?_)
          try simp only [Act.put, List.getElem_toArray, List.getElem_cons_succ, List.getElem_cons_zero, List.setIfInBounds_toArray, List.set_cons_zero, List.set_cons_succ]
          first | (refine wpT_takeB (i := 6) (v := ?_) HOPS rfl (by kernel_rfl) (fun _ _ _ h => h) (Or.inl ⟨by rfl, ?hy⟩) (by assumption) ?_; case hy => (intro w hSw; (try dsimp only at hSw); go_simp; (try with_reducible rfl))) | (refine wpT_takeB (i := 6) (v := _) HOPS rfl (by kernel_rfl) (fun _ _ _ h => h) (Or.inr ⟨by rfl, rfl⟩) (by assumption) ?_)
          try simp only [Act.put, List.getElem_toArray, List.getElem_cons_succ, List.getElem_cons_zero, List.setIfInBounds_toArray, List.set_cons_zero, List.set_cons_succ]
          first | (refine wpT_takeB (i := 7) (v := ?_) HOPS rfl (by kernel_rfl) (fun _ _ _ h => h) (Or.inl ⟨by rfl, ?hy⟩) (by assumption) ?_; case hy => (intro w hSw; (try dsimp only at hSw); go_simp; (try with_reducible rfl))) | (refine wpT_takeB (i := 7) (v := _) HOPS rfl (by kernel_rfl) (fun _ _ _ h => h) (Or.inr ⟨by rfl, rfl⟩) (by assumption) ?_)
          try simp only [Act.put, List.getElem_toArray, List.getElem_cons_succ, List.getElem_cons_zero, List.setIfInBounds_toArray, List.set_cons_zero, List.set_cons_succ]
          refine wpT_ready (rs := [4]) (by kernel_rfl) (by simp) ?_
          refine ReadyT.consB HOPS rfl (by rfl) (fun K hK => ?_) ReadyT.nil
          go_simp
          go_at_call 24
          refine imKnown_any W19.heap.size _ (bw + 4, bh + 4, px0) _ _ HIX.out ?_
          rw [HKN.out]
          intro w20 n
          replace NX := Lib.hid (NX.out.trans n)
          replace RN := Lib.hid (RN.out.kept n id)
          replace MX := Lib.hid (MX.out.kept n id)
          replace HLA := Lib.hid (HLA.out.kept n nof)
          replace HLB := Lib.hid (HLB.out.kept n nof)
          replace HLC := Lib.hid (HLC.out.kept n nof)
          replace HB0 := Lib.hid (n.heap HB0.out id)
          replace SZ := Nat.lt_of_lt_of_le SZ n.size
          replace HMb := Lib.hid ((HMb.out.kept n nof).hi n.size)
          replace HB8 := Lib.hid (n.heap HB8.out id)
          replace HIX := Lib.hid ((HIX.out.kept n nof).hi n.size)
          replace HB9 := Lib.hid (n.heap HB9.out id)
          replace HIY := Lib.hid ((HIY.out.kept n nof).hi n.size)
          replace HBY := Lib.hid (n.heap HBY.out id)
          replace NW0 := Lib.hid (NW0.out.trans n)
          clear n
          refine hK.out _ _ ⟨by show w20.cell? _ = _; rw [cell_of HB9.out]; rfl, by show w20.cell? _ = _; rw [cell_of HB9.out]; rfl, by show w20.cell? _ = _; rw [cell_of HB9.out]; rfl, by show w20.cell? _ = _; rw [cell_of HB8.out]; rfl, by show w20.cell? _ = _; rw [cell_of HB8.out]; rfl, by show w20.cell? _ = _; rw [cell_of HB8.out]; rfl⟩ (fun hHeld => ?_)
          clear hK K
          try simp only [Act.put, List.getElem_toArray, List.getElem_cons_succ, List.getElem_cons_zero, List.setIfInBounds_toArray, List.set_cons_zero, List.set_cons_succ]
          first | (refine wpT_takeB (i := 8) (v := ?_) HOPS rfl (by kernel_rfl) (fun _ _ _ h => h) (Or.inl ⟨by rfl, ?hy⟩) (by assumption) ?_; case hy => (intro w hSw; (try dsimp only at hSw); go_simp; (try with_reducible rfl))) | (refine wpT_takeB (i := 8) (v := _) HOPS rfl (by kernel_rfl) (fun _ _ _ h => h) (Or.inr ⟨by rfl, rfl⟩) (by assumption) ?_)
          try simp only [Act.put, List.getElem_toArray, List.getElem_cons_succ, List.getElem_cons_zero, List.setIfInBounds_toArray, List.set_cons_zero, List.set_cons_succ]
          first | (refine wpT_takeB (i := 9) (v := ?_) HOPS rfl (by kernel_rfl) (fun _ _ _ h => h) (Or.inl ⟨by rfl, ?hy⟩) (by assumption) ?_; case hy => (intro w hSw; (try dsimp only at hSw); go_simp; (try with_reducible rfl))) | (refine wpT_takeB (i := 9) (v := _) HOPS rfl (by kernel_rfl) (fun _ _ _ h => h) (Or.inr ⟨by rfl, rfl⟩) (by assumption) ?_)
          try simp only [Act.put, List.getElem_toArray, List.getElem_cons_succ, List.getElem_cons_zero, List.setIfInBounds_toArray, List.set_cons_zero, List.set_cons_succ]
          first | (refine wpT_takeB (i := 10) (v := ?_) HOPS rfl (by kernel_rfl) (fun _ _ _ h => h) (Or.inl ⟨by rfl, ?hy⟩) (by assumption) ?_; case hy => (intro w hSw; (try dsimp only at hSw); go_simp; (try with_reducible rfl))) | (refine wpT_takeB (i := 10) (v := _) HOPS rfl (by kernel_rfl) (fun _ _ _ h => h) (Or.inr ⟨by rfl, rfl⟩) (by assumption) ?_)
          try simp only [Act.put, List.getElem_toArray, List.getElem_cons_succ, List.getElem_cons_zero, List.setIfInBounds_toArray, List.set_cons_zero, List.set_cons_succ]
          first | (refine wpT_takeB (i := 11) (v := ?_) HOPS rfl (by kernel_rfl) (fun _ _ _ h => h) (Or.inl ⟨by rfl, ?hy⟩) (by assumption) ?_; case hy => (intro w hSw; (try dsimp only at hSw); go_simp; (try with_reducible rfl))) | (refine wpT_takeB (i := 11) (v := _) HOPS rfl (by kernel_rfl) (fun _ _ _ h => h) (Or.inr ⟨by rfl, rfl⟩) (by assumption) ?_)
          try simp only [Act.put, List.getElem_toArray, List.getElem_cons_succ, List.getElem_cons_zero, List.setIfInBounds_toArray, List.set_cons_zero, List.set_cons_succ]
          first | (refine wpT_takeB (i := 12) (v := ?_) HOPS rfl (by kernel_rfl) (fun _ _ _ h => h) (Or.inl ⟨by rfl, ?hy⟩) (by assumption) ?_; case hy => (intro w hSw; (try dsimp only at hSw); go_simp; (try with_reducible rfl))) | (refine wpT_takeB (i := 12) (v := _) HOPS rfl (by kernel_rfl) (fun _ _ _ h => h) (Or.inr ⟨by rfl, rfl⟩) (by assumption) ?_)
          try simp only [Act.put, List.getElem_toArray, List.getElem_cons_succ, List.getElem_cons_zero, List.setIfInBounds_toArray, List.set_cons_zero, List.set_cons_succ]
          first | (refine wpT_takeB (i := 13) (v := ?_) HOPS rfl (by kernel_rfl) (fun _ _ _ h => h) (Or.inl ⟨by rfl, ?hy⟩) (by assumption) ?_; case hy => (intro w hSw; (try dsimp only at hSw); go_simp; (try with_reducible rfl))) | (refine wpT_takeB (i := 13) (v := _) HOPS rfl (by kernel_rfl) (fun _ _ _ h => h) (Or.inr ⟨by rfl, rfl⟩) (by assumption) ?_)
          try simp only [Act.put, List.getElem_toArray, List.getElem_cons_succ, List.getElem_cons_zero, List.setIfInBounds_toArray, List.set_cons_zero, List.set_cons_succ]
          first | (refine wpT_takeB (i := 15) (v := ?_) HOPS rfl (by kernel_rfl) (fun _ _ _ h => h) (Or.inl ⟨by rfl, ?hy⟩) (by assumption) ?_; case hy => (intro w hSw; (try dsimp only at hSw); go_simp; (try with_reducible rfl))) | (refine wpT_takeB (i := 15) (v := _) HOPS rfl (by kernel_rfl) (fun _ _ _ h => h) (Or.inr ⟨by rfl, rfl⟩) (by assumption) ?_)
          try simp only [Act.put, List.getElem_toArray, List.getElem_cons_succ, List.getElem_cons_zero, List.setIfInBounds_toArray, List.set_cons_zero, List.set_cons_succ]
          refine wpT_ready (rs := [14]) (by kernel_rfl) (by simp) ?_
          refine ReadyT.consB HOPS rfl (by rfl) (fun K hK => ?_) ReadyT.nil
          go_simp
          go_at_call 34
          refine Count_any w20.heap.size _ bb _ _ HMb.out (Nat.le_refl _) hbl ?_
          rw [HCB.out]
          intro w21 n
          replace NX := Lib.hid (NX.out.trans n)
          replace RN := Lib.hid (RN.out.kept n id)
          replace MX := Lib.hid (MX.out.kept n id)
          replace HLA := Lib.hid (HLA.out.kept n nof)
          replace HLB := Lib.hid (HLB.out.kept n nof)
          replace HLC := Lib.hid (HLC.out.kept n nof)
          replace HB0 := Lib.hid (n.heap HB0.out id)
          replace SZ := Nat.lt_of_lt_of_le SZ n.size
          replace HMb := Lib.hid ((HMb.out.kept n nof).hi n.size)
          replace HB8 := Lib.hid (n.heap HB8.out id)
          replace HIX := Lib.hid ((HIX.out.kept n nof).hi n.size)
          replace HB9 := Lib.hid (n.heap HB9.out id)
          replace HIY := Lib.hid ((HIY.out.kept n nof).hi n.size)
          replace HBY := Lib.hid (n.heap HBY.out id)
          replace NW0 := Lib.hid (NW0.out.trans n)
          clear n
          refine hK.out _ _ ⟨by show w21.cell? _ = _; rw [cell_of HB9.out]; rfl, by show w21.cell? _ = _; rw [cell_of HB9.out]; rfl, by show w21.cell? _ = _; rw [cell_of HB9.out]; rfl, by show w21.cell? _ = _; rw [cell_of HB8.out]; rfl, by show w21.cell? _ = _; rw [cell_of HB8.out]; rfl, by show w21.cell? _ = _; rw [cell_of HB8.out]; rfl⟩ (fun hHeld => ?_)
          clear hK K
          try simp only [Act.put, List.getElem_toArray, List.getElem_cons_succ, List.getElem_cons_zero, List.setIfInBounds_toArray, List.set_cons_zero, List.set_cons_succ]
          first | (refine wpT_takeB (i := 16) (v := ?_) HOPS rfl (by kernel_rfl) (fun _ _ _ h => h) (Or.inl ⟨by rfl, ?hy⟩) (by assumption) ?_; case hy => (intro w hSw; (try dsimp only at hSw); go_simp; (try with_reducible rfl))) | (refine wpT_takeB (i := 16) (v := _) HOPS rfl (by kernel_rfl) (fun _ _ _ h => h) (Or.inr ⟨by rfl, rfl⟩) (by assumption) ?_)
          try simp only [Act.put, List.getElem_toArray, List.getElem_cons_succ, List.getElem_cons_zero, List.setIfInBounds_toArray, List.set_cons_zero, List.set_cons_succ]
          first | (refine wpT_takeB (i := 17) (v := ?_) HOPS rfl (by kernel_rfl) (fun _ _ _ h => h) (Or.inl ⟨by rfl, ?hy⟩) (by assumption) ?_; case hy => (intro w hSw; (try dsimp only at hSw); go_simp; (try with_reducible rfl))) | (refine wpT_takeB (i := 17) (v := _) HOPS rfl (by kernel_rfl) (fun _ _ _ h => h) (Or.inr ⟨by rfl, rfl⟩) (by assumption) ?_)
          try simp only [Act.put, List.getElem_toArray, List.getElem_cons_succ, List.getElem_cons_zero, List.setIfInBounds_toArray, List.set_cons_zero, List.set_cons_succ]
          first | (refine wpT_takeB (i := 18) (v := ?_) HOPS rfl (by kernel_rfl) (fun _ _ _ h => h) (Or.inl ⟨by rfl, ?hy⟩) (by assumption) ?_; case hy => (intro w hSw; (try dsimp only at hSw); go_simp; (try with_reducible rfl))) | (refine wpT_takeB (i := 18) (v := _) HOPS rfl (by kernel_rfl) (fun _ _ _ h => h) (Or.inr ⟨by rfl, rfl⟩) (by assumption) ?_)
          try simp only [Act.put, List.getElem_toArray, List.getElem_cons_succ, List.getElem_cons_zero, List.setIfInBounds_toArray, List.set_cons_zero, List.set_cons_succ]
          first | (refine wpT_takeB (i := 19) (v := ?_) HOPS rfl (by kernel_rfl) (fun _ _ _ h => h) (Or.inl ⟨by rfl, ?hy⟩) (by assumption) ?_; case hy => (intro w hSw; (try dsimp only at hSw); go_simp; (try with_reducible rfl))) | (refine wpT_takeB (i := 19) (v := _) HOPS rfl (by kernel_rfl) (fun _ _ _ h => h) (Or.inr ⟨by rfl, rfl⟩) (by assumption) ?_)
          try simp only [Act.put, List.getElem_toArray, List.getElem_cons_succ, List.getElem_cons_zero, List.setIfInBounds_toArray, List.set_cons_zero, List.set_cons_succ]
          refine wpT_done (by kernel_rfl) ?_ _
          clear HOPS
          repeat clear hHeld
          go_wp2_with fail
          go_meet
          exact ⟨by simp, NW0⟩
        · have hk1 : (kn == (px0.length : Int)) = false := by simp [hk]
          have hk2 : decide (kn = (px0.length : Int)) = false := decide_eq_false hk
          clear FD
          have NW0 := Lib.hid (Ch.refl (fun _ => False) W17)
          refine wp_named ?_
          intro W22 hW
          have n : Nw W17 W22 := by rw [hW]; first | exact Ch.refl _ _ | exact (Ch.refl _ _).alloc _
          replace NX := Lib.hid (NX.out.trans n)
          replace RN := Lib.hid (RN.out.kept n id)
          replace MX := Lib.hid (MX.out.kept n id)
          replace HLA := Lib.hid (HLA.out.kept n nof)
          replace HLB := Lib.hid (HLB.out.kept n nof)
          replace HLC := Lib.hid (HLC.out.kept n nof)
          replace HB0 := Lib.hid (n.heap HB0.out id)
          replace SZ := Nat.lt_of_lt_of_le SZ n.size
          replace HMb := Lib.hid ((HMb.out.kept n nof).hi n.size)
          replace HB8 := Lib.hid (n.heap HB8.out id)
          replace HIX := Lib.hid ((HIX.out.kept n nof).hi n.size)
          replace HB9 := Lib.hid (n.heap HB9.out id)
          replace HIY := Lib.hid ((HIY.out.kept n nof).hi n.size)
          replace HBY := Lib.hid (n.heap HBY.out id)
          replace NW0 := Lib.hid (NW0.out.trans n)
          clear hW n
          refine wp_region_U (F := fun w' => w'.cell? ⟨w6.heap.size, 0, none⟩ = some (.int .i64 (bw + 4)) ∧ w'.cell? ⟨w6.heap.size, 1, none⟩ = some (.int .i64 (bh + 4)) ∧ w'.cell? ⟨w6.heap.size, 2, none⟩ = some (.slice (some ⟨g9, 0, none⟩) px0.length c9) ∧ w'.cell? ⟨w4.heap.size, 0, none⟩ = some (.int .i64 bw) ∧ w'.cell? ⟨w4.heap.size, 1, none⟩ = some (.int .i64 bh) ∧ w'.cell? ⟨w4.heap.size, 2, none⟩ = some (.slice (some Ab) nb nb)) (opsOf Tryd.f7 16) 20 20 (by kernel_rfl) (by kernel_rfl) (by kernel_rfl) ⟨by show W22.cell? _ = _; rw [cell_of HB9.out]; rfl, by show W22.cell? _ = _; rw [cell_of HB9.out]; rfl, by show W22.cell? _ = _; rw [cell_of HB9.out]; rfl, by show W22.cell? _ = _; rw [cell_of HB8.out]; rfl, by show W22.cell? _ = _; rw [cell_of HB8.out]; rfl, by show W22.cell? _ = _; rw [cell_of HB8.out]; rfl⟩ (fun HOPS hHeld => ?_)
          refine wpT_named ?_
          intro W23 hW
          rw [← hW] at hHeld
          have n : Nw W22 W23 := by rw [hW]; exact (Ch.refl _ _).drew
          replace NX := Lib.hid (NX.out.trans n)
          replace RN := Lib.hid (RN.out.kept n id)
          replace MX := Lib.hid (MX.out.kept n id)
          replace HLA := Lib.hid (HLA.out.kept n nof)
          replace HLB := Lib.hid (HLB.out.kept n nof)
          replace HLC := Lib.hid (HLC.out.kept n nof)
          replace HB0 := Lib.hid (n.heap HB0.out id)
          replace SZ := Nat.lt_of_lt_of_le SZ n.size
          replace HMb := Lib.hid ((HMb.out.kept n nof).hi n.size)
          replace HB8 := Lib.hid (n.heap HB8.out id)
          replace HIX := Lib.hid ((HIX.out.kept n nof).hi n.size)
          replace HB9 := Lib.hid (n.heap HB9.out id)
          replace HIY := Lib.hid ((HIY.out.kept n nof).hi n.size)
          replace HBY := Lib.hid (n.heap HBY.out id)
          replace NW0 := Lib.hid (NW0.out.trans n)
          clear hW n
          first | (refine wpT_takeB (i := 0) (v := ?_) HOPS rfl (by kernel_rfl) (fun _ _ _ h => h) (Or.inl ⟨by rfl, ?hy⟩) (by assumption) ?_; case hy => (intro w hSw; (try dsimp only at hSw); go_simp; (try with_reducible rfl))) | (refine wpT_takeB (i := 0) (v := _) HOPS rfl (by kernel_rfl) (fun _ _ _ h => h) (Or.inr ⟨by rfl, rfl⟩) (by assumption) ?_)
          try simp only [Act.put, List.getElem_toArray, List.getElem_cons_succ, List.getElem_cons_zero, List.setIfInBounds_toArray, List.set_cons_zero, List.set_cons_succ]
          first | (refine wpT_takeB (i := 1) (v := ?_) HOPS rfl (by kernel_rfl) (fun _ _ _ h => h) (Or.inl ⟨by rfl, ?hy⟩) (by assumption) ?_; case hy => (intro w hSw; (try dsimp only at hSw); go_simp; (try with_reducible rfl))) | (refine wpT_takeB (i := 1) (v := _) HOPS rfl (by kernel_rfl) (fun _ _ _ h => h) (Or.inr ⟨by rfl, rfl⟩) (by assumption) ?_)
          try simp only [Act.put, List.getElem_toArray, List.getElem_cons_succ, List.getElem_cons_zero, List.setIfInBounds_toArray, List.set_cons_zero, List.set_cons_succ]
          first | (refine wpT_takeB (i := 2) (v := ?_) HOPS rfl (by kernel_rfl) (fun _ _ _ h => h) (Or.inl ⟨by rfl, ?hy⟩) (by assumption) ?_; case hy => (intro w hSw; (try dsimp only at hSw); go_simp; (try with_reducible rfl))) | (refine wpT_takeB (i := 2) (v := _) HOPS rfl (by kernel_rfl) (fun _ _ _ h => h) (Or.inr ⟨by rfl, rfl⟩) (by assumption) ?_)
          try simp only [Act.put, List.getElem_toArray, List.getElem_cons_succ, List.getElem_cons_zero, List.setIfInBounds_toArray, List.set_cons_zero, List.set_cons_succ]
          first | (refine wpT_takeB (i := 3) (v := ?_) HOPS rfl (by kernel_rfl) (fun _ _ _ h => h) (Or.inl ⟨by rfl, ?hy⟩) (by assumption) ?_; case hy => (intro w hSw; (try dsimp only at hSw); go_simp; (try with_reducible rfl))) | (refine wpT_takeB (i := 3) (v := _) HOPS rfl (by kernel_rfl) (fun _ _ _ h => h) (Or.inr ⟨by rfl, rfl⟩) (by assumption) ?_)
          try simp only [Act.put, List.getElem_toArray, List.getElem_cons_succ, List.getElem_cons_zero, List.setIfInBounds_toArray, List.set_cons_zero, List.set_cons_succ]
          first | (refine wpT_takeB (i := 5) (v := ?_) HOPS rfl (by kernel_rfl) (fun _ _ _ h => h) (Or.inl ⟨by rfl, ?hy⟩) (by assumption) ?_; case hy => (intro w hSw; (try dsimp only at hSw); go_simp; (try with_reducible rfl))) | (refine wpT_takeB (i := 5) (v := _) HOPS rfl (by kernel_rfl) (fun _ _ _ h => h) (Or.inr ⟨by rfl, rfl⟩) (by assumption) ?_)
          try simp only [Act.put, List.getElem_toArray, List.getElem_cons_succ, List.getElem_cons_zero, List.setIfInBounds_toArray, List.set_cons_zero, List.set_cons_succ]
          first | (refine wpT_takeB (i := 6) (v := ?_) HOPS rfl (by kernel_rfl) (fun _ _ _ h => h) (Or.inl ⟨by rfl, ?hy⟩) (by assumption) ?_; case hy => (intro w hSw; (try dsimp only at hSw); go_simp; (try with_reducible rfl))) | (refine wpT_takeB (i := 6) (v := _) HOPS rfl (by kernel_rfl) (fun _ _ _ h => h) (Or.inr ⟨by rfl, rfl⟩) (by assumption) ?_)
          try simp only [Act.put, List.getElem_toArray, List.getElem_cons_succ, List.getElem_cons_zero, List.setIfInBounds_toArray, List.set_cons_zero, List.set_cons_succ]
          first | (refine wpT_takeB (i := 7) (v := ?_) HOPS rfl (by kernel_rfl) (fun _ _ _ h => h) (Or.inl ⟨by rfl, ?hy⟩) (by assumption) ?_; case hy => (intro w hSw; (try dsimp only at hSw); go_simp; (try with_reducible rfl))) | (refine wpT_takeB (i := 7) (v := _) HOPS rfl (by kernel_rfl) (fun _ _ _ h => h) (Or.inr ⟨by rfl, rfl⟩) (by assumption) ?_)
          try simp only [Act.put, List.getElem_toArray, List.getElem_cons_succ, List.getElem_cons_zero, List.setIfInBounds_toArray, List.set_cons_zero, List.set_cons_succ]
          refine wpT_ready (rs := [4]) (by kernel_rfl) (by simp) ?_
          refine ReadyT.consB HOPS rfl (by rfl) (fun K hK => ?_) ReadyT.nil
          go_simp
          go_at_call 24
          refine imKnown_any W23.heap.size _ (bw + 4, bh + 4, px0) _ _ HIX.out ?_
          rw [HKN.out]
          intro w24 n
          replace NX := Lib.hid (NX.out.trans n)
          replace RN := Lib.hid (RN.out.kept n id)
          replace MX := Lib.hid (MX.out.kept n id)
          replace HLA := Lib.hid (HLA.out.kept n nof)
          replace HLB := Lib.hid (HLB.out.kept n nof)
          replace HLC := Lib.hid (HLC.out.kept n nof)
          replace HB0 := Lib.hid (n.heap HB0.out id)
          replace SZ := Nat.lt_of_lt_of_le SZ n.size
          replace HMb := Lib.hid ((HMb.out.kept n nof).hi n.size)
          replace HB8 := Lib.hid (n.heap HB8.out id)
          replace HIX := Lib.hid ((HIX.out.kept n nof).hi n.size)
          replace HB9 := Lib.hid (n.heap HB9.out id)
          replace HIY := Lib.hid ((HIY.out.kept n nof).hi n.size)
          replace HBY := Lib.hid (n.heap HBY.out id)
          replace NW0 := Lib.hid (NW0.out.trans n)
          clear n
          refine hK.out _ _ ⟨by show w24.cell? _ = _; rw [cell_of HB9.out]; rfl, by show w24.cell? _ = _; rw [cell_of HB9.out]; rfl, by show w24.cell? _ = _; rw [cell_of HB9.out]; rfl, by show w24.cell? _ = _; rw [cell_of HB8.out]; rfl, by show w24.cell? _ = _; rw [cell_of HB8.out]; rfl, by show w24.cell? _ = _; rw [cell_of HB8.out]; rfl⟩ (fun hHeld => ?_)
          clear hK K
          try simp only [Act.put, List.getElem_toArray, List.getElem_cons_succ, List.getElem_cons_zero, List.setIfInBounds_toArray, List.set_cons_zero, List.set_cons_succ]
          first | (refine wpT_takeB (i := 8) (v := ?_) HOPS rfl (by kernel_rfl) (fun _ _ _ h => h) (Or.inl ⟨by rfl, ?hy⟩) (by assumption) ?_; case hy => (intro w hSw; (try dsimp only at hSw); go_simp; (try with_reducible rfl))) | (refine wpT_takeB (i := 8) (v := _) HOPS rfl (by kernel_rfl) (fun _ _ _ h => h) (Or.inr ⟨by rfl, rfl⟩) (by assumption) ?_)
          try simp only [Act.put, List.getElem_toArray, List.getElem_cons_succ, List.getElem_cons_zero, List.setIfInBounds_toArray, List.set_cons_zero, List.set_cons_succ]
          first | (refine wpT_takeB (i := 9) (v := ?_) HOPS rfl (by kernel_rfl) (fun _ _ _ h => h) (Or.inl ⟨by rfl, ?hy⟩) (by assumption) ?_; case hy => (intro w hSw; (try dsimp only at hSw); go_simp; (try with_reducible rfl))) | (refine wpT_takeB (i := 9) (v := _) HOPS rfl (by kernel_rfl) (fun _ _ _ h => h) (Or.inr ⟨by rfl, rfl⟩) (by assumption) ?_)
          try simp only [Act.put, List.getElem_toArray, List.getElem_cons_succ, List.getElem_cons_zero, List.setIfInBounds_toArray, List.set_cons_zero, List.set_cons_succ]
          first | (refine wpT_takeB (i := 10) (v := ?_) HOPS rfl (by kernel_rfl) (fun _ _ _ h => h) (Or.inl ⟨by rfl, ?hy⟩) (by assumption) ?_; case hy => (intro w hSw; (try dsimp only at hSw); go_simp; (try with_reducible rfl))) | (refine wpT_takeB (i := 10) (v := _) HOPS rfl (by kernel_rfl) (fun _ _ _ h => h) (Or.inr ⟨by rfl, rfl⟩) (by assumption) ?_)
          try simp only [Act.put, List.getElem_toArray, List.getElem_cons_succ, List.getElem_cons_zero, List.setIfInBounds_toArray, List.set_cons_zero, List.set_cons_succ]
          first | (refine wpT_takeB (i := 11) (v := ?_) HOPS rfl (by kernel_rfl) (fun _ _ _ h => h) (Or.inl ⟨by rfl, ?hy⟩) (by assumption) ?_; case hy => (intro w hSw; (try dsimp only at hSw); go_simp; (try with_reducible rfl))) | (refine wpT_takeB (i := 11) (v := _) HOPS rfl (by kernel_rfl) (fun _ _ _ h => h) (Or.inr ⟨by rfl, rfl⟩) (by assumption) ?_)
          try simp only [Act.put, List.getElem_toArray, List.getElem_cons_succ, List.getElem_cons_zero, List.setIfInBounds_toArray, List.set_cons_zero, List.set_cons_succ]
          first | (refine wpT_takeB (i := 12) (v := ?_) HOPS rfl (by kernel_rfl) (fun _ _ _ h => h) (Or.inl ⟨by rfl, ?hy⟩) (by assumption) ?_; case hy => (intro w hSw; (try dsimp only at hSw); go_simp; (try with_reducible rfl))) | (refine wpT_takeB (i := 12) (v := _) HOPS rfl (by kernel_rfl) (fun _ _ _ h => h) (Or.inr ⟨by rfl, rfl⟩) (by assumption) ?_)
          try simp only [Act.put, List.getElem_toArray, List.getElem_cons_succ, List.getElem_cons_zero, List.setIfInBounds_toArray, List.set_cons_zero, List.set_cons_succ]
          first | (refine wpT_takeB (i := 13) (v := ?_) HOPS rfl (by kernel_rfl) (fun _ _ _ h => h) (Or.inl ⟨by rfl, ?hy⟩) (by assumption) ?_; case hy => (intro w hSw; (try dsimp only at hSw); go_simp; (try with_reducible rfl))) | (refine wpT_takeB (i := 13) (v := _) HOPS rfl (by kernel_rfl) (fun _ _ _ h => h) (Or.inr ⟨by rfl, rfl⟩) (by assumption) ?_)
          try simp only [Act.put, List.getElem_toArray, List.getElem_cons_succ, List.getElem_cons_zero, List.setIfInBounds_toArray, List.set_cons_zero, List.set_cons_succ]
          first | (refine wpT_takeB (i := 15) (v := ?_) HOPS rfl (by kernel_rfl) (fun _ _ _ h => h) (Or.inl ⟨by rfl, ?hy⟩) (by assumption) ?_; case hy => (intro w hSw; (try dsimp only at hSw); go_simp; (try with_reducible rfl))) | (refine wpT_takeB (i := 15) (v := _) HOPS rfl (by kernel_rfl) (fun _ _ _ h => h) (Or.inr ⟨by rfl, rfl⟩) (by assumption) ?_)
          try simp only [Act.put, List.getElem_toArray, List.getElem_cons_succ, List.getElem_cons_zero, List.setIfInBounds_toArray, List.set_cons_zero, List.set_cons_succ]
          refine wpT_ready (rs := [14]) (by kernel_rfl) (by simp) ?_
          refine ReadyT.passB HOPS rfl (by rfl) (by assumption) ?_ ReadyT.nil
          try simp only [Act.put, List.getElem_toArray, List.getElem_cons_succ, List.getElem_cons_zero, List.setIfInBounds_toArray, List.set_cons_zero, List.set_cons_succ]
          first | (refine wpT_takeB (i := 16) (v := ?_) HOPS rfl (by kernel_rfl) (fun _ _ _ h => h) (Or.inl ⟨by rfl, ?hy⟩) (by assumption) ?_; case hy => (intro w hSw; (try dsimp only at hSw); go_simp; (try with_reducible rfl))) | (refine wpT_takeB (i := 16) (v := _) HOPS rfl (by kernel_rfl) (fun _ _ _ h => h) (Or.inr ⟨by rfl, rfl⟩) (by assumption) ?_)
          try simp only [Act.put, List.getElem_toArray, List.getElem_cons_succ, List.getElem_cons_zero, List.setIfInBounds_toArray, List.set_cons_zero, List.set_cons_succ]
          first | (refine wpT_takeB (i := 17) (v := ?_) HOPS rfl (by kernel_rfl) (fun _ _ _ h => h) (Or.inl ⟨by rfl, ?hy⟩) (by assumption) ?_; case hy => (intro w hSw; (try dsimp only at hSw); go_simp; (try with_reducible rfl))) | (refine wpT_takeB (i := 17) (v := _) HOPS rfl (by kernel_rfl) (fun _ _ _ h => h) (Or.inr ⟨by rfl, rfl⟩) (by assumption) ?_)
          try simp only [Act.put, List.getElem_toArray, List.getElem_cons_succ, List.getElem_cons_zero, List.setIfInBounds_toArray, List.set_cons_zero, List.set_cons_succ]
          first | (refine wpT_takeB (i := 18) (v := ?_) HOPS rfl (by kernel_rfl) (fun _ _ _ h => h) (Or.inl ⟨by rfl, ?hy⟩) (by assumption) ?_; case hy => (intro w hSw; (try dsimp only at hSw); go_simp; (try with_reducible rfl))) | (refine wpT_takeB (i := 18) (v := _) HOPS rfl (by kernel_rfl) (fun _ _ _ h => h) (Or.inr ⟨by rfl, rfl⟩) (by assumption) ?_)
          try simp only [Act.put, List.getElem_toArray, List.getElem_cons_succ, List.getElem_cons_zero, List.setIfInBounds_toArray, List.set_cons_zero, List.set_cons_succ]
          first | (refine wpT_takeB (i := 19) (v := ?_) HOPS rfl (by kernel_rfl) (fun _ _ _ h => h) (Or.inl ⟨by rfl, ?hy⟩) (by assumption) ?_; case hy => (intro w hSw; (try dsimp only at hSw); go_simp; (try with_reducible rfl))) | (refine wpT_takeB (i := 19) (v := _) HOPS rfl (by kernel_rfl) (fun _ _ _ h => h) (Or.inr ⟨by rfl, rfl⟩) (by assumption) ?_)
          try simp only [Act.put, List.getElem_toArray, List.getElem_cons_succ, List.getElem_cons_zero, List.setIfInBounds_toArray, List.set_cons_zero, List.set_cons_succ]
          refine wpT_done (by kernel_rfl) ?_ _
          clear HOPS
          repeat clear hHeld
          go_wp2_with fail
          go_meet
          exact ⟨by simp, NW0⟩
      case rest => as_aux_lemma =>
        obtain ⟨rfl, HN⟩ := hcut
        obtain ⟨wc0, hwc0⟩ : ∃ W : World, W = wc := ⟨_, rfl⟩
        subst hwc0
        replace NX := Lib.hid (NX.out.trans HN.out)
        replace RN := Lib.hid (RN.out.kept HN.out id)
        replace MX := Lib.hid (MX.out.kept HN.out id)
        replace HLA := Lib.hid (HLA.out.kept HN.out nof)
        replace HLB := Lib.hid (HLB.out.kept HN.out nof)
        replace HLC := Lib.hid (HLC.out.kept HN.out nof)
        replace HB0 := Lib.hid (HN.out.heap HB0.out id)
        replace SZ := Nat.lt_of_lt_of_le SZ HN.out.size
        replace HMb := Lib.hid ((HMb.out.kept HN.out nof).hi HN.out.size)
        replace HB8 := Lib.hid (HN.out.heap HB8.out id)
        replace HIX := Lib.hid ((HIX.out.kept HN.out nof).hi HN.out.size)
        replace HB9 := Lib.hid (HN.out.heap HB9.out id)
        replace HIY := Lib.hid ((HIY.out.kept HN.out nof).hi HN.out.size)
        replace HBY := Lib.hid (HN.out.heap HBY.out id)
        clear HFF HKN HCB FD
        have kHB00 : wc0.cell? ⟨w.heap.size, 0, none⟩ = some (.slice A0 la.length c0) := by rw [cell_of HB0.out]; rfl
        have jHB00 : ∀ o, (wc0.alloc o).cell? ⟨w.heap.size, 0, none⟩ = some (.slice A0 la.length c0) := fun o => cell_alloc_old o kHB00
        have kHB01 : wc0.cell? ⟨w.heap.size, 1, none⟩ = some (.slice A1 lb.length c1) := by rw [cell_of HB0.out]; rfl
        have jHB01 : ∀ o, (wc0.alloc o).cell? ⟨w.heap.size, 1, none⟩ = some (.slice A1 lb.length c1) := fun o => cell_alloc_old o kHB01
        have kHB02 : wc0.cell? ⟨w.heap.size, 2, none⟩ = some (.slice A2 lc.length c2) := by rw [cell_of HB0.out]; rfl
        have jHB02 : ∀ o, (wc0.alloc o).cell? ⟨w.heap.size, 2, none⟩ = some (.slice A2 lc.length c2) := fun o => cell_alloc_old o kHB02
        go_wp2_with (go_at_call 6; fail)
        clear kHB00 jHB00 kHB01 jHB01 kHB02 jHB02
        refine Calls_nm ?_
        intro W25 hW
        have n : Nw wc0 W25 := by rw [hW]; first | exact Ch.refl _ _ | exact (Ch.refl _ _).alloc _ | exact ((Ch.refl _ _).alloc _).alloc _
        replace NX := Lib.hid (NX.out.trans n)
        replace RN := Lib.hid (RN.out.kept n id)
        replace MX := Lib.hid (MX.out.kept n id)
        replace HLA := Lib.hid (HLA.out.kept n nof)
        replace HLB := Lib.hid (HLB.out.kept n nof)
        replace HLC := Lib.hid (HLC.out.kept n nof)
        replace HB0 := Lib.hid (n.heap HB0.out id)
        replace SZ := Nat.lt_of_lt_of_le SZ n.size
        replace HMb := Lib.hid ((HMb.out.kept n nof).hi n.size)
        replace HB8 := Lib.hid (n.heap HB8.out id)
        replace HIX := Lib.hid ((HIX.out.kept n nof).hi n.size)
        replace HB9 := Lib.hid (n.heap HB9.out id)
        replace HIY := Lib.hid ((HIY.out.kept n nof).hi n.size)
        replace HBY := Lib.hid (n.heap HBY.out id)
        clear hW n
        refine rMade4_any w.heap.size _ lc _ _ HLC.out (by omega) ?_
        intro w26 vc bc hb hbE hb1 hb2 n hvb
        replace NX := Lib.hid (NX.out.trans n)
        replace RN := Lib.hid (RN.out.kept n id)
        replace MX := Lib.hid (MX.out.kept n id)
        replace HLA := Lib.hid (HLA.out.kept n nof)
        replace HLB := Lib.hid (HLB.out.kept n nof)
        replace HLC := Lib.hid (HLC.out.kept n nof)
        replace HB0 := Lib.hid (n.heap HB0.out id)
        replace SZ := Nat.lt_of_lt_of_le SZ n.size
        replace HMb := Lib.hid ((HMb.out.kept n nof).hi n.size)
        replace HB8 := Lib.hid (n.heap HB8.out id)
        replace HIX := Lib.hid ((HIX.out.kept n nof).hi n.size)
        replace HB9 := Lib.hid (n.heap HB9.out id)
        replace HIY := Lib.hid ((HIY.out.kept n nof).hi n.size)
        replace HBY := Lib.hid (n.heap HBY.out id)
        have HEc := Lib.hid hbE
        obtain ⟨Ac, nc, rfl⟩ := hvb
        have HMc := Lib.hid hb
        obtain ⟨⟨e1', e2'⟩, ⟨e3', e4'⟩, -⟩ := bmE_ok hbE
        have FT := fits_two HOK.out HEc.out
        generalize hcw : bc.1 = cw at *
        generalize hch : bc.2.1 = ch at *
        clear hb hcw hch hbE n
        obtain ⟨FG, hFG⟩ : ∃ F, fitsM (bw + 4, bh + 4, px0) bc 0 0 = F := ⟨_, rfl⟩
        rw [hFG] at FT
        have HFG := Lib.hid hFG
        clear hFG
        obtain ⟨g1, g2, g3⟩ := FG
        simp only at FT
        subst FT
        have kHB90 : w26.cell? ⟨w6.heap.size, 0, none⟩ = some (.int .i64 (bw + 4)) := by rw [cell_of HB9.out]; rfl
        have jHB90 : ∀ o, (w26.alloc o).cell? ⟨w6.heap.size, 0, none⟩ = some (.int .i64 (bw + 4)) := fun o => cell_alloc_old o kHB90
        have kHB91 : w26.cell? ⟨w6.heap.size, 1, none⟩ = some (.int .i64 (bh + 4)) := by rw [cell_of HB9.out]; rfl
        have jHB91 : ∀ o, (w26.alloc o).cell? ⟨w6.heap.size, 1, none⟩ = some (.int .i64 (bh + 4)) := fun o => cell_alloc_old o kHB91
        have kHB92 : w26.cell? ⟨w6.heap.size, 2, none⟩ = some (.slice (some ⟨g9, 0, none⟩) px0.length c9) := by rw [cell_of HB9.out]; rfl
        have jHB92 : ∀ o, (w26.alloc o).cell? ⟨w6.heap.size, 2, none⟩ = some (.slice (some ⟨g9, 0, none⟩) px0.length c9) := fun o => cell_alloc_old o kHB92
        go_wp2_with (go_at_call 6; fail)
        clear kHB90 jHB90 kHB91 jHB91 kHB92 jHB92
        refine Calls_nm ?_
        intro W27 hW
        have n : Nw w26 W27 := by rw [hW]; first | exact Ch.refl _ _ | exact (Ch.refl _ _).alloc _ | exact ((Ch.refl _ _).alloc _).alloc _
        replace NX := Lib.hid (NX.out.trans n)
        replace RN := Lib.hid (RN.out.kept n id)
        replace MX := Lib.hid (MX.out.kept n id)
        replace HLA := Lib.hid (HLA.out.kept n nof)
        replace HLB := Lib.hid (HLB.out.kept n nof)
        replace HLC := Lib.hid (HLC.out.kept n nof)
        replace HB0 := Lib.hid (n.heap HB0.out id)
        replace SZ := Nat.lt_of_lt_of_le SZ n.size
        replace HMb := Lib.hid ((HMb.out.kept n nof).hi n.size)
        replace HB8 := Lib.hid (n.heap HB8.out id)
        replace HIX := Lib.hid ((HIX.out.kept n nof).hi n.size)
        replace HB9 := Lib.hid (n.heap HB9.out id)
        replace HIY := Lib.hid ((HIY.out.kept n nof).hi n.size)
        replace HBY := Lib.hid (n.heap HBY.out id)
        replace HMc := Lib.hid ((HMc.out.kept n nof).hi n.size)
        have HBC := Lib.hid (show W27.heap[w26.heap.size]? = some (.cells #[.int .i64 cw, .int .i64 ch, .slice (some Ac) nc nc] 31 (0, 0)) from by rw [hW]; exact heap_alloc_eq _ rfl)
        clear hW n
        refine imFits_any W27.heap.size _ (bw + 4, bh + 4, px0) _ bc 0 0 _ _ HIX.out HMc.out (by unfold wfI; omega) (by unfold wfI; omega) (Nat.le_refl _) ?_
        rw [HFG.out]
        intro w28 n
        replace NX := Lib.hid (NX.out.trans n)
        replace RN := Lib.hid (RN.out.kept n id)
        replace MX := Lib.hid (MX.out.kept n id)
        replace HLA := Lib.hid (HLA.out.kept n nof)
        replace HLB := Lib.hid (HLB.out.kept n nof)
        replace HLC := Lib.hid (HLC.out.kept n nof)
        replace HB0 := Lib.hid (n.heap HB0.out id)
        replace SZ := Nat.lt_of_lt_of_le SZ n.size
        replace HMb := Lib.hid ((HMb.out.kept n nof).hi n.size)
        replace HB8 := Lib.hid (n.heap HB8.out id)
        replace HIX := Lib.hid ((HIX.out.kept n nof).hi n.size)
        replace HB9 := Lib.hid (n.heap HB9.out id)
        replace HIY := Lib.hid ((HIY.out.kept n nof).hi n.size)
        replace HBY := Lib.hid (n.heap HBY.out id)
        replace HMc := Lib.hid ((HMc.out.kept n nof).hi n.size)
        replace HBC := Lib.hid (n.heap HBC.out id)
        clear n
        go_wp2_with (go_at_call 6; fail)
        refine Calls_nm ?_
        intro W29 hW
        have n : Nw w28 W29 := by rw [hW]; first | exact Ch.refl _ _ | exact (Ch.refl _ _).alloc _ | exact ((Ch.refl _ _).alloc _).alloc _
        replace NX := Lib.hid (NX.out.trans n)
        replace RN := Lib.hid (RN.out.kept n id)
        replace MX := Lib.hid (MX.out.kept n id)
        replace HLA := Lib.hid (HLA.out.kept n nof)
        replace HLB := Lib.hid (HLB.out.kept n nof)
        replace HLC := Lib.hid (HLC.out.kept n nof)
        replace HB0 := Lib.hid (n.heap HB0.out id)
        replace SZ := Nat.lt_of_lt_of_le SZ n.size
        replace HMb := Lib.hid ((HMb.out.kept n nof).hi n.size)
        replace HB8 := Lib.hid (n.heap HB8.out id)
        replace HIX := Lib.hid ((HIX.out.kept n nof).hi n.size)
        replace HB9 := Lib.hid (n.heap HB9.out id)
        replace HIY := Lib.hid ((HIY.out.kept n nof).hi n.size)
        replace HBY := Lib.hid (n.heap HBY.out id)
        replace HMc := Lib.hid ((HMc.out.kept n nof).hi n.size)
        replace HBC := Lib.hid (n.heap HBC.out id)
        clear hW n
        refine imParse_any zs _ _ RN.out MX.out (by omega) ?_
        intro w30 v hi n
        replace NX := Lib.hid (NX.out.trans n)
        replace RN := Lib.hid (RN.out.kept n id)
        replace MX := Lib.hid (MX.out.kept n id)
        replace HLA := Lib.hid (HLA.out.kept n nof)
        replace HLB := Lib.hid (HLB.out.kept n nof)
        replace HLC := Lib.hid (HLC.out.kept n nof)
        replace HB0 := Lib.hid (n.heap HB0.out id)
        replace SZ := Nat.lt_of_lt_of_le SZ n.size
        replace HMb := Lib.hid ((HMb.out.kept n nof).hi n.size)
        replace HB8 := Lib.hid (n.heap HB8.out id)
        replace HIX := Lib.hid ((HIX.out.kept n nof).hi n.size)
        replace HB9 := Lib.hid (n.heap HB9.out id)
        replace HIY := Lib.hid ((HIY.out.kept n nof).hi n.size)
        replace HBY := Lib.hid (n.heap HBY.out id)
        replace HMc := Lib.hid ((HMc.out.kept n nof).hi n.size)
        replace HBC := Lib.hid (n.heap HBC.out id)
        have hzo := parseM_ok zs.data.toList
        have htp := text_parse (s := zs.data.toList)
        have hfp := parseM_false (s := zs.data.toList)
        obtain ⟨PP, hPP⟩ : ∃ P, parseM zs.data.toList = P := ⟨_, rfl⟩
        rw [hPP] at hi hzo htp hfp ⊢
        clear hPP
        obtain ⟨⟨zW, zH, zl⟩, tb⟩ := PP
        simp only at hi hzo htp hfp ⊢
        obtain ⟨AZ, cZ, rfl, hI⟩ := isIm_formN (W := zW) (H := zH) (n := zl.length) hi rfl rfl rfl
        have HIZ := Lib.hid hI
        have HZO := Lib.hid hzo
        clear hi hI n hzo
        have hze : ∀ l : List UInt8, l = zs.data.toList → (⟨l.toArray⟩ : ByteArray) = zs := fun l h => by subst h; simp
        have HZE := Lib.hid hze
        clear hze
        cases tb with
        | true => as_aux_lemma =>
          have HTP := Lib.hid (HZE.out _ (htp rfl))
          clear htp hfp
          obtain ⟨rfl, rfl⟩ | ⟨rfl, hne⟩ | hne : (bw = cw ∧ bh = ch) ∨ (bw = cw ∧ bh ≠ ch) ∨ bw ≠ cw := by omega
          · as_aux_lemma =>
            have fbz : Hid (∀ o : World, o = w30.alloc (.cells #[.int .i64 zW, .int .i64 zH, .slice AZ zl.length cZ] 25) → o.heap[w30.heap.size]? = some (.cells #[.int .i64 zW, .int .i64 zH, .slice AZ zl.length cZ] 25 (0, 0))) := Lib.hid (fun o h => by rw [h]; exact heap_alloc_eq _ rfl)
            have kHBC0 : w30.cell? ⟨w26.heap.size, 0, none⟩ = some (.int .i64 bw) := by rw [cell_of HBC.out]; rfl
            have jHBC0 : ∀ o, (w30.alloc o).cell? ⟨w26.heap.size, 0, none⟩ = some (.int .i64 bw) := fun o => cell_alloc_old o kHBC0
            have kHBC1 : w30.cell? ⟨w26.heap.size, 1, none⟩ = some (.int .i64 bh) := by rw [cell_of HBC.out]; rfl
            have jHBC1 : ∀ o, (w30.alloc o).cell? ⟨w26.heap.size, 1, none⟩ = some (.int .i64 bh) := fun o => cell_alloc_old o kHBC1
            have kHB80 : w30.cell? ⟨w4.heap.size, 0, none⟩ = some (.int .i64 bw) := by rw [cell_of HB8.out]; rfl
            have jHB80 : ∀ o, (w30.alloc o).cell? ⟨w4.heap.size, 0, none⟩ = some (.int .i64 bw) := fun o => cell_alloc_old o kHB80
            have kHB81 : w30.cell? ⟨w4.heap.size, 1, none⟩ = some (.int .i64 bh) := by rw [cell_of HB8.out]; rfl
            have jHB81 : ∀ o, (w30.alloc o).cell? ⟨w4.heap.size, 1, none⟩ = some (.int .i64 bh) := fun o => cell_alloc_old o kHB81
            go_wp2_with (go_at_call 6; fail)
            clear kHBC0 jHBC0 kHBC1 jHBC1 kHB80 jHB80 kHB81 jHB81
            refine Calls_nm ?_
            intro W31 hW
            have n : Nw w30 W31 := by rw [hW]; first | exact Ch.refl _ _ | exact (Ch.refl _ _).alloc _ | exact ((Ch.refl _ _).alloc _).alloc _
            replace NX := Lib.hid (NX.out.trans n)
            replace RN := Lib.hid (RN.out.kept n id)
            replace MX := Lib.hid (MX.out.kept n id)
            replace HLA := Lib.hid (HLA.out.kept n nof)
            replace HLB := Lib.hid (HLB.out.kept n nof)
            replace HLC := Lib.hid (HLC.out.kept n nof)
            replace HB0 := Lib.hid (n.heap HB0.out id)
            replace SZ := Nat.lt_of_lt_of_le SZ n.size
            replace HMb := Lib.hid ((HMb.out.kept n nof).hi n.size)
            replace HB8 := Lib.hid (n.heap HB8.out id)
            replace HIX := Lib.hid ((HIX.out.kept n nof).hi n.size)
            replace HB9 := Lib.hid (n.heap HB9.out id)
            replace HIY := Lib.hid ((HIY.out.kept n nof).hi n.size)
            replace HBY := Lib.hid (n.heap HBY.out id)
            replace HMc := Lib.hid ((HMc.out.kept n nof).hi n.size)
            replace HBC := Lib.hid (n.heap HBC.out id)
            replace HIZ := Lib.hid ((HIZ.out.kept n nof).hi n.size)
            have HBZ := Lib.hid (show W31.heap[w30.heap.size]? = some (.cells #[.int .i64 zW, .int .i64 zH, .slice AZ zl.length cZ] 25 (0, 0)) from by rw [hW]; exact heap_alloc_eq _ rfl)
            clear hW n
            refine imText_any W31.heap.size _ (zW, zH, zl) _ _ HIZ.out (Nat.le_refl _) RN.out ?_
            rw [HTP.out]
            intro w32 n
            replace NX := Lib.hid (NX.out.trans n)
            replace RN := Lib.hid (RN.out.kept n id)
            replace MX := Lib.hid (MX.out.kept n id)
            replace HLA := Lib.hid (HLA.out.kept n nof)
            replace HLB := Lib.hid (HLB.out.kept n nof)
            replace HLC := Lib.hid (HLC.out.kept n nof)
            replace HB0 := Lib.hid (n.heap HB0.out id)
            replace SZ := Nat.lt_of_lt_of_le SZ n.size
            replace HMb := Lib.hid ((HMb.out.kept n nof).hi n.size)
            replace HB8 := Lib.hid (n.heap HB8.out id)
            replace HIX := Lib.hid ((HIX.out.kept n nof).hi n.size)
            replace HB9 := Lib.hid (n.heap HB9.out id)
            replace HIY := Lib.hid ((HIY.out.kept n nof).hi n.size)
            replace HBY := Lib.hid (n.heap HBY.out id)
            replace HMc := Lib.hid ((HMc.out.kept n nof).hi n.size)
            replace HBC := Lib.hid (n.heap HBC.out id)
            replace HIZ := Lib.hid ((HIZ.out.kept n nof).hi n.size)
            replace HBZ := Lib.hid (n.heap HBZ.out id)
            clear n
            have kHBZ0 : w32.cell? ⟨w30.heap.size, 0, none⟩ = some (.int .i64 zW) := by rw [cell_of HBZ.out]; rfl
            have jHBZ0 : ∀ o, (w32.alloc o).cell? ⟨w30.heap.size, 0, none⟩ = some (.int .i64 zW) := fun o => cell_alloc_old o kHBZ0
            have kHBZ1 : w32.cell? ⟨w30.heap.size, 1, none⟩ = some (.int .i64 zH) := by rw [cell_of HBZ.out]; rfl
            have jHBZ1 : ∀ o, (w32.alloc o).cell? ⟨w30.heap.size, 1, none⟩ = some (.int .i64 zH) := fun o => cell_alloc_old o kHBZ1
            have kHBZ2 : w32.cell? ⟨w30.heap.size, 2, none⟩ = some (.slice AZ zl.length cZ) := by rw [cell_of HBZ.out]; rfl
            have jHBZ2 : ∀ o, (w32.alloc o).cell? ⟨w30.heap.size, 2, none⟩ = some (.slice AZ zl.length cZ) := fun o => cell_alloc_old o kHBZ2
            go_wp2_with (go_at_call 6; fail)
            clear kHBZ0 jHBZ0 kHBZ1 jHBZ1 kHBZ2 jHBZ2
            refine Calls_nm ?_
            intro W33 hW
            have n : Nw w32 W33 := by rw [hW]; first | exact Ch.refl _ _ | exact (Ch.refl _ _).alloc _ | exact ((Ch.refl _ _).alloc _).alloc _
            replace NX := Lib.hid (NX.out.trans n)
            replace RN := Lib.hid (RN.out.kept n id)
            replace MX := Lib.hid (MX.out.kept n id)
            replace HLA := Lib.hid (HLA.out.kept n nof)
            replace HLB := Lib.hid (HLB.out.kept n nof)
            replace HLC := Lib.hid (HLC.out.kept n nof)
            replace HB0 := Lib.hid (n.heap HB0.out id)
            replace SZ := Nat.lt_of_lt_of_le SZ n.size
            replace HMb := Lib.hid ((HMb.out.kept n nof).hi n.size)
            replace HB8 := Lib.hid (n.heap HB8.out id)
            replace HIX := Lib.hid ((HIX.out.kept n nof).hi n.size)
            replace HB9 := Lib.hid (n.heap HB9.out id)
            replace HIY := Lib.hid ((HIY.out.kept n nof).hi n.size)
            replace HBY := Lib.hid (n.heap HBY.out id)
            replace HMc := Lib.hid ((HMc.out.kept n nof).hi n.size)
            replace HBC := Lib.hid (n.heap HBC.out id)
            replace HIZ := Lib.hid ((HIZ.out.kept n nof).hi n.size)
            replace HBZ := Lib.hid (n.heap HBZ.out id)
            clear hW n
            refine imCheck_ok W33.heap.size _ (zW, zH, zl) _ _ HIZ.out HZO.out ?_
            intro w34 n
            replace NX := Lib.hid (NX.out.trans n)
            replace RN := Lib.hid (RN.out.kept n id)
            replace MX := Lib.hid (MX.out.kept n id)
            replace HLA := Lib.hid (HLA.out.kept n nof)
            replace HLB := Lib.hid (HLB.out.kept n nof)
            replace HLC := Lib.hid (HLC.out.kept n nof)
            replace HB0 := Lib.hid (n.heap HB0.out id)
            replace SZ := Nat.lt_of_lt_of_le SZ n.size
            replace HMb := Lib.hid ((HMb.out.kept n nof).hi n.size)
            replace HB8 := Lib.hid (n.heap HB8.out id)
            replace HIX := Lib.hid ((HIX.out.kept n nof).hi n.size)
            replace HB9 := Lib.hid (n.heap HB9.out id)
            replace HIY := Lib.hid ((HIY.out.kept n nof).hi n.size)
            replace HBY := Lib.hid (n.heap HBY.out id)
            replace HMc := Lib.hid ((HMc.out.kept n nof).hi n.size)
            replace HBC := Lib.hid (n.heap HBC.out id)
            replace HIZ := Lib.hid ((HIZ.out.kept n nof).hi n.size)
            replace HBZ := Lib.hid (n.heap HBZ.out id)
            clear n
            go_wp2_with fail
            exact ret_b (HR.out _ NX.out) (by simp)
          · as_aux_lemma =>
            have y1 : (bh == ch) = false := by simp [hne]
            have y2 : decide (bh = ch) = false := decide_eq_false hne
            have fbz : Hid (∀ o : World, o = w30.alloc (.cells #[.int .i64 zW, .int .i64 zH, .slice AZ zl.length cZ] 25) → o.heap[w30.heap.size]? = some (.cells #[.int .i64 zW, .int .i64 zH, .slice AZ zl.length cZ] 25 (0, 0))) := Lib.hid (fun o h => by rw [h]; exact heap_alloc_eq _ rfl)
            have kHBC0 : w30.cell? ⟨w26.heap.size, 0, none⟩ = some (.int .i64 bw) := by rw [cell_of HBC.out]; rfl
            have jHBC0 : ∀ o, (w30.alloc o).cell? ⟨w26.heap.size, 0, none⟩ = some (.int .i64 bw) := fun o => cell_alloc_old o kHBC0
            have kHBC1 : w30.cell? ⟨w26.heap.size, 1, none⟩ = some (.int .i64 ch) := by rw [cell_of HBC.out]; rfl
            have jHBC1 : ∀ o, (w30.alloc o).cell? ⟨w26.heap.size, 1, none⟩ = some (.int .i64 ch) := fun o => cell_alloc_old o kHBC1
            have kHB80 : w30.cell? ⟨w4.heap.size, 0, none⟩ = some (.int .i64 bw) := by rw [cell_of HB8.out]; rfl
            have jHB80 : ∀ o, (w30.alloc o).cell? ⟨w4.heap.size, 0, none⟩ = some (.int .i64 bw) := fun o => cell_alloc_old o kHB80
            have kHB81 : w30.cell? ⟨w4.heap.size, 1, none⟩ = some (.int .i64 bh) := by rw [cell_of HB8.out]; rfl
            have jHB81 : ∀ o, (w30.alloc o).cell? ⟨w4.heap.size, 1, none⟩ = some (.int .i64 bh) := fun o => cell_alloc_old o kHB81
            go_wp2_with (go_at_call 6; fail)
            clear kHBC0 jHBC0 kHBC1 jHBC1 kHB80 jHB80 kHB81 jHB81
            refine Calls_nm ?_
            intro W35 hW
            have n : Nw w30 W35 := by rw [hW]; first | exact Ch.refl _ _ | exact (Ch.refl _ _).alloc _ | exact ((Ch.refl _ _).alloc _).alloc _
            replace NX := Lib.hid (NX.out.trans n)
            replace RN := Lib.hid (RN.out.kept n id)
            replace MX := Lib.hid (MX.out.kept n id)
            replace HLA := Lib.hid (HLA.out.kept n nof)
            replace HLB := Lib.hid (HLB.out.kept n nof)
            replace HLC := Lib.hid (HLC.out.kept n nof)
            replace HB0 := Lib.hid (n.heap HB0.out id)
            replace SZ := Nat.lt_of_lt_of_le SZ n.size
            replace HMb := Lib.hid ((HMb.out.kept n nof).hi n.size)
            replace HB8 := Lib.hid (n.heap HB8.out id)
            replace HIX := Lib.hid ((HIX.out.kept n nof).hi n.size)
            replace HB9 := Lib.hid (n.heap HB9.out id)
            replace HIY := Lib.hid ((HIY.out.kept n nof).hi n.size)
            replace HBY := Lib.hid (n.heap HBY.out id)
            replace HMc := Lib.hid ((HMc.out.kept n nof).hi n.size)
            replace HBC := Lib.hid (n.heap HBC.out id)
            replace HIZ := Lib.hid ((HIZ.out.kept n nof).hi n.size)
            have HBZ := Lib.hid (show W35.heap[w30.heap.size]? = some (.cells #[.int .i64 zW, .int .i64 zH, .slice AZ zl.length cZ] 25 (0, 0)) from by rw [hW]; exact heap_alloc_eq _ rfl)
            clear hW n
            refine imText_any W35.heap.size _ (zW, zH, zl) _ _ HIZ.out (Nat.le_refl _) RN.out ?_
            rw [HTP.out]
            intro w36 n
            replace NX := Lib.hid (NX.out.trans n)
            replace RN := Lib.hid (RN.out.kept n id)
            replace MX := Lib.hid (MX.out.kept n id)
            replace HLA := Lib.hid (HLA.out.kept n nof)
            replace HLB := Lib.hid (HLB.out.kept n nof)
            replace HLC := Lib.hid (HLC.out.kept n nof)
            replace HB0 := Lib.hid (n.heap HB0.out id)
            replace SZ := Nat.lt_of_lt_of_le SZ n.size
            replace HMb := Lib.hid ((HMb.out.kept n nof).hi n.size)
            replace HB8 := Lib.hid (n.heap HB8.out id)
            replace HIX := Lib.hid ((HIX.out.kept n nof).hi n.size)
            replace HB9 := Lib.hid (n.heap HB9.out id)
            replace HIY := Lib.hid ((HIY.out.kept n nof).hi n.size)
            replace HBY := Lib.hid (n.heap HBY.out id)
            replace HMc := Lib.hid ((HMc.out.kept n nof).hi n.size)
            replace HBC := Lib.hid (n.heap HBC.out id)
            replace HIZ := Lib.hid ((HIZ.out.kept n nof).hi n.size)
            replace HBZ := Lib.hid (n.heap HBZ.out id)
            clear n
            have kHBZ0 : w36.cell? ⟨w30.heap.size, 0, none⟩ = some (.int .i64 zW) := by rw [cell_of HBZ.out]; rfl
            have jHBZ0 : ∀ o, (w36.alloc o).cell? ⟨w30.heap.size, 0, none⟩ = some (.int .i64 zW) := fun o => cell_alloc_old o kHBZ0
            have kHBZ1 : w36.cell? ⟨w30.heap.size, 1, none⟩ = some (.int .i64 zH) := by rw [cell_of HBZ.out]; rfl
            have jHBZ1 : ∀ o, (w36.alloc o).cell? ⟨w30.heap.size, 1, none⟩ = some (.int .i64 zH) := fun o => cell_alloc_old o kHBZ1
            have kHBZ2 : w36.cell? ⟨w30.heap.size, 2, none⟩ = some (.slice AZ zl.length cZ) := by rw [cell_of HBZ.out]; rfl
            have jHBZ2 : ∀ o, (w36.alloc o).cell? ⟨w30.heap.size, 2, none⟩ = some (.slice AZ zl.length cZ) := fun o => cell_alloc_old o kHBZ2
            go_wp2_with (go_at_call 6; fail)
            clear kHBZ0 jHBZ0 kHBZ1 jHBZ1 kHBZ2 jHBZ2
            refine Calls_nm ?_
            intro W37 hW
            have n : Nw w36 W37 := by rw [hW]; first | exact Ch.refl _ _ | exact (Ch.refl _ _).alloc _ | exact ((Ch.refl _ _).alloc _).alloc _
            replace NX := Lib.hid (NX.out.trans n)
            replace RN := Lib.hid (RN.out.kept n id)
            replace MX := Lib.hid (MX.out.kept n id)
            replace HLA := Lib.hid (HLA.out.kept n nof)
            replace HLB := Lib.hid (HLB.out.kept n nof)
            replace HLC := Lib.hid (HLC.out.kept n nof)
            replace HB0 := Lib.hid (n.heap HB0.out id)
            replace SZ := Nat.lt_of_lt_of_le SZ n.size
            replace HMb := Lib.hid ((HMb.out.kept n nof).hi n.size)
            replace HB8 := Lib.hid (n.heap HB8.out id)
            replace HIX := Lib.hid ((HIX.out.kept n nof).hi n.size)
            replace HB9 := Lib.hid (n.heap HB9.out id)
            replace HIY := Lib.hid ((HIY.out.kept n nof).hi n.size)
            replace HBY := Lib.hid (n.heap HBY.out id)
            replace HMc := Lib.hid ((HMc.out.kept n nof).hi n.size)
            replace HBC := Lib.hid (n.heap HBC.out id)
            replace HIZ := Lib.hid ((HIZ.out.kept n nof).hi n.size)
            replace HBZ := Lib.hid (n.heap HBZ.out id)
            clear hW n
            refine imCheck_ok W37.heap.size _ (zW, zH, zl) _ _ HIZ.out HZO.out ?_
            intro w38 n
            replace NX := Lib.hid (NX.out.trans n)
            replace RN := Lib.hid (RN.out.kept n id)
            replace MX := Lib.hid (MX.out.kept n id)
            replace HLA := Lib.hid (HLA.out.kept n nof)
            replace HLB := Lib.hid (HLB.out.kept n nof)
            replace HLC := Lib.hid (HLC.out.kept n nof)
            replace HB0 := Lib.hid (n.heap HB0.out id)
            replace SZ := Nat.lt_of_lt_of_le SZ n.size
            replace HMb := Lib.hid ((HMb.out.kept n nof).hi n.size)
            replace HB8 := Lib.hid (n.heap HB8.out id)
            replace HIX := Lib.hid ((HIX.out.kept n nof).hi n.size)
            replace HB9 := Lib.hid (n.heap HB9.out id)
            replace HIY := Lib.hid ((HIY.out.kept n nof).hi n.size)
            replace HBY := Lib.hid (n.heap HBY.out id)
            replace HMc := Lib.hid ((HMc.out.kept n nof).hi n.size)
            replace HBC := Lib.hid (n.heap HBC.out id)
            replace HIZ := Lib.hid ((HIZ.out.kept n nof).hi n.size)
            replace HBZ := Lib.hid (n.heap HBZ.out id)
            clear n
            go_wp2_with fail
            exact ret_b (HR.out _ NX.out) (by simp)
          · as_aux_lemma =>
            have y1 : (bw == cw) = false := by simp [hne]
            have y2 : decide (bw = cw) = false := decide_eq_false hne
            have fbz : Hid (∀ o : World, o = w30.alloc (.cells #[.int .i64 zW, .int .i64 zH, .slice AZ zl.length cZ] 25) → o.heap[w30.heap.size]? = some (.cells #[.int .i64 zW, .int .i64 zH, .slice AZ zl.length cZ] 25 (0, 0))) := Lib.hid (fun o h => by rw [h]; exact heap_alloc_eq _ rfl)
            have kHBC0 : w30.cell? ⟨w26.heap.size, 0, none⟩ = some (.int .i64 cw) := by rw [cell_of HBC.out]; rfl
            have jHBC0 : ∀ o, (w30.alloc o).cell? ⟨w26.heap.size, 0, none⟩ = some (.int .i64 cw) := fun o => cell_alloc_old o kHBC0
            have kHBC1 : w30.cell? ⟨w26.heap.size, 1, none⟩ = some (.int .i64 ch) := by rw [cell_of HBC.out]; rfl
            have jHBC1 : ∀ o, (w30.alloc o).cell? ⟨w26.heap.size, 1, none⟩ = some (.int .i64 ch) := fun o => cell_alloc_old o kHBC1
            have kHB80 : w30.cell? ⟨w4.heap.size, 0, none⟩ = some (.int .i64 bw) := by rw [cell_of HB8.out]; rfl
            have jHB80 : ∀ o, (w30.alloc o).cell? ⟨w4.heap.size, 0, none⟩ = some (.int .i64 bw) := fun o => cell_alloc_old o kHB80
            have kHB81 : w30.cell? ⟨w4.heap.size, 1, none⟩ = some (.int .i64 bh) := by rw [cell_of HB8.out]; rfl
            have jHB81 : ∀ o, (w30.alloc o).cell? ⟨w4.heap.size, 1, none⟩ = some (.int .i64 bh) := fun o => cell_alloc_old o kHB81
            go_wp2_with (go_at_call 6; fail)
            clear kHBC0 jHBC0 kHBC1 jHBC1 kHB80 jHB80 kHB81 jHB81
            refine Calls_nm ?_
            intro W39 hW
            have n : Nw w30 W39 := by rw [hW]; first | exact Ch.refl _ _ | exact (Ch.refl _ _).alloc _ | exact ((Ch.refl _ _).alloc _).alloc _
            replace NX := Lib.hid (NX.out.trans n)
            replace RN := Lib.hid (RN.out.kept n id)
            replace MX := Lib.hid (MX.out.kept n id)
            replace HLA := Lib.hid (HLA.out.kept n nof)
            replace HLB := Lib.hid (HLB.out.kept n nof)
            replace HLC := Lib.hid (HLC.out.kept n nof)
            replace HB0 := Lib.hid (n.heap HB0.out id)
            replace SZ := Nat.lt_of_lt_of_le SZ n.size
            replace HMb := Lib.hid ((HMb.out.kept n nof).hi n.size)
            replace HB8 := Lib.hid (n.heap HB8.out id)
            replace HIX := Lib.hid ((HIX.out.kept n nof).hi n.size)
            replace HB9 := Lib.hid (n.heap HB9.out id)
            replace HIY := Lib.hid ((HIY.out.kept n nof).hi n.size)
            replace HBY := Lib.hid (n.heap HBY.out id)
            replace HMc := Lib.hid ((HMc.out.kept n nof).hi n.size)
            replace HBC := Lib.hid (n.heap HBC.out id)
            replace HIZ := Lib.hid ((HIZ.out.kept n nof).hi n.size)
            have HBZ := Lib.hid (show W39.heap[w30.heap.size]? = some (.cells #[.int .i64 zW, .int .i64 zH, .slice AZ zl.length cZ] 25 (0, 0)) from by rw [hW]; exact heap_alloc_eq _ rfl)
            clear hW n
            refine imText_any W39.heap.size _ (zW, zH, zl) _ _ HIZ.out (Nat.le_refl _) RN.out ?_
            rw [HTP.out]
            intro w40 n
            replace NX := Lib.hid (NX.out.trans n)
            replace RN := Lib.hid (RN.out.kept n id)
            replace MX := Lib.hid (MX.out.kept n id)
            replace HLA := Lib.hid (HLA.out.kept n nof)
            replace HLB := Lib.hid (HLB.out.kept n nof)
            replace HLC := Lib.hid (HLC.out.kept n nof)
            replace HB0 := Lib.hid (n.heap HB0.out id)
            replace SZ := Nat.lt_of_lt_of_le SZ n.size
            replace HMb := Lib.hid ((HMb.out.kept n nof).hi n.size)
            replace HB8 := Lib.hid (n.heap HB8.out id)
            replace HIX := Lib.hid ((HIX.out.kept n nof).hi n.size)
            replace HB9 := Lib.hid (n.heap HB9.out id)
            replace HIY := Lib.hid ((HIY.out.kept n nof).hi n.size)
            replace HBY := Lib.hid (n.heap HBY.out id)
            replace HMc := Lib.hid ((HMc.out.kept n nof).hi n.size)
            replace HBC := Lib.hid (n.heap HBC.out id)
            replace HIZ := Lib.hid ((HIZ.out.kept n nof).hi n.size)
            replace HBZ := Lib.hid (n.heap HBZ.out id)
            clear n
            have kHBZ0 : w40.cell? ⟨w30.heap.size, 0, none⟩ = some (.int .i64 zW) := by rw [cell_of HBZ.out]; rfl
            have jHBZ0 : ∀ o, (w40.alloc o).cell? ⟨w30.heap.size, 0, none⟩ = some (.int .i64 zW) := fun o => cell_alloc_old o kHBZ0
            have kHBZ1 : w40.cell? ⟨w30.heap.size, 1, none⟩ = some (.int .i64 zH) := by rw [cell_of HBZ.out]; rfl
            have jHBZ1 : ∀ o, (w40.alloc o).cell? ⟨w30.heap.size, 1, none⟩ = some (.int .i64 zH) := fun o => cell_alloc_old o kHBZ1
            have kHBZ2 : w40.cell? ⟨w30.heap.size, 2, none⟩ = some (.slice AZ zl.length cZ) := by rw [cell_of HBZ.out]; rfl
            have jHBZ2 : ∀ o, (w40.alloc o).cell? ⟨w30.heap.size, 2, none⟩ = some (.slice AZ zl.length cZ) := fun o => cell_alloc_old o kHBZ2
            go_wp2_with (go_at_call 6; fail)
            clear kHBZ0 jHBZ0 kHBZ1 jHBZ1 kHBZ2 jHBZ2
            refine Calls_nm ?_
            intro W41 hW
            have n : Nw w40 W41 := by rw [hW]; first | exact Ch.refl _ _ | exact (Ch.refl _ _).alloc _ | exact ((Ch.refl _ _).alloc _).alloc _
            replace NX := Lib.hid (NX.out.trans n)
            replace RN := Lib.hid (RN.out.kept n id)
            replace MX := Lib.hid (MX.out.kept n id)
            replace HLA := Lib.hid (HLA.out.kept n nof)
            replace HLB := Lib.hid (HLB.out.kept n nof)
            replace HLC := Lib.hid (HLC.out.kept n nof)
            replace HB0 := Lib.hid (n.heap HB0.out id)
            replace SZ := Nat.lt_of_lt_of_le SZ n.size
            replace HMb := Lib.hid ((HMb.out.kept n nof).hi n.size)
            replace HB8 := Lib.hid (n.heap HB8.out id)
            replace HIX := Lib.hid ((HIX.out.kept n nof).hi n.size)
            replace HB9 := Lib.hid (n.heap HB9.out id)
            replace HIY := Lib.hid ((HIY.out.kept n nof).hi n.size)
            replace HBY := Lib.hid (n.heap HBY.out id)
            replace HMc := Lib.hid ((HMc.out.kept n nof).hi n.size)
            replace HBC := Lib.hid (n.heap HBC.out id)
            replace HIZ := Lib.hid ((HIZ.out.kept n nof).hi n.size)
            replace HBZ := Lib.hid (n.heap HBZ.out id)
            clear hW n
            refine imCheck_ok W41.heap.size _ (zW, zH, zl) _ _ HIZ.out HZO.out ?_
            intro w42 n
            replace NX := Lib.hid (NX.out.trans n)
            replace RN := Lib.hid (RN.out.kept n id)
            replace MX := Lib.hid (MX.out.kept n id)
            replace HLA := Lib.hid (HLA.out.kept n nof)
            replace HLB := Lib.hid (HLB.out.kept n nof)
            replace HLC := Lib.hid (HLC.out.kept n nof)
            replace HB0 := Lib.hid (n.heap HB0.out id)
            replace SZ := Nat.lt_of_lt_of_le SZ n.size
            replace HMb := Lib.hid ((HMb.out.kept n nof).hi n.size)
            replace HB8 := Lib.hid (n.heap HB8.out id)
            replace HIX := Lib.hid ((HIX.out.kept n nof).hi n.size)
            replace HB9 := Lib.hid (n.heap HB9.out id)
            replace HIY := Lib.hid ((HIY.out.kept n nof).hi n.size)
            replace HBY := Lib.hid (n.heap HBY.out id)
            replace HMc := Lib.hid ((HMc.out.kept n nof).hi n.size)
            replace HBC := Lib.hid (n.heap HBC.out id)
            replace HIZ := Lib.hid ((HIZ.out.kept n nof).hi n.size)
            replace HBZ := Lib.hid (n.heap HBZ.out id)
            clear n
            go_wp2_with fail
            exact ret_b (HR.out _ NX.out) (by simp)
        | false => as_aux_lemma =>
          have hz0 := hfp rfl
          obtain ⟨rfl, rfl, rfl⟩ : zW = 0 ∧ zH = 0 ∧ zl = [] := by simpa [zeroI] using hz0
          clear htp hfp hz0
          obtain ⟨rfl, rfl⟩ | ⟨rfl, hne⟩ | hne : (bw = cw ∧ bh = ch) ∨ (bw = cw ∧ bh ≠ ch) ∨ bw ≠ cw := by omega
          · as_aux_lemma =>
            have fbz : Hid (∀ o : World, o = w30.alloc (.cells #[.int .i64 0, .int .i64 0, .slice AZ 0 cZ] 25) → o.heap[w30.heap.size]? = some (.cells #[.int .i64 0, .int .i64 0, .slice AZ 0 cZ] 25 (0, 0))) := Lib.hid (fun o h => by rw [h]; exact heap_alloc_eq _ rfl)
            have kHBC0 : w30.cell? ⟨w26.heap.size, 0, none⟩ = some (.int .i64 bw) := by rw [cell_of HBC.out]; rfl
            have jHBC0 : ∀ o, (w30.alloc o).cell? ⟨w26.heap.size, 0, none⟩ = some (.int .i64 bw) := fun o => cell_alloc_old o kHBC0
            have kHBC1 : w30.cell? ⟨w26.heap.size, 1, none⟩ = some (.int .i64 bh) := by rw [cell_of HBC.out]; rfl
            have jHBC1 : ∀ o, (w30.alloc o).cell? ⟨w26.heap.size, 1, none⟩ = some (.int .i64 bh) := fun o => cell_alloc_old o kHBC1
            have kHB80 : w30.cell? ⟨w4.heap.size, 0, none⟩ = some (.int .i64 bw) := by rw [cell_of HB8.out]; rfl
            have jHB80 : ∀ o, (w30.alloc o).cell? ⟨w4.heap.size, 0, none⟩ = some (.int .i64 bw) := fun o => cell_alloc_old o kHB80
            have kHB81 : w30.cell? ⟨w4.heap.size, 1, none⟩ = some (.int .i64 bh) := by rw [cell_of HB8.out]; rfl
            have jHB81 : ∀ o, (w30.alloc o).cell? ⟨w4.heap.size, 1, none⟩ = some (.int .i64 bh) := fun o => cell_alloc_old o kHB81
            go_wp2_with (go_at_call 6; fail)
            clear kHBC0 jHBC0 kHBC1 jHBC1 kHB80 jHB80 kHB81 jHB81
            refine Calls_nm ?_
            intro W43 hW
            have n : Nw w30 W43 := by rw [hW]; first | exact Ch.refl _ _ | exact (Ch.refl _ _).alloc _ | exact ((Ch.refl _ _).alloc _).alloc _
            replace NX := Lib.hid (NX.out.trans n)
            replace RN := Lib.hid (RN.out.kept n id)
            replace MX := Lib.hid (MX.out.kept n id)
            replace HLA := Lib.hid (HLA.out.kept n nof)
            replace HLB := Lib.hid (HLB.out.kept n nof)
            replace HLC := Lib.hid (HLC.out.kept n nof)
            replace HB0 := Lib.hid (n.heap HB0.out id)
            replace SZ := Nat.lt_of_lt_of_le SZ n.size
            replace HMb := Lib.hid ((HMb.out.kept n nof).hi n.size)
            replace HB8 := Lib.hid (n.heap HB8.out id)
            replace HIX := Lib.hid ((HIX.out.kept n nof).hi n.size)
            replace HB9 := Lib.hid (n.heap HB9.out id)
            replace HIY := Lib.hid ((HIY.out.kept n nof).hi n.size)
            replace HBY := Lib.hid (n.heap HBY.out id)
            replace HMc := Lib.hid ((HMc.out.kept n nof).hi n.size)
            replace HBC := Lib.hid (n.heap HBC.out id)
            replace HIZ := Lib.hid ((HIZ.out.kept n nof).hi n.size)
            have HBZ := Lib.hid (show W43.heap[w30.heap.size]? = some (.cells #[.int .i64 0, .int .i64 0, .slice AZ 0 cZ] 25 (0, 0)) from by rw [hW]; exact heap_alloc_eq _ rfl)
            clear hW n
            refine imSame_any W43.heap.size _ _ (0, 0, []) (0, 0, []) _ _ HIZ.out (isIm_zero _ _) ?_
            rw [decide_eq_true rfl]
            intro w44 n
            replace NX := Lib.hid (NX.out.trans n)
            replace RN := Lib.hid (RN.out.kept n id)
            replace MX := Lib.hid (MX.out.kept n id)
            replace HLA := Lib.hid (HLA.out.kept n nof)
            replace HLB := Lib.hid (HLB.out.kept n nof)
            replace HLC := Lib.hid (HLC.out.kept n nof)
            replace HB0 := Lib.hid (n.heap HB0.out id)
            replace SZ := Nat.lt_of_lt_of_le SZ n.size
            replace HMb := Lib.hid ((HMb.out.kept n nof).hi n.size)
            replace HB8 := Lib.hid (n.heap HB8.out id)
            replace HIX := Lib.hid ((HIX.out.kept n nof).hi n.size)
            replace HB9 := Lib.hid (n.heap HB9.out id)
            replace HIY := Lib.hid ((HIY.out.kept n nof).hi n.size)
            replace HBY := Lib.hid (n.heap HBY.out id)
            replace HMc := Lib.hid ((HMc.out.kept n nof).hi n.size)
            replace HBC := Lib.hid (n.heap HBC.out id)
            replace HIZ := Lib.hid ((HIZ.out.kept n nof).hi n.size)
            replace HBZ := Lib.hid (n.heap HBZ.out id)
            clear n
            go_wp2_with fail
            exact ret_b (HR.out _ NX.out) (by simp)
          · as_aux_lemma =>
            have y1 : (bh == ch) = false := by simp [hne]
            have y2 : decide (bh = ch) = false := decide_eq_false hne
            have fbz : Hid (∀ o : World, o = w30.alloc (.cells #[.int .i64 0, .int .i64 0, .slice AZ 0 cZ] 25) → o.heap[w30.heap.size]? = some (.cells #[.int .i64 0, .int .i64 0, .slice AZ 0 cZ] 25 (0, 0))) := Lib.hid (fun o h => by rw [h]; exact heap_alloc_eq _ rfl)
            have kHBC0 : w30.cell? ⟨w26.heap.size, 0, none⟩ = some (.int .i64 bw) := by rw [cell_of HBC.out]; rfl
            have jHBC0 : ∀ o, (w30.alloc o).cell? ⟨w26.heap.size, 0, none⟩ = some (.int .i64 bw) := fun o => cell_alloc_old o kHBC0
            have kHBC1 : w30.cell? ⟨w26.heap.size, 1, none⟩ = some (.int .i64 ch) := by rw [cell_of HBC.out]; rfl
            have jHBC1 : ∀ o, (w30.alloc o).cell? ⟨w26.heap.size, 1, none⟩ = some (.int .i64 ch) := fun o => cell_alloc_old o kHBC1
            have kHB80 : w30.cell? ⟨w4.heap.size, 0, none⟩ = some (.int .i64 bw) := by rw [cell_of HB8.out]; rfl
            have jHB80 : ∀ o, (w30.alloc o).cell? ⟨w4.heap.size, 0, none⟩ = some (.int .i64 bw) := fun o => cell_alloc_old o kHB80
            have kHB81 : w30.cell? ⟨w4.heap.size, 1, none⟩ = some (.int .i64 bh) := by rw [cell_of HB8.out]; rfl
            have jHB81 : ∀ o, (w30.alloc o).cell? ⟨w4.heap.size, 1, none⟩ = some (.int .i64 bh) := fun o => cell_alloc_old o kHB81
            go_wp2_with (go_at_call 6; fail)
            clear kHBC0 jHBC0 kHBC1 jHBC1 kHB80 jHB80 kHB81 jHB81
            refine Calls_nm ?_
            intro W45 hW
            have n : Nw w30 W45 := by rw [hW]; first | exact Ch.refl _ _ | exact (Ch.refl _ _).alloc _ | exact ((Ch.refl _ _).alloc _).alloc _
            replace NX := Lib.hid (NX.out.trans n)
            replace RN := Lib.hid (RN.out.kept n id)
            replace MX := Lib.hid (MX.out.kept n id)
            replace HLA := Lib.hid (HLA.out.kept n nof)
            replace HLB := Lib.hid (HLB.out.kept n nof)
            replace HLC := Lib.hid (HLC.out.kept n nof)
            replace HB0 := Lib.hid (n.heap HB0.out id)
            replace SZ := Nat.lt_of_lt_of_le SZ n.size
            replace HMb := Lib.hid ((HMb.out.kept n nof).hi n.size)
            replace HB8 := Lib.hid (n.heap HB8.out id)
            replace HIX := Lib.hid ((HIX.out.kept n nof).hi n.size)
            replace HB9 := Lib.hid (n.heap HB9.out id)
            replace HIY := Lib.hid ((HIY.out.kept n nof).hi n.size)
            replace HBY := Lib.hid (n.heap HBY.out id)
            replace HMc := Lib.hid ((HMc.out.kept n nof).hi n.size)
            replace HBC := Lib.hid (n.heap HBC.out id)
            replace HIZ := Lib.hid ((HIZ.out.kept n nof).hi n.size)
            have HBZ := Lib.hid (show W45.heap[w30.heap.size]? = some (.cells #[.int .i64 0, .int .i64 0, .slice AZ 0 cZ] 25 (0, 0)) from by rw [hW]; exact heap_alloc_eq _ rfl)
            clear hW n
            refine imSame_any W45.heap.size _ _ (0, 0, []) (0, 0, []) _ _ HIZ.out (isIm_zero _ _) ?_
            rw [decide_eq_true rfl]
            intro w46 n
            replace NX := Lib.hid (NX.out.trans n)
            replace RN := Lib.hid (RN.out.kept n id)
            replace MX := Lib.hid (MX.out.kept n id)
            replace HLA := Lib.hid (HLA.out.kept n nof)
            replace HLB := Lib.hid (HLB.out.kept n nof)
            replace HLC := Lib.hid (HLC.out.kept n nof)
            replace HB0 := Lib.hid (n.heap HB0.out id)
            replace SZ := Nat.lt_of_lt_of_le SZ n.size
            replace HMb := Lib.hid ((HMb.out.kept n nof).hi n.size)
            replace HB8 := Lib.hid (n.heap HB8.out id)
            replace HIX := Lib.hid ((HIX.out.kept n nof).hi n.size)
            replace HB9 := Lib.hid (n.heap HB9.out id)
            replace HIY := Lib.hid ((HIY.out.kept n nof).hi n.size)
            replace HBY := Lib.hid (n.heap HBY.out id)
            replace HMc := Lib.hid ((HMc.out.kept n nof).hi n.size)
            replace HBC := Lib.hid (n.heap HBC.out id)
            replace HIZ := Lib.hid ((HIZ.out.kept n nof).hi n.size)
            replace HBZ := Lib.hid (n.heap HBZ.out id)
            clear n
            go_wp2_with fail
            exact ret_b (HR.out _ NX.out) (by simp)
          · as_aux_lemma =>
            have y1 : (bw == cw) = false := by simp [hne]
            have y2 : decide (bw = cw) = false := decide_eq_false hne
            have fbz : Hid (∀ o : World, o = w30.alloc (.cells #[.int .i64 0, .int .i64 0, .slice AZ 0 cZ] 25) → o.heap[w30.heap.size]? = some (.cells #[.int .i64 0, .int .i64 0, .slice AZ 0 cZ] 25 (0, 0))) := Lib.hid (fun o h => by rw [h]; exact heap_alloc_eq _ rfl)
            have kHBC0 : w30.cell? ⟨w26.heap.size, 0, none⟩ = some (.int .i64 cw) := by rw [cell_of HBC.out]; rfl
            have jHBC0 : ∀ o, (w30.alloc o).cell? ⟨w26.heap.size, 0, none⟩ = some (.int .i64 cw) := fun o => cell_alloc_old o kHBC0
            have kHBC1 : w30.cell? ⟨w26.heap.size, 1, none⟩ = some (.int .i64 ch) := by rw [cell_of HBC.out]; rfl
            have jHBC1 : ∀ o, (w30.alloc o).cell? ⟨w26.heap.size, 1, none⟩ = some (.int .i64 ch) := fun o => cell_alloc_old o kHBC1
            have kHB80 : w30.cell? ⟨w4.heap.size, 0, none⟩ = some (.int .i64 bw) := by rw [cell_of HB8.out]; rfl
            have jHB80 : ∀ o, (w30.alloc o).cell? ⟨w4.heap.size, 0, none⟩ = some (.int .i64 bw) := fun o => cell_alloc_old o kHB80
            have kHB81 : w30.cell? ⟨w4.heap.size, 1, none⟩ = some (.int .i64 bh) := by rw [cell_of HB8.out]; rfl
            have jHB81 : ∀ o, (w30.alloc o).cell? ⟨w4.heap.size, 1, none⟩ = some (.int .i64 bh) := fun o => cell_alloc_old o kHB81
            go_wp2_with (go_at_call 6; fail)
            clear kHBC0 jHBC0 kHBC1 jHBC1 kHB80 jHB80 kHB81 jHB81
            refine Calls_nm ?_
            intro W47 hW
            have n : Nw w30 W47 := by rw [hW]; first | exact Ch.refl _ _ | exact (Ch.refl _ _).alloc _ | exact ((Ch.refl _ _).alloc _).alloc _
            replace NX := Lib.hid (NX.out.trans n)
            replace RN := Lib.hid (RN.out.kept n id)
            replace MX := Lib.hid (MX.out.kept n id)
            replace HLA := Lib.hid (HLA.out.kept n nof)
            replace HLB := Lib.hid (HLB.out.kept n nof)
            replace HLC := Lib.hid (HLC.out.kept n nof)
            replace HB0 := Lib.hid (n.heap HB0.out id)
            replace SZ := Nat.lt_of_lt_of_le SZ n.size
            replace HMb := Lib.hid ((HMb.out.kept n nof).hi n.size)
            replace HB8 := Lib.hid (n.heap HB8.out id)
            replace HIX := Lib.hid ((HIX.out.kept n nof).hi n.size)
            replace HB9 := Lib.hid (n.heap HB9.out id)
            replace HIY := Lib.hid ((HIY.out.kept n nof).hi n.size)
            replace HBY := Lib.hid (n.heap HBY.out id)
            replace HMc := Lib.hid ((HMc.out.kept n nof).hi n.size)
            replace HBC := Lib.hid (n.heap HBC.out id)
            replace HIZ := Lib.hid ((HIZ.out.kept n nof).hi n.size)
            have HBZ := Lib.hid (show W47.heap[w30.heap.size]? = some (.cells #[.int .i64 0, .int .i64 0, .slice AZ 0 cZ] 25 (0, 0)) from by rw [hW]; exact heap_alloc_eq _ rfl)
            clear hW n
            refine imSame_any W47.heap.size _ _ (0, 0, []) (0, 0, []) _ _ HIZ.out (isIm_zero _ _) ?_
            rw [decide_eq_true rfl]
            intro w48 n
            replace NX := Lib.hid (NX.out.trans n)
            replace RN := Lib.hid (RN.out.kept n id)
            replace MX := Lib.hid (MX.out.kept n id)
            replace HLA := Lib.hid (HLA.out.kept n nof)
            replace HLB := Lib.hid (HLB.out.kept n nof)
            replace HLC := Lib.hid (HLC.out.kept n nof)
            replace HB0 := Lib.hid (n.heap HB0.out id)
            replace SZ := Nat.lt_of_lt_of_le SZ n.size
            replace HMb := Lib.hid ((HMb.out.kept n nof).hi n.size)
            replace HB8 := Lib.hid (n.heap HB8.out id)
            replace HIX := Lib.hid ((HIX.out.kept n nof).hi n.size)
            replace HB9 := Lib.hid (n.heap HB9.out id)
            replace HIY := Lib.hid ((HIY.out.kept n nof).hi n.size)
            replace HBY := Lib.hid (n.heap HBY.out id)
            replace HMc := Lib.hid ((HMc.out.kept n nof).hi n.size)
            replace HBC := Lib.hid (n.heap HBC.out id)
            replace HIZ := Lib.hid ((HIZ.out.kept n nof).hi n.size)
            replace HBZ := Lib.hid (n.heap HBZ.out id)
            clear n
            go_wp2_with fail
            exact ret_b (HR.out _ NX.out) (by simp)
end Go.Proofs.YtnhdnjhhjmgmnaaDoor
