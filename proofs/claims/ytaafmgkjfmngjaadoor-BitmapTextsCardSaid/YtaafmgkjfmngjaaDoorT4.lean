/-
  The contract of the law BitmapTexts: it returns true.
-/
import Derived.Test.YtaafmgkjfmngjaaDoorSan04
import Derived.Test.YtaafmgkjfmngjaaDoorBs4
import Derived.Test.YtaafmgkjfmngjaaDoorBt4
import Derived.Test.YtaafmgkjfmngjaaDoorBpr4
import Derived.Test.YtaafmgkjfmngjaaDoorSame4
import Derived.Test.YtaafmgkjfmngjaaDoorBhas
import Derived.Test.YtaafmgkjfmngjaaDoorNew4
import Derived.Test.YtaafmgkjfmngjaaDoorTt4
import Derived.Test.YtaafmgkjfmngjaaDoorSlc
import Derived.Test.YtaafmgkjfmngjaaDoorRegU
import Derived.Test.YtaafmgkjfmngjaaDoorRegV
namespace Go.Proofs.YtaafmgkjfmngjaaDoor
open Go.RowKit
set_option linter.unusedVariables false
set_option linter.unusedSimpArgs false
set_option maxRecDepth 100000

set_option maxHeartbeats 16000000 in
theorem btexts_any (lo : Nat) (va vb : Value) (la lb : List Int) (od n0 n1 n2 n3 : Int) (z : ByteArray) (w : World) (R : Ending → World → Prop) (hlo : lo ≤ w.heap.size) (hla : IsInts w lo va la) (hlb : IsInts w lo vb lb)
    (hod : wfI od) (hz : z.size ≤ maxLen) (hmx : MaxOk w)
    (hR : ∀ w', Nw w w' → R (.returned (.bool true)) w') : Calls Tryd.prog 7 #[.agg #[va, vb, .int .i64 od, .int .i64 n0, .int .i64 n1, .int .i64 n2, .int .i64 n3], .string z] w R := by
  have HR := Lib.hid hR
  clear hR
  have HLA := Lib.hid (hla.hi hlo)
  have HLB := Lib.hid (hlb.hi hlo)
  have HOD := Lib.hid hod
  obtain ⟨A0, c0, rfl, -⟩ := hla
  obtain ⟨A1, c1, rfl, -⟩ := hlb
  have NX := Lib.hid (Ch.refl (fun _ => False) w)
  have MX := Lib.hid hmx
  have hm0 := hmx.lt
  unfold maxLen at hz
  clear hmx hod
  go_enter Tryd.func7, Tryd.ntmps7
  go_wp2_with (go_at_call 3; fail)
  refine Calls_nm ?_
  intro W1 hW
  have n : Nw w W1 := by rw [hW]; exact (Ch.refl _ _).alloc _
  replace NX := Lib.hid (NX.out.trans n)
  replace MX := Lib.hid (MX.out.kept n id)
  replace HLA := Lib.hid (HLA.out.kept n nof)
  replace HLB := Lib.hid (HLB.out.kept n nof)
  have HB3 := Lib.hid (show W1.heap[w.heap.size]? = some (.cells #[.slice A0 la.length c0, .slice A1 lb.length c1, .int .i64 od, .int .i64 n0, .int .i64 n1, .int .i64 n2, .int .i64 n3] 25 (0, 0)) from by rw [hW]; exact heap_alloc_eq _ rfl)
  clear hW n
  have SZ : w.heap.size < W1.heap.size := lt_of_heap HB3.out
  refine sanity_any _ _ MX.out ?_
  intro w2 n
  replace NX := Lib.hid (NX.out.trans n)
  replace MX := Lib.hid (MX.out.kept n id)
  replace HLA := Lib.hid (HLA.out.kept n nof)
  replace HLB := Lib.hid (HLB.out.kept n nof)
  replace HB3 := Lib.hid (n.heap HB3.out id)
  replace SZ := Nat.lt_of_lt_of_le SZ n.size
  clear n
  have kHB30 : w2.cell? ⟨w.heap.size, 0, none⟩ = some (.slice A0 la.length c0) := by rw [cell_of HB3.out]; rfl
  have jHB30 : ∀ o, (w2.alloc o).cell? ⟨w.heap.size, 0, none⟩ = some (.slice A0 la.length c0) := fun o => cell_alloc_old o kHB30
  have kHB31 : w2.cell? ⟨w.heap.size, 1, none⟩ = some (.slice A1 lb.length c1) := by rw [cell_of HB3.out]; rfl
  have jHB31 : ∀ o, (w2.alloc o).cell? ⟨w.heap.size, 1, none⟩ = some (.slice A1 lb.length c1) := fun o => cell_alloc_old o kHB31
  have kHB32 : w2.cell? ⟨w.heap.size, 2, none⟩ = some (.int .i64 od) := by rw [cell_of HB3.out]; rfl
  have jHB32 : ∀ o, (w2.alloc o).cell? ⟨w.heap.size, 2, none⟩ = some (.int .i64 od) := fun o => cell_alloc_old o kHB32
  have kHB33 : w2.cell? ⟨w.heap.size, 3, none⟩ = some (.int .i64 n0) := by rw [cell_of HB3.out]; rfl
  have jHB33 : ∀ o, (w2.alloc o).cell? ⟨w.heap.size, 3, none⟩ = some (.int .i64 n0) := fun o => cell_alloc_old o kHB33
  have kHB34 : w2.cell? ⟨w.heap.size, 4, none⟩ = some (.int .i64 n1) := by rw [cell_of HB3.out]; rfl
  have jHB34 : ∀ o, (w2.alloc o).cell? ⟨w.heap.size, 4, none⟩ = some (.int .i64 n1) := fun o => cell_alloc_old o kHB34
  have kHB35 : w2.cell? ⟨w.heap.size, 5, none⟩ = some (.int .i64 n2) := by rw [cell_of HB3.out]; rfl
  have jHB35 : ∀ o, (w2.alloc o).cell? ⟨w.heap.size, 5, none⟩ = some (.int .i64 n2) := fun o => cell_alloc_old o kHB35
  have kHB36 : w2.cell? ⟨w.heap.size, 6, none⟩ = some (.int .i64 n3) := by rw [cell_of HB3.out]; rfl
  have jHB36 : ∀ o, (w2.alloc o).cell? ⟨w.heap.size, 6, none⟩ = some (.int .i64 n3) := fun o => cell_alloc_old o kHB36
  go_wp2_with (go_at_call 3; fail)
  clear kHB30 jHB30 kHB31 jHB31 kHB32 jHB32 kHB33 jHB33 kHB34 jHB34 kHB35 jHB35 kHB36 jHB36
  obtain ⟨zs, hzs⟩ : ∃ s, z.extract 0 (min (z.size : Int) 300).toNat = s := ⟨_, rfl⟩
  rw [hzs]
  have hz3 : zs.size ≤ 300 := by rw [← hzs, ByteArray.size_extract]; omega
  clear hzs hz
  refine bitmaps_det w.heap.size _ _ la lb od n0 n1 n2 n3 _ _ HLA.out HLB.out (by omega) HOD.out ?_
  intro w3 v1 v2 v3 a b d ha hb hd hE1 hl1 hl2 hE2 hl3 hl4 hl5 n hda hdb
  replace NX := Lib.hid (NX.out.trans n)
  replace MX := Lib.hid (MX.out.kept n id)
  replace HLA := Lib.hid (HLA.out.kept n nof)
  replace HLB := Lib.hid (HLB.out.kept n nof)
  replace HB3 := Lib.hid (n.heap HB3.out id)
  replace SZ := Nat.lt_of_lt_of_le SZ n.size
  obtain ⟨aW, aH, al⟩ := a
  obtain ⟨bW, bH, bl⟩ := b
  obtain ⟨dW, dH, dl⟩ := d
  obtain ⟨Aa, ca, rfl, hIa⟩ := isBm_formN (W := aW) (H := aH) (n := al.length) ha rfl rfl rfl
  have HIa := Lib.hid hIa
  clear hIa ha
  obtain ⟨Ab, cb, rfl, hIb⟩ := isBm_formN (W := bW) (H := bH) (n := bl.length) hb rfl rfl rfl
  have HIb := Lib.hid hIb
  clear hIb hb
  obtain ⟨Ad, cd, rfl, hId⟩ := isBm_formN (W := dW) (H := dH) (n := dl.length) hd rfl rfl rfl
  have HId := Lib.hid hId
  clear hId hd
  clear n
  have La : al.length ≤ 1000 := by
    obtain ⟨⟨e1, -⟩, ⟨e3, -⟩, e5⟩ := bmE_ok hE1
    have h2 : aW * aH ≤ 16 * 12 := Int.mul_le_mul (by assumption) (by assumption) (by simp only at e3; omega) (by omega)
    simp only at e5
    omega
  obtain ⟨⟨ea1, -⟩, ⟨ea2, -⟩, -⟩ := bmE_ok hE1
  simp only at ea1 ea2 hl1 hl2
  have Lb : bl.length ≤ 1000 := by
    obtain ⟨⟨e1, -⟩, ⟨e3, -⟩, e5⟩ := bmE_ok hE2
    have h2 : bW * bH ≤ 16 * 12 := Int.mul_le_mul (by assumption) (by assumption) (by simp only at e3; omega) (by omega)
    simp only at e5
    omega
  obtain ⟨⟨eb1, -⟩, ⟨eb2, -⟩, -⟩ := bmE_ok hE2
  simp only at eb1 eb2 hl3 hl4
  have Ld : dl.length ≤ 1000 := by simp only at hl5; omega
  have HEA := Lib.hid hE1
  have HEB := Lib.hid hE2
  have HDA := Lib.hid hda
  have HDB := Lib.hid hdb
  clear hE1 hE2 hda hdb hl5
  clear HLA HLB HB3 HId
  go_upto_region 4 with (fail)
  refine wp_named ?_
  intro W4 hW
  have n : Nw w3 W4 := by rw [hW]; exact (((Ch.refl _ _).alloc _).alloc _).alloc _
  replace NX := Lib.hid (NX.out.trans n)
  replace MX := Lib.hid (MX.out.kept n id)
  replace SZ := Nat.lt_of_lt_of_le SZ n.size
  replace HIa := Lib.hid ((HIa.out.kept n nof).hi n.size)
  replace HIb := Lib.hid ((HIb.out.kept n nof).hi n.size)
  have HBA := Lib.hid (show W4.heap[w3.heap.size]? = some (.cells #[.int .i64 aW, .int .i64 aH, .slice Aa al.length ca] 28 (0, 0)) from by rw [hW]; exact heap_alloc_old' _ (heap_alloc_old' _ (heap_alloc_eq _ rfl)))
  have HBB := Lib.hid (show W4.heap[w3.heap.size + 1]? = some (.cells #[.int .i64 bW, .int .i64 bH, .slice Ab bl.length cb] 28 (0, 0)) from by rw [hW]; exact heap_alloc_old' _ (heap_alloc_eq _ (by simp only [alloc_size])))
  have HBD := Lib.hid (show W4.heap[w3.heap.size + 2]? = some (.cells #[.int .i64 dW, .int .i64 dH, .slice Ad dl.length cd] 28 (0, 0)) from by rw [hW]; exact heap_alloc_eq _ (by simp only [alloc_size]))
  clear hW n
  clear HBD
  have kHBA0 : W4.cell? ⟨w3.heap.size, 0, none⟩ = some (.int .i64 aW) := by rw [cell_of HBA.out]; rfl
  have kHBA1 : W4.cell? ⟨w3.heap.size, 1, none⟩ = some (.int .i64 aH) := by rw [cell_of HBA.out]; rfl
  have kHBA2 : W4.cell? ⟨w3.heap.size, 2, none⟩ = some (.slice Aa al.length ca) := by rw [cell_of HBA.out]; rfl
  have kHBB0 : W4.cell? ⟨w3.heap.size + 1, 0, none⟩ = some (.int .i64 bW) := by rw [cell_of HBB.out]; rfl
  have kHBB1 : W4.cell? ⟨w3.heap.size + 1, 1, none⟩ = some (.int .i64 bH) := by rw [cell_of HBB.out]; rfl
  have kHBB2 : W4.cell? ⟨w3.heap.size + 1, 2, none⟩ = some (.slice Ab bl.length cb) := by rw [cell_of HBB.out]; rfl
  refine wp_region_lit ?_
  refine wpList_plain rfl fun K hK => ?_
  go_simp
  refine hK _ _ ?_
  clear hK K
  try simp only [Act.put, List.getElem_toArray, List.getElem_cons_succ, List.getElem_cons_zero, List.setIfInBounds_toArray, List.set_cons_zero, List.set_cons_succ]
  refine wpList_plain rfl fun K hK => ?_
  go_simp
  refine hK _ _ ?_
  clear hK K
  try simp only [Act.put, List.getElem_toArray, List.getElem_cons_succ, List.getElem_cons_zero, List.setIfInBounds_toArray, List.set_cons_zero, List.set_cons_succ]
  refine wpList_plain rfl fun K hK => ?_
  refine wp_lit2x3 49 28 _ _ rfl (by kernel_rfl) (by kernel_rfl) (by rfl) (by rfl) ?_
  refine hK _ _ ?_
  clear hK K
  try simp only [Act.put, List.getElem_toArray, List.getElem_cons_succ, List.getElem_cons_zero, List.setIfInBounds_toArray, List.set_cons_zero, List.set_cons_succ]
  clear kHBA0 kHBA1 kHBA2 kHBB0 kHBB1 kHBB2
  go_wp2_with fail
  refine wp_named ?_
  intro W5 hW
  have n : Nw W4 W5 := by rw [hW]; first | exact Ch.refl _ _ | exact (Ch.refl _ _).alloc _ | exact ((Ch.refl _ _).alloc _).alloc _
  replace NX := Lib.hid (NX.out.trans n)
  replace MX := Lib.hid (MX.out.kept n id)
  replace SZ := Nat.lt_of_lt_of_le SZ n.size
  replace HIa := Lib.hid ((HIa.out.kept n nof).hi n.size)
  replace HIb := Lib.hid ((HIb.out.kept n nof).hi n.size)
  replace HBA := Lib.hid (n.heap HBA.out id)
  replace HBB := Lib.hid (n.heap HBB.out id)
  have HSL := Lib.hid (show W5.heap[W4.heap.size]? = some (.cells #[.int .i64 aW, .int .i64 aH, .slice Aa al.length ca, .int .i64 bW, .int .i64 bH, .slice Ab bl.length cb] 28 (0, 0)) from by rw [hW]; exact heap_alloc_eq _ rfl)
  clear hW n
  clear HBA HBB
  go_loopw [33] (fun s33 wr => ∃ (k : Nat), s33 = .int .i64 k ∧ k ≤ 2 ∧ Hid (Nw W5 wr)) (fun s33 _ => 2 - (intOf s33).toNat)
  case atStart => exact ⟨0, rfl, by omega, Lib.hid (Ch.refl _ _)⟩
  case round =>
    obtain ⟨k, rfl, hk, HC⟩ := hrel
    have k0 : (0 : Int) ≤ (k : Int) := by omega
    obtain ⟨wr0, hwr0⟩ : ∃ W : World, W = wr := ⟨_, rfl⟩
    subst hwr0
    replace NX := Lib.hid (NX.out.trans HC.out)
    replace MX := Lib.hid (MX.out.kept HC.out id)
    replace SZ := Nat.lt_of_lt_of_le SZ HC.out.size
    replace HIa := Lib.hid ((HIa.out.kept HC.out nof).hi HC.out.size)
    replace HIb := Lib.hid ((HIb.out.kept HC.out nof).hi HC.out.size)
    replace HSL := Lib.hid (HC.out.heap HSL.out id)
    by_cases hlt : k < 2
    · have k2 : (k : Int) < 2 := by omega
      have hX : ∃ (x : Bm) (A : Option Addr) (c : Nat), wr0.cell? ⟨W4.heap.size, k * 3, none⟩ = some (.int .i64 x.1) ∧ wr0.cell? ⟨W4.heap.size, k * 3 + 1, none⟩ = some (.int .i64 x.2.1) ∧ wr0.cell? ⟨W4.heap.size, k * 3 + 2, none⟩ = some (.slice A x.2.2.length c) ∧ IsBm wr0 wr0.heap.size (.agg #[.int .i64 x.1, .int .i64 x.2.1, .slice A x.2.2.length c]) x ∧ bmE x = 0 ∧ 0 ≤ x.1 ∧ x.1 ≤ 16 ∧ 0 ≤ x.2.1 ∧ x.2.1 ≤ 12 := by
        obtain rfl | rfl : k = 0 ∨ k = 1 := by omega
        · exact ⟨(aW, aH, al), Aa, ca, by rw [cell_of HSL.out]; rfl, by rw [cell_of HSL.out]; rfl, by rw [cell_of HSL.out]; rfl, HIa.out, HEA.out, by assumption, by assumption, by assumption, by assumption⟩
        · exact ⟨(bW, bH, bl), Ab, cb, by rw [cell_of HSL.out]; rfl, by rw [cell_of HSL.out]; rfl, by rw [cell_of HSL.out]; rfl, HIb.out, HEB.out, by assumption, by assumption, by assumption, by assumption⟩
      obtain ⟨⟨xW, xH, xl⟩, AX, cX, t0, t1, t2, hX, hE, x0, x1, x2, x3⟩ := hX
      simp only at t0 t1 t2 hX hE x0 x1 x2 x3
      have HIX := Lib.hid hX
      clear hX
      have hOk := bmOk_iff.2 hE
      clear HIa HIb HSL
      go_wp2_with (go_at_call 3; fail)
      clear t0 t1 t2
      refine Calls_nm ?_
      intro W6 hW
      have n : Nw wr0 W6 := by rw [hW]; first | exact Ch.refl _ _ | exact (Ch.refl _ _).alloc _ | exact ((Ch.refl _ _).alloc _).alloc _
      replace NX := Lib.hid (NX.out.trans n)
      replace MX := Lib.hid (MX.out.kept n id)
      replace SZ := Nat.lt_of_lt_of_le SZ n.size
      replace HC := Lib.hid (HC.out.trans n)
      replace HIX := Lib.hid ((HIX.out.kept n nof).hi n.size)
      have HBP := Lib.hid (show W6.heap[wr0.heap.size]? = some (.cells #[.int .i64 xW, .int .i64 xH, .slice AX xl.length cX] 28 (0, 0)) from by rw [hW]; exact heap_alloc_eq _ rfl)
      clear hW n
      refine bText_any _ _ _ _ _ HIX.out (Nat.le_refl _) ?_
      intro w7 n
      replace NX := Lib.hid (NX.out.trans n)
      replace MX := Lib.hid (MX.out.kept n id)
      replace SZ := Nat.lt_of_lt_of_le SZ n.size
      replace HC := Lib.hid (HC.out.trans n)
      replace HIX := Lib.hid ((HIX.out.kept n nof).hi n.size)
      replace HBP := Lib.hid (n.heap HBP.out id)
      clear n
      have hsz := textB_sizeI hOk
      have hpt : parseB (textB (xW, xH, xl)) = if 1 ≤ xW ∧ 1 ≤ xH then ((xW, xH, xl), true) else (zeroB, false) := by
        split
        · rename_i h; exact parse_textB hOk h.1 h.2
        · rename_i h; exact parse_textB_no hOk h
      have hft := fun (i : Nat) (hi : (i : Int) < xW) (hH : 0 < xH) => textB_first hOk hi hH
      obtain ⟨L, hL⟩ : ∃ L, textB (xW, xH, xl) = L := ⟨_, rfl⟩
      rw [hL] at hsz hpt ⊢
      simp only [hL] at hft
      clear hL
      obtain ⟨T, hT⟩ : ∃ T : ByteArray, ⟨L.toArray⟩ = T := ⟨_, rfl⟩
      rw [hT]
      have hTs : (T.size : Int) = (xW + 1) * xH := by rw [← hT]; show ((L.toArray.size : Nat) : Int) = _; rw [List.size_toArray]; exact hsz
      have hTd : T.data.toList = L := by rw [← hT]
      have hTl : T.size ≤ 1000 := by
        have h2 : (xW + 1) * xH ≤ 17 * 12 := Int.mul_le_mul (by omega) (by omega) (by omega) (by omega)
        omega
      have HPT := Lib.hid hpt
      have HFT := Lib.hid hft
      have HOK := Lib.hid hE
      clear hT hsz hpt hft hOk hE
      go_wp2_with (go_at_call 3; fail)
      refine Calls_nm ?_
      intro W8 hW
      have n : Nw w7 W8 := by rw [hW]; first | exact Ch.refl _ _ | exact (Ch.refl _ _).alloc _ | exact ((Ch.refl _ _).alloc _).alloc _
      replace NX := Lib.hid (NX.out.trans n)
      replace MX := Lib.hid (MX.out.kept n id)
      replace SZ := Nat.lt_of_lt_of_le SZ n.size
      replace HC := Lib.hid (HC.out.trans n)
      replace HIX := Lib.hid ((HIX.out.kept n nof).hi n.size)
      replace HBP := Lib.hid (n.heap HBP.out id)
      clear hW n
      refine bParse_any T _ _ MX.out (by omega) ?_
      intro w9 v hi n
      replace NX := Lib.hid (NX.out.trans n)
      replace MX := Lib.hid (MX.out.kept n id)
      replace SZ := Nat.lt_of_lt_of_le SZ n.size
      replace HC := Lib.hid (HC.out.trans n)
      replace HIX := Lib.hid ((HIX.out.kept n nof).hi n.size)
      replace HBP := Lib.hid (n.heap HBP.out id)
      rw [hTd, HPT.out] at hi ⊢
      by_cases hpos : 1 ≤ xW ∧ 1 ≤ xH
      · as_aux_lemma =>
        rw [if_pos hpos] at hi ⊢
        obtain ⟨hp1, hp2⟩ := hpos
        simp only at hi ⊢
        obtain ⟨AY, cY, rfl, hI⟩ := isBm_formN (W := xW) (H := xH) (n := xl.length) hi rfl rfl rfl
        have HIY := Lib.hid hI
        clear hi hI n
        go_upto_region 9 with (fail)
        refine wp_named ?_
        intro W10 hW
        have n : Nw w9 W10 := by rw [hW]; exact (Ch.refl _ _).alloc _
        replace NX := Lib.hid (NX.out.trans n)
        replace MX := Lib.hid (MX.out.kept n id)
        replace SZ := Nat.lt_of_lt_of_le SZ n.size
        replace HC := Lib.hid (HC.out.trans n)
        replace HIX := Lib.hid ((HIX.out.kept n nof).hi n.size)
        replace HBP := Lib.hid (n.heap HBP.out id)
        replace HIY := Lib.hid ((HIY.out.kept n nof).hi n.size)
        have HBY := Lib.hid (show W10.heap[w9.heap.size]? = some (.cells #[.int .i64 xW, .int .i64 xH, .slice AY xl.length cY] 28 (0, 0)) from by rw [hW]; exact heap_alloc_eq _ rfl)
        clear hW n
        have kHBP0 : W10.cell? ⟨wr0.heap.size, 0, none⟩ = some (.int .i64 xW) := by rw [cell_of HBP.out]; rfl
        have kHBP1 : W10.cell? ⟨wr0.heap.size, 1, none⟩ = some (.int .i64 xH) := by rw [cell_of HBP.out]; rfl
        have kHBP2 : W10.cell? ⟨wr0.heap.size, 2, none⟩ = some (.slice AX xl.length cX) := by rw [cell_of HBP.out]; rfl
        have kHBY0 : W10.cell? ⟨w9.heap.size, 0, none⟩ = some (.int .i64 xW) := by rw [cell_of HBY.out]; rfl
        have kHBY1 : W10.cell? ⟨w9.heap.size, 1, none⟩ = some (.int .i64 xH) := by rw [cell_of HBY.out]; rfl
        have kHBY2 : W10.cell? ⟨w9.heap.size, 2, none⟩ = some (.slice AY xl.length cY) := by rw [cell_of HBY.out]; rfl
        go_wp2_with (go_at_call 3; fail)
        clear kHBP0 kHBP1 kHBP2 kHBY0 kHBY1 kHBY2
        refine bSame_any _ _ _ (xW, xH, xl) (xW, xH, xl) _ _ HIX.out HIY.out ?_
        rw [decide_eq_true rfl]
        intro w11 n
        replace NX := Lib.hid (NX.out.trans n)
        replace MX := Lib.hid (MX.out.kept n id)
        replace SZ := Nat.lt_of_lt_of_le SZ n.size
        replace HC := Lib.hid (HC.out.trans n)
        replace HIX := Lib.hid ((HIX.out.kept n nof).hi n.size)
        replace HBP := Lib.hid (n.heap HBP.out id)
        replace HIY := Lib.hid ((HIY.out.kept n nof).hi n.size)
        replace HBY := Lib.hid (n.heap HBY.out id)
        clear n
        clear HIY HBY
        have kHBP0 : w11.cell? ⟨wr0.heap.size, 0, none⟩ = some (.int .i64 xW) := by rw [cell_of HBP.out]; rfl
        have kHBP1 : w11.cell? ⟨wr0.heap.size, 1, none⟩ = some (.int .i64 xH) := by rw [cell_of HBP.out]; rfl
        have kHBP2 : w11.cell? ⟨wr0.heap.size, 2, none⟩ = some (.slice AX xl.length cX) := by rw [cell_of HBP.out]; rfl
        go_wp2_with fail
        clear kHBP0 kHBP1 kHBP2
        refine wp_named ?_
        intro W12 hW
        have n : Nw w11 W12 := by rw [hW]; first | exact Ch.refl _ _ | exact (Ch.refl _ _).alloc _ | exact ((Ch.refl _ _).alloc _).alloc _
        replace NX := Lib.hid (NX.out.trans n)
        replace MX := Lib.hid (MX.out.kept n id)
        replace SZ := Nat.lt_of_lt_of_le SZ n.size
        replace HC := Lib.hid (HC.out.trans n)
        replace HIX := Lib.hid ((HIX.out.kept n nof).hi n.size)
        replace HBP := Lib.hid (n.heap HBP.out id)
        clear hW n
        go_loopw [14] (fun s14 wr => ∃ (i : Nat), s14 = .int .i64 i ∧ (i : Int) ≤ xW ∧ Hid (Nw W12 wr)) (fun s14 _ => (xW - intOf s14).toNat)
        case atStart => exact ⟨0, rfl, by omega, Lib.hid (Ch.refl _ _)⟩
        case round =>
          obtain ⟨i, rfl, hi, HC2⟩ := hrel
          have i0 : (0 : Int) ≤ (i : Int) := by omega
          obtain ⟨wr1, hwr1⟩ : ∃ W : World, W = wr := ⟨_, rfl⟩
          subst hwr1
          replace NX := Lib.hid (NX.out.trans HC2.out)
          replace MX := Lib.hid (MX.out.kept HC2.out id)
          replace SZ := Nat.lt_of_lt_of_le SZ HC2.out.size
          replace HC := Lib.hid (HC.out.trans HC2.out)
          replace HIX := Lib.hid ((HIX.out.kept HC2.out nof).hi HC2.out.size)
          replace HBP := Lib.hid (HC2.out.heap HBP.out id)
          by_cases hit : (i : Int) < xW
          · as_aux_lemma =>
            have hcell := HFT.out i hit (by omega)
            have h2 : xW + 1 ≤ (xW + 1) * xH := by have := Int.mul_le_mul_of_nonneg_left (show (1 : Int) ≤ xH by omega) (show 0 ≤ xW + 1 by omega); omega
            have hiT : (i : Int) < (T.size : Int) := by omega
            have hiN : i < T.size := by omega
            obtain ⟨vb, hvb⟩ : ∃ v, getB (xW, xH, xl) i (xH - 1) = v := ⟨_, rfl⟩
            have HVB := Lib.hid hvb
            simp only [hvb] at hcell
            clear h2 hvb
            have u1 : IntKind.i64.wrap (xH - 1) = xH - 1 := by rw [IntKind.wrap_i64]; omega
            have kHBP0 : wr1.cell? ⟨wr0.heap.size, 0, none⟩ = some (.int .i64 xW) := by rw [cell_of HBP.out]; rfl
            have kHBP1 : wr1.cell? ⟨wr0.heap.size, 1, none⟩ = some (.int .i64 xH) := by rw [cell_of HBP.out]; rfl
            have kHBP2 : wr1.cell? ⟨wr0.heap.size, 2, none⟩ = some (.slice AX xl.length cX) := by rw [cell_of HBP.out]; rfl
            go_upto_region 14 with (fail)
            clear kHBP0 kHBP1 kHBP2
            rw [← hTd] at hcell
            cases vb
            case false =>
              refine wp_named ?_
              intro W13 hW
              have n : Nw wr1 W13 := by rw [hW]; first | exact Ch.refl _ _ | exact (Ch.refl _ _).alloc _
              replace NX := Lib.hid (NX.out.trans n)
              replace MX := Lib.hid (MX.out.kept n id)
              replace SZ := Nat.lt_of_lt_of_le SZ n.size
              replace HC := Lib.hid (HC.out.trans n)
              replace HIX := Lib.hid ((HIX.out.kept n nof).hi n.size)
              replace HBP := Lib.hid (n.heap HBP.out id)
              replace HC2 := Lib.hid (HC2.out.trans n)
              clear hW n
              refine wp_region_V (F := fun w' => w'.cell? ⟨wr0.heap.size, 0, none⟩ = some (.int .i64 xW) ∧ w'.cell? ⟨wr0.heap.size, 1, none⟩ = some (.int .i64 xH) ∧ w'.cell? ⟨wr0.heap.size, 2, none⟩ = some (.slice AX xl.length cX)) (opsOf Tryd.f7 14) 11 11 (by kernel_rfl) (by kernel_rfl) (by kernel_rfl) (fun w w' h n => ⟨n.cell h.1 id, n.cell h.2.1 id, n.cell h.2.2 id⟩) ⟨by show W13.cell? _ = _; rw [cell_of HBP.out]; rfl, by show W13.cell? _ = _; rw [cell_of HBP.out]; rfl, by show W13.cell? _ = _; rw [cell_of HBP.out]; rfl⟩ (fun HOPS HCL hHeld => ?_)
              refine wpU_named ?_
              intro W14 hW
              try rw [← hW] at hHeld
              have n : Nw W13 W14 := by rw [hW]; exact (Ch.refl _ _).drew
              replace NX := Lib.hid (NX.out.trans n)
              replace MX := Lib.hid (MX.out.kept n id)
              replace SZ := Nat.lt_of_lt_of_le SZ n.size
              replace HC := Lib.hid (HC.out.trans n)
              replace HIX := Lib.hid ((HIX.out.kept n nof).hi n.size)
              replace HBP := Lib.hid (n.heap HBP.out id)
              replace HC2 := Lib.hid (HC2.out.trans n)
              clear hW n
              first | (refine wpU_takeB (i := 0) (v := ?_) HOPS rfl (by kernel_rfl) (fun _ _ _ h => h) HCL (goes_read (by rfl) ?hy) ?_; case hy => (intro w hSw; (try dsimp only at hSw); go_simp; (try with_reducible rfl))) | (refine wpU_takeB (i := 0) (v := _) HOPS rfl (by kernel_rfl) (fun _ _ _ h => h) HCL (goes_not (by rfl)) ?_)
              try simp only [Act.put, List.getElem_toArray, List.getElem_cons_succ, List.getElem_cons_zero, List.setIfInBounds_toArray, List.set_cons_zero, List.set_cons_succ]
              first | (refine wpU_takeB (i := 1) (v := ?_) HOPS rfl (by kernel_rfl) (fun _ _ _ h => h) HCL (goes_read (by rfl) ?hy) ?_; case hy => (intro w hSw; (try dsimp only at hSw); go_simp; (try with_reducible rfl))) | (refine wpU_takeB (i := 1) (v := _) HOPS rfl (by kernel_rfl) (fun _ _ _ h => h) HCL (goes_not (by rfl)) ?_)
              try simp only [Act.put, List.getElem_toArray, List.getElem_cons_succ, List.getElem_cons_zero, List.setIfInBounds_toArray, List.set_cons_zero, List.set_cons_succ]
              first | (refine wpU_takeB (i := 4) (v := ?_) HOPS rfl (by kernel_rfl) (fun _ _ _ h => h) HCL (goes_read (by rfl) ?hy) ?_; case hy => (intro w hSw; (try dsimp only at hSw); go_simp; (try with_reducible rfl))) | (refine wpU_takeB (i := 4) (v := _) HOPS rfl (by kernel_rfl) (fun _ _ _ h => h) HCL (goes_not (by rfl)) ?_)
              try simp only [Act.put, List.getElem_toArray, List.getElem_cons_succ, List.getElem_cons_zero, List.setIfInBounds_toArray, List.set_cons_zero, List.set_cons_succ]
              first | (refine wpU_takeB (i := 5) (v := ?_) HOPS rfl (by kernel_rfl) (fun _ _ _ h => h) HCL (goes_read (by rfl) ?hy) ?_; case hy => (intro w hSw; (try dsimp only at hSw); go_simp; (try with_reducible rfl))) | (refine wpU_takeB (i := 5) (v := _) HOPS rfl (by kernel_rfl) (fun _ _ _ h => h) HCL (goes_not (by rfl)) ?_)
              try simp only [Act.put, List.getElem_toArray, List.getElem_cons_succ, List.getElem_cons_zero, List.setIfInBounds_toArray, List.set_cons_zero, List.set_cons_succ]
              first | (refine wpU_takeB (i := 6) (v := ?_) HOPS rfl (by kernel_rfl) (fun _ _ _ h => h) HCL (goes_read (by rfl) ?hy) ?_; case hy => (intro w hSw; (try dsimp only at hSw); go_simp; (try with_reducible rfl))) | (refine wpU_takeB (i := 6) (v := _) HOPS rfl (by kernel_rfl) (fun _ _ _ h => h) HCL (goes_not (by rfl)) ?_)
              try simp only [Act.put, List.getElem_toArray, List.getElem_cons_succ, List.getElem_cons_zero, List.setIfInBounds_toArray, List.set_cons_zero, List.set_cons_succ]
              first | (refine wpU_takeB (i := 7) (v := ?_) HOPS rfl (by kernel_rfl) (fun _ _ _ h => h) HCL (goes_read (by rfl) ?hy) ?_; case hy => (intro w hSw; (try dsimp only at hSw); go_simp; (try with_reducible rfl))) | (refine wpU_takeB (i := 7) (v := _) HOPS rfl (by kernel_rfl) (fun _ _ _ h => h) HCL (goes_not (by rfl)) ?_)
              try simp only [Act.put, List.getElem_toArray, List.getElem_cons_succ, List.getElem_cons_zero, List.setIfInBounds_toArray, List.set_cons_zero, List.set_cons_succ]
              first | (refine wpU_takeB (i := 8) (v := ?_) HOPS rfl (by kernel_rfl) (fun _ _ _ h => h) HCL (goes_read (by rfl) ?hy) ?_; case hy => (intro w hSw; (try dsimp only at hSw); go_simp; (try with_reducible rfl))) | (refine wpU_takeB (i := 8) (v := _) HOPS rfl (by kernel_rfl) (fun _ _ _ h => h) HCL (goes_not (by rfl)) ?_)
              try simp only [Act.put, List.getElem_toArray, List.getElem_cons_succ, List.getElem_cons_zero, List.setIfInBounds_toArray, List.set_cons_zero, List.set_cons_succ]
              refine wpU_takeB (i := 2) HOPS rfl (by kernel_rfl) (fun _ _ _ h => h) HCL (goes_idx _ _ _ T i _ 46 (by rfl) rfl Tryd.underlying9 (by rfl) (by rfl) hcell rfl) ?_
              try simp only [Act.put, List.getElem_toArray, List.getElem_cons_succ, List.getElem_cons_zero, List.setIfInBounds_toArray, List.set_cons_zero, List.set_cons_succ]
              first | (refine wpU_takeB (i := 3) (v := ?_) HOPS rfl (by kernel_rfl) (fun _ _ _ h => h) HCL (goes_read (by rfl) ?hy) ?_; case hy => (intro w hSw; (try dsimp only at hSw); go_simp; (try with_reducible rfl))) | (refine wpU_takeB (i := 3) (v := _) HOPS rfl (by kernel_rfl) (fun _ _ _ h => h) HCL (goes_not (by rfl)) ?_)
              try simp only [Act.put, List.getElem_toArray, List.getElem_cons_succ, List.getElem_cons_zero, List.setIfInBounds_toArray, List.set_cons_zero, List.set_cons_succ]
              refine wpU_takeB (i := 9) HOPS rfl (by kernel_rfl) (fun _ _ _ h => h) HCL (goes_fn (v := (.bool false)) 29 _ _ _ #[(.agg #[.int .i64 xW, .int .i64 xH, .slice AX xl.length cX]), .int .i64 i, .int .i64 (xH - 1)] (by rfl) rfl (by kernel_rfl) (by kernel_rfl) (by kernel_rfl) (fun wq n R hR => ?_)) ?_
              · exact Get_any _ _ (xW, xH, xl) i (xH - 1) _ _ (HIX.out.kept n nof) (by rw [HVB.out]; exact hR)
              try simp only [Act.put, List.getElem_toArray, List.getElem_cons_succ, List.getElem_cons_zero, List.setIfInBounds_toArray, List.set_cons_zero, List.set_cons_succ]
              first | (refine wpU_takeB (i := 10) (v := ?_) HOPS rfl (by kernel_rfl) (fun _ _ _ h => h) HCL (goes_read (by rfl) ?hy) ?_; case hy => (intro w hSw; (try dsimp only at hSw); go_simp; (try with_reducible rfl))) | (refine wpU_takeB (i := 10) (v := _) HOPS rfl (by kernel_rfl) (fun _ _ _ h => h) HCL (goes_not (by rfl)) ?_)
              try simp only [Act.put, List.getElem_toArray, List.getElem_cons_succ, List.getElem_cons_zero, List.setIfInBounds_toArray, List.set_cons_zero, List.set_cons_succ]
              refine wpU_done (by kernel_rfl) (fun w15 hle => ?_) _
              have n := (hle.ahead (by kernel_rfl)).1
              replace NX := Lib.hid (NX.out.trans n)
              replace MX := Lib.hid (MX.out.kept n id)
              replace SZ := Nat.lt_of_lt_of_le SZ n.size
              replace HC := Lib.hid (HC.out.trans n)
              replace HIX := Lib.hid ((HIX.out.kept n nof).hi n.size)
              replace HBP := Lib.hid (n.heap HBP.out id)
              replace HC2 := Lib.hid (HC2.out.trans n)
              clear n
              clear HOPS HCL hle
              repeat clear hHeld
              go_wp2_with fail
              refine ⟨⟨i + 1, by go_num, by omega, Lib.hid HC2.out⟩, ?_⟩
              simp [intOf]; omega
            case true =>
              refine wp_named ?_
              intro W16 hW
              have n : Nw wr1 W16 := by rw [hW]; first | exact Ch.refl _ _ | exact (Ch.refl _ _).alloc _
              replace NX := Lib.hid (NX.out.trans n)
              replace MX := Lib.hid (MX.out.kept n id)
              replace SZ := Nat.lt_of_lt_of_le SZ n.size
              replace HC := Lib.hid (HC.out.trans n)
              replace HIX := Lib.hid ((HIX.out.kept n nof).hi n.size)
              replace HBP := Lib.hid (n.heap HBP.out id)
              replace HC2 := Lib.hid (HC2.out.trans n)
              clear hW n
              refine wp_region_V (F := fun w' => w'.cell? ⟨wr0.heap.size, 0, none⟩ = some (.int .i64 xW) ∧ w'.cell? ⟨wr0.heap.size, 1, none⟩ = some (.int .i64 xH) ∧ w'.cell? ⟨wr0.heap.size, 2, none⟩ = some (.slice AX xl.length cX)) (opsOf Tryd.f7 14) 11 11 (by kernel_rfl) (by kernel_rfl) (by kernel_rfl) (fun w w' h n => ⟨n.cell h.1 id, n.cell h.2.1 id, n.cell h.2.2 id⟩) ⟨by show W16.cell? _ = _; rw [cell_of HBP.out]; rfl, by show W16.cell? _ = _; rw [cell_of HBP.out]; rfl, by show W16.cell? _ = _; rw [cell_of HBP.out]; rfl⟩ (fun HOPS HCL hHeld => ?_)
              refine wpU_named ?_
              intro W17 hW
              try rw [← hW] at hHeld
              have n : Nw W16 W17 := by rw [hW]; exact (Ch.refl _ _).drew
              replace NX := Lib.hid (NX.out.trans n)
              replace MX := Lib.hid (MX.out.kept n id)
              replace SZ := Nat.lt_of_lt_of_le SZ n.size
              replace HC := Lib.hid (HC.out.trans n)
              replace HIX := Lib.hid ((HIX.out.kept n nof).hi n.size)
              replace HBP := Lib.hid (n.heap HBP.out id)
              replace HC2 := Lib.hid (HC2.out.trans n)
              clear hW n
              first | (refine wpU_takeB (i := 0) (v := ?_) HOPS rfl (by kernel_rfl) (fun _ _ _ h => h) HCL (goes_read (by rfl) ?hy) ?_; case hy => (intro w hSw; (try dsimp only at hSw); go_simp; (try with_reducible rfl))) | (refine wpU_takeB (i := 0) (v := _) HOPS rfl (by kernel_rfl) (fun _ _ _ h => h) HCL (goes_not (by rfl)) ?_)
              try simp only [Act.put, List.getElem_toArray, List.getElem_cons_succ, List.getElem_cons_zero, List.setIfInBounds_toArray, List.set_cons_zero, List.set_cons_succ]
              first | (refine wpU_takeB (i := 1) (v := ?_) HOPS rfl (by kernel_rfl) (fun _ _ _ h => h) HCL (goes_read (by rfl) ?hy) ?_; case hy => (intro w hSw; (try dsimp only at hSw); go_simp; (try with_reducible rfl))) | (refine wpU_takeB (i := 1) (v := _) HOPS rfl (by kernel_rfl) (fun _ _ _ h => h) HCL (goes_not (by rfl)) ?_)
              try simp only [Act.put, List.getElem_toArray, List.getElem_cons_succ, List.getElem_cons_zero, List.setIfInBounds_toArray, List.set_cons_zero, List.set_cons_succ]
              first | (refine wpU_takeB (i := 4) (v := ?_) HOPS rfl (by kernel_rfl) (fun _ _ _ h => h) HCL (goes_read (by rfl) ?hy) ?_; case hy => (intro w hSw; (try dsimp only at hSw); go_simp; (try with_reducible rfl))) | (refine wpU_takeB (i := 4) (v := _) HOPS rfl (by kernel_rfl) (fun _ _ _ h => h) HCL (goes_not (by rfl)) ?_)
              try simp only [Act.put, List.getElem_toArray, List.getElem_cons_succ, List.getElem_cons_zero, List.setIfInBounds_toArray, List.set_cons_zero, List.set_cons_succ]
              first | (refine wpU_takeB (i := 5) (v := ?_) HOPS rfl (by kernel_rfl) (fun _ _ _ h => h) HCL (goes_read (by rfl) ?hy) ?_; case hy => (intro w hSw; (try dsimp only at hSw); go_simp; (try with_reducible rfl))) | (refine wpU_takeB (i := 5) (v := _) HOPS rfl (by kernel_rfl) (fun _ _ _ h => h) HCL (goes_not (by rfl)) ?_)
              try simp only [Act.put, List.getElem_toArray, List.getElem_cons_succ, List.getElem_cons_zero, List.setIfInBounds_toArray, List.set_cons_zero, List.set_cons_succ]
              first | (refine wpU_takeB (i := 6) (v := ?_) HOPS rfl (by kernel_rfl) (fun _ _ _ h => h) HCL (goes_read (by rfl) ?hy) ?_; case hy => (intro w hSw; (try dsimp only at hSw); go_simp; (try with_reducible rfl))) | (refine wpU_takeB (i := 6) (v := _) HOPS rfl (by kernel_rfl) (fun _ _ _ h => h) HCL (goes_not (by rfl)) ?_)
              try simp only [Act.put, List.getElem_toArray, List.getElem_cons_succ, List.getElem_cons_zero, List.setIfInBounds_toArray, List.set_cons_zero, List.set_cons_succ]
              first | (refine wpU_takeB (i := 7) (v := ?_) HOPS rfl (by kernel_rfl) (fun _ _ _ h => h) HCL (goes_read (by rfl) ?hy) ?_; case hy => (intro w hSw; (try dsimp only at hSw); go_simp; (try with_reducible rfl))) | (refine wpU_takeB (i := 7) (v := _) HOPS rfl (by kernel_rfl) (fun _ _ _ h => h) HCL (goes_not (by rfl)) ?_)
              try simp only [Act.put, List.getElem_toArray, List.getElem_cons_succ, List.getElem_cons_zero, List.setIfInBounds_toArray, List.set_cons_zero, List.set_cons_succ]
              first | (refine wpU_takeB (i := 8) (v := ?_) HOPS rfl (by kernel_rfl) (fun _ _ _ h => h) HCL (goes_read (by rfl) ?hy) ?_; case hy => (intro w hSw; (try dsimp only at hSw); go_simp; (try with_reducible rfl))) | (refine wpU_takeB (i := 8) (v := _) HOPS rfl (by kernel_rfl) (fun _ _ _ h => h) HCL (goes_not (by rfl)) ?_)
              try simp only [Act.put, List.getElem_toArray, List.getElem_cons_succ, List.getElem_cons_zero, List.setIfInBounds_toArray, List.set_cons_zero, List.set_cons_succ]
              refine wpU_takeB (i := 2) HOPS rfl (by kernel_rfl) (fun _ _ _ h => h) HCL (goes_idx _ _ _ T i _ 35 (by rfl) rfl Tryd.underlying9 (by rfl) (by rfl) hcell rfl) ?_
              try simp only [Act.put, List.getElem_toArray, List.getElem_cons_succ, List.getElem_cons_zero, List.setIfInBounds_toArray, List.set_cons_zero, List.set_cons_succ]
              first | (refine wpU_takeB (i := 3) (v := ?_) HOPS rfl (by kernel_rfl) (fun _ _ _ h => h) HCL (goes_read (by rfl) ?hy) ?_; case hy => (intro w hSw; (try dsimp only at hSw); go_simp; (try with_reducible rfl))) | (refine wpU_takeB (i := 3) (v := _) HOPS rfl (by kernel_rfl) (fun _ _ _ h => h) HCL (goes_not (by rfl)) ?_)
              try simp only [Act.put, List.getElem_toArray, List.getElem_cons_succ, List.getElem_cons_zero, List.setIfInBounds_toArray, List.set_cons_zero, List.set_cons_succ]
              refine wpU_takeB (i := 9) HOPS rfl (by kernel_rfl) (fun _ _ _ h => h) HCL (goes_fn (v := (.bool true)) 29 _ _ _ #[(.agg #[.int .i64 xW, .int .i64 xH, .slice AX xl.length cX]), .int .i64 i, .int .i64 (xH - 1)] (by rfl) rfl (by kernel_rfl) (by kernel_rfl) (by kernel_rfl) (fun wq n R hR => ?_)) ?_
              · exact Get_any _ _ (xW, xH, xl) i (xH - 1) _ _ (HIX.out.kept n nof) (by rw [HVB.out]; exact hR)
              try simp only [Act.put, List.getElem_toArray, List.getElem_cons_succ, List.getElem_cons_zero, List.setIfInBounds_toArray, List.set_cons_zero, List.set_cons_succ]
              first | (refine wpU_takeB (i := 10) (v := ?_) HOPS rfl (by kernel_rfl) (fun _ _ _ h => h) HCL (goes_read (by rfl) ?hy) ?_; case hy => (intro w hSw; (try dsimp only at hSw); go_simp; (try with_reducible rfl))) | (refine wpU_takeB (i := 10) (v := _) HOPS rfl (by kernel_rfl) (fun _ _ _ h => h) HCL (goes_not (by rfl)) ?_)
              try simp only [Act.put, List.getElem_toArray, List.getElem_cons_succ, List.getElem_cons_zero, List.setIfInBounds_toArray, List.set_cons_zero, List.set_cons_succ]
              refine wpU_done (by kernel_rfl) (fun w18 hle => ?_) _
              have n := (hle.ahead (by kernel_rfl)).1
              replace NX := Lib.hid (NX.out.trans n)
              replace MX := Lib.hid (MX.out.kept n id)
              replace SZ := Nat.lt_of_lt_of_le SZ n.size
              replace HC := Lib.hid (HC.out.trans n)
              replace HIX := Lib.hid ((HIX.out.kept n nof).hi n.size)
              replace HBP := Lib.hid (n.heap HBP.out id)
              replace HC2 := Lib.hid (HC2.out.trans n)
              clear n
              clear HOPS HCL hle
              repeat clear hHeld
              go_wp2_with fail
              refine ⟨⟨i + 1, by go_num, by omega, Lib.hid HC2.out⟩, ?_⟩
              simp [intOf]; omega
          · have hie : (i : Int) = xW := by omega
            have kHBP0 : wr1.cell? ⟨wr0.heap.size, 0, none⟩ = some (.int .i64 xW) := by rw [cell_of HBP.out]; rfl
            have kHBP1 : wr1.cell? ⟨wr0.heap.size, 1, none⟩ = some (.int .i64 xH) := by rw [cell_of HBP.out]; rfl
            have kHBP2 : wr1.cell? ⟨wr0.heap.size, 2, none⟩ = some (.slice AX xl.length cX) := by rw [cell_of HBP.out]; rfl
            go_wp2_with fail
            clear kHBP0 kHBP1 kHBP2
            refine ⟨⟨k + 1, by go_num, by omega, Lib.hid HC.out⟩, ?_⟩
            simp [intOf]; omega
      · as_aux_lemma =>
        rw [if_neg hpos] at hi ⊢
        simp only at hi ⊢
        obtain ⟨AY, cY, rfl, hI⟩ := isBm_formN (W := 0) (H := 0) (n := 0) hi rfl rfl rfl
        have HIY := Lib.hid hI
        clear hi hI n
        go_upto_region 9 with (fail)
        refine wp_named ?_
        intro W19 hW
        have n : Nw w9 W19 := by rw [hW]; exact (Ch.refl _ _).alloc _
        replace NX := Lib.hid (NX.out.trans n)
        replace MX := Lib.hid (MX.out.kept n id)
        replace SZ := Nat.lt_of_lt_of_le SZ n.size
        replace HC := Lib.hid (HC.out.trans n)
        replace HIX := Lib.hid ((HIX.out.kept n nof).hi n.size)
        replace HBP := Lib.hid (n.heap HBP.out id)
        replace HIY := Lib.hid ((HIY.out.kept n nof).hi n.size)
        have HBY := Lib.hid (show W19.heap[w9.heap.size]? = some (.cells #[.int .i64 0, .int .i64 0, .slice AY 0 cY] 28 (0, 0)) from by rw [hW]; exact heap_alloc_eq _ rfl)
        clear hW n
        have hneg : ¬ 0 < xW ∨ (0 < xW ∧ ¬ 0 < xH) := by omega
        clear hpos
        rcases hneg with hn1 | ⟨hn1, hn2⟩
        all_goals
          have kHBP0 : W19.cell? ⟨wr0.heap.size, 0, none⟩ = some (.int .i64 xW) := by rw [cell_of HBP.out]; rfl
          have kHBP1 : W19.cell? ⟨wr0.heap.size, 1, none⟩ = some (.int .i64 xH) := by rw [cell_of HBP.out]; rfl
          have kHBP2 : W19.cell? ⟨wr0.heap.size, 2, none⟩ = some (.slice AX xl.length cX) := by rw [cell_of HBP.out]; rfl
          have kHBY0 : W19.cell? ⟨w9.heap.size, 0, none⟩ = some (.int .i64 0) := by rw [cell_of HBY.out]; rfl
          have kHBY1 : W19.cell? ⟨w9.heap.size, 1, none⟩ = some (.int .i64 0) := by rw [cell_of HBY.out]; rfl
          have kHBY2 : W19.cell? ⟨w9.heap.size, 2, none⟩ = some (.slice AY 0 cY) := by rw [cell_of HBY.out]; rfl
          go_wp2_with (go_at_call 3; fail)
          clear kHBP0 kHBP1 kHBP2 kHBY0 kHBY1 kHBY2
          refine bSame_any _ _ _ zeroB zeroB _ _ HIY.out (isBm_zero _ _) ?_
          rw [decide_eq_true rfl]
          intro w20 n
          replace NX := Lib.hid (NX.out.trans n)
          replace MX := Lib.hid (MX.out.kept n id)
          replace SZ := Nat.lt_of_lt_of_le SZ n.size
          replace HC := Lib.hid (HC.out.trans n)
          replace HIX := Lib.hid ((HIX.out.kept n nof).hi n.size)
          replace HBP := Lib.hid (n.heap HBP.out id)
          replace HIY := Lib.hid ((HIY.out.kept n nof).hi n.size)
          replace HBY := Lib.hid (n.heap HBY.out id)
          clear n
          clear HIY HBY
          have kHBP0 : w20.cell? ⟨wr0.heap.size, 0, none⟩ = some (.int .i64 xW) := by rw [cell_of HBP.out]; rfl
          have kHBP1 : w20.cell? ⟨wr0.heap.size, 1, none⟩ = some (.int .i64 xH) := by rw [cell_of HBP.out]; rfl
          have kHBP2 : w20.cell? ⟨wr0.heap.size, 2, none⟩ = some (.slice AX xl.length cX) := by rw [cell_of HBP.out]; rfl
          go_wp2_with fail
          clear kHBP0 kHBP1 kHBP2
          refine wp_named ?_
          intro W21 hW
          have n : Nw w20 W21 := by rw [hW]; first | exact Ch.refl _ _ | exact (Ch.refl _ _).alloc _ | exact ((Ch.refl _ _).alloc _).alloc _
          replace NX := Lib.hid (NX.out.trans n)
          replace MX := Lib.hid (MX.out.kept n id)
          replace SZ := Nat.lt_of_lt_of_le SZ n.size
          replace HC := Lib.hid (HC.out.trans n)
          replace HIX := Lib.hid ((HIX.out.kept n nof).hi n.size)
          replace HBP := Lib.hid (n.heap HBP.out id)
          clear hW n
          go_loopw [14] (fun s14 wr => s14 = .int .i64 0 ∧ Hid (Nw W21 wr)) (fun s14 _ => 0)
          case atStart => exact ⟨rfl, Lib.hid (Ch.refl _ _)⟩
          case round =>
            obtain ⟨rfl, HC2⟩ := hrel
            obtain ⟨wr1, hwr1⟩ : ∃ W : World, W = wr := ⟨_, rfl⟩
            subst hwr1
            replace NX := Lib.hid (NX.out.trans HC2.out)
            replace MX := Lib.hid (MX.out.kept HC2.out id)
            replace SZ := Nat.lt_of_lt_of_le SZ HC2.out.size
            replace HC := Lib.hid (HC.out.trans HC2.out)
            replace HIX := Lib.hid ((HIX.out.kept HC2.out nof).hi HC2.out.size)
            replace HBP := Lib.hid (HC2.out.heap HBP.out id)
            have kHBP0 : wr1.cell? ⟨wr0.heap.size, 0, none⟩ = some (.int .i64 xW) := by rw [cell_of HBP.out]; rfl
            have kHBP1 : wr1.cell? ⟨wr0.heap.size, 1, none⟩ = some (.int .i64 xH) := by rw [cell_of HBP.out]; rfl
            have kHBP2 : wr1.cell? ⟨wr0.heap.size, 2, none⟩ = some (.slice AX xl.length cX) := by rw [cell_of HBP.out]; rfl
            go_wp2_with fail
            clear kHBP0 kHBP1 kHBP2
            refine ⟨⟨k + 1, by go_num, by omega, Lib.hid HC.out⟩, ?_⟩
            simp [intOf]; omega
    · obtain rfl : k = 2 := by omega
      clear HIa HIb HSL
      go_wp2_with (go_at_call 3; fail)
      refine Calls_nm ?_
      intro W22 hW
      have n : Nw wr0 W22 := by rw [hW]; first | exact Ch.refl _ _ | exact (Ch.refl _ _).alloc _ | exact ((Ch.refl _ _).alloc _).alloc _
      replace NX := Lib.hid (NX.out.trans n)
      replace MX := Lib.hid (MX.out.kept n id)
      replace SZ := Nat.lt_of_lt_of_le SZ n.size
      replace HC := Lib.hid (HC.out.trans n)
      clear hW n
      have hpok := parseB_ok zs.data.toList
      have htp := @text_parseB zs.data.toList
      have hpf := @parseB_false zs.data.toList
      obtain ⟨PP, hPP⟩ : ∃ P, parseB zs.data.toList = P := ⟨_, rfl⟩
      rw [hPP] at hpok htp hpf
      have HPP := Lib.hid hPP
      have HPOK := Lib.hid (bmOk_iff.1 hpok)
      have HTP := Lib.hid htp
      have HPF := Lib.hid hpf
      clear hPP hpok htp hpf
      obtain ⟨⟨zW, zH, zl⟩, pok⟩ := PP
      refine bParse_any zs _ _ MX.out (by omega) ?_
      intro w23 v hi n
      replace NX := Lib.hid (NX.out.trans n)
      replace MX := Lib.hid (MX.out.kept n id)
      replace SZ := Nat.lt_of_lt_of_le SZ n.size
      replace HC := Lib.hid (HC.out.trans n)
      rw [HPP.out] at hi ⊢
      simp only at hi ⊢
      obtain ⟨AZ, cZ, rfl, hI⟩ := isBm_formN (W := zW) (H := zH) (n := zl.length) hi rfl rfl rfl
      have HIZ := Lib.hid hI
      clear hi hI n
      go_upto_region 18 with (fail)
      refine wp_named ?_
      intro W24 hW
      have n : Nw w23 W24 := by rw [hW]; exact (Ch.refl _ _).alloc _
      replace NX := Lib.hid (NX.out.trans n)
      replace MX := Lib.hid (MX.out.kept n id)
      replace SZ := Nat.lt_of_lt_of_le SZ n.size
      replace HC := Lib.hid (HC.out.trans n)
      replace HIZ := Lib.hid ((HIZ.out.kept n nof).hi n.size)
      have HBZ := Lib.hid (show W24.heap[w23.heap.size]? = some (.cells #[.int .i64 zW, .int .i64 zH, .slice AZ zl.length cZ] 28 (0, 0)) from by rw [hW]; exact heap_alloc_eq _ rfl)
      clear hW n
      cases pok
      case false =>
        have kHBZ0 : W24.cell? ⟨w23.heap.size, 0, none⟩ = some (.int .i64 zW) := by rw [cell_of HBZ.out]; rfl
        have kHBZ1 : W24.cell? ⟨w23.heap.size, 1, none⟩ = some (.int .i64 zH) := by rw [cell_of HBZ.out]; rfl
        have kHBZ2 : W24.cell? ⟨w23.heap.size, 2, none⟩ = some (.slice AZ zl.length cZ) := by rw [cell_of HBZ.out]; rfl
        go_wp2_with (go_at_call 3; fail)
        clear kHBZ0 kHBZ1 kHBZ2
        have hz0 := HPF.out (by simp)
        simp only [zeroB, Prod.mk.injEq] at hz0
        obtain ⟨rfl, rfl, rfl⟩ := hz0
        refine bSame_any _ _ _ zeroB zeroB _ _ HIZ.out (isBm_zero _ _) ?_
        rw [decide_eq_true rfl]
        intro w25 n
        replace NX := Lib.hid (NX.out.trans n)
        replace MX := Lib.hid (MX.out.kept n id)
        replace SZ := Nat.lt_of_lt_of_le SZ n.size
        replace HC := Lib.hid (HC.out.trans n)
        replace HIZ := Lib.hid ((HIZ.out.kept n nof).hi n.size)
        replace HBZ := Lib.hid (n.heap HBZ.out id)
        clear n
        go_wp2_with fail
        exact ret_b (HR.out _ NX.out) (by simp)
      case true =>
        have kHBZ0 : W24.cell? ⟨w23.heap.size, 0, none⟩ = some (.int .i64 zW) := by rw [cell_of HBZ.out]; rfl
        have kHBZ1 : W24.cell? ⟨w23.heap.size, 1, none⟩ = some (.int .i64 zH) := by rw [cell_of HBZ.out]; rfl
        have kHBZ2 : W24.cell? ⟨w23.heap.size, 2, none⟩ = some (.slice AZ zl.length cZ) := by rw [cell_of HBZ.out]; rfl
        go_wp2_with (go_at_call 3; fail)
        clear kHBZ0 kHBZ1 kHBZ2
        refine bText_any _ _ _ _ _ HIZ.out (Nat.le_refl _) ?_
        intro w26 n
        replace NX := Lib.hid (NX.out.trans n)
        replace MX := Lib.hid (MX.out.kept n id)
        replace SZ := Nat.lt_of_lt_of_le SZ n.size
        replace HC := Lib.hid (HC.out.trans n)
        replace HIZ := Lib.hid ((HIZ.out.kept n nof).hi n.size)
        replace HBZ := Lib.hid (n.heap HBZ.out id)
        clear n
        rw [show textB (zW, zH, zl) = zs.data.toList from HTP.out (by simp), show (⟨zs.data.toList.toArray⟩ : ByteArray) = zs from by simp]
        have kHBZ0 : w26.cell? ⟨w23.heap.size, 0, none⟩ = some (.int .i64 zW) := by rw [cell_of HBZ.out]; rfl
        have kHBZ1 : w26.cell? ⟨w23.heap.size, 1, none⟩ = some (.int .i64 zH) := by rw [cell_of HBZ.out]; rfl
        have kHBZ2 : w26.cell? ⟨w23.heap.size, 2, none⟩ = some (.slice AZ zl.length cZ) := by rw [cell_of HBZ.out]; rfl
        go_wp2_with (go_at_call 3; fail)
        clear kHBZ0 kHBZ1 kHBZ2
        refine bmCheck_any _ _ _ _ _ HIZ.out ?_
        intro w27 n
        replace NX := Lib.hid (NX.out.trans n)
        replace MX := Lib.hid (MX.out.kept n id)
        replace SZ := Nat.lt_of_lt_of_le SZ n.size
        replace HC := Lib.hid (HC.out.trans n)
        replace HIZ := Lib.hid ((HIZ.out.kept n nof).hi n.size)
        replace HBZ := Lib.hid (n.heap HBZ.out id)
        clear n
        rw [show bmE (zW, zH, zl) = 0 from HPOK.out]
        go_wp2_with fail
        exact ret_b (HR.out _ NX.out) (by simp)
end Go.Proofs.YtaafmgkjfmngjaaDoor
