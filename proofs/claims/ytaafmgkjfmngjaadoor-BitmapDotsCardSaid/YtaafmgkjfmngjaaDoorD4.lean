/-
  The contract of the law BitmapDots: it returns true.
-/
import Derived.Test.YtaafmgkjfmngjaaDoorSan04
import Derived.Test.YtaafmgkjfmngjaaDoorBs4
import Derived.Test.YtaafmgkjfmngjaaDoorSm4
import Derived.Test.YtaafmgkjfmngjaaDoorBm4
import Derived.Test.YtaafmgkjfmngjaaDoorBonly
import Derived.Test.YtaafmgkjfmngjaaDoorBc4
import Derived.Test.YtaafmgkjfmngjaaDoorBp4
import Derived.Test.YtaafmgkjfmngjaaDoorNew4
import Derived.Test.YtaafmgkjfmngjaaDoorSame4
import Derived.Test.YtaafmgkjfmngjaaDoorBhas
import Derived.Test.YtaafmgkjfmngjaaDoorLw4
import Derived.Test.YtaafmgkjfmngjaaDoorRegU
namespace Go.Proofs.YtaafmgkjfmngjaaDoor
open Go.RowKit
set_option linter.unusedVariables false
set_option linter.unusedSimpArgs false
set_option maxRecDepth 100000

set_option maxHeartbeats 16000000 in
theorem bdots_any (lo : Nat) (va vb : Value) (la lb : List Int) (od n0 n1 n2 n3 : Int) (w : World) (R : Ending → World → Prop) (hlo : lo ≤ w.heap.size) (hla : IsInts w lo va la) (hlb : IsInts w lo vb lb)
    (hod : wfI od) (hq : ∀ x ∈ [n0, n1, n2, n3], wfI x) (hmx : MaxOk w)
    (hR : ∀ w', Nw w w' → R (.returned (.bool true)) w') : Calls Tryd.prog 6 #[.agg #[va, vb, .int .i64 od, .int .i64 n0, .int .i64 n1, .int .i64 n2, .int .i64 n3]] w R := by
  have HR := Lib.hid hR
  clear hR
  have HLA := Lib.hid (hla.hi hlo)
  have HLB := Lib.hid (hlb.hi hlo)
  have HOD := Lib.hid hod
  have HQ := Lib.hid hq
  obtain ⟨A0, c0, rfl, -⟩ := hla
  obtain ⟨A1, c1, rfl, -⟩ := hlb
  have NX := Lib.hid (Ch.refl (fun _ => False) w)
  have MX := Lib.hid hmx
  clear hmx hq hod
  go_enter Tryd.func6, Tryd.ntmps6
  go_wp2_with (go_at_call 3; fail)
  refine Calls_nm ?_
  intro W1 hW
  have n : Nw w W1 := by rw [hW]; exact (Ch.refl _ _).alloc _
  replace NX := Lib.hid (NX.out.trans n)
  replace MX := Lib.hid (MX.out.kept n id)
  replace HLA := Lib.hid (HLA.out.kept n nof)
  replace HLB := Lib.hid (HLB.out.kept n nof)
  have HB3 := Lib.hid (show W1.heap[w.heap.size]? = some (.cells #[.slice A0 la.length c0, .slice A1 lb.length c1, .int .i64 od, .int .i64 n0, .int .i64 n1, .int .i64 n2, .int .i64 n3] 25 (0, 0)) from by rw [hW]; exact heap_alloc_eq _ rfl)
  clear hW n
  have SZ : w.heap.size < W1.heap.size := lt_of_heap HB3.out
  refine sanity_any _ _ MX.out ?_
  intro w2 n
  replace NX := Lib.hid (NX.out.trans n)
  replace MX := Lib.hid (MX.out.kept n id)
  replace HLA := Lib.hid (HLA.out.kept n nof)
  replace HLB := Lib.hid (HLB.out.kept n nof)
  replace HB3 := Lib.hid (n.heap HB3.out id)
  replace SZ := Nat.lt_of_lt_of_le SZ n.size
  clear n
  have kHB30 : w2.cell? ⟨w.heap.size, 0, none⟩ = some (.slice A0 la.length c0) := by rw [cell_of HB3.out]; rfl
  have jHB30 : ∀ o, (w2.alloc o).cell? ⟨w.heap.size, 0, none⟩ = some (.slice A0 la.length c0) := fun o => cell_alloc_old o kHB30
  have kHB31 : w2.cell? ⟨w.heap.size, 1, none⟩ = some (.slice A1 lb.length c1) := by rw [cell_of HB3.out]; rfl
  have jHB31 : ∀ o, (w2.alloc o).cell? ⟨w.heap.size, 1, none⟩ = some (.slice A1 lb.length c1) := fun o => cell_alloc_old o kHB31
  have kHB32 : w2.cell? ⟨w.heap.size, 2, none⟩ = some (.int .i64 od) := by rw [cell_of HB3.out]; rfl
  have jHB32 : ∀ o, (w2.alloc o).cell? ⟨w.heap.size, 2, none⟩ = some (.int .i64 od) := fun o => cell_alloc_old o kHB32
  have kHB33 : w2.cell? ⟨w.heap.size, 3, none⟩ = some (.int .i64 n0) := by rw [cell_of HB3.out]; rfl
  have jHB33 : ∀ o, (w2.alloc o).cell? ⟨w.heap.size, 3, none⟩ = some (.int .i64 n0) := fun o => cell_alloc_old o kHB33
  have kHB34 : w2.cell? ⟨w.heap.size, 4, none⟩ = some (.int .i64 n1) := by rw [cell_of HB3.out]; rfl
  have jHB34 : ∀ o, (w2.alloc o).cell? ⟨w.heap.size, 4, none⟩ = some (.int .i64 n1) := fun o => cell_alloc_old o kHB34
  have kHB35 : w2.cell? ⟨w.heap.size, 5, none⟩ = some (.int .i64 n2) := by rw [cell_of HB3.out]; rfl
  have jHB35 : ∀ o, (w2.alloc o).cell? ⟨w.heap.size, 5, none⟩ = some (.int .i64 n2) := fun o => cell_alloc_old o kHB35
  have kHB36 : w2.cell? ⟨w.heap.size, 6, none⟩ = some (.int .i64 n3) := by rw [cell_of HB3.out]; rfl
  have jHB36 : ∀ o, (w2.alloc o).cell? ⟨w.heap.size, 6, none⟩ = some (.int .i64 n3) := fun o => cell_alloc_old o kHB36
  go_wp2_with (go_at_call 3; fail)
  clear kHB30 jHB30 kHB31 jHB31 kHB32 jHB32 kHB33 jHB33 kHB34 jHB34 kHB35 jHB35 kHB36 jHB36
  refine bitmaps_det w.heap.size _ _ la lb od n0 n1 n2 n3 _ _ HLA.out HLB.out (by omega) HOD.out ?_
  intro w3 v1 v2 v3 a b d ha hb hd hE1 hl1 hl2 hE2 hl3 hl4 hl5 n hda hdb
  replace NX := Lib.hid (NX.out.trans n)
  replace MX := Lib.hid (MX.out.kept n id)
  replace HLA := Lib.hid (HLA.out.kept n nof)
  replace HLB := Lib.hid (HLB.out.kept n nof)
  replace HB3 := Lib.hid (n.heap HB3.out id)
  replace SZ := Nat.lt_of_lt_of_le SZ n.size
  obtain ⟨aW, aH, al⟩ := a
  obtain ⟨bW, bH, bl⟩ := b
  obtain ⟨dW, dH, dl⟩ := d
  obtain ⟨Aa, ca, rfl, hIa⟩ := isBm_formN (W := aW) (H := aH) (n := al.length) ha rfl rfl rfl
  have HIa := Lib.hid hIa
  clear hIa ha
  obtain ⟨Ab, cb, rfl, hIb⟩ := isBm_formN (W := bW) (H := bH) (n := bl.length) hb rfl rfl rfl
  have HIb := Lib.hid hIb
  clear hIb hb
  obtain ⟨Ad, cd, rfl, hId⟩ := isBm_formN (W := dW) (H := dH) (n := dl.length) hd rfl rfl rfl
  have HId := Lib.hid hId
  clear hId hd
  clear n
  have La : al.length ≤ 1000 := by
    obtain ⟨⟨e1, -⟩, ⟨e3, -⟩, e5⟩ := bmE_ok hE1
    have h2 : aW * aH ≤ 16 * 12 := Int.mul_le_mul (by assumption) (by assumption) (by simp only at e3; omega) (by omega)
    simp only at e5
    omega
  obtain ⟨⟨ea1, -⟩, ⟨ea2, -⟩, -⟩ := bmE_ok hE1
  simp only at ea1 ea2 hl1 hl2
  have Lb : bl.length ≤ 1000 := by
    obtain ⟨⟨e1, -⟩, ⟨e3, -⟩, e5⟩ := bmE_ok hE2
    have h2 : bW * bH ≤ 16 * 12 := Int.mul_le_mul (by assumption) (by assumption) (by simp only at e3; omega) (by omega)
    simp only at e5
    omega
  obtain ⟨⟨eb1, -⟩, ⟨eb2, -⟩, -⟩ := bmE_ok hE2
  simp only at eb1 eb2 hl3 hl4
  have Ld : dl.length ≤ 1000 := by simp only at hl5; omega
  have HEA := Lib.hid hE1
  have HEB := Lib.hid hE2
  have HDA := Lib.hid hda
  have HDB := Lib.hid hdb
  clear hE1 hE2 hda hdb hl5
  clear HId
  go_upto_region 3 with (fail)
  refine wp_named ?_
  intro W4 hW
  have n : Nw w3 W4 := by rw [hW]; exact (((Ch.refl _ _).alloc _).alloc _).alloc _
  replace NX := Lib.hid (NX.out.trans n)
  replace MX := Lib.hid (MX.out.kept n id)
  replace HLA := Lib.hid (HLA.out.kept n nof)
  replace HLB := Lib.hid (HLB.out.kept n nof)
  replace HB3 := Lib.hid (n.heap HB3.out id)
  replace SZ := Nat.lt_of_lt_of_le SZ n.size
  replace HIa := Lib.hid ((HIa.out.kept n nof).hi n.size)
  replace HIb := Lib.hid ((HIb.out.kept n nof).hi n.size)
  have HBA := Lib.hid (show W4.heap[w3.heap.size]? = some (.cells #[.int .i64 aW, .int .i64 aH, .slice Aa al.length ca] 28 (0, 0)) from by rw [hW]; exact heap_alloc_old' _ (heap_alloc_old' _ (heap_alloc_eq _ rfl)))
  have HBB := Lib.hid (show W4.heap[w3.heap.size + 1]? = some (.cells #[.int .i64 bW, .int .i64 bH, .slice Ab bl.length cb] 28 (0, 0)) from by rw [hW]; exact heap_alloc_old' _ (heap_alloc_eq _ (by simp only [alloc_size])))
  have HBD := Lib.hid (show W4.heap[w3.heap.size + 2]? = some (.cells #[.int .i64 dW, .int .i64 dH, .slice Ad dl.length cd] 28 (0, 0)) from by rw [hW]; exact heap_alloc_eq _ (by simp only [alloc_size]))
  clear hW n
  clear HBD
  have kHB30 : W4.cell? ⟨w.heap.size, 0, none⟩ = some (.slice A0 la.length c0) := by rw [cell_of HB3.out]; rfl
  have jHB30 : ∀ o, (W4.alloc o).cell? ⟨w.heap.size, 0, none⟩ = some (.slice A0 la.length c0) := fun o => cell_alloc_old o kHB30
  have kHB31 : W4.cell? ⟨w.heap.size, 1, none⟩ = some (.slice A1 lb.length c1) := by rw [cell_of HB3.out]; rfl
  have jHB31 : ∀ o, (W4.alloc o).cell? ⟨w.heap.size, 1, none⟩ = some (.slice A1 lb.length c1) := fun o => cell_alloc_old o kHB31
  have kHB32 : W4.cell? ⟨w.heap.size, 2, none⟩ = some (.int .i64 od) := by rw [cell_of HB3.out]; rfl
  have jHB32 : ∀ o, (W4.alloc o).cell? ⟨w.heap.size, 2, none⟩ = some (.int .i64 od) := fun o => cell_alloc_old o kHB32
  have kHB33 : W4.cell? ⟨w.heap.size, 3, none⟩ = some (.int .i64 n0) := by rw [cell_of HB3.out]; rfl
  have jHB33 : ∀ o, (W4.alloc o).cell? ⟨w.heap.size, 3, none⟩ = some (.int .i64 n0) := fun o => cell_alloc_old o kHB33
  have kHB34 : W4.cell? ⟨w.heap.size, 4, none⟩ = some (.int .i64 n1) := by rw [cell_of HB3.out]; rfl
  have jHB34 : ∀ o, (W4.alloc o).cell? ⟨w.heap.size, 4, none⟩ = some (.int .i64 n1) := fun o => cell_alloc_old o kHB34
  have kHB35 : W4.cell? ⟨w.heap.size, 5, none⟩ = some (.int .i64 n2) := by rw [cell_of HB3.out]; rfl
  have jHB35 : ∀ o, (W4.alloc o).cell? ⟨w.heap.size, 5, none⟩ = some (.int .i64 n2) := fun o => cell_alloc_old o kHB35
  have kHB36 : W4.cell? ⟨w.heap.size, 6, none⟩ = some (.int .i64 n3) := by rw [cell_of HB3.out]; rfl
  have jHB36 : ∀ o, (W4.alloc o).cell? ⟨w.heap.size, 6, none⟩ = some (.int .i64 n3) := fun o => cell_alloc_old o kHB36
  go_wp2_with (go_at_call 3; fail)
  clear kHB30 jHB30 kHB31 jHB31 kHB32 jHB32 kHB33 jHB33 kHB34 jHB34 kHB35 jHB35 kHB36 jHB36
  refine bitmaps_det w.heap.size _ _ la lb od n0 n1 n2 n3 _ _ HLA.out HLB.out (by omega) HOD.out ?_
  intro w5 v1 v2 v3 a2 b2 d2 ha hb hd hE1 ho1 ho2 hE2 ho3 ho4 ho5 n hda hdb
  replace NX := Lib.hid (NX.out.trans n)
  replace MX := Lib.hid (MX.out.kept n id)
  replace HLA := Lib.hid (HLA.out.kept n nof)
  replace HLB := Lib.hid (HLB.out.kept n nof)
  replace HB3 := Lib.hid (n.heap HB3.out id)
  replace SZ := Nat.lt_of_lt_of_le SZ n.size
  replace HIa := Lib.hid ((HIa.out.kept n nof).hi n.size)
  replace HIb := Lib.hid ((HIb.out.kept n nof).hi n.size)
  replace HBA := Lib.hid (n.heap HBA.out id)
  replace HBB := Lib.hid (n.heap HBB.out id)
  rw [← HDA.out] at hda
  subst hda
  clear hE1 ho1 ho2 hE2 ho3 ho4 ho5 hdb HDA HDB
  obtain ⟨A2, c2, rfl, hI2⟩ := isBm_formN (W := aW) (H := aH) (n := al.length) ha rfl rfl rfl
  have HIo := Lib.hid hI2
  clear hI2 ha
  obtain ⟨s5, rfl, ⟨A3, c3, rfl, -⟩, -⟩ := hb
  obtain ⟨s6, rfl, ⟨A4, c4, rfl, -⟩, -⟩ := hd
  clear n
  clear HLA HLB MX
  go_upto_region 4 with (fail)
  refine wp_named ?_
  intro W6 hW
  have n : Nw w5 W6 := by rw [hW]; exact (((Ch.refl _ _).alloc _).alloc _).alloc _
  replace NX := Lib.hid (NX.out.trans n)
  replace HB3 := Lib.hid (n.heap HB3.out id)
  replace SZ := Nat.lt_of_lt_of_le SZ n.size
  replace HIa := Lib.hid ((HIa.out.kept n nof).hi n.size)
  replace HIb := Lib.hid ((HIb.out.kept n nof).hi n.size)
  replace HBA := Lib.hid (n.heap HBA.out id)
  replace HBB := Lib.hid (n.heap HBB.out id)
  replace HIo := Lib.hid ((HIo.out.kept n nof).hi n.size)
  have HBO := Lib.hid (show W6.heap[w5.heap.size]? = some (.cells #[.int .i64 aW, .int .i64 aH, .slice A2 al.length c2] 28 (0, 0)) from by rw [hW]; exact heap_alloc_old' _ (heap_alloc_old' _ (heap_alloc_eq _ rfl)))
  have HBO2 := Lib.hid (show W6.heap[w5.heap.size + 1]? = some (.cells #[.int .i64 b2.1, .int .i64 b2.2.1, .slice A3 b2.2.2.length c3] 28 (0, 0)) from by rw [hW]; exact heap_alloc_old' _ (heap_alloc_eq _ (by simp only [alloc_size])))
  have HBO3 := Lib.hid (show W6.heap[w5.heap.size + 2]? = some (.cells #[.int .i64 d2.1, .int .i64 d2.2.1, .slice A4 d2.2.2.length c4] 28 (0, 0)) from by rw [hW]; exact heap_alloc_eq _ (by simp only [alloc_size]))
  clear hW n
  clear HBO2 HBO3
  have kHB30 : W6.cell? ⟨w.heap.size, 0, none⟩ = some (.slice A0 la.length c0) := by rw [cell_of HB3.out]; rfl
  have jHB30 : ∀ o, (W6.alloc o).cell? ⟨w.heap.size, 0, none⟩ = some (.slice A0 la.length c0) := fun o => cell_alloc_old o kHB30
  have kHB31 : W6.cell? ⟨w.heap.size, 1, none⟩ = some (.slice A1 lb.length c1) := by rw [cell_of HB3.out]; rfl
  have jHB31 : ∀ o, (W6.alloc o).cell? ⟨w.heap.size, 1, none⟩ = some (.slice A1 lb.length c1) := fun o => cell_alloc_old o kHB31
  have kHB32 : W6.cell? ⟨w.heap.size, 2, none⟩ = some (.int .i64 od) := by rw [cell_of HB3.out]; rfl
  have jHB32 : ∀ o, (W6.alloc o).cell? ⟨w.heap.size, 2, none⟩ = some (.int .i64 od) := fun o => cell_alloc_old o kHB32
  have kHB33 : W6.cell? ⟨w.heap.size, 3, none⟩ = some (.int .i64 n0) := by rw [cell_of HB3.out]; rfl
  have jHB33 : ∀ o, (W6.alloc o).cell? ⟨w.heap.size, 3, none⟩ = some (.int .i64 n0) := fun o => cell_alloc_old o kHB33
  have kHB34 : W6.cell? ⟨w.heap.size, 4, none⟩ = some (.int .i64 n1) := by rw [cell_of HB3.out]; rfl
  have jHB34 : ∀ o, (W6.alloc o).cell? ⟨w.heap.size, 4, none⟩ = some (.int .i64 n1) := fun o => cell_alloc_old o kHB34
  have kHB35 : W6.cell? ⟨w.heap.size, 5, none⟩ = some (.int .i64 n2) := by rw [cell_of HB3.out]; rfl
  have jHB35 : ∀ o, (W6.alloc o).cell? ⟨w.heap.size, 5, none⟩ = some (.int .i64 n2) := fun o => cell_alloc_old o kHB35
  have kHB36 : W6.cell? ⟨w.heap.size, 6, none⟩ = some (.int .i64 n3) := by rw [cell_of HB3.out]; rfl
  have jHB36 : ∀ o, (W6.alloc o).cell? ⟨w.heap.size, 6, none⟩ = some (.int .i64 n3) := fun o => cell_alloc_old o kHB36
  go_wp2_with (go_at_call 3; fail)
  clear kHB30 jHB30 kHB31 jHB31 kHB32 jHB32 kHB33 jHB33 kHB34 jHB34 kHB35 jHB35 kHB36 jHB36
  refine small_any _ _ _ _ _ _ _ _ _ ⟨_, _, _, rfl⟩ ⟨_, _, _, rfl⟩ (fun x hx => HQ.out x (by simp at hx ⊢; omega)) ?_
  intro w7 n
  replace NX := Lib.hid (NX.out.trans n)
  replace HB3 := Lib.hid (n.heap HB3.out id)
  replace SZ := Nat.lt_of_lt_of_le SZ n.size
  replace HIa := Lib.hid ((HIa.out.kept n nof).hi n.size)
  replace HIb := Lib.hid ((HIb.out.kept n nof).hi n.size)
  replace HBA := Lib.hid (n.heap HBA.out id)
  replace HBB := Lib.hid (n.heap HBB.out id)
  replace HIo := Lib.hid ((HIo.out.kept n nof).hi n.size)
  replace HBO := Lib.hid (n.heap HBO.out id)
  clear n
  obtain ⟨b00, b01⟩ := smallN_in n0
  obtain ⟨p0, e0⟩ : ∃ p, smallN n0 = p := ⟨_, rfl⟩
  rw [e0] at b00 b01 ⊢
  clear e0
  obtain ⟨b10, b11⟩ := smallN_in n1
  obtain ⟨p1, e1⟩ : ∃ p, smallN n1 = p := ⟨_, rfl⟩
  rw [e1] at b10 b11 ⊢
  clear e1
  obtain ⟨b20, b21⟩ := smallN_in n2
  obtain ⟨p2, e2⟩ : ∃ p, smallN n2 = p := ⟨_, rfl⟩
  rw [e2] at b20 b21 ⊢
  clear e2
  obtain ⟨b30, b31⟩ := smallN_in n3
  obtain ⟨p3, e3⟩ : ∃ p, smallN n3 = p := ⟨_, rfl⟩
  rw [e3] at b30 b31 ⊢
  clear e3
  have kHBA0 : w7.cell? ⟨w3.heap.size, 0, none⟩ = some (.int .i64 aW) := by rw [cell_of HBA.out]; rfl
  have jHBA0 : ∀ o, (w7.alloc o).cell? ⟨w3.heap.size, 0, none⟩ = some (.int .i64 aW) := fun o => cell_alloc_old o kHBA0
  have kHBA1 : w7.cell? ⟨w3.heap.size, 1, none⟩ = some (.int .i64 aH) := by rw [cell_of HBA.out]; rfl
  have jHBA1 : ∀ o, (w7.alloc o).cell? ⟨w3.heap.size, 1, none⟩ = some (.int .i64 aH) := fun o => cell_alloc_old o kHBA1
  have kHBA2 : w7.cell? ⟨w3.heap.size, 2, none⟩ = some (.slice Aa al.length ca) := by rw [cell_of HBA.out]; rfl
  have jHBA2 : ∀ o, (w7.alloc o).cell? ⟨w3.heap.size, 2, none⟩ = some (.slice Aa al.length ca) := fun o => cell_alloc_old o kHBA2
  have kHBB0 : w7.cell? ⟨w3.heap.size + 1, 0, none⟩ = some (.int .i64 bW) := by rw [cell_of HBB.out]; rfl
  have jHBB0 : ∀ o, (w7.alloc o).cell? ⟨w3.heap.size + 1, 0, none⟩ = some (.int .i64 bW) := fun o => cell_alloc_old o kHBB0
  have kHBB1 : w7.cell? ⟨w3.heap.size + 1, 1, none⟩ = some (.int .i64 bH) := by rw [cell_of HBB.out]; rfl
  have jHBB1 : ∀ o, (w7.alloc o).cell? ⟨w3.heap.size + 1, 1, none⟩ = some (.int .i64 bH) := fun o => cell_alloc_old o kHBB1
  have kHBB2 : w7.cell? ⟨w3.heap.size + 1, 2, none⟩ = some (.slice Ab bl.length cb) := by rw [cell_of HBB.out]; rfl
  have jHBB2 : ∀ o, (w7.alloc o).cell? ⟨w3.heap.size + 1, 2, none⟩ = some (.slice Ab bl.length cb) := fun o => cell_alloc_old o kHBB2
  go_wp2_with (go_at_call 3; fail)
  clear kHBA0 jHBA0 kHBA1 jHBA1 kHBA2 jHBA2 kHBB0 jHBB0 kHBB1 jHBB1 kHBB2 jHBB2
  refine Calls_nm ?_
  intro W8 hW
  have n : Nw w7 W8 := by rw [hW]; exact (Ch.refl _ _).alloc _
  replace NX := Lib.hid (NX.out.trans n)
  replace HB3 := Lib.hid (n.heap HB3.out id)
  replace SZ := Nat.lt_of_lt_of_le SZ n.size
  replace HIa := Lib.hid ((HIa.out.kept n nof).hi n.size)
  replace HIb := Lib.hid ((HIb.out.kept n nof).hi n.size)
  replace HBA := Lib.hid (n.heap HBA.out id)
  replace HBB := Lib.hid (n.heap HBB.out id)
  replace HIo := Lib.hid ((HIo.out.kept n nof).hi n.size)
  replace HBO := Lib.hid (n.heap HBO.out id)
  have HBS := Lib.hid (show W8.heap[w7.heap.size]? = some (.cells #[.int .i64 p0, .int .i64 p1, .int .i64 p2, .int .i64 p3] 23 (0, 0)) from by rw [hW]; exact heap_alloc_eq _ rfl)
  clear hW n
  clear HB3
  refine bPaste_any W8.heap.size _ _ (aW, aH, al) (bW, bH, bl) p0 p1 _ _ HIa.out HIb.out (Nat.le_refl _) (by unfold wfI; omega) (by unfold wfI; omega) (by show _ ≤ 1000000000; simp only; omega) ?_
  intro w9 v hi n
  replace NX := Lib.hid (NX.out.trans n)
  replace SZ := Nat.lt_of_lt_of_le SZ n.size
  replace HIa := Lib.hid ((HIa.out.kept n nof).hi n.size)
  replace HIb := Lib.hid ((HIb.out.kept n nof).hi n.size)
  replace HBA := Lib.hid (n.heap HBA.out id)
  replace HBB := Lib.hid (n.heap HBB.out id)
  replace HIo := Lib.hid ((HIo.out.kept n nof).hi n.size)
  replace HBO := Lib.hid (n.heap HBO.out id)
  replace HBS := Lib.hid (n.heap HBS.out id)
  obtain ⟨hp1, hp2, hp3⟩ := paste_e (a := (aW, aH, al)) (b := (bW, bH, bl)) HEA.out p0 p1
  obtain ⟨PM, hPM⟩ : ∃ P, pasteM (aW, aH, al) (bW, bH, bl) p0 p1 = P := ⟨_, rfl⟩
  rw [hPM] at hi hp1 hp2 hp3
  have HPM := Lib.hid hPM
  have HEX := Lib.hid hp1
  clear hPM
  obtain ⟨xW, xH, xl⟩ := PM
  simp only at hp2 hp3
  subst xW xH
  obtain ⟨AX, cX, rfl, hI⟩ := isBm_formN (W := aW) (H := aH) (n := xl.length) hi rfl rfl rfl
  have HIx := Lib.hid hI
  have Lx := bmE_len hp1
  simp only at Lx
  clear hi hI n hp1
  obtain ⟨m2, em2⟩ : ∃ k : Int, max p2 0 = k := ⟨_, rfl⟩
  obtain ⟨m3, em3⟩ : ∃ k : Int, max p3 0 = k := ⟨_, rfl⟩
  have m20 : 0 ≤ m2 ∧ m2 ≤ 18 := by omega
  have m30 : 0 ≤ m3 ∧ m3 ≤ 18 := by omega
  obtain ⟨m20, m21⟩ := m20
  obtain ⟨m30, m31⟩ := m30
  have kHBA0 : w9.cell? ⟨w3.heap.size, 0, none⟩ = some (.int .i64 aW) := by rw [cell_of HBA.out]; rfl
  have jHBA0 : ∀ o, (w9.alloc o).cell? ⟨w3.heap.size, 0, none⟩ = some (.int .i64 aW) := fun o => cell_alloc_old o kHBA0
  have kHBA1 : w9.cell? ⟨w3.heap.size, 1, none⟩ = some (.int .i64 aH) := by rw [cell_of HBA.out]; rfl
  have jHBA1 : ∀ o, (w9.alloc o).cell? ⟨w3.heap.size, 1, none⟩ = some (.int .i64 aH) := fun o => cell_alloc_old o kHBA1
  have kHBA2 : w9.cell? ⟨w3.heap.size, 2, none⟩ = some (.slice Aa al.length ca) := by rw [cell_of HBA.out]; rfl
  have jHBA2 : ∀ o, (w9.alloc o).cell? ⟨w3.heap.size, 2, none⟩ = some (.slice Aa al.length ca) := fun o => cell_alloc_old o kHBA2
  have kHBS0 : w9.cell? ⟨w7.heap.size, 0, none⟩ = some (.int .i64 p0) := by rw [cell_of HBS.out]; rfl
  have jHBS0 : ∀ o, (w9.alloc o).cell? ⟨w7.heap.size, 0, none⟩ = some (.int .i64 p0) := fun o => cell_alloc_old o kHBS0
  have kHBS1 : w9.cell? ⟨w7.heap.size, 1, none⟩ = some (.int .i64 p1) := by rw [cell_of HBS.out]; rfl
  have jHBS1 : ∀ o, (w9.alloc o).cell? ⟨w7.heap.size, 1, none⟩ = some (.int .i64 p1) := fun o => cell_alloc_old o kHBS1
  have kHBS2 : w9.cell? ⟨w7.heap.size, 2, none⟩ = some (.int .i64 p2) := by rw [cell_of HBS.out]; rfl
  have jHBS2 : ∀ o, (w9.alloc o).cell? ⟨w7.heap.size, 2, none⟩ = some (.int .i64 p2) := fun o => cell_alloc_old o kHBS2
  have kHBS3 : w9.cell? ⟨w7.heap.size, 3, none⟩ = some (.int .i64 p3) := by rw [cell_of HBS.out]; rfl
  have jHBS3 : ∀ o, (w9.alloc o).cell? ⟨w7.heap.size, 3, none⟩ = some (.int .i64 p3) := fun o => cell_alloc_old o kHBS3
  go_wp2_with (go_at_call 3; fail)
  clear kHBA0 jHBA0 kHBA1 jHBA1 kHBA2 jHBA2 kHBS0 jHBS0 kHBS1 jHBS1 kHBS2 jHBS2 kHBS3 jHBS3
  refine Calls_nm ?_
  intro W10 hW
  have n : Nw w9 W10 := by rw [hW]; exact (Ch.refl _ _).alloc _
  replace NX := Lib.hid (NX.out.trans n)
  replace SZ := Nat.lt_of_lt_of_le SZ n.size
  replace HIa := Lib.hid ((HIa.out.kept n nof).hi n.size)
  replace HIb := Lib.hid ((HIb.out.kept n nof).hi n.size)
  replace HBA := Lib.hid (n.heap HBA.out id)
  replace HBB := Lib.hid (n.heap HBB.out id)
  replace HIo := Lib.hid ((HIo.out.kept n nof).hi n.size)
  replace HBO := Lib.hid (n.heap HBO.out id)
  replace HBS := Lib.hid (n.heap HBS.out id)
  replace HIx := Lib.hid ((HIx.out.kept n nof).hi n.size)
  have HBX := Lib.hid (show W10.heap[w9.heap.size]? = some (.cells #[.int .i64 aW, .int .i64 aH, .slice AX xl.length cX] 28 (0, 0)) from by rw [hW]; exact heap_alloc_eq _ rfl)
  clear hW n
  refine bCrop_any W10.heap.size _ (aW, aH, al) p0 p1 m2 m3 _ _ HIa.out (Nat.le_refl _) (by unfold wfI; omega) (by unfold wfI; omega) (by unfold wfI; omega) (by unfold wfI; omega) ?_
  intro w11 v hi n
  replace NX := Lib.hid (NX.out.trans n)
  replace SZ := Nat.lt_of_lt_of_le SZ n.size
  replace HIa := Lib.hid ((HIa.out.kept n nof).hi n.size)
  replace HIb := Lib.hid ((HIb.out.kept n nof).hi n.size)
  replace HBA := Lib.hid (n.heap HBA.out id)
  replace HBB := Lib.hid (n.heap HBB.out id)
  replace HIo := Lib.hid ((HIo.out.kept n nof).hi n.size)
  replace HBO := Lib.hid (n.heap HBO.out id)
  replace HBS := Lib.hid (n.heap HBS.out id)
  replace HIx := Lib.hid ((HIx.out.kept n nof).hi n.size)
  replace HBX := Lib.hid (n.heap HBX.out id)
  obtain ⟨hc1, hc2, hc3, hc4⟩ := crop_e (x := p0) (y := p1) (w := m2) (h' := m3) HEA.out (by omega) (by omega)
  rw [hc1]
  obtain ⟨CM, hCM⟩ : ∃ C, (cropM (aW, aH, al) p0 p1 m2 m3).1 = C := ⟨_, rfl⟩
  rw [hCM] at hi hc2 hc3 hc4
  have HCM := Lib.hid hCM
  have HEY := Lib.hid hc4
  clear hc1 hCM
  obtain ⟨yW, yH, yl⟩ := CM
  simp only at hc2 hc3
  subst yW yH
  obtain ⟨AY, cY, rfl, hI⟩ := isBm_formN (W := m2) (H := m3) (n := yl.length) hi rfl rfl rfl
  have HIy := Lib.hid hI
  have Ly := bmE_len hc4
  simp only at Ly
  clear hi hI n hc4
  have kHBA0 : w11.cell? ⟨w3.heap.size, 0, none⟩ = some (.int .i64 aW) := by rw [cell_of HBA.out]; rfl
  have jHBA0 : ∀ o, (w11.alloc o).cell? ⟨w3.heap.size, 0, none⟩ = some (.int .i64 aW) := fun o => cell_alloc_old o kHBA0
  have kHBA1 : w11.cell? ⟨w3.heap.size, 1, none⟩ = some (.int .i64 aH) := by rw [cell_of HBA.out]; rfl
  have jHBA1 : ∀ o, (w11.alloc o).cell? ⟨w3.heap.size, 1, none⟩ = some (.int .i64 aH) := fun o => cell_alloc_old o kHBA1
  have kHBA2 : w11.cell? ⟨w3.heap.size, 2, none⟩ = some (.slice Aa al.length ca) := by rw [cell_of HBA.out]; rfl
  have jHBA2 : ∀ o, (w11.alloc o).cell? ⟨w3.heap.size, 2, none⟩ = some (.slice Aa al.length ca) := fun o => cell_alloc_old o kHBA2
  go_wp2_with (go_at_call 3; fail)
  clear kHBA0 jHBA0 kHBA1 jHBA1 kHBA2 jHBA2
  refine Calls_nm ?_
  intro W12 hW
  have n : Nw w11 W12 := by rw [hW]; exact (Ch.refl _ _).alloc _
  replace NX := Lib.hid (NX.out.trans n)
  replace SZ := Nat.lt_of_lt_of_le SZ n.size
  replace HIa := Lib.hid ((HIa.out.kept n nof).hi n.size)
  replace HIb := Lib.hid ((HIb.out.kept n nof).hi n.size)
  replace HBA := Lib.hid (n.heap HBA.out id)
  replace HBB := Lib.hid (n.heap HBB.out id)
  replace HIo := Lib.hid ((HIo.out.kept n nof).hi n.size)
  replace HBO := Lib.hid (n.heap HBO.out id)
  replace HBS := Lib.hid (n.heap HBS.out id)
  replace HIx := Lib.hid ((HIx.out.kept n nof).hi n.size)
  replace HBX := Lib.hid (n.heap HBX.out id)
  replace HIy := Lib.hid ((HIy.out.kept n nof).hi n.size)
  have HBY := Lib.hid (show W12.heap[w11.heap.size]? = some (.cells #[.int .i64 m2, .int .i64 m3, .slice AY yl.length cY] 28 (0, 0)) from by rw [hW]; exact heap_alloc_eq _ rfl)
  clear hW n
  refine bNew_any aW aH _ _ (by unfold wfI; omega) (by unfold wfI; omega) ?_
  intro w13 v hi n
  replace NX := Lib.hid (NX.out.trans n)
  replace SZ := Nat.lt_of_lt_of_le SZ n.size
  replace HIa := Lib.hid ((HIa.out.kept n nof).hi n.size)
  replace HIb := Lib.hid ((HIb.out.kept n nof).hi n.size)
  replace HBA := Lib.hid (n.heap HBA.out id)
  replace HBB := Lib.hid (n.heap HBB.out id)
  replace HIo := Lib.hid ((HIo.out.kept n nof).hi n.size)
  replace HBO := Lib.hid (n.heap HBO.out id)
  replace HBS := Lib.hid (n.heap HBS.out id)
  replace HIx := Lib.hid ((HIx.out.kept n nof).hi n.size)
  replace HBX := Lib.hid (n.heap HBX.out id)
  replace HIy := Lib.hid ((HIy.out.kept n nof).hi n.size)
  replace HBY := Lib.hid (n.heap HBY.out id)
  obtain ⟨hn1, hn2, hn3, hn4, hn5⟩ := new_e (w := aW) (h := aH) (by omega) (by omega)
  rw [hn1]
  obtain ⟨NM, hNM⟩ : ∃ N, (newM aW aH).1 = N := ⟨_, rfl⟩
  rw [hNM] at hi hn2 hn3 hn4 hn5
  have HN5 := Lib.hid hn5
  have HEZ := Lib.hid hn2
  clear hn1 hNM hn5
  obtain ⟨zW, zH, zl⟩ := NM
  simp only at hn3 hn4
  subst zW zH
  obtain ⟨AZ, cZ, rfl, hI⟩ := isBm_formN (W := aW) (H := aH) (n := zl.length) hi rfl rfl rfl
  have HIz := Lib.hid hI
  have Lz := bmE_len hn2
  simp only at Lz
  clear hi hI n hn2
  have kHBA0 : w13.cell? ⟨w3.heap.size, 0, none⟩ = some (.int .i64 aW) := by rw [cell_of HBA.out]; rfl
  have jHBA0 : ∀ o, (w13.alloc o).cell? ⟨w3.heap.size, 0, none⟩ = some (.int .i64 aW) := fun o => cell_alloc_old o kHBA0
  have kHBA1 : w13.cell? ⟨w3.heap.size, 1, none⟩ = some (.int .i64 aH) := by rw [cell_of HBA.out]; rfl
  have jHBA1 : ∀ o, (w13.alloc o).cell? ⟨w3.heap.size, 1, none⟩ = some (.int .i64 aH) := fun o => cell_alloc_old o kHBA1
  have kHBA2 : w13.cell? ⟨w3.heap.size, 2, none⟩ = some (.slice Aa al.length ca) := by rw [cell_of HBA.out]; rfl
  have jHBA2 : ∀ o, (w13.alloc o).cell? ⟨w3.heap.size, 2, none⟩ = some (.slice Aa al.length ca) := fun o => cell_alloc_old o kHBA2
  have kHBX0 : w13.cell? ⟨w9.heap.size, 0, none⟩ = some (.int .i64 aW) := by rw [cell_of HBX.out]; rfl
  have jHBX0 : ∀ o, (w13.alloc o).cell? ⟨w9.heap.size, 0, none⟩ = some (.int .i64 aW) := fun o => cell_alloc_old o kHBX0
  have kHBX1 : w13.cell? ⟨w9.heap.size, 1, none⟩ = some (.int .i64 aH) := by rw [cell_of HBX.out]; rfl
  have jHBX1 : ∀ o, (w13.alloc o).cell? ⟨w9.heap.size, 1, none⟩ = some (.int .i64 aH) := fun o => cell_alloc_old o kHBX1
  have kHBX2 : w13.cell? ⟨w9.heap.size, 2, none⟩ = some (.slice AX xl.length cX) := by rw [cell_of HBX.out]; rfl
  have jHBX2 : ∀ o, (w13.alloc o).cell? ⟨w9.heap.size, 2, none⟩ = some (.slice AX xl.length cX) := fun o => cell_alloc_old o kHBX2
  have kHBY0 : w13.cell? ⟨w11.heap.size, 0, none⟩ = some (.int .i64 m2) := by rw [cell_of HBY.out]; rfl
  have jHBY0 : ∀ o, (w13.alloc o).cell? ⟨w11.heap.size, 0, none⟩ = some (.int .i64 m2) := fun o => cell_alloc_old o kHBY0
  have kHBY1 : w13.cell? ⟨w11.heap.size, 1, none⟩ = some (.int .i64 m3) := by rw [cell_of HBY.out]; rfl
  have jHBY1 : ∀ o, (w13.alloc o).cell? ⟨w11.heap.size, 1, none⟩ = some (.int .i64 m3) := fun o => cell_alloc_old o kHBY1
  have kHBY2 : w13.cell? ⟨w11.heap.size, 2, none⟩ = some (.slice AY yl.length cY) := by rw [cell_of HBY.out]; rfl
  have jHBY2 : ∀ o, (w13.alloc o).cell? ⟨w11.heap.size, 2, none⟩ = some (.slice AY yl.length cY) := fun o => cell_alloc_old o kHBY2
  have kHBS0 : w13.cell? ⟨w7.heap.size, 0, none⟩ = some (.int .i64 p0) := by rw [cell_of HBS.out]; rfl
  have jHBS0 : ∀ o, (w13.alloc o).cell? ⟨w7.heap.size, 0, none⟩ = some (.int .i64 p0) := fun o => cell_alloc_old o kHBS0
  have kHBS1 : w13.cell? ⟨w7.heap.size, 1, none⟩ = some (.int .i64 p1) := by rw [cell_of HBS.out]; rfl
  have jHBS1 : ∀ o, (w13.alloc o).cell? ⟨w7.heap.size, 1, none⟩ = some (.int .i64 p1) := fun o => cell_alloc_old o kHBS1
  have kHBS2 : w13.cell? ⟨w7.heap.size, 2, none⟩ = some (.int .i64 p2) := by rw [cell_of HBS.out]; rfl
  have jHBS2 : ∀ o, (w13.alloc o).cell? ⟨w7.heap.size, 2, none⟩ = some (.int .i64 p2) := fun o => cell_alloc_old o kHBS2
  have kHBS3 : w13.cell? ⟨w7.heap.size, 3, none⟩ = some (.int .i64 p3) := by rw [cell_of HBS.out]; rfl
  have jHBS3 : ∀ o, (w13.alloc o).cell? ⟨w7.heap.size, 3, none⟩ = some (.int .i64 p3) := fun o => cell_alloc_old o kHBS3
  go_wp2_with (go_at_call 3; fail)
  clear kHBA0 jHBA0 kHBA1 jHBA1 kHBA2 jHBA2 kHBX0 jHBX0 kHBX1 jHBX1 kHBX2 jHBX2 kHBY0 jHBY0 kHBY1 jHBY1 kHBY2 jHBY2 kHBS0 jHBS0 kHBS1 jHBS1 kHBS2 jHBS2 kHBS3 jHBS3
  refine Calls_nm ?_
  intro W14 hW
  have n : Nw w13 W14 := by rw [hW]; exact (Ch.refl _ _).alloc _
  replace NX := Lib.hid (NX.out.trans n)
  replace SZ := Nat.lt_of_lt_of_le SZ n.size
  replace HIa := Lib.hid ((HIa.out.kept n nof).hi n.size)
  replace HIb := Lib.hid ((HIb.out.kept n nof).hi n.size)
  replace HBA := Lib.hid (n.heap HBA.out id)
  replace HBB := Lib.hid (n.heap HBB.out id)
  replace HIo := Lib.hid ((HIo.out.kept n nof).hi n.size)
  replace HBO := Lib.hid (n.heap HBO.out id)
  replace HBS := Lib.hid (n.heap HBS.out id)
  replace HIx := Lib.hid ((HIx.out.kept n nof).hi n.size)
  replace HBX := Lib.hid (n.heap HBX.out id)
  replace HIy := Lib.hid ((HIy.out.kept n nof).hi n.size)
  replace HBY := Lib.hid (n.heap HBY.out id)
  replace HIz := Lib.hid ((HIz.out.kept n nof).hi n.size)
  have HBZ := Lib.hid (show W14.heap[w13.heap.size]? = some (.cells #[.int .i64 aW, .int .i64 aH, .slice AZ zl.length cZ] 28 (0, 0)) from by rw [hW]; exact heap_alloc_eq _ rfl)
  clear hW n
  refine bmCheck_any _ _ (aW, aH, xl) _ _ HIx.out ?_
  intro w15 n
  replace NX := Lib.hid (NX.out.trans n)
  replace SZ := Nat.lt_of_lt_of_le SZ n.size
  replace HIa := Lib.hid ((HIa.out.kept n nof).hi n.size)
  replace HIb := Lib.hid ((HIb.out.kept n nof).hi n.size)
  replace HBA := Lib.hid (n.heap HBA.out id)
  replace HBB := Lib.hid (n.heap HBB.out id)
  replace HIo := Lib.hid ((HIo.out.kept n nof).hi n.size)
  replace HBO := Lib.hid (n.heap HBO.out id)
  replace HBS := Lib.hid (n.heap HBS.out id)
  replace HIx := Lib.hid ((HIx.out.kept n nof).hi n.size)
  replace HBX := Lib.hid (n.heap HBX.out id)
  replace HIy := Lib.hid ((HIy.out.kept n nof).hi n.size)
  replace HBY := Lib.hid (n.heap HBY.out id)
  replace HIz := Lib.hid ((HIz.out.kept n nof).hi n.size)
  replace HBZ := Lib.hid (n.heap HBZ.out id)
  rw [HEX.out]
  clear n
  have kHBA0 : w15.cell? ⟨w3.heap.size, 0, none⟩ = some (.int .i64 aW) := by rw [cell_of HBA.out]; rfl
  have jHBA0 : ∀ o, (w15.alloc o).cell? ⟨w3.heap.size, 0, none⟩ = some (.int .i64 aW) := fun o => cell_alloc_old o kHBA0
  have kHBA1 : w15.cell? ⟨w3.heap.size, 1, none⟩ = some (.int .i64 aH) := by rw [cell_of HBA.out]; rfl
  have jHBA1 : ∀ o, (w15.alloc o).cell? ⟨w3.heap.size, 1, none⟩ = some (.int .i64 aH) := fun o => cell_alloc_old o kHBA1
  have kHBA2 : w15.cell? ⟨w3.heap.size, 2, none⟩ = some (.slice Aa al.length ca) := by rw [cell_of HBA.out]; rfl
  have jHBA2 : ∀ o, (w15.alloc o).cell? ⟨w3.heap.size, 2, none⟩ = some (.slice Aa al.length ca) := fun o => cell_alloc_old o kHBA2
  have kHBX0 : w15.cell? ⟨w9.heap.size, 0, none⟩ = some (.int .i64 aW) := by rw [cell_of HBX.out]; rfl
  have jHBX0 : ∀ o, (w15.alloc o).cell? ⟨w9.heap.size, 0, none⟩ = some (.int .i64 aW) := fun o => cell_alloc_old o kHBX0
  have kHBX1 : w15.cell? ⟨w9.heap.size, 1, none⟩ = some (.int .i64 aH) := by rw [cell_of HBX.out]; rfl
  have jHBX1 : ∀ o, (w15.alloc o).cell? ⟨w9.heap.size, 1, none⟩ = some (.int .i64 aH) := fun o => cell_alloc_old o kHBX1
  have kHBX2 : w15.cell? ⟨w9.heap.size, 2, none⟩ = some (.slice AX xl.length cX) := by rw [cell_of HBX.out]; rfl
  have jHBX2 : ∀ o, (w15.alloc o).cell? ⟨w9.heap.size, 2, none⟩ = some (.slice AX xl.length cX) := fun o => cell_alloc_old o kHBX2
  have kHBY0 : w15.cell? ⟨w11.heap.size, 0, none⟩ = some (.int .i64 m2) := by rw [cell_of HBY.out]; rfl
  have jHBY0 : ∀ o, (w15.alloc o).cell? ⟨w11.heap.size, 0, none⟩ = some (.int .i64 m2) := fun o => cell_alloc_old o kHBY0
  have kHBY1 : w15.cell? ⟨w11.heap.size, 1, none⟩ = some (.int .i64 m3) := by rw [cell_of HBY.out]; rfl
  have jHBY1 : ∀ o, (w15.alloc o).cell? ⟨w11.heap.size, 1, none⟩ = some (.int .i64 m3) := fun o => cell_alloc_old o kHBY1
  have kHBY2 : w15.cell? ⟨w11.heap.size, 2, none⟩ = some (.slice AY yl.length cY) := by rw [cell_of HBY.out]; rfl
  have jHBY2 : ∀ o, (w15.alloc o).cell? ⟨w11.heap.size, 2, none⟩ = some (.slice AY yl.length cY) := fun o => cell_alloc_old o kHBY2
  have kHBZ0 : w15.cell? ⟨w13.heap.size, 0, none⟩ = some (.int .i64 aW) := by rw [cell_of HBZ.out]; rfl
  have jHBZ0 : ∀ o, (w15.alloc o).cell? ⟨w13.heap.size, 0, none⟩ = some (.int .i64 aW) := fun o => cell_alloc_old o kHBZ0
  have kHBZ1 : w15.cell? ⟨w13.heap.size, 1, none⟩ = some (.int .i64 aH) := by rw [cell_of HBZ.out]; rfl
  have jHBZ1 : ∀ o, (w15.alloc o).cell? ⟨w13.heap.size, 1, none⟩ = some (.int .i64 aH) := fun o => cell_alloc_old o kHBZ1
  have kHBZ2 : w15.cell? ⟨w13.heap.size, 2, none⟩ = some (.slice AZ zl.length cZ) := by rw [cell_of HBZ.out]; rfl
  have jHBZ2 : ∀ o, (w15.alloc o).cell? ⟨w13.heap.size, 2, none⟩ = some (.slice AZ zl.length cZ) := fun o => cell_alloc_old o kHBZ2
  have kHBS0 : w15.cell? ⟨w7.heap.size, 0, none⟩ = some (.int .i64 p0) := by rw [cell_of HBS.out]; rfl
  have jHBS0 : ∀ o, (w15.alloc o).cell? ⟨w7.heap.size, 0, none⟩ = some (.int .i64 p0) := fun o => cell_alloc_old o kHBS0
  have kHBS1 : w15.cell? ⟨w7.heap.size, 1, none⟩ = some (.int .i64 p1) := by rw [cell_of HBS.out]; rfl
  have jHBS1 : ∀ o, (w15.alloc o).cell? ⟨w7.heap.size, 1, none⟩ = some (.int .i64 p1) := fun o => cell_alloc_old o kHBS1
  have kHBS2 : w15.cell? ⟨w7.heap.size, 2, none⟩ = some (.int .i64 p2) := by rw [cell_of HBS.out]; rfl
  have jHBS2 : ∀ o, (w15.alloc o).cell? ⟨w7.heap.size, 2, none⟩ = some (.int .i64 p2) := fun o => cell_alloc_old o kHBS2
  have kHBS3 : w15.cell? ⟨w7.heap.size, 3, none⟩ = some (.int .i64 p3) := by rw [cell_of HBS.out]; rfl
  have jHBS3 : ∀ o, (w15.alloc o).cell? ⟨w7.heap.size, 3, none⟩ = some (.int .i64 p3) := fun o => cell_alloc_old o kHBS3
  go_wp2_with (go_at_call 3; fail)
  clear kHBA0 jHBA0 kHBA1 jHBA1 kHBA2 jHBA2 kHBX0 jHBX0 kHBX1 jHBX1 kHBX2 jHBX2 kHBY0 jHBY0 kHBY1 jHBY1 kHBY2 jHBY2 kHBZ0 jHBZ0 kHBZ1 jHBZ1 kHBZ2 jHBZ2 kHBS0 jHBS0 kHBS1 jHBS1 kHBS2 jHBS2 kHBS3 jHBS3
  refine bmCheck_any _ _ (m2, m3, yl) _ _ HIy.out ?_
  intro w16 n
  replace NX := Lib.hid (NX.out.trans n)
  replace SZ := Nat.lt_of_lt_of_le SZ n.size
  replace HIa := Lib.hid ((HIa.out.kept n nof).hi n.size)
  replace HIb := Lib.hid ((HIb.out.kept n nof).hi n.size)
  replace HBA := Lib.hid (n.heap HBA.out id)
  replace HBB := Lib.hid (n.heap HBB.out id)
  replace HIo := Lib.hid ((HIo.out.kept n nof).hi n.size)
  replace HBO := Lib.hid (n.heap HBO.out id)
  replace HBS := Lib.hid (n.heap HBS.out id)
  replace HIx := Lib.hid ((HIx.out.kept n nof).hi n.size)
  replace HBX := Lib.hid (n.heap HBX.out id)
  replace HIy := Lib.hid ((HIy.out.kept n nof).hi n.size)
  replace HBY := Lib.hid (n.heap HBY.out id)
  replace HIz := Lib.hid ((HIz.out.kept n nof).hi n.size)
  replace HBZ := Lib.hid (n.heap HBZ.out id)
  rw [HEY.out]
  clear n
  have kHBA0 : w16.cell? ⟨w3.heap.size, 0, none⟩ = some (.int .i64 aW) := by rw [cell_of HBA.out]; rfl
  have jHBA0 : ∀ o, (w16.alloc o).cell? ⟨w3.heap.size, 0, none⟩ = some (.int .i64 aW) := fun o => cell_alloc_old o kHBA0
  have kHBA1 : w16.cell? ⟨w3.heap.size, 1, none⟩ = some (.int .i64 aH) := by rw [cell_of HBA.out]; rfl
  have jHBA1 : ∀ o, (w16.alloc o).cell? ⟨w3.heap.size, 1, none⟩ = some (.int .i64 aH) := fun o => cell_alloc_old o kHBA1
  have kHBA2 : w16.cell? ⟨w3.heap.size, 2, none⟩ = some (.slice Aa al.length ca) := by rw [cell_of HBA.out]; rfl
  have jHBA2 : ∀ o, (w16.alloc o).cell? ⟨w3.heap.size, 2, none⟩ = some (.slice Aa al.length ca) := fun o => cell_alloc_old o kHBA2
  have kHBX0 : w16.cell? ⟨w9.heap.size, 0, none⟩ = some (.int .i64 aW) := by rw [cell_of HBX.out]; rfl
  have jHBX0 : ∀ o, (w16.alloc o).cell? ⟨w9.heap.size, 0, none⟩ = some (.int .i64 aW) := fun o => cell_alloc_old o kHBX0
  have kHBX1 : w16.cell? ⟨w9.heap.size, 1, none⟩ = some (.int .i64 aH) := by rw [cell_of HBX.out]; rfl
  have jHBX1 : ∀ o, (w16.alloc o).cell? ⟨w9.heap.size, 1, none⟩ = some (.int .i64 aH) := fun o => cell_alloc_old o kHBX1
  have kHBX2 : w16.cell? ⟨w9.heap.size, 2, none⟩ = some (.slice AX xl.length cX) := by rw [cell_of HBX.out]; rfl
  have jHBX2 : ∀ o, (w16.alloc o).cell? ⟨w9.heap.size, 2, none⟩ = some (.slice AX xl.length cX) := fun o => cell_alloc_old o kHBX2
  have kHBY0 : w16.cell? ⟨w11.heap.size, 0, none⟩ = some (.int .i64 m2) := by rw [cell_of HBY.out]; rfl
  have jHBY0 : ∀ o, (w16.alloc o).cell? ⟨w11.heap.size, 0, none⟩ = some (.int .i64 m2) := fun o => cell_alloc_old o kHBY0
  have kHBY1 : w16.cell? ⟨w11.heap.size, 1, none⟩ = some (.int .i64 m3) := by rw [cell_of HBY.out]; rfl
  have jHBY1 : ∀ o, (w16.alloc o).cell? ⟨w11.heap.size, 1, none⟩ = some (.int .i64 m3) := fun o => cell_alloc_old o kHBY1
  have kHBY2 : w16.cell? ⟨w11.heap.size, 2, none⟩ = some (.slice AY yl.length cY) := by rw [cell_of HBY.out]; rfl
  have jHBY2 : ∀ o, (w16.alloc o).cell? ⟨w11.heap.size, 2, none⟩ = some (.slice AY yl.length cY) := fun o => cell_alloc_old o kHBY2
  have kHBZ0 : w16.cell? ⟨w13.heap.size, 0, none⟩ = some (.int .i64 aW) := by rw [cell_of HBZ.out]; rfl
  have jHBZ0 : ∀ o, (w16.alloc o).cell? ⟨w13.heap.size, 0, none⟩ = some (.int .i64 aW) := fun o => cell_alloc_old o kHBZ0
  have kHBZ1 : w16.cell? ⟨w13.heap.size, 1, none⟩ = some (.int .i64 aH) := by rw [cell_of HBZ.out]; rfl
  have jHBZ1 : ∀ o, (w16.alloc o).cell? ⟨w13.heap.size, 1, none⟩ = some (.int .i64 aH) := fun o => cell_alloc_old o kHBZ1
  have kHBZ2 : w16.cell? ⟨w13.heap.size, 2, none⟩ = some (.slice AZ zl.length cZ) := by rw [cell_of HBZ.out]; rfl
  have jHBZ2 : ∀ o, (w16.alloc o).cell? ⟨w13.heap.size, 2, none⟩ = some (.slice AZ zl.length cZ) := fun o => cell_alloc_old o kHBZ2
  have kHBS0 : w16.cell? ⟨w7.heap.size, 0, none⟩ = some (.int .i64 p0) := by rw [cell_of HBS.out]; rfl
  have jHBS0 : ∀ o, (w16.alloc o).cell? ⟨w7.heap.size, 0, none⟩ = some (.int .i64 p0) := fun o => cell_alloc_old o kHBS0
  have kHBS1 : w16.cell? ⟨w7.heap.size, 1, none⟩ = some (.int .i64 p1) := by rw [cell_of HBS.out]; rfl
  have jHBS1 : ∀ o, (w16.alloc o).cell? ⟨w7.heap.size, 1, none⟩ = some (.int .i64 p1) := fun o => cell_alloc_old o kHBS1
  have kHBS2 : w16.cell? ⟨w7.heap.size, 2, none⟩ = some (.int .i64 p2) := by rw [cell_of HBS.out]; rfl
  have jHBS2 : ∀ o, (w16.alloc o).cell? ⟨w7.heap.size, 2, none⟩ = some (.int .i64 p2) := fun o => cell_alloc_old o kHBS2
  have kHBS3 : w16.cell? ⟨w7.heap.size, 3, none⟩ = some (.int .i64 p3) := by rw [cell_of HBS.out]; rfl
  have jHBS3 : ∀ o, (w16.alloc o).cell? ⟨w7.heap.size, 3, none⟩ = some (.int .i64 p3) := fun o => cell_alloc_old o kHBS3
  go_wp2_with (go_at_call 3; fail)
  clear kHBA0 jHBA0 kHBA1 jHBA1 kHBA2 jHBA2 kHBX0 jHBX0 kHBX1 jHBX1 kHBX2 jHBX2 kHBY0 jHBY0 kHBY1 jHBY1 kHBY2 jHBY2 kHBZ0 jHBZ0 kHBZ1 jHBZ1 kHBZ2 jHBZ2 kHBS0 jHBS0 kHBS1 jHBS1 kHBS2 jHBS2 kHBS3 jHBS3
  refine bmCheck_any _ _ (aW, aH, zl) _ _ HIz.out ?_
  intro w17 n
  replace NX := Lib.hid (NX.out.trans n)
  replace SZ := Nat.lt_of_lt_of_le SZ n.size
  replace HIa := Lib.hid ((HIa.out.kept n nof).hi n.size)
  replace HIb := Lib.hid ((HIb.out.kept n nof).hi n.size)
  replace HBA := Lib.hid (n.heap HBA.out id)
  replace HBB := Lib.hid (n.heap HBB.out id)
  replace HIo := Lib.hid ((HIo.out.kept n nof).hi n.size)
  replace HBO := Lib.hid (n.heap HBO.out id)
  replace HBS := Lib.hid (n.heap HBS.out id)
  replace HIx := Lib.hid ((HIx.out.kept n nof).hi n.size)
  replace HBX := Lib.hid (n.heap HBX.out id)
  replace HIy := Lib.hid ((HIy.out.kept n nof).hi n.size)
  replace HBY := Lib.hid (n.heap HBY.out id)
  replace HIz := Lib.hid ((HIz.out.kept n nof).hi n.size)
  replace HBZ := Lib.hid (n.heap HBZ.out id)
  rw [HEZ.out]
  clear n
  have kHBA0 : w17.cell? ⟨w3.heap.size, 0, none⟩ = some (.int .i64 aW) := by rw [cell_of HBA.out]; rfl
  have kHBA1 : w17.cell? ⟨w3.heap.size, 1, none⟩ = some (.int .i64 aH) := by rw [cell_of HBA.out]; rfl
  have kHBA2 : w17.cell? ⟨w3.heap.size, 2, none⟩ = some (.slice Aa al.length ca) := by rw [cell_of HBA.out]; rfl
  have kHBX0 : w17.cell? ⟨w9.heap.size, 0, none⟩ = some (.int .i64 aW) := by rw [cell_of HBX.out]; rfl
  have kHBX1 : w17.cell? ⟨w9.heap.size, 1, none⟩ = some (.int .i64 aH) := by rw [cell_of HBX.out]; rfl
  have kHBX2 : w17.cell? ⟨w9.heap.size, 2, none⟩ = some (.slice AX xl.length cX) := by rw [cell_of HBX.out]; rfl
  have kHBY0 : w17.cell? ⟨w11.heap.size, 0, none⟩ = some (.int .i64 m2) := by rw [cell_of HBY.out]; rfl
  have kHBY1 : w17.cell? ⟨w11.heap.size, 1, none⟩ = some (.int .i64 m3) := by rw [cell_of HBY.out]; rfl
  have kHBY2 : w17.cell? ⟨w11.heap.size, 2, none⟩ = some (.slice AY yl.length cY) := by rw [cell_of HBY.out]; rfl
  have kHBZ0 : w17.cell? ⟨w13.heap.size, 0, none⟩ = some (.int .i64 aW) := by rw [cell_of HBZ.out]; rfl
  have kHBZ1 : w17.cell? ⟨w13.heap.size, 1, none⟩ = some (.int .i64 aH) := by rw [cell_of HBZ.out]; rfl
  have kHBZ2 : w17.cell? ⟨w13.heap.size, 2, none⟩ = some (.slice AZ zl.length cZ) := by rw [cell_of HBZ.out]; rfl
  have kHBS0 : w17.cell? ⟨w7.heap.size, 0, none⟩ = some (.int .i64 p0) := by rw [cell_of HBS.out]; rfl
  have kHBS1 : w17.cell? ⟨w7.heap.size, 1, none⟩ = some (.int .i64 p1) := by rw [cell_of HBS.out]; rfl
  have kHBS2 : w17.cell? ⟨w7.heap.size, 2, none⟩ = some (.int .i64 p2) := by rw [cell_of HBS.out]; rfl
  have kHBS3 : w17.cell? ⟨w7.heap.size, 3, none⟩ = some (.int .i64 p3) := by rw [cell_of HBS.out]; rfl
  go_wp2_with fail
  clear kHBA0 kHBA1 kHBA2 kHBX0 kHBX1 kHBX2 kHBY0 kHBY1 kHBY2 kHBZ0 kHBZ1 kHBZ2 kHBS0 kHBS1 kHBS2 kHBS3
  refine wp_named ?_
  intro W18 hW
  have n : Nw w17 W18 := by rw [hW]; first | exact Ch.refl _ _ | exact (Ch.refl _ _).alloc _ | exact ((Ch.refl _ _).alloc _).alloc _
  replace NX := Lib.hid (NX.out.trans n)
  replace SZ := Nat.lt_of_lt_of_le SZ n.size
  replace HIa := Lib.hid ((HIa.out.kept n nof).hi n.size)
  replace HIb := Lib.hid ((HIb.out.kept n nof).hi n.size)
  replace HBA := Lib.hid (n.heap HBA.out id)
  replace HBB := Lib.hid (n.heap HBB.out id)
  replace HIo := Lib.hid ((HIo.out.kept n nof).hi n.size)
  replace HBO := Lib.hid (n.heap HBO.out id)
  replace HBS := Lib.hid (n.heap HBS.out id)
  replace HIx := Lib.hid ((HIx.out.kept n nof).hi n.size)
  replace HBX := Lib.hid (n.heap HBX.out id)
  replace HIy := Lib.hid ((HIy.out.kept n nof).hi n.size)
  replace HBY := Lib.hid (n.heap HBY.out id)
  replace HIz := Lib.hid ((HIz.out.kept n nof).hi n.size)
  replace HBZ := Lib.hid (n.heap HBZ.out id)
  clear hW n
  go_loopw [16, 17, 18, 19] (fun s16 s17 s18 s19 wr => ∃ (j : Int), s17 = .int .i64 j ∧ -1 ≤ j ∧ j ≤ aH + 1 ∧ s16 = .int .i64 (cntD (aW, aH, al) (aheadP (-1) j) : Nat) ∧ Hid (Nw W18 wr)) (fun _ s17 _ _ _ => (aH + 1 - intOf s17).toNat)
  case atStart => exact ⟨-1, rfl, by omega, by omega, by rw [ahead_none (by omega)]; rfl, Lib.hid (Ch.refl _ _)⟩
  case round =>
    obtain ⟨j, rfl, hj0, hj1, rfl, HC⟩ := hrel
    obtain ⟨wr0, hwr0⟩ : ∃ W : World, W = wr := ⟨_, rfl⟩
    subst hwr0
    replace NX := Lib.hid (NX.out.trans HC.out)
    replace SZ := Nat.lt_of_lt_of_le SZ HC.out.size
    replace HIa := Lib.hid ((HIa.out.kept HC.out nof).hi HC.out.size)
    replace HIb := Lib.hid ((HIb.out.kept HC.out nof).hi HC.out.size)
    replace HBA := Lib.hid (HC.out.heap HBA.out id)
    replace HBB := Lib.hid (HC.out.heap HBB.out id)
    replace HIo := Lib.hid ((HIo.out.kept HC.out nof).hi HC.out.size)
    replace HBO := Lib.hid (HC.out.heap HBO.out id)
    replace HBS := Lib.hid (HC.out.heap HBS.out id)
    replace HIx := Lib.hid ((HIx.out.kept HC.out nof).hi HC.out.size)
    replace HBX := Lib.hid (HC.out.heap HBX.out id)
    replace HIy := Lib.hid ((HIy.out.kept HC.out nof).hi HC.out.size)
    replace HBY := Lib.hid (HC.out.heap HBY.out id)
    replace HIz := Lib.hid ((HIz.out.kept HC.out nof).hi HC.out.size)
    replace HBZ := Lib.hid (HC.out.heap HBZ.out id)
    by_cases hjt : j ≤ aH
    · as_aux_lemma =>
      obtain ⟨nn, hnn⟩ : ∃ k : Nat, cntD (aW, aH, al) (aheadP (-1) j) = k := ⟨_, rfl⟩
      have HNN := Lib.hid hnn
      rw [hnn]
      clear hnn
      have kHBA0 : wr0.cell? ⟨w3.heap.size, 0, none⟩ = some (.int .i64 aW) := by rw [cell_of HBA.out]; rfl
      have kHBA1 : wr0.cell? ⟨w3.heap.size, 1, none⟩ = some (.int .i64 aH) := by rw [cell_of HBA.out]; rfl
      have kHBA2 : wr0.cell? ⟨w3.heap.size, 2, none⟩ = some (.slice Aa al.length ca) := by rw [cell_of HBA.out]; rfl
      go_wp2_with fail
      clear kHBA0 kHBA1 kHBA2
      go_loopw [16, 18, 19] (fun s16 s18 s19 wr => ∃ (i : Int), s18 = .int .i64 i ∧ -1 ≤ i ∧ i ≤ aW + 1 ∧ s16 = .int .i64 (cntD (aW, aH, al) (aheadP i j) : Nat) ∧ Hid (Nw wr0 wr)) (fun _ s18 _ _ => (aW + 1 - intOf s18).toNat)
      case atStart => exact ⟨-1, rfl, by omega, by omega, by rw [HNN.out], Lib.hid (Ch.refl _ _)⟩
      case round =>
        obtain ⟨i, rfl, hi0, hi1, rfl, HC2⟩ := hrel
        obtain ⟨wr1, hwr1⟩ : ∃ W : World, W = wr := ⟨_, rfl⟩
        subst hwr1
        replace NX := Lib.hid (NX.out.trans HC2.out)
        replace SZ := Nat.lt_of_lt_of_le SZ HC2.out.size
        replace HIa := Lib.hid ((HIa.out.kept HC2.out nof).hi HC2.out.size)
        replace HIb := Lib.hid ((HIb.out.kept HC2.out nof).hi HC2.out.size)
        replace HBA := Lib.hid (HC2.out.heap HBA.out id)
        replace HBB := Lib.hid (HC2.out.heap HBB.out id)
        replace HIo := Lib.hid ((HIo.out.kept HC2.out nof).hi HC2.out.size)
        replace HBO := Lib.hid (HC2.out.heap HBO.out id)
        replace HBS := Lib.hid (HC2.out.heap HBS.out id)
        replace HIx := Lib.hid ((HIx.out.kept HC2.out nof).hi HC2.out.size)
        replace HBX := Lib.hid (HC2.out.heap HBX.out id)
        replace HIy := Lib.hid ((HIy.out.kept HC2.out nof).hi HC2.out.size)
        replace HBY := Lib.hid (HC2.out.heap HBY.out id)
        replace HIz := Lib.hid ((HIz.out.kept HC2.out nof).hi HC2.out.size)
        replace HBZ := Lib.hid (HC2.out.heap HBZ.out id)
        replace HC := Lib.hid (HC.out.trans HC2.out)
        obtain ⟨nm, hnm⟩ : ∃ k : Nat, cntD (aW, aH, al) (aheadP i j) = k := ⟨_, rfl⟩
        have HNM := Lib.hid hnm
        rw [hnm]
        have nm0 : nm ≤ 1000 := by rw [← hnm]; exact Nat.le_trans (cntD_len _ _) (by simp only; omega)
        clear hnm
        by_cases hit : i ≤ aW
        · as_aux_lemma =>
          have hin : (¬ 0 ≤ i ∨ (0 ≤ i ∧ ¬ i < aW) ∨ (0 ≤ i ∧ i < aW ∧ ¬ 0 ≤ j) ∨ (0 ≤ i ∧ i < aW ∧ 0 ≤ j ∧ ¬ j < aH)) ∨ (0 ≤ i ∧ i < aW ∧ 0 ≤ j ∧ j < aH) := by omega
          rcases hin with hout | ⟨v1, v2, v3, v4⟩
          · have hg : getB (aW, aH, al) i j = false ∧ getB (aW, aH, xl) i j = false := by
              constructor
              · cases h : getB (aW, aH, al) i j with
                | false => rfl
                | true => have := getB_lies h; simp only at this; omega
              · cases h : getB (aW, aH, xl) i j with
                | false => rfl
                | true => have := getB_lies h; simp only at this; omega
            have HG1 := Lib.hid hg.1
            have HG2 := Lib.hid hg.2
            clear hg
            have HST := Lib.hid (show cntD (aW, aH, al) (aheadP (i + 1) j) = nm from by rw [ahead_step, HG1.out, HNM.out]; rfl)
            rcases hout with v1 | ⟨v1, v2⟩ | ⟨v1, v2, v3⟩ | ⟨v1, v2, v3, v4⟩
            all_goals
              have kHBA0 : wr1.cell? ⟨w3.heap.size, 0, none⟩ = some (.int .i64 aW) := by rw [cell_of HBA.out]; rfl
              have kHBA1 : wr1.cell? ⟨w3.heap.size, 1, none⟩ = some (.int .i64 aH) := by rw [cell_of HBA.out]; rfl
              have kHBA2 : wr1.cell? ⟨w3.heap.size, 2, none⟩ = some (.slice Aa al.length ca) := by rw [cell_of HBA.out]; rfl
              have kHBX0 : wr1.cell? ⟨w9.heap.size, 0, none⟩ = some (.int .i64 aW) := by rw [cell_of HBX.out]; rfl
              have kHBX1 : wr1.cell? ⟨w9.heap.size, 1, none⟩ = some (.int .i64 aH) := by rw [cell_of HBX.out]; rfl
              have kHBX2 : wr1.cell? ⟨w9.heap.size, 2, none⟩ = some (.slice AX xl.length cX) := by rw [cell_of HBX.out]; rfl
              have kHBY0 : wr1.cell? ⟨w11.heap.size, 0, none⟩ = some (.int .i64 m2) := by rw [cell_of HBY.out]; rfl
              have kHBY1 : wr1.cell? ⟨w11.heap.size, 1, none⟩ = some (.int .i64 m3) := by rw [cell_of HBY.out]; rfl
              have kHBY2 : wr1.cell? ⟨w11.heap.size, 2, none⟩ = some (.slice AY yl.length cY) := by rw [cell_of HBY.out]; rfl
              have kHBZ0 : wr1.cell? ⟨w13.heap.size, 0, none⟩ = some (.int .i64 aW) := by rw [cell_of HBZ.out]; rfl
              have kHBZ1 : wr1.cell? ⟨w13.heap.size, 1, none⟩ = some (.int .i64 aH) := by rw [cell_of HBZ.out]; rfl
              have kHBZ2 : wr1.cell? ⟨w13.heap.size, 2, none⟩ = some (.slice AZ zl.length cZ) := by rw [cell_of HBZ.out]; rfl
              have kHBS0 : wr1.cell? ⟨w7.heap.size, 0, none⟩ = some (.int .i64 p0) := by rw [cell_of HBS.out]; rfl
              have kHBS1 : wr1.cell? ⟨w7.heap.size, 1, none⟩ = some (.int .i64 p1) := by rw [cell_of HBS.out]; rfl
              have kHBS2 : wr1.cell? ⟨w7.heap.size, 2, none⟩ = some (.int .i64 p2) := by rw [cell_of HBS.out]; rfl
              have kHBS3 : wr1.cell? ⟨w7.heap.size, 3, none⟩ = some (.int .i64 p3) := by rw [cell_of HBS.out]; rfl
              go_wp2_with (go_at_call 3; fail)
              clear kHBA0 kHBA1 kHBA2 kHBX0 kHBX1 kHBX2 kHBY0 kHBY1 kHBY2 kHBZ0 kHBZ1 kHBZ2 kHBS0 kHBS1 kHBS2 kHBS3
              refine Get_any _ _ (aW, aH, xl) i j _ _ HIx.out ?_
              intro w19 n
              replace NX := Lib.hid (NX.out.trans n)
              replace SZ := Nat.lt_of_lt_of_le SZ n.size
              replace HIa := Lib.hid ((HIa.out.kept n nof).hi n.size)
              replace HIb := Lib.hid ((HIb.out.kept n nof).hi n.size)
              replace HBA := Lib.hid (n.heap HBA.out id)
              replace HBB := Lib.hid (n.heap HBB.out id)
              replace HIo := Lib.hid ((HIo.out.kept n nof).hi n.size)
              replace HBO := Lib.hid (n.heap HBO.out id)
              replace HBS := Lib.hid (n.heap HBS.out id)
              replace HIx := Lib.hid ((HIx.out.kept n nof).hi n.size)
              replace HBX := Lib.hid (n.heap HBX.out id)
              replace HIy := Lib.hid ((HIy.out.kept n nof).hi n.size)
              replace HBY := Lib.hid (n.heap HBY.out id)
              replace HIz := Lib.hid ((HIz.out.kept n nof).hi n.size)
              replace HBZ := Lib.hid (n.heap HBZ.out id)
              replace HC := Lib.hid (HC.out.trans n)
              replace HC2 := Lib.hid (HC2.out.trans n)
              rw [HG2.out]
              clear n
              have kHBA0 : w19.cell? ⟨w3.heap.size, 0, none⟩ = some (.int .i64 aW) := by rw [cell_of HBA.out]; rfl
              have kHBA1 : w19.cell? ⟨w3.heap.size, 1, none⟩ = some (.int .i64 aH) := by rw [cell_of HBA.out]; rfl
              have kHBA2 : w19.cell? ⟨w3.heap.size, 2, none⟩ = some (.slice Aa al.length ca) := by rw [cell_of HBA.out]; rfl
              have kHBX0 : w19.cell? ⟨w9.heap.size, 0, none⟩ = some (.int .i64 aW) := by rw [cell_of HBX.out]; rfl
              have kHBX1 : w19.cell? ⟨w9.heap.size, 1, none⟩ = some (.int .i64 aH) := by rw [cell_of HBX.out]; rfl
              have kHBX2 : w19.cell? ⟨w9.heap.size, 2, none⟩ = some (.slice AX xl.length cX) := by rw [cell_of HBX.out]; rfl
              have kHBY0 : w19.cell? ⟨w11.heap.size, 0, none⟩ = some (.int .i64 m2) := by rw [cell_of HBY.out]; rfl
              have kHBY1 : w19.cell? ⟨w11.heap.size, 1, none⟩ = some (.int .i64 m3) := by rw [cell_of HBY.out]; rfl
              have kHBY2 : w19.cell? ⟨w11.heap.size, 2, none⟩ = some (.slice AY yl.length cY) := by rw [cell_of HBY.out]; rfl
              have kHBZ0 : w19.cell? ⟨w13.heap.size, 0, none⟩ = some (.int .i64 aW) := by rw [cell_of HBZ.out]; rfl
              have kHBZ1 : w19.cell? ⟨w13.heap.size, 1, none⟩ = some (.int .i64 aH) := by rw [cell_of HBZ.out]; rfl
              have kHBZ2 : w19.cell? ⟨w13.heap.size, 2, none⟩ = some (.slice AZ zl.length cZ) := by rw [cell_of HBZ.out]; rfl
              have kHBS0 : w19.cell? ⟨w7.heap.size, 0, none⟩ = some (.int .i64 p0) := by rw [cell_of HBS.out]; rfl
              have kHBS1 : w19.cell? ⟨w7.heap.size, 1, none⟩ = some (.int .i64 p1) := by rw [cell_of HBS.out]; rfl
              have kHBS2 : w19.cell? ⟨w7.heap.size, 2, none⟩ = some (.int .i64 p2) := by rw [cell_of HBS.out]; rfl
              have kHBS3 : w19.cell? ⟨w7.heap.size, 3, none⟩ = some (.int .i64 p3) := by rw [cell_of HBS.out]; rfl
              go_wp2_with (go_at_call 3; fail)
              clear kHBA0 kHBA1 kHBA2 kHBX0 kHBX1 kHBX2 kHBY0 kHBY1 kHBY2 kHBZ0 kHBZ1 kHBZ2 kHBS0 kHBS1 kHBS2 kHBS3
              refine Get_any _ _ (aW, aH, zl) i j _ _ HIz.out ?_
              intro w20 n
              replace NX := Lib.hid (NX.out.trans n)
              replace SZ := Nat.lt_of_lt_of_le SZ n.size
              replace HIa := Lib.hid ((HIa.out.kept n nof).hi n.size)
              replace HIb := Lib.hid ((HIb.out.kept n nof).hi n.size)
              replace HBA := Lib.hid (n.heap HBA.out id)
              replace HBB := Lib.hid (n.heap HBB.out id)
              replace HIo := Lib.hid ((HIo.out.kept n nof).hi n.size)
              replace HBO := Lib.hid (n.heap HBO.out id)
              replace HBS := Lib.hid (n.heap HBS.out id)
              replace HIx := Lib.hid ((HIx.out.kept n nof).hi n.size)
              replace HBX := Lib.hid (n.heap HBX.out id)
              replace HIy := Lib.hid ((HIy.out.kept n nof).hi n.size)
              replace HBY := Lib.hid (n.heap HBY.out id)
              replace HIz := Lib.hid ((HIz.out.kept n nof).hi n.size)
              replace HBZ := Lib.hid (n.heap HBZ.out id)
              replace HC := Lib.hid (HC.out.trans n)
              replace HC2 := Lib.hid (HC2.out.trans n)
              rw [HN5.out]
              clear n
              have kHBA0 : w20.cell? ⟨w3.heap.size, 0, none⟩ = some (.int .i64 aW) := by rw [cell_of HBA.out]; rfl
              have kHBA1 : w20.cell? ⟨w3.heap.size, 1, none⟩ = some (.int .i64 aH) := by rw [cell_of HBA.out]; rfl
              have kHBA2 : w20.cell? ⟨w3.heap.size, 2, none⟩ = some (.slice Aa al.length ca) := by rw [cell_of HBA.out]; rfl
              have kHBX0 : w20.cell? ⟨w9.heap.size, 0, none⟩ = some (.int .i64 aW) := by rw [cell_of HBX.out]; rfl
              have kHBX1 : w20.cell? ⟨w9.heap.size, 1, none⟩ = some (.int .i64 aH) := by rw [cell_of HBX.out]; rfl
              have kHBX2 : w20.cell? ⟨w9.heap.size, 2, none⟩ = some (.slice AX xl.length cX) := by rw [cell_of HBX.out]; rfl
              have kHBY0 : w20.cell? ⟨w11.heap.size, 0, none⟩ = some (.int .i64 m2) := by rw [cell_of HBY.out]; rfl
              have kHBY1 : w20.cell? ⟨w11.heap.size, 1, none⟩ = some (.int .i64 m3) := by rw [cell_of HBY.out]; rfl
              have kHBY2 : w20.cell? ⟨w11.heap.size, 2, none⟩ = some (.slice AY yl.length cY) := by rw [cell_of HBY.out]; rfl
              have kHBZ0 : w20.cell? ⟨w13.heap.size, 0, none⟩ = some (.int .i64 aW) := by rw [cell_of HBZ.out]; rfl
              have kHBZ1 : w20.cell? ⟨w13.heap.size, 1, none⟩ = some (.int .i64 aH) := by rw [cell_of HBZ.out]; rfl
              have kHBZ2 : w20.cell? ⟨w13.heap.size, 2, none⟩ = some (.slice AZ zl.length cZ) := by rw [cell_of HBZ.out]; rfl
              have kHBS0 : w20.cell? ⟨w7.heap.size, 0, none⟩ = some (.int .i64 p0) := by rw [cell_of HBS.out]; rfl
              have kHBS1 : w20.cell? ⟨w7.heap.size, 1, none⟩ = some (.int .i64 p1) := by rw [cell_of HBS.out]; rfl
              have kHBS2 : w20.cell? ⟨w7.heap.size, 2, none⟩ = some (.int .i64 p2) := by rw [cell_of HBS.out]; rfl
              have kHBS3 : w20.cell? ⟨w7.heap.size, 3, none⟩ = some (.int .i64 p3) := by rw [cell_of HBS.out]; rfl
              go_wp2_with (go_at_call 3; fail)
              clear kHBA0 kHBA1 kHBA2 kHBX0 kHBX1 kHBX2 kHBY0 kHBY1 kHBY2 kHBZ0 kHBZ1 kHBZ2 kHBS0 kHBS1 kHBS2 kHBS3
              refine Get_any _ _ (aW, aH, al) i j _ _ HIa.out ?_
              intro w21 n
              replace NX := Lib.hid (NX.out.trans n)
              replace SZ := Nat.lt_of_lt_of_le SZ n.size
              replace HIa := Lib.hid ((HIa.out.kept n nof).hi n.size)
              replace HIb := Lib.hid ((HIb.out.kept n nof).hi n.size)
              replace HBA := Lib.hid (n.heap HBA.out id)
              replace HBB := Lib.hid (n.heap HBB.out id)
              replace HIo := Lib.hid ((HIo.out.kept n nof).hi n.size)
              replace HBO := Lib.hid (n.heap HBO.out id)
              replace HBS := Lib.hid (n.heap HBS.out id)
              replace HIx := Lib.hid ((HIx.out.kept n nof).hi n.size)
              replace HBX := Lib.hid (n.heap HBX.out id)
              replace HIy := Lib.hid ((HIy.out.kept n nof).hi n.size)
              replace HBY := Lib.hid (n.heap HBY.out id)
              replace HIz := Lib.hid ((HIz.out.kept n nof).hi n.size)
              replace HBZ := Lib.hid (n.heap HBZ.out id)
              replace HC := Lib.hid (HC.out.trans n)
              replace HC2 := Lib.hid (HC2.out.trans n)
              rw [HG1.out]
              clear n
              have kHBA0 : w21.cell? ⟨w3.heap.size, 0, none⟩ = some (.int .i64 aW) := by rw [cell_of HBA.out]; rfl
              have kHBA1 : w21.cell? ⟨w3.heap.size, 1, none⟩ = some (.int .i64 aH) := by rw [cell_of HBA.out]; rfl
              have kHBA2 : w21.cell? ⟨w3.heap.size, 2, none⟩ = some (.slice Aa al.length ca) := by rw [cell_of HBA.out]; rfl
              have kHBX0 : w21.cell? ⟨w9.heap.size, 0, none⟩ = some (.int .i64 aW) := by rw [cell_of HBX.out]; rfl
              have kHBX1 : w21.cell? ⟨w9.heap.size, 1, none⟩ = some (.int .i64 aH) := by rw [cell_of HBX.out]; rfl
              have kHBX2 : w21.cell? ⟨w9.heap.size, 2, none⟩ = some (.slice AX xl.length cX) := by rw [cell_of HBX.out]; rfl
              have kHBY0 : w21.cell? ⟨w11.heap.size, 0, none⟩ = some (.int .i64 m2) := by rw [cell_of HBY.out]; rfl
              have kHBY1 : w21.cell? ⟨w11.heap.size, 1, none⟩ = some (.int .i64 m3) := by rw [cell_of HBY.out]; rfl
              have kHBY2 : w21.cell? ⟨w11.heap.size, 2, none⟩ = some (.slice AY yl.length cY) := by rw [cell_of HBY.out]; rfl
              have kHBZ0 : w21.cell? ⟨w13.heap.size, 0, none⟩ = some (.int .i64 aW) := by rw [cell_of HBZ.out]; rfl
              have kHBZ1 : w21.cell? ⟨w13.heap.size, 1, none⟩ = some (.int .i64 aH) := by rw [cell_of HBZ.out]; rfl
              have kHBZ2 : w21.cell? ⟨w13.heap.size, 2, none⟩ = some (.slice AZ zl.length cZ) := by rw [cell_of HBZ.out]; rfl
              have kHBS0 : w21.cell? ⟨w7.heap.size, 0, none⟩ = some (.int .i64 p0) := by rw [cell_of HBS.out]; rfl
              have kHBS1 : w21.cell? ⟨w7.heap.size, 1, none⟩ = some (.int .i64 p1) := by rw [cell_of HBS.out]; rfl
              have kHBS2 : w21.cell? ⟨w7.heap.size, 2, none⟩ = some (.int .i64 p2) := by rw [cell_of HBS.out]; rfl
              have kHBS3 : w21.cell? ⟨w7.heap.size, 3, none⟩ = some (.int .i64 p3) := by rw [cell_of HBS.out]; rfl
              go_wp2_with fail
              clear kHBA0 kHBA1 kHBA2 kHBX0 kHBX1 kHBX2 kHBY0 kHBY1 kHBY2 kHBZ0 kHBZ1 kHBZ2 kHBS0 kHBS1 kHBS2 kHBS3
              refine ⟨⟨i + 1, by go_num, by omega, by omega, by rw [HST.out], Lib.hid HC2.out⟩, ?_⟩
              simp [intOf]; omega
          · obtain ⟨vb, hvb⟩ : ∃ v, getB (bW, bH, bl) (i - p0) (j - p1) = v := ⟨_, rfl⟩
            have HVB := Lib.hid hvb
            have HG2 := Lib.hid (show getB (aW, aH, xl) i j = (getB (aW, aH, al) i j || vb) from by rw [← HPM.out, getB_paste HEA.out (by omega) (by omega), decide_eq_true (show 0 ≤ i ∧ i < ((aW, aH, al) : Bm).1 ∧ 0 ≤ j ∧ j < ((aW, aH, al) : Bm).2.1 from ⟨v1, v2, v3, v4⟩), Bool.true_and, hvb])
            clear hvb
            cases hga : getB (aW, aH, al) i j
            case false =>
              have HG1 := Lib.hid hga
              rw [hga] at HG2
              clear hga
              have HST := Lib.hid (show cntD (aW, aH, al) (aheadP (i + 1) j) = nm + 0 from by rw [ahead_step, HG1.out, HNM.out]; rfl)
              try simp only [Nat.add_zero] at HST
              simp only [Bool.true_or, Bool.false_or] at HG2
              have kHBA0 : wr1.cell? ⟨w3.heap.size, 0, none⟩ = some (.int .i64 aW) := by rw [cell_of HBA.out]; rfl
              have kHBA1 : wr1.cell? ⟨w3.heap.size, 1, none⟩ = some (.int .i64 aH) := by rw [cell_of HBA.out]; rfl
              have kHBA2 : wr1.cell? ⟨w3.heap.size, 2, none⟩ = some (.slice Aa al.length ca) := by rw [cell_of HBA.out]; rfl
              have kHBB0 : wr1.cell? ⟨w3.heap.size + 1, 0, none⟩ = some (.int .i64 bW) := by rw [cell_of HBB.out]; rfl
              have kHBB1 : wr1.cell? ⟨w3.heap.size + 1, 1, none⟩ = some (.int .i64 bH) := by rw [cell_of HBB.out]; rfl
              have kHBB2 : wr1.cell? ⟨w3.heap.size + 1, 2, none⟩ = some (.slice Ab bl.length cb) := by rw [cell_of HBB.out]; rfl
              have kHBX0 : wr1.cell? ⟨w9.heap.size, 0, none⟩ = some (.int .i64 aW) := by rw [cell_of HBX.out]; rfl
              have kHBX1 : wr1.cell? ⟨w9.heap.size, 1, none⟩ = some (.int .i64 aH) := by rw [cell_of HBX.out]; rfl
              have kHBX2 : wr1.cell? ⟨w9.heap.size, 2, none⟩ = some (.slice AX xl.length cX) := by rw [cell_of HBX.out]; rfl
              have kHBY0 : wr1.cell? ⟨w11.heap.size, 0, none⟩ = some (.int .i64 m2) := by rw [cell_of HBY.out]; rfl
              have kHBY1 : wr1.cell? ⟨w11.heap.size, 1, none⟩ = some (.int .i64 m3) := by rw [cell_of HBY.out]; rfl
              have kHBY2 : wr1.cell? ⟨w11.heap.size, 2, none⟩ = some (.slice AY yl.length cY) := by rw [cell_of HBY.out]; rfl
              have kHBZ0 : wr1.cell? ⟨w13.heap.size, 0, none⟩ = some (.int .i64 aW) := by rw [cell_of HBZ.out]; rfl
              have kHBZ1 : wr1.cell? ⟨w13.heap.size, 1, none⟩ = some (.int .i64 aH) := by rw [cell_of HBZ.out]; rfl
              have kHBZ2 : wr1.cell? ⟨w13.heap.size, 2, none⟩ = some (.slice AZ zl.length cZ) := by rw [cell_of HBZ.out]; rfl
              have kHBS0 : wr1.cell? ⟨w7.heap.size, 0, none⟩ = some (.int .i64 p0) := by rw [cell_of HBS.out]; rfl
              have kHBS1 : wr1.cell? ⟨w7.heap.size, 1, none⟩ = some (.int .i64 p1) := by rw [cell_of HBS.out]; rfl
              have kHBS2 : wr1.cell? ⟨w7.heap.size, 2, none⟩ = some (.int .i64 p2) := by rw [cell_of HBS.out]; rfl
              have kHBS3 : wr1.cell? ⟨w7.heap.size, 3, none⟩ = some (.int .i64 p3) := by rw [cell_of HBS.out]; rfl
              go_wp2_with (go_at_call 3; fail)
              clear kHBA0 kHBA1 kHBA2 kHBB0 kHBB1 kHBB2 kHBX0 kHBX1 kHBX2 kHBY0 kHBY1 kHBY2 kHBZ0 kHBZ1 kHBZ2 kHBS0 kHBS1 kHBS2 kHBS3
              refine Get_any _ _ (aW, aH, xl) i j _ _ HIx.out ?_
              intro w22 n
              replace NX := Lib.hid (NX.out.trans n)
              replace SZ := Nat.lt_of_lt_of_le SZ n.size
              replace HIa := Lib.hid ((HIa.out.kept n nof).hi n.size)
              replace HIb := Lib.hid ((HIb.out.kept n nof).hi n.size)
              replace HBA := Lib.hid (n.heap HBA.out id)
              replace HBB := Lib.hid (n.heap HBB.out id)
              replace HIo := Lib.hid ((HIo.out.kept n nof).hi n.size)
              replace HBO := Lib.hid (n.heap HBO.out id)
              replace HBS := Lib.hid (n.heap HBS.out id)
              replace HIx := Lib.hid ((HIx.out.kept n nof).hi n.size)
              replace HBX := Lib.hid (n.heap HBX.out id)
              replace HIy := Lib.hid ((HIy.out.kept n nof).hi n.size)
              replace HBY := Lib.hid (n.heap HBY.out id)
              replace HIz := Lib.hid ((HIz.out.kept n nof).hi n.size)
              replace HBZ := Lib.hid (n.heap HBZ.out id)
              replace HC := Lib.hid (HC.out.trans n)
              replace HC2 := Lib.hid (HC2.out.trans n)
              rw [HG2.out]
              clear n
              have kHBA0 : w22.cell? ⟨w3.heap.size, 0, none⟩ = some (.int .i64 aW) := by rw [cell_of HBA.out]; rfl
              have kHBA1 : w22.cell? ⟨w3.heap.size, 1, none⟩ = some (.int .i64 aH) := by rw [cell_of HBA.out]; rfl
              have kHBA2 : w22.cell? ⟨w3.heap.size, 2, none⟩ = some (.slice Aa al.length ca) := by rw [cell_of HBA.out]; rfl
              have kHBB0 : w22.cell? ⟨w3.heap.size + 1, 0, none⟩ = some (.int .i64 bW) := by rw [cell_of HBB.out]; rfl
              have kHBB1 : w22.cell? ⟨w3.heap.size + 1, 1, none⟩ = some (.int .i64 bH) := by rw [cell_of HBB.out]; rfl
              have kHBB2 : w22.cell? ⟨w3.heap.size + 1, 2, none⟩ = some (.slice Ab bl.length cb) := by rw [cell_of HBB.out]; rfl
              have kHBX0 : w22.cell? ⟨w9.heap.size, 0, none⟩ = some (.int .i64 aW) := by rw [cell_of HBX.out]; rfl
              have kHBX1 : w22.cell? ⟨w9.heap.size, 1, none⟩ = some (.int .i64 aH) := by rw [cell_of HBX.out]; rfl
              have kHBX2 : w22.cell? ⟨w9.heap.size, 2, none⟩ = some (.slice AX xl.length cX) := by rw [cell_of HBX.out]; rfl
              have kHBY0 : w22.cell? ⟨w11.heap.size, 0, none⟩ = some (.int .i64 m2) := by rw [cell_of HBY.out]; rfl
              have kHBY1 : w22.cell? ⟨w11.heap.size, 1, none⟩ = some (.int .i64 m3) := by rw [cell_of HBY.out]; rfl
              have kHBY2 : w22.cell? ⟨w11.heap.size, 2, none⟩ = some (.slice AY yl.length cY) := by rw [cell_of HBY.out]; rfl
              have kHBZ0 : w22.cell? ⟨w13.heap.size, 0, none⟩ = some (.int .i64 aW) := by rw [cell_of HBZ.out]; rfl
              have kHBZ1 : w22.cell? ⟨w13.heap.size, 1, none⟩ = some (.int .i64 aH) := by rw [cell_of HBZ.out]; rfl
              have kHBZ2 : w22.cell? ⟨w13.heap.size, 2, none⟩ = some (.slice AZ zl.length cZ) := by rw [cell_of HBZ.out]; rfl
              have kHBS0 : w22.cell? ⟨w7.heap.size, 0, none⟩ = some (.int .i64 p0) := by rw [cell_of HBS.out]; rfl
              have kHBS1 : w22.cell? ⟨w7.heap.size, 1, none⟩ = some (.int .i64 p1) := by rw [cell_of HBS.out]; rfl
              have kHBS2 : w22.cell? ⟨w7.heap.size, 2, none⟩ = some (.int .i64 p2) := by rw [cell_of HBS.out]; rfl
              have kHBS3 : w22.cell? ⟨w7.heap.size, 3, none⟩ = some (.int .i64 p3) := by rw [cell_of HBS.out]; rfl
              go_wp2_with (go_at_call 3; fail)
              clear kHBA0 kHBA1 kHBA2 kHBB0 kHBB1 kHBB2 kHBX0 kHBX1 kHBX2 kHBY0 kHBY1 kHBY2 kHBZ0 kHBZ1 kHBZ2 kHBS0 kHBS1 kHBS2 kHBS3
              refine Get_any _ _ (aW, aH, al) i j _ _ HIa.out ?_
              intro w23 n
              replace NX := Lib.hid (NX.out.trans n)
              replace SZ := Nat.lt_of_lt_of_le SZ n.size
              replace HIa := Lib.hid ((HIa.out.kept n nof).hi n.size)
              replace HIb := Lib.hid ((HIb.out.kept n nof).hi n.size)
              replace HBA := Lib.hid (n.heap HBA.out id)
              replace HBB := Lib.hid (n.heap HBB.out id)
              replace HIo := Lib.hid ((HIo.out.kept n nof).hi n.size)
              replace HBO := Lib.hid (n.heap HBO.out id)
              replace HBS := Lib.hid (n.heap HBS.out id)
              replace HIx := Lib.hid ((HIx.out.kept n nof).hi n.size)
              replace HBX := Lib.hid (n.heap HBX.out id)
              replace HIy := Lib.hid ((HIy.out.kept n nof).hi n.size)
              replace HBY := Lib.hid (n.heap HBY.out id)
              replace HIz := Lib.hid ((HIz.out.kept n nof).hi n.size)
              replace HBZ := Lib.hid (n.heap HBZ.out id)
              replace HC := Lib.hid (HC.out.trans n)
              replace HC2 := Lib.hid (HC2.out.trans n)
              rw [HG1.out]
              clear n
              have kHBA0 : w23.cell? ⟨w3.heap.size, 0, none⟩ = some (.int .i64 aW) := by rw [cell_of HBA.out]; rfl
              have kHBA1 : w23.cell? ⟨w3.heap.size, 1, none⟩ = some (.int .i64 aH) := by rw [cell_of HBA.out]; rfl
              have kHBA2 : w23.cell? ⟨w3.heap.size, 2, none⟩ = some (.slice Aa al.length ca) := by rw [cell_of HBA.out]; rfl
              have kHBB0 : w23.cell? ⟨w3.heap.size + 1, 0, none⟩ = some (.int .i64 bW) := by rw [cell_of HBB.out]; rfl
              have kHBB1 : w23.cell? ⟨w3.heap.size + 1, 1, none⟩ = some (.int .i64 bH) := by rw [cell_of HBB.out]; rfl
              have kHBB2 : w23.cell? ⟨w3.heap.size + 1, 2, none⟩ = some (.slice Ab bl.length cb) := by rw [cell_of HBB.out]; rfl
              have kHBX0 : w23.cell? ⟨w9.heap.size, 0, none⟩ = some (.int .i64 aW) := by rw [cell_of HBX.out]; rfl
              have kHBX1 : w23.cell? ⟨w9.heap.size, 1, none⟩ = some (.int .i64 aH) := by rw [cell_of HBX.out]; rfl
              have kHBX2 : w23.cell? ⟨w9.heap.size, 2, none⟩ = some (.slice AX xl.length cX) := by rw [cell_of HBX.out]; rfl
              have kHBY0 : w23.cell? ⟨w11.heap.size, 0, none⟩ = some (.int .i64 m2) := by rw [cell_of HBY.out]; rfl
              have kHBY1 : w23.cell? ⟨w11.heap.size, 1, none⟩ = some (.int .i64 m3) := by rw [cell_of HBY.out]; rfl
              have kHBY2 : w23.cell? ⟨w11.heap.size, 2, none⟩ = some (.slice AY yl.length cY) := by rw [cell_of HBY.out]; rfl
              have kHBZ0 : w23.cell? ⟨w13.heap.size, 0, none⟩ = some (.int .i64 aW) := by rw [cell_of HBZ.out]; rfl
              have kHBZ1 : w23.cell? ⟨w13.heap.size, 1, none⟩ = some (.int .i64 aH) := by rw [cell_of HBZ.out]; rfl
              have kHBZ2 : w23.cell? ⟨w13.heap.size, 2, none⟩ = some (.slice AZ zl.length cZ) := by rw [cell_of HBZ.out]; rfl
              have kHBS0 : w23.cell? ⟨w7.heap.size, 0, none⟩ = some (.int .i64 p0) := by rw [cell_of HBS.out]; rfl
              have kHBS1 : w23.cell? ⟨w7.heap.size, 1, none⟩ = some (.int .i64 p1) := by rw [cell_of HBS.out]; rfl
              have kHBS2 : w23.cell? ⟨w7.heap.size, 2, none⟩ = some (.int .i64 p2) := by rw [cell_of HBS.out]; rfl
              have kHBS3 : w23.cell? ⟨w7.heap.size, 3, none⟩ = some (.int .i64 p3) := by rw [cell_of HBS.out]; rfl
              go_wp2_with (go_at_call 3; fail)
              clear kHBA0 kHBA1 kHBA2 kHBB0 kHBB1 kHBB2 kHBX0 kHBX1 kHBX2 kHBY0 kHBY1 kHBY2 kHBZ0 kHBZ1 kHBZ2 kHBS0 kHBS1 kHBS2 kHBS3
              refine Get_any _ _ (bW, bH, bl) (i - p0) (j - p1) _ _ HIb.out ?_
              intro w24 n
              replace NX := Lib.hid (NX.out.trans n)
              replace SZ := Nat.lt_of_lt_of_le SZ n.size
              replace HIa := Lib.hid ((HIa.out.kept n nof).hi n.size)
              replace HIb := Lib.hid ((HIb.out.kept n nof).hi n.size)
              replace HBA := Lib.hid (n.heap HBA.out id)
              replace HBB := Lib.hid (n.heap HBB.out id)
              replace HIo := Lib.hid ((HIo.out.kept n nof).hi n.size)
              replace HBO := Lib.hid (n.heap HBO.out id)
              replace HBS := Lib.hid (n.heap HBS.out id)
              replace HIx := Lib.hid ((HIx.out.kept n nof).hi n.size)
              replace HBX := Lib.hid (n.heap HBX.out id)
              replace HIy := Lib.hid ((HIy.out.kept n nof).hi n.size)
              replace HBY := Lib.hid (n.heap HBY.out id)
              replace HIz := Lib.hid ((HIz.out.kept n nof).hi n.size)
              replace HBZ := Lib.hid (n.heap HBZ.out id)
              replace HC := Lib.hid (HC.out.trans n)
              replace HC2 := Lib.hid (HC2.out.trans n)
              rw [HVB.out]
              clear n
              have kHBA0 : w24.cell? ⟨w3.heap.size, 0, none⟩ = some (.int .i64 aW) := by rw [cell_of HBA.out]; rfl
              have kHBA1 : w24.cell? ⟨w3.heap.size, 1, none⟩ = some (.int .i64 aH) := by rw [cell_of HBA.out]; rfl
              have kHBA2 : w24.cell? ⟨w3.heap.size, 2, none⟩ = some (.slice Aa al.length ca) := by rw [cell_of HBA.out]; rfl
              have kHBB0 : w24.cell? ⟨w3.heap.size + 1, 0, none⟩ = some (.int .i64 bW) := by rw [cell_of HBB.out]; rfl
              have kHBB1 : w24.cell? ⟨w3.heap.size + 1, 1, none⟩ = some (.int .i64 bH) := by rw [cell_of HBB.out]; rfl
              have kHBB2 : w24.cell? ⟨w3.heap.size + 1, 2, none⟩ = some (.slice Ab bl.length cb) := by rw [cell_of HBB.out]; rfl
              have kHBX0 : w24.cell? ⟨w9.heap.size, 0, none⟩ = some (.int .i64 aW) := by rw [cell_of HBX.out]; rfl
              have kHBX1 : w24.cell? ⟨w9.heap.size, 1, none⟩ = some (.int .i64 aH) := by rw [cell_of HBX.out]; rfl
              have kHBX2 : w24.cell? ⟨w9.heap.size, 2, none⟩ = some (.slice AX xl.length cX) := by rw [cell_of HBX.out]; rfl
              have kHBY0 : w24.cell? ⟨w11.heap.size, 0, none⟩ = some (.int .i64 m2) := by rw [cell_of HBY.out]; rfl
              have kHBY1 : w24.cell? ⟨w11.heap.size, 1, none⟩ = some (.int .i64 m3) := by rw [cell_of HBY.out]; rfl
              have kHBY2 : w24.cell? ⟨w11.heap.size, 2, none⟩ = some (.slice AY yl.length cY) := by rw [cell_of HBY.out]; rfl
              have kHBZ0 : w24.cell? ⟨w13.heap.size, 0, none⟩ = some (.int .i64 aW) := by rw [cell_of HBZ.out]; rfl
              have kHBZ1 : w24.cell? ⟨w13.heap.size, 1, none⟩ = some (.int .i64 aH) := by rw [cell_of HBZ.out]; rfl
              have kHBZ2 : w24.cell? ⟨w13.heap.size, 2, none⟩ = some (.slice AZ zl.length cZ) := by rw [cell_of HBZ.out]; rfl
              have kHBS0 : w24.cell? ⟨w7.heap.size, 0, none⟩ = some (.int .i64 p0) := by rw [cell_of HBS.out]; rfl
              have kHBS1 : w24.cell? ⟨w7.heap.size, 1, none⟩ = some (.int .i64 p1) := by rw [cell_of HBS.out]; rfl
              have kHBS2 : w24.cell? ⟨w7.heap.size, 2, none⟩ = some (.int .i64 p2) := by rw [cell_of HBS.out]; rfl
              have kHBS3 : w24.cell? ⟨w7.heap.size, 3, none⟩ = some (.int .i64 p3) := by rw [cell_of HBS.out]; rfl
              go_wp2_with (go_at_call 3; fail)
              clear kHBA0 kHBA1 kHBA2 kHBB0 kHBB1 kHBB2 kHBX0 kHBX1 kHBX2 kHBY0 kHBY1 kHBY2 kHBZ0 kHBZ1 kHBZ2 kHBS0 kHBS1 kHBS2 kHBS3
              refine Get_any _ _ (aW, aH, zl) i j _ _ HIz.out ?_
              intro w25 n
              replace NX := Lib.hid (NX.out.trans n)
              replace SZ := Nat.lt_of_lt_of_le SZ n.size
              replace HIa := Lib.hid ((HIa.out.kept n nof).hi n.size)
              replace HIb := Lib.hid ((HIb.out.kept n nof).hi n.size)
              replace HBA := Lib.hid (n.heap HBA.out id)
              replace HBB := Lib.hid (n.heap HBB.out id)
              replace HIo := Lib.hid ((HIo.out.kept n nof).hi n.size)
              replace HBO := Lib.hid (n.heap HBO.out id)
              replace HBS := Lib.hid (n.heap HBS.out id)
              replace HIx := Lib.hid ((HIx.out.kept n nof).hi n.size)
              replace HBX := Lib.hid (n.heap HBX.out id)
              replace HIy := Lib.hid ((HIy.out.kept n nof).hi n.size)
              replace HBY := Lib.hid (n.heap HBY.out id)
              replace HIz := Lib.hid ((HIz.out.kept n nof).hi n.size)
              replace HBZ := Lib.hid (n.heap HBZ.out id)
              replace HC := Lib.hid (HC.out.trans n)
              replace HC2 := Lib.hid (HC2.out.trans n)
              rw [HN5.out]
              clear n
              have kHBA0 : w25.cell? ⟨w3.heap.size, 0, none⟩ = some (.int .i64 aW) := by rw [cell_of HBA.out]; rfl
              have kHBA1 : w25.cell? ⟨w3.heap.size, 1, none⟩ = some (.int .i64 aH) := by rw [cell_of HBA.out]; rfl
              have kHBA2 : w25.cell? ⟨w3.heap.size, 2, none⟩ = some (.slice Aa al.length ca) := by rw [cell_of HBA.out]; rfl
              have kHBB0 : w25.cell? ⟨w3.heap.size + 1, 0, none⟩ = some (.int .i64 bW) := by rw [cell_of HBB.out]; rfl
              have kHBB1 : w25.cell? ⟨w3.heap.size + 1, 1, none⟩ = some (.int .i64 bH) := by rw [cell_of HBB.out]; rfl
              have kHBB2 : w25.cell? ⟨w3.heap.size + 1, 2, none⟩ = some (.slice Ab bl.length cb) := by rw [cell_of HBB.out]; rfl
              have kHBX0 : w25.cell? ⟨w9.heap.size, 0, none⟩ = some (.int .i64 aW) := by rw [cell_of HBX.out]; rfl
              have kHBX1 : w25.cell? ⟨w9.heap.size, 1, none⟩ = some (.int .i64 aH) := by rw [cell_of HBX.out]; rfl
              have kHBX2 : w25.cell? ⟨w9.heap.size, 2, none⟩ = some (.slice AX xl.length cX) := by rw [cell_of HBX.out]; rfl
              have kHBY0 : w25.cell? ⟨w11.heap.size, 0, none⟩ = some (.int .i64 m2) := by rw [cell_of HBY.out]; rfl
              have kHBY1 : w25.cell? ⟨w11.heap.size, 1, none⟩ = some (.int .i64 m3) := by rw [cell_of HBY.out]; rfl
              have kHBY2 : w25.cell? ⟨w11.heap.size, 2, none⟩ = some (.slice AY yl.length cY) := by rw [cell_of HBY.out]; rfl
              have kHBZ0 : w25.cell? ⟨w13.heap.size, 0, none⟩ = some (.int .i64 aW) := by rw [cell_of HBZ.out]; rfl
              have kHBZ1 : w25.cell? ⟨w13.heap.size, 1, none⟩ = some (.int .i64 aH) := by rw [cell_of HBZ.out]; rfl
              have kHBZ2 : w25.cell? ⟨w13.heap.size, 2, none⟩ = some (.slice AZ zl.length cZ) := by rw [cell_of HBZ.out]; rfl
              have kHBS0 : w25.cell? ⟨w7.heap.size, 0, none⟩ = some (.int .i64 p0) := by rw [cell_of HBS.out]; rfl
              have kHBS1 : w25.cell? ⟨w7.heap.size, 1, none⟩ = some (.int .i64 p1) := by rw [cell_of HBS.out]; rfl
              have kHBS2 : w25.cell? ⟨w7.heap.size, 2, none⟩ = some (.int .i64 p2) := by rw [cell_of HBS.out]; rfl
              have kHBS3 : w25.cell? ⟨w7.heap.size, 3, none⟩ = some (.int .i64 p3) := by rw [cell_of HBS.out]; rfl
              go_wp2_with (go_at_call 3; fail)
              clear kHBA0 kHBA1 kHBA2 kHBB0 kHBB1 kHBB2 kHBX0 kHBX1 kHBX2 kHBY0 kHBY1 kHBY2 kHBZ0 kHBZ1 kHBZ2 kHBS0 kHBS1 kHBS2 kHBS3
              refine Get_any _ _ (aW, aH, al) i j _ _ HIa.out ?_
              intro w26 n
              replace NX := Lib.hid (NX.out.trans n)
              replace SZ := Nat.lt_of_lt_of_le SZ n.size
              replace HIa := Lib.hid ((HIa.out.kept n nof).hi n.size)
              replace HIb := Lib.hid ((HIb.out.kept n nof).hi n.size)
              replace HBA := Lib.hid (n.heap HBA.out id)
              replace HBB := Lib.hid (n.heap HBB.out id)
              replace HIo := Lib.hid ((HIo.out.kept n nof).hi n.size)
              replace HBO := Lib.hid (n.heap HBO.out id)
              replace HBS := Lib.hid (n.heap HBS.out id)
              replace HIx := Lib.hid ((HIx.out.kept n nof).hi n.size)
              replace HBX := Lib.hid (n.heap HBX.out id)
              replace HIy := Lib.hid ((HIy.out.kept n nof).hi n.size)
              replace HBY := Lib.hid (n.heap HBY.out id)
              replace HIz := Lib.hid ((HIz.out.kept n nof).hi n.size)
              replace HBZ := Lib.hid (n.heap HBZ.out id)
              replace HC := Lib.hid (HC.out.trans n)
              replace HC2 := Lib.hid (HC2.out.trans n)
              rw [HG1.out]
              clear n
              have kHBA0 : w26.cell? ⟨w3.heap.size, 0, none⟩ = some (.int .i64 aW) := by rw [cell_of HBA.out]; rfl
              have kHBA1 : w26.cell? ⟨w3.heap.size, 1, none⟩ = some (.int .i64 aH) := by rw [cell_of HBA.out]; rfl
              have kHBA2 : w26.cell? ⟨w3.heap.size, 2, none⟩ = some (.slice Aa al.length ca) := by rw [cell_of HBA.out]; rfl
              have kHBB0 : w26.cell? ⟨w3.heap.size + 1, 0, none⟩ = some (.int .i64 bW) := by rw [cell_of HBB.out]; rfl
              have kHBB1 : w26.cell? ⟨w3.heap.size + 1, 1, none⟩ = some (.int .i64 bH) := by rw [cell_of HBB.out]; rfl
              have kHBB2 : w26.cell? ⟨w3.heap.size + 1, 2, none⟩ = some (.slice Ab bl.length cb) := by rw [cell_of HBB.out]; rfl
              have kHBX0 : w26.cell? ⟨w9.heap.size, 0, none⟩ = some (.int .i64 aW) := by rw [cell_of HBX.out]; rfl
              have kHBX1 : w26.cell? ⟨w9.heap.size, 1, none⟩ = some (.int .i64 aH) := by rw [cell_of HBX.out]; rfl
              have kHBX2 : w26.cell? ⟨w9.heap.size, 2, none⟩ = some (.slice AX xl.length cX) := by rw [cell_of HBX.out]; rfl
              have kHBY0 : w26.cell? ⟨w11.heap.size, 0, none⟩ = some (.int .i64 m2) := by rw [cell_of HBY.out]; rfl
              have kHBY1 : w26.cell? ⟨w11.heap.size, 1, none⟩ = some (.int .i64 m3) := by rw [cell_of HBY.out]; rfl
              have kHBY2 : w26.cell? ⟨w11.heap.size, 2, none⟩ = some (.slice AY yl.length cY) := by rw [cell_of HBY.out]; rfl
              have kHBZ0 : w26.cell? ⟨w13.heap.size, 0, none⟩ = some (.int .i64 aW) := by rw [cell_of HBZ.out]; rfl
              have kHBZ1 : w26.cell? ⟨w13.heap.size, 1, none⟩ = some (.int .i64 aH) := by rw [cell_of HBZ.out]; rfl
              have kHBZ2 : w26.cell? ⟨w13.heap.size, 2, none⟩ = some (.slice AZ zl.length cZ) := by rw [cell_of HBZ.out]; rfl
              have kHBS0 : w26.cell? ⟨w7.heap.size, 0, none⟩ = some (.int .i64 p0) := by rw [cell_of HBS.out]; rfl
              have kHBS1 : w26.cell? ⟨w7.heap.size, 1, none⟩ = some (.int .i64 p1) := by rw [cell_of HBS.out]; rfl
              have kHBS2 : w26.cell? ⟨w7.heap.size, 2, none⟩ = some (.int .i64 p2) := by rw [cell_of HBS.out]; rfl
              have kHBS3 : w26.cell? ⟨w7.heap.size, 3, none⟩ = some (.int .i64 p3) := by rw [cell_of HBS.out]; rfl
              go_wp2_with fail
              clear kHBA0 kHBA1 kHBA2 kHBB0 kHBB1 kHBB2 kHBX0 kHBX1 kHBX2 kHBY0 kHBY1 kHBY2 kHBZ0 kHBZ1 kHBZ2 kHBS0 kHBS1 kHBS2 kHBS3
              refine ⟨⟨i + 1, by go_num, by omega, by omega, by rw [HST.out], Lib.hid HC2.out⟩, ?_⟩
              simp [intOf]; omega
            case true =>
              have HG1 := Lib.hid hga
              rw [hga] at HG2
              clear hga
              have HST := Lib.hid (show cntD (aW, aH, al) (aheadP (i + 1) j) = nm + 1 from by rw [ahead_step, HG1.out, HNM.out]; rfl)
              try simp only [Nat.add_zero] at HST
              simp only [Bool.true_or, Bool.false_or] at HG2
              have kHBA0 : wr1.cell? ⟨w3.heap.size, 0, none⟩ = some (.int .i64 aW) := by rw [cell_of HBA.out]; rfl
              have kHBA1 : wr1.cell? ⟨w3.heap.size, 1, none⟩ = some (.int .i64 aH) := by rw [cell_of HBA.out]; rfl
              have kHBA2 : wr1.cell? ⟨w3.heap.size, 2, none⟩ = some (.slice Aa al.length ca) := by rw [cell_of HBA.out]; rfl
              have kHBB0 : wr1.cell? ⟨w3.heap.size + 1, 0, none⟩ = some (.int .i64 bW) := by rw [cell_of HBB.out]; rfl
              have kHBB1 : wr1.cell? ⟨w3.heap.size + 1, 1, none⟩ = some (.int .i64 bH) := by rw [cell_of HBB.out]; rfl
              have kHBB2 : wr1.cell? ⟨w3.heap.size + 1, 2, none⟩ = some (.slice Ab bl.length cb) := by rw [cell_of HBB.out]; rfl
              have kHBX0 : wr1.cell? ⟨w9.heap.size, 0, none⟩ = some (.int .i64 aW) := by rw [cell_of HBX.out]; rfl
              have kHBX1 : wr1.cell? ⟨w9.heap.size, 1, none⟩ = some (.int .i64 aH) := by rw [cell_of HBX.out]; rfl
              have kHBX2 : wr1.cell? ⟨w9.heap.size, 2, none⟩ = some (.slice AX xl.length cX) := by rw [cell_of HBX.out]; rfl
              have kHBY0 : wr1.cell? ⟨w11.heap.size, 0, none⟩ = some (.int .i64 m2) := by rw [cell_of HBY.out]; rfl
              have kHBY1 : wr1.cell? ⟨w11.heap.size, 1, none⟩ = some (.int .i64 m3) := by rw [cell_of HBY.out]; rfl
              have kHBY2 : wr1.cell? ⟨w11.heap.size, 2, none⟩ = some (.slice AY yl.length cY) := by rw [cell_of HBY.out]; rfl
              have kHBZ0 : wr1.cell? ⟨w13.heap.size, 0, none⟩ = some (.int .i64 aW) := by rw [cell_of HBZ.out]; rfl
              have kHBZ1 : wr1.cell? ⟨w13.heap.size, 1, none⟩ = some (.int .i64 aH) := by rw [cell_of HBZ.out]; rfl
              have kHBZ2 : wr1.cell? ⟨w13.heap.size, 2, none⟩ = some (.slice AZ zl.length cZ) := by rw [cell_of HBZ.out]; rfl
              have kHBS0 : wr1.cell? ⟨w7.heap.size, 0, none⟩ = some (.int .i64 p0) := by rw [cell_of HBS.out]; rfl
              have kHBS1 : wr1.cell? ⟨w7.heap.size, 1, none⟩ = some (.int .i64 p1) := by rw [cell_of HBS.out]; rfl
              have kHBS2 : wr1.cell? ⟨w7.heap.size, 2, none⟩ = some (.int .i64 p2) := by rw [cell_of HBS.out]; rfl
              have kHBS3 : wr1.cell? ⟨w7.heap.size, 3, none⟩ = some (.int .i64 p3) := by rw [cell_of HBS.out]; rfl
              go_wp2_with (go_at_call 3; fail)
              clear kHBA0 kHBA1 kHBA2 kHBB0 kHBB1 kHBB2 kHBX0 kHBX1 kHBX2 kHBY0 kHBY1 kHBY2 kHBZ0 kHBZ1 kHBZ2 kHBS0 kHBS1 kHBS2 kHBS3
              refine Get_any _ _ (aW, aH, xl) i j _ _ HIx.out ?_
              intro w27 n
              replace NX := Lib.hid (NX.out.trans n)
              replace SZ := Nat.lt_of_lt_of_le SZ n.size
              replace HIa := Lib.hid ((HIa.out.kept n nof).hi n.size)
              replace HIb := Lib.hid ((HIb.out.kept n nof).hi n.size)
              replace HBA := Lib.hid (n.heap HBA.out id)
              replace HBB := Lib.hid (n.heap HBB.out id)
              replace HIo := Lib.hid ((HIo.out.kept n nof).hi n.size)
              replace HBO := Lib.hid (n.heap HBO.out id)
              replace HBS := Lib.hid (n.heap HBS.out id)
              replace HIx := Lib.hid ((HIx.out.kept n nof).hi n.size)
              replace HBX := Lib.hid (n.heap HBX.out id)
              replace HIy := Lib.hid ((HIy.out.kept n nof).hi n.size)
              replace HBY := Lib.hid (n.heap HBY.out id)
              replace HIz := Lib.hid ((HIz.out.kept n nof).hi n.size)
              replace HBZ := Lib.hid (n.heap HBZ.out id)
              replace HC := Lib.hid (HC.out.trans n)
              replace HC2 := Lib.hid (HC2.out.trans n)
              rw [HG2.out]
              clear n
              have kHBA0 : w27.cell? ⟨w3.heap.size, 0, none⟩ = some (.int .i64 aW) := by rw [cell_of HBA.out]; rfl
              have kHBA1 : w27.cell? ⟨w3.heap.size, 1, none⟩ = some (.int .i64 aH) := by rw [cell_of HBA.out]; rfl
              have kHBA2 : w27.cell? ⟨w3.heap.size, 2, none⟩ = some (.slice Aa al.length ca) := by rw [cell_of HBA.out]; rfl
              have kHBB0 : w27.cell? ⟨w3.heap.size + 1, 0, none⟩ = some (.int .i64 bW) := by rw [cell_of HBB.out]; rfl
              have kHBB1 : w27.cell? ⟨w3.heap.size + 1, 1, none⟩ = some (.int .i64 bH) := by rw [cell_of HBB.out]; rfl
              have kHBB2 : w27.cell? ⟨w3.heap.size + 1, 2, none⟩ = some (.slice Ab bl.length cb) := by rw [cell_of HBB.out]; rfl
              have kHBX0 : w27.cell? ⟨w9.heap.size, 0, none⟩ = some (.int .i64 aW) := by rw [cell_of HBX.out]; rfl
              have kHBX1 : w27.cell? ⟨w9.heap.size, 1, none⟩ = some (.int .i64 aH) := by rw [cell_of HBX.out]; rfl
              have kHBX2 : w27.cell? ⟨w9.heap.size, 2, none⟩ = some (.slice AX xl.length cX) := by rw [cell_of HBX.out]; rfl
              have kHBY0 : w27.cell? ⟨w11.heap.size, 0, none⟩ = some (.int .i64 m2) := by rw [cell_of HBY.out]; rfl
              have kHBY1 : w27.cell? ⟨w11.heap.size, 1, none⟩ = some (.int .i64 m3) := by rw [cell_of HBY.out]; rfl
              have kHBY2 : w27.cell? ⟨w11.heap.size, 2, none⟩ = some (.slice AY yl.length cY) := by rw [cell_of HBY.out]; rfl
              have kHBZ0 : w27.cell? ⟨w13.heap.size, 0, none⟩ = some (.int .i64 aW) := by rw [cell_of HBZ.out]; rfl
              have kHBZ1 : w27.cell? ⟨w13.heap.size, 1, none⟩ = some (.int .i64 aH) := by rw [cell_of HBZ.out]; rfl
              have kHBZ2 : w27.cell? ⟨w13.heap.size, 2, none⟩ = some (.slice AZ zl.length cZ) := by rw [cell_of HBZ.out]; rfl
              have kHBS0 : w27.cell? ⟨w7.heap.size, 0, none⟩ = some (.int .i64 p0) := by rw [cell_of HBS.out]; rfl
              have kHBS1 : w27.cell? ⟨w7.heap.size, 1, none⟩ = some (.int .i64 p1) := by rw [cell_of HBS.out]; rfl
              have kHBS2 : w27.cell? ⟨w7.heap.size, 2, none⟩ = some (.int .i64 p2) := by rw [cell_of HBS.out]; rfl
              have kHBS3 : w27.cell? ⟨w7.heap.size, 3, none⟩ = some (.int .i64 p3) := by rw [cell_of HBS.out]; rfl
              go_wp2_with (go_at_call 3; fail)
              clear kHBA0 kHBA1 kHBA2 kHBB0 kHBB1 kHBB2 kHBX0 kHBX1 kHBX2 kHBY0 kHBY1 kHBY2 kHBZ0 kHBZ1 kHBZ2 kHBS0 kHBS1 kHBS2 kHBS3
              refine Get_any _ _ (aW, aH, al) i j _ _ HIa.out ?_
              intro w28 n
              replace NX := Lib.hid (NX.out.trans n)
              replace SZ := Nat.lt_of_lt_of_le SZ n.size
              replace HIa := Lib.hid ((HIa.out.kept n nof).hi n.size)
              replace HIb := Lib.hid ((HIb.out.kept n nof).hi n.size)
              replace HBA := Lib.hid (n.heap HBA.out id)
              replace HBB := Lib.hid (n.heap HBB.out id)
              replace HIo := Lib.hid ((HIo.out.kept n nof).hi n.size)
              replace HBO := Lib.hid (n.heap HBO.out id)
              replace HBS := Lib.hid (n.heap HBS.out id)
              replace HIx := Lib.hid ((HIx.out.kept n nof).hi n.size)
              replace HBX := Lib.hid (n.heap HBX.out id)
              replace HIy := Lib.hid ((HIy.out.kept n nof).hi n.size)
              replace HBY := Lib.hid (n.heap HBY.out id)
              replace HIz := Lib.hid ((HIz.out.kept n nof).hi n.size)
              replace HBZ := Lib.hid (n.heap HBZ.out id)
              replace HC := Lib.hid (HC.out.trans n)
              replace HC2 := Lib.hid (HC2.out.trans n)
              rw [HG1.out]
              clear n
              have kHBA0 : w28.cell? ⟨w3.heap.size, 0, none⟩ = some (.int .i64 aW) := by rw [cell_of HBA.out]; rfl
              have kHBA1 : w28.cell? ⟨w3.heap.size, 1, none⟩ = some (.int .i64 aH) := by rw [cell_of HBA.out]; rfl
              have kHBA2 : w28.cell? ⟨w3.heap.size, 2, none⟩ = some (.slice Aa al.length ca) := by rw [cell_of HBA.out]; rfl
              have kHBB0 : w28.cell? ⟨w3.heap.size + 1, 0, none⟩ = some (.int .i64 bW) := by rw [cell_of HBB.out]; rfl
              have kHBB1 : w28.cell? ⟨w3.heap.size + 1, 1, none⟩ = some (.int .i64 bH) := by rw [cell_of HBB.out]; rfl
              have kHBB2 : w28.cell? ⟨w3.heap.size + 1, 2, none⟩ = some (.slice Ab bl.length cb) := by rw [cell_of HBB.out]; rfl
              have kHBX0 : w28.cell? ⟨w9.heap.size, 0, none⟩ = some (.int .i64 aW) := by rw [cell_of HBX.out]; rfl
              have kHBX1 : w28.cell? ⟨w9.heap.size, 1, none⟩ = some (.int .i64 aH) := by rw [cell_of HBX.out]; rfl
              have kHBX2 : w28.cell? ⟨w9.heap.size, 2, none⟩ = some (.slice AX xl.length cX) := by rw [cell_of HBX.out]; rfl
              have kHBY0 : w28.cell? ⟨w11.heap.size, 0, none⟩ = some (.int .i64 m2) := by rw [cell_of HBY.out]; rfl
              have kHBY1 : w28.cell? ⟨w11.heap.size, 1, none⟩ = some (.int .i64 m3) := by rw [cell_of HBY.out]; rfl
              have kHBY2 : w28.cell? ⟨w11.heap.size, 2, none⟩ = some (.slice AY yl.length cY) := by rw [cell_of HBY.out]; rfl
              have kHBZ0 : w28.cell? ⟨w13.heap.size, 0, none⟩ = some (.int .i64 aW) := by rw [cell_of HBZ.out]; rfl
              have kHBZ1 : w28.cell? ⟨w13.heap.size, 1, none⟩ = some (.int .i64 aH) := by rw [cell_of HBZ.out]; rfl
              have kHBZ2 : w28.cell? ⟨w13.heap.size, 2, none⟩ = some (.slice AZ zl.length cZ) := by rw [cell_of HBZ.out]; rfl
              have kHBS0 : w28.cell? ⟨w7.heap.size, 0, none⟩ = some (.int .i64 p0) := by rw [cell_of HBS.out]; rfl
              have kHBS1 : w28.cell? ⟨w7.heap.size, 1, none⟩ = some (.int .i64 p1) := by rw [cell_of HBS.out]; rfl
              have kHBS2 : w28.cell? ⟨w7.heap.size, 2, none⟩ = some (.int .i64 p2) := by rw [cell_of HBS.out]; rfl
              have kHBS3 : w28.cell? ⟨w7.heap.size, 3, none⟩ = some (.int .i64 p3) := by rw [cell_of HBS.out]; rfl
              go_wp2_with (go_at_call 3; fail)
              clear kHBA0 kHBA1 kHBA2 kHBB0 kHBB1 kHBB2 kHBX0 kHBX1 kHBX2 kHBY0 kHBY1 kHBY2 kHBZ0 kHBZ1 kHBZ2 kHBS0 kHBS1 kHBS2 kHBS3
              refine Get_any _ _ (aW, aH, zl) i j _ _ HIz.out ?_
              intro w29 n
              replace NX := Lib.hid (NX.out.trans n)
              replace SZ := Nat.lt_of_lt_of_le SZ n.size
              replace HIa := Lib.hid ((HIa.out.kept n nof).hi n.size)
              replace HIb := Lib.hid ((HIb.out.kept n nof).hi n.size)
              replace HBA := Lib.hid (n.heap HBA.out id)
              replace HBB := Lib.hid (n.heap HBB.out id)
              replace HIo := Lib.hid ((HIo.out.kept n nof).hi n.size)
              replace HBO := Lib.hid (n.heap HBO.out id)
              replace HBS := Lib.hid (n.heap HBS.out id)
              replace HIx := Lib.hid ((HIx.out.kept n nof).hi n.size)
              replace HBX := Lib.hid (n.heap HBX.out id)
              replace HIy := Lib.hid ((HIy.out.kept n nof).hi n.size)
              replace HBY := Lib.hid (n.heap HBY.out id)
              replace HIz := Lib.hid ((HIz.out.kept n nof).hi n.size)
              replace HBZ := Lib.hid (n.heap HBZ.out id)
              replace HC := Lib.hid (HC.out.trans n)
              replace HC2 := Lib.hid (HC2.out.trans n)
              rw [HN5.out]
              clear n
              have kHBA0 : w29.cell? ⟨w3.heap.size, 0, none⟩ = some (.int .i64 aW) := by rw [cell_of HBA.out]; rfl
              have kHBA1 : w29.cell? ⟨w3.heap.size, 1, none⟩ = some (.int .i64 aH) := by rw [cell_of HBA.out]; rfl
              have kHBA2 : w29.cell? ⟨w3.heap.size, 2, none⟩ = some (.slice Aa al.length ca) := by rw [cell_of HBA.out]; rfl
              have kHBB0 : w29.cell? ⟨w3.heap.size + 1, 0, none⟩ = some (.int .i64 bW) := by rw [cell_of HBB.out]; rfl
              have kHBB1 : w29.cell? ⟨w3.heap.size + 1, 1, none⟩ = some (.int .i64 bH) := by rw [cell_of HBB.out]; rfl
              have kHBB2 : w29.cell? ⟨w3.heap.size + 1, 2, none⟩ = some (.slice Ab bl.length cb) := by rw [cell_of HBB.out]; rfl
              have kHBX0 : w29.cell? ⟨w9.heap.size, 0, none⟩ = some (.int .i64 aW) := by rw [cell_of HBX.out]; rfl
              have kHBX1 : w29.cell? ⟨w9.heap.size, 1, none⟩ = some (.int .i64 aH) := by rw [cell_of HBX.out]; rfl
              have kHBX2 : w29.cell? ⟨w9.heap.size, 2, none⟩ = some (.slice AX xl.length cX) := by rw [cell_of HBX.out]; rfl
              have kHBY0 : w29.cell? ⟨w11.heap.size, 0, none⟩ = some (.int .i64 m2) := by rw [cell_of HBY.out]; rfl
              have kHBY1 : w29.cell? ⟨w11.heap.size, 1, none⟩ = some (.int .i64 m3) := by rw [cell_of HBY.out]; rfl
              have kHBY2 : w29.cell? ⟨w11.heap.size, 2, none⟩ = some (.slice AY yl.length cY) := by rw [cell_of HBY.out]; rfl
              have kHBZ0 : w29.cell? ⟨w13.heap.size, 0, none⟩ = some (.int .i64 aW) := by rw [cell_of HBZ.out]; rfl
              have kHBZ1 : w29.cell? ⟨w13.heap.size, 1, none⟩ = some (.int .i64 aH) := by rw [cell_of HBZ.out]; rfl
              have kHBZ2 : w29.cell? ⟨w13.heap.size, 2, none⟩ = some (.slice AZ zl.length cZ) := by rw [cell_of HBZ.out]; rfl
              have kHBS0 : w29.cell? ⟨w7.heap.size, 0, none⟩ = some (.int .i64 p0) := by rw [cell_of HBS.out]; rfl
              have kHBS1 : w29.cell? ⟨w7.heap.size, 1, none⟩ = some (.int .i64 p1) := by rw [cell_of HBS.out]; rfl
              have kHBS2 : w29.cell? ⟨w7.heap.size, 2, none⟩ = some (.int .i64 p2) := by rw [cell_of HBS.out]; rfl
              have kHBS3 : w29.cell? ⟨w7.heap.size, 3, none⟩ = some (.int .i64 p3) := by rw [cell_of HBS.out]; rfl
              go_wp2_with (go_at_call 3; fail)
              clear kHBA0 kHBA1 kHBA2 kHBB0 kHBB1 kHBB2 kHBX0 kHBX1 kHBX2 kHBY0 kHBY1 kHBY2 kHBZ0 kHBZ1 kHBZ2 kHBS0 kHBS1 kHBS2 kHBS3
              refine Get_any _ _ (aW, aH, al) i j _ _ HIa.out ?_
              intro w30 n
              replace NX := Lib.hid (NX.out.trans n)
              replace SZ := Nat.lt_of_lt_of_le SZ n.size
              replace HIa := Lib.hid ((HIa.out.kept n nof).hi n.size)
              replace HIb := Lib.hid ((HIb.out.kept n nof).hi n.size)
              replace HBA := Lib.hid (n.heap HBA.out id)
              replace HBB := Lib.hid (n.heap HBB.out id)
              replace HIo := Lib.hid ((HIo.out.kept n nof).hi n.size)
              replace HBO := Lib.hid (n.heap HBO.out id)
              replace HBS := Lib.hid (n.heap HBS.out id)
              replace HIx := Lib.hid ((HIx.out.kept n nof).hi n.size)
              replace HBX := Lib.hid (n.heap HBX.out id)
              replace HIy := Lib.hid ((HIy.out.kept n nof).hi n.size)
              replace HBY := Lib.hid (n.heap HBY.out id)
              replace HIz := Lib.hid ((HIz.out.kept n nof).hi n.size)
              replace HBZ := Lib.hid (n.heap HBZ.out id)
              replace HC := Lib.hid (HC.out.trans n)
              replace HC2 := Lib.hid (HC2.out.trans n)
              rw [HG1.out]
              clear n
              have kHBA0 : w30.cell? ⟨w3.heap.size, 0, none⟩ = some (.int .i64 aW) := by rw [cell_of HBA.out]; rfl
              have kHBA1 : w30.cell? ⟨w3.heap.size, 1, none⟩ = some (.int .i64 aH) := by rw [cell_of HBA.out]; rfl
              have kHBA2 : w30.cell? ⟨w3.heap.size, 2, none⟩ = some (.slice Aa al.length ca) := by rw [cell_of HBA.out]; rfl
              have kHBB0 : w30.cell? ⟨w3.heap.size + 1, 0, none⟩ = some (.int .i64 bW) := by rw [cell_of HBB.out]; rfl
              have kHBB1 : w30.cell? ⟨w3.heap.size + 1, 1, none⟩ = some (.int .i64 bH) := by rw [cell_of HBB.out]; rfl
              have kHBB2 : w30.cell? ⟨w3.heap.size + 1, 2, none⟩ = some (.slice Ab bl.length cb) := by rw [cell_of HBB.out]; rfl
              have kHBX0 : w30.cell? ⟨w9.heap.size, 0, none⟩ = some (.int .i64 aW) := by rw [cell_of HBX.out]; rfl
              have kHBX1 : w30.cell? ⟨w9.heap.size, 1, none⟩ = some (.int .i64 aH) := by rw [cell_of HBX.out]; rfl
              have kHBX2 : w30.cell? ⟨w9.heap.size, 2, none⟩ = some (.slice AX xl.length cX) := by rw [cell_of HBX.out]; rfl
              have kHBY0 : w30.cell? ⟨w11.heap.size, 0, none⟩ = some (.int .i64 m2) := by rw [cell_of HBY.out]; rfl
              have kHBY1 : w30.cell? ⟨w11.heap.size, 1, none⟩ = some (.int .i64 m3) := by rw [cell_of HBY.out]; rfl
              have kHBY2 : w30.cell? ⟨w11.heap.size, 2, none⟩ = some (.slice AY yl.length cY) := by rw [cell_of HBY.out]; rfl
              have kHBZ0 : w30.cell? ⟨w13.heap.size, 0, none⟩ = some (.int .i64 aW) := by rw [cell_of HBZ.out]; rfl
              have kHBZ1 : w30.cell? ⟨w13.heap.size, 1, none⟩ = some (.int .i64 aH) := by rw [cell_of HBZ.out]; rfl
              have kHBZ2 : w30.cell? ⟨w13.heap.size, 2, none⟩ = some (.slice AZ zl.length cZ) := by rw [cell_of HBZ.out]; rfl
              have kHBS0 : w30.cell? ⟨w7.heap.size, 0, none⟩ = some (.int .i64 p0) := by rw [cell_of HBS.out]; rfl
              have kHBS1 : w30.cell? ⟨w7.heap.size, 1, none⟩ = some (.int .i64 p1) := by rw [cell_of HBS.out]; rfl
              have kHBS2 : w30.cell? ⟨w7.heap.size, 2, none⟩ = some (.int .i64 p2) := by rw [cell_of HBS.out]; rfl
              have kHBS3 : w30.cell? ⟨w7.heap.size, 3, none⟩ = some (.int .i64 p3) := by rw [cell_of HBS.out]; rfl
              go_wp2_with fail
              clear kHBA0 kHBA1 kHBA2 kHBB0 kHBB1 kHBB2 kHBX0 kHBX1 kHBX2 kHBY0 kHBY1 kHBY2 kHBZ0 kHBZ1 kHBZ2 kHBS0 kHBS1 kHBS2 kHBS3
              refine ⟨⟨i + 1, by go_num, by omega, by omega, by rw [HST.out]; go_num, Lib.hid HC2.out⟩, ?_⟩
              simp [intOf]; omega
        · obtain rfl : i = aW + 1 := by omega
          have kHBA0 : wr1.cell? ⟨w3.heap.size, 0, none⟩ = some (.int .i64 aW) := by rw [cell_of HBA.out]; rfl
          have kHBA1 : wr1.cell? ⟨w3.heap.size, 1, none⟩ = some (.int .i64 aH) := by rw [cell_of HBA.out]; rfl
          have kHBA2 : wr1.cell? ⟨w3.heap.size, 2, none⟩ = some (.slice Aa al.length ca) := by rw [cell_of HBA.out]; rfl
          go_wp2_with fail
          clear kHBA0 kHBA1 kHBA2
          refine ⟨⟨j + 1, by go_num, by omega, by omega, by rw [← ahead_row (b := (aW, aH, al)) (i := aW + 1) (k := -1) (j := j) (by simp only; omega) (by omega), HNM.out], Lib.hid (HC.out)⟩, ?_⟩
          simp [intOf]; omega
    · obtain rfl : j = aH + 1 := by omega
      have hall : cntD (aW, aH, al) (aheadP (-1) (aH + 1)) = cntD (aW, aH, al) fun _ => true := ahead_all (by simp only; omega)
      rw [hall]
      clear hall
      obtain ⟨CX, hCX⟩ : ∃ k : Nat, cntD (aW, aH, al) (fun _ => true) = k := ⟨_, rfl⟩
      have LCX : CX ≤ 1000 := by rw [← hCX]; exact Nat.le_trans (cntD_len _ _) (by simp only; omega)
      have HCX := Lib.hid hCX
      rw [hCX]
      clear hCX
      have kHBA0 : wr0.cell? ⟨w3.heap.size, 0, none⟩ = some (.int .i64 aW) := by rw [cell_of HBA.out]; rfl
      have kHBA1 : wr0.cell? ⟨w3.heap.size, 1, none⟩ = some (.int .i64 aH) := by rw [cell_of HBA.out]; rfl
      have kHBA2 : wr0.cell? ⟨w3.heap.size, 2, none⟩ = some (.slice Aa al.length ca) := by rw [cell_of HBA.out]; rfl
      have kHBB0 : wr0.cell? ⟨w3.heap.size + 1, 0, none⟩ = some (.int .i64 bW) := by rw [cell_of HBB.out]; rfl
      have kHBB1 : wr0.cell? ⟨w3.heap.size + 1, 1, none⟩ = some (.int .i64 bH) := by rw [cell_of HBB.out]; rfl
      have kHBB2 : wr0.cell? ⟨w3.heap.size + 1, 2, none⟩ = some (.slice Ab bl.length cb) := by rw [cell_of HBB.out]; rfl
      have kHBX0 : wr0.cell? ⟨w9.heap.size, 0, none⟩ = some (.int .i64 aW) := by rw [cell_of HBX.out]; rfl
      have kHBX1 : wr0.cell? ⟨w9.heap.size, 1, none⟩ = some (.int .i64 aH) := by rw [cell_of HBX.out]; rfl
      have kHBX2 : wr0.cell? ⟨w9.heap.size, 2, none⟩ = some (.slice AX xl.length cX) := by rw [cell_of HBX.out]; rfl
      have kHBY0 : wr0.cell? ⟨w11.heap.size, 0, none⟩ = some (.int .i64 m2) := by rw [cell_of HBY.out]; rfl
      have kHBY1 : wr0.cell? ⟨w11.heap.size, 1, none⟩ = some (.int .i64 m3) := by rw [cell_of HBY.out]; rfl
      have kHBY2 : wr0.cell? ⟨w11.heap.size, 2, none⟩ = some (.slice AY yl.length cY) := by rw [cell_of HBY.out]; rfl
      have kHBZ0 : wr0.cell? ⟨w13.heap.size, 0, none⟩ = some (.int .i64 aW) := by rw [cell_of HBZ.out]; rfl
      have kHBZ1 : wr0.cell? ⟨w13.heap.size, 1, none⟩ = some (.int .i64 aH) := by rw [cell_of HBZ.out]; rfl
      have kHBZ2 : wr0.cell? ⟨w13.heap.size, 2, none⟩ = some (.slice AZ zl.length cZ) := by rw [cell_of HBZ.out]; rfl
      have kHBS0 : wr0.cell? ⟨w7.heap.size, 0, none⟩ = some (.int .i64 p0) := by rw [cell_of HBS.out]; rfl
      have kHBS1 : wr0.cell? ⟨w7.heap.size, 1, none⟩ = some (.int .i64 p1) := by rw [cell_of HBS.out]; rfl
      have kHBS2 : wr0.cell? ⟨w7.heap.size, 2, none⟩ = some (.int .i64 p2) := by rw [cell_of HBS.out]; rfl
      have kHBS3 : wr0.cell? ⟨w7.heap.size, 3, none⟩ = some (.int .i64 p3) := by rw [cell_of HBS.out]; rfl
      go_wp2_with fail
      clear kHBA0 kHBA1 kHBA2 kHBB0 kHBB1 kHBB2 kHBX0 kHBX1 kHBX2 kHBY0 kHBY1 kHBY2 kHBZ0 kHBZ1 kHBZ2 kHBS0 kHBS1 kHBS2 kHBS3
      clear HC
      refine wp_named ?_
      intro W31 hW
      have n : Nw wr0 W31 := by rw [hW]; first | exact Ch.refl _ _ | exact (Ch.refl _ _).alloc _ | exact ((Ch.refl _ _).alloc _).alloc _
      replace NX := Lib.hid (NX.out.trans n)
      replace SZ := Nat.lt_of_lt_of_le SZ n.size
      replace HIa := Lib.hid ((HIa.out.kept n nof).hi n.size)
      replace HIb := Lib.hid ((HIb.out.kept n nof).hi n.size)
      replace HBA := Lib.hid (n.heap HBA.out id)
      replace HBB := Lib.hid (n.heap HBB.out id)
      replace HIo := Lib.hid ((HIo.out.kept n nof).hi n.size)
      replace HBO := Lib.hid (n.heap HBO.out id)
      replace HBS := Lib.hid (n.heap HBS.out id)
      replace HIx := Lib.hid ((HIx.out.kept n nof).hi n.size)
      replace HBX := Lib.hid (n.heap HBX.out id)
      replace HIy := Lib.hid ((HIy.out.kept n nof).hi n.size)
      replace HBY := Lib.hid (n.heap HBY.out id)
      replace HIz := Lib.hid ((HIz.out.kept n nof).hi n.size)
      replace HBZ := Lib.hid (n.heap HBZ.out id)
      clear hW n
      go_loopw [20, 21] (fun s20 s21 wr => ∃ (j : Int), s20 = .int .i64 j ∧ 0 ≤ j ∧ j ≤ m3 ∧ Hid (Nw W31 wr)) (fun s20 _ _ => (m3 - intOf s20).toNat)
      case atStart => exact ⟨0, rfl, by omega, by omega, Lib.hid (Ch.refl _ _)⟩
      case round =>
        obtain ⟨j, rfl, hj0, hj1, HC⟩ := hrel
        obtain ⟨wr0, hwr0⟩ : ∃ W : World, W = wr := ⟨_, rfl⟩
        subst hwr0
        replace NX := Lib.hid (NX.out.trans HC.out)
        replace SZ := Nat.lt_of_lt_of_le SZ HC.out.size
        replace HIa := Lib.hid ((HIa.out.kept HC.out nof).hi HC.out.size)
        replace HIb := Lib.hid ((HIb.out.kept HC.out nof).hi HC.out.size)
        replace HBA := Lib.hid (HC.out.heap HBA.out id)
        replace HBB := Lib.hid (HC.out.heap HBB.out id)
        replace HIo := Lib.hid ((HIo.out.kept HC.out nof).hi HC.out.size)
        replace HBO := Lib.hid (HC.out.heap HBO.out id)
        replace HBS := Lib.hid (HC.out.heap HBS.out id)
        replace HIx := Lib.hid ((HIx.out.kept HC.out nof).hi HC.out.size)
        replace HBX := Lib.hid (HC.out.heap HBX.out id)
        replace HIy := Lib.hid ((HIy.out.kept HC.out nof).hi HC.out.size)
        replace HBY := Lib.hid (HC.out.heap HBY.out id)
        replace HIz := Lib.hid ((HIz.out.kept HC.out nof).hi HC.out.size)
        replace HBZ := Lib.hid (HC.out.heap HBZ.out id)
        by_cases hjt : j < m3
        · as_aux_lemma =>
          have kHBY0 : wr0.cell? ⟨w11.heap.size, 0, none⟩ = some (.int .i64 m2) := by rw [cell_of HBY.out]; rfl
          have kHBY1 : wr0.cell? ⟨w11.heap.size, 1, none⟩ = some (.int .i64 m3) := by rw [cell_of HBY.out]; rfl
          have kHBY2 : wr0.cell? ⟨w11.heap.size, 2, none⟩ = some (.slice AY yl.length cY) := by rw [cell_of HBY.out]; rfl
          go_wp2_with fail
          clear kHBY0 kHBY1 kHBY2
          go_loopw [21] (fun s21 wr => ∃ (i : Int), s21 = .int .i64 i ∧ 0 ≤ i ∧ i ≤ m2 ∧ Hid (Nw wr0 wr)) (fun s21 _ => (m2 - intOf s21).toNat)
          case atStart => exact ⟨0, rfl, by omega, by omega, Lib.hid (Ch.refl _ _)⟩
          case round =>
            obtain ⟨i, rfl, hi0, hi1, HC2⟩ := hrel
            obtain ⟨wr1, hwr1⟩ : ∃ W : World, W = wr := ⟨_, rfl⟩
            subst hwr1
            replace NX := Lib.hid (NX.out.trans HC2.out)
            replace SZ := Nat.lt_of_lt_of_le SZ HC2.out.size
            replace HIa := Lib.hid ((HIa.out.kept HC2.out nof).hi HC2.out.size)
            replace HIb := Lib.hid ((HIb.out.kept HC2.out nof).hi HC2.out.size)
            replace HBA := Lib.hid (HC2.out.heap HBA.out id)
            replace HBB := Lib.hid (HC2.out.heap HBB.out id)
            replace HIo := Lib.hid ((HIo.out.kept HC2.out nof).hi HC2.out.size)
            replace HBO := Lib.hid (HC2.out.heap HBO.out id)
            replace HBS := Lib.hid (HC2.out.heap HBS.out id)
            replace HIx := Lib.hid ((HIx.out.kept HC2.out nof).hi HC2.out.size)
            replace HBX := Lib.hid (HC2.out.heap HBX.out id)
            replace HIy := Lib.hid ((HIy.out.kept HC2.out nof).hi HC2.out.size)
            replace HBY := Lib.hid (HC2.out.heap HBY.out id)
            replace HIz := Lib.hid ((HIz.out.kept HC2.out nof).hi HC2.out.size)
            replace HBZ := Lib.hid (HC2.out.heap HBZ.out id)
            replace HC := Lib.hid (HC.out.trans HC2.out)
            by_cases hit : i < m2
            · as_aux_lemma =>
              obtain ⟨vb, hvb⟩ : ∃ v, getB (aW, aH, al) (p0 + i) (p1 + j) = v := ⟨_, rfl⟩
              have HVB := Lib.hid hvb
              have HG := Lib.hid (show getB (m2, m3, yl) i j = vb from by have h := getB_crop (x := p0) (y := p1) (w := m2) (h' := m3) HEA.out (by omega) (by omega) (by omega) (by omega) i j; rw [HCM.out, decide_eq_true (by omega), Bool.true_and, hvb] at h; exact h)
              clear hvb
              have u1 : IntKind.i64.wrap (p0 + i) = p0 + i := by rw [IntKind.wrap_i64]; omega
              have u2 : IntKind.i64.wrap (p1 + j) = p1 + j := by rw [IntKind.wrap_i64]; omega
              have kHBY0 : wr1.cell? ⟨w11.heap.size, 0, none⟩ = some (.int .i64 m2) := by rw [cell_of HBY.out]; rfl
              have kHBY1 : wr1.cell? ⟨w11.heap.size, 1, none⟩ = some (.int .i64 m3) := by rw [cell_of HBY.out]; rfl
              have kHBY2 : wr1.cell? ⟨w11.heap.size, 2, none⟩ = some (.slice AY yl.length cY) := by rw [cell_of HBY.out]; rfl
              go_upto_region 28 with (fail)
              clear kHBY0 kHBY1 kHBY2
              refine wp_named ?_
              intro W32 hW
              have n : Nw wr1 W32 := by rw [hW]; first | exact Ch.refl _ _ | exact (Ch.refl _ _).alloc _
              replace NX := Lib.hid (NX.out.trans n)
              replace SZ := Nat.lt_of_lt_of_le SZ n.size
              replace HIa := Lib.hid ((HIa.out.kept n nof).hi n.size)
              replace HIb := Lib.hid ((HIb.out.kept n nof).hi n.size)
              replace HBA := Lib.hid (n.heap HBA.out id)
              replace HBB := Lib.hid (n.heap HBB.out id)
              replace HIo := Lib.hid ((HIo.out.kept n nof).hi n.size)
              replace HBO := Lib.hid (n.heap HBO.out id)
              replace HBS := Lib.hid (n.heap HBS.out id)
              replace HIx := Lib.hid ((HIx.out.kept n nof).hi n.size)
              replace HBX := Lib.hid (n.heap HBX.out id)
              replace HIy := Lib.hid ((HIy.out.kept n nof).hi n.size)
              replace HBY := Lib.hid (n.heap HBY.out id)
              replace HIz := Lib.hid ((HIz.out.kept n nof).hi n.size)
              replace HBZ := Lib.hid (n.heap HBZ.out id)
              replace HC := Lib.hid (HC.out.trans n)
              replace HC2 := Lib.hid (HC2.out.trans n)
              clear hW n
              refine wp_region_V (F := fun w' => w'.cell? ⟨w11.heap.size, 0, none⟩ = some (.int .i64 m2) ∧ w'.cell? ⟨w11.heap.size, 1, none⟩ = some (.int .i64 m3) ∧ w'.cell? ⟨w11.heap.size, 2, none⟩ = some (.slice AY yl.length cY) ∧ w'.cell? ⟨w3.heap.size, 0, none⟩ = some (.int .i64 aW) ∧ w'.cell? ⟨w3.heap.size, 1, none⟩ = some (.int .i64 aH) ∧ w'.cell? ⟨w3.heap.size, 2, none⟩ = some (.slice Aa al.length ca) ∧ w'.cell? ⟨w7.heap.size, 0, none⟩ = some (.int .i64 p0) ∧ w'.cell? ⟨w7.heap.size, 1, none⟩ = some (.int .i64 p1) ∧ w'.cell? ⟨w7.heap.size, 2, none⟩ = some (.int .i64 p2) ∧ w'.cell? ⟨w7.heap.size, 3, none⟩ = some (.int .i64 p3)) (opsOf Tryd.f6 28) 15 15 (by kernel_rfl) (by kernel_rfl) (by kernel_rfl) (fun w w' h n => ⟨n.cell h.1 id, n.cell h.2.1 id, n.cell h.2.2.1 id, n.cell h.2.2.2.1 id, n.cell h.2.2.2.2.1 id, n.cell h.2.2.2.2.2.1 id, n.cell h.2.2.2.2.2.2.1 id, n.cell h.2.2.2.2.2.2.2.1 id, n.cell h.2.2.2.2.2.2.2.2.1 id, n.cell h.2.2.2.2.2.2.2.2.2 id⟩) ⟨by show W32.cell? _ = _; rw [cell_of HBY.out]; rfl, by show W32.cell? _ = _; rw [cell_of HBY.out]; rfl, by show W32.cell? _ = _; rw [cell_of HBY.out]; rfl, by show W32.cell? _ = _; rw [cell_of HBA.out]; rfl, by show W32.cell? _ = _; rw [cell_of HBA.out]; rfl, by show W32.cell? _ = _; rw [cell_of HBA.out]; rfl, by show W32.cell? _ = _; rw [cell_of HBS.out]; rfl, by show W32.cell? _ = _; rw [cell_of HBS.out]; rfl, by show W32.cell? _ = _; rw [cell_of HBS.out]; rfl, by show W32.cell? _ = _; rw [cell_of HBS.out]; rfl⟩ (fun HOPS HCL hHeld => ?_)
              refine wpU_named ?_
              intro W33 hW
              try rw [← hW] at hHeld
              have n : Nw W32 W33 := by rw [hW]; exact (Ch.refl _ _).drew
              replace NX := Lib.hid (NX.out.trans n)
              replace SZ := Nat.lt_of_lt_of_le SZ n.size
              replace HIa := Lib.hid ((HIa.out.kept n nof).hi n.size)
              replace HIb := Lib.hid ((HIb.out.kept n nof).hi n.size)
              replace HBA := Lib.hid (n.heap HBA.out id)
              replace HBB := Lib.hid (n.heap HBB.out id)
              replace HIo := Lib.hid ((HIo.out.kept n nof).hi n.size)
              replace HBO := Lib.hid (n.heap HBO.out id)
              replace HBS := Lib.hid (n.heap HBS.out id)
              replace HIx := Lib.hid ((HIx.out.kept n nof).hi n.size)
              replace HBX := Lib.hid (n.heap HBX.out id)
              replace HIy := Lib.hid ((HIy.out.kept n nof).hi n.size)
              replace HBY := Lib.hid (n.heap HBY.out id)
              replace HIz := Lib.hid ((HIz.out.kept n nof).hi n.size)
              replace HBZ := Lib.hid (n.heap HBZ.out id)
              replace HC := Lib.hid (HC.out.trans n)
              replace HC2 := Lib.hid (HC2.out.trans n)
              clear hW n
              first | (refine wpU_takeB (i := 0) (v := ?_) HOPS rfl (by kernel_rfl) (fun _ _ _ h => h) HCL (goes_read (by rfl) ?hy) ?_; case hy => (intro w hSw; (try dsimp only at hSw); go_simp; (try with_reducible rfl))) | (refine wpU_takeB (i := 0) (v := _) HOPS rfl (by kernel_rfl) (fun _ _ _ h => h) HCL (goes_not (by rfl)) ?_)
              try simp only [Act.put, List.getElem_toArray, List.getElem_cons_succ, List.getElem_cons_zero, List.setIfInBounds_toArray, List.set_cons_zero, List.set_cons_succ]
              first | (refine wpU_takeB (i := 1) (v := ?_) HOPS rfl (by kernel_rfl) (fun _ _ _ h => h) HCL (goes_read (by rfl) ?hy) ?_; case hy => (intro w hSw; (try dsimp only at hSw); go_simp; (try with_reducible rfl))) | (refine wpU_takeB (i := 1) (v := _) HOPS rfl (by kernel_rfl) (fun _ _ _ h => h) HCL (goes_not (by rfl)) ?_)
              try simp only [Act.put, List.getElem_toArray, List.getElem_cons_succ, List.getElem_cons_zero, List.setIfInBounds_toArray, List.set_cons_zero, List.set_cons_succ]
              first | (refine wpU_takeB (i := 2) (v := ?_) HOPS rfl (by kernel_rfl) (fun _ _ _ h => h) HCL (goes_read (by rfl) ?hy) ?_; case hy => (intro w hSw; (try dsimp only at hSw); go_simp; (try with_reducible rfl))) | (refine wpU_takeB (i := 2) (v := _) HOPS rfl (by kernel_rfl) (fun _ _ _ h => h) HCL (goes_not (by rfl)) ?_)
              try simp only [Act.put, List.getElem_toArray, List.getElem_cons_succ, List.getElem_cons_zero, List.setIfInBounds_toArray, List.set_cons_zero, List.set_cons_succ]
              first | (refine wpU_takeB (i := 4) (v := ?_) HOPS rfl (by kernel_rfl) (fun _ _ _ h => h) HCL (goes_read (by rfl) ?hy) ?_; case hy => (intro w hSw; (try dsimp only at hSw); go_simp; (try with_reducible rfl))) | (refine wpU_takeB (i := 4) (v := _) HOPS rfl (by kernel_rfl) (fun _ _ _ h => h) HCL (goes_not (by rfl)) ?_)
              try simp only [Act.put, List.getElem_toArray, List.getElem_cons_succ, List.getElem_cons_zero, List.setIfInBounds_toArray, List.set_cons_zero, List.set_cons_succ]
              first | (refine wpU_takeB (i := 5) (v := ?_) HOPS rfl (by kernel_rfl) (fun _ _ _ h => h) HCL (goes_read (by rfl) ?hy) ?_; case hy => (intro w hSw; (try dsimp only at hSw); go_simp; (try with_reducible rfl))) | (refine wpU_takeB (i := 5) (v := _) HOPS rfl (by kernel_rfl) (fun _ _ _ h => h) HCL (goes_not (by rfl)) ?_)
              try simp only [Act.put, List.getElem_toArray, List.getElem_cons_succ, List.getElem_cons_zero, List.setIfInBounds_toArray, List.set_cons_zero, List.set_cons_succ]
              first | (refine wpU_takeB (i := 6) (v := ?_) HOPS rfl (by kernel_rfl) (fun _ _ _ h => h) HCL (goes_read (by rfl) ?hy) ?_; case hy => (intro w hSw; (try dsimp only at hSw); go_simp; (try with_reducible rfl))) | (refine wpU_takeB (i := 6) (v := _) HOPS rfl (by kernel_rfl) (fun _ _ _ h => h) HCL (goes_not (by rfl)) ?_)
              try simp only [Act.put, List.getElem_toArray, List.getElem_cons_succ, List.getElem_cons_zero, List.setIfInBounds_toArray, List.set_cons_zero, List.set_cons_succ]
              first | (refine wpU_takeB (i := 7) (v := ?_) HOPS rfl (by kernel_rfl) (fun _ _ _ h => h) HCL (goes_read (by rfl) ?hy) ?_; case hy => (intro w hSw; (try dsimp only at hSw); go_simp; (try with_reducible rfl))) | (refine wpU_takeB (i := 7) (v := _) HOPS rfl (by kernel_rfl) (fun _ _ _ h => h) HCL (goes_not (by rfl)) ?_)
              try simp only [Act.put, List.getElem_toArray, List.getElem_cons_succ, List.getElem_cons_zero, List.setIfInBounds_toArray, List.set_cons_zero, List.set_cons_succ]
              first | (refine wpU_takeB (i := 8) (v := ?_) HOPS rfl (by kernel_rfl) (fun _ _ _ h => h) HCL (goes_read (by rfl) ?hy) ?_; case hy => (intro w hSw; (try dsimp only at hSw); go_simp; (try with_reducible rfl))) | (refine wpU_takeB (i := 8) (v := _) HOPS rfl (by kernel_rfl) (fun _ _ _ h => h) HCL (goes_not (by rfl)) ?_)
              try simp only [Act.put, List.getElem_toArray, List.getElem_cons_succ, List.getElem_cons_zero, List.setIfInBounds_toArray, List.set_cons_zero, List.set_cons_succ]
              first | (refine wpU_takeB (i := 9) (v := ?_) HOPS rfl (by kernel_rfl) (fun _ _ _ h => h) HCL (goes_read (by rfl) ?hy) ?_; case hy => (intro w hSw; (try dsimp only at hSw); go_simp; (try with_reducible rfl))) | (refine wpU_takeB (i := 9) (v := _) HOPS rfl (by kernel_rfl) (fun _ _ _ h => h) HCL (goes_not (by rfl)) ?_)
              try simp only [Act.put, List.getElem_toArray, List.getElem_cons_succ, List.getElem_cons_zero, List.setIfInBounds_toArray, List.set_cons_zero, List.set_cons_succ]
              first | (refine wpU_takeB (i := 10) (v := ?_) HOPS rfl (by kernel_rfl) (fun _ _ _ h => h) HCL (goes_read (by rfl) ?hy) ?_; case hy => (intro w hSw; (try dsimp only at hSw); go_simp; (try with_reducible rfl))) | (refine wpU_takeB (i := 10) (v := _) HOPS rfl (by kernel_rfl) (fun _ _ _ h => h) HCL (goes_not (by rfl)) ?_)
              try simp only [Act.put, List.getElem_toArray, List.getElem_cons_succ, List.getElem_cons_zero, List.setIfInBounds_toArray, List.set_cons_zero, List.set_cons_succ]
              first | (refine wpU_takeB (i := 11) (v := ?_) HOPS rfl (by kernel_rfl) (fun _ _ _ h => h) HCL (goes_read (by rfl) ?hy) ?_; case hy => (intro w hSw; (try dsimp only at hSw); go_simp; (try with_reducible rfl))) | (refine wpU_takeB (i := 11) (v := _) HOPS rfl (by kernel_rfl) (fun _ _ _ h => h) HCL (goes_not (by rfl)) ?_)
              try simp only [Act.put, List.getElem_toArray, List.getElem_cons_succ, List.getElem_cons_zero, List.setIfInBounds_toArray, List.set_cons_zero, List.set_cons_succ]
              first | (refine wpU_takeB (i := 12) (v := ?_) HOPS rfl (by kernel_rfl) (fun _ _ _ h => h) HCL (goes_read (by rfl) ?hy) ?_; case hy => (intro w hSw; (try dsimp only at hSw); go_simp; (try with_reducible rfl))) | (refine wpU_takeB (i := 12) (v := _) HOPS rfl (by kernel_rfl) (fun _ _ _ h => h) HCL (goes_not (by rfl)) ?_)
              try simp only [Act.put, List.getElem_toArray, List.getElem_cons_succ, List.getElem_cons_zero, List.setIfInBounds_toArray, List.set_cons_zero, List.set_cons_succ]
              refine wpU_takeB (i := 3) HOPS rfl (by kernel_rfl) (fun _ _ _ h => h) HCL (goes_fn (v := (.bool vb)) 29 _ _ _ #[(.agg #[.int .i64 m2, .int .i64 m3, .slice AY yl.length cY]), .int .i64 i, .int .i64 j] (by rfl) rfl (by kernel_rfl) (by kernel_rfl) (by kernel_rfl) (fun wq n R hR => ?_)) ?_
              · exact Get_any _ _ (m2, m3, yl) i j _ _ (HIy.out.kept n nof) (by rw [HG.out]; exact hR)
              try simp only [Act.put, List.getElem_toArray, List.getElem_cons_succ, List.getElem_cons_zero, List.setIfInBounds_toArray, List.set_cons_zero, List.set_cons_succ]
              refine wpU_takeB (i := 13) HOPS rfl (by kernel_rfl) (fun _ _ _ h => h) HCL (goes_fn (v := (.bool vb)) 29 _ _ _ #[(.agg #[.int .i64 aW, .int .i64 aH, .slice Aa al.length ca]), .int .i64 (p0 + i), .int .i64 (p1 + j)] (by rfl) rfl (by kernel_rfl) (by kernel_rfl) (by kernel_rfl) (fun wq n R hR => ?_)) ?_
              · exact Get_any _ _ (aW, aH, al) (p0 + i) (p1 + j) _ _ (HIa.out.kept n nof) (by rw [HVB.out]; exact hR)
              try simp only [Act.put, List.getElem_toArray, List.getElem_cons_succ, List.getElem_cons_zero, List.setIfInBounds_toArray, List.set_cons_zero, List.set_cons_succ]
              first | (refine wpU_takeB (i := 14) (v := ?_) HOPS rfl (by kernel_rfl) (fun _ _ _ h => h) HCL (goes_read (by rfl) ?hy) ?_; case hy => (intro w hSw; (try dsimp only at hSw); go_simp; (try with_reducible rfl))) | (refine wpU_takeB (i := 14) (v := _) HOPS rfl (by kernel_rfl) (fun _ _ _ h => h) HCL (goes_not (by rfl)) ?_)
              try simp only [Act.put, List.getElem_toArray, List.getElem_cons_succ, List.getElem_cons_zero, List.setIfInBounds_toArray, List.set_cons_zero, List.set_cons_succ]
              refine wpU_done (by kernel_rfl) (fun w34 hle => ?_) _
              have n := (hle.ahead (by kernel_rfl)).1
              replace NX := Lib.hid (NX.out.trans n)
              replace SZ := Nat.lt_of_lt_of_le SZ n.size
              replace HIa := Lib.hid ((HIa.out.kept n nof).hi n.size)
              replace HIb := Lib.hid ((HIb.out.kept n nof).hi n.size)
              replace HBA := Lib.hid (n.heap HBA.out id)
              replace HBB := Lib.hid (n.heap HBB.out id)
              replace HIo := Lib.hid ((HIo.out.kept n nof).hi n.size)
              replace HBO := Lib.hid (n.heap HBO.out id)
              replace HBS := Lib.hid (n.heap HBS.out id)
              replace HIx := Lib.hid ((HIx.out.kept n nof).hi n.size)
              replace HBX := Lib.hid (n.heap HBX.out id)
              replace HIy := Lib.hid ((HIy.out.kept n nof).hi n.size)
              replace HBY := Lib.hid (n.heap HBY.out id)
              replace HIz := Lib.hid ((HIz.out.kept n nof).hi n.size)
              replace HBZ := Lib.hid (n.heap HBZ.out id)
              replace HC := Lib.hid (HC.out.trans n)
              replace HC2 := Lib.hid (HC2.out.trans n)
              clear n
              clear HOPS HCL hle
              repeat clear hHeld
              go_wp2_with fail
              refine ⟨⟨i + 1, by go_num, by omega, by omega, Lib.hid HC2.out⟩, ?_⟩
              simp [intOf]; omega
            · have hie : i ≤ m2 := hi1
              have kHBY0 : wr1.cell? ⟨w11.heap.size, 0, none⟩ = some (.int .i64 m2) := by rw [cell_of HBY.out]; rfl
              have kHBY1 : wr1.cell? ⟨w11.heap.size, 1, none⟩ = some (.int .i64 m3) := by rw [cell_of HBY.out]; rfl
              have kHBY2 : wr1.cell? ⟨w11.heap.size, 2, none⟩ = some (.slice AY yl.length cY) := by rw [cell_of HBY.out]; rfl
              go_wp2_with fail
              clear kHBY0 kHBY1 kHBY2
              refine ⟨⟨j + 1, by go_num, by omega, by omega, Lib.hid HC.out⟩, ?_⟩
              simp [intOf]; omega
        · have hje : j ≤ m3 := hj1
          obtain ⟨CP, hCP⟩ : ∃ k : Nat, cntD (aW, aH, xl) (fun _ => true) = k := ⟨_, rfl⟩
          have LCP : CP ≤ 10000 := by rw [← hCP]; exact Nat.le_trans (cntD_len _ _) (by simp only; omega)
          have HCP := Lib.hid hCP
          clear hCP
          obtain ⟨CY, hCY⟩ : ∃ k : Nat, cntD (bW, bH, bl) (fun _ => true) = k := ⟨_, rfl⟩
          have LCY : CY ≤ 10000 := by rw [← hCY]; exact Nat.le_trans (cntD_len _ _) (by simp only; omega)
          have HCY := Lib.hid hCY
          clear hCY
          have f1 : CP ≤ CX + CY := by rw [← HCP.out, ← HCX.out, ← HCY.out, ← HPM.out]; exact paste_count HEA.out (by omega) (by omega)
          have HCZ := Lib.hid (show cntD (aW, aH, zl) (fun _ => true) = 0 from cntD_none fun d hd => by rw [HN5.out] at hd; cases hd)
          have u1 : IntKind.i64.wrap ((CX : Int) + CY) = (CX : Int) + CY := by rw [IntKind.wrap_i64]; omega
          have u2 : decide ((CP : Int) ≤ (CX : Int) + CY) = true := decide_eq_true (by omega)
          clear f1
          have kHBY0 : wr0.cell? ⟨w11.heap.size, 0, none⟩ = some (.int .i64 m2) := by rw [cell_of HBY.out]; rfl
          have kHBY1 : wr0.cell? ⟨w11.heap.size, 1, none⟩ = some (.int .i64 m3) := by rw [cell_of HBY.out]; rfl
          have kHBY2 : wr0.cell? ⟨w11.heap.size, 2, none⟩ = some (.slice AY yl.length cY) := by rw [cell_of HBY.out]; rfl
          go_upto_region 30 with (fail)
          clear kHBY0 kHBY1 kHBY2
          refine wp_named ?_
          intro W35 hW
          have n : Nw wr0 W35 := by rw [hW]; first | exact Ch.refl _ _ | exact (Ch.refl _ _).alloc _
          replace NX := Lib.hid (NX.out.trans n)
          replace SZ := Nat.lt_of_lt_of_le SZ n.size
          replace HIa := Lib.hid ((HIa.out.kept n nof).hi n.size)
          replace HIb := Lib.hid ((HIb.out.kept n nof).hi n.size)
          replace HBA := Lib.hid (n.heap HBA.out id)
          replace HBB := Lib.hid (n.heap HBB.out id)
          replace HIo := Lib.hid ((HIo.out.kept n nof).hi n.size)
          replace HBO := Lib.hid (n.heap HBO.out id)
          replace HBS := Lib.hid (n.heap HBS.out id)
          replace HIx := Lib.hid ((HIx.out.kept n nof).hi n.size)
          replace HBX := Lib.hid (n.heap HBX.out id)
          replace HIy := Lib.hid ((HIy.out.kept n nof).hi n.size)
          replace HBY := Lib.hid (n.heap HBY.out id)
          replace HIz := Lib.hid ((HIz.out.kept n nof).hi n.size)
          replace HBZ := Lib.hid (n.heap HBZ.out id)
          replace HC := Lib.hid (HC.out.trans n)
          clear hW n
          refine wp_region_V (F := fun w' => w'.cell? ⟨w3.heap.size, 0, none⟩ = some (.int .i64 aW) ∧ w'.cell? ⟨w3.heap.size, 1, none⟩ = some (.int .i64 aH) ∧ w'.cell? ⟨w3.heap.size, 2, none⟩ = some (.slice Aa al.length ca) ∧ w'.cell? ⟨w3.heap.size + 1, 0, none⟩ = some (.int .i64 bW) ∧ w'.cell? ⟨w3.heap.size + 1, 1, none⟩ = some (.int .i64 bH) ∧ w'.cell? ⟨w3.heap.size + 1, 2, none⟩ = some (.slice Ab bl.length cb) ∧ w'.cell? ⟨w9.heap.size, 0, none⟩ = some (.int .i64 aW) ∧ w'.cell? ⟨w9.heap.size, 1, none⟩ = some (.int .i64 aH) ∧ w'.cell? ⟨w9.heap.size, 2, none⟩ = some (.slice AX xl.length cX) ∧ w'.cell? ⟨w13.heap.size, 0, none⟩ = some (.int .i64 aW) ∧ w'.cell? ⟨w13.heap.size, 1, none⟩ = some (.int .i64 aH) ∧ w'.cell? ⟨w13.heap.size, 2, none⟩ = some (.slice AZ zl.length cZ) ∧ w'.cell? ⟨w5.heap.size, 0, none⟩ = some (.int .i64 aW) ∧ w'.cell? ⟨w5.heap.size, 1, none⟩ = some (.int .i64 aH) ∧ w'.cell? ⟨w5.heap.size, 2, none⟩ = some (.slice A2 al.length c2)) (opsOf Tryd.f6 30) 32 32 (by kernel_rfl) (by kernel_rfl) (by kernel_rfl) (fun w w' h n => ⟨n.cell h.1 id, n.cell h.2.1 id, n.cell h.2.2.1 id, n.cell h.2.2.2.1 id, n.cell h.2.2.2.2.1 id, n.cell h.2.2.2.2.2.1 id, n.cell h.2.2.2.2.2.2.1 id, n.cell h.2.2.2.2.2.2.2.1 id, n.cell h.2.2.2.2.2.2.2.2.1 id, n.cell h.2.2.2.2.2.2.2.2.2.1 id, n.cell h.2.2.2.2.2.2.2.2.2.2.1 id, n.cell h.2.2.2.2.2.2.2.2.2.2.2.1 id, n.cell h.2.2.2.2.2.2.2.2.2.2.2.2.1 id, n.cell h.2.2.2.2.2.2.2.2.2.2.2.2.2.1 id, n.cell h.2.2.2.2.2.2.2.2.2.2.2.2.2.2 id⟩) ⟨by show W35.cell? _ = _; rw [cell_of HBA.out]; rfl, by show W35.cell? _ = _; rw [cell_of HBA.out]; rfl, by show W35.cell? _ = _; rw [cell_of HBA.out]; rfl, by show W35.cell? _ = _; rw [cell_of HBB.out]; rfl, by show W35.cell? _ = _; rw [cell_of HBB.out]; rfl, by show W35.cell? _ = _; rw [cell_of HBB.out]; rfl, by show W35.cell? _ = _; rw [cell_of HBX.out]; rfl, by show W35.cell? _ = _; rw [cell_of HBX.out]; rfl, by show W35.cell? _ = _; rw [cell_of HBX.out]; rfl, by show W35.cell? _ = _; rw [cell_of HBZ.out]; rfl, by show W35.cell? _ = _; rw [cell_of HBZ.out]; rfl, by show W35.cell? _ = _; rw [cell_of HBZ.out]; rfl, by show W35.cell? _ = _; rw [cell_of HBO.out]; rfl, by show W35.cell? _ = _; rw [cell_of HBO.out]; rfl, by show W35.cell? _ = _; rw [cell_of HBO.out]; rfl⟩ (fun HOPS HCL hHeld => ?_)
          refine wpU_named ?_
          intro W36 hW
          try rw [← hW] at hHeld
          have n : Nw W35 W36 := by rw [hW]; exact (Ch.refl _ _).drew
          replace NX := Lib.hid (NX.out.trans n)
          replace SZ := Nat.lt_of_lt_of_le SZ n.size
          replace HIa := Lib.hid ((HIa.out.kept n nof).hi n.size)
          replace HIb := Lib.hid ((HIb.out.kept n nof).hi n.size)
          replace HBA := Lib.hid (n.heap HBA.out id)
          replace HBB := Lib.hid (n.heap HBB.out id)
          replace HIo := Lib.hid ((HIo.out.kept n nof).hi n.size)
          replace HBO := Lib.hid (n.heap HBO.out id)
          replace HBS := Lib.hid (n.heap HBS.out id)
          replace HIx := Lib.hid ((HIx.out.kept n nof).hi n.size)
          replace HBX := Lib.hid (n.heap HBX.out id)
          replace HIy := Lib.hid ((HIy.out.kept n nof).hi n.size)
          replace HBY := Lib.hid (n.heap HBY.out id)
          replace HIz := Lib.hid ((HIz.out.kept n nof).hi n.size)
          replace HBZ := Lib.hid (n.heap HBZ.out id)
          replace HC := Lib.hid (HC.out.trans n)
          clear hW n
          first | (refine wpU_takeB (i := 0) (v := ?_) HOPS rfl (by kernel_rfl) (fun _ _ _ h => h) HCL (goes_read (by rfl) ?hy) ?_; case hy => (intro w hSw; (try dsimp only at hSw); go_simp; (try with_reducible rfl))) | (refine wpU_takeB (i := 0) (v := _) HOPS rfl (by kernel_rfl) (fun _ _ _ h => h) HCL (goes_not (by rfl)) ?_)
          try simp only [Act.put, List.getElem_toArray, List.getElem_cons_succ, List.getElem_cons_zero, List.setIfInBounds_toArray, List.set_cons_zero, List.set_cons_succ]
          first | (refine wpU_takeB (i := 1) (v := ?_) HOPS rfl (by kernel_rfl) (fun _ _ _ h => h) HCL (goes_read (by rfl) ?hy) ?_; case hy => (intro w hSw; (try dsimp only at hSw); go_simp; (try with_reducible rfl))) | (refine wpU_takeB (i := 1) (v := _) HOPS rfl (by kernel_rfl) (fun _ _ _ h => h) HCL (goes_not (by rfl)) ?_)
          try simp only [Act.put, List.getElem_toArray, List.getElem_cons_succ, List.getElem_cons_zero, List.setIfInBounds_toArray, List.set_cons_zero, List.set_cons_succ]
          first | (refine wpU_takeB (i := 2) (v := ?_) HOPS rfl (by kernel_rfl) (fun _ _ _ h => h) HCL (goes_read (by rfl) ?hy) ?_; case hy => (intro w hSw; (try dsimp only at hSw); go_simp; (try with_reducible rfl))) | (refine wpU_takeB (i := 2) (v := _) HOPS rfl (by kernel_rfl) (fun _ _ _ h => h) HCL (goes_not (by rfl)) ?_)
          try simp only [Act.put, List.getElem_toArray, List.getElem_cons_succ, List.getElem_cons_zero, List.setIfInBounds_toArray, List.set_cons_zero, List.set_cons_succ]
          first | (refine wpU_takeB (i := 4) (v := ?_) HOPS rfl (by kernel_rfl) (fun _ _ _ h => h) HCL (goes_read (by rfl) ?hy) ?_; case hy => (intro w hSw; (try dsimp only at hSw); go_simp; (try with_reducible rfl))) | (refine wpU_takeB (i := 4) (v := _) HOPS rfl (by kernel_rfl) (fun _ _ _ h => h) HCL (goes_not (by rfl)) ?_)
          try simp only [Act.put, List.getElem_toArray, List.getElem_cons_succ, List.getElem_cons_zero, List.setIfInBounds_toArray, List.set_cons_zero, List.set_cons_succ]
          refine wpU_takeB (i := 3) HOPS rfl (by kernel_rfl) (fun _ _ _ h => h) HCL (goes_fn (v := (.int .i64 (CX : Int))) 19 _ _ _ #[(.agg #[.int .i64 aW, .int .i64 aH, .slice Aa al.length ca])] (by rfl) rfl (by kernel_rfl) (by kernel_rfl) (by kernel_rfl) (fun wq n R hR => ?_)) ?_
          · exact Count_any W36.heap.size _ (aW, aH, al) _ _ (HIa.out.kept n nof) n.size (by show _ ≤ 1000000000; simp only; omega) (by rw [HCX.out]; exact hR)
          try simp only [Act.put, List.getElem_toArray, List.getElem_cons_succ, List.getElem_cons_zero, List.setIfInBounds_toArray, List.set_cons_zero, List.set_cons_succ]
          first | (refine wpU_takeB (i := 5) (v := ?_) HOPS rfl (by kernel_rfl) (fun _ _ _ h => h) HCL (goes_read (by rfl) ?hy) ?_; case hy => (intro w hSw; (try dsimp only at hSw); go_simp; (try with_reducible rfl))) | (refine wpU_takeB (i := 5) (v := _) HOPS rfl (by kernel_rfl) (fun _ _ _ h => h) HCL (goes_not (by rfl)) ?_)
          try simp only [Act.put, List.getElem_toArray, List.getElem_cons_succ, List.getElem_cons_zero, List.setIfInBounds_toArray, List.set_cons_zero, List.set_cons_succ]
          first | (refine wpU_takeB (i := 6) (v := ?_) HOPS rfl (by kernel_rfl) (fun _ _ _ h => h) HCL (goes_read (by rfl) ?hy) ?_; case hy => (intro w hSw; (try dsimp only at hSw); go_simp; (try with_reducible rfl))) | (refine wpU_takeB (i := 6) (v := _) HOPS rfl (by kernel_rfl) (fun _ _ _ h => h) HCL (goes_not (by rfl)) ?_)
          try simp only [Act.put, List.getElem_toArray, List.getElem_cons_succ, List.getElem_cons_zero, List.setIfInBounds_toArray, List.set_cons_zero, List.set_cons_succ]
          first | (refine wpU_takeB (i := 7) (v := ?_) HOPS rfl (by kernel_rfl) (fun _ _ _ h => h) HCL (goes_read (by rfl) ?hy) ?_; case hy => (intro w hSw; (try dsimp only at hSw); go_simp; (try with_reducible rfl))) | (refine wpU_takeB (i := 7) (v := _) HOPS rfl (by kernel_rfl) (fun _ _ _ h => h) HCL (goes_not (by rfl)) ?_)
          try simp only [Act.put, List.getElem_toArray, List.getElem_cons_succ, List.getElem_cons_zero, List.setIfInBounds_toArray, List.set_cons_zero, List.set_cons_succ]
          first | (refine wpU_takeB (i := 8) (v := ?_) HOPS rfl (by kernel_rfl) (fun _ _ _ h => h) HCL (goes_read (by rfl) ?hy) ?_; case hy => (intro w hSw; (try dsimp only at hSw); go_simp; (try with_reducible rfl))) | (refine wpU_takeB (i := 8) (v := _) HOPS rfl (by kernel_rfl) (fun _ _ _ h => h) HCL (goes_not (by rfl)) ?_)
          try simp only [Act.put, List.getElem_toArray, List.getElem_cons_succ, List.getElem_cons_zero, List.setIfInBounds_toArray, List.set_cons_zero, List.set_cons_succ]
          first | (refine wpU_takeB (i := 10) (v := ?_) HOPS rfl (by kernel_rfl) (fun _ _ _ h => h) HCL (goes_read (by rfl) ?hy) ?_; case hy => (intro w hSw; (try dsimp only at hSw); go_simp; (try with_reducible rfl))) | (refine wpU_takeB (i := 10) (v := _) HOPS rfl (by kernel_rfl) (fun _ _ _ h => h) HCL (goes_not (by rfl)) ?_)
          try simp only [Act.put, List.getElem_toArray, List.getElem_cons_succ, List.getElem_cons_zero, List.setIfInBounds_toArray, List.set_cons_zero, List.set_cons_succ]
          first | (refine wpU_takeB (i := 11) (v := ?_) HOPS rfl (by kernel_rfl) (fun _ _ _ h => h) HCL (goes_read (by rfl) ?hy) ?_; case hy => (intro w hSw; (try dsimp only at hSw); go_simp; (try with_reducible rfl))) | (refine wpU_takeB (i := 11) (v := _) HOPS rfl (by kernel_rfl) (fun _ _ _ h => h) HCL (goes_not (by rfl)) ?_)
          try simp only [Act.put, List.getElem_toArray, List.getElem_cons_succ, List.getElem_cons_zero, List.setIfInBounds_toArray, List.set_cons_zero, List.set_cons_succ]
          refine wpU_takeB (i := 9) HOPS rfl (by kernel_rfl) (fun _ _ _ h => h) HCL (goes_fn (v := (.int .i64 (CP : Int))) 19 _ _ _ #[(.agg #[.int .i64 aW, .int .i64 aH, .slice AX xl.length cX])] (by rfl) rfl (by kernel_rfl) (by kernel_rfl) (by kernel_rfl) (fun wq n R hR => ?_)) ?_
          · exact Count_any W36.heap.size _ (aW, aH, xl) _ _ (HIx.out.kept n nof) n.size (by show _ ≤ 1000000000; simp only; omega) (by rw [HCP.out]; exact hR)
          try simp only [Act.put, List.getElem_toArray, List.getElem_cons_succ, List.getElem_cons_zero, List.setIfInBounds_toArray, List.set_cons_zero, List.set_cons_succ]
          refine wpU_takeB (i := 12) HOPS rfl (by kernel_rfl) (fun _ _ _ h => h) HCL (goes_fn (v := (.int .i64 (CY : Int))) 19 _ _ _ #[(.agg #[.int .i64 bW, .int .i64 bH, .slice Ab bl.length cb])] (by rfl) rfl (by kernel_rfl) (by kernel_rfl) (by kernel_rfl) (fun wq n R hR => ?_)) ?_
          · exact Count_any W36.heap.size _ (bW, bH, bl) _ _ (HIb.out.kept n nof) n.size (by show _ ≤ 1000000000; simp only; omega) (by rw [HCY.out]; exact hR)
          try simp only [Act.put, List.getElem_toArray, List.getElem_cons_succ, List.getElem_cons_zero, List.setIfInBounds_toArray, List.set_cons_zero, List.set_cons_succ]
          first | (refine wpU_takeB (i := 13) (v := ?_) HOPS rfl (by kernel_rfl) (fun _ _ _ h => h) HCL (goes_read (by rfl) ?hy) ?_; case hy => (intro w hSw; (try dsimp only at hSw); go_simp; (try with_reducible rfl))) | (refine wpU_takeB (i := 13) (v := _) HOPS rfl (by kernel_rfl) (fun _ _ _ h => h) HCL (goes_not (by rfl)) ?_)
          try simp only [Act.put, List.getElem_toArray, List.getElem_cons_succ, List.getElem_cons_zero, List.setIfInBounds_toArray, List.set_cons_zero, List.set_cons_succ]
          first | (refine wpU_takeB (i := 14) (v := ?_) HOPS rfl (by kernel_rfl) (fun _ _ _ h => h) HCL (goes_read (by rfl) ?hy) ?_; case hy => (intro w hSw; (try dsimp only at hSw); go_simp; (try with_reducible rfl))) | (refine wpU_takeB (i := 14) (v := _) HOPS rfl (by kernel_rfl) (fun _ _ _ h => h) HCL (goes_not (by rfl)) ?_)
          try simp only [Act.put, List.getElem_toArray, List.getElem_cons_succ, List.getElem_cons_zero, List.setIfInBounds_toArray, List.set_cons_zero, List.set_cons_succ]
          first | (refine wpU_takeB (i := 15) (v := ?_) HOPS rfl (by kernel_rfl) (fun _ _ _ h => h) HCL (goes_read (by rfl) ?hy) ?_; case hy => (intro w hSw; (try dsimp only at hSw); go_simp; (try with_reducible rfl))) | (refine wpU_takeB (i := 15) (v := _) HOPS rfl (by kernel_rfl) (fun _ _ _ h => h) HCL (goes_not (by rfl)) ?_)
          try simp only [Act.put, List.getElem_toArray, List.getElem_cons_succ, List.getElem_cons_zero, List.setIfInBounds_toArray, List.set_cons_zero, List.set_cons_succ]
          first | (refine wpU_takeB (i := 16) (v := ?_) HOPS rfl (by kernel_rfl) (fun _ _ _ h => h) HCL (goes_read (by rfl) ?hy) ?_; case hy => (intro w hSw; (try dsimp only at hSw); go_simp; (try with_reducible rfl))) | (refine wpU_takeB (i := 16) (v := _) HOPS rfl (by kernel_rfl) (fun _ _ _ h => h) HCL (goes_not (by rfl)) ?_)
          try simp only [Act.put, List.getElem_toArray, List.getElem_cons_succ, List.getElem_cons_zero, List.setIfInBounds_toArray, List.set_cons_zero, List.set_cons_succ]
          first | (refine wpU_takeB (i := 17) (v := ?_) HOPS rfl (by kernel_rfl) (fun _ _ _ h => h) HCL (goes_read (by rfl) ?hy) ?_; case hy => (intro w hSw; (try dsimp only at hSw); go_simp; (try with_reducible rfl))) | (refine wpU_takeB (i := 17) (v := _) HOPS rfl (by kernel_rfl) (fun _ _ _ h => h) HCL (goes_not (by rfl)) ?_)
          try simp only [Act.put, List.getElem_toArray, List.getElem_cons_succ, List.getElem_cons_zero, List.setIfInBounds_toArray, List.set_cons_zero, List.set_cons_succ]
          refine wpU_takeB (i := 18) HOPS rfl (by kernel_rfl) (fun _ _ _ h => h) HCL (goes_fn (v := (.int .i64 0)) 19 _ _ _ #[(.agg #[.int .i64 aW, .int .i64 aH, .slice AZ zl.length cZ])] (by rfl) rfl (by kernel_rfl) (by kernel_rfl) (by kernel_rfl) (fun wq n R hR => ?_)) ?_
          · exact Count_any W36.heap.size _ (aW, aH, zl) _ _ (HIz.out.kept n nof) n.size (by show _ ≤ 1000000000; simp only; omega) (by rw [HCZ.out]; exact hR)
          try simp only [Act.put, List.getElem_toArray, List.getElem_cons_succ, List.getElem_cons_zero, List.setIfInBounds_toArray, List.set_cons_zero, List.set_cons_succ]
          first | (refine wpU_takeB (i := 19) (v := ?_) HOPS rfl (by kernel_rfl) (fun _ _ _ h => h) HCL (goes_read (by rfl) ?hy) ?_; case hy => (intro w hSw; (try dsimp only at hSw); go_simp; (try with_reducible rfl))) | (refine wpU_takeB (i := 19) (v := _) HOPS rfl (by kernel_rfl) (fun _ _ _ h => h) HCL (goes_not (by rfl)) ?_)
          try simp only [Act.put, List.getElem_toArray, List.getElem_cons_succ, List.getElem_cons_zero, List.setIfInBounds_toArray, List.set_cons_zero, List.set_cons_succ]
          first | (refine wpU_takeB (i := 20) (v := ?_) HOPS rfl (by kernel_rfl) (fun _ _ _ h => h) HCL (goes_read (by rfl) ?hy) ?_; case hy => (intro w hSw; (try dsimp only at hSw); go_simp; (try with_reducible rfl))) | (refine wpU_takeB (i := 20) (v := _) HOPS rfl (by kernel_rfl) (fun _ _ _ h => h) HCL (goes_not (by rfl)) ?_)
          try simp only [Act.put, List.getElem_toArray, List.getElem_cons_succ, List.getElem_cons_zero, List.setIfInBounds_toArray, List.set_cons_zero, List.set_cons_succ]
          first | (refine wpU_takeB (i := 21) (v := ?_) HOPS rfl (by kernel_rfl) (fun _ _ _ h => h) HCL (goes_read (by rfl) ?hy) ?_; case hy => (intro w hSw; (try dsimp only at hSw); go_simp; (try with_reducible rfl))) | (refine wpU_takeB (i := 21) (v := _) HOPS rfl (by kernel_rfl) (fun _ _ _ h => h) HCL (goes_not (by rfl)) ?_)
          try simp only [Act.put, List.getElem_toArray, List.getElem_cons_succ, List.getElem_cons_zero, List.setIfInBounds_toArray, List.set_cons_zero, List.set_cons_succ]
          first | (refine wpU_takeB (i := 22) (v := ?_) HOPS rfl (by kernel_rfl) (fun _ _ _ h => h) HCL (goes_read (by rfl) ?hy) ?_; case hy => (intro w hSw; (try dsimp only at hSw); go_simp; (try with_reducible rfl))) | (refine wpU_takeB (i := 22) (v := _) HOPS rfl (by kernel_rfl) (fun _ _ _ h => h) HCL (goes_not (by rfl)) ?_)
          try simp only [Act.put, List.getElem_toArray, List.getElem_cons_succ, List.getElem_cons_zero, List.setIfInBounds_toArray, List.set_cons_zero, List.set_cons_succ]
          first | (refine wpU_takeB (i := 23) (v := ?_) HOPS rfl (by kernel_rfl) (fun _ _ _ h => h) HCL (goes_read (by rfl) ?hy) ?_; case hy => (intro w hSw; (try dsimp only at hSw); go_simp; (try with_reducible rfl))) | (refine wpU_takeB (i := 23) (v := _) HOPS rfl (by kernel_rfl) (fun _ _ _ h => h) HCL (goes_not (by rfl)) ?_)
          try simp only [Act.put, List.getElem_toArray, List.getElem_cons_succ, List.getElem_cons_zero, List.setIfInBounds_toArray, List.set_cons_zero, List.set_cons_succ]
          refine wpU_takeB (i := 24) HOPS rfl (by kernel_rfl) (fun _ _ _ h => h) HCL (goes_fn (v := (.bool true)) 11 _ _ _ #[(.agg #[.int .i64 aW, .int .i64 aH, .slice Aa al.length ca]), (.agg #[.int .i64 aW, .int .i64 aH, .slice A2 al.length c2])] (by rfl) rfl (by kernel_rfl) (by kernel_rfl) (by kernel_rfl) (fun wq n R hR => ?_)) ?_
          · exact rbSame_any _ _ _ (aW, aH, al) (aW, aH, al) _ _ (HIa.out.kept n nof) (HIo.out.kept n nof) (fun w' n' => by rw [decide_eq_true rfl]; exact hR w' n')
          try simp only [Act.put, List.getElem_toArray, List.getElem_cons_succ, List.getElem_cons_zero, List.setIfInBounds_toArray, List.set_cons_zero, List.set_cons_succ]
          first | (refine wpU_takeB (i := 25) (v := ?_) HOPS rfl (by kernel_rfl) (fun _ _ _ h => h) HCL (goes_read (by rfl) ?hy) ?_; case hy => (intro w hSw; (try dsimp only at hSw); go_simp; (try with_reducible rfl))) | (refine wpU_takeB (i := 25) (v := _) HOPS rfl (by kernel_rfl) (fun _ _ _ h => h) HCL (goes_not (by rfl)) ?_)
          try simp only [Act.put, List.getElem_toArray, List.getElem_cons_succ, List.getElem_cons_zero, List.setIfInBounds_toArray, List.set_cons_zero, List.set_cons_succ]
          first | (refine wpU_takeB (i := 26) (v := ?_) HOPS rfl (by kernel_rfl) (fun _ _ _ h => h) HCL (goes_read (by rfl) ?hy) ?_; case hy => (intro w hSw; (try dsimp only at hSw); go_simp; (try with_reducible rfl))) | (refine wpU_takeB (i := 26) (v := _) HOPS rfl (by kernel_rfl) (fun _ _ _ h => h) HCL (goes_not (by rfl)) ?_)
          try simp only [Act.put, List.getElem_toArray, List.getElem_cons_succ, List.getElem_cons_zero, List.setIfInBounds_toArray, List.set_cons_zero, List.set_cons_succ]
          first | (refine wpU_takeB (i := 27) (v := ?_) HOPS rfl (by kernel_rfl) (fun _ _ _ h => h) HCL (goes_read (by rfl) ?hy) ?_; case hy => (intro w hSw; (try dsimp only at hSw); go_simp; (try with_reducible rfl))) | (refine wpU_takeB (i := 27) (v := _) HOPS rfl (by kernel_rfl) (fun _ _ _ h => h) HCL (goes_not (by rfl)) ?_)
          try simp only [Act.put, List.getElem_toArray, List.getElem_cons_succ, List.getElem_cons_zero, List.setIfInBounds_toArray, List.set_cons_zero, List.set_cons_succ]
          first | (refine wpU_takeB (i := 28) (v := ?_) HOPS rfl (by kernel_rfl) (fun _ _ _ h => h) HCL (goes_read (by rfl) ?hy) ?_; case hy => (intro w hSw; (try dsimp only at hSw); go_simp; (try with_reducible rfl))) | (refine wpU_takeB (i := 28) (v := _) HOPS rfl (by kernel_rfl) (fun _ _ _ h => h) HCL (goes_not (by rfl)) ?_)
          try simp only [Act.put, List.getElem_toArray, List.getElem_cons_succ, List.getElem_cons_zero, List.setIfInBounds_toArray, List.set_cons_zero, List.set_cons_succ]
          refine wpU_takeB (i := 29) HOPS rfl (by kernel_rfl) (fun _ _ _ h => h) HCL (goes_fn (v := (.bool true)) 26 _ _ _ #[(.agg #[.int .i64 aW, .int .i64 aH, .slice Aa al.length ca]), (.agg #[.int .i64 aW, .int .i64 aH, .slice A2 al.length c2])] (by rfl) rfl (by kernel_rfl) (by kernel_rfl) (by kernel_rfl) (fun wq n R hR => ?_)) ?_
          · exact bSame_any _ _ _ (aW, aH, al) (aW, aH, al) _ _ (HIa.out.kept n nof) (HIo.out.kept n nof) (fun w' n' => by rw [decide_eq_true rfl]; exact hR w' n')
          try simp only [Act.put, List.getElem_toArray, List.getElem_cons_succ, List.getElem_cons_zero, List.setIfInBounds_toArray, List.set_cons_zero, List.set_cons_succ]
          first | (refine wpU_takeB (i := 30) (v := ?_) HOPS rfl (by kernel_rfl) (fun _ _ _ h => h) HCL (goes_read (by rfl) ?hy) ?_; case hy => (intro w hSw; (try dsimp only at hSw); go_simp; (try with_reducible rfl))) | (refine wpU_takeB (i := 30) (v := _) HOPS rfl (by kernel_rfl) (fun _ _ _ h => h) HCL (goes_not (by rfl)) ?_)
          try simp only [Act.put, List.getElem_toArray, List.getElem_cons_succ, List.getElem_cons_zero, List.setIfInBounds_toArray, List.set_cons_zero, List.set_cons_succ]
          first | (refine wpU_takeB (i := 31) (v := ?_) HOPS rfl (by kernel_rfl) (fun _ _ _ h => h) HCL (goes_read (by rfl) ?hy) ?_; case hy => (intro w hSw; (try dsimp only at hSw); go_simp; (try with_reducible rfl))) | (refine wpU_takeB (i := 31) (v := _) HOPS rfl (by kernel_rfl) (fun _ _ _ h => h) HCL (goes_not (by rfl)) ?_)
          try simp only [Act.put, List.getElem_toArray, List.getElem_cons_succ, List.getElem_cons_zero, List.setIfInBounds_toArray, List.set_cons_zero, List.set_cons_succ]
          refine wpU_done (by kernel_rfl) (fun w37 hle => ?_) _
          have n := (hle.ahead (by kernel_rfl)).1
          replace NX := Lib.hid (NX.out.trans n)
          replace SZ := Nat.lt_of_lt_of_le SZ n.size
          replace HIa := Lib.hid ((HIa.out.kept n nof).hi n.size)
          replace HIb := Lib.hid ((HIb.out.kept n nof).hi n.size)
          replace HBA := Lib.hid (n.heap HBA.out id)
          replace HBB := Lib.hid (n.heap HBB.out id)
          replace HIo := Lib.hid ((HIo.out.kept n nof).hi n.size)
          replace HBO := Lib.hid (n.heap HBO.out id)
          replace HBS := Lib.hid (n.heap HBS.out id)
          replace HIx := Lib.hid ((HIx.out.kept n nof).hi n.size)
          replace HBX := Lib.hid (n.heap HBX.out id)
          replace HIy := Lib.hid ((HIy.out.kept n nof).hi n.size)
          replace HBY := Lib.hid (n.heap HBY.out id)
          replace HIz := Lib.hid ((HIz.out.kept n nof).hi n.size)
          replace HBZ := Lib.hid (n.heap HBZ.out id)
          replace HC := Lib.hid (HC.out.trans n)
          clear n
          clear HOPS HCL hle
          repeat clear hHeld
          go_wp2_with fail
          exact ret_b (HR.out _ NX.out) (by simp)
end Go.Proofs.YtaafmgkjfmngjaaDoor
