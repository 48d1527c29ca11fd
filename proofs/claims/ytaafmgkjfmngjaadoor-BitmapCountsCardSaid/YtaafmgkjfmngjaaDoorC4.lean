/-
  The contract of the law BitmapCounts: it returns true.
-/
import Derived.Test.YtaafmgkjfmngjaaDoorSan04
import Derived.Test.YtaafmgkjfmngjaaDoorBs4
import Derived.Test.YtaafmgkjfmngjaaDoorSm4
import Derived.Test.YtaafmgkjfmngjaaDoorBm4
import Derived.Test.YtaafmgkjfmngjaaDoorBonly
import Derived.Test.YtaafmgkjfmngjaaDoorBc4
import Derived.Test.YtaafmgkjfmngjaaDoorLw4
import Derived.Test.YtaafmgkjfmngjaaDoorRegU
namespace Go.Proofs.YtaafmgkjfmngjaaDoor
open Go.RowKit
set_option linter.unusedVariables false
set_option linter.unusedSimpArgs false
set_option maxRecDepth 100000

set_option maxHeartbeats 16000000 in
theorem bcounts_any (lo : Nat) (va vb vl : Value) (la lb ll : List Int) (od n0 n1 n2 n3 q0 q1 : Int) (w : World) (R : Ending → World → Prop) (hlo : lo ≤ w.heap.size) (hla : IsInts w lo va la) (hlb : IsInts w lo vb lb) (hll : IsInts w lo vl ll)
    (hod : wfI od) (hq : ∀ x ∈ [n0, n1, n2, n3, q0, q1], wfI x) (hmx : MaxOk w)
    (hR : ∀ w', Nw w w' → R (.returned (.bool true)) w') : Calls Tryd.prog 4 #[.agg #[va, vb, .int .i64 od, .int .i64 n0, .int .i64 n1, .int .i64 n2, .int .i64 n3], vl, .agg #[.int .i64 q0, .int .i64 q1]] w R := by
  have HR := Lib.hid hR
  clear hR
  have HLA := Lib.hid (hla.hi hlo)
  have HLB := Lib.hid (hlb.hi hlo)
  have HLL := Lib.hid (hll.hi hlo)
  have HOD := Lib.hid hod
  have HQ := Lib.hid hq
  obtain ⟨A0, c0, rfl, -⟩ := hla
  obtain ⟨A1, c1, rfl, -⟩ := hlb
  obtain ⟨A2, c2, rfl, -⟩ := hll
  have NX := Lib.hid (Ch.refl (fun _ => False) w)
  have MX := Lib.hid hmx
  clear hmx hq hod
  go_enter Tryd.func4, Tryd.ntmps4
  go_wp2_with (go_at_call 3; fail)
  refine Calls_nm ?_
  intro W1 hW
  have n : Nw w W1 := by rw [hW]; exact ((Ch.refl _ _).alloc _).alloc _
  replace NX := Lib.hid (NX.out.trans n)
  replace MX := Lib.hid (MX.out.kept n id)
  replace HLA := Lib.hid (HLA.out.kept n nof)
  replace HLB := Lib.hid (HLB.out.kept n nof)
  replace HLL := Lib.hid (HLL.out.kept n nof)
  have HB3 := Lib.hid (show W1.heap[w.heap.size]? = some (.cells #[.slice A0 la.length c0, .slice A1 lb.length c1, .int .i64 od, .int .i64 n0, .int .i64 n1, .int .i64 n2, .int .i64 n3] 25 (0, 0)) from by rw [hW]; exact heap_alloc_old' _ (heap_alloc_eq _ rfl))
  have HB5 := Lib.hid (show W1.heap[w.heap.size + 1]? = some (.cells #[.int .i64 q0, .int .i64 q1] 29 (0, 0)) from by rw [hW]; exact heap_alloc_eq _ (by simp only [alloc_size]))
  clear hW n
  have SZ : w.heap.size + 1 < W1.heap.size := lt_of_heap HB5.out
  refine sanity_any _ _ MX.out ?_
  intro w2 n
  replace NX := Lib.hid (NX.out.trans n)
  replace MX := Lib.hid (MX.out.kept n id)
  replace HLA := Lib.hid (HLA.out.kept n nof)
  replace HLB := Lib.hid (HLB.out.kept n nof)
  replace HLL := Lib.hid (HLL.out.kept n nof)
  replace HB3 := Lib.hid (n.heap HB3.out id)
  replace HB5 := Lib.hid (n.heap HB5.out id)
  replace SZ := Nat.lt_of_lt_of_le SZ n.size
  clear n
  have kHB30 : w2.cell? ⟨w.heap.size, 0, none⟩ = some (.slice A0 la.length c0) := by rw [cell_of HB3.out]; rfl
  have jHB30 : ∀ o, (w2.alloc o).cell? ⟨w.heap.size, 0, none⟩ = some (.slice A0 la.length c0) := fun o => cell_alloc_old o kHB30
  have kHB31 : w2.cell? ⟨w.heap.size, 1, none⟩ = some (.slice A1 lb.length c1) := by rw [cell_of HB3.out]; rfl
  have jHB31 : ∀ o, (w2.alloc o).cell? ⟨w.heap.size, 1, none⟩ = some (.slice A1 lb.length c1) := fun o => cell_alloc_old o kHB31
  have kHB32 : w2.cell? ⟨w.heap.size, 2, none⟩ = some (.int .i64 od) := by rw [cell_of HB3.out]; rfl
  have jHB32 : ∀ o, (w2.alloc o).cell? ⟨w.heap.size, 2, none⟩ = some (.int .i64 od) := fun o => cell_alloc_old o kHB32
  have kHB33 : w2.cell? ⟨w.heap.size, 3, none⟩ = some (.int .i64 n0) := by rw [cell_of HB3.out]; rfl
  have jHB33 : ∀ o, (w2.alloc o).cell? ⟨w.heap.size, 3, none⟩ = some (.int .i64 n0) := fun o => cell_alloc_old o kHB33
  have kHB34 : w2.cell? ⟨w.heap.size, 4, none⟩ = some (.int .i64 n1) := by rw [cell_of HB3.out]; rfl
  have jHB34 : ∀ o, (w2.alloc o).cell? ⟨w.heap.size, 4, none⟩ = some (.int .i64 n1) := fun o => cell_alloc_old o kHB34
  have kHB35 : w2.cell? ⟨w.heap.size, 5, none⟩ = some (.int .i64 n2) := by rw [cell_of HB3.out]; rfl
  have jHB35 : ∀ o, (w2.alloc o).cell? ⟨w.heap.size, 5, none⟩ = some (.int .i64 n2) := fun o => cell_alloc_old o kHB35
  have kHB36 : w2.cell? ⟨w.heap.size, 6, none⟩ = some (.int .i64 n3) := by rw [cell_of HB3.out]; rfl
  have jHB36 : ∀ o, (w2.alloc o).cell? ⟨w.heap.size, 6, none⟩ = some (.int .i64 n3) := fun o => cell_alloc_old o kHB36
  go_wp2_with (go_at_call 3; fail)
  clear kHB30 jHB30 kHB31 jHB31 kHB32 jHB32 kHB33 jHB33 kHB34 jHB34 kHB35 jHB35 kHB36 jHB36
  refine bitmaps_det w.heap.size _ _ la lb od n0 n1 n2 n3 _ _ HLA.out HLB.out (by omega) HOD.out ?_
  intro w3 v1 v2 v3 a b d ha hb hd hE1 hl1 hl2 hE2 hl3 hl4 hl5 n hda hdb
  replace NX := Lib.hid (NX.out.trans n)
  replace MX := Lib.hid (MX.out.kept n id)
  replace HLA := Lib.hid (HLA.out.kept n nof)
  replace HLB := Lib.hid (HLB.out.kept n nof)
  replace HLL := Lib.hid (HLL.out.kept n nof)
  replace HB3 := Lib.hid (n.heap HB3.out id)
  replace HB5 := Lib.hid (n.heap HB5.out id)
  replace SZ := Nat.lt_of_lt_of_le SZ n.size
  obtain ⟨aW, aH, al⟩ := a
  obtain ⟨bW, bH, bl⟩ := b
  obtain ⟨dW, dH, dl⟩ := d
  obtain ⟨Aa, ca, rfl, hIa⟩ := isBm_formN (W := aW) (H := aH) (n := al.length) ha rfl rfl rfl
  have HIa := Lib.hid hIa
  clear hIa ha
  obtain ⟨Ab, cb, rfl, hIb⟩ := isBm_formN (W := bW) (H := bH) (n := bl.length) hb rfl rfl rfl
  have HIb := Lib.hid hIb
  clear hIb hb
  obtain ⟨Ad, cd, rfl, hId⟩ := isBm_formN (W := dW) (H := dH) (n := dl.length) hd rfl rfl rfl
  have HId := Lib.hid hId
  clear hId hd
  clear n
  have La : al.length ≤ 1000 := by
    obtain ⟨⟨e1, -⟩, ⟨e3, -⟩, e5⟩ := bmE_ok hE1
    have h2 : aW * aH ≤ 16 * 12 := Int.mul_le_mul (by assumption) (by assumption) (by simp only at e3; omega) (by omega)
    simp only at e5
    omega
  obtain ⟨⟨ea1, -⟩, ⟨ea2, -⟩, -⟩ := bmE_ok hE1
  simp only at ea1 ea2 hl1 hl2
  have Lb : bl.length ≤ 1000 := by
    obtain ⟨⟨e1, -⟩, ⟨e3, -⟩, e5⟩ := bmE_ok hE2
    have h2 : bW * bH ≤ 16 * 12 := Int.mul_le_mul (by assumption) (by assumption) (by simp only at e3; omega) (by omega)
    simp only at e5
    omega
  obtain ⟨⟨eb1, -⟩, ⟨eb2, -⟩, -⟩ := bmE_ok hE2
  simp only at eb1 eb2 hl3 hl4
  have Ld : dl.length ≤ 1000 := by simp only at hl5; omega
  have HEA := Lib.hid hE1
  have HEB := Lib.hid hE2
  have HDA := Lib.hid hda
  have HDB := Lib.hid hdb
  clear hE1 hE2 hda hdb hl5
  clear HLA HLB MX HId
  have kHB30 : w3.cell? ⟨w.heap.size, 0, none⟩ = some (.slice A0 la.length c0) := by rw [cell_of HB3.out]; rfl
  have jHB30 : ∀ o, (w3.alloc o).cell? ⟨w.heap.size, 0, none⟩ = some (.slice A0 la.length c0) := fun o => cell_alloc_old o kHB30
  have kHB31 : w3.cell? ⟨w.heap.size, 1, none⟩ = some (.slice A1 lb.length c1) := by rw [cell_of HB3.out]; rfl
  have jHB31 : ∀ o, (w3.alloc o).cell? ⟨w.heap.size, 1, none⟩ = some (.slice A1 lb.length c1) := fun o => cell_alloc_old o kHB31
  have kHB32 : w3.cell? ⟨w.heap.size, 2, none⟩ = some (.int .i64 od) := by rw [cell_of HB3.out]; rfl
  have jHB32 : ∀ o, (w3.alloc o).cell? ⟨w.heap.size, 2, none⟩ = some (.int .i64 od) := fun o => cell_alloc_old o kHB32
  have kHB33 : w3.cell? ⟨w.heap.size, 3, none⟩ = some (.int .i64 n0) := by rw [cell_of HB3.out]; rfl
  have jHB33 : ∀ o, (w3.alloc o).cell? ⟨w.heap.size, 3, none⟩ = some (.int .i64 n0) := fun o => cell_alloc_old o kHB33
  have kHB34 : w3.cell? ⟨w.heap.size, 4, none⟩ = some (.int .i64 n1) := by rw [cell_of HB3.out]; rfl
  have jHB34 : ∀ o, (w3.alloc o).cell? ⟨w.heap.size, 4, none⟩ = some (.int .i64 n1) := fun o => cell_alloc_old o kHB34
  have kHB35 : w3.cell? ⟨w.heap.size, 5, none⟩ = some (.int .i64 n2) := by rw [cell_of HB3.out]; rfl
  have jHB35 : ∀ o, (w3.alloc o).cell? ⟨w.heap.size, 5, none⟩ = some (.int .i64 n2) := fun o => cell_alloc_old o kHB35
  have kHB36 : w3.cell? ⟨w.heap.size, 6, none⟩ = some (.int .i64 n3) := by rw [cell_of HB3.out]; rfl
  have jHB36 : ∀ o, (w3.alloc o).cell? ⟨w.heap.size, 6, none⟩ = some (.int .i64 n3) := fun o => cell_alloc_old o kHB36
  go_wp2_with (go_at_call 3; fail)
  clear kHB30 jHB30 kHB31 jHB31 kHB32 jHB32 kHB33 jHB33 kHB34 jHB34 kHB35 jHB35 kHB36 jHB36
  refine Calls_nm ?_
  intro W4 hW
  have n : Nw w3 W4 := by rw [hW]; exact (((Ch.refl _ _).alloc _).alloc _).alloc _
  replace NX := Lib.hid (NX.out.trans n)
  replace HLL := Lib.hid (HLL.out.kept n nof)
  replace HB3 := Lib.hid (n.heap HB3.out id)
  replace HB5 := Lib.hid (n.heap HB5.out id)
  replace SZ := Nat.lt_of_lt_of_le SZ n.size
  replace HIa := Lib.hid ((HIa.out.kept n nof).hi n.size)
  replace HIb := Lib.hid ((HIb.out.kept n nof).hi n.size)
  have HBA := Lib.hid (show W4.heap[w3.heap.size]? = some (.cells #[.int .i64 aW, .int .i64 aH, .slice Aa al.length ca] 28 (0, 0)) from by rw [hW]; exact heap_alloc_old' _ (heap_alloc_old' _ (heap_alloc_eq _ rfl)))
  have HBB := Lib.hid (show W4.heap[w3.heap.size + 1]? = some (.cells #[.int .i64 bW, .int .i64 bH, .slice Ab bl.length cb] 28 (0, 0)) from by rw [hW]; exact heap_alloc_old' _ (heap_alloc_eq _ (by simp only [alloc_size])))
  have HBD := Lib.hid (show W4.heap[w3.heap.size + 2]? = some (.cells #[.int .i64 dW, .int .i64 dH, .slice Ad dl.length cd] 28 (0, 0)) from by rw [hW]; exact heap_alloc_eq _ (by simp only [alloc_size]))
  clear hW n
  clear HBD
  refine rMade4_any w.heap.size _ ll _ _ HLL.out (by omega) ?_
  intro w5 vz z hz hzE hz1 hz2 n hvz
  replace NX := Lib.hid (NX.out.trans n)
  replace HLL := Lib.hid (HLL.out.kept n nof)
  replace HB3 := Lib.hid (n.heap HB3.out id)
  replace HB5 := Lib.hid (n.heap HB5.out id)
  replace SZ := Nat.lt_of_lt_of_le SZ n.size
  replace HIa := Lib.hid ((HIa.out.kept n nof).hi n.size)
  replace HIb := Lib.hid ((HIb.out.kept n nof).hi n.size)
  replace HBA := Lib.hid (n.heap HBA.out id)
  replace HBB := Lib.hid (n.heap HBB.out id)
  obtain ⟨zW, zH, zl⟩ := z
  obtain ⟨Az, cz, rfl, hIz⟩ := isBm_formN (W := zW) (H := zH) (n := zl.length) hz rfl rfl rfl
  have HIz := Lib.hid hIz
  clear hIz hz hvz n
  have Lz : zl.length ≤ 1000 := by
    obtain ⟨⟨e1, -⟩, ⟨e3, -⟩, e5⟩ := bmE_ok hzE
    have h2 : zW * zH ≤ 16 * 12 := Int.mul_le_mul (by assumption) (by assumption) (by simp only at e3; omega) (by omega)
    simp only at e5
    omega
  have HEZ := Lib.hid hzE
  clear hzE
  clear HLL
  have kHB30 : w5.cell? ⟨w.heap.size, 0, none⟩ = some (.slice A0 la.length c0) := by rw [cell_of HB3.out]; rfl
  have jHB30 : ∀ o, (w5.alloc o).cell? ⟨w.heap.size, 0, none⟩ = some (.slice A0 la.length c0) := fun o => cell_alloc_old o kHB30
  have kHB31 : w5.cell? ⟨w.heap.size, 1, none⟩ = some (.slice A1 lb.length c1) := by rw [cell_of HB3.out]; rfl
  have jHB31 : ∀ o, (w5.alloc o).cell? ⟨w.heap.size, 1, none⟩ = some (.slice A1 lb.length c1) := fun o => cell_alloc_old o kHB31
  have kHB32 : w5.cell? ⟨w.heap.size, 2, none⟩ = some (.int .i64 od) := by rw [cell_of HB3.out]; rfl
  have jHB32 : ∀ o, (w5.alloc o).cell? ⟨w.heap.size, 2, none⟩ = some (.int .i64 od) := fun o => cell_alloc_old o kHB32
  have kHB33 : w5.cell? ⟨w.heap.size, 3, none⟩ = some (.int .i64 n0) := by rw [cell_of HB3.out]; rfl
  have jHB33 : ∀ o, (w5.alloc o).cell? ⟨w.heap.size, 3, none⟩ = some (.int .i64 n0) := fun o => cell_alloc_old o kHB33
  have kHB34 : w5.cell? ⟨w.heap.size, 4, none⟩ = some (.int .i64 n1) := by rw [cell_of HB3.out]; rfl
  have jHB34 : ∀ o, (w5.alloc o).cell? ⟨w.heap.size, 4, none⟩ = some (.int .i64 n1) := fun o => cell_alloc_old o kHB34
  have kHB35 : w5.cell? ⟨w.heap.size, 5, none⟩ = some (.int .i64 n2) := by rw [cell_of HB3.out]; rfl
  have jHB35 : ∀ o, (w5.alloc o).cell? ⟨w.heap.size, 5, none⟩ = some (.int .i64 n2) := fun o => cell_alloc_old o kHB35
  have kHB36 : w5.cell? ⟨w.heap.size, 6, none⟩ = some (.int .i64 n3) := by rw [cell_of HB3.out]; rfl
  have jHB36 : ∀ o, (w5.alloc o).cell? ⟨w.heap.size, 6, none⟩ = some (.int .i64 n3) := fun o => cell_alloc_old o kHB36
  go_wp2_with (go_at_call 3; fail)
  clear kHB30 jHB30 kHB31 jHB31 kHB32 jHB32 kHB33 jHB33 kHB34 jHB34 kHB35 jHB35 kHB36 jHB36
  refine Calls_nm ?_
  intro W6 hW
  have n : Nw w5 W6 := by rw [hW]; exact (Ch.refl _ _).alloc _
  replace NX := Lib.hid (NX.out.trans n)
  replace HB3 := Lib.hid (n.heap HB3.out id)
  replace HB5 := Lib.hid (n.heap HB5.out id)
  replace SZ := Nat.lt_of_lt_of_le SZ n.size
  replace HIa := Lib.hid ((HIa.out.kept n nof).hi n.size)
  replace HIb := Lib.hid ((HIb.out.kept n nof).hi n.size)
  replace HBA := Lib.hid (n.heap HBA.out id)
  replace HBB := Lib.hid (n.heap HBB.out id)
  replace HIz := Lib.hid ((HIz.out.kept n nof).hi n.size)
  have HBZ := Lib.hid (show W6.heap[w5.heap.size]? = some (.cells #[.int .i64 zW, .int .i64 zH, .slice Az zl.length cz] 28 (0, 0)) from by rw [hW]; exact heap_alloc_eq _ rfl)
  clear hW n
  refine small_any _ _ _ _ _ _ _ _ _ ⟨_, _, _, rfl⟩ ⟨_, _, _, rfl⟩ (fun x hx => HQ.out x (by simp at hx ⊢; omega)) ?_
  intro w7 n
  replace NX := Lib.hid (NX.out.trans n)
  replace HB3 := Lib.hid (n.heap HB3.out id)
  replace HB5 := Lib.hid (n.heap HB5.out id)
  replace SZ := Nat.lt_of_lt_of_le SZ n.size
  replace HIa := Lib.hid ((HIa.out.kept n nof).hi n.size)
  replace HIb := Lib.hid ((HIb.out.kept n nof).hi n.size)
  replace HBA := Lib.hid (n.heap HBA.out id)
  replace HBB := Lib.hid (n.heap HBB.out id)
  replace HIz := Lib.hid ((HIz.out.kept n nof).hi n.size)
  replace HBZ := Lib.hid (n.heap HBZ.out id)
  clear n
  obtain ⟨b00, b01⟩ := smallN_in n0
  obtain ⟨p0, e0⟩ : ∃ p, smallN n0 = p := ⟨_, rfl⟩
  rw [e0] at b00 b01 ⊢
  clear e0
  obtain ⟨b10, b11⟩ := smallN_in n1
  obtain ⟨p1, e1⟩ : ∃ p, smallN n1 = p := ⟨_, rfl⟩
  rw [e1] at b10 b11 ⊢
  clear e1
  obtain ⟨b20, b21⟩ := smallN_in n2
  obtain ⟨p2, e2⟩ : ∃ p, smallN n2 = p := ⟨_, rfl⟩
  rw [e2] at b20 b21 ⊢
  clear e2
  obtain ⟨b30, b31⟩ := smallN_in n3
  obtain ⟨p3, e3⟩ : ∃ p, smallN n3 = p := ⟨_, rfl⟩
  rw [e3] at b30 b31 ⊢
  clear e3
  have kHBA0 : w7.cell? ⟨w3.heap.size, 0, none⟩ = some (.int .i64 aW) := by rw [cell_of HBA.out]; rfl
  have jHBA0 : ∀ o, (w7.alloc o).cell? ⟨w3.heap.size, 0, none⟩ = some (.int .i64 aW) := fun o => cell_alloc_old o kHBA0
  have kHBA1 : w7.cell? ⟨w3.heap.size, 1, none⟩ = some (.int .i64 aH) := by rw [cell_of HBA.out]; rfl
  have jHBA1 : ∀ o, (w7.alloc o).cell? ⟨w3.heap.size, 1, none⟩ = some (.int .i64 aH) := fun o => cell_alloc_old o kHBA1
  have kHBA2 : w7.cell? ⟨w3.heap.size, 2, none⟩ = some (.slice Aa al.length ca) := by rw [cell_of HBA.out]; rfl
  have jHBA2 : ∀ o, (w7.alloc o).cell? ⟨w3.heap.size, 2, none⟩ = some (.slice Aa al.length ca) := fun o => cell_alloc_old o kHBA2
  have kHBB0 : w7.cell? ⟨w3.heap.size + 1, 0, none⟩ = some (.int .i64 bW) := by rw [cell_of HBB.out]; rfl
  have jHBB0 : ∀ o, (w7.alloc o).cell? ⟨w3.heap.size + 1, 0, none⟩ = some (.int .i64 bW) := fun o => cell_alloc_old o kHBB0
  have kHBB1 : w7.cell? ⟨w3.heap.size + 1, 1, none⟩ = some (.int .i64 bH) := by rw [cell_of HBB.out]; rfl
  have jHBB1 : ∀ o, (w7.alloc o).cell? ⟨w3.heap.size + 1, 1, none⟩ = some (.int .i64 bH) := fun o => cell_alloc_old o kHBB1
  have kHBB2 : w7.cell? ⟨w3.heap.size + 1, 2, none⟩ = some (.slice Ab bl.length cb) := by rw [cell_of HBB.out]; rfl
  have jHBB2 : ∀ o, (w7.alloc o).cell? ⟨w3.heap.size + 1, 2, none⟩ = some (.slice Ab bl.length cb) := fun o => cell_alloc_old o kHBB2
  go_wp2_with (go_at_call 3; fail)
  clear kHBA0 jHBA0 kHBA1 jHBA1 kHBA2 jHBA2 kHBB0 jHBB0 kHBB1 jHBB1 kHBB2 jHBB2
  refine Calls_nm ?_
  intro W8 hW
  have n : Nw w7 W8 := by rw [hW]; exact (Ch.refl _ _).alloc _
  replace NX := Lib.hid (NX.out.trans n)
  replace HB3 := Lib.hid (n.heap HB3.out id)
  replace HB5 := Lib.hid (n.heap HB5.out id)
  replace SZ := Nat.lt_of_lt_of_le SZ n.size
  replace HIa := Lib.hid ((HIa.out.kept n nof).hi n.size)
  replace HIb := Lib.hid ((HIb.out.kept n nof).hi n.size)
  replace HBA := Lib.hid (n.heap HBA.out id)
  replace HBB := Lib.hid (n.heap HBB.out id)
  replace HIz := Lib.hid ((HIz.out.kept n nof).hi n.size)
  replace HBZ := Lib.hid (n.heap HBZ.out id)
  have HBS := Lib.hid (show W8.heap[w7.heap.size]? = some (.cells #[.int .i64 p0, .int .i64 p1, .int .i64 p2, .int .i64 p3] 23 (0, 0)) from by rw [hW]; exact heap_alloc_eq _ rfl)
  clear hW n
  clear HB3
  refine Only_any W8.heap.size _ _ (aW, aH, al) (bW, bH, bl) (p0) (p1) 0 0 _ _ HIa.out HIb.out (Nat.le_refl _) (by show _ ≤ 1000000000; simp only; omega) ?_
  intro w9 n
  replace NX := Lib.hid (NX.out.trans n)
  replace HB5 := Lib.hid (n.heap HB5.out id)
  replace SZ := Nat.lt_of_lt_of_le SZ n.size
  replace HIa := Lib.hid ((HIa.out.kept n nof).hi n.size)
  replace HIb := Lib.hid ((HIb.out.kept n nof).hi n.size)
  replace HBA := Lib.hid (n.heap HBA.out id)
  replace HBB := Lib.hid (n.heap HBB.out id)
  replace HIz := Lib.hid ((HIz.out.kept n nof).hi n.size)
  replace HBZ := Lib.hid (n.heap HBZ.out id)
  replace HBS := Lib.hid (n.heap HBS.out id)
  obtain ⟨XY, hXY⟩ : ∃ k : Nat, cntD (aW, aH, al) (onlyP (validB (bW, bH, bl)) (p0) (p1) 0 0) = k := ⟨_, rfl⟩
  rw [hXY]
  have LXY : XY ≤ 1000 := by have := cntD_len (aW, aH, al) (onlyP (validB (bW, bH, bl)) (p0) (p1) 0 0); simp only at this; omega
  rw [only_all HEB.out (by omega) (by omega)] at hXY
  have HXY := Lib.hid hXY
  clear hXY n
  have kHBB0 : w9.cell? ⟨w3.heap.size + 1, 0, none⟩ = some (.int .i64 bW) := by rw [cell_of HBB.out]; rfl
  have jHBB0 : ∀ o, (w9.alloc o).cell? ⟨w3.heap.size + 1, 0, none⟩ = some (.int .i64 bW) := fun o => cell_alloc_old o kHBB0
  have kHBB1 : w9.cell? ⟨w3.heap.size + 1, 1, none⟩ = some (.int .i64 bH) := by rw [cell_of HBB.out]; rfl
  have jHBB1 : ∀ o, (w9.alloc o).cell? ⟨w3.heap.size + 1, 1, none⟩ = some (.int .i64 bH) := fun o => cell_alloc_old o kHBB1
  have kHBB2 : w9.cell? ⟨w3.heap.size + 1, 2, none⟩ = some (.slice Ab bl.length cb) := by rw [cell_of HBB.out]; rfl
  have jHBB2 : ∀ o, (w9.alloc o).cell? ⟨w3.heap.size + 1, 2, none⟩ = some (.slice Ab bl.length cb) := fun o => cell_alloc_old o kHBB2
  have kHBZ0 : w9.cell? ⟨w5.heap.size, 0, none⟩ = some (.int .i64 zW) := by rw [cell_of HBZ.out]; rfl
  have jHBZ0 : ∀ o, (w9.alloc o).cell? ⟨w5.heap.size, 0, none⟩ = some (.int .i64 zW) := fun o => cell_alloc_old o kHBZ0
  have kHBZ1 : w9.cell? ⟨w5.heap.size, 1, none⟩ = some (.int .i64 zH) := by rw [cell_of HBZ.out]; rfl
  have jHBZ1 : ∀ o, (w9.alloc o).cell? ⟨w5.heap.size, 1, none⟩ = some (.int .i64 zH) := fun o => cell_alloc_old o kHBZ1
  have kHBZ2 : w9.cell? ⟨w5.heap.size, 2, none⟩ = some (.slice Az zl.length cz) := by rw [cell_of HBZ.out]; rfl
  have jHBZ2 : ∀ o, (w9.alloc o).cell? ⟨w5.heap.size, 2, none⟩ = some (.slice Az zl.length cz) := fun o => cell_alloc_old o kHBZ2
  have kHBS0 : w9.cell? ⟨w7.heap.size, 0, none⟩ = some (.int .i64 p0) := by rw [cell_of HBS.out]; rfl
  have jHBS0 : ∀ o, (w9.alloc o).cell? ⟨w7.heap.size, 0, none⟩ = some (.int .i64 p0) := fun o => cell_alloc_old o kHBS0
  have kHBS1 : w9.cell? ⟨w7.heap.size, 1, none⟩ = some (.int .i64 p1) := by rw [cell_of HBS.out]; rfl
  have jHBS1 : ∀ o, (w9.alloc o).cell? ⟨w7.heap.size, 1, none⟩ = some (.int .i64 p1) := fun o => cell_alloc_old o kHBS1
  have kHBS2 : w9.cell? ⟨w7.heap.size, 2, none⟩ = some (.int .i64 p2) := by rw [cell_of HBS.out]; rfl
  have jHBS2 : ∀ o, (w9.alloc o).cell? ⟨w7.heap.size, 2, none⟩ = some (.int .i64 p2) := fun o => cell_alloc_old o kHBS2
  have kHBS3 : w9.cell? ⟨w7.heap.size, 3, none⟩ = some (.int .i64 p3) := by rw [cell_of HBS.out]; rfl
  have jHBS3 : ∀ o, (w9.alloc o).cell? ⟨w7.heap.size, 3, none⟩ = some (.int .i64 p3) := fun o => cell_alloc_old o kHBS3
  go_wp2_with (go_at_call 3; fail)
  clear kHBB0 jHBB0 kHBB1 jHBB1 kHBB2 jHBB2 kHBZ0 jHBZ0 kHBZ1 jHBZ1 kHBZ2 jHBZ2 kHBS0 jHBS0 kHBS1 jHBS1 kHBS2 jHBS2 kHBS3 jHBS3
  refine Only_any w9.heap.size _ _ (bW, bH, bl) (zW, zH, zl) (p2) (p3) 0 0 _ _ HIb.out HIz.out (Nat.le_refl _) (by show _ ≤ 1000000000; simp only; omega) ?_
  intro w10 n
  replace NX := Lib.hid (NX.out.trans n)
  replace HB5 := Lib.hid (n.heap HB5.out id)
  replace SZ := Nat.lt_of_lt_of_le SZ n.size
  replace HIa := Lib.hid ((HIa.out.kept n nof).hi n.size)
  replace HIb := Lib.hid ((HIb.out.kept n nof).hi n.size)
  replace HBA := Lib.hid (n.heap HBA.out id)
  replace HBB := Lib.hid (n.heap HBB.out id)
  replace HIz := Lib.hid ((HIz.out.kept n nof).hi n.size)
  replace HBZ := Lib.hid (n.heap HBZ.out id)
  replace HBS := Lib.hid (n.heap HBS.out id)
  obtain ⟨YZ, hYZ⟩ : ∃ k : Nat, cntD (bW, bH, bl) (onlyP (validB (zW, zH, zl)) (p2) (p3) 0 0) = k := ⟨_, rfl⟩
  rw [hYZ]
  have LYZ : YZ ≤ 1000 := by have := cntD_len (bW, bH, bl) (onlyP (validB (zW, zH, zl)) (p2) (p3) 0 0); simp only at this; omega
  rw [only_all HEZ.out (by omega) (by omega)] at hYZ
  have HYZ := Lib.hid hYZ
  clear hYZ n
  have kHBA0 : w10.cell? ⟨w3.heap.size, 0, none⟩ = some (.int .i64 aW) := by rw [cell_of HBA.out]; rfl
  have jHBA0 : ∀ o, (w10.alloc o).cell? ⟨w3.heap.size, 0, none⟩ = some (.int .i64 aW) := fun o => cell_alloc_old o kHBA0
  have kHBA1 : w10.cell? ⟨w3.heap.size, 1, none⟩ = some (.int .i64 aH) := by rw [cell_of HBA.out]; rfl
  have jHBA1 : ∀ o, (w10.alloc o).cell? ⟨w3.heap.size, 1, none⟩ = some (.int .i64 aH) := fun o => cell_alloc_old o kHBA1
  have kHBA2 : w10.cell? ⟨w3.heap.size, 2, none⟩ = some (.slice Aa al.length ca) := by rw [cell_of HBA.out]; rfl
  have jHBA2 : ∀ o, (w10.alloc o).cell? ⟨w3.heap.size, 2, none⟩ = some (.slice Aa al.length ca) := fun o => cell_alloc_old o kHBA2
  have kHBZ0 : w10.cell? ⟨w5.heap.size, 0, none⟩ = some (.int .i64 zW) := by rw [cell_of HBZ.out]; rfl
  have jHBZ0 : ∀ o, (w10.alloc o).cell? ⟨w5.heap.size, 0, none⟩ = some (.int .i64 zW) := fun o => cell_alloc_old o kHBZ0
  have kHBZ1 : w10.cell? ⟨w5.heap.size, 1, none⟩ = some (.int .i64 zH) := by rw [cell_of HBZ.out]; rfl
  have jHBZ1 : ∀ o, (w10.alloc o).cell? ⟨w5.heap.size, 1, none⟩ = some (.int .i64 zH) := fun o => cell_alloc_old o kHBZ1
  have kHBZ2 : w10.cell? ⟨w5.heap.size, 2, none⟩ = some (.slice Az zl.length cz) := by rw [cell_of HBZ.out]; rfl
  have jHBZ2 : ∀ o, (w10.alloc o).cell? ⟨w5.heap.size, 2, none⟩ = some (.slice Az zl.length cz) := fun o => cell_alloc_old o kHBZ2
  have kHBS0 : w10.cell? ⟨w7.heap.size, 0, none⟩ = some (.int .i64 p0) := by rw [cell_of HBS.out]; rfl
  have jHBS0 : ∀ o, (w10.alloc o).cell? ⟨w7.heap.size, 0, none⟩ = some (.int .i64 p0) := fun o => cell_alloc_old o kHBS0
  have kHBS1 : w10.cell? ⟨w7.heap.size, 1, none⟩ = some (.int .i64 p1) := by rw [cell_of HBS.out]; rfl
  have jHBS1 : ∀ o, (w10.alloc o).cell? ⟨w7.heap.size, 1, none⟩ = some (.int .i64 p1) := fun o => cell_alloc_old o kHBS1
  have kHBS2 : w10.cell? ⟨w7.heap.size, 2, none⟩ = some (.int .i64 p2) := by rw [cell_of HBS.out]; rfl
  have jHBS2 : ∀ o, (w10.alloc o).cell? ⟨w7.heap.size, 2, none⟩ = some (.int .i64 p2) := fun o => cell_alloc_old o kHBS2
  have kHBS3 : w10.cell? ⟨w7.heap.size, 3, none⟩ = some (.int .i64 p3) := by rw [cell_of HBS.out]; rfl
  have jHBS3 : ∀ o, (w10.alloc o).cell? ⟨w7.heap.size, 3, none⟩ = some (.int .i64 p3) := fun o => cell_alloc_old o kHBS3
  go_wp2_with (go_at_call 3; fail)
  clear kHBA0 jHBA0 kHBA1 jHBA1 kHBA2 jHBA2 kHBZ0 jHBZ0 kHBZ1 jHBZ1 kHBZ2 jHBZ2 kHBS0 jHBS0 kHBS1 jHBS1 kHBS2 jHBS2 kHBS3 jHBS3
  refine Only_any w10.heap.size _ _ (aW, aH, al) (zW, zH, zl) (p0 + p2) (p1 + p3) 0 0 _ _ HIa.out HIz.out (Nat.le_refl _) (by show _ ≤ 1000000000; simp only; omega) ?_
  intro w11 n
  replace NX := Lib.hid (NX.out.trans n)
  replace HB5 := Lib.hid (n.heap HB5.out id)
  replace SZ := Nat.lt_of_lt_of_le SZ n.size
  replace HIa := Lib.hid ((HIa.out.kept n nof).hi n.size)
  replace HIb := Lib.hid ((HIb.out.kept n nof).hi n.size)
  replace HBA := Lib.hid (n.heap HBA.out id)
  replace HBB := Lib.hid (n.heap HBB.out id)
  replace HIz := Lib.hid ((HIz.out.kept n nof).hi n.size)
  replace HBZ := Lib.hid (n.heap HBZ.out id)
  replace HBS := Lib.hid (n.heap HBS.out id)
  obtain ⟨XZ, hXZ⟩ : ∃ k : Nat, cntD (aW, aH, al) (onlyP (validB (zW, zH, zl)) (p0 + p2) (p1 + p3) 0 0) = k := ⟨_, rfl⟩
  rw [hXZ]
  have LXZ : XZ ≤ 1000 := by have := cntD_len (aW, aH, al) (onlyP (validB (zW, zH, zl)) (p0 + p2) (p1 + p3) 0 0); simp only at this; omega
  rw [only_all HEZ.out (by omega) (by omega)] at hXZ
  have HXZ := Lib.hid hXZ
  clear hXZ n
  have kHBA0 : w11.cell? ⟨w3.heap.size, 0, none⟩ = some (.int .i64 aW) := by rw [cell_of HBA.out]; rfl
  have jHBA0 : ∀ o, (w11.alloc o).cell? ⟨w3.heap.size, 0, none⟩ = some (.int .i64 aW) := fun o => cell_alloc_old o kHBA0
  have kHBA1 : w11.cell? ⟨w3.heap.size, 1, none⟩ = some (.int .i64 aH) := by rw [cell_of HBA.out]; rfl
  have jHBA1 : ∀ o, (w11.alloc o).cell? ⟨w3.heap.size, 1, none⟩ = some (.int .i64 aH) := fun o => cell_alloc_old o kHBA1
  have kHBA2 : w11.cell? ⟨w3.heap.size, 2, none⟩ = some (.slice Aa al.length ca) := by rw [cell_of HBA.out]; rfl
  have jHBA2 : ∀ o, (w11.alloc o).cell? ⟨w3.heap.size, 2, none⟩ = some (.slice Aa al.length ca) := fun o => cell_alloc_old o kHBA2
  have kHBB0 : w11.cell? ⟨w3.heap.size + 1, 0, none⟩ = some (.int .i64 bW) := by rw [cell_of HBB.out]; rfl
  have jHBB0 : ∀ o, (w11.alloc o).cell? ⟨w3.heap.size + 1, 0, none⟩ = some (.int .i64 bW) := fun o => cell_alloc_old o kHBB0
  have kHBB1 : w11.cell? ⟨w3.heap.size + 1, 1, none⟩ = some (.int .i64 bH) := by rw [cell_of HBB.out]; rfl
  have jHBB1 : ∀ o, (w11.alloc o).cell? ⟨w3.heap.size + 1, 1, none⟩ = some (.int .i64 bH) := fun o => cell_alloc_old o kHBB1
  have kHBB2 : w11.cell? ⟨w3.heap.size + 1, 2, none⟩ = some (.slice Ab bl.length cb) := by rw [cell_of HBB.out]; rfl
  have jHBB2 : ∀ o, (w11.alloc o).cell? ⟨w3.heap.size + 1, 2, none⟩ = some (.slice Ab bl.length cb) := fun o => cell_alloc_old o kHBB2
  have kHBS0 : w11.cell? ⟨w7.heap.size, 0, none⟩ = some (.int .i64 p0) := by rw [cell_of HBS.out]; rfl
  have jHBS0 : ∀ o, (w11.alloc o).cell? ⟨w7.heap.size, 0, none⟩ = some (.int .i64 p0) := fun o => cell_alloc_old o kHBS0
  have kHBS1 : w11.cell? ⟨w7.heap.size, 1, none⟩ = some (.int .i64 p1) := by rw [cell_of HBS.out]; rfl
  have jHBS1 : ∀ o, (w11.alloc o).cell? ⟨w7.heap.size, 1, none⟩ = some (.int .i64 p1) := fun o => cell_alloc_old o kHBS1
  have kHBS2 : w11.cell? ⟨w7.heap.size, 2, none⟩ = some (.int .i64 p2) := by rw [cell_of HBS.out]; rfl
  have jHBS2 : ∀ o, (w11.alloc o).cell? ⟨w7.heap.size, 2, none⟩ = some (.int .i64 p2) := fun o => cell_alloc_old o kHBS2
  have kHBS3 : w11.cell? ⟨w7.heap.size, 3, none⟩ = some (.int .i64 p3) := by rw [cell_of HBS.out]; rfl
  have jHBS3 : ∀ o, (w11.alloc o).cell? ⟨w7.heap.size, 3, none⟩ = some (.int .i64 p3) := fun o => cell_alloc_old o kHBS3
  go_wp2_with (go_at_call 3; fail)
  clear kHBA0 jHBA0 kHBA1 jHBA1 kHBA2 jHBA2 kHBB0 jHBB0 kHBB1 jHBB1 kHBB2 jHBB2 kHBS0 jHBS0 kHBS1 jHBS1 kHBS2 jHBS2 kHBS3 jHBS3
  refine Only_any w11.heap.size _ _ (bW, bH, bl) (aW, aH, al) (-p0) (-p1) 0 0 _ _ HIb.out HIa.out (Nat.le_refl _) (by show _ ≤ 1000000000; simp only; omega) ?_
  intro w12 n
  replace NX := Lib.hid (NX.out.trans n)
  replace HB5 := Lib.hid (n.heap HB5.out id)
  replace SZ := Nat.lt_of_lt_of_le SZ n.size
  replace HIa := Lib.hid ((HIa.out.kept n nof).hi n.size)
  replace HIb := Lib.hid ((HIb.out.kept n nof).hi n.size)
  replace HBA := Lib.hid (n.heap HBA.out id)
  replace HBB := Lib.hid (n.heap HBB.out id)
  replace HIz := Lib.hid ((HIz.out.kept n nof).hi n.size)
  replace HBZ := Lib.hid (n.heap HBZ.out id)
  replace HBS := Lib.hid (n.heap HBS.out id)
  obtain ⟨YX, hYX⟩ : ∃ k : Nat, cntD (bW, bH, bl) (onlyP (validB (aW, aH, al)) (-p0) (-p1) 0 0) = k := ⟨_, rfl⟩
  rw [hYX]
  have LYX : YX ≤ 1000 := by have := cntD_len (bW, bH, bl) (onlyP (validB (aW, aH, al)) (-p0) (-p1) 0 0); simp only at this; omega
  rw [only_all HEA.out (by omega) (by omega)] at hYX
  have HYX := Lib.hid hYX
  clear hYX n
  go_upto_region 9 with (fail)
  obtain ⟨CX, hCX⟩ : ∃ k : Nat, cntD (aW, aH, al) (fun _ => true) = k := ⟨_, rfl⟩
  have LCX : CX ≤ 1000 := by have := cntD_len (aW, aH, al) (fun _ => true); simp only at this; omega
  have HCX := Lib.hid hCX
  clear hCX
  obtain ⟨CY, hCY⟩ : ∃ k : Nat, cntD (bW, bH, bl) (fun _ => true) = k := ⟨_, rfl⟩
  have LCY : CY ≤ 1000 := by have := cntD_len (bW, bH, bl) (fun _ => true); simp only at this; omega
  have HCY := Lib.hid hCY
  clear hCY
  have f1 : XZ ≤ XY + YZ := by rw [← HXZ.out, ← HXY.out, ← HYZ.out]; exact counts_sum
  have f2 : (CX : Int) - XY = (CY : Int) - YX := by rw [← HCX.out, ← HXY.out, ← HCY.out, ← HYX.out]; exact counts_both
  have HF3 := Lib.hid (show cntD (aW, aH, al) (onlyP (validB (aW, aH, al)) 0 0 0 0) = 0 from by rw [only_all HEA.out (by omega) (by omega)]; exact counts_self)
  have HF4 := Lib.hid (show cntD (aW, aH, al) (onlyP (validB zeroB) p0 p1 0 0) = CX from by rw [only_all (by decide) (by omega) (by omega), ← HCX.out]; exact counts_none)
  have u1 : IntKind.i64.wrap ((XY : Int) + YZ) = (XY : Int) + YZ := by rw [IntKind.wrap_i64]; omega
  have u2 : IntKind.i64.wrap ((CX : Int) - XY) = (CX : Int) - XY := by rw [IntKind.wrap_i64]; omega
  have u3 : IntKind.i64.wrap ((CY : Int) - YX) = (CX : Int) - XY := by rw [IntKind.wrap_i64]; omega
  have u4 : decide ((XY : Int) + YZ < (XZ : Int)) = false := decide_eq_false (by omega)
  clear f1 f2
  refine wp_named ?_
  intro W13 hW
  have n : Nw w12 W13 := by rw [hW]; first | exact Ch.refl _ _ | exact (Ch.refl _ _).alloc _
  replace NX := Lib.hid (NX.out.trans n)
  replace HB5 := Lib.hid (n.heap HB5.out id)
  replace SZ := Nat.lt_of_lt_of_le SZ n.size
  replace HIa := Lib.hid ((HIa.out.kept n nof).hi n.size)
  replace HIb := Lib.hid ((HIb.out.kept n nof).hi n.size)
  replace HBA := Lib.hid (n.heap HBA.out id)
  replace HBB := Lib.hid (n.heap HBB.out id)
  replace HIz := Lib.hid ((HIz.out.kept n nof).hi n.size)
  replace HBZ := Lib.hid (n.heap HBZ.out id)
  replace HBS := Lib.hid (n.heap HBS.out id)
  clear hW n
  refine wp_region_V (F := fun w' => w'.cell? ⟨w3.heap.size, 0, none⟩ = some (.int .i64 aW) ∧ w'.cell? ⟨w3.heap.size, 1, none⟩ = some (.int .i64 aH) ∧ w'.cell? ⟨w3.heap.size, 2, none⟩ = some (.slice Aa al.length ca) ∧ w'.cell? ⟨w3.heap.size + 1, 0, none⟩ = some (.int .i64 bW) ∧ w'.cell? ⟨w3.heap.size + 1, 1, none⟩ = some (.int .i64 bH) ∧ w'.cell? ⟨w3.heap.size + 1, 2, none⟩ = some (.slice Ab bl.length cb) ∧ w'.cell? ⟨w7.heap.size, 0, none⟩ = some (.int .i64 p0) ∧ w'.cell? ⟨w7.heap.size, 1, none⟩ = some (.int .i64 p1) ∧ w'.cell? ⟨w7.heap.size, 2, none⟩ = some (.int .i64 p2) ∧ w'.cell? ⟨w7.heap.size, 3, none⟩ = some (.int .i64 p3)) (opsOf Tryd.f4 9) 34 34 (by kernel_rfl) (by kernel_rfl) (by kernel_rfl) (fun w w' h n => ⟨n.cell h.1 id, n.cell h.2.1 id, n.cell h.2.2.1 id, n.cell h.2.2.2.1 id, n.cell h.2.2.2.2.1 id, n.cell h.2.2.2.2.2.1 id, n.cell h.2.2.2.2.2.2.1 id, n.cell h.2.2.2.2.2.2.2.1 id, n.cell h.2.2.2.2.2.2.2.2.1 id, n.cell h.2.2.2.2.2.2.2.2.2 id⟩) ⟨by show W13.cell? _ = _; rw [cell_of HBA.out]; rfl, by show W13.cell? _ = _; rw [cell_of HBA.out]; rfl, by show W13.cell? _ = _; rw [cell_of HBA.out]; rfl, by show W13.cell? _ = _; rw [cell_of HBB.out]; rfl, by show W13.cell? _ = _; rw [cell_of HBB.out]; rfl, by show W13.cell? _ = _; rw [cell_of HBB.out]; rfl, by show W13.cell? _ = _; rw [cell_of HBS.out]; rfl, by show W13.cell? _ = _; rw [cell_of HBS.out]; rfl, by show W13.cell? _ = _; rw [cell_of HBS.out]; rfl, by show W13.cell? _ = _; rw [cell_of HBS.out]; rfl⟩ (fun HOPS HCL hHeld => ?_)
  refine wpU_named ?_
  intro W14 hW
  try rw [← hW] at hHeld
  have n : Nw W13 W14 := by rw [hW]; exact (Ch.refl _ _).drew
  replace NX := Lib.hid (NX.out.trans n)
  replace HB5 := Lib.hid (n.heap HB5.out id)
  replace SZ := Nat.lt_of_lt_of_le SZ n.size
  replace HIa := Lib.hid ((HIa.out.kept n nof).hi n.size)
  replace HIb := Lib.hid ((HIb.out.kept n nof).hi n.size)
  replace HBA := Lib.hid (n.heap HBA.out id)
  replace HBB := Lib.hid (n.heap HBB.out id)
  replace HIz := Lib.hid ((HIz.out.kept n nof).hi n.size)
  replace HBZ := Lib.hid (n.heap HBZ.out id)
  replace HBS := Lib.hid (n.heap HBS.out id)
  clear hW n
  first | (refine wpU_takeB (i := 0) (v := ?_) HOPS rfl (by kernel_rfl) (fun _ _ _ h => h) HCL (goes_read (by rfl) ?hy) ?_; case hy => (intro w hSw; (try dsimp only at hSw); go_simp; (try with_reducible rfl))) | (refine wpU_takeB (i := 0) (v := _) HOPS rfl (by kernel_rfl) (fun _ _ _ h => h) HCL (goes_not (by rfl)) ?_)
  try simp only [Act.put, List.getElem_toArray, List.getElem_cons_succ, List.getElem_cons_zero, List.setIfInBounds_toArray, List.set_cons_zero, List.set_cons_succ]
  first | (refine wpU_takeB (i := 1) (v := ?_) HOPS rfl (by kernel_rfl) (fun _ _ _ h => h) HCL (goes_read (by rfl) ?hy) ?_; case hy => (intro w hSw; (try dsimp only at hSw); go_simp; (try with_reducible rfl))) | (refine wpU_takeB (i := 1) (v := _) HOPS rfl (by kernel_rfl) (fun _ _ _ h => h) HCL (goes_not (by rfl)) ?_)
  try simp only [Act.put, List.getElem_toArray, List.getElem_cons_succ, List.getElem_cons_zero, List.setIfInBounds_toArray, List.set_cons_zero, List.set_cons_succ]
  first | (refine wpU_takeB (i := 2) (v := ?_) HOPS rfl (by kernel_rfl) (fun _ _ _ h => h) HCL (goes_read (by rfl) ?hy) ?_; case hy => (intro w hSw; (try dsimp only at hSw); go_simp; (try with_reducible rfl))) | (refine wpU_takeB (i := 2) (v := _) HOPS rfl (by kernel_rfl) (fun _ _ _ h => h) HCL (goes_not (by rfl)) ?_)
  try simp only [Act.put, List.getElem_toArray, List.getElem_cons_succ, List.getElem_cons_zero, List.setIfInBounds_toArray, List.set_cons_zero, List.set_cons_succ]
  first | (refine wpU_takeB (i := 3) (v := ?_) HOPS rfl (by kernel_rfl) (fun _ _ _ h => h) HCL (goes_read (by rfl) ?hy) ?_; case hy => (intro w hSw; (try dsimp only at hSw); go_simp; (try with_reducible rfl))) | (refine wpU_takeB (i := 3) (v := _) HOPS rfl (by kernel_rfl) (fun _ _ _ h => h) HCL (goes_not (by rfl)) ?_)
  try simp only [Act.put, List.getElem_toArray, List.getElem_cons_succ, List.getElem_cons_zero, List.setIfInBounds_toArray, List.set_cons_zero, List.set_cons_succ]
  first | (refine wpU_takeB (i := 4) (v := ?_) HOPS rfl (by kernel_rfl) (fun _ _ _ h => h) HCL (goes_read (by rfl) ?hy) ?_; case hy => (intro w hSw; (try dsimp only at hSw); go_simp; (try with_reducible rfl))) | (refine wpU_takeB (i := 4) (v := _) HOPS rfl (by kernel_rfl) (fun _ _ _ h => h) HCL (goes_not (by rfl)) ?_)
  try simp only [Act.put, List.getElem_toArray, List.getElem_cons_succ, List.getElem_cons_zero, List.setIfInBounds_toArray, List.set_cons_zero, List.set_cons_succ]
  first | (refine wpU_takeB (i := 5) (v := ?_) HOPS rfl (by kernel_rfl) (fun _ _ _ h => h) HCL (goes_read (by rfl) ?hy) ?_; case hy => (intro w hSw; (try dsimp only at hSw); go_simp; (try with_reducible rfl))) | (refine wpU_takeB (i := 5) (v := _) HOPS rfl (by kernel_rfl) (fun _ _ _ h => h) HCL (goes_not (by rfl)) ?_)
  try simp only [Act.put, List.getElem_toArray, List.getElem_cons_succ, List.getElem_cons_zero, List.setIfInBounds_toArray, List.set_cons_zero, List.set_cons_succ]
  first | (refine wpU_takeB (i := 6) (v := ?_) HOPS rfl (by kernel_rfl) (fun _ _ _ h => h) HCL (goes_read (by rfl) ?hy) ?_; case hy => (intro w hSw; (try dsimp only at hSw); go_simp; (try with_reducible rfl))) | (refine wpU_takeB (i := 6) (v := _) HOPS rfl (by kernel_rfl) (fun _ _ _ h => h) HCL (goes_not (by rfl)) ?_)
  try simp only [Act.put, List.getElem_toArray, List.getElem_cons_succ, List.getElem_cons_zero, List.setIfInBounds_toArray, List.set_cons_zero, List.set_cons_succ]
  first | (refine wpU_takeB (i := 8) (v := ?_) HOPS rfl (by kernel_rfl) (fun _ _ _ h => h) HCL (goes_read (by rfl) ?hy) ?_; case hy => (intro w hSw; (try dsimp only at hSw); go_simp; (try with_reducible rfl))) | (refine wpU_takeB (i := 8) (v := _) HOPS rfl (by kernel_rfl) (fun _ _ _ h => h) HCL (goes_not (by rfl)) ?_)
  try simp only [Act.put, List.getElem_toArray, List.getElem_cons_succ, List.getElem_cons_zero, List.setIfInBounds_toArray, List.set_cons_zero, List.set_cons_succ]
  first | (refine wpU_takeB (i := 10) (v := ?_) HOPS rfl (by kernel_rfl) (fun _ _ _ h => h) HCL (goes_read (by rfl) ?hy) ?_; case hy => (intro w hSw; (try dsimp only at hSw); go_simp; (try with_reducible rfl))) | (refine wpU_takeB (i := 10) (v := _) HOPS rfl (by kernel_rfl) (fun _ _ _ h => h) HCL (goes_not (by rfl)) ?_)
  try simp only [Act.put, List.getElem_toArray, List.getElem_cons_succ, List.getElem_cons_zero, List.setIfInBounds_toArray, List.set_cons_zero, List.set_cons_succ]
  first | (refine wpU_takeB (i := 12) (v := ?_) HOPS rfl (by kernel_rfl) (fun _ _ _ h => h) HCL (goes_read (by rfl) ?hy) ?_; case hy => (intro w hSw; (try dsimp only at hSw); go_simp; (try with_reducible rfl))) | (refine wpU_takeB (i := 12) (v := _) HOPS rfl (by kernel_rfl) (fun _ _ _ h => h) HCL (goes_not (by rfl)) ?_)
  try simp only [Act.put, List.getElem_toArray, List.getElem_cons_succ, List.getElem_cons_zero, List.setIfInBounds_toArray, List.set_cons_zero, List.set_cons_succ]
  refine wpU_takeB (i := 7) HOPS rfl (by kernel_rfl) (fun _ _ _ h => h) HCL (goes_fn (v := (.int .i64 (CX : Int))) 19 _ _ _ #[(.agg #[.int .i64 aW, .int .i64 aH, .slice Aa al.length ca])] (by rfl) rfl (by kernel_rfl) (by kernel_rfl) (by kernel_rfl) (fun wq n R hR => ?_)) ?_
  · exact Count_any W14.heap.size _ _ _ _ (HIa.out.kept n nof) n.size (by show _ ≤ 1000000000; simp only; omega) (by rw [HCX.out]; exact hR)
  try simp only [Act.put, List.getElem_toArray, List.getElem_cons_succ, List.getElem_cons_zero, List.setIfInBounds_toArray, List.set_cons_zero, List.set_cons_succ]
  first | (refine wpU_takeB (i := 9) (v := ?_) HOPS rfl (by kernel_rfl) (fun _ _ _ h => h) HCL (goes_read (by rfl) ?hy) ?_; case hy => (intro w hSw; (try dsimp only at hSw); go_simp; (try with_reducible rfl))) | (refine wpU_takeB (i := 9) (v := _) HOPS rfl (by kernel_rfl) (fun _ _ _ h => h) HCL (goes_not (by rfl)) ?_)
  try simp only [Act.put, List.getElem_toArray, List.getElem_cons_succ, List.getElem_cons_zero, List.setIfInBounds_toArray, List.set_cons_zero, List.set_cons_succ]
  refine wpU_takeB (i := 11) HOPS rfl (by kernel_rfl) (fun _ _ _ h => h) HCL (goes_fn (v := (.int .i64 (CY : Int))) 19 _ _ _ #[(.agg #[.int .i64 bW, .int .i64 bH, .slice Ab bl.length cb])] (by rfl) rfl (by kernel_rfl) (by kernel_rfl) (by kernel_rfl) (fun wq n R hR => ?_)) ?_
  · exact Count_any W14.heap.size _ _ _ _ (HIb.out.kept n nof) n.size (by show _ ≤ 1000000000; simp only; omega) (by rw [HCY.out]; exact hR)
  try simp only [Act.put, List.getElem_toArray, List.getElem_cons_succ, List.getElem_cons_zero, List.setIfInBounds_toArray, List.set_cons_zero, List.set_cons_succ]
  first | (refine wpU_takeB (i := 13) (v := ?_) HOPS rfl (by kernel_rfl) (fun _ _ _ h => h) HCL (goes_read (by rfl) ?hy) ?_; case hy => (intro w hSw; (try dsimp only at hSw); go_simp; (try with_reducible rfl))) | (refine wpU_takeB (i := 13) (v := _) HOPS rfl (by kernel_rfl) (fun _ _ _ h => h) HCL (goes_not (by rfl)) ?_)
  try simp only [Act.put, List.getElem_toArray, List.getElem_cons_succ, List.getElem_cons_zero, List.setIfInBounds_toArray, List.set_cons_zero, List.set_cons_succ]
  first | (refine wpU_takeB (i := 14) (v := ?_) HOPS rfl (by kernel_rfl) (fun _ _ _ h => h) HCL (goes_read (by rfl) ?hy) ?_; case hy => (intro w hSw; (try dsimp only at hSw); go_simp; (try with_reducible rfl))) | (refine wpU_takeB (i := 14) (v := _) HOPS rfl (by kernel_rfl) (fun _ _ _ h => h) HCL (goes_not (by rfl)) ?_)
  try simp only [Act.put, List.getElem_toArray, List.getElem_cons_succ, List.getElem_cons_zero, List.setIfInBounds_toArray, List.set_cons_zero, List.set_cons_succ]
  first | (refine wpU_takeB (i := 15) (v := ?_) HOPS rfl (by kernel_rfl) (fun _ _ _ h => h) HCL (goes_read (by rfl) ?hy) ?_; case hy => (intro w hSw; (try dsimp only at hSw); go_simp; (try with_reducible rfl))) | (refine wpU_takeB (i := 15) (v := _) HOPS rfl (by kernel_rfl) (fun _ _ _ h => h) HCL (goes_not (by rfl)) ?_)
  try simp only [Act.put, List.getElem_toArray, List.getElem_cons_succ, List.getElem_cons_zero, List.setIfInBounds_toArray, List.set_cons_zero, List.set_cons_succ]
  first | (refine wpU_takeB (i := 16) (v := ?_) HOPS rfl (by kernel_rfl) (fun _ _ _ h => h) HCL (goes_read (by rfl) ?hy) ?_; case hy => (intro w hSw; (try dsimp only at hSw); go_simp; (try with_reducible rfl))) | (refine wpU_takeB (i := 16) (v := _) HOPS rfl (by kernel_rfl) (fun _ _ _ h => h) HCL (goes_not (by rfl)) ?_)
  try simp only [Act.put, List.getElem_toArray, List.getElem_cons_succ, List.getElem_cons_zero, List.setIfInBounds_toArray, List.set_cons_zero, List.set_cons_succ]
  first | (refine wpU_takeB (i := 17) (v := ?_) HOPS rfl (by kernel_rfl) (fun _ _ _ h => h) HCL (goes_read (by rfl) ?hy) ?_; case hy => (intro w hSw; (try dsimp only at hSw); go_simp; (try with_reducible rfl))) | (refine wpU_takeB (i := 17) (v := _) HOPS rfl (by kernel_rfl) (fun _ _ _ h => h) HCL (goes_not (by rfl)) ?_)
  try simp only [Act.put, List.getElem_toArray, List.getElem_cons_succ, List.getElem_cons_zero, List.setIfInBounds_toArray, List.set_cons_zero, List.set_cons_succ]
  first | (refine wpU_takeB (i := 18) (v := ?_) HOPS rfl (by kernel_rfl) (fun _ _ _ h => h) HCL (goes_read (by rfl) ?hy) ?_; case hy => (intro w hSw; (try dsimp only at hSw); go_simp; (try with_reducible rfl))) | (refine wpU_takeB (i := 18) (v := _) HOPS rfl (by kernel_rfl) (fun _ _ _ h => h) HCL (goes_not (by rfl)) ?_)
  try simp only [Act.put, List.getElem_toArray, List.getElem_cons_succ, List.getElem_cons_zero, List.setIfInBounds_toArray, List.set_cons_zero, List.set_cons_succ]
  refine wpU_takeB (i := 19) HOPS rfl (by kernel_rfl) (fun _ _ _ h => h) HCL (goes_fn (v := (.int .i64 0)) 16 _ _ _ #[(.agg #[.int .i64 aW, .int .i64 aH, .slice Aa al.length ca]), (.agg #[.int .i64 aW, .int .i64 aH, .slice Aa al.length ca]), .int .i64 0, .int .i64 0, .int .i64 0, .int .i64 0] (by rfl) rfl (by kernel_rfl) (by kernel_rfl) (by kernel_rfl) (fun wq n R hR => ?_)) ?_
  · exact Only_any W14.heap.size _ _ (aW, aH, al) (aW, aH, al) 0 0 0 0 _ _ (HIa.out.kept n nof) (HIa.out.kept n nof) n.size (by show _ ≤ 1000000000; simp only; omega) (by rw [HF3.out]; exact hR)
  try simp only [Act.put, List.getElem_toArray, List.getElem_cons_succ, List.getElem_cons_zero, List.setIfInBounds_toArray, List.set_cons_zero, List.set_cons_succ]
  first | (refine wpU_takeB (i := 20) (v := ?_) HOPS rfl (by kernel_rfl) (fun _ _ _ h => h) HCL (goes_read (by rfl) ?hy) ?_; case hy => (intro w hSw; (try dsimp only at hSw); go_simp; (try with_reducible rfl))) | (refine wpU_takeB (i := 20) (v := _) HOPS rfl (by kernel_rfl) (fun _ _ _ h => h) HCL (goes_not (by rfl)) ?_)
  try simp only [Act.put, List.getElem_toArray, List.getElem_cons_succ, List.getElem_cons_zero, List.setIfInBounds_toArray, List.set_cons_zero, List.set_cons_succ]
  first | (refine wpU_takeB (i := 21) (v := ?_) HOPS rfl (by kernel_rfl) (fun _ _ _ h => h) HCL (goes_read (by rfl) ?hy) ?_; case hy => (intro w hSw; (try dsimp only at hSw); go_simp; (try with_reducible rfl))) | (refine wpU_takeB (i := 21) (v := _) HOPS rfl (by kernel_rfl) (fun _ _ _ h => h) HCL (goes_not (by rfl)) ?_)
  try simp only [Act.put, List.getElem_toArray, List.getElem_cons_succ, List.getElem_cons_zero, List.setIfInBounds_toArray, List.set_cons_zero, List.set_cons_succ]
  first | (refine wpU_takeB (i := 22) (v := ?_) HOPS rfl (by kernel_rfl) (fun _ _ _ h => h) HCL (goes_read (by rfl) ?hy) ?_; case hy => (intro w hSw; (try dsimp only at hSw); go_simp; (try with_reducible rfl))) | (refine wpU_takeB (i := 22) (v := _) HOPS rfl (by kernel_rfl) (fun _ _ _ h => h) HCL (goes_not (by rfl)) ?_)
  try simp only [Act.put, List.getElem_toArray, List.getElem_cons_succ, List.getElem_cons_zero, List.setIfInBounds_toArray, List.set_cons_zero, List.set_cons_succ]
  first | (refine wpU_takeB (i := 23) (v := ?_) HOPS rfl (by kernel_rfl) (fun _ _ _ h => h) HCL (goes_read (by rfl) ?hy) ?_; case hy => (intro w hSw; (try dsimp only at hSw); go_simp; (try with_reducible rfl))) | (refine wpU_takeB (i := 23) (v := _) HOPS rfl (by kernel_rfl) (fun _ _ _ h => h) HCL (goes_not (by rfl)) ?_)
  try simp only [Act.put, List.getElem_toArray, List.getElem_cons_succ, List.getElem_cons_zero, List.setIfInBounds_toArray, List.set_cons_zero, List.set_cons_succ]
  first | (refine wpU_takeB (i := 24) (v := ?_) HOPS rfl (by kernel_rfl) (fun _ _ _ h => h) HCL (goes_read (by rfl) ?hy) ?_; case hy => (intro w hSw; (try dsimp only at hSw); go_simp; (try with_reducible rfl))) | (refine wpU_takeB (i := 24) (v := _) HOPS rfl (by kernel_rfl) (fun _ _ _ h => h) HCL (goes_not (by rfl)) ?_)
  try simp only [Act.put, List.getElem_toArray, List.getElem_cons_succ, List.getElem_cons_zero, List.setIfInBounds_toArray, List.set_cons_zero, List.set_cons_succ]
  first | (refine wpU_takeB (i := 25) (v := ?_) HOPS rfl (by kernel_rfl) (fun _ _ _ h => h) HCL (goes_read (by rfl) ?hy) ?_; case hy => (intro w hSw; (try dsimp only at hSw); go_simp; (try with_reducible rfl))) | (refine wpU_takeB (i := 25) (v := _) HOPS rfl (by kernel_rfl) (fun _ _ _ h => h) HCL (goes_not (by rfl)) ?_)
  try simp only [Act.put, List.getElem_toArray, List.getElem_cons_succ, List.getElem_cons_zero, List.setIfInBounds_toArray, List.set_cons_zero, List.set_cons_succ]
  first | (refine wpU_takeB (i := 26) (v := ?_) HOPS rfl (by kernel_rfl) (fun _ _ _ h => h) HCL (goes_read (by rfl) ?hy) ?_; case hy => (intro w hSw; (try dsimp only at hSw); go_simp; (try with_reducible rfl))) | (refine wpU_takeB (i := 26) (v := _) HOPS rfl (by kernel_rfl) (fun _ _ _ h => h) HCL (goes_not (by rfl)) ?_)
  try simp only [Act.put, List.getElem_toArray, List.getElem_cons_succ, List.getElem_cons_zero, List.setIfInBounds_toArray, List.set_cons_zero, List.set_cons_succ]
  first | (refine wpU_takeB (i := 27) (v := ?_) HOPS rfl (by kernel_rfl) (fun _ _ _ h => h) HCL (goes_read (by rfl) ?hy) ?_; case hy => (intro w hSw; (try dsimp only at hSw); go_simp; (try with_reducible rfl))) | (refine wpU_takeB (i := 27) (v := _) HOPS rfl (by kernel_rfl) (fun _ _ _ h => h) HCL (goes_not (by rfl)) ?_)
  try simp only [Act.put, List.getElem_toArray, List.getElem_cons_succ, List.getElem_cons_zero, List.setIfInBounds_toArray, List.set_cons_zero, List.set_cons_succ]
  first | (refine wpU_takeB (i := 28) (v := ?_) HOPS rfl (by kernel_rfl) (fun _ _ _ h => h) HCL (goes_read (by rfl) ?hy) ?_; case hy => (intro w hSw; (try dsimp only at hSw); go_simp; (try with_reducible rfl))) | (refine wpU_takeB (i := 28) (v := _) HOPS rfl (by kernel_rfl) (fun _ _ _ h => h) HCL (goes_not (by rfl)) ?_)
  try simp only [Act.put, List.getElem_toArray, List.getElem_cons_succ, List.getElem_cons_zero, List.setIfInBounds_toArray, List.set_cons_zero, List.set_cons_succ]
  first | (refine wpU_takeB (i := 30) (v := ?_) HOPS rfl (by kernel_rfl) (fun _ _ _ h => h) HCL (goes_read (by rfl) ?hy) ?_; case hy => (intro w hSw; (try dsimp only at hSw); go_simp; (try with_reducible rfl))) | (refine wpU_takeB (i := 30) (v := _) HOPS rfl (by kernel_rfl) (fun _ _ _ h => h) HCL (goes_not (by rfl)) ?_)
  try simp only [Act.put, List.getElem_toArray, List.getElem_cons_succ, List.getElem_cons_zero, List.setIfInBounds_toArray, List.set_cons_zero, List.set_cons_succ]
  refine wpU_takeB (i := 29) HOPS rfl (by kernel_rfl) (fun _ _ _ h => h) HCL (goes_fn (v := (.int .i64 (CX : Int))) 16 _ _ _ #[(.agg #[.int .i64 aW, .int .i64 aH, .slice Aa al.length ca]), (.agg #[.int .i64 0, .int .i64 0, .slice none 0 0]), .int .i64 p0, .int .i64 p1, .int .i64 0, .int .i64 0] (by rfl) rfl (by kernel_rfl) (by kernel_rfl) (by kernel_rfl) (fun wq n R hR => ?_)) ?_
  · exact Only_any W14.heap.size _ _ (aW, aH, al) zeroB p0 p1 0 0 _ _ (HIa.out.kept n nof) (isBm_zero _ _) n.size (by show _ ≤ 1000000000; simp only; omega) (by rw [HF4.out]; exact hR)
  try simp only [Act.put, List.getElem_toArray, List.getElem_cons_succ, List.getElem_cons_zero, List.setIfInBounds_toArray, List.set_cons_zero, List.set_cons_succ]
  refine wpU_takeB (i := 31) HOPS rfl (by kernel_rfl) (fun _ _ _ h => h) HCL (goes_fn (v := (.int .i64 (CX : Int))) 19 _ _ _ #[(.agg #[.int .i64 aW, .int .i64 aH, .slice Aa al.length ca])] (by rfl) rfl (by kernel_rfl) (by kernel_rfl) (by kernel_rfl) (fun wq n R hR => ?_)) ?_
  · exact Count_any W14.heap.size _ _ _ _ (HIa.out.kept n nof) n.size (by show _ ≤ 1000000000; simp only; omega) (by rw [HCX.out]; exact hR)
  try simp only [Act.put, List.getElem_toArray, List.getElem_cons_succ, List.getElem_cons_zero, List.setIfInBounds_toArray, List.set_cons_zero, List.set_cons_succ]
  first | (refine wpU_takeB (i := 32) (v := ?_) HOPS rfl (by kernel_rfl) (fun _ _ _ h => h) HCL (goes_read (by rfl) ?hy) ?_; case hy => (intro w hSw; (try dsimp only at hSw); go_simp; (try with_reducible rfl))) | (refine wpU_takeB (i := 32) (v := _) HOPS rfl (by kernel_rfl) (fun _ _ _ h => h) HCL (goes_not (by rfl)) ?_)
  try simp only [Act.put, List.getElem_toArray, List.getElem_cons_succ, List.getElem_cons_zero, List.setIfInBounds_toArray, List.set_cons_zero, List.set_cons_succ]
  first | (refine wpU_takeB (i := 33) (v := ?_) HOPS rfl (by kernel_rfl) (fun _ _ _ h => h) HCL (goes_read (by rfl) ?hy) ?_; case hy => (intro w hSw; (try dsimp only at hSw); go_simp; (try with_reducible rfl))) | (refine wpU_takeB (i := 33) (v := _) HOPS rfl (by kernel_rfl) (fun _ _ _ h => h) HCL (goes_not (by rfl)) ?_)
  try simp only [Act.put, List.getElem_toArray, List.getElem_cons_succ, List.getElem_cons_zero, List.setIfInBounds_toArray, List.set_cons_zero, List.set_cons_succ]
  refine wpU_done (by kernel_rfl) (fun w15 hle => ?_) _
  have n := (hle.ahead (by kernel_rfl)).1
  replace NX := Lib.hid (NX.out.trans n)
  replace HB5 := Lib.hid (n.heap HB5.out id)
  replace SZ := Nat.lt_of_lt_of_le SZ n.size
  replace HIa := Lib.hid ((HIa.out.kept n nof).hi n.size)
  replace HIb := Lib.hid ((HIb.out.kept n nof).hi n.size)
  replace HBA := Lib.hid (n.heap HBA.out id)
  replace HBB := Lib.hid (n.heap HBB.out id)
  replace HIz := Lib.hid ((HIz.out.kept n nof).hi n.size)
  replace HBZ := Lib.hid (n.heap HBZ.out id)
  replace HBS := Lib.hid (n.heap HBS.out id)
  clear n
  clear HOPS HCL hle
  repeat clear hHeld
  clear u1 u2 u3 u4 HF3 HF4
  have kHB50 : w15.cell? ⟨w.heap.size + 1, 0, none⟩ = some (.int .i64 q0) := by rw [cell_of HB5.out]; rfl
  have jHB50 : ∀ o, (w15.alloc o).cell? ⟨w.heap.size + 1, 0, none⟩ = some (.int .i64 q0) := fun o => cell_alloc_old o kHB50
  have kHB51 : w15.cell? ⟨w.heap.size + 1, 1, none⟩ = some (.int .i64 q1) := by rw [cell_of HB5.out]; rfl
  have jHB51 : ∀ o, (w15.alloc o).cell? ⟨w.heap.size + 1, 1, none⟩ = some (.int .i64 q1) := fun o => cell_alloc_old o kHB51
  go_wp2_with (first | (go_at_call 20; fail))
  clear kHB50 jHB50 kHB51 jHB51
  refine Mod_any q0 20 _ _ (HQ.out _ (by simp)) (by omega) (by omega) ?_
  obtain ⟨qa, hqa⟩ : ∃ a, q0 % 20 = a := ⟨_, rfl⟩
  have qa0 : 0 ≤ qa ∧ qa < 20 := by omega
  obtain ⟨qa0, qa1⟩ := qa0
  rw [hqa]
  clear hqa
  have kHB50 : w15.cell? ⟨w.heap.size + 1, 0, none⟩ = some (.int .i64 q0) := by rw [cell_of HB5.out]; rfl
  have jHB50 : ∀ o, (w15.alloc o).cell? ⟨w.heap.size + 1, 0, none⟩ = some (.int .i64 q0) := fun o => cell_alloc_old o kHB50
  have kHB51 : w15.cell? ⟨w.heap.size + 1, 1, none⟩ = some (.int .i64 q1) := by rw [cell_of HB5.out]; rfl
  have jHB51 : ∀ o, (w15.alloc o).cell? ⟨w.heap.size + 1, 1, none⟩ = some (.int .i64 q1) := fun o => cell_alloc_old o kHB51
  go_wp2_with (first | (go_at_call 20; fail))
  clear kHB50 jHB50 kHB51 jHB51
  refine Mod_any q1 8 _ _ (HQ.out _ (by simp)) (by omega) (by omega) ?_
  obtain ⟨qb, hqb⟩ : ∃ a, q1 % 8 = a := ⟨_, rfl⟩
  have qb0 : 0 ≤ qb ∧ qb < 8 := by omega
  obtain ⟨qb0, qb1⟩ := qb0
  rw [hqb]
  clear hqb
  obtain ⟨tl, htl⟩ : ∃ a, qa - 2 + qb = a := ⟨_, rfl⟩
  obtain ⟨fr, hfr⟩ : ∃ a, qa - 2 = a := ⟨_, rfl⟩
  obtain ⟨wd, ewd⟩ : ∃ k : Int, max (tl - fr) 0 = k := ⟨_, rfl⟩
  have wd0 : 0 ≤ wd ∧ wd ≤ 7 := by omega
  obtain ⟨wd0, wd1⟩ := wd0
  have fr0 : -2 ≤ fr ∧ fr ≤ 17 := by omega
  obtain ⟨fr0, fr1⟩ := fr0
  have tl0 : -2 ≤ tl ∧ tl ≤ 24 := by omega
  obtain ⟨tl0, tl1⟩ := tl0
  rw [hfr] at htl
  have kHBA0 : w15.cell? ⟨w3.heap.size, 0, none⟩ = some (.int .i64 aW) := by rw [cell_of HBA.out]; rfl
  have jHBA0 : ∀ o, (w15.alloc o).cell? ⟨w3.heap.size, 0, none⟩ = some (.int .i64 aW) := fun o => cell_alloc_old o kHBA0
  have kHBA1 : w15.cell? ⟨w3.heap.size, 1, none⟩ = some (.int .i64 aH) := by rw [cell_of HBA.out]; rfl
  have jHBA1 : ∀ o, (w15.alloc o).cell? ⟨w3.heap.size, 1, none⟩ = some (.int .i64 aH) := fun o => cell_alloc_old o kHBA1
  have kHBA2 : w15.cell? ⟨w3.heap.size, 2, none⟩ = some (.slice Aa al.length ca) := by rw [cell_of HBA.out]; rfl
  have jHBA2 : ∀ o, (w15.alloc o).cell? ⟨w3.heap.size, 2, none⟩ = some (.slice Aa al.length ca) := fun o => cell_alloc_old o kHBA2
  have kHBB0 : w15.cell? ⟨w3.heap.size + 1, 0, none⟩ = some (.int .i64 bW) := by rw [cell_of HBB.out]; rfl
  have jHBB0 : ∀ o, (w15.alloc o).cell? ⟨w3.heap.size + 1, 0, none⟩ = some (.int .i64 bW) := fun o => cell_alloc_old o kHBB0
  have kHBB1 : w15.cell? ⟨w3.heap.size + 1, 1, none⟩ = some (.int .i64 bH) := by rw [cell_of HBB.out]; rfl
  have jHBB1 : ∀ o, (w15.alloc o).cell? ⟨w3.heap.size + 1, 1, none⟩ = some (.int .i64 bH) := fun o => cell_alloc_old o kHBB1
  have kHBB2 : w15.cell? ⟨w3.heap.size + 1, 2, none⟩ = some (.slice Ab bl.length cb) := by rw [cell_of HBB.out]; rfl
  have jHBB2 : ∀ o, (w15.alloc o).cell? ⟨w3.heap.size + 1, 2, none⟩ = some (.slice Ab bl.length cb) := fun o => cell_alloc_old o kHBB2
  go_wp2_with (go_at_call 3; fail)
  clear kHBA0 jHBA0 kHBA1 jHBA1 kHBA2 jHBA2 kHBB0 jHBB0 kHBB1 jHBB1 kHBB2 jHBB2
  refine bCrop_any w15.heap.size _ (aW, aH, al) (fr) (0) wd aH _ _ HIa.out (Nat.le_refl _) (by unfold wfI; omega) (by unfold wfI; omega) (by unfold wfI; omega) (by unfold wfI; omega) ?_
  intro w16 v hi n
  replace NX := Lib.hid (NX.out.trans n)
  replace HB5 := Lib.hid (n.heap HB5.out id)
  replace SZ := Nat.lt_of_lt_of_le SZ n.size
  replace HIa := Lib.hid ((HIa.out.kept n nof).hi n.size)
  replace HIb := Lib.hid ((HIb.out.kept n nof).hi n.size)
  replace HBA := Lib.hid (n.heap HBA.out id)
  replace HBB := Lib.hid (n.heap HBB.out id)
  replace HIz := Lib.hid ((HIz.out.kept n nof).hi n.size)
  replace HBZ := Lib.hid (n.heap HBZ.out id)
  replace HBS := Lib.hid (n.heap HBS.out id)
  obtain ⟨hc1, hc2, hc3, hc4⟩ := crop_e (x := fr) (y := 0) (w := wd) (h' := aH) HEA.out (by omega) (by omega)
  rw [hc1]
  obtain ⟨Cg, hCg⟩ : ∃ C, (cropM (aW, aH, al) (fr) (0) wd aH).1 = C := ⟨_, rfl⟩
  rw [hCg] at hi hc2 hc3 hc4
  have HCg := Lib.hid hCg
  have HEg := Lib.hid hc4
  clear hc1 hCg
  obtain ⟨gW, gH, gl⟩ := Cg
  simp only at hc2 hc3
  subst gW gH
  obtain ⟨Ag, cg, rfl, hI⟩ := isBm_formN (W := wd) (H := aH) (n := gl.length) hi rfl rfl rfl
  have HIg := Lib.hid hI
  have Lg := bmE_len hc4
  simp only at Lg
  clear hi hI n hc4
  have kHBB0 : w16.cell? ⟨w3.heap.size + 1, 0, none⟩ = some (.int .i64 bW) := by rw [cell_of HBB.out]; rfl
  have jHBB0 : ∀ o, (w16.alloc o).cell? ⟨w3.heap.size + 1, 0, none⟩ = some (.int .i64 bW) := fun o => cell_alloc_old o kHBB0
  have kHBB1 : w16.cell? ⟨w3.heap.size + 1, 1, none⟩ = some (.int .i64 bH) := by rw [cell_of HBB.out]; rfl
  have jHBB1 : ∀ o, (w16.alloc o).cell? ⟨w3.heap.size + 1, 1, none⟩ = some (.int .i64 bH) := fun o => cell_alloc_old o kHBB1
  have kHBB2 : w16.cell? ⟨w3.heap.size + 1, 2, none⟩ = some (.slice Ab bl.length cb) := by rw [cell_of HBB.out]; rfl
  have jHBB2 : ∀ o, (w16.alloc o).cell? ⟨w3.heap.size + 1, 2, none⟩ = some (.slice Ab bl.length cb) := fun o => cell_alloc_old o kHBB2
  have kHBA0 : w16.cell? ⟨w3.heap.size, 0, none⟩ = some (.int .i64 aW) := by rw [cell_of HBA.out]; rfl
  have jHBA0 : ∀ o, (w16.alloc o).cell? ⟨w3.heap.size, 0, none⟩ = some (.int .i64 aW) := fun o => cell_alloc_old o kHBA0
  have kHBA1 : w16.cell? ⟨w3.heap.size, 1, none⟩ = some (.int .i64 aH) := by rw [cell_of HBA.out]; rfl
  have jHBA1 : ∀ o, (w16.alloc o).cell? ⟨w3.heap.size, 1, none⟩ = some (.int .i64 aH) := fun o => cell_alloc_old o kHBA1
  have kHBA2 : w16.cell? ⟨w3.heap.size, 2, none⟩ = some (.slice Aa al.length ca) := by rw [cell_of HBA.out]; rfl
  have jHBA2 : ∀ o, (w16.alloc o).cell? ⟨w3.heap.size, 2, none⟩ = some (.slice Aa al.length ca) := fun o => cell_alloc_old o kHBA2
  have kHBS0 : w16.cell? ⟨w7.heap.size, 0, none⟩ = some (.int .i64 p0) := by rw [cell_of HBS.out]; rfl
  have jHBS0 : ∀ o, (w16.alloc o).cell? ⟨w7.heap.size, 0, none⟩ = some (.int .i64 p0) := fun o => cell_alloc_old o kHBS0
  have kHBS1 : w16.cell? ⟨w7.heap.size, 1, none⟩ = some (.int .i64 p1) := by rw [cell_of HBS.out]; rfl
  have jHBS1 : ∀ o, (w16.alloc o).cell? ⟨w7.heap.size, 1, none⟩ = some (.int .i64 p1) := fun o => cell_alloc_old o kHBS1
  have kHBS2 : w16.cell? ⟨w7.heap.size, 2, none⟩ = some (.int .i64 p2) := by rw [cell_of HBS.out]; rfl
  have jHBS2 : ∀ o, (w16.alloc o).cell? ⟨w7.heap.size, 2, none⟩ = some (.int .i64 p2) := fun o => cell_alloc_old o kHBS2
  have kHBS3 : w16.cell? ⟨w7.heap.size, 3, none⟩ = some (.int .i64 p3) := by rw [cell_of HBS.out]; rfl
  have jHBS3 : ∀ o, (w16.alloc o).cell? ⟨w7.heap.size, 3, none⟩ = some (.int .i64 p3) := fun o => cell_alloc_old o kHBS3
  go_wp2_with (go_at_call 3; fail)
  clear kHBB0 jHBB0 kHBB1 jHBB1 kHBB2 jHBB2 kHBA0 jHBA0 kHBA1 jHBA1 kHBA2 jHBA2 kHBS0 jHBS0 kHBS1 jHBS1 kHBS2 jHBS2 kHBS3 jHBS3
  refine Calls_nm ?_
  intro W17 hW
  have n : Nw w16 W17 := by rw [hW]; exact (Ch.refl _ _).alloc _
  replace NX := Lib.hid (NX.out.trans n)
  replace HB5 := Lib.hid (n.heap HB5.out id)
  replace SZ := Nat.lt_of_lt_of_le SZ n.size
  replace HIa := Lib.hid ((HIa.out.kept n nof).hi n.size)
  replace HIb := Lib.hid ((HIb.out.kept n nof).hi n.size)
  replace HBA := Lib.hid (n.heap HBA.out id)
  replace HBB := Lib.hid (n.heap HBB.out id)
  replace HIz := Lib.hid ((HIz.out.kept n nof).hi n.size)
  replace HBZ := Lib.hid (n.heap HBZ.out id)
  replace HBS := Lib.hid (n.heap HBS.out id)
  replace HIg := Lib.hid ((HIg.out.kept n nof).hi n.size)
  have HBg := Lib.hid (show W17.heap[w16.heap.size]? = some (.cells #[.int .i64 wd, .int .i64 aH, .slice Ag gl.length cg] 28 (0, 0)) from by rw [hW]; exact heap_alloc_eq _ rfl)
  clear hW n
  refine bCrop_any W17.heap.size _ (bW, bH, bl) (fr - p0) (-p1) wd aH _ _ HIb.out (Nat.le_refl _) (by unfold wfI; omega) (by unfold wfI; omega) (by unfold wfI; omega) (by unfold wfI; omega) ?_
  intro w18 v hi n
  replace NX := Lib.hid (NX.out.trans n)
  replace HB5 := Lib.hid (n.heap HB5.out id)
  replace SZ := Nat.lt_of_lt_of_le SZ n.size
  replace HIa := Lib.hid ((HIa.out.kept n nof).hi n.size)
  replace HIb := Lib.hid ((HIb.out.kept n nof).hi n.size)
  replace HBA := Lib.hid (n.heap HBA.out id)
  replace HBB := Lib.hid (n.heap HBB.out id)
  replace HIz := Lib.hid ((HIz.out.kept n nof).hi n.size)
  replace HBZ := Lib.hid (n.heap HBZ.out id)
  replace HBS := Lib.hid (n.heap HBS.out id)
  replace HIg := Lib.hid ((HIg.out.kept n nof).hi n.size)
  replace HBg := Lib.hid (n.heap HBg.out id)
  obtain ⟨hc1, hc2, hc3, hc4⟩ := crop_e (x := fr - p0) (y := -p1) (w := wd) (h' := aH) HEB.out (by omega) (by omega)
  rw [hc1]
  obtain ⟨Ck, hCk⟩ : ∃ C, (cropM (bW, bH, bl) (fr - p0) (-p1) wd aH).1 = C := ⟨_, rfl⟩
  rw [hCk] at hi hc2 hc3 hc4
  have HCk := Lib.hid hCk
  have HEk := Lib.hid hc4
  clear hc1 hCk
  obtain ⟨kW, kH, kl⟩ := Ck
  simp only at hc2 hc3
  subst kW kH
  obtain ⟨Ak, ck, rfl, hI⟩ := isBm_formN (W := wd) (H := aH) (n := kl.length) hi rfl rfl rfl
  have HIk := Lib.hid hI
  have Lk := bmE_len hc4
  simp only at Lk
  clear hi hI n hc4
  go_upto_region 16 with (fail)
  refine wp_named ?_
  intro W19 hW
  have n : Nw w18 W19 := by rw [hW]; exact (Ch.refl _ _).alloc _
  replace NX := Lib.hid (NX.out.trans n)
  replace HB5 := Lib.hid (n.heap HB5.out id)
  replace SZ := Nat.lt_of_lt_of_le SZ n.size
  replace HIa := Lib.hid ((HIa.out.kept n nof).hi n.size)
  replace HIb := Lib.hid ((HIb.out.kept n nof).hi n.size)
  replace HBA := Lib.hid (n.heap HBA.out id)
  replace HBB := Lib.hid (n.heap HBB.out id)
  replace HIz := Lib.hid ((HIz.out.kept n nof).hi n.size)
  replace HBZ := Lib.hid (n.heap HBZ.out id)
  replace HBS := Lib.hid (n.heap HBS.out id)
  replace HIg := Lib.hid ((HIg.out.kept n nof).hi n.size)
  replace HBg := Lib.hid (n.heap HBg.out id)
  replace HIk := Lib.hid ((HIk.out.kept n nof).hi n.size)
  have HBk := Lib.hid (show W19.heap[w18.heap.size]? = some (.cells #[.int .i64 wd, .int .i64 aH, .slice Ak kl.length ck] 28 (0, 0)) from by rw [hW]; exact heap_alloc_eq _ rfl)
  clear hW n
  obtain ⟨SS, hSS⟩ : ∃ k : Nat, cntD (wd, aH, gl) (onlyP (validB (wd, aH, kl)) 0 0 0 0) = k := ⟨_, rfl⟩
  obtain ⟨RR, hRR⟩ : ∃ k : Nat, cntD (aW, aH, al) (onlyP (validB (bW, bH, bl)) p0 p1 fr tl) = k := ⟨_, rfl⟩
  have LSS : SS ≤ 10000 := by have := cntD_len (wd, aH, gl) (onlyP (validB (wd, aH, kl)) 0 0 0 0); simp only at this; omega
  have f5 : (RR : Int) = (XY : Int) - SS := by
    have h := counts_strip (x := (aW, aH, al)) (y := (bW, bH, bl)) HEA.out HEB.out (p0 := p0) (p1 := p1) (f := fr) (t := tl) (w := wd) (by omega) (by omega) (by omega) (by omega) ewd.symm
    rw [← hRR, ← hSS, ← HXY.out, only_cols HEB.out (by omega) (by omega), only_all HEk.out (by omega) (by omega)]
    rw [HCg.out, HCk.out] at h
    exact h
  have HSS := Lib.hid hSS
  have HRR := Lib.hid hRR
  have u1 : IntKind.i64.wrap ((XY : Int) - SS) = (RR : Int) := by rw [IntKind.wrap_i64]; omega
  clear hSS hRR f5
  refine wp_named ?_
  intro W20 hW
  have n : Nw W19 W20 := by rw [hW]; first | exact Ch.refl _ _ | exact (Ch.refl _ _).alloc _
  replace NX := Lib.hid (NX.out.trans n)
  replace HB5 := Lib.hid (n.heap HB5.out id)
  replace SZ := Nat.lt_of_lt_of_le SZ n.size
  replace HIa := Lib.hid ((HIa.out.kept n nof).hi n.size)
  replace HIb := Lib.hid ((HIb.out.kept n nof).hi n.size)
  replace HBA := Lib.hid (n.heap HBA.out id)
  replace HBB := Lib.hid (n.heap HBB.out id)
  replace HIz := Lib.hid ((HIz.out.kept n nof).hi n.size)
  replace HBZ := Lib.hid (n.heap HBZ.out id)
  replace HBS := Lib.hid (n.heap HBS.out id)
  replace HIg := Lib.hid ((HIg.out.kept n nof).hi n.size)
  replace HBg := Lib.hid (n.heap HBg.out id)
  replace HIk := Lib.hid ((HIk.out.kept n nof).hi n.size)
  replace HBk := Lib.hid (n.heap HBk.out id)
  clear hW n
  refine wp_region_V (F := fun w' => w'.cell? ⟨w3.heap.size, 0, none⟩ = some (.int .i64 aW) ∧ w'.cell? ⟨w3.heap.size, 1, none⟩ = some (.int .i64 aH) ∧ w'.cell? ⟨w3.heap.size, 2, none⟩ = some (.slice Aa al.length ca) ∧ w'.cell? ⟨w3.heap.size + 1, 0, none⟩ = some (.int .i64 bW) ∧ w'.cell? ⟨w3.heap.size + 1, 1, none⟩ = some (.int .i64 bH) ∧ w'.cell? ⟨w3.heap.size + 1, 2, none⟩ = some (.slice Ab bl.length cb) ∧ w'.cell? ⟨w7.heap.size, 0, none⟩ = some (.int .i64 p0) ∧ w'.cell? ⟨w7.heap.size, 1, none⟩ = some (.int .i64 p1) ∧ w'.cell? ⟨w7.heap.size, 2, none⟩ = some (.int .i64 p2) ∧ w'.cell? ⟨w7.heap.size, 3, none⟩ = some (.int .i64 p3) ∧ w'.cell? ⟨w16.heap.size, 0, none⟩ = some (.int .i64 wd) ∧ w'.cell? ⟨w16.heap.size, 1, none⟩ = some (.int .i64 aH) ∧ w'.cell? ⟨w16.heap.size, 2, none⟩ = some (.slice Ag gl.length cg) ∧ w'.cell? ⟨w18.heap.size, 0, none⟩ = some (.int .i64 wd) ∧ w'.cell? ⟨w18.heap.size, 1, none⟩ = some (.int .i64 aH) ∧ w'.cell? ⟨w18.heap.size, 2, none⟩ = some (.slice Ak kl.length ck)) (opsOf Tryd.f4 16) 27 27 (by kernel_rfl) (by kernel_rfl) (by kernel_rfl) (fun w w' h n => ⟨n.cell h.1 id, n.cell h.2.1 id, n.cell h.2.2.1 id, n.cell h.2.2.2.1 id, n.cell h.2.2.2.2.1 id, n.cell h.2.2.2.2.2.1 id, n.cell h.2.2.2.2.2.2.1 id, n.cell h.2.2.2.2.2.2.2.1 id, n.cell h.2.2.2.2.2.2.2.2.1 id, n.cell h.2.2.2.2.2.2.2.2.2.1 id, n.cell h.2.2.2.2.2.2.2.2.2.2.1 id, n.cell h.2.2.2.2.2.2.2.2.2.2.2.1 id, n.cell h.2.2.2.2.2.2.2.2.2.2.2.2.1 id, n.cell h.2.2.2.2.2.2.2.2.2.2.2.2.2.1 id, n.cell h.2.2.2.2.2.2.2.2.2.2.2.2.2.2.1 id, n.cell h.2.2.2.2.2.2.2.2.2.2.2.2.2.2.2 id⟩) ⟨by show W20.cell? _ = _; rw [cell_of HBA.out]; rfl, by show W20.cell? _ = _; rw [cell_of HBA.out]; rfl, by show W20.cell? _ = _; rw [cell_of HBA.out]; rfl, by show W20.cell? _ = _; rw [cell_of HBB.out]; rfl, by show W20.cell? _ = _; rw [cell_of HBB.out]; rfl, by show W20.cell? _ = _; rw [cell_of HBB.out]; rfl, by show W20.cell? _ = _; rw [cell_of HBS.out]; rfl, by show W20.cell? _ = _; rw [cell_of HBS.out]; rfl, by show W20.cell? _ = _; rw [cell_of HBS.out]; rfl, by show W20.cell? _ = _; rw [cell_of HBS.out]; rfl, by show W20.cell? _ = _; rw [cell_of HBg.out]; rfl, by show W20.cell? _ = _; rw [cell_of HBg.out]; rfl, by show W20.cell? _ = _; rw [cell_of HBg.out]; rfl, by show W20.cell? _ = _; rw [cell_of HBk.out]; rfl, by show W20.cell? _ = _; rw [cell_of HBk.out]; rfl, by show W20.cell? _ = _; rw [cell_of HBk.out]; rfl⟩ (fun HOPS HCL hHeld => ?_)
  refine wpU_named ?_
  intro W21 hW
  try rw [← hW] at hHeld
  have n : Nw W20 W21 := by rw [hW]; exact (Ch.refl _ _).drew
  replace NX := Lib.hid (NX.out.trans n)
  replace HB5 := Lib.hid (n.heap HB5.out id)
  replace SZ := Nat.lt_of_lt_of_le SZ n.size
  replace HIa := Lib.hid ((HIa.out.kept n nof).hi n.size)
  replace HIb := Lib.hid ((HIb.out.kept n nof).hi n.size)
  replace HBA := Lib.hid (n.heap HBA.out id)
  replace HBB := Lib.hid (n.heap HBB.out id)
  replace HIz := Lib.hid ((HIz.out.kept n nof).hi n.size)
  replace HBZ := Lib.hid (n.heap HBZ.out id)
  replace HBS := Lib.hid (n.heap HBS.out id)
  replace HIg := Lib.hid ((HIg.out.kept n nof).hi n.size)
  replace HBg := Lib.hid (n.heap HBg.out id)
  replace HIk := Lib.hid ((HIk.out.kept n nof).hi n.size)
  replace HBk := Lib.hid (n.heap HBk.out id)
  clear hW n
  first | (refine wpU_takeB (i := 0) (v := ?_) HOPS rfl (by kernel_rfl) (fun _ _ _ h => h) HCL (goes_read (by rfl) ?hy) ?_; case hy => (intro w hSw; (try dsimp only at hSw); go_simp; (try with_reducible rfl))) | (refine wpU_takeB (i := 0) (v := _) HOPS rfl (by kernel_rfl) (fun _ _ _ h => h) HCL (goes_not (by rfl)) ?_)
  try simp only [Act.put, List.getElem_toArray, List.getElem_cons_succ, List.getElem_cons_zero, List.setIfInBounds_toArray, List.set_cons_zero, List.set_cons_succ]
  first | (refine wpU_takeB (i := 1) (v := ?_) HOPS rfl (by kernel_rfl) (fun _ _ _ h => h) HCL (goes_read (by rfl) ?hy) ?_; case hy => (intro w hSw; (try dsimp only at hSw); go_simp; (try with_reducible rfl))) | (refine wpU_takeB (i := 1) (v := _) HOPS rfl (by kernel_rfl) (fun _ _ _ h => h) HCL (goes_not (by rfl)) ?_)
  try simp only [Act.put, List.getElem_toArray, List.getElem_cons_succ, List.getElem_cons_zero, List.setIfInBounds_toArray, List.set_cons_zero, List.set_cons_succ]
  first | (refine wpU_takeB (i := 2) (v := ?_) HOPS rfl (by kernel_rfl) (fun _ _ _ h => h) HCL (goes_read (by rfl) ?hy) ?_; case hy => (intro w hSw; (try dsimp only at hSw); go_simp; (try with_reducible rfl))) | (refine wpU_takeB (i := 2) (v := _) HOPS rfl (by kernel_rfl) (fun _ _ _ h => h) HCL (goes_not (by rfl)) ?_)
  try simp only [Act.put, List.getElem_toArray, List.getElem_cons_succ, List.getElem_cons_zero, List.setIfInBounds_toArray, List.set_cons_zero, List.set_cons_succ]
  first | (refine wpU_takeB (i := 3) (v := ?_) HOPS rfl (by kernel_rfl) (fun _ _ _ h => h) HCL (goes_read (by rfl) ?hy) ?_; case hy => (intro w hSw; (try dsimp only at hSw); go_simp; (try with_reducible rfl))) | (refine wpU_takeB (i := 3) (v := _) HOPS rfl (by kernel_rfl) (fun _ _ _ h => h) HCL (goes_not (by rfl)) ?_)
  try simp only [Act.put, List.getElem_toArray, List.getElem_cons_succ, List.getElem_cons_zero, List.setIfInBounds_toArray, List.set_cons_zero, List.set_cons_succ]
  first | (refine wpU_takeB (i := 4) (v := ?_) HOPS rfl (by kernel_rfl) (fun _ _ _ h => h) HCL (goes_read (by rfl) ?hy) ?_; case hy => (intro w hSw; (try dsimp only at hSw); go_simp; (try with_reducible rfl))) | (refine wpU_takeB (i := 4) (v := _) HOPS rfl (by kernel_rfl) (fun _ _ _ h => h) HCL (goes_not (by rfl)) ?_)
  try simp only [Act.put, List.getElem_toArray, List.getElem_cons_succ, List.getElem_cons_zero, List.setIfInBounds_toArray, List.set_cons_zero, List.set_cons_succ]
  first | (refine wpU_takeB (i := 5) (v := ?_) HOPS rfl (by kernel_rfl) (fun _ _ _ h => h) HCL (goes_read (by rfl) ?hy) ?_; case hy => (intro w hSw; (try dsimp only at hSw); go_simp; (try with_reducible rfl))) | (refine wpU_takeB (i := 5) (v := _) HOPS rfl (by kernel_rfl) (fun _ _ _ h => h) HCL (goes_not (by rfl)) ?_)
  try simp only [Act.put, List.getElem_toArray, List.getElem_cons_succ, List.getElem_cons_zero, List.setIfInBounds_toArray, List.set_cons_zero, List.set_cons_succ]
  first | (refine wpU_takeB (i := 6) (v := ?_) HOPS rfl (by kernel_rfl) (fun _ _ _ h => h) HCL (goes_read (by rfl) ?hy) ?_; case hy => (intro w hSw; (try dsimp only at hSw); go_simp; (try with_reducible rfl))) | (refine wpU_takeB (i := 6) (v := _) HOPS rfl (by kernel_rfl) (fun _ _ _ h => h) HCL (goes_not (by rfl)) ?_)
  try simp only [Act.put, List.getElem_toArray, List.getElem_cons_succ, List.getElem_cons_zero, List.setIfInBounds_toArray, List.set_cons_zero, List.set_cons_succ]
  first | (refine wpU_takeB (i := 7) (v := ?_) HOPS rfl (by kernel_rfl) (fun _ _ _ h => h) HCL (goes_read (by rfl) ?hy) ?_; case hy => (intro w hSw; (try dsimp only at hSw); go_simp; (try with_reducible rfl))) | (refine wpU_takeB (i := 7) (v := _) HOPS rfl (by kernel_rfl) (fun _ _ _ h => h) HCL (goes_not (by rfl)) ?_)
  try simp only [Act.put, List.getElem_toArray, List.getElem_cons_succ, List.getElem_cons_zero, List.setIfInBounds_toArray, List.set_cons_zero, List.set_cons_succ]
  first | (refine wpU_takeB (i := 8) (v := ?_) HOPS rfl (by kernel_rfl) (fun _ _ _ h => h) HCL (goes_read (by rfl) ?hy) ?_; case hy => (intro w hSw; (try dsimp only at hSw); go_simp; (try with_reducible rfl))) | (refine wpU_takeB (i := 8) (v := _) HOPS rfl (by kernel_rfl) (fun _ _ _ h => h) HCL (goes_not (by rfl)) ?_)
  try simp only [Act.put, List.getElem_toArray, List.getElem_cons_succ, List.getElem_cons_zero, List.setIfInBounds_toArray, List.set_cons_zero, List.set_cons_succ]
  first | (refine wpU_takeB (i := 9) (v := ?_) HOPS rfl (by kernel_rfl) (fun _ _ _ h => h) HCL (goes_read (by rfl) ?hy) ?_; case hy => (intro w hSw; (try dsimp only at hSw); go_simp; (try with_reducible rfl))) | (refine wpU_takeB (i := 9) (v := _) HOPS rfl (by kernel_rfl) (fun _ _ _ h => h) HCL (goes_not (by rfl)) ?_)
  try simp only [Act.put, List.getElem_toArray, List.getElem_cons_succ, List.getElem_cons_zero, List.setIfInBounds_toArray, List.set_cons_zero, List.set_cons_succ]
  first | (refine wpU_takeB (i := 10) (v := ?_) HOPS rfl (by kernel_rfl) (fun _ _ _ h => h) HCL (goes_read (by rfl) ?hy) ?_; case hy => (intro w hSw; (try dsimp only at hSw); go_simp; (try with_reducible rfl))) | (refine wpU_takeB (i := 10) (v := _) HOPS rfl (by kernel_rfl) (fun _ _ _ h => h) HCL (goes_not (by rfl)) ?_)
  try simp only [Act.put, List.getElem_toArray, List.getElem_cons_succ, List.getElem_cons_zero, List.setIfInBounds_toArray, List.set_cons_zero, List.set_cons_succ]
  first | (refine wpU_takeB (i := 11) (v := ?_) HOPS rfl (by kernel_rfl) (fun _ _ _ h => h) HCL (goes_read (by rfl) ?hy) ?_; case hy => (intro w hSw; (try dsimp only at hSw); go_simp; (try with_reducible rfl))) | (refine wpU_takeB (i := 11) (v := _) HOPS rfl (by kernel_rfl) (fun _ _ _ h => h) HCL (goes_not (by rfl)) ?_)
  try simp only [Act.put, List.getElem_toArray, List.getElem_cons_succ, List.getElem_cons_zero, List.setIfInBounds_toArray, List.set_cons_zero, List.set_cons_succ]
  first | (refine wpU_takeB (i := 12) (v := ?_) HOPS rfl (by kernel_rfl) (fun _ _ _ h => h) HCL (goes_read (by rfl) ?hy) ?_; case hy => (intro w hSw; (try dsimp only at hSw); go_simp; (try with_reducible rfl))) | (refine wpU_takeB (i := 12) (v := _) HOPS rfl (by kernel_rfl) (fun _ _ _ h => h) HCL (goes_not (by rfl)) ?_)
  try simp only [Act.put, List.getElem_toArray, List.getElem_cons_succ, List.getElem_cons_zero, List.setIfInBounds_toArray, List.set_cons_zero, List.set_cons_succ]
  first | (refine wpU_takeB (i := 13) (v := ?_) HOPS rfl (by kernel_rfl) (fun _ _ _ h => h) HCL (goes_read (by rfl) ?hy) ?_; case hy => (intro w hSw; (try dsimp only at hSw); go_simp; (try with_reducible rfl))) | (refine wpU_takeB (i := 13) (v := _) HOPS rfl (by kernel_rfl) (fun _ _ _ h => h) HCL (goes_not (by rfl)) ?_)
  try simp only [Act.put, List.getElem_toArray, List.getElem_cons_succ, List.getElem_cons_zero, List.setIfInBounds_toArray, List.set_cons_zero, List.set_cons_succ]
  first | (refine wpU_takeB (i := 14) (v := ?_) HOPS rfl (by kernel_rfl) (fun _ _ _ h => h) HCL (goes_read (by rfl) ?hy) ?_; case hy => (intro w hSw; (try dsimp only at hSw); go_simp; (try with_reducible rfl))) | (refine wpU_takeB (i := 14) (v := _) HOPS rfl (by kernel_rfl) (fun _ _ _ h => h) HCL (goes_not (by rfl)) ?_)
  try simp only [Act.put, List.getElem_toArray, List.getElem_cons_succ, List.getElem_cons_zero, List.setIfInBounds_toArray, List.set_cons_zero, List.set_cons_succ]
  first | (refine wpU_takeB (i := 15) (v := ?_) HOPS rfl (by kernel_rfl) (fun _ _ _ h => h) HCL (goes_read (by rfl) ?hy) ?_; case hy => (intro w hSw; (try dsimp only at hSw); go_simp; (try with_reducible rfl))) | (refine wpU_takeB (i := 15) (v := _) HOPS rfl (by kernel_rfl) (fun _ _ _ h => h) HCL (goes_not (by rfl)) ?_)
  try simp only [Act.put, List.getElem_toArray, List.getElem_cons_succ, List.getElem_cons_zero, List.setIfInBounds_toArray, List.set_cons_zero, List.set_cons_succ]
  first | (refine wpU_takeB (i := 16) (v := ?_) HOPS rfl (by kernel_rfl) (fun _ _ _ h => h) HCL (goes_read (by rfl) ?hy) ?_; case hy => (intro w hSw; (try dsimp only at hSw); go_simp; (try with_reducible rfl))) | (refine wpU_takeB (i := 16) (v := _) HOPS rfl (by kernel_rfl) (fun _ _ _ h => h) HCL (goes_not (by rfl)) ?_)
  try simp only [Act.put, List.getElem_toArray, List.getElem_cons_succ, List.getElem_cons_zero, List.setIfInBounds_toArray, List.set_cons_zero, List.set_cons_succ]
  first | (refine wpU_takeB (i := 17) (v := ?_) HOPS rfl (by kernel_rfl) (fun _ _ _ h => h) HCL (goes_read (by rfl) ?hy) ?_; case hy => (intro w hSw; (try dsimp only at hSw); go_simp; (try with_reducible rfl))) | (refine wpU_takeB (i := 17) (v := _) HOPS rfl (by kernel_rfl) (fun _ _ _ h => h) HCL (goes_not (by rfl)) ?_)
  try simp only [Act.put, List.getElem_toArray, List.getElem_cons_succ, List.getElem_cons_zero, List.setIfInBounds_toArray, List.set_cons_zero, List.set_cons_succ]
  first | (refine wpU_takeB (i := 19) (v := ?_) HOPS rfl (by kernel_rfl) (fun _ _ _ h => h) HCL (goes_read (by rfl) ?hy) ?_; case hy => (intro w hSw; (try dsimp only at hSw); go_simp; (try with_reducible rfl))) | (refine wpU_takeB (i := 19) (v := _) HOPS rfl (by kernel_rfl) (fun _ _ _ h => h) HCL (goes_not (by rfl)) ?_)
  try simp only [Act.put, List.getElem_toArray, List.getElem_cons_succ, List.getElem_cons_zero, List.setIfInBounds_toArray, List.set_cons_zero, List.set_cons_succ]
  first | (refine wpU_takeB (i := 20) (v := ?_) HOPS rfl (by kernel_rfl) (fun _ _ _ h => h) HCL (goes_read (by rfl) ?hy) ?_; case hy => (intro w hSw; (try dsimp only at hSw); go_simp; (try with_reducible rfl))) | (refine wpU_takeB (i := 20) (v := _) HOPS rfl (by kernel_rfl) (fun _ _ _ h => h) HCL (goes_not (by rfl)) ?_)
  try simp only [Act.put, List.getElem_toArray, List.getElem_cons_succ, List.getElem_cons_zero, List.setIfInBounds_toArray, List.set_cons_zero, List.set_cons_succ]
  first | (refine wpU_takeB (i := 21) (v := ?_) HOPS rfl (by kernel_rfl) (fun _ _ _ h => h) HCL (goes_read (by rfl) ?hy) ?_; case hy => (intro w hSw; (try dsimp only at hSw); go_simp; (try with_reducible rfl))) | (refine wpU_takeB (i := 21) (v := _) HOPS rfl (by kernel_rfl) (fun _ _ _ h => h) HCL (goes_not (by rfl)) ?_)
  try simp only [Act.put, List.getElem_toArray, List.getElem_cons_succ, List.getElem_cons_zero, List.setIfInBounds_toArray, List.set_cons_zero, List.set_cons_succ]
  refine wpU_takeB (i := 18) HOPS rfl (by kernel_rfl) (fun _ _ _ h => h) HCL (goes_fn (v := (.int .i64 (RR : Int))) 16 _ _ _ #[(.agg #[.int .i64 aW, .int .i64 aH, .slice Aa al.length ca]), (.agg #[.int .i64 bW, .int .i64 bH, .slice Ab bl.length cb]), .int .i64 p0, .int .i64 p1, .int .i64 fr, .int .i64 tl] (by rfl) rfl (by kernel_rfl) (by kernel_rfl) (by kernel_rfl) (fun wq n R hR => ?_)) ?_
  · exact Only_any W21.heap.size _ _ (aW, aH, al) (bW, bH, bl) p0 p1 fr tl _ _ (HIa.out.kept n nof) (HIb.out.kept n nof) n.size (by show _ ≤ 1000000000; simp only; omega) (by rw [HRR.out]; exact hR)
  try simp only [Act.put, List.getElem_toArray, List.getElem_cons_succ, List.getElem_cons_zero, List.setIfInBounds_toArray, List.set_cons_zero, List.set_cons_succ]
  refine wpU_takeB (i := 22) HOPS rfl (by kernel_rfl) (fun _ _ _ h => h) HCL (goes_fn (v := (.int .i64 (SS : Int))) 16 _ _ _ #[(.agg #[.int .i64 wd, .int .i64 aH, .slice Ag gl.length cg]), (.agg #[.int .i64 wd, .int .i64 aH, .slice Ak kl.length ck]), .int .i64 0, .int .i64 0, .int .i64 0, .int .i64 0] (by rfl) rfl (by kernel_rfl) (by kernel_rfl) (by kernel_rfl) (fun wq n R hR => ?_)) ?_
  · exact Only_any W21.heap.size _ _ (wd, aH, gl) (wd, aH, kl) 0 0 0 0 _ _ (HIg.out.kept n nof) (HIk.out.kept n nof) n.size (by show _ ≤ 1000000000; simp only; omega) (by rw [HSS.out]; exact hR)
  try simp only [Act.put, List.getElem_toArray, List.getElem_cons_succ, List.getElem_cons_zero, List.setIfInBounds_toArray, List.set_cons_zero, List.set_cons_succ]
  first | (refine wpU_takeB (i := 23) (v := ?_) HOPS rfl (by kernel_rfl) (fun _ _ _ h => h) HCL (goes_read (by rfl) ?hy) ?_; case hy => (intro w hSw; (try dsimp only at hSw); go_simp; (try with_reducible rfl))) | (refine wpU_takeB (i := 23) (v := _) HOPS rfl (by kernel_rfl) (fun _ _ _ h => h) HCL (goes_not (by rfl)) ?_)
  try simp only [Act.put, List.getElem_toArray, List.getElem_cons_succ, List.getElem_cons_zero, List.setIfInBounds_toArray, List.set_cons_zero, List.set_cons_succ]
  first | (refine wpU_takeB (i := 24) (v := ?_) HOPS rfl (by kernel_rfl) (fun _ _ _ h => h) HCL (goes_read (by rfl) ?hy) ?_; case hy => (intro w hSw; (try dsimp only at hSw); go_simp; (try with_reducible rfl))) | (refine wpU_takeB (i := 24) (v := _) HOPS rfl (by kernel_rfl) (fun _ _ _ h => h) HCL (goes_not (by rfl)) ?_)
  try simp only [Act.put, List.getElem_toArray, List.getElem_cons_succ, List.getElem_cons_zero, List.setIfInBounds_toArray, List.set_cons_zero, List.set_cons_succ]
  first | (refine wpU_takeB (i := 25) (v := ?_) HOPS rfl (by kernel_rfl) (fun _ _ _ h => h) HCL (goes_read (by rfl) ?hy) ?_; case hy => (intro w hSw; (try dsimp only at hSw); go_simp; (try with_reducible rfl))) | (refine wpU_takeB (i := 25) (v := _) HOPS rfl (by kernel_rfl) (fun _ _ _ h => h) HCL (goes_not (by rfl)) ?_)
  try simp only [Act.put, List.getElem_toArray, List.getElem_cons_succ, List.getElem_cons_zero, List.setIfInBounds_toArray, List.set_cons_zero, List.set_cons_succ]
  first | (refine wpU_takeB (i := 26) (v := ?_) HOPS rfl (by kernel_rfl) (fun _ _ _ h => h) HCL (goes_read (by rfl) ?hy) ?_; case hy => (intro w hSw; (try dsimp only at hSw); go_simp; (try with_reducible rfl))) | (refine wpU_takeB (i := 26) (v := _) HOPS rfl (by kernel_rfl) (fun _ _ _ h => h) HCL (goes_not (by rfl)) ?_)
  try simp only [Act.put, List.getElem_toArray, List.getElem_cons_succ, List.getElem_cons_zero, List.setIfInBounds_toArray, List.set_cons_zero, List.set_cons_succ]
  refine wpU_done (by kernel_rfl) (fun w22 hle => ?_) _
  have n := (hle.ahead (by kernel_rfl)).1
  replace NX := Lib.hid (NX.out.trans n)
  replace HB5 := Lib.hid (n.heap HB5.out id)
  replace SZ := Nat.lt_of_lt_of_le SZ n.size
  replace HIa := Lib.hid ((HIa.out.kept n nof).hi n.size)
  replace HIb := Lib.hid ((HIb.out.kept n nof).hi n.size)
  replace HBA := Lib.hid (n.heap HBA.out id)
  replace HBB := Lib.hid (n.heap HBB.out id)
  replace HIz := Lib.hid ((HIz.out.kept n nof).hi n.size)
  replace HBZ := Lib.hid (n.heap HBZ.out id)
  replace HBS := Lib.hid (n.heap HBS.out id)
  replace HIg := Lib.hid ((HIg.out.kept n nof).hi n.size)
  replace HBg := Lib.hid (n.heap HBg.out id)
  replace HIk := Lib.hid ((HIk.out.kept n nof).hi n.size)
  replace HBk := Lib.hid (n.heap HBk.out id)
  clear n
  clear HOPS HCL hle
  repeat clear hHeld
  go_wp2_with fail
  exact ret_b (HR.out _ NX.out) (by simp)
end Go.Proofs.YtaafmgkjfmngjaaDoor
