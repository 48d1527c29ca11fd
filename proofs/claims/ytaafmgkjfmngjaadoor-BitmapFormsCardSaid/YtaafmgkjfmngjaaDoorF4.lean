/-
  The contract of the law BitmapForms: it returns true.
-/
import Derived.Test.YtaafmgkjfmngjaaDoorSan04
import Derived.Test.YtaafmgkjfmngjaaDoorBs4
import Derived.Test.YtaafmgkjfmngjaaDoorSm4
import Derived.Test.YtaafmgkjfmngjaaDoorBt4
import Derived.Test.YtaafmgkjfmngjaaDoorTx4
import Derived.Test.YtaafmgkjfmngjaaDoorRp4
import Derived.Test.YtaafmgkjfmngjaaDoorBpr4
import Derived.Test.YtaafmgkjfmngjaaDoorNew4
import Derived.Test.YtaafmgkjfmngjaaDoorBhas
import Derived.Test.YtaafmgkjfmngjaaDoorRo4
import Derived.Test.YtaafmgkjfmngjaaDoorBonly
import Derived.Test.YtaafmgkjfmngjaaDoorSlc
import Derived.Test.YtaafmgkjfmngjaaDoorRegU
namespace Go.Proofs.YtaafmgkjfmngjaaDoor
open Go.RowKit
set_option linter.unusedVariables false
set_option linter.unusedSimpArgs false
set_option maxRecDepth 100000

theorem IsBools.takeF {w : World} {lo n c : Nat} {A : Option Addr} {l : List Bool} (h : IsBools w lo (.slice A l.length c) l) (m : Nat) (hm : m ≤ l.length) : IsBools w lo (.slice A m c) (l.take m) := by
  obtain ⟨A', cap, e, hl, h⟩ := h
  injection e with e1 e2 e3
  subst e1 e3
  refine ⟨A, c, by rw [List.length_take, Nat.min_eq_left hm], ⟨by rw [List.length_take]; omega, by rw [List.length_take]; omega⟩, fun i x hi => ?_⟩
  rw [List.getElem?_take] at hi
  split at hi
  · exact h i x hi
  · simp at hi

set_option maxHeartbeats 16000000 in
theorem bforms_any (lo : Nat) (va vb : Value) (la lb : List Int) (vr : Value) (xr : Bm) (od n0 n1 n2 n3 : Int) (z : ByteArray) (w : World) (R : Ending → World → Prop) (hlo : lo ≤ w.heap.size) (hla : IsInts w lo va la) (hlb : IsInts w lo vb lb)
    (hxr : IsBm w lo vr xr) (hod : wfI od) (hq : ∀ x ∈ [n0, n1, n2, n3], wfI x) (hz : z.size ≤ maxLen) (hmx : MaxOk w)
    (hR : ∀ w', Nw w w' → R (.returned (.bool true)) w') : Calls Tryd.prog 5 #[.agg #[va, vb, .int .i64 od, .int .i64 n0, .int .i64 n1, .int .i64 n2, .int .i64 n3], vr, .string z] w R := by
  have HR := Lib.hid hR
  clear hR
  have HLA := Lib.hid (hla.hi hlo)
  have HLB := Lib.hid (hlb.hi hlo)
  have HXR := Lib.hid (hxr.hi hlo)
  have HOD := Lib.hid hod
  have HQ := Lib.hid hq
  obtain ⟨A0, c0, rfl, -⟩ := hla
  obtain ⟨A1, c1, rfl, -⟩ := hlb
  obtain ⟨AR, cR, rfl, -⟩ := isBm_form hxr
  have hcr : xr.2.2.length ≤ cR ∧ xr.2.2.length ≤ 9223372036854775807 := by obtain ⟨s, e, ⟨A', c', e2, h1, -⟩, -⟩ := HXR.out; simp at e; subst e; simp at e2; omega
  obtain ⟨xrW, xrH, xrl⟩ := xr
  simp only at HXR hcr ⊢
  obtain ⟨hcr1, hcr2⟩ := hcr
  have NX := Lib.hid (Ch.refl (fun _ => False) w)
  have MX := Lib.hid hmx
  have hm0 := hmx.lt
  unfold maxLen at hz
  clear hmx hxr hq hod
  go_enter Tryd.func5, Tryd.ntmps5
  go_wp2_with (go_at_call 3; fail)
  refine Calls_nm ?_
  intro W1 hW
  have n : Nw w W1 := by rw [hW]; exact ((Ch.refl _ _).alloc _).alloc _
  replace NX := Lib.hid (NX.out.trans n)
  replace MX := Lib.hid (MX.out.kept n id)
  replace HLA := Lib.hid (HLA.out.kept n nof)
  replace HLB := Lib.hid (HLB.out.kept n nof)
  replace HXR := Lib.hid (HXR.out.kept n nof)
  have HB3 := Lib.hid (show W1.heap[w.heap.size]? = some (.cells #[.slice A0 la.length c0, .slice A1 lb.length c1, .int .i64 od, .int .i64 n0, .int .i64 n1, .int .i64 n2, .int .i64 n3] 25 (0, 0)) from by rw [hW]; exact heap_alloc_old' _ (heap_alloc_eq _ rfl))
  have HB4 := Lib.hid (show W1.heap[w.heap.size + 1]? = some (.cells #[.int .i64 xrW, .int .i64 xrH, .slice AR xrl.length cR] 28 (0, 0)) from by rw [hW]; exact heap_alloc_eq _ (by simp only [alloc_size]))
  clear hW n
  have SZ : w.heap.size + 1 < W1.heap.size := lt_of_heap HB4.out
  refine sanity_any _ _ MX.out ?_
  intro w2 n
  replace NX := Lib.hid (NX.out.trans n)
  replace MX := Lib.hid (MX.out.kept n id)
  replace HLA := Lib.hid (HLA.out.kept n nof)
  replace HLB := Lib.hid (HLB.out.kept n nof)
  replace HXR := Lib.hid (HXR.out.kept n nof)
  replace HB3 := Lib.hid (n.heap HB3.out id)
  replace HB4 := Lib.hid (n.heap HB4.out id)
  replace SZ := Nat.lt_of_lt_of_le SZ n.size
  clear n
  obtain ⟨m, emm⟩ : ∃ k : Nat, min (xrl.length : Int) 400 = (k : Int) := ⟨(min (xrl.length : Int) 400).toNat, by omega⟩
  have mm0 : (0 : Int) ≤ (m : Int) := by omega
  have mm1 : (m : Int) ≤ (cR : Int) := by omega
  have f40 : w2.frozen? ⟨w.heap.size + 1, 0, none⟩ = false := frozen_of HB4.out
  have f41 : w2.frozen? ⟨w.heap.size + 1, 1, none⟩ = false := frozen_of HB4.out
  have f42 : w2.frozen? ⟨w.heap.size + 1, 2, none⟩ = false := frozen_of HB4.out
  have kHB40 : w2.cell? ⟨w.heap.size + 1, 0, none⟩ = some (.int .i64 xrW) := by rw [cell_of HB4.out]; rfl
  have jHB40 : ∀ o, (w2.alloc o).cell? ⟨w.heap.size + 1, 0, none⟩ = some (.int .i64 xrW) := fun o => cell_alloc_old o kHB40
  have kHB41 : w2.cell? ⟨w.heap.size + 1, 1, none⟩ = some (.int .i64 xrH) := by rw [cell_of HB4.out]; rfl
  have jHB41 : ∀ o, (w2.alloc o).cell? ⟨w.heap.size + 1, 1, none⟩ = some (.int .i64 xrH) := fun o => cell_alloc_old o kHB41
  have kHB42 : w2.cell? ⟨w.heap.size + 1, 2, none⟩ = some (.slice AR xrl.length cR) := by rw [cell_of HB4.out]; rfl
  have jHB42 : ∀ o, (w2.alloc o).cell? ⟨w.heap.size + 1, 2, none⟩ = some (.slice AR xrl.length cR) := fun o => cell_alloc_old o kHB42
  have kHB30 : w2.cell? ⟨w.heap.size, 0, none⟩ = some (.slice A0 la.length c0) := by rw [cell_of HB3.out]; rfl
  have jHB30 : ∀ o, (w2.alloc o).cell? ⟨w.heap.size, 0, none⟩ = some (.slice A0 la.length c0) := fun o => cell_alloc_old o kHB30
  have kHB31 : w2.cell? ⟨w.heap.size, 1, none⟩ = some (.slice A1 lb.length c1) := by rw [cell_of HB3.out]; rfl
  have jHB31 : ∀ o, (w2.alloc o).cell? ⟨w.heap.size, 1, none⟩ = some (.slice A1 lb.length c1) := fun o => cell_alloc_old o kHB31
  have kHB32 : w2.cell? ⟨w.heap.size, 2, none⟩ = some (.int .i64 od) := by rw [cell_of HB3.out]; rfl
  have jHB32 : ∀ o, (w2.alloc o).cell? ⟨w.heap.size, 2, none⟩ = some (.int .i64 od) := fun o => cell_alloc_old o kHB32
  have kHB33 : w2.cell? ⟨w.heap.size, 3, none⟩ = some (.int .i64 n0) := by rw [cell_of HB3.out]; rfl
  have jHB33 : ∀ o, (w2.alloc o).cell? ⟨w.heap.size, 3, none⟩ = some (.int .i64 n0) := fun o => cell_alloc_old o kHB33
  have kHB34 : w2.cell? ⟨w.heap.size, 4, none⟩ = some (.int .i64 n1) := by rw [cell_of HB3.out]; rfl
  have jHB34 : ∀ o, (w2.alloc o).cell? ⟨w.heap.size, 4, none⟩ = some (.int .i64 n1) := fun o => cell_alloc_old o kHB34
  have kHB35 : w2.cell? ⟨w.heap.size, 5, none⟩ = some (.int .i64 n2) := by rw [cell_of HB3.out]; rfl
  have jHB35 : ∀ o, (w2.alloc o).cell? ⟨w.heap.size, 5, none⟩ = some (.int .i64 n2) := fun o => cell_alloc_old o kHB35
  have kHB36 : w2.cell? ⟨w.heap.size, 6, none⟩ = some (.int .i64 n3) := by rw [cell_of HB3.out]; rfl
  have jHB36 : ∀ o, (w2.alloc o).cell? ⟨w.heap.size, 6, none⟩ = some (.int .i64 n3) := fun o => cell_alloc_old o kHB36
  go_wp2_with (go_at_call 3; fail)
  clear kHB40 jHB40 kHB41 jHB41 kHB42 jHB42 kHB30 jHB30 kHB31 jHB31 kHB32 jHB32 kHB33 jHB33 kHB34 jHB34 kHB35 jHB35 kHB36 jHB36
  obtain ⟨zs, hzs⟩ : ∃ s, z.extract 0 (min (z.size : Int) 300).toNat = s := ⟨_, rfl⟩
  rw [hzs]
  have hz3 : zs.size ≤ 300 := by rw [← hzs, ByteArray.size_extract]; omega
  clear hzs hz
  obtain ⟨rl, hrl⟩ : ∃ l, xrl.take m = l := ⟨_, rfl⟩
  have hrn : rl.length = m := by rw [← hrl, List.length_take]; omega
  have hr4 : rl.length ≤ 400 := by omega
  refine Calls_nm ?_
  intro W3 hW
  have cs : Ch (· = w.heap.size + 1) w2 W3 := by rw [hW]; exact (Ch.refl (· = w.heap.size + 1) w2).setb (fun _ => rfl) _
  have HB4n := Lib.hid (show W3.heap[w.heap.size + 1]? = some (.cells #[.int .i64 xrW, .int .i64 xrH, .slice AR rl.length cR] 28 (0, 0)) from by rw [hW, hrn]; exact heap_setCell_eq _ HB4.out)
  clear hW
  replace NX := Lib.hid (NX.out.trans' cs (fun j hj e => by have e' : j = w.heap.size + 1 := e; omega))
  replace MX := Lib.hid (MX.out.kept cs (by show 0 ≠ w.heap.size + 1; omega))
  replace HLA := Lib.hid (HLA.out.kept cs (fun j hj e => by have e' : j = w.heap.size + 1 := e; omega))
  replace HLB := Lib.hid (HLB.out.kept cs (fun j hj e => by have e' : j = w.heap.size + 1 := e; omega))
  replace HXR := Lib.hid (HXR.out.kept cs (fun j hj e => by have e' : j = w.heap.size + 1 := e; omega))
  replace HB3 := Lib.hid (cs.heap HB3.out (by show w.heap.size ≠ w.heap.size + 1; omega))
  replace HB4 := Lib.hid (HB4n.out)
  replace SZ := Nat.lt_of_lt_of_le SZ cs.size
  clear HB4n cs f40 f41 f42
  have HIR := Lib.hid (show IsBm W3 w.heap.size (.agg #[.int .i64 xrW, .int .i64 xrH, .slice AR rl.length cR]) (xrW, xrH, rl) from by obtain ⟨s, e, h1, h2⟩ := HXR.out; simp at e; subst e; refine ⟨_, rfl, ?_, h2⟩; have h3 := IsBools.takeF (n := 0) h1 m (by omega); rw [hrl] at h3; simp only [hrn]; exact h3)
  clear hrl hrn
  refine bitmaps_any w.heap.size _ _ la lb od n0 n1 n2 n3 _ _ HLA.out HLB.out (by omega) HOD.out ?_
  intro w4 v1 v2 v3 a b d ha hb hd hE1 hl1 hl2 hE2 hl3 hl4 hl5 n
  replace NX := Lib.hid (NX.out.trans n)
  replace MX := Lib.hid (MX.out.kept n id)
  replace HLA := Lib.hid (HLA.out.kept n nof)
  replace HLB := Lib.hid (HLB.out.kept n nof)
  replace HXR := Lib.hid (HXR.out.kept n nof)
  replace HB3 := Lib.hid (n.heap HB3.out id)
  replace HB4 := Lib.hid (n.heap HB4.out id)
  replace SZ := Nat.lt_of_lt_of_le SZ n.size
  replace HIR := Lib.hid (HIR.out.kept n nof)
  obtain ⟨aW, aH, al⟩ := a
  obtain ⟨bW, bH, bl⟩ := b
  obtain ⟨dW, dH, dl⟩ := d
  obtain ⟨Aa, ca, rfl, hIa⟩ := isBm_formN (W := aW) (H := aH) (n := al.length) ha rfl rfl rfl
  have HIa := Lib.hid hIa
  clear hIa ha
  obtain ⟨Ab, cb, rfl, hIb⟩ := isBm_formN (W := bW) (H := bH) (n := bl.length) hb rfl rfl rfl
  have HIb := Lib.hid hIb
  clear hIb hb
  obtain ⟨Ad, cd, rfl, hId⟩ := isBm_formN (W := dW) (H := dH) (n := dl.length) hd rfl rfl rfl
  have HId := Lib.hid hId
  clear hId hd
  clear n
  clear HLA HLB HXR
  go_upto_region 5 with (fail)
  refine wp_named ?_
  intro W5 hW
  have n : Nw w4 W5 := by rw [hW]; exact (((Ch.refl _ _).alloc _).alloc _).alloc _
  replace NX := Lib.hid (NX.out.trans n)
  replace MX := Lib.hid (MX.out.kept n id)
  replace HB3 := Lib.hid (n.heap HB3.out id)
  replace HB4 := Lib.hid (n.heap HB4.out id)
  replace SZ := Nat.lt_of_lt_of_le SZ n.size
  replace HIR := Lib.hid (HIR.out.kept n nof)
  replace HIa := Lib.hid ((HIa.out.kept n nof).hi n.size)
  replace HIb := Lib.hid ((HIb.out.kept n nof).hi n.size)
  replace HId := Lib.hid ((HId.out.kept n nof).hi n.size)
  have HBA := Lib.hid (show W5.heap[w4.heap.size]? = some (.cells #[.int .i64 aW, .int .i64 aH, .slice Aa al.length ca] 28 (0, 0)) from by rw [hW]; exact heap_alloc_old' _ (heap_alloc_old' _ (heap_alloc_eq _ rfl)))
  have HBB := Lib.hid (show W5.heap[w4.heap.size + 1]? = some (.cells #[.int .i64 bW, .int .i64 bH, .slice Ab bl.length cb] 28 (0, 0)) from by rw [hW]; exact heap_alloc_old' _ (heap_alloc_eq _ (by simp only [alloc_size])))
  have HBD := Lib.hid (show W5.heap[w4.heap.size + 2]? = some (.cells #[.int .i64 dW, .int .i64 dH, .slice Ad dl.length cd] 28 (0, 0)) from by rw [hW]; exact heap_alloc_eq _ (by simp only [alloc_size]))
  clear hW n
  have kHBA0 : W5.cell? ⟨w4.heap.size, 0, none⟩ = some (.int .i64 aW) := by rw [cell_of HBA.out]; rfl
  have kHBA1 : W5.cell? ⟨w4.heap.size, 1, none⟩ = some (.int .i64 aH) := by rw [cell_of HBA.out]; rfl
  have kHBA2 : W5.cell? ⟨w4.heap.size, 2, none⟩ = some (.slice Aa al.length ca) := by rw [cell_of HBA.out]; rfl
  have kHBB0 : W5.cell? ⟨w4.heap.size + 1, 0, none⟩ = some (.int .i64 bW) := by rw [cell_of HBB.out]; rfl
  have kHBB1 : W5.cell? ⟨w4.heap.size + 1, 1, none⟩ = some (.int .i64 bH) := by rw [cell_of HBB.out]; rfl
  have kHBB2 : W5.cell? ⟨w4.heap.size + 1, 2, none⟩ = some (.slice Ab bl.length cb) := by rw [cell_of HBB.out]; rfl
  have kHBD0 : W5.cell? ⟨w4.heap.size + 2, 0, none⟩ = some (.int .i64 dW) := by rw [cell_of HBD.out]; rfl
  have kHBD1 : W5.cell? ⟨w4.heap.size + 2, 1, none⟩ = some (.int .i64 dH) := by rw [cell_of HBD.out]; rfl
  have kHBD2 : W5.cell? ⟨w4.heap.size + 2, 2, none⟩ = some (.slice Ad dl.length cd) := by rw [cell_of HBD.out]; rfl
  have kHB40 : W5.cell? ⟨w.heap.size + 1, 0, none⟩ = some (.int .i64 xrW) := by rw [cell_of HB4.out]; rfl
  have kHB41 : W5.cell? ⟨w.heap.size + 1, 1, none⟩ = some (.int .i64 xrH) := by rw [cell_of HB4.out]; rfl
  have kHB42 : W5.cell? ⟨w.heap.size + 1, 2, none⟩ = some (.slice AR rl.length cR) := by rw [cell_of HB4.out]; rfl
  refine wp_region_lit ?_
  refine wpList_plain rfl fun K hK => ?_
  go_simp
  refine hK _ _ ?_
  clear hK K
  try simp only [Act.put, List.getElem_toArray, List.getElem_cons_succ, List.getElem_cons_zero, List.setIfInBounds_toArray, List.set_cons_zero, List.set_cons_succ]
  refine wpList_plain rfl fun K hK => ?_
  go_simp
  refine hK _ _ ?_
  clear hK K
  try simp only [Act.put, List.getElem_toArray, List.getElem_cons_succ, List.getElem_cons_zero, List.setIfInBounds_toArray, List.set_cons_zero, List.set_cons_succ]
  refine wpList_plain rfl fun K hK => ?_
  go_simp
  refine hK _ _ ?_
  clear hK K
  try simp only [Act.put, List.getElem_toArray, List.getElem_cons_succ, List.getElem_cons_zero, List.setIfInBounds_toArray, List.set_cons_zero, List.set_cons_succ]
  refine wpList_plain rfl fun K hK => ?_
  go_simp
  refine hK _ _ ?_
  clear hK K
  try simp only [Act.put, List.getElem_toArray, List.getElem_cons_succ, List.getElem_cons_zero, List.setIfInBounds_toArray, List.set_cons_zero, List.set_cons_succ]
  refine wpList_plain rfl fun K hK => ?_
  refine wp_lit4x3 49 28 _ _ _ _ rfl (by kernel_rfl) (by kernel_rfl) (by rfl) (by rfl) (by rfl) (by rfl) ?_
  refine hK _ _ ?_
  clear hK K
  try simp only [Act.put, List.getElem_toArray, List.getElem_cons_succ, List.getElem_cons_zero, List.setIfInBounds_toArray, List.set_cons_zero, List.set_cons_succ]
  clear kHBA0 kHBA1 kHBA2 kHBB0 kHBB1 kHBB2 kHBD0 kHBD1 kHBD2 kHB40 kHB41 kHB42
  go_wp2_with fail
  refine wp_named ?_
  intro W6 hW
  have n : Nw W5 W6 := by rw [hW]; first | exact Ch.refl _ _ | exact (Ch.refl _ _).alloc _ | exact ((Ch.refl _ _).alloc _).alloc _
  replace NX := Lib.hid (NX.out.trans n)
  replace MX := Lib.hid (MX.out.kept n id)
  replace HB3 := Lib.hid (n.heap HB3.out id)
  replace HB4 := Lib.hid (n.heap HB4.out id)
  replace SZ := Nat.lt_of_lt_of_le SZ n.size
  replace HIR := Lib.hid (HIR.out.kept n nof)
  replace HIa := Lib.hid ((HIa.out.kept n nof).hi n.size)
  replace HIb := Lib.hid ((HIb.out.kept n nof).hi n.size)
  replace HId := Lib.hid ((HId.out.kept n nof).hi n.size)
  replace HBA := Lib.hid (n.heap HBA.out id)
  replace HBB := Lib.hid (n.heap HBB.out id)
  replace HBD := Lib.hid (n.heap HBD.out id)
  have HSL := Lib.hid (show W6.heap[W5.heap.size]? = some (.cells #[.int .i64 aW, .int .i64 aH, .slice Aa al.length ca, .int .i64 bW, .int .i64 bH, .slice Ab bl.length cb, .int .i64 dW, .int .i64 dH, .slice Ad dl.length cd, .int .i64 xrW, .int .i64 xrH, .slice AR rl.length cR] 28 (0, 0)) from by rw [hW]; exact heap_alloc_eq _ rfl)
  clear hW n
  have La : al.length ≤ 1000 := by
    obtain ⟨⟨e1, -⟩, ⟨e3, -⟩, e5⟩ := bmE_ok hE1
    have h2 : aW * aH ≤ 16 * 12 := Int.mul_le_mul (by assumption) (by assumption) (by simp only at e3; omega) (by omega)
    simp only at e5
    omega
  have Lb : bl.length ≤ 1000 := by
    obtain ⟨⟨e1, -⟩, ⟨e3, -⟩, e5⟩ := bmE_ok hE2
    have h2 : bW * bH ≤ 16 * 12 := Int.mul_le_mul (by assumption) (by assumption) (by simp only at e3; omega) (by omega)
    simp only at e5
    omega
  have Ld : dl.length ≤ 1000 := by omega
  clear hE1 hE2 hl1 hl2 hl3 hl4 hl5
  clear HBB HBD HB4
  go_loopw [53] (fun s53 wr => ∃ (k : Nat), s53 = .int .i64 k ∧ k ≤ 4 ∧ Hid (Nw W6 wr)) (fun s53 _ => 4 - (intOf s53).toNat)
  case atStart => exact ⟨0, rfl, by omega, Lib.hid (Ch.refl _ _)⟩
  case round =>
    obtain ⟨k, rfl, hk, HC⟩ := hrel
    have k0 : (0 : Int) ≤ (k : Int) := by omega
    obtain ⟨wr0, hwr0⟩ : ∃ W : World, W = wr := ⟨_, rfl⟩
    subst hwr0
    replace NX := Lib.hid (NX.out.trans HC.out)
    replace MX := Lib.hid (MX.out.kept HC.out id)
    replace HB3 := Lib.hid (HC.out.heap HB3.out id)
    replace SZ := Nat.lt_of_lt_of_le SZ HC.out.size
    replace HIR := Lib.hid (HIR.out.kept HC.out nof)
    replace HIa := Lib.hid ((HIa.out.kept HC.out nof).hi HC.out.size)
    replace HIb := Lib.hid ((HIb.out.kept HC.out nof).hi HC.out.size)
    replace HId := Lib.hid ((HId.out.kept HC.out nof).hi HC.out.size)
    replace HBA := Lib.hid (HC.out.heap HBA.out id)
    replace HSL := Lib.hid (HC.out.heap HSL.out id)
    by_cases hlt : k < 4
    · have k4 : (k : Int) < 4 := by omega
      have hX : ∃ (x : Bm) (A : Option Addr) (c : Nat), wr0.cell? ⟨W5.heap.size, k * 3, none⟩ = some (.int .i64 x.1) ∧ wr0.cell? ⟨W5.heap.size, k * 3 + 1, none⟩ = some (.int .i64 x.2.1) ∧ wr0.cell? ⟨W5.heap.size, k * 3 + 2, none⟩ = some (.slice A x.2.2.length c) ∧ IsBm wr0 wr0.heap.size (.agg #[.int .i64 x.1, .int .i64 x.2.1, .slice A x.2.2.length c]) x ∧ x.2.2.length ≤ 1000 := by
        obtain rfl | rfl | rfl | rfl : k = 0 ∨ k = 1 ∨ k = 2 ∨ k = 3 := by omega
        · exact ⟨(aW, aH, al), Aa, ca, by rw [cell_of HSL.out]; rfl, by rw [cell_of HSL.out]; rfl, by rw [cell_of HSL.out]; rfl, HIa.out, by show _ ≤ 1000; simp only; omega⟩
        · exact ⟨(bW, bH, bl), Ab, cb, by rw [cell_of HSL.out]; rfl, by rw [cell_of HSL.out]; rfl, by rw [cell_of HSL.out]; rfl, HIb.out, by show _ ≤ 1000; simp only; omega⟩
        · exact ⟨(dW, dH, dl), Ad, cd, by rw [cell_of HSL.out]; rfl, by rw [cell_of HSL.out]; rfl, by rw [cell_of HSL.out]; rfl, HId.out, by show _ ≤ 1000; simp only; omega⟩
        · exact ⟨(xrW, xrH, rl), AR, cR, by rw [cell_of HSL.out]; rfl, by rw [cell_of HSL.out]; rfl, by rw [cell_of HSL.out]; rfl, (HIR.out.hi (by omega)), by show _ ≤ 1000; simp only; omega⟩
      obtain ⟨⟨xW, xH, xl⟩, AX, cX, t0, t1, t2, hX, hxl⟩ := hX
      simp only at t0 t1 t2 hX hxl
      have HIX := Lib.hid hX
      clear hX
      clear HIb HId HIR HSL
      go_upto_region 8 with (fail)
      refine wp_named ?_
      intro W7 hW
      have n : Nw wr0 W7 := by rw [hW]; first | exact Ch.refl _ _ | exact (Ch.refl _ _).alloc _
      replace NX := Lib.hid (NX.out.trans n)
      replace MX := Lib.hid (MX.out.kept n id)
      replace HB3 := Lib.hid (n.heap HB3.out id)
      replace SZ := Nat.lt_of_lt_of_le SZ n.size
      replace HIa := Lib.hid ((HIa.out.kept n nof).hi n.size)
      replace HBA := Lib.hid (n.heap HBA.out id)
      replace HC := Lib.hid (HC.out.trans n)
      replace HIX := Lib.hid ((HIX.out.kept n nof).hi n.size)
      have HBP := Lib.hid (show W7.heap[wr0.heap.size]? = some (.cells #[.int .i64 xW, .int .i64 xH, .slice AX xl.length cX] 28 (0, 0)) from by rw [hW]; exact heap_alloc_eq _ rfl)
      clear hW n
      refine wp_region_V (F := fun w' => w'.cell? ⟨wr0.heap.size, 0, none⟩ = some (.int .i64 xW) ∧ w'.cell? ⟨wr0.heap.size, 1, none⟩ = some (.int .i64 xH) ∧ w'.cell? ⟨wr0.heap.size, 2, none⟩ = some (.slice AX xl.length cX) ∧ w'.cell? ⟨w4.heap.size, 0, none⟩ = some (.int .i64 aW) ∧ w'.cell? ⟨w4.heap.size, 1, none⟩ = some (.int .i64 aH) ∧ w'.cell? ⟨w4.heap.size, 2, none⟩ = some (.slice Aa al.length ca)) (opsOf Tryd.f5 8) 37 37 (by kernel_rfl) (by kernel_rfl) (by kernel_rfl) (fun w w' h n => ⟨n.cell h.1 id, n.cell h.2.1 id, n.cell h.2.2.1 id, n.cell h.2.2.2.1 id, n.cell h.2.2.2.2.1 id, n.cell h.2.2.2.2.2 id⟩) ⟨by show W7.cell? _ = _; rw [cell_of HBP.out]; rfl, by show W7.cell? _ = _; rw [cell_of HBP.out]; rfl, by show W7.cell? _ = _; rw [cell_of HBP.out]; rfl, by show W7.cell? _ = _; rw [cell_of HBA.out]; rfl, by show W7.cell? _ = _; rw [cell_of HBA.out]; rfl, by show W7.cell? _ = _; rw [cell_of HBA.out]; rfl⟩ (fun HOPS HCL hHeld => ?_)
      refine wpU_named ?_
      intro W8 hW
      try rw [← hW] at hHeld
      have n : Nw W7 W8 := by rw [hW]; exact (Ch.refl _ _).drew
      replace NX := Lib.hid (NX.out.trans n)
      replace MX := Lib.hid (MX.out.kept n id)
      replace HB3 := Lib.hid (n.heap HB3.out id)
      replace SZ := Nat.lt_of_lt_of_le SZ n.size
      replace HIa := Lib.hid ((HIa.out.kept n nof).hi n.size)
      replace HBA := Lib.hid (n.heap HBA.out id)
      replace HC := Lib.hid (HC.out.trans n)
      replace HIX := Lib.hid ((HIX.out.kept n nof).hi n.size)
      replace HBP := Lib.hid (n.heap HBP.out id)
      clear hW n
      first | (refine wpU_takeB (i := 0) (v := ?_) HOPS rfl (by kernel_rfl) (fun _ _ _ h => h) HCL (goes_read (by rfl) ?hy) ?_; case hy => (intro w hSw; (try dsimp only at hSw); go_simp; (try with_reducible rfl))) | (refine wpU_takeB (i := 0) (v := _) HOPS rfl (by kernel_rfl) (fun _ _ _ h => h) HCL (goes_not (by rfl)) ?_)
      try simp only [Act.put, List.getElem_toArray, List.getElem_cons_succ, List.getElem_cons_zero, List.setIfInBounds_toArray, List.set_cons_zero, List.set_cons_succ]
      first | (refine wpU_takeB (i := 2) (v := ?_) HOPS rfl (by kernel_rfl) (fun _ _ _ h => h) HCL (goes_read (by rfl) ?hy) ?_; case hy => (intro w hSw; (try dsimp only at hSw); go_simp; (try with_reducible rfl))) | (refine wpU_takeB (i := 2) (v := _) HOPS rfl (by kernel_rfl) (fun _ _ _ h => h) HCL (goes_not (by rfl)) ?_)
      try simp only [Act.put, List.getElem_toArray, List.getElem_cons_succ, List.getElem_cons_zero, List.setIfInBounds_toArray, List.set_cons_zero, List.set_cons_succ]
      refine wpU_takeB (i := 1) HOPS rfl (by kernel_rfl) (fun _ _ _ h => h) HCL (goes_fn (v := (.int .i64 (bmE (xW, xH, xl)))) 21 _ _ _ #[(.agg #[.int .i64 xW, .int .i64 xH, .slice AX xl.length cX])] (by rfl) rfl (by kernel_rfl) (by kernel_rfl) (by kernel_rfl) (fun wq n R hR => ?_)) ?_
      · exact bmCheck_any _ _ _ _ _ (HIX.out.kept n nof) hR
      try simp only [Act.put, List.getElem_toArray, List.getElem_cons_succ, List.getElem_cons_zero, List.setIfInBounds_toArray, List.set_cons_zero, List.set_cons_succ]
      refine wpU_takeB (i := 3) HOPS rfl (by kernel_rfl) (fun _ _ _ h => h) HCL (goes_fn (v := (.int .i64 (bmE (xW, xH, xl)))) 22 _ _ _ #[(.agg #[.int .i64 xW, .int .i64 xH, .slice AX xl.length cX])] (by rfl) rfl (by kernel_rfl) (by kernel_rfl) (by kernel_rfl) (fun wq n R hR => ?_)) ?_
      · exact rbCheck_any _ _ _ _ _ (HIX.out.kept n nof) hR
      try simp only [Act.put, List.getElem_toArray, List.getElem_cons_succ, List.getElem_cons_zero, List.setIfInBounds_toArray, List.set_cons_zero, List.set_cons_succ]
      first | (refine wpU_takeB (i := 4) (v := ?_) HOPS rfl (by kernel_rfl) (fun _ _ _ h => h) HCL (goes_read (by rfl) ?hy) ?_; case hy => (intro w hSw; (try dsimp only at hSw); go_simp; (try with_reducible rfl))) | (refine wpU_takeB (i := 4) (v := _) HOPS rfl (by kernel_rfl) (fun _ _ _ h => h) HCL (goes_not (by rfl)) ?_)
      try simp only [Act.put, List.getElem_toArray, List.getElem_cons_succ, List.getElem_cons_zero, List.setIfInBounds_toArray, List.set_cons_zero, List.set_cons_succ]
      first | (refine wpU_takeB (i := 5) (v := ?_) HOPS rfl (by kernel_rfl) (fun _ _ _ h => h) HCL (goes_read (by rfl) ?hy) ?_; case hy => (intro w hSw; (try dsimp only at hSw); go_simp; (try with_reducible rfl))) | (refine wpU_takeB (i := 5) (v := _) HOPS rfl (by kernel_rfl) (fun _ _ _ h => h) HCL (goes_not (by rfl)) ?_)
      try simp only [Act.put, List.getElem_toArray, List.getElem_cons_succ, List.getElem_cons_zero, List.setIfInBounds_toArray, List.set_cons_zero, List.set_cons_succ]
      first | (refine wpU_takeB (i := 6) (v := ?_) HOPS rfl (by kernel_rfl) (fun _ _ _ h => h) HCL (goes_read (by rfl) ?hy) ?_; case hy => (intro w hSw; (try dsimp only at hSw); go_simp; (try with_reducible rfl))) | (refine wpU_takeB (i := 6) (v := _) HOPS rfl (by kernel_rfl) (fun _ _ _ h => h) HCL (goes_not (by rfl)) ?_)
      try simp only [Act.put, List.getElem_toArray, List.getElem_cons_succ, List.getElem_cons_zero, List.setIfInBounds_toArray, List.set_cons_zero, List.set_cons_succ]
      first | (refine wpU_takeB (i := 8) (v := ?_) HOPS rfl (by kernel_rfl) (fun _ _ _ h => h) HCL (goes_read (by rfl) ?hy) ?_; case hy => (intro w hSw; (try dsimp only at hSw); go_simp; (try with_reducible rfl))) | (refine wpU_takeB (i := 8) (v := _) HOPS rfl (by kernel_rfl) (fun _ _ _ h => h) HCL (goes_not (by rfl)) ?_)
      try simp only [Act.put, List.getElem_toArray, List.getElem_cons_succ, List.getElem_cons_zero, List.setIfInBounds_toArray, List.set_cons_zero, List.set_cons_succ]
      refine wpU_takeB (i := 7) HOPS rfl (by kernel_rfl) (fun _ _ _ h => h) HCL (goes_fn (v := (.int .i64 (cntD (xW, xH, xl) fun _ => true))) 19 _ _ _ #[(.agg #[.int .i64 xW, .int .i64 xH, .slice AX xl.length cX])] (by rfl) rfl (by kernel_rfl) (by kernel_rfl) (by kernel_rfl) (fun wq n R hR => ?_)) ?_
      · exact Count_any W8.heap.size _ _ _ _ (HIX.out.kept n nof) n.size (by show _ ≤ 1000000000; simp only; omega) hR
      try simp only [Act.put, List.getElem_toArray, List.getElem_cons_succ, List.getElem_cons_zero, List.setIfInBounds_toArray, List.set_cons_zero, List.set_cons_succ]
      refine wpU_takeB (i := 9) HOPS rfl (by kernel_rfl) (fun _ _ _ h => h) HCL (goes_fn (v := (.int .i64 (cntD (xW, xH, xl) fun _ => true))) 23 _ _ _ #[(.agg #[.int .i64 xW, .int .i64 xH, .slice AX xl.length cX])] (by rfl) rfl (by kernel_rfl) (by kernel_rfl) (by kernel_rfl) (fun wq n R hR => ?_)) ?_
      · exact rCount_any W8.heap.size _ _ _ _ (HIX.out.kept n nof) n.size (by show _ ≤ 1000000000; simp only; omega) hR
      try simp only [Act.put, List.getElem_toArray, List.getElem_cons_succ, List.getElem_cons_zero, List.setIfInBounds_toArray, List.set_cons_zero, List.set_cons_succ]
      first | (refine wpU_takeB (i := 10) (v := ?_) HOPS rfl (by kernel_rfl) (fun _ _ _ h => h) HCL (goes_read (by rfl) ?hy) ?_; case hy => (intro w hSw; (try dsimp only at hSw); go_simp; (try with_reducible rfl))) | (refine wpU_takeB (i := 10) (v := _) HOPS rfl (by kernel_rfl) (fun _ _ _ h => h) HCL (goes_not (by rfl)) ?_)
      try simp only [Act.put, List.getElem_toArray, List.getElem_cons_succ, List.getElem_cons_zero, List.setIfInBounds_toArray, List.set_cons_zero, List.set_cons_succ]
      first | (refine wpU_takeB (i := 11) (v := ?_) HOPS rfl (by kernel_rfl) (fun _ _ _ h => h) HCL (goes_read (by rfl) ?hy) ?_; case hy => (intro w hSw; (try dsimp only at hSw); go_simp; (try with_reducible rfl))) | (refine wpU_takeB (i := 11) (v := _) HOPS rfl (by kernel_rfl) (fun _ _ _ h => h) HCL (goes_not (by rfl)) ?_)
      try simp only [Act.put, List.getElem_toArray, List.getElem_cons_succ, List.getElem_cons_zero, List.setIfInBounds_toArray, List.set_cons_zero, List.set_cons_succ]
      first | (refine wpU_takeB (i := 12) (v := ?_) HOPS rfl (by kernel_rfl) (fun _ _ _ h => h) HCL (goes_read (by rfl) ?hy) ?_; case hy => (intro w hSw; (try dsimp only at hSw); go_simp; (try with_reducible rfl))) | (refine wpU_takeB (i := 12) (v := _) HOPS rfl (by kernel_rfl) (fun _ _ _ h => h) HCL (goes_not (by rfl)) ?_)
      try simp only [Act.put, List.getElem_toArray, List.getElem_cons_succ, List.getElem_cons_zero, List.setIfInBounds_toArray, List.set_cons_zero, List.set_cons_succ]
      first | (refine wpU_takeB (i := 13) (v := ?_) HOPS rfl (by kernel_rfl) (fun _ _ _ h => h) HCL (goes_read (by rfl) ?hy) ?_; case hy => (intro w hSw; (try dsimp only at hSw); go_simp; (try with_reducible rfl))) | (refine wpU_takeB (i := 13) (v := _) HOPS rfl (by kernel_rfl) (fun _ _ _ h => h) HCL (goes_not (by rfl)) ?_)
      try simp only [Act.put, List.getElem_toArray, List.getElem_cons_succ, List.getElem_cons_zero, List.setIfInBounds_toArray, List.set_cons_zero, List.set_cons_succ]
      first | (refine wpU_takeB (i := 15) (v := ?_) HOPS rfl (by kernel_rfl) (fun _ _ _ h => h) HCL (goes_read (by rfl) ?hy) ?_; case hy => (intro w hSw; (try dsimp only at hSw); go_simp; (try with_reducible rfl))) | (refine wpU_takeB (i := 15) (v := _) HOPS rfl (by kernel_rfl) (fun _ _ _ h => h) HCL (goes_not (by rfl)) ?_)
      try simp only [Act.put, List.getElem_toArray, List.getElem_cons_succ, List.getElem_cons_zero, List.setIfInBounds_toArray, List.set_cons_zero, List.set_cons_succ]
      refine wpU_takeB (i := 14) HOPS rfl (by kernel_rfl) (fun _ _ _ h => h) HCL (goes_fn (v := (.string ⟨(textB (xW, xH, xl)).toArray⟩)) 24 _ _ _ #[(.agg #[.int .i64 xW, .int .i64 xH, .slice AX xl.length cX])] (by rfl) rfl (by kernel_rfl) (by kernel_rfl) (by kernel_rfl) (fun wq n R hR => ?_)) ?_
      · exact bText_any W8.heap.size _ _ _ _ (HIX.out.kept n nof) n.size hR
      try simp only [Act.put, List.getElem_toArray, List.getElem_cons_succ, List.getElem_cons_zero, List.setIfInBounds_toArray, List.set_cons_zero, List.set_cons_succ]
      refine wpU_takeB (i := 16) HOPS rfl (by kernel_rfl) (fun _ _ _ h => h) HCL (goes_fn (v := (.string ⟨(textB (xW, xH, xl)).toArray⟩)) 25 _ _ _ #[(.agg #[.int .i64 xW, .int .i64 xH, .slice AX xl.length cX])] (by rfl) rfl (by kernel_rfl) (by kernel_rfl) (by kernel_rfl) (fun wq n R hR => ?_)) ?_
      · exact rbText_any W8.heap.size _ _ _ _ (HIX.out.kept n nof) n.size hR
      try simp only [Act.put, List.getElem_toArray, List.getElem_cons_succ, List.getElem_cons_zero, List.setIfInBounds_toArray, List.set_cons_zero, List.set_cons_succ]
      first | (refine wpU_takeB (i := 17) (v := ?_) HOPS rfl (by kernel_rfl) (fun _ _ _ h => h) HCL (goes_read (by rfl) ?hy) ?_; case hy => (intro w hSw; (try dsimp only at hSw); go_simp; (try with_reducible rfl))) | (refine wpU_takeB (i := 17) (v := _) HOPS rfl (by kernel_rfl) (fun _ _ _ h => h) HCL (goes_not (by rfl)) ?_)
      try simp only [Act.put, List.getElem_toArray, List.getElem_cons_succ, List.getElem_cons_zero, List.setIfInBounds_toArray, List.set_cons_zero, List.set_cons_succ]
      first | (refine wpU_takeB (i := 18) (v := ?_) HOPS rfl (by kernel_rfl) (fun _ _ _ h => h) HCL (goes_read (by rfl) ?hy) ?_; case hy => (intro w hSw; (try dsimp only at hSw); go_simp; (try with_reducible rfl))) | (refine wpU_takeB (i := 18) (v := _) HOPS rfl (by kernel_rfl) (fun _ _ _ h => h) HCL (goes_not (by rfl)) ?_)
      try simp only [Act.put, List.getElem_toArray, List.getElem_cons_succ, List.getElem_cons_zero, List.setIfInBounds_toArray, List.set_cons_zero, List.set_cons_succ]
      first | (refine wpU_takeB (i := 19) (v := ?_) HOPS rfl (by kernel_rfl) (fun _ _ _ h => h) HCL (goes_read (by rfl) ?hy) ?_; case hy => (intro w hSw; (try dsimp only at hSw); go_simp; (try with_reducible rfl))) | (refine wpU_takeB (i := 19) (v := _) HOPS rfl (by kernel_rfl) (fun _ _ _ h => h) HCL (goes_not (by rfl)) ?_)
      try simp only [Act.put, List.getElem_toArray, List.getElem_cons_succ, List.getElem_cons_zero, List.setIfInBounds_toArray, List.set_cons_zero, List.set_cons_succ]
      first | (refine wpU_takeB (i := 20) (v := ?_) HOPS rfl (by kernel_rfl) (fun _ _ _ h => h) HCL (goes_read (by rfl) ?hy) ?_; case hy => (intro w hSw; (try dsimp only at hSw); go_simp; (try with_reducible rfl))) | (refine wpU_takeB (i := 20) (v := _) HOPS rfl (by kernel_rfl) (fun _ _ _ h => h) HCL (goes_not (by rfl)) ?_)
      try simp only [Act.put, List.getElem_toArray, List.getElem_cons_succ, List.getElem_cons_zero, List.setIfInBounds_toArray, List.set_cons_zero, List.set_cons_succ]
      first | (refine wpU_takeB (i := 21) (v := ?_) HOPS rfl (by kernel_rfl) (fun _ _ _ h => h) HCL (goes_read (by rfl) ?hy) ?_; case hy => (intro w hSw; (try dsimp only at hSw); go_simp; (try with_reducible rfl))) | (refine wpU_takeB (i := 21) (v := _) HOPS rfl (by kernel_rfl) (fun _ _ _ h => h) HCL (goes_not (by rfl)) ?_)
      try simp only [Act.put, List.getElem_toArray, List.getElem_cons_succ, List.getElem_cons_zero, List.setIfInBounds_toArray, List.set_cons_zero, List.set_cons_succ]
      first | (refine wpU_takeB (i := 23) (v := ?_) HOPS rfl (by kernel_rfl) (fun _ _ _ h => h) HCL (goes_read (by rfl) ?hy) ?_; case hy => (intro w hSw; (try dsimp only at hSw); go_simp; (try with_reducible rfl))) | (refine wpU_takeB (i := 23) (v := _) HOPS rfl (by kernel_rfl) (fun _ _ _ h => h) HCL (goes_not (by rfl)) ?_)
      try simp only [Act.put, List.getElem_toArray, List.getElem_cons_succ, List.getElem_cons_zero, List.setIfInBounds_toArray, List.set_cons_zero, List.set_cons_succ]
      first | (refine wpU_takeB (i := 24) (v := ?_) HOPS rfl (by kernel_rfl) (fun _ _ _ h => h) HCL (goes_read (by rfl) ?hy) ?_; case hy => (intro w hSw; (try dsimp only at hSw); go_simp; (try with_reducible rfl))) | (refine wpU_takeB (i := 24) (v := _) HOPS rfl (by kernel_rfl) (fun _ _ _ h => h) HCL (goes_not (by rfl)) ?_)
      try simp only [Act.put, List.getElem_toArray, List.getElem_cons_succ, List.getElem_cons_zero, List.setIfInBounds_toArray, List.set_cons_zero, List.set_cons_succ]
      refine wpU_takeB (i := 22) HOPS rfl (by kernel_rfl) (fun _ _ _ h => h) HCL (goes_fn (v := (.bool (decide ((xW, xH, xl) = (aW, aH, al))))) 26 _ _ _ #[(.agg #[.int .i64 xW, .int .i64 xH, .slice AX xl.length cX]), (.agg #[.int .i64 aW, .int .i64 aH, .slice Aa al.length ca])] (by rfl) rfl (by kernel_rfl) (by kernel_rfl) (by kernel_rfl) (fun wq n R hR => ?_)) ?_
      · exact bSame_any _ _ _ (xW, xH, xl) (aW, aH, al) _ _ (HIX.out.kept n nof) (HIa.out.kept n nof) hR
      try simp only [Act.put, List.getElem_toArray, List.getElem_cons_succ, List.getElem_cons_zero, List.setIfInBounds_toArray, List.set_cons_zero, List.set_cons_succ]
      refine wpU_takeB (i := 25) HOPS rfl (by kernel_rfl) (fun _ _ _ h => h) HCL (goes_fn (v := (.bool (decide ((xW, xH, xl) = (aW, aH, al))))) 11 _ _ _ #[(.agg #[.int .i64 xW, .int .i64 xH, .slice AX xl.length cX]), (.agg #[.int .i64 aW, .int .i64 aH, .slice Aa al.length ca])] (by rfl) rfl (by kernel_rfl) (by kernel_rfl) (by kernel_rfl) (fun wq n R hR => ?_)) ?_
      · exact rbSame_any _ _ _ (xW, xH, xl) (aW, aH, al) _ _ (HIX.out.kept n nof) (HIa.out.kept n nof) hR
      try simp only [Act.put, List.getElem_toArray, List.getElem_cons_succ, List.getElem_cons_zero, List.setIfInBounds_toArray, List.set_cons_zero, List.set_cons_succ]
      first | (refine wpU_takeB (i := 26) (v := ?_) HOPS rfl (by kernel_rfl) (fun _ _ _ h => h) HCL (goes_read (by rfl) ?hy) ?_; case hy => (intro w hSw; (try dsimp only at hSw); go_simp; (try with_reducible rfl))) | (refine wpU_takeB (i := 26) (v := _) HOPS rfl (by kernel_rfl) (fun _ _ _ h => h) HCL (goes_not (by rfl)) ?_)
      try simp only [Act.put, List.getElem_toArray, List.getElem_cons_succ, List.getElem_cons_zero, List.setIfInBounds_toArray, List.set_cons_zero, List.set_cons_succ]
      first | (refine wpU_takeB (i := 27) (v := ?_) HOPS rfl (by kernel_rfl) (fun _ _ _ h => h) HCL (goes_read (by rfl) ?hy) ?_; case hy => (intro w hSw; (try dsimp only at hSw); go_simp; (try with_reducible rfl))) | (refine wpU_takeB (i := 27) (v := _) HOPS rfl (by kernel_rfl) (fun _ _ _ h => h) HCL (goes_not (by rfl)) ?_)
      try simp only [Act.put, List.getElem_toArray, List.getElem_cons_succ, List.getElem_cons_zero, List.setIfInBounds_toArray, List.set_cons_zero, List.set_cons_succ]
      first | (refine wpU_takeB (i := 28) (v := ?_) HOPS rfl (by kernel_rfl) (fun _ _ _ h => h) HCL (goes_read (by rfl) ?hy) ?_; case hy => (intro w hSw; (try dsimp only at hSw); go_simp; (try with_reducible rfl))) | (refine wpU_takeB (i := 28) (v := _) HOPS rfl (by kernel_rfl) (fun _ _ _ h => h) HCL (goes_not (by rfl)) ?_)
      try simp only [Act.put, List.getElem_toArray, List.getElem_cons_succ, List.getElem_cons_zero, List.setIfInBounds_toArray, List.set_cons_zero, List.set_cons_succ]
      first | (refine wpU_takeB (i := 29) (v := ?_) HOPS rfl (by kernel_rfl) (fun _ _ _ h => h) HCL (goes_read (by rfl) ?hy) ?_; case hy => (intro w hSw; (try dsimp only at hSw); go_simp; (try with_reducible rfl))) | (refine wpU_takeB (i := 29) (v := _) HOPS rfl (by kernel_rfl) (fun _ _ _ h => h) HCL (goes_not (by rfl)) ?_)
      try simp only [Act.put, List.getElem_toArray, List.getElem_cons_succ, List.getElem_cons_zero, List.setIfInBounds_toArray, List.set_cons_zero, List.set_cons_succ]
      first | (refine wpU_takeB (i := 30) (v := ?_) HOPS rfl (by kernel_rfl) (fun _ _ _ h => h) HCL (goes_read (by rfl) ?hy) ?_; case hy => (intro w hSw; (try dsimp only at hSw); go_simp; (try with_reducible rfl))) | (refine wpU_takeB (i := 30) (v := _) HOPS rfl (by kernel_rfl) (fun _ _ _ h => h) HCL (goes_not (by rfl)) ?_)
      try simp only [Act.put, List.getElem_toArray, List.getElem_cons_succ, List.getElem_cons_zero, List.setIfInBounds_toArray, List.set_cons_zero, List.set_cons_succ]
      first | (refine wpU_takeB (i := 32) (v := ?_) HOPS rfl (by kernel_rfl) (fun _ _ _ h => h) HCL (goes_read (by rfl) ?hy) ?_; case hy => (intro w hSw; (try dsimp only at hSw); go_simp; (try with_reducible rfl))) | (refine wpU_takeB (i := 32) (v := _) HOPS rfl (by kernel_rfl) (fun _ _ _ h => h) HCL (goes_not (by rfl)) ?_)
      try simp only [Act.put, List.getElem_toArray, List.getElem_cons_succ, List.getElem_cons_zero, List.setIfInBounds_toArray, List.set_cons_zero, List.set_cons_succ]
      first | (refine wpU_takeB (i := 33) (v := ?_) HOPS rfl (by kernel_rfl) (fun _ _ _ h => h) HCL (goes_read (by rfl) ?hy) ?_; case hy => (intro w hSw; (try dsimp only at hSw); go_simp; (try with_reducible rfl))) | (refine wpU_takeB (i := 33) (v := _) HOPS rfl (by kernel_rfl) (fun _ _ _ h => h) HCL (goes_not (by rfl)) ?_)
      try simp only [Act.put, List.getElem_toArray, List.getElem_cons_succ, List.getElem_cons_zero, List.setIfInBounds_toArray, List.set_cons_zero, List.set_cons_succ]
      refine wpU_takeB (i := 31) HOPS rfl (by kernel_rfl) (fun _ _ _ h => h) HCL (goes_fn (v := (.bool (decide ((aW, aH, al) = (xW, xH, xl))))) 26 _ _ _ #[(.agg #[.int .i64 aW, .int .i64 aH, .slice Aa al.length ca]), (.agg #[.int .i64 xW, .int .i64 xH, .slice AX xl.length cX])] (by rfl) rfl (by kernel_rfl) (by kernel_rfl) (by kernel_rfl) (fun wq n R hR => ?_)) ?_
      · exact bSame_any _ _ _ (aW, aH, al) (xW, xH, xl) _ _ (HIa.out.kept n nof) (HIX.out.kept n nof) hR
      try simp only [Act.put, List.getElem_toArray, List.getElem_cons_succ, List.getElem_cons_zero, List.setIfInBounds_toArray, List.set_cons_zero, List.set_cons_succ]
      refine wpU_takeB (i := 34) HOPS rfl (by kernel_rfl) (fun _ _ _ h => h) HCL (goes_fn (v := (.bool (decide ((aW, aH, al) = (xW, xH, xl))))) 11 _ _ _ #[(.agg #[.int .i64 aW, .int .i64 aH, .slice Aa al.length ca]), (.agg #[.int .i64 xW, .int .i64 xH, .slice AX xl.length cX])] (by rfl) rfl (by kernel_rfl) (by kernel_rfl) (by kernel_rfl) (fun wq n R hR => ?_)) ?_
      · exact rbSame_any _ _ _ (aW, aH, al) (xW, xH, xl) _ _ (HIa.out.kept n nof) (HIX.out.kept n nof) hR
      try simp only [Act.put, List.getElem_toArray, List.getElem_cons_succ, List.getElem_cons_zero, List.setIfInBounds_toArray, List.set_cons_zero, List.set_cons_succ]
      first | (refine wpU_takeB (i := 35) (v := ?_) HOPS rfl (by kernel_rfl) (fun _ _ _ h => h) HCL (goes_read (by rfl) ?hy) ?_; case hy => (intro w hSw; (try dsimp only at hSw); go_simp; (try with_reducible rfl))) | (refine wpU_takeB (i := 35) (v := _) HOPS rfl (by kernel_rfl) (fun _ _ _ h => h) HCL (goes_not (by rfl)) ?_)
      try simp only [Act.put, List.getElem_toArray, List.getElem_cons_succ, List.getElem_cons_zero, List.setIfInBounds_toArray, List.set_cons_zero, List.set_cons_succ]
      first | (refine wpU_takeB (i := 36) (v := ?_) HOPS rfl (by kernel_rfl) (fun _ _ _ h => h) HCL (goes_read (by rfl) ?hy) ?_; case hy => (intro w hSw; (try dsimp only at hSw); go_simp; (try with_reducible rfl))) | (refine wpU_takeB (i := 36) (v := _) HOPS rfl (by kernel_rfl) (fun _ _ _ h => h) HCL (goes_not (by rfl)) ?_)
      try simp only [Act.put, List.getElem_toArray, List.getElem_cons_succ, List.getElem_cons_zero, List.setIfInBounds_toArray, List.set_cons_zero, List.set_cons_succ]
      refine wpU_done (by kernel_rfl) (fun w9 hle => ?_) _
      have n := (hle.ahead (by kernel_rfl)).1
      replace NX := Lib.hid (NX.out.trans n)
      replace MX := Lib.hid (MX.out.kept n id)
      replace HB3 := Lib.hid (n.heap HB3.out id)
      replace SZ := Nat.lt_of_lt_of_le SZ n.size
      replace HIa := Lib.hid ((HIa.out.kept n nof).hi n.size)
      replace HBA := Lib.hid (n.heap HBA.out id)
      replace HC := Lib.hid (HC.out.trans n)
      replace HIX := Lib.hid ((HIX.out.kept n nof).hi n.size)
      replace HBP := Lib.hid (n.heap HBP.out id)
      clear n
      clear HOPS HCL hle
      repeat clear hHeld
      clear t0 t1 t2
      clear HBA HIa
      as_aux_lemma =>
        go_upto_region 10 with (fail)
        refine wp_named ?_
        intro W10 hW
        have n : Nw w9 W10 := by rw [hW]; first | exact Ch.refl _ _ | exact (Ch.refl _ _).alloc _
        replace NX := Lib.hid (NX.out.trans n)
        replace MX := Lib.hid (MX.out.kept n id)
        replace HB3 := Lib.hid (n.heap HB3.out id)
        replace SZ := Nat.lt_of_lt_of_le SZ n.size
        replace HC := Lib.hid (HC.out.trans n)
        replace HIX := Lib.hid ((HIX.out.kept n nof).hi n.size)
        replace HBP := Lib.hid (n.heap HBP.out id)
        clear hW n
        refine wp_region_V (F := fun w' => w'.cell? ⟨w.heap.size, 0, none⟩ = some (.slice A0 la.length c0) ∧ w'.cell? ⟨w.heap.size, 1, none⟩ = some (.slice A1 lb.length c1) ∧ w'.cell? ⟨w.heap.size, 2, none⟩ = some (.int .i64 od) ∧ w'.cell? ⟨w.heap.size, 3, none⟩ = some (.int .i64 n0) ∧ w'.cell? ⟨w.heap.size, 4, none⟩ = some (.int .i64 n1) ∧ w'.cell? ⟨w.heap.size, 5, none⟩ = some (.int .i64 n2) ∧ w'.cell? ⟨w.heap.size, 6, none⟩ = some (.int .i64 n3)) (opsOf Tryd.f5 10) 7 7 (by kernel_rfl) (by kernel_rfl) (by kernel_rfl) (fun w w' h n => ⟨n.cell h.1 id, n.cell h.2.1 id, n.cell h.2.2.1 id, n.cell h.2.2.2.1 id, n.cell h.2.2.2.2.1 id, n.cell h.2.2.2.2.2.1 id, n.cell h.2.2.2.2.2.2 id⟩) ⟨by show W10.cell? _ = _; rw [cell_of HB3.out]; rfl, by show W10.cell? _ = _; rw [cell_of HB3.out]; rfl, by show W10.cell? _ = _; rw [cell_of HB3.out]; rfl, by show W10.cell? _ = _; rw [cell_of HB3.out]; rfl, by show W10.cell? _ = _; rw [cell_of HB3.out]; rfl, by show W10.cell? _ = _; rw [cell_of HB3.out]; rfl, by show W10.cell? _ = _; rw [cell_of HB3.out]; rfl⟩ (fun HOPS HCL hHeld => ?_)
        refine wpU_named ?_
        intro W11 hW
        try rw [← hW] at hHeld
        have n : Nw W10 W11 := by rw [hW]; exact (Ch.refl _ _).drew
        replace NX := Lib.hid (NX.out.trans n)
        replace MX := Lib.hid (MX.out.kept n id)
        replace HB3 := Lib.hid (n.heap HB3.out id)
        replace SZ := Nat.lt_of_lt_of_le SZ n.size
        replace HC := Lib.hid (HC.out.trans n)
        replace HIX := Lib.hid ((HIX.out.kept n nof).hi n.size)
        replace HBP := Lib.hid (n.heap HBP.out id)
        clear hW n
        first | (refine wpU_takeB (i := 0) (v := ?_) HOPS rfl (by kernel_rfl) (fun _ _ _ h => h) HCL (goes_read (by rfl) ?hy) ?_; case hy => (intro w hSw; (try dsimp only at hSw); go_simp; (try with_reducible rfl))) | (refine wpU_takeB (i := 0) (v := _) HOPS rfl (by kernel_rfl) (fun _ _ _ h => h) HCL (goes_not (by rfl)) ?_)
        try simp only [Act.put, List.getElem_toArray, List.getElem_cons_succ, List.getElem_cons_zero, List.setIfInBounds_toArray, List.set_cons_zero, List.set_cons_succ]
        first | (refine wpU_takeB (i := 1) (v := ?_) HOPS rfl (by kernel_rfl) (fun _ _ _ h => h) HCL (goes_read (by rfl) ?hy) ?_; case hy => (intro w hSw; (try dsimp only at hSw); go_simp; (try with_reducible rfl))) | (refine wpU_takeB (i := 1) (v := _) HOPS rfl (by kernel_rfl) (fun _ _ _ h => h) HCL (goes_not (by rfl)) ?_)
        try simp only [Act.put, List.getElem_toArray, List.getElem_cons_succ, List.getElem_cons_zero, List.setIfInBounds_toArray, List.set_cons_zero, List.set_cons_succ]
        first | (refine wpU_takeB (i := 2) (v := ?_) HOPS rfl (by kernel_rfl) (fun _ _ _ h => h) HCL (goes_read (by rfl) ?hy) ?_; case hy => (intro w hSw; (try dsimp only at hSw); go_simp; (try with_reducible rfl))) | (refine wpU_takeB (i := 2) (v := _) HOPS rfl (by kernel_rfl) (fun _ _ _ h => h) HCL (goes_not (by rfl)) ?_)
        try simp only [Act.put, List.getElem_toArray, List.getElem_cons_succ, List.getElem_cons_zero, List.setIfInBounds_toArray, List.set_cons_zero, List.set_cons_succ]
        first | (refine wpU_takeB (i := 6) (v := ?_) HOPS rfl (by kernel_rfl) (fun _ _ _ h => h) HCL (goes_read (by rfl) ?hy) ?_; case hy => (intro w hSw; (try dsimp only at hSw); go_simp; (try with_reducible rfl))) | (refine wpU_takeB (i := 6) (v := _) HOPS rfl (by kernel_rfl) (fun _ _ _ h => h) HCL (goes_not (by rfl)) ?_)
        try simp only [Act.put, List.getElem_toArray, List.getElem_cons_succ, List.getElem_cons_zero, List.setIfInBounds_toArray, List.set_cons_zero, List.set_cons_succ]
        refine wpU_takeB (i := 3) HOPS rfl (by kernel_rfl) (fun _ _ _ h => h) HCL (goes_fn (v := (.agg #[.int .i64 (smallN n0), .int .i64 (smallN n1), .int .i64 (smallN n2), .int .i64 (smallN n3)])) 10 _ _ _ #[(.agg #[.slice A0 la.length c0, .slice A1 lb.length c1, .int .i64 od, .int .i64 n0, .int .i64 n1, .int .i64 n2, .int .i64 n3])] (by rfl) rfl (by kernel_rfl) (by kernel_rfl) (by kernel_rfl) (fun wq n R hR => ?_)) ?_
        · exact small_any _ _ _ _ _ _ _ _ _ ⟨_, _, _, rfl⟩ ⟨_, _, _, rfl⟩ (fun x hx => HQ.out x (by simp at hx ⊢; omega)) hR
        try simp only [Act.put, List.getElem_toArray, List.getElem_cons_succ, List.getElem_cons_zero, List.setIfInBounds_toArray, List.set_cons_zero, List.set_cons_succ]
        refine wpU_ready (rs := [4]) (by kernel_rfl) (by simp) ?_
        intro w12 hle
        obtain ⟨n, hHeld⟩ := hle.ahead (by kernel_rfl)
        clear hle
        replace NX := Lib.hid (NX.out.trans n)
        replace MX := Lib.hid (MX.out.kept n id)
        replace HB3 := Lib.hid (n.heap HB3.out id)
        replace SZ := Nat.lt_of_lt_of_le SZ n.size
        replace HC := Lib.hid (HC.out.trans n)
        replace HIX := Lib.hid ((HIX.out.kept n nof).hi n.size)
        replace HBP := Lib.hid (n.heap HBP.out id)
        clear n
        refine ReadyU.cons HOPS rfl (by rfl) (fun K hK => ?_) ReadyU.nil
        refine wp_lit2x4 36 23 _ _ rfl (by kernel_rfl) (by kernel_rfl) (by rfl) (by rfl) ?_
        refine hK.out _ _ ((Ch.refl _ _).alloc _) ⟨cell_alloc_old _ (by rw [cell_of HB3.out]; rfl), cell_alloc_old _ (by rw [cell_of HB3.out]; rfl), cell_alloc_old _ (by rw [cell_of HB3.out]; rfl), cell_alloc_old _ (by rw [cell_of HB3.out]; rfl), cell_alloc_old _ (by rw [cell_of HB3.out]; rfl), cell_alloc_old _ (by rw [cell_of HB3.out]; rfl), cell_alloc_old _ (by rw [cell_of HB3.out]; rfl)⟩ (fun hHeld => ?_)
        clear hK K
        try simp only [Act.put, List.getElem_toArray, List.getElem_cons_succ, List.getElem_cons_zero, List.setIfInBounds_toArray, List.set_cons_zero, List.set_cons_succ]
        have SZAHSP := SZ
        refine wpU_named ?_
        intro W13 hW
        try rw [← hW] at hHeld
        have n : Nw w12 W13 := by rw [hW]; exact (Ch.refl _ _).alloc _
        replace NX := Lib.hid (NX.out.trans n)
        replace MX := Lib.hid (MX.out.kept n id)
        replace HB3 := Lib.hid (n.heap HB3.out id)
        replace SZ := Nat.lt_of_lt_of_le SZ n.size
        replace HC := Lib.hid (HC.out.trans n)
        replace HIX := Lib.hid ((HIX.out.kept n nof).hi n.size)
        replace HBP := Lib.hid (n.heap HBP.out id)
        have HSP := Lib.hid (show W13.heap[w12.heap.size]? = some (.cells #[.int .i64 n0, .int .i64 n1, .int .i64 n2, .int .i64 n3, .int .i64 (smallN n0), .int .i64 (smallN n1), .int .i64 (smallN n2), .int .i64 (smallN n3)] 23 (0, 0)) from by rw [hW]; exact heap_alloc_eq _ rfl)
        clear hW n
        first | (refine wpU_takeB (i := 5) (v := ?_) HOPS rfl (by kernel_rfl) (fun _ _ _ h => h) HCL (goes_read (by rfl) ?hy) ?_; case hy => (intro w hSw; (try dsimp only at hSw); go_simp; (try with_reducible rfl))) | (refine wpU_takeB (i := 5) (v := _) HOPS rfl (by kernel_rfl) (fun _ _ _ h => h) HCL (goes_not (by rfl)) ?_)
        try simp only [Act.put, List.getElem_toArray, List.getElem_cons_succ, List.getElem_cons_zero, List.setIfInBounds_toArray, List.set_cons_zero, List.set_cons_succ]
        refine wpU_done (by kernel_rfl) (fun w14 hle => ?_) _
        have n := (hle.ahead (by kernel_rfl)).1
        replace NX := Lib.hid (NX.out.trans n)
        replace MX := Lib.hid (MX.out.kept n id)
        replace HB3 := Lib.hid (n.heap HB3.out id)
        replace SZ := Nat.lt_of_lt_of_le SZ n.size
        replace HC := Lib.hid (HC.out.trans n)
        replace HIX := Lib.hid ((HIX.out.kept n nof).hi n.size)
        replace HBP := Lib.hid (n.heap HBP.out id)
        replace HSP := Lib.hid (n.heap HSP.out id)
        clear n
        clear HOPS HCL hle
        repeat clear hHeld
        go_wp2_with fail
        refine wp_named ?_
        intro W15 hW
        have n : Nw w14 W15 := by rw [hW]; first | exact Ch.refl _ _ | exact (Ch.refl _ _).alloc _ | exact ((Ch.refl _ _).alloc _).alloc _
        replace NX := Lib.hid (NX.out.trans n)
        replace MX := Lib.hid (MX.out.kept n id)
        replace HB3 := Lib.hid (n.heap HB3.out id)
        replace SZ := Nat.lt_of_lt_of_le SZ n.size
        replace HC := Lib.hid (HC.out.trans n)
        replace HIX := Lib.hid ((HIX.out.kept n nof).hi n.size)
        replace HBP := Lib.hid (n.heap HBP.out id)
        replace HSP := Lib.hid (n.heap HSP.out id)
        clear hW n
        go_loopw [100] (fun s100 wr => ∃ (j : Nat), s100 = .int .i64 j ∧ j ≤ 2 ∧ Hid (Nw W15 wr)) (fun s100 _ => 2 - (intOf s100).toNat)
        case atStart => exact ⟨0, rfl, by omega, Lib.hid (Ch.refl _ _)⟩
        case round =>
          obtain ⟨j, rfl, hj, HC2⟩ := hrel
          have j0 : (0 : Int) ≤ (j : Int) := by omega
          obtain ⟨wr1, hwr1⟩ : ∃ W : World, W = wr := ⟨_, rfl⟩
          subst hwr1
          replace NX := Lib.hid (NX.out.trans HC2.out)
          replace MX := Lib.hid (MX.out.kept HC2.out id)
          replace HB3 := Lib.hid (HC2.out.heap HB3.out id)
          replace SZ := Nat.lt_of_lt_of_le SZ HC2.out.size
          replace HC := Lib.hid (HC.out.trans HC2.out)
          replace HIX := Lib.hid ((HIX.out.kept HC2.out nof).hi HC2.out.size)
          replace HBP := Lib.hid (HC2.out.heap HBP.out id)
          replace HSP := Lib.hid (HC2.out.heap HSP.out id)
          by_cases hjt : j < 2
          · as_aux_lemma =>
            have j2 : (j : Int) < 2 := by omega
            have hP : ∃ p0 p1 p2 p3 : Int, wr1.cell? ⟨w12.heap.size, j * 4, none⟩ = some (.int .i64 p0) ∧ wr1.cell? ⟨w12.heap.size, j * 4 + 1, none⟩ = some (.int .i64 p1) ∧ wr1.cell? ⟨w12.heap.size, j * 4 + 2, none⟩ = some (.int .i64 p2) ∧ wr1.cell? ⟨w12.heap.size, j * 4 + 3, none⟩ = some (.int .i64 p3) ∧ wfI p0 ∧ wfI p1 ∧ wfI p2 ∧ wfI p3 := by
              obtain rfl | rfl : j = 0 ∨ j = 1 := by omega
              · exact ⟨n0, n1, n2, n3, by rw [cell_of HSP.out]; rfl, by rw [cell_of HSP.out]; rfl, by rw [cell_of HSP.out]; rfl, by rw [cell_of HSP.out]; rfl, HQ.out _ (by simp), HQ.out _ (by simp), HQ.out _ (by simp), HQ.out _ (by simp)⟩
              · exact ⟨(smallN n0), (smallN n1), (smallN n2), (smallN n3), by rw [cell_of HSP.out]; rfl, by rw [cell_of HSP.out]; rfl, by rw [cell_of HSP.out]; rfl, by rw [cell_of HSP.out]; rfl, smallN_wf _, smallN_wf _, smallN_wf _, smallN_wf _⟩
            obtain ⟨p0, p1, p2, p3, t0, t1, t2, t3, hp0, hp1, hp2, hp3⟩ := hP
            have P0 := Lib.hid hp0
            have P1 := Lib.hid hp1
            have P2 := Lib.hid hp2
            have P3 := Lib.hid hp3
            clear hp0 hp1 hp2 hp3
            have kHBP0 : wr1.cell? ⟨wr0.heap.size, 0, none⟩ = some (.int .i64 xW) := by rw [cell_of HBP.out]; rfl
            have jHBP0 : ∀ o, (wr1.alloc o).cell? ⟨wr0.heap.size, 0, none⟩ = some (.int .i64 xW) := fun o => cell_alloc_old o kHBP0
            have kHBP1 : wr1.cell? ⟨wr0.heap.size, 1, none⟩ = some (.int .i64 xH) := by rw [cell_of HBP.out]; rfl
            have jHBP1 : ∀ o, (wr1.alloc o).cell? ⟨wr0.heap.size, 1, none⟩ = some (.int .i64 xH) := fun o => cell_alloc_old o kHBP1
            have kHBP2 : wr1.cell? ⟨wr0.heap.size, 2, none⟩ = some (.slice AX xl.length cX) := by rw [cell_of HBP.out]; rfl
            have jHBP2 : ∀ o, (wr1.alloc o).cell? ⟨wr0.heap.size, 2, none⟩ = some (.slice AX xl.length cX) := fun o => cell_alloc_old o kHBP2
            go_wp2_with (go_at_call 3; fail)
            clear kHBP0 jHBP0 kHBP1 jHBP1 kHBP2 jHBP2
            clear t0 t1 t2 t3
            refine Calls_nm ?_
            intro W16 hW
            have n : Nw wr1 W16 := by rw [hW]; first | exact Ch.refl _ _ | exact (Ch.refl _ _).alloc _ | exact ((Ch.refl _ _).alloc _).alloc _
            replace NX := Lib.hid (NX.out.trans n)
            replace MX := Lib.hid (MX.out.kept n id)
            replace HB3 := Lib.hid (n.heap HB3.out id)
            replace SZ := Nat.lt_of_lt_of_le SZ n.size
            replace HC := Lib.hid (HC.out.trans n)
            replace HIX := Lib.hid ((HIX.out.kept n nof).hi n.size)
            replace HBP := Lib.hid (n.heap HBP.out id)
            replace HSP := Lib.hid (n.heap HSP.out id)
            replace HC2 := Lib.hid (HC2.out.trans n)
            have HBJ := Lib.hid (show W16.heap[wr1.heap.size]? = some (.cells #[.int .i64 p0, .int .i64 p1, .int .i64 p2, .int .i64 p3] 23 (0, 0)) from by rw [hW]; exact heap_alloc_eq _ rfl)
            clear hW n
            obtain ⟨NM, hNM⟩ : ∃ N, newM p0 p1 = N := ⟨_, rfl⟩
            have HNM := Lib.hid hNM
            clear hNM
            obtain ⟨⟨gW, gH, gl⟩, ge⟩ := NM
            refine bNew_any p0 p1 _ _ P0.out P1.out ?_
            intro w17 v hi n
            replace NX := Lib.hid (NX.out.trans n)
            replace MX := Lib.hid (MX.out.kept n id)
            replace HB3 := Lib.hid (n.heap HB3.out id)
            replace SZ := Nat.lt_of_lt_of_le SZ n.size
            replace HC := Lib.hid (HC.out.trans n)
            replace HIX := Lib.hid ((HIX.out.kept n nof).hi n.size)
            replace HBP := Lib.hid (n.heap HBP.out id)
            replace HSP := Lib.hid (n.heap HSP.out id)
            replace HC2 := Lib.hid (HC2.out.trans n)
            replace HBJ := Lib.hid (n.heap HBJ.out id)
            rw [HNM.out] at hi ⊢
            simp only at hi ⊢
            obtain ⟨AG, cG, rfl, hI⟩ := isBm_formN (W := gW) (H := gH) (n := gl.length) hi rfl rfl rfl
            have HIG := Lib.hid hI
            clear hi hI n
            have kHBP0 : w17.cell? ⟨wr0.heap.size, 0, none⟩ = some (.int .i64 xW) := by rw [cell_of HBP.out]; rfl
            have jHBP0 : ∀ o, (w17.alloc o).cell? ⟨wr0.heap.size, 0, none⟩ = some (.int .i64 xW) := fun o => cell_alloc_old o kHBP0
            have kHBP1 : w17.cell? ⟨wr0.heap.size, 1, none⟩ = some (.int .i64 xH) := by rw [cell_of HBP.out]; rfl
            have jHBP1 : ∀ o, (w17.alloc o).cell? ⟨wr0.heap.size, 1, none⟩ = some (.int .i64 xH) := fun o => cell_alloc_old o kHBP1
            have kHBP2 : w17.cell? ⟨wr0.heap.size, 2, none⟩ = some (.slice AX xl.length cX) := by rw [cell_of HBP.out]; rfl
            have jHBP2 : ∀ o, (w17.alloc o).cell? ⟨wr0.heap.size, 2, none⟩ = some (.slice AX xl.length cX) := fun o => cell_alloc_old o kHBP2
            have kHBJ0 : w17.cell? ⟨wr1.heap.size, 0, none⟩ = some (.int .i64 p0) := by rw [cell_of HBJ.out]; rfl
            have jHBJ0 : ∀ o, (w17.alloc o).cell? ⟨wr1.heap.size, 0, none⟩ = some (.int .i64 p0) := fun o => cell_alloc_old o kHBJ0
            have kHBJ1 : w17.cell? ⟨wr1.heap.size, 1, none⟩ = some (.int .i64 p1) := by rw [cell_of HBJ.out]; rfl
            have jHBJ1 : ∀ o, (w17.alloc o).cell? ⟨wr1.heap.size, 1, none⟩ = some (.int .i64 p1) := fun o => cell_alloc_old o kHBJ1
            have kHBJ2 : w17.cell? ⟨wr1.heap.size, 2, none⟩ = some (.int .i64 p2) := by rw [cell_of HBJ.out]; rfl
            have jHBJ2 : ∀ o, (w17.alloc o).cell? ⟨wr1.heap.size, 2, none⟩ = some (.int .i64 p2) := fun o => cell_alloc_old o kHBJ2
            have kHBJ3 : w17.cell? ⟨wr1.heap.size, 3, none⟩ = some (.int .i64 p3) := by rw [cell_of HBJ.out]; rfl
            have jHBJ3 : ∀ o, (w17.alloc o).cell? ⟨wr1.heap.size, 3, none⟩ = some (.int .i64 p3) := fun o => cell_alloc_old o kHBJ3
            go_wp2_with (go_at_call 3; fail)
            clear kHBP0 jHBP0 kHBP1 jHBP1 kHBP2 jHBP2 kHBJ0 jHBJ0 kHBJ1 jHBJ1 kHBJ2 jHBJ2 kHBJ3 jHBJ3
            refine Calls_nm ?_
            intro W18 hW
            have n : Nw w17 W18 := by rw [hW]; first | exact Ch.refl _ _ | exact (Ch.refl _ _).alloc _ | exact ((Ch.refl _ _).alloc _).alloc _
            replace NX := Lib.hid (NX.out.trans n)
            replace MX := Lib.hid (MX.out.kept n id)
            replace HB3 := Lib.hid (n.heap HB3.out id)
            replace SZ := Nat.lt_of_lt_of_le SZ n.size
            replace HC := Lib.hid (HC.out.trans n)
            replace HIX := Lib.hid ((HIX.out.kept n nof).hi n.size)
            replace HBP := Lib.hid (n.heap HBP.out id)
            replace HSP := Lib.hid (n.heap HSP.out id)
            replace HC2 := Lib.hid (HC2.out.trans n)
            replace HBJ := Lib.hid (n.heap HBJ.out id)
            replace HIG := Lib.hid ((HIG.out.kept n nof).hi n.size)
            have HBG := Lib.hid (show W18.heap[w17.heap.size]? = some (.cells #[.int .i64 gW, .int .i64 gH, .slice AG gl.length cG] 28 (0, 0)) from by rw [hW]; exact heap_alloc_eq _ rfl)
            clear hW n
            refine rNew_any p0 p1 _ _ P0.out P1.out ?_
            intro w19 v hi n
            replace NX := Lib.hid (NX.out.trans n)
            replace MX := Lib.hid (MX.out.kept n id)
            replace HB3 := Lib.hid (n.heap HB3.out id)
            replace SZ := Nat.lt_of_lt_of_le SZ n.size
            replace HC := Lib.hid (HC.out.trans n)
            replace HIX := Lib.hid ((HIX.out.kept n nof).hi n.size)
            replace HBP := Lib.hid (n.heap HBP.out id)
            replace HSP := Lib.hid (n.heap HSP.out id)
            replace HC2 := Lib.hid (HC2.out.trans n)
            replace HBJ := Lib.hid (n.heap HBJ.out id)
            replace HIG := Lib.hid ((HIG.out.kept n nof).hi n.size)
            replace HBG := Lib.hid (n.heap HBG.out id)
            rw [HNM.out] at hi ⊢
            simp only at hi ⊢
            obtain ⟨AF, cF, rfl, hI⟩ := isBm_formN (W := gW) (H := gH) (n := gl.length) hi rfl rfl rfl
            have HIF := Lib.hid hI
            clear hi hI n
            go_upto_region 15 with (fail)
            refine wp_named ?_
            intro W20 hW
            have n : Nw w19 W20 := by rw [hW]; first | exact Ch.refl _ _ | exact (Ch.refl _ _).alloc _ | exact ((Ch.refl _ _).alloc _).alloc _
            replace NX := Lib.hid (NX.out.trans n)
            replace MX := Lib.hid (MX.out.kept n id)
            replace HB3 := Lib.hid (n.heap HB3.out id)
            replace SZ := Nat.lt_of_lt_of_le SZ n.size
            replace HC := Lib.hid (HC.out.trans n)
            replace HIX := Lib.hid ((HIX.out.kept n nof).hi n.size)
            replace HBP := Lib.hid (n.heap HBP.out id)
            replace HSP := Lib.hid (n.heap HSP.out id)
            replace HC2 := Lib.hid (HC2.out.trans n)
            replace HBJ := Lib.hid (n.heap HBJ.out id)
            replace HIG := Lib.hid ((HIG.out.kept n nof).hi n.size)
            replace HBG := Lib.hid (n.heap HBG.out id)
            replace HIF := Lib.hid ((HIF.out.kept n nof).hi n.size)
            have HBF := Lib.hid (show W20.heap[w19.heap.size]? = some (.cells #[.int .i64 gW, .int .i64 gH, .slice AF gl.length cF] 28 (0, 0)) from by rw [hW]; exact heap_alloc_eq _ rfl)
            clear hW n
            clear HNM
            refine wp_named ?_
            intro W21 hW
            have n : Nw W20 W21 := by rw [hW]; first | exact Ch.refl _ _ | exact (Ch.refl _ _).alloc _
            replace NX := Lib.hid (NX.out.trans n)
            replace MX := Lib.hid (MX.out.kept n id)
            replace HB3 := Lib.hid (n.heap HB3.out id)
            replace SZ := Nat.lt_of_lt_of_le SZ n.size
            replace HC := Lib.hid (HC.out.trans n)
            replace HIX := Lib.hid ((HIX.out.kept n nof).hi n.size)
            replace HBP := Lib.hid (n.heap HBP.out id)
            replace HSP := Lib.hid (n.heap HSP.out id)
            replace HC2 := Lib.hid (HC2.out.trans n)
            replace HBJ := Lib.hid (n.heap HBJ.out id)
            replace HIG := Lib.hid ((HIG.out.kept n nof).hi n.size)
            replace HBG := Lib.hid (n.heap HBG.out id)
            replace HIF := Lib.hid ((HIF.out.kept n nof).hi n.size)
            replace HBF := Lib.hid (n.heap HBF.out id)
            clear hW n
            refine wp_region_V (F := fun w' => w'.cell? ⟨wr0.heap.size, 0, none⟩ = some (.int .i64 xW) ∧ w'.cell? ⟨wr0.heap.size, 1, none⟩ = some (.int .i64 xH) ∧ w'.cell? ⟨wr0.heap.size, 2, none⟩ = some (.slice AX xl.length cX) ∧ w'.cell? ⟨wr1.heap.size, 0, none⟩ = some (.int .i64 p0) ∧ w'.cell? ⟨wr1.heap.size, 1, none⟩ = some (.int .i64 p1) ∧ w'.cell? ⟨wr1.heap.size, 2, none⟩ = some (.int .i64 p2) ∧ w'.cell? ⟨wr1.heap.size, 3, none⟩ = some (.int .i64 p3) ∧ w'.cell? ⟨w17.heap.size, 0, none⟩ = some (.int .i64 gW) ∧ w'.cell? ⟨w17.heap.size, 1, none⟩ = some (.int .i64 gH) ∧ w'.cell? ⟨w17.heap.size, 2, none⟩ = some (.slice AG gl.length cG) ∧ w'.cell? ⟨w19.heap.size, 0, none⟩ = some (.int .i64 gW) ∧ w'.cell? ⟨w19.heap.size, 1, none⟩ = some (.int .i64 gH) ∧ w'.cell? ⟨w19.heap.size, 2, none⟩ = some (.slice AF gl.length cF)) (opsOf Tryd.f5 15) 24 24 (by kernel_rfl) (by kernel_rfl) (by kernel_rfl) (fun w w' h n => ⟨n.cell h.1 id, n.cell h.2.1 id, n.cell h.2.2.1 id, n.cell h.2.2.2.1 id, n.cell h.2.2.2.2.1 id, n.cell h.2.2.2.2.2.1 id, n.cell h.2.2.2.2.2.2.1 id, n.cell h.2.2.2.2.2.2.2.1 id, n.cell h.2.2.2.2.2.2.2.2.1 id, n.cell h.2.2.2.2.2.2.2.2.2.1 id, n.cell h.2.2.2.2.2.2.2.2.2.2.1 id, n.cell h.2.2.2.2.2.2.2.2.2.2.2.1 id, n.cell h.2.2.2.2.2.2.2.2.2.2.2.2 id⟩) ⟨by show W21.cell? _ = _; rw [cell_of HBP.out]; rfl, by show W21.cell? _ = _; rw [cell_of HBP.out]; rfl, by show W21.cell? _ = _; rw [cell_of HBP.out]; rfl, by show W21.cell? _ = _; rw [cell_of HBJ.out]; rfl, by show W21.cell? _ = _; rw [cell_of HBJ.out]; rfl, by show W21.cell? _ = _; rw [cell_of HBJ.out]; rfl, by show W21.cell? _ = _; rw [cell_of HBJ.out]; rfl, by show W21.cell? _ = _; rw [cell_of HBG.out]; rfl, by show W21.cell? _ = _; rw [cell_of HBG.out]; rfl, by show W21.cell? _ = _; rw [cell_of HBG.out]; rfl, by show W21.cell? _ = _; rw [cell_of HBF.out]; rfl, by show W21.cell? _ = _; rw [cell_of HBF.out]; rfl, by show W21.cell? _ = _; rw [cell_of HBF.out]; rfl⟩ (fun HOPS HCL hHeld => ?_)
            refine wpU_named ?_
            intro W22 hW
            try rw [← hW] at hHeld
            have n : Nw W21 W22 := by rw [hW]; exact (Ch.refl _ _).drew
            replace NX := Lib.hid (NX.out.trans n)
            replace MX := Lib.hid (MX.out.kept n id)
            replace HB3 := Lib.hid (n.heap HB3.out id)
            replace SZ := Nat.lt_of_lt_of_le SZ n.size
            replace HC := Lib.hid (HC.out.trans n)
            replace HIX := Lib.hid ((HIX.out.kept n nof).hi n.size)
            replace HBP := Lib.hid (n.heap HBP.out id)
            replace HSP := Lib.hid (n.heap HSP.out id)
            replace HC2 := Lib.hid (HC2.out.trans n)
            replace HBJ := Lib.hid (n.heap HBJ.out id)
            replace HIG := Lib.hid ((HIG.out.kept n nof).hi n.size)
            replace HBG := Lib.hid (n.heap HBG.out id)
            replace HIF := Lib.hid ((HIF.out.kept n nof).hi n.size)
            replace HBF := Lib.hid (n.heap HBF.out id)
            clear hW n
            first | (refine wpU_takeB (i := 0) (v := ?_) HOPS rfl (by kernel_rfl) (fun _ _ _ h => h) HCL (goes_read (by rfl) ?hy) ?_; case hy => (intro w hSw; (try dsimp only at hSw); go_simp; (try with_reducible rfl))) | (refine wpU_takeB (i := 0) (v := _) HOPS rfl (by kernel_rfl) (fun _ _ _ h => h) HCL (goes_not (by rfl)) ?_)
            try simp only [Act.put, List.getElem_toArray, List.getElem_cons_succ, List.getElem_cons_zero, List.setIfInBounds_toArray, List.set_cons_zero, List.set_cons_succ]
            first | (refine wpU_takeB (i := 1) (v := ?_) HOPS rfl (by kernel_rfl) (fun _ _ _ h => h) HCL (goes_read (by rfl) ?hy) ?_; case hy => (intro w hSw; (try dsimp only at hSw); go_simp; (try with_reducible rfl))) | (refine wpU_takeB (i := 1) (v := _) HOPS rfl (by kernel_rfl) (fun _ _ _ h => h) HCL (goes_not (by rfl)) ?_)
            try simp only [Act.put, List.getElem_toArray, List.getElem_cons_succ, List.getElem_cons_zero, List.setIfInBounds_toArray, List.set_cons_zero, List.set_cons_succ]
            first | (refine wpU_takeB (i := 2) (v := ?_) HOPS rfl (by kernel_rfl) (fun _ _ _ h => h) HCL (goes_read (by rfl) ?hy) ?_; case hy => (intro w hSw; (try dsimp only at hSw); go_simp; (try with_reducible rfl))) | (refine wpU_takeB (i := 2) (v := _) HOPS rfl (by kernel_rfl) (fun _ _ _ h => h) HCL (goes_not (by rfl)) ?_)
            try simp only [Act.put, List.getElem_toArray, List.getElem_cons_succ, List.getElem_cons_zero, List.setIfInBounds_toArray, List.set_cons_zero, List.set_cons_succ]
            first | (refine wpU_takeB (i := 3) (v := ?_) HOPS rfl (by kernel_rfl) (fun _ _ _ h => h) HCL (goes_read (by rfl) ?hy) ?_; case hy => (intro w hSw; (try dsimp only at hSw); go_simp; (try with_reducible rfl))) | (refine wpU_takeB (i := 3) (v := _) HOPS rfl (by kernel_rfl) (fun _ _ _ h => h) HCL (goes_not (by rfl)) ?_)
            try simp only [Act.put, List.getElem_toArray, List.getElem_cons_succ, List.getElem_cons_zero, List.setIfInBounds_toArray, List.set_cons_zero, List.set_cons_succ]
            first | (refine wpU_takeB (i := 4) (v := ?_) HOPS rfl (by kernel_rfl) (fun _ _ _ h => h) HCL (goes_read (by rfl) ?hy) ?_; case hy => (intro w hSw; (try dsimp only at hSw); go_simp; (try with_reducible rfl))) | (refine wpU_takeB (i := 4) (v := _) HOPS rfl (by kernel_rfl) (fun _ _ _ h => h) HCL (goes_not (by rfl)) ?_)
            try simp only [Act.put, List.getElem_toArray, List.getElem_cons_succ, List.getElem_cons_zero, List.setIfInBounds_toArray, List.set_cons_zero, List.set_cons_succ]
            first | (refine wpU_takeB (i := 5) (v := ?_) HOPS rfl (by kernel_rfl) (fun _ _ _ h => h) HCL (goes_read (by rfl) ?hy) ?_; case hy => (intro w hSw; (try dsimp only at hSw); go_simp; (try with_reducible rfl))) | (refine wpU_takeB (i := 5) (v := _) HOPS rfl (by kernel_rfl) (fun _ _ _ h => h) HCL (goes_not (by rfl)) ?_)
            try simp only [Act.put, List.getElem_toArray, List.getElem_cons_succ, List.getElem_cons_zero, List.setIfInBounds_toArray, List.set_cons_zero, List.set_cons_succ]
            refine wpU_takeB (i := 6) HOPS rfl (by kernel_rfl) (fun _ _ _ h => h) HCL (goes_fn (v := (.bool true)) 11 _ _ _ #[(.agg #[.int .i64 gW, .int .i64 gH, .slice AG gl.length cG]), (.agg #[.int .i64 gW, .int .i64 gH, .slice AF gl.length cF])] (by rfl) rfl (by kernel_rfl) (by kernel_rfl) (by kernel_rfl) (fun wq n R hR => ?_)) ?_
            · exact rbSame_any _ _ _ (gW, gH, gl) (gW, gH, gl) _ _ (HIG.out.kept n nof) (HIF.out.kept n nof) (fun w' n' => by rw [decide_eq_true rfl]; exact hR w' n')
            try simp only [Act.put, List.getElem_toArray, List.getElem_cons_succ, List.getElem_cons_zero, List.setIfInBounds_toArray, List.set_cons_zero, List.set_cons_succ]
            first | (refine wpU_takeB (i := 7) (v := ?_) HOPS rfl (by kernel_rfl) (fun _ _ _ h => h) HCL (goes_read (by rfl) ?hy) ?_; case hy => (intro w hSw; (try dsimp only at hSw); go_simp; (try with_reducible rfl))) | (refine wpU_takeB (i := 7) (v := _) HOPS rfl (by kernel_rfl) (fun _ _ _ h => h) HCL (goes_not (by rfl)) ?_)
            try simp only [Act.put, List.getElem_toArray, List.getElem_cons_succ, List.getElem_cons_zero, List.setIfInBounds_toArray, List.set_cons_zero, List.set_cons_succ]
            first | (refine wpU_takeB (i := 8) (v := ?_) HOPS rfl (by kernel_rfl) (fun _ _ _ h => h) HCL (goes_read (by rfl) ?hy) ?_; case hy => (intro w hSw; (try dsimp only at hSw); go_simp; (try with_reducible rfl))) | (refine wpU_takeB (i := 8) (v := _) HOPS rfl (by kernel_rfl) (fun _ _ _ h => h) HCL (goes_not (by rfl)) ?_)
            try simp only [Act.put, List.getElem_toArray, List.getElem_cons_succ, List.getElem_cons_zero, List.setIfInBounds_toArray, List.set_cons_zero, List.set_cons_succ]
            first | (refine wpU_takeB (i := 9) (v := ?_) HOPS rfl (by kernel_rfl) (fun _ _ _ h => h) HCL (goes_read (by rfl) ?hy) ?_; case hy => (intro w hSw; (try dsimp only at hSw); go_simp; (try with_reducible rfl))) | (refine wpU_takeB (i := 9) (v := _) HOPS rfl (by kernel_rfl) (fun _ _ _ h => h) HCL (goes_not (by rfl)) ?_)
            try simp only [Act.put, List.getElem_toArray, List.getElem_cons_succ, List.getElem_cons_zero, List.setIfInBounds_toArray, List.set_cons_zero, List.set_cons_succ]
            first | (refine wpU_takeB (i := 10) (v := ?_) HOPS rfl (by kernel_rfl) (fun _ _ _ h => h) HCL (goes_read (by rfl) ?hy) ?_; case hy => (intro w hSw; (try dsimp only at hSw); go_simp; (try with_reducible rfl))) | (refine wpU_takeB (i := 10) (v := _) HOPS rfl (by kernel_rfl) (fun _ _ _ h => h) HCL (goes_not (by rfl)) ?_)
            try simp only [Act.put, List.getElem_toArray, List.getElem_cons_succ, List.getElem_cons_zero, List.setIfInBounds_toArray, List.set_cons_zero, List.set_cons_succ]
            first | (refine wpU_takeB (i := 11) (v := ?_) HOPS rfl (by kernel_rfl) (fun _ _ _ h => h) HCL (goes_read (by rfl) ?hy) ?_; case hy => (intro w hSw; (try dsimp only at hSw); go_simp; (try with_reducible rfl))) | (refine wpU_takeB (i := 11) (v := _) HOPS rfl (by kernel_rfl) (fun _ _ _ h => h) HCL (goes_not (by rfl)) ?_)
            try simp only [Act.put, List.getElem_toArray, List.getElem_cons_succ, List.getElem_cons_zero, List.setIfInBounds_toArray, List.set_cons_zero, List.set_cons_succ]
            first | (refine wpU_takeB (i := 12) (v := ?_) HOPS rfl (by kernel_rfl) (fun _ _ _ h => h) HCL (goes_read (by rfl) ?hy) ?_; case hy => (intro w hSw; (try dsimp only at hSw); go_simp; (try with_reducible rfl))) | (refine wpU_takeB (i := 12) (v := _) HOPS rfl (by kernel_rfl) (fun _ _ _ h => h) HCL (goes_not (by rfl)) ?_)
            try simp only [Act.put, List.getElem_toArray, List.getElem_cons_succ, List.getElem_cons_zero, List.setIfInBounds_toArray, List.set_cons_zero, List.set_cons_succ]
            first | (refine wpU_takeB (i := 13) (v := ?_) HOPS rfl (by kernel_rfl) (fun _ _ _ h => h) HCL (goes_read (by rfl) ?hy) ?_; case hy => (intro w hSw; (try dsimp only at hSw); go_simp; (try with_reducible rfl))) | (refine wpU_takeB (i := 13) (v := _) HOPS rfl (by kernel_rfl) (fun _ _ _ h => h) HCL (goes_not (by rfl)) ?_)
            try simp only [Act.put, List.getElem_toArray, List.getElem_cons_succ, List.getElem_cons_zero, List.setIfInBounds_toArray, List.set_cons_zero, List.set_cons_succ]
            first | (refine wpU_takeB (i := 14) (v := ?_) HOPS rfl (by kernel_rfl) (fun _ _ _ h => h) HCL (goes_read (by rfl) ?hy) ?_; case hy => (intro w hSw; (try dsimp only at hSw); go_simp; (try with_reducible rfl))) | (refine wpU_takeB (i := 14) (v := _) HOPS rfl (by kernel_rfl) (fun _ _ _ h => h) HCL (goes_not (by rfl)) ?_)
            try simp only [Act.put, List.getElem_toArray, List.getElem_cons_succ, List.getElem_cons_zero, List.setIfInBounds_toArray, List.set_cons_zero, List.set_cons_succ]
            first | (refine wpU_takeB (i := 16) (v := ?_) HOPS rfl (by kernel_rfl) (fun _ _ _ h => h) HCL (goes_read (by rfl) ?hy) ?_; case hy => (intro w hSw; (try dsimp only at hSw); go_simp; (try with_reducible rfl))) | (refine wpU_takeB (i := 16) (v := _) HOPS rfl (by kernel_rfl) (fun _ _ _ h => h) HCL (goes_not (by rfl)) ?_)
            try simp only [Act.put, List.getElem_toArray, List.getElem_cons_succ, List.getElem_cons_zero, List.setIfInBounds_toArray, List.set_cons_zero, List.set_cons_succ]
            first | (refine wpU_takeB (i := 17) (v := ?_) HOPS rfl (by kernel_rfl) (fun _ _ _ h => h) HCL (goes_read (by rfl) ?hy) ?_; case hy => (intro w hSw; (try dsimp only at hSw); go_simp; (try with_reducible rfl))) | (refine wpU_takeB (i := 17) (v := _) HOPS rfl (by kernel_rfl) (fun _ _ _ h => h) HCL (goes_not (by rfl)) ?_)
            try simp only [Act.put, List.getElem_toArray, List.getElem_cons_succ, List.getElem_cons_zero, List.setIfInBounds_toArray, List.set_cons_zero, List.set_cons_succ]
            first | (refine wpU_takeB (i := 18) (v := ?_) HOPS rfl (by kernel_rfl) (fun _ _ _ h => h) HCL (goes_read (by rfl) ?hy) ?_; case hy => (intro w hSw; (try dsimp only at hSw); go_simp; (try with_reducible rfl))) | (refine wpU_takeB (i := 18) (v := _) HOPS rfl (by kernel_rfl) (fun _ _ _ h => h) HCL (goes_not (by rfl)) ?_)
            try simp only [Act.put, List.getElem_toArray, List.getElem_cons_succ, List.getElem_cons_zero, List.setIfInBounds_toArray, List.set_cons_zero, List.set_cons_succ]
            first | (refine wpU_takeB (i := 19) (v := ?_) HOPS rfl (by kernel_rfl) (fun _ _ _ h => h) HCL (goes_read (by rfl) ?hy) ?_; case hy => (intro w hSw; (try dsimp only at hSw); go_simp; (try with_reducible rfl))) | (refine wpU_takeB (i := 19) (v := _) HOPS rfl (by kernel_rfl) (fun _ _ _ h => h) HCL (goes_not (by rfl)) ?_)
            try simp only [Act.put, List.getElem_toArray, List.getElem_cons_succ, List.getElem_cons_zero, List.setIfInBounds_toArray, List.set_cons_zero, List.set_cons_succ]
            first | (refine wpU_takeB (i := 20) (v := ?_) HOPS rfl (by kernel_rfl) (fun _ _ _ h => h) HCL (goes_read (by rfl) ?hy) ?_; case hy => (intro w hSw; (try dsimp only at hSw); go_simp; (try with_reducible rfl))) | (refine wpU_takeB (i := 20) (v := _) HOPS rfl (by kernel_rfl) (fun _ _ _ h => h) HCL (goes_not (by rfl)) ?_)
            try simp only [Act.put, List.getElem_toArray, List.getElem_cons_succ, List.getElem_cons_zero, List.setIfInBounds_toArray, List.set_cons_zero, List.set_cons_succ]
            refine wpU_takeB (i := 15) HOPS rfl (by kernel_rfl) (fun _ _ _ h => h) HCL (goes_fn (v := (.bool (getB (xW, xH, xl) p2 p3))) 29 _ _ _ #[(.agg #[.int .i64 xW, .int .i64 xH, .slice AX xl.length cX]), .int .i64 p2, .int .i64 p3] (by rfl) rfl (by kernel_rfl) (by kernel_rfl) (by kernel_rfl) (fun wq n R hR => ?_)) ?_
            · exact Get_any _ _ _ _ _ _ _ (HIX.out.kept n nof) hR
            try simp only [Act.put, List.getElem_toArray, List.getElem_cons_succ, List.getElem_cons_zero, List.setIfInBounds_toArray, List.set_cons_zero, List.set_cons_succ]
            refine wpU_takeB (i := 21) HOPS rfl (by kernel_rfl) (fun _ _ _ h => h) HCL (goes_fn (v := (.bool (getB (xW, xH, xl) p2 p3))) 30 _ _ _ #[(.agg #[.int .i64 xW, .int .i64 xH, .slice AX xl.length cX]), .int .i64 p2, .int .i64 p3] (by rfl) rfl (by kernel_rfl) (by kernel_rfl) (by kernel_rfl) (fun wq n R hR => ?_)) ?_
            · exact rGet_any _ _ _ _ _ _ _ (HIX.out.kept n nof) hR
            try simp only [Act.put, List.getElem_toArray, List.getElem_cons_succ, List.getElem_cons_zero, List.setIfInBounds_toArray, List.set_cons_zero, List.set_cons_succ]
            first | (refine wpU_takeB (i := 22) (v := ?_) HOPS rfl (by kernel_rfl) (fun _ _ _ h => h) HCL (goes_read (by rfl) ?hy) ?_; case hy => (intro w hSw; (try dsimp only at hSw); go_simp; (try with_reducible rfl))) | (refine wpU_takeB (i := 22) (v := _) HOPS rfl (by kernel_rfl) (fun _ _ _ h => h) HCL (goes_not (by rfl)) ?_)
            try simp only [Act.put, List.getElem_toArray, List.getElem_cons_succ, List.getElem_cons_zero, List.setIfInBounds_toArray, List.set_cons_zero, List.set_cons_succ]
            first | (refine wpU_takeB (i := 23) (v := ?_) HOPS rfl (by kernel_rfl) (fun _ _ _ h => h) HCL (goes_read (by rfl) ?hy) ?_; case hy => (intro w hSw; (try dsimp only at hSw); go_simp; (try with_reducible rfl))) | (refine wpU_takeB (i := 23) (v := _) HOPS rfl (by kernel_rfl) (fun _ _ _ h => h) HCL (goes_not (by rfl)) ?_)
            try simp only [Act.put, List.getElem_toArray, List.getElem_cons_succ, List.getElem_cons_zero, List.setIfInBounds_toArray, List.set_cons_zero, List.set_cons_succ]
            refine wpU_done (by kernel_rfl) (fun w23 hle => ?_) _
            have n := (hle.ahead (by kernel_rfl)).1
            replace NX := Lib.hid (NX.out.trans n)
            replace MX := Lib.hid (MX.out.kept n id)
            replace HB3 := Lib.hid (n.heap HB3.out id)
            replace SZ := Nat.lt_of_lt_of_le SZ n.size
            replace HC := Lib.hid (HC.out.trans n)
            replace HIX := Lib.hid ((HIX.out.kept n nof).hi n.size)
            replace HBP := Lib.hid (n.heap HBP.out id)
            replace HSP := Lib.hid (n.heap HSP.out id)
            replace HC2 := Lib.hid (HC2.out.trans n)
            replace HBJ := Lib.hid (n.heap HBJ.out id)
            replace HIG := Lib.hid ((HIG.out.kept n nof).hi n.size)
            replace HBG := Lib.hid (n.heap HBG.out id)
            replace HIF := Lib.hid ((HIF.out.kept n nof).hi n.size)
            replace HBF := Lib.hid (n.heap HBF.out id)
            clear n
            clear HOPS HCL hle
            repeat clear hHeld
            go_wp2_with fail
            refine ⟨⟨j + 1, by go_num, by omega, Lib.hid HC2.out⟩, ?_⟩
            simp [intOf]; omega
          · as_aux_lemma =>
            obtain rfl : j = 2 := by omega
            clear HSP
            have kHBP0 : wr1.cell? ⟨wr0.heap.size, 0, none⟩ = some (.int .i64 xW) := by rw [cell_of HBP.out]; rfl
            have jHBP0 : ∀ o, (wr1.alloc o).cell? ⟨wr0.heap.size, 0, none⟩ = some (.int .i64 xW) := fun o => cell_alloc_old o kHBP0
            have kHBP1 : wr1.cell? ⟨wr0.heap.size, 1, none⟩ = some (.int .i64 xH) := by rw [cell_of HBP.out]; rfl
            have jHBP1 : ∀ o, (wr1.alloc o).cell? ⟨wr0.heap.size, 1, none⟩ = some (.int .i64 xH) := fun o => cell_alloc_old o kHBP1
            have kHBP2 : wr1.cell? ⟨wr0.heap.size, 2, none⟩ = some (.slice AX xl.length cX) := by rw [cell_of HBP.out]; rfl
            have jHBP2 : ∀ o, (wr1.alloc o).cell? ⟨wr0.heap.size, 2, none⟩ = some (.slice AX xl.length cX) := fun o => cell_alloc_old o kHBP2
            go_wp2_with (go_at_call 3; fail)
            clear kHBP0 jHBP0 kHBP1 jHBP1 kHBP2 jHBP2
            refine Calls_nm ?_
            intro W24 hW
            have n : Nw wr1 W24 := by rw [hW]; first | exact Ch.refl _ _ | exact (Ch.refl _ _).alloc _ | exact ((Ch.refl _ _).alloc _).alloc _
            replace NX := Lib.hid (NX.out.trans n)
            replace MX := Lib.hid (MX.out.kept n id)
            replace HB3 := Lib.hid (n.heap HB3.out id)
            replace SZ := Nat.lt_of_lt_of_le SZ n.size
            replace HC := Lib.hid (HC.out.trans n)
            replace HIX := Lib.hid ((HIX.out.kept n nof).hi n.size)
            replace HBP := Lib.hid (n.heap HBP.out id)
            replace HC2 := Lib.hid (HC2.out.trans n)
            clear hW n
            refine rbText_any _ _ _ _ _ HIX.out (Nat.le_refl _) ?_
            intro w25 n
            replace NX := Lib.hid (NX.out.trans n)
            replace MX := Lib.hid (MX.out.kept n id)
            replace HB3 := Lib.hid (n.heap HB3.out id)
            replace SZ := Nat.lt_of_lt_of_le SZ n.size
            replace HC := Lib.hid (HC.out.trans n)
            replace HIX := Lib.hid ((HIX.out.kept n nof).hi n.size)
            replace HBP := Lib.hid (n.heap HBP.out id)
            replace HC2 := Lib.hid (HC2.out.trans n)
            clear n
            obtain ⟨T, hT⟩ : ∃ T : ByteArray, ⟨(textB (xW, xH, xl)).toArray⟩ = T := ⟨_, rfl⟩
            have hTl : T.size ≤ 9312 := by
              rw [← hT]
              show (textB _).toArray.size ≤ _
              rw [List.size_toArray]
              by_cases h : bmOk (xW, xH, xl)
              · exact textB_len h
              · unfold textB; rw [if_neg h]; decide
            rw [hT]
            clear hT
            have kHB30 : w25.cell? ⟨w.heap.size, 0, none⟩ = some (.slice A0 la.length c0) := by rw [cell_of HB3.out]; rfl
            have jHB30 : ∀ o, (w25.alloc o).cell? ⟨w.heap.size, 0, none⟩ = some (.slice A0 la.length c0) := fun o => cell_alloc_old o kHB30
            have kHB31 : w25.cell? ⟨w.heap.size, 1, none⟩ = some (.slice A1 lb.length c1) := by rw [cell_of HB3.out]; rfl
            have jHB31 : ∀ o, (w25.alloc o).cell? ⟨w.heap.size, 1, none⟩ = some (.slice A1 lb.length c1) := fun o => cell_alloc_old o kHB31
            have kHB32 : w25.cell? ⟨w.heap.size, 2, none⟩ = some (.int .i64 od) := by rw [cell_of HB3.out]; rfl
            have jHB32 : ∀ o, (w25.alloc o).cell? ⟨w.heap.size, 2, none⟩ = some (.int .i64 od) := fun o => cell_alloc_old o kHB32
            have kHB33 : w25.cell? ⟨w.heap.size, 3, none⟩ = some (.int .i64 n0) := by rw [cell_of HB3.out]; rfl
            have jHB33 : ∀ o, (w25.alloc o).cell? ⟨w.heap.size, 3, none⟩ = some (.int .i64 n0) := fun o => cell_alloc_old o kHB33
            have kHB34 : w25.cell? ⟨w.heap.size, 4, none⟩ = some (.int .i64 n1) := by rw [cell_of HB3.out]; rfl
            have jHB34 : ∀ o, (w25.alloc o).cell? ⟨w.heap.size, 4, none⟩ = some (.int .i64 n1) := fun o => cell_alloc_old o kHB34
            have kHB35 : w25.cell? ⟨w.heap.size, 5, none⟩ = some (.int .i64 n2) := by rw [cell_of HB3.out]; rfl
            have jHB35 : ∀ o, (w25.alloc o).cell? ⟨w.heap.size, 5, none⟩ = some (.int .i64 n2) := fun o => cell_alloc_old o kHB35
            have kHB36 : w25.cell? ⟨w.heap.size, 6, none⟩ = some (.int .i64 n3) := by rw [cell_of HB3.out]; rfl
            have jHB36 : ∀ o, (w25.alloc o).cell? ⟨w.heap.size, 6, none⟩ = some (.int .i64 n3) := fun o => cell_alloc_old o kHB36
            go_upto_region 20 with (first | (go_at_call 20; refine Mod_any _ _ _ _ HOD.out (by omega) (by omega) ?_) | fail)
            clear kHB30 jHB30 kHB31 jHB31 kHB32 jHB32 kHB33 jHB33 kHB34 jHB34 kHB35 jHB35 kHB36 jHB36
            obtain ⟨m, hm⟩ : ∃ m : Nat, od % ((T.size : Int) + 1) = (m : Int) := ⟨(od % ((T.size : Int) + 1)).toNat, by have := Int.emod_nonneg od (show (T.size : Int) + 1 ≠ 0 by omega); omega⟩
            have hmT : m ≤ T.size := by have := Int.emod_lt_of_pos od (show (0 : Int) < (T.size : Int) + 1 by omega); omega
            rw [hm]
            clear hm
            have m0 : (0 : Int) ≤ (m : Int) := by omega
            have m1 : (m : Int) ≤ (T.size : Int) := by omega
            refine wp_named ?_
            intro W26 hW
            have n : Nw w25 W26 := by rw [hW]; first | exact Ch.refl _ _ | exact (Ch.refl _ _).alloc _
            replace NX := Lib.hid (NX.out.trans n)
            replace MX := Lib.hid (MX.out.kept n id)
            replace HB3 := Lib.hid (n.heap HB3.out id)
            replace SZ := Nat.lt_of_lt_of_le SZ n.size
            replace HC := Lib.hid (HC.out.trans n)
            replace HIX := Lib.hid ((HIX.out.kept n nof).hi n.size)
            replace HBP := Lib.hid (n.heap HBP.out id)
            replace HC2 := Lib.hid (HC2.out.trans n)
            clear hW n
            refine wp_region_V (F := fun w' => True) (opsOf Tryd.f5 20) 21 21 (by kernel_rfl) (by kernel_rfl) (by kernel_rfl) (fun w w' h n => True.intro) True.intro (fun HOPS HCL hHeld => ?_)
            refine wpU_named ?_
            intro W27 hW
            try rw [← hW] at hHeld
            have n : Nw W26 W27 := by rw [hW]; exact (Ch.refl _ _).drew
            replace NX := Lib.hid (NX.out.trans n)
            replace MX := Lib.hid (MX.out.kept n id)
            replace HB3 := Lib.hid (n.heap HB3.out id)
            replace SZ := Nat.lt_of_lt_of_le SZ n.size
            replace HC := Lib.hid (HC.out.trans n)
            replace HIX := Lib.hid ((HIX.out.kept n nof).hi n.size)
            replace HBP := Lib.hid (n.heap HBP.out id)
            replace HC2 := Lib.hid (HC2.out.trans n)
            clear hW n
            first | (refine wpU_takeB (i := 0) (v := ?_) HOPS rfl (by kernel_rfl) (fun _ _ _ h => h) HCL (goes_read (by rfl) ?hy) ?_; case hy => (intro w hSw; (try dsimp only at hSw); go_simp; (try with_reducible rfl))) | (refine wpU_takeB (i := 0) (v := _) HOPS rfl (by kernel_rfl) (fun _ _ _ h => h) HCL (goes_not (by rfl)) ?_)
            try simp only [Act.put, List.getElem_toArray, List.getElem_cons_succ, List.getElem_cons_zero, List.setIfInBounds_toArray, List.set_cons_zero, List.set_cons_succ]
            first | (refine wpU_takeB (i := 1) (v := ?_) HOPS rfl (by kernel_rfl) (fun _ _ _ h => h) HCL (goes_read (by rfl) ?hy) ?_; case hy => (intro w hSw; (try dsimp only at hSw); go_simp; (try with_reducible rfl))) | (refine wpU_takeB (i := 1) (v := _) HOPS rfl (by kernel_rfl) (fun _ _ _ h => h) HCL (goes_not (by rfl)) ?_)
            try simp only [Act.put, List.getElem_toArray, List.getElem_cons_succ, List.getElem_cons_zero, List.setIfInBounds_toArray, List.set_cons_zero, List.set_cons_succ]
            first | (refine wpU_takeB (i := 2) (v := ?_) HOPS rfl (by kernel_rfl) (fun _ _ _ h => h) HCL (goes_read (by rfl) ?hy) ?_; case hy => (intro w hSw; (try dsimp only at hSw); go_simp; (try with_reducible rfl))) | (refine wpU_takeB (i := 2) (v := _) HOPS rfl (by kernel_rfl) (fun _ _ _ h => h) HCL (goes_not (by rfl)) ?_)
            try simp only [Act.put, List.getElem_toArray, List.getElem_cons_succ, List.getElem_cons_zero, List.setIfInBounds_toArray, List.set_cons_zero, List.set_cons_succ]
            first | (refine wpU_takeB (i := 3) (v := ?_) HOPS rfl (by kernel_rfl) (fun _ _ _ h => h) HCL (goes_read (by rfl) ?hy) ?_; case hy => (intro w hSw; (try dsimp only at hSw); go_simp; (try with_reducible rfl))) | (refine wpU_takeB (i := 3) (v := _) HOPS rfl (by kernel_rfl) (fun _ _ _ h => h) HCL (goes_not (by rfl)) ?_)
            try simp only [Act.put, List.getElem_toArray, List.getElem_cons_succ, List.getElem_cons_zero, List.setIfInBounds_toArray, List.set_cons_zero, List.set_cons_succ]
            first | (refine wpU_takeB (i := 4) (v := ?_) HOPS rfl (by kernel_rfl) (fun _ _ _ h => h) HCL (goes_read (by rfl) ?hy) ?_; case hy => (intro w hSw; (try dsimp only at hSw); go_simp; (try with_reducible rfl))) | (refine wpU_takeB (i := 4) (v := _) HOPS rfl (by kernel_rfl) (fun _ _ _ h => h) HCL (goes_not (by rfl)) ?_)
            try simp only [Act.put, List.getElem_toArray, List.getElem_cons_succ, List.getElem_cons_zero, List.setIfInBounds_toArray, List.set_cons_zero, List.set_cons_succ]
            first | (refine wpU_takeB (i := 5) (v := ?_) HOPS rfl (by kernel_rfl) (fun _ _ _ h => h) HCL (goes_read (by rfl) ?hy) ?_; case hy => (intro w hSw; (try dsimp only at hSw); go_simp; (try with_reducible rfl))) | (refine wpU_takeB (i := 5) (v := _) HOPS rfl (by kernel_rfl) (fun _ _ _ h => h) HCL (goes_not (by rfl)) ?_)
            try simp only [Act.put, List.getElem_toArray, List.getElem_cons_succ, List.getElem_cons_zero, List.setIfInBounds_toArray, List.set_cons_zero, List.set_cons_succ]
            first | (refine wpU_takeB (i := 6) (v := ?_) HOPS rfl (by kernel_rfl) (fun _ _ _ h => h) HCL (goes_read (by rfl) ?hy) ?_; case hy => (intro w hSw; (try dsimp only at hSw); go_simp; (try with_reducible rfl))) | (refine wpU_takeB (i := 6) (v := _) HOPS rfl (by kernel_rfl) (fun _ _ _ h => h) HCL (goes_not (by rfl)) ?_)
            try simp only [Act.put, List.getElem_toArray, List.getElem_cons_succ, List.getElem_cons_zero, List.setIfInBounds_toArray, List.set_cons_zero, List.set_cons_succ]
            first | (refine wpU_takeB (i := 7) (v := ?_) HOPS rfl (by kernel_rfl) (fun _ _ _ h => h) HCL (goes_read (by rfl) ?hy) ?_; case hy => (intro w hSw; (try dsimp only at hSw); go_simp; (try with_reducible rfl))) | (refine wpU_takeB (i := 7) (v := _) HOPS rfl (by kernel_rfl) (fun _ _ _ h => h) HCL (goes_not (by rfl)) ?_)
            try simp only [Act.put, List.getElem_toArray, List.getElem_cons_succ, List.getElem_cons_zero, List.setIfInBounds_toArray, List.set_cons_zero, List.set_cons_succ]
            first | (refine wpU_takeB (i := 9) (v := ?_) HOPS rfl (by kernel_rfl) (fun _ _ _ h => h) HCL (goes_read (by rfl) ?hy) ?_; case hy => (intro w hSw; (try dsimp only at hSw); go_simp; (try with_reducible rfl))) | (refine wpU_takeB (i := 9) (v := _) HOPS rfl (by kernel_rfl) (fun _ _ _ h => h) HCL (goes_not (by rfl)) ?_)
            try simp only [Act.put, List.getElem_toArray, List.getElem_cons_succ, List.getElem_cons_zero, List.setIfInBounds_toArray, List.set_cons_zero, List.set_cons_succ]
            first | (refine wpU_takeB (i := 10) (v := ?_) HOPS rfl (by kernel_rfl) (fun _ _ _ h => h) HCL (goes_read (by rfl) ?hy) ?_; case hy => (intro w hSw; (try dsimp only at hSw); go_simp; (try with_reducible rfl))) | (refine wpU_takeB (i := 10) (v := _) HOPS rfl (by kernel_rfl) (fun _ _ _ h => h) HCL (goes_not (by rfl)) ?_)
            try simp only [Act.put, List.getElem_toArray, List.getElem_cons_succ, List.getElem_cons_zero, List.setIfInBounds_toArray, List.set_cons_zero, List.set_cons_succ]
            first | (refine wpU_takeB (i := 11) (v := ?_) HOPS rfl (by kernel_rfl) (fun _ _ _ h => h) HCL (goes_read (by rfl) ?hy) ?_; case hy => (intro w hSw; (try dsimp only at hSw); go_simp; (try with_reducible rfl))) | (refine wpU_takeB (i := 11) (v := _) HOPS rfl (by kernel_rfl) (fun _ _ _ h => h) HCL (goes_not (by rfl)) ?_)
            try simp only [Act.put, List.getElem_toArray, List.getElem_cons_succ, List.getElem_cons_zero, List.setIfInBounds_toArray, List.set_cons_zero, List.set_cons_succ]
            first | (refine wpU_takeB (i := 13) (v := ?_) HOPS rfl (by kernel_rfl) (fun _ _ _ h => h) HCL (goes_read (by rfl) ?hy) ?_; case hy => (intro w hSw; (try dsimp only at hSw); go_simp; (try with_reducible rfl))) | (refine wpU_takeB (i := 13) (v := _) HOPS rfl (by kernel_rfl) (fun _ _ _ h => h) HCL (goes_not (by rfl)) ?_)
            try simp only [Act.put, List.getElem_toArray, List.getElem_cons_succ, List.getElem_cons_zero, List.setIfInBounds_toArray, List.set_cons_zero, List.set_cons_succ]
            first | (refine wpU_takeB (i := 14) (v := ?_) HOPS rfl (by kernel_rfl) (fun _ _ _ h => h) HCL (goes_read (by rfl) ?hy) ?_; case hy => (intro w hSw; (try dsimp only at hSw); go_simp; (try with_reducible rfl))) | (refine wpU_takeB (i := 14) (v := _) HOPS rfl (by kernel_rfl) (fun _ _ _ h => h) HCL (goes_not (by rfl)) ?_)
            try simp only [Act.put, List.getElem_toArray, List.getElem_cons_succ, List.getElem_cons_zero, List.setIfInBounds_toArray, List.set_cons_zero, List.set_cons_succ]
            first | (refine wpU_takeB (i := 15) (v := ?_) HOPS rfl (by kernel_rfl) (fun _ _ _ h => h) HCL (goes_read (by rfl) ?hy) ?_; case hy => (intro w hSw; (try dsimp only at hSw); go_simp; (try with_reducible rfl))) | (refine wpU_takeB (i := 15) (v := _) HOPS rfl (by kernel_rfl) (fun _ _ _ h => h) HCL (goes_not (by rfl)) ?_)
            try simp only [Act.put, List.getElem_toArray, List.getElem_cons_succ, List.getElem_cons_zero, List.setIfInBounds_toArray, List.set_cons_zero, List.set_cons_succ]
            first | (refine wpU_takeB (i := 17) (v := ?_) HOPS rfl (by kernel_rfl) (fun _ _ _ h => h) HCL (goes_read (by rfl) ?hy) ?_; case hy => (intro w hSw; (try dsimp only at hSw); go_simp; (try with_reducible rfl))) | (refine wpU_takeB (i := 17) (v := _) HOPS rfl (by kernel_rfl) (fun _ _ _ h => h) HCL (goes_not (by rfl)) ?_)
            try simp only [Act.put, List.getElem_toArray, List.getElem_cons_succ, List.getElem_cons_zero, List.setIfInBounds_toArray, List.set_cons_zero, List.set_cons_succ]
            first | (refine wpU_takeB (i := 20) (v := ?_) HOPS rfl (by kernel_rfl) (fun _ _ _ h => h) HCL (goes_read (by rfl) ?hy) ?_; case hy => (intro w hSw; (try dsimp only at hSw); go_simp; (try with_reducible rfl))) | (refine wpU_takeB (i := 20) (v := _) HOPS rfl (by kernel_rfl) (fun _ _ _ h => h) HCL (goes_not (by rfl)) ?_)
            try simp only [Act.put, List.getElem_toArray, List.getElem_cons_succ, List.getElem_cons_zero, List.setIfInBounds_toArray, List.set_cons_zero, List.set_cons_succ]
            refine wpU_takeB (i := 8) HOPS rfl (by kernel_rfl) (fun _ _ _ h => h) HCL (goes_cat _ _ _ _ _ _ _ _ (by rfl) rfl (by rfl) (by rfl) (sz_ext hTl) hz3 (by decide)) ?_
            try simp only [Act.put, List.getElem_toArray, List.getElem_cons_succ, List.getElem_cons_zero, List.setIfInBounds_toArray, List.set_cons_zero, List.set_cons_succ]
            refine wpU_takeB (i := 12) HOPS rfl (by kernel_rfl) (fun _ _ _ h => h) HCL (goes_cat _ _ _ _ _ _ _ _ (by rfl) rfl (by rfl) (by rfl) (sz_ext hTl) (by decide : _ ≤ 1) (by decide)) ?_
            try simp only [Act.put, List.getElem_toArray, List.getElem_cons_succ, List.getElem_cons_zero, List.setIfInBounds_toArray, List.set_cons_zero, List.set_cons_succ]
            refine wpU_takeB (i := 16) HOPS rfl (by kernel_rfl) (fun _ _ _ h => h) HCL (goes_cat _ _ _ _ _ _ _ _ (by rfl) rfl (by rfl) (by rfl) (sz_cat (sz_ext hTl) (by decide : _ ≤ 1)) (sz_ext hTl) (by decide)) ?_
            try simp only [Act.put, List.getElem_toArray, List.getElem_cons_succ, List.getElem_cons_zero, List.setIfInBounds_toArray, List.set_cons_zero, List.set_cons_succ]
            refine wpU_ready (rs := [18]) (by kernel_rfl) (by simp) ?_
            intro w28 hle
            obtain ⟨n, hHeld⟩ := hle.ahead (by kernel_rfl)
            clear hle
            replace NX := Lib.hid (NX.out.trans n)
            replace MX := Lib.hid (MX.out.kept n id)
            replace HB3 := Lib.hid (n.heap HB3.out id)
            replace SZ := Nat.lt_of_lt_of_le SZ n.size
            replace HC := Lib.hid (HC.out.trans n)
            replace HIX := Lib.hid ((HIX.out.kept n nof).hi n.size)
            replace HBP := Lib.hid (n.heap HBP.out id)
            replace HC2 := Lib.hid (HC2.out.trans n)
            clear n
            refine ReadyU.cons HOPS rfl (by rfl) (fun K hK => ?_) ReadyU.nil
            refine wp_lits5 54 9 _ _ _ _ _ rfl (by kernel_rfl) (by kernel_rfl) (by rfl) (by rfl) (by rfl) (by rfl) (by rfl) rfl ?_
            refine hK.out _ _ ((Ch.refl _ _).alloc _) True.intro (fun hHeld => ?_)
            clear hK K
            try simp only [Act.put, List.getElem_toArray, List.getElem_cons_succ, List.getElem_cons_zero, List.setIfInBounds_toArray, List.set_cons_zero, List.set_cons_succ]
            have SZAHSS := SZ
            refine wpU_named ?_
            intro W29 hW
            try rw [← hW] at hHeld
            have n : Nw w28 W29 := by rw [hW]; exact (Ch.refl _ _).alloc _
            replace NX := Lib.hid (NX.out.trans n)
            replace MX := Lib.hid (MX.out.kept n id)
            replace HB3 := Lib.hid (n.heap HB3.out id)
            replace SZ := Nat.lt_of_lt_of_le SZ n.size
            replace HC := Lib.hid (HC.out.trans n)
            replace HIX := Lib.hid ((HIX.out.kept n nof).hi n.size)
            replace HBP := Lib.hid (n.heap HBP.out id)
            replace HC2 := Lib.hid (HC2.out.trans n)
            obtain ⟨SS, hss, hs5, hsz⟩ : ∃ l : List ByteArray, W29.heap[w28.heap.size]? = some (.cells (l.map Value.string).toArray 9 (0, 0)) ∧ l.length = 5 ∧ ∀ s ∈ l, s.size ≤ 500000 := by
              refine ⟨[T, T.extract 0 m, T.extract 0 m ++ zs, T.extract 0 m ++ ⟨#[35]⟩ ++ T.extract m T.size, zs], ?_, rfl, ?_⟩
              · rw [hW]; exact heap_alloc_eq _ rfl
              · intro s hs
                simp only [List.mem_cons, List.not_mem_nil, or_false] at hs
                rcases hs with rfl | rfl | rfl | rfl | rfl
                · exact Nat.le_trans hTl (by omega)
                · exact Nat.le_trans (sz_ext hTl) (by omega)
                · exact Nat.le_trans (sz_cat (sz_ext hTl) hz3) (by omega)
                · exact Nat.le_trans (sz_cat (sz_cat (sz_ext hTl) (by decide : _ ≤ 1)) (sz_ext hTl)) (by omega)
                · exact Nat.le_trans hz3 (by omega)
            have HSS := Lib.hid hss
            have HSZ := Lib.hid hsz
            clear hss hsz
            clear hW n
            first | (refine wpU_takeB (i := 19) (v := ?_) HOPS rfl (by kernel_rfl) (fun _ _ _ h => h) HCL (goes_read (by rfl) ?hy) ?_; case hy => (intro w hSw; (try dsimp only at hSw); go_simp; (try with_reducible rfl))) | (refine wpU_takeB (i := 19) (v := _) HOPS rfl (by kernel_rfl) (fun _ _ _ h => h) HCL (goes_not (by rfl)) ?_)
            try simp only [Act.put, List.getElem_toArray, List.getElem_cons_succ, List.getElem_cons_zero, List.setIfInBounds_toArray, List.set_cons_zero, List.set_cons_succ]
            refine wpU_done (by kernel_rfl) (fun w30 hle => ?_) _
            have n := (hle.ahead (by kernel_rfl)).1
            replace NX := Lib.hid (NX.out.trans n)
            replace MX := Lib.hid (MX.out.kept n id)
            replace HB3 := Lib.hid (n.heap HB3.out id)
            replace SZ := Nat.lt_of_lt_of_le SZ n.size
            replace HC := Lib.hid (HC.out.trans n)
            replace HIX := Lib.hid ((HIX.out.kept n nof).hi n.size)
            replace HBP := Lib.hid (n.heap HBP.out id)
            replace HC2 := Lib.hid (HC2.out.trans n)
            replace HSS := Lib.hid (n.heap HSS.out id)
            clear n
            clear HOPS HCL hle
            repeat clear hHeld
            go_wp2_with (go_at_call 3; fail)
            clear HC2 HB3 HIX HBP SZ
            as_aux_lemma =>
              go_loopw [173] (fun s173 wr => ∃ (j : Nat), s173 = .int .i64 j ∧ j ≤ 5 ∧ Hid (Nw w30 wr)) (fun s173 _ => 5 - (intOf s173).toNat)
              case atStart => exact ⟨0, rfl, by omega, Lib.hid (Ch.refl _ _)⟩
              case round =>
                obtain ⟨j, rfl, hj, HC3⟩ := hrel
                have j0 : (0 : Int) ≤ (j : Int) := by omega
                obtain ⟨wr1, hwr1⟩ : ∃ W : World, W = wr := ⟨_, rfl⟩
                subst hwr1
                replace NX := Lib.hid (NX.out.trans HC3.out)
                replace MX := Lib.hid (MX.out.kept HC3.out id)
                replace HC := Lib.hid (HC.out.trans HC3.out)
                replace HSS := Lib.hid (HC3.out.heap HSS.out id)
                by_cases hjt : j < 5
                · as_aux_lemma =>
                  have j5 : (j : Int) < 5 := by omega
                  obtain ⟨t, ht⟩ : ∃ t, SS[j]? = some t := ⟨_, List.getElem?_eq_getElem (by omega)⟩
                  have htl : t.size ≤ 500000 := HSZ.out t (List.mem_of_getElem? ht)
                  have q3 : wr1.cell? ⟨w28.heap.size, j, none⟩ = some (.string t) := by rw [cell_of HSS.out]; simp [ht]
                  clear ht
                  go_wp2_with (go_at_call 3; fail)
                  clear q3
                  refine Calls_nm ?_
                  intro W31 hW
                  have n : Nw wr1 W31 := by rw [hW]; first | exact Ch.refl _ _ | exact (Ch.refl _ _).alloc _ | exact ((Ch.refl _ _).alloc _).alloc _
                  replace NX := Lib.hid (NX.out.trans n)
                  replace MX := Lib.hid (MX.out.kept n id)
                  replace HC := Lib.hid (HC.out.trans n)
                  replace HSS := Lib.hid (n.heap HSS.out id)
                  replace HC3 := Lib.hid (HC3.out.trans n)
                  clear hW n
                  obtain ⟨PP, hPP⟩ : ∃ P, parseB t.data.toList = P := ⟨_, rfl⟩
                  have HPP := Lib.hid hPP
                  clear hPP
                  obtain ⟨⟨zW, zH, zl⟩, pok⟩ := PP
                  refine bParse_any t _ _ MX.out (by omega) ?_
                  intro w32 v hi n
                  replace NX := Lib.hid (NX.out.trans n)
                  replace MX := Lib.hid (MX.out.kept n id)
                  replace HC := Lib.hid (HC.out.trans n)
                  replace HSS := Lib.hid (n.heap HSS.out id)
                  replace HC3 := Lib.hid (HC3.out.trans n)
                  rw [HPP.out] at hi ⊢
                  simp only at hi ⊢
                  obtain ⟨AZ, cZ, rfl, hI⟩ := isBm_formN (W := zW) (H := zH) (n := zl.length) hi rfl rfl rfl
                  have HIZ := Lib.hid hI
                  clear hi hI n
                  go_wp2_with (go_at_call 3; fail)
                  refine Calls_nm ?_
                  intro W33 hW
                  have n : Nw w32 W33 := by rw [hW]; first | exact Ch.refl _ _ | exact (Ch.refl _ _).alloc _ | exact ((Ch.refl _ _).alloc _).alloc _
                  replace NX := Lib.hid (NX.out.trans n)
                  replace MX := Lib.hid (MX.out.kept n id)
                  replace HC := Lib.hid (HC.out.trans n)
                  replace HSS := Lib.hid (n.heap HSS.out id)
                  replace HC3 := Lib.hid (HC3.out.trans n)
                  replace HIZ := Lib.hid ((HIZ.out.kept n nof).hi n.size)
                  have HBZ := Lib.hid (show W33.heap[w32.heap.size]? = some (.cells #[.int .i64 zW, .int .i64 zH, .slice AZ zl.length cZ] 28 (0, 0)) from by rw [hW]; exact heap_alloc_eq _ rfl)
                  clear hW n
                  refine rbParse_any t _ _ (by omega) ?_
                  intro w34 v hi n
                  replace NX := Lib.hid (NX.out.trans n)
                  replace MX := Lib.hid (MX.out.kept n id)
                  replace HC := Lib.hid (HC.out.trans n)
                  replace HSS := Lib.hid (n.heap HSS.out id)
                  replace HC3 := Lib.hid (HC3.out.trans n)
                  replace HIZ := Lib.hid ((HIZ.out.kept n nof).hi n.size)
                  replace HBZ := Lib.hid (n.heap HBZ.out id)
                  rw [HPP.out] at hi ⊢
                  simp only at hi ⊢
                  obtain ⟨AV, cV, rfl, hI⟩ := isBm_formN (W := zW) (H := zH) (n := zl.length) hi rfl rfl rfl
                  have HIV := Lib.hid hI
                  clear hi hI n
                  have kHBZ0 : w34.cell? ⟨w32.heap.size, 0, none⟩ = some (.int .i64 zW) := by rw [cell_of HBZ.out]; rfl
                  have jHBZ0 : ∀ o, (w34.alloc o).cell? ⟨w32.heap.size, 0, none⟩ = some (.int .i64 zW) := fun o => cell_alloc_old o kHBZ0
                  have kHBZ1 : w34.cell? ⟨w32.heap.size, 1, none⟩ = some (.int .i64 zH) := by rw [cell_of HBZ.out]; rfl
                  have jHBZ1 : ∀ o, (w34.alloc o).cell? ⟨w32.heap.size, 1, none⟩ = some (.int .i64 zH) := fun o => cell_alloc_old o kHBZ1
                  have kHBZ2 : w34.cell? ⟨w32.heap.size, 2, none⟩ = some (.slice AZ zl.length cZ) := by rw [cell_of HBZ.out]; rfl
                  have jHBZ2 : ∀ o, (w34.alloc o).cell? ⟨w32.heap.size, 2, none⟩ = some (.slice AZ zl.length cZ) := fun o => cell_alloc_old o kHBZ2
                  go_wp2_with (go_at_call 3; fail)
                  clear kHBZ0 jHBZ0 kHBZ1 jHBZ1 kHBZ2 jHBZ2
                  refine Calls_nm ?_
                  intro W35 hW
                  have n : Nw w34 W35 := by rw [hW]; first | exact Ch.refl _ _ | exact (Ch.refl _ _).alloc _ | exact ((Ch.refl _ _).alloc _).alloc _
                  replace NX := Lib.hid (NX.out.trans n)
                  replace MX := Lib.hid (MX.out.kept n id)
                  replace HC := Lib.hid (HC.out.trans n)
                  replace HSS := Lib.hid (n.heap HSS.out id)
                  replace HC3 := Lib.hid (HC3.out.trans n)
                  replace HIZ := Lib.hid ((HIZ.out.kept n nof).hi n.size)
                  replace HBZ := Lib.hid (n.heap HBZ.out id)
                  replace HIV := Lib.hid ((HIV.out.kept n nof).hi n.size)
                  have HBV := Lib.hid (show W35.heap[w34.heap.size]? = some (.cells #[.int .i64 zW, .int .i64 zH, .slice AV zl.length cV] 28 (0, 0)) from by rw [hW]; exact heap_alloc_eq _ rfl)
                  clear hW n
                  refine rbSame_any _ _ _ (zW, zH, zl) (zW, zH, zl) _ _ HIZ.out HIV.out ?_
                  rw [decide_eq_true rfl]
                  intro w36 n
                  replace NX := Lib.hid (NX.out.trans n)
                  replace MX := Lib.hid (MX.out.kept n id)
                  replace HC := Lib.hid (HC.out.trans n)
                  replace HSS := Lib.hid (n.heap HSS.out id)
                  replace HC3 := Lib.hid (HC3.out.trans n)
                  replace HIZ := Lib.hid ((HIZ.out.kept n nof).hi n.size)
                  replace HBZ := Lib.hid (n.heap HBZ.out id)
                  replace HIV := Lib.hid ((HIV.out.kept n nof).hi n.size)
                  replace HBV := Lib.hid (n.heap HBV.out id)
                  clear n HPP
                  go_wp2_with fail
                  refine ⟨⟨j + 1, by go_num, by omega, Lib.hid HC3.out⟩, ?_⟩
                  simp [intOf]; omega
                · obtain rfl : j = 5 := by omega
                  go_wp2_with fail
                  refine ⟨⟨k + 1, by go_num, by omega, Lib.hid HC.out⟩, ?_⟩
                  simp [intOf]; omega
    · obtain rfl : k = 4 := by omega
      go_wp2_with fail
      exact ret_b (HR.out _ NX.out) (by simp)
end Go.Proofs.YtaafmgkjfmngjaaDoor
