/-
  The contract of the law BitmapParts: it returns true.
-/
import Derived.Test.YtaafmgkjfmngjaaDoorSan04
import Derived.Test.YtaafmgkjfmngjaaDoorBp4
import Derived.Test.YtaafmgkjfmngjaaDoorRpa4
import Derived.Test.YtaafmgkjfmngjaaDoorBc4
import Derived.Test.YtaafmgkjfmngjaaDoorRc4
import Derived.Test.YtaafmgkjfmngjaaDoorRo4
import Derived.Test.YtaafmgkjfmngjaaDoorBs4
import Derived.Test.YtaafmgkjfmngjaaDoorSm4
import Derived.Test.YtaafmgkjfmngjaaDoorSl4
import Derived.Test.YtaafmgkjfmngjaaDoorRegU
namespace Go.Proofs.YtaafmgkjfmngjaaDoor
open Go.RowKit
set_option linter.unusedVariables false
set_option linter.unusedSimpArgs false
set_option maxRecDepth 100000

theorem IsBools.take' {w : World} {lo n c : Nat} {A : Option Addr} {l : List Bool} (h : IsBools w lo (.slice A l.length c) l) (m : Nat) (hm : m ≤ l.length) : IsBools w lo (.slice A m c) (l.take m) := by
  obtain ⟨A', cap, e, hl, h⟩ := h
  injection e with e1 e2 e3
  subst e1 e3
  refine ⟨A, c, by rw [List.length_take, Nat.min_eq_left hm], ⟨by rw [List.length_take]; omega, by rw [List.length_take]; omega⟩, fun i x hi => ?_⟩
  rw [List.getElem?_take] at hi
  split at hi
  · exact h i x hi
  · simp at hi

set_option maxHeartbeats 16000000 in
theorem bparts_any (lo : Nat) (va vb : Value) (la lb : List Int) (vr : Value) (xr : Bm) (od n0 n1 n2 n3 q0 q1 : Int) (w : World) (R : Ending → World → Prop) (hlo : lo ≤ w.heap.size) (hla : IsInts w lo va la) (hlb : IsInts w lo vb lb)
    (hxr : IsBm w lo vr xr) (hod : wfI od) (hq : ∀ x ∈ [n0, n1, n2, n3, q0, q1], wfI x) (hmx : MaxOk w)
    (hR : ∀ w', Nw w w' → R (.returned (.bool true)) w') : Calls Tryd.prog 3 #[.agg #[va, vb, .int .i64 od, .int .i64 n0, .int .i64 n1, .int .i64 n2, .int .i64 n3], vr, .agg #[.int .i64 q0, .int .i64 q1]] w R := by
  have HR := Lib.hid hR
  clear hR
  have HLA := Lib.hid (hla.hi hlo)
  have HLB := Lib.hid (hlb.hi hlo)
  have HXR := Lib.hid (hxr.hi hlo)
  have HOD := Lib.hid hod
  have HQ := Lib.hid hq
  obtain ⟨A0, c0, rfl, -⟩ := hla
  obtain ⟨A1, c1, rfl, -⟩ := hlb
  obtain ⟨AR, cR, rfl, -⟩ := isBm_form hxr
  have hcr : xr.2.2.length ≤ cR ∧ xr.2.2.length ≤ 9223372036854775807 := by obtain ⟨s, e, ⟨A', c', e2, h1, -⟩, -⟩ := HXR.out; simp at e; subst e; simp at e2; omega
  obtain ⟨xrW, xrH, xrl⟩ := xr
  simp only at HXR hcr ⊢
  obtain ⟨hcr1, hcr2⟩ := hcr
  have NX := Lib.hid (Ch.refl (fun _ => False) w)
  have MX := Lib.hid hmx
  have hm0 := hmx.lt
  clear hmx hxr hq hod
  go_enter Tryd.func3, Tryd.ntmps3
  go_wp2_with (go_at_call 5; fail)
  refine Calls_nm ?_
  intro W1 hW
  have n : Nw w W1 := by rw [hW]; exact (((Ch.refl _ _).alloc _).alloc _).alloc _
  replace NX := Lib.hid (NX.out.trans n)
  replace MX := Lib.hid (MX.out.kept n id)
  replace HLA := Lib.hid (HLA.out.kept n nof)
  replace HLB := Lib.hid (HLB.out.kept n nof)
  replace HXR := Lib.hid (HXR.out.kept n nof)
  have HB3 := Lib.hid (show W1.heap[w.heap.size]? = some (.cells #[.slice A0 la.length c0, .slice A1 lb.length c1, .int .i64 od, .int .i64 n0, .int .i64 n1, .int .i64 n2, .int .i64 n3] 25 (0, 0)) from by rw [hW]; exact heap_alloc_old' _ (heap_alloc_old' _ (heap_alloc_eq _ rfl)))
  have HB4 := Lib.hid (show W1.heap[w.heap.size + 1]? = some (.cells #[.int .i64 xrW, .int .i64 xrH, .slice AR xrl.length cR] 28 (0, 0)) from by rw [hW]; exact heap_alloc_old' _ (heap_alloc_eq _ (by simp only [alloc_size])))
  have HB5 := Lib.hid (show W1.heap[w.heap.size + 2]? = some (.cells #[.int .i64 q0, .int .i64 q1] 29 (0, 0)) from by rw [hW]; exact heap_alloc_eq _ (by simp only [alloc_size]))
  clear hW n
  have SZ : w.heap.size + 2 < W1.heap.size := lt_of_heap HB5.out
  refine sanity_any _ _ MX.out ?_
  intro w2 n
  replace NX := Lib.hid (NX.out.trans n)
  replace MX := Lib.hid (MX.out.kept n id)
  replace HLA := Lib.hid (HLA.out.kept n nof)
  replace HLB := Lib.hid (HLB.out.kept n nof)
  replace HXR := Lib.hid (HXR.out.kept n nof)
  replace HB3 := Lib.hid (n.heap HB3.out id)
  replace HB4 := Lib.hid (n.heap HB4.out id)
  replace HB5 := Lib.hid (n.heap HB5.out id)
  replace SZ := Nat.lt_of_lt_of_le SZ n.size
  clear n
  obtain ⟨m, emm⟩ : ∃ k : Nat, min (xrl.length : Int) 400 = (k : Int) := ⟨(min (xrl.length : Int) 400).toNat, by omega⟩
  have mm0 : (0 : Int) ≤ (m : Int) := by omega
  have mm1 : (m : Int) ≤ (cR : Int) := by omega
  have f40 : w2.frozen? ⟨w.heap.size + 1, 0, none⟩ = false := frozen_of HB4.out
  have f41 : w2.frozen? ⟨w.heap.size + 1, 1, none⟩ = false := frozen_of HB4.out
  have f42 : w2.frozen? ⟨w.heap.size + 1, 2, none⟩ = false := frozen_of HB4.out
  have kHB40 : w2.cell? ⟨w.heap.size + 1, 0, none⟩ = some (.int .i64 xrW) := by rw [cell_of HB4.out]; rfl
  have jHB40 : ∀ o, (w2.alloc o).cell? ⟨w.heap.size + 1, 0, none⟩ = some (.int .i64 xrW) := fun o => cell_alloc_old o kHB40
  have kHB41 : w2.cell? ⟨w.heap.size + 1, 1, none⟩ = some (.int .i64 xrH) := by rw [cell_of HB4.out]; rfl
  have jHB41 : ∀ o, (w2.alloc o).cell? ⟨w.heap.size + 1, 1, none⟩ = some (.int .i64 xrH) := fun o => cell_alloc_old o kHB41
  have kHB42 : w2.cell? ⟨w.heap.size + 1, 2, none⟩ = some (.slice AR xrl.length cR) := by rw [cell_of HB4.out]; rfl
  have jHB42 : ∀ o, (w2.alloc o).cell? ⟨w.heap.size + 1, 2, none⟩ = some (.slice AR xrl.length cR) := fun o => cell_alloc_old o kHB42
  have kHB30 : w2.cell? ⟨w.heap.size, 0, none⟩ = some (.slice A0 la.length c0) := by rw [cell_of HB3.out]; rfl
  have jHB30 : ∀ o, (w2.alloc o).cell? ⟨w.heap.size, 0, none⟩ = some (.slice A0 la.length c0) := fun o => cell_alloc_old o kHB30
  have kHB31 : w2.cell? ⟨w.heap.size, 1, none⟩ = some (.slice A1 lb.length c1) := by rw [cell_of HB3.out]; rfl
  have jHB31 : ∀ o, (w2.alloc o).cell? ⟨w.heap.size, 1, none⟩ = some (.slice A1 lb.length c1) := fun o => cell_alloc_old o kHB31
  have kHB32 : w2.cell? ⟨w.heap.size, 2, none⟩ = some (.int .i64 od) := by rw [cell_of HB3.out]; rfl
  have jHB32 : ∀ o, (w2.alloc o).cell? ⟨w.heap.size, 2, none⟩ = some (.int .i64 od) := fun o => cell_alloc_old o kHB32
  have kHB33 : w2.cell? ⟨w.heap.size, 3, none⟩ = some (.int .i64 n0) := by rw [cell_of HB3.out]; rfl
  have jHB33 : ∀ o, (w2.alloc o).cell? ⟨w.heap.size, 3, none⟩ = some (.int .i64 n0) := fun o => cell_alloc_old o kHB33
  have kHB34 : w2.cell? ⟨w.heap.size, 4, none⟩ = some (.int .i64 n1) := by rw [cell_of HB3.out]; rfl
  have jHB34 : ∀ o, (w2.alloc o).cell? ⟨w.heap.size, 4, none⟩ = some (.int .i64 n1) := fun o => cell_alloc_old o kHB34
  have kHB35 : w2.cell? ⟨w.heap.size, 5, none⟩ = some (.int .i64 n2) := by rw [cell_of HB3.out]; rfl
  have jHB35 : ∀ o, (w2.alloc o).cell? ⟨w.heap.size, 5, none⟩ = some (.int .i64 n2) := fun o => cell_alloc_old o kHB35
  have kHB36 : w2.cell? ⟨w.heap.size, 6, none⟩ = some (.int .i64 n3) := by rw [cell_of HB3.out]; rfl
  have jHB36 : ∀ o, (w2.alloc o).cell? ⟨w.heap.size, 6, none⟩ = some (.int .i64 n3) := fun o => cell_alloc_old o kHB36
  go_wp2_with (go_at_call 5; fail)
  clear kHB40 jHB40 kHB41 jHB41 kHB42 jHB42 kHB30 jHB30 kHB31 jHB31 kHB32 jHB32 kHB33 jHB33 kHB34 jHB34 kHB35 jHB35 kHB36 jHB36
  obtain ⟨rl, hrl⟩ : ∃ l, xrl.take m = l := ⟨_, rfl⟩
  have hrn : rl.length = m := by rw [← hrl, List.length_take]; omega
  have hr4 : rl.length ≤ 400 := by omega
  refine Calls_nm ?_
  intro W3 hW
  have cs : Ch (· = w.heap.size + 1) w2 W3 := by rw [hW]; exact (Ch.refl (· = w.heap.size + 1) w2).setb (fun _ => rfl) _
  have HB4n := Lib.hid (show W3.heap[w.heap.size + 1]? = some (.cells #[.int .i64 xrW, .int .i64 xrH, .slice AR rl.length cR] 28 (0, 0)) from by rw [hW, hrn]; exact heap_setCell_eq _ HB4.out)
  clear hW
  replace NX := Lib.hid (NX.out.trans' cs (fun j hj e => by have e' : j = w.heap.size + 1 := e; omega))
  replace MX := Lib.hid (MX.out.kept cs (by show 0 ≠ w.heap.size + 1; omega))
  replace HLA := Lib.hid (HLA.out.kept cs (fun j hj e => by have e' : j = w.heap.size + 1 := e; omega))
  replace HLB := Lib.hid (HLB.out.kept cs (fun j hj e => by have e' : j = w.heap.size + 1 := e; omega))
  replace HXR := Lib.hid (HXR.out.kept cs (fun j hj e => by have e' : j = w.heap.size + 1 := e; omega))
  replace HB3 := Lib.hid (cs.heap HB3.out (by show w.heap.size ≠ w.heap.size + 1; omega))
  replace HB4 := Lib.hid (HB4n.out)
  replace HB5 := Lib.hid (cs.heap HB5.out (by show w.heap.size + 2 ≠ w.heap.size + 1; omega))
  replace SZ := Nat.lt_of_lt_of_le SZ cs.size
  clear HB4n cs f40 f41 f42
  have HIR := Lib.hid (show IsBm W3 w.heap.size (.agg #[.int .i64 xrW, .int .i64 xrH, .slice AR rl.length cR]) (xrW, xrH, rl) from by obtain ⟨s, e, h1, h2⟩ := HXR.out; simp at e; subst e; refine ⟨_, rfl, ?_, h2⟩; have h3 := IsBools.take' (n := 0) h1 m (by omega); rw [hrl] at h3; simp only [hrn]; exact h3)
  clear hrl hrn
  refine bitmaps_any w.heap.size _ _ la lb od n0 n1 n2 n3 _ _ HLA.out HLB.out (by omega) HOD.out ?_
  intro w4 v1 v2 v3 a b d ha hb hd hE1 hl1 hl2 hE2 hl3 hl4 hl5 n
  replace NX := Lib.hid (NX.out.trans n)
  replace MX := Lib.hid (MX.out.kept n id)
  replace HLA := Lib.hid (HLA.out.kept n nof)
  replace HLB := Lib.hid (HLB.out.kept n nof)
  replace HXR := Lib.hid (HXR.out.kept n nof)
  replace HB3 := Lib.hid (n.heap HB3.out id)
  replace HB4 := Lib.hid (n.heap HB4.out id)
  replace HB5 := Lib.hid (n.heap HB5.out id)
  replace SZ := Nat.lt_of_lt_of_le SZ n.size
  replace HIR := Lib.hid (HIR.out.kept n nof)
  obtain ⟨aW, aH, al⟩ := a
  obtain ⟨bW, bH, bl⟩ := b
  obtain ⟨dW, dH, dl⟩ := d
  obtain ⟨Aa, ca, rfl, hIa⟩ := isBm_formN (W := aW) (H := aH) (n := al.length) ha rfl rfl rfl
  have HIa := Lib.hid hIa
  clear hIa ha
  obtain ⟨Ab, cb, rfl, hIb⟩ := isBm_formN (W := bW) (H := bH) (n := bl.length) hb rfl rfl rfl
  have HIb := Lib.hid hIb
  clear hIb hb
  obtain ⟨Ad, cd, rfl, hId⟩ := isBm_formN (W := dW) (H := dH) (n := dl.length) hd rfl rfl rfl
  have HId := Lib.hid hId
  clear hId hd
  clear n
  go_upto_region 4 with (fail)
  refine wp_named ?_
  intro W5 hW
  have n : Nw w4 W5 := by rw [hW]; exact (((Ch.refl _ _).alloc _).alloc _).alloc _
  replace NX := Lib.hid (NX.out.trans n)
  replace MX := Lib.hid (MX.out.kept n id)
  replace HLA := Lib.hid (HLA.out.kept n nof)
  replace HLB := Lib.hid (HLB.out.kept n nof)
  replace HXR := Lib.hid (HXR.out.kept n nof)
  replace HB3 := Lib.hid (n.heap HB3.out id)
  replace HB4 := Lib.hid (n.heap HB4.out id)
  replace HB5 := Lib.hid (n.heap HB5.out id)
  replace SZ := Nat.lt_of_lt_of_le SZ n.size
  replace HIR := Lib.hid (HIR.out.kept n nof)
  replace HIa := Lib.hid ((HIa.out.kept n nof).hi n.size)
  replace HIb := Lib.hid ((HIb.out.kept n nof).hi n.size)
  replace HId := Lib.hid ((HId.out.kept n nof).hi n.size)
  have HBA := Lib.hid (show W5.heap[w4.heap.size]? = some (.cells #[.int .i64 aW, .int .i64 aH, .slice Aa al.length ca] 28 (0, 0)) from by rw [hW]; exact heap_alloc_old' _ (heap_alloc_old' _ (heap_alloc_eq _ rfl)))
  have HBB := Lib.hid (show W5.heap[w4.heap.size + 1]? = some (.cells #[.int .i64 bW, .int .i64 bH, .slice Ab bl.length cb] 28 (0, 0)) from by rw [hW]; exact heap_alloc_old' _ (heap_alloc_eq _ (by simp only [alloc_size])))
  have HBD := Lib.hid (show W5.heap[w4.heap.size + 2]? = some (.cells #[.int .i64 dW, .int .i64 dH, .slice Ad dl.length cd] 28 (0, 0)) from by rw [hW]; exact heap_alloc_eq _ (by simp only [alloc_size]))
  clear hW n
  have kHBA0 : W5.cell? ⟨w4.heap.size, 0, none⟩ = some (.int .i64 aW) := by rw [cell_of HBA.out]; rfl
  have kHBA1 : W5.cell? ⟨w4.heap.size, 1, none⟩ = some (.int .i64 aH) := by rw [cell_of HBA.out]; rfl
  have kHBA2 : W5.cell? ⟨w4.heap.size, 2, none⟩ = some (.slice Aa al.length ca) := by rw [cell_of HBA.out]; rfl
  have kHBB0 : W5.cell? ⟨w4.heap.size + 1, 0, none⟩ = some (.int .i64 bW) := by rw [cell_of HBB.out]; rfl
  have kHBB1 : W5.cell? ⟨w4.heap.size + 1, 1, none⟩ = some (.int .i64 bH) := by rw [cell_of HBB.out]; rfl
  have kHBB2 : W5.cell? ⟨w4.heap.size + 1, 2, none⟩ = some (.slice Ab bl.length cb) := by rw [cell_of HBB.out]; rfl
  have kHBD0 : W5.cell? ⟨w4.heap.size + 2, 0, none⟩ = some (.int .i64 dW) := by rw [cell_of HBD.out]; rfl
  have kHBD1 : W5.cell? ⟨w4.heap.size + 2, 1, none⟩ = some (.int .i64 dH) := by rw [cell_of HBD.out]; rfl
  have kHBD2 : W5.cell? ⟨w4.heap.size + 2, 2, none⟩ = some (.slice Ad dl.length cd) := by rw [cell_of HBD.out]; rfl
  have kHB40 : W5.cell? ⟨w.heap.size + 1, 0, none⟩ = some (.int .i64 xrW) := by rw [cell_of HB4.out]; rfl
  have kHB41 : W5.cell? ⟨w.heap.size + 1, 1, none⟩ = some (.int .i64 xrH) := by rw [cell_of HB4.out]; rfl
  have kHB42 : W5.cell? ⟨w.heap.size + 1, 2, none⟩ = some (.slice AR rl.length cR) := by rw [cell_of HB4.out]; rfl
  refine wp_region_lit ?_
  refine wpList_plain rfl fun K hK => ?_
  go_simp
  refine hK _ _ ?_
  clear hK K
  try simp only [Act.put, List.getElem_toArray, List.getElem_cons_succ, List.getElem_cons_zero, List.setIfInBounds_toArray, List.set_cons_zero, List.set_cons_succ]
  refine wpList_plain rfl fun K hK => ?_
  go_simp
  refine hK _ _ ?_
  clear hK K
  try simp only [Act.put, List.getElem_toArray, List.getElem_cons_succ, List.getElem_cons_zero, List.setIfInBounds_toArray, List.set_cons_zero, List.set_cons_succ]
  refine wpList_plain rfl fun K hK => ?_
  go_simp
  refine hK _ _ ?_
  clear hK K
  try simp only [Act.put, List.getElem_toArray, List.getElem_cons_succ, List.getElem_cons_zero, List.setIfInBounds_toArray, List.set_cons_zero, List.set_cons_succ]
  refine wpList_plain rfl fun K hK => ?_
  go_simp
  refine hK _ _ ?_
  clear hK K
  try simp only [Act.put, List.getElem_toArray, List.getElem_cons_succ, List.getElem_cons_zero, List.setIfInBounds_toArray, List.set_cons_zero, List.set_cons_succ]
  refine wpList_plain rfl fun K hK => ?_
  go_simp
  refine hK _ _ ?_
  clear hK K
  try simp only [Act.put, List.getElem_toArray, List.getElem_cons_succ, List.getElem_cons_zero, List.setIfInBounds_toArray, List.set_cons_zero, List.set_cons_succ]
  refine wpList_plain rfl fun K hK => ?_
  go_simp
  refine hK _ _ ?_
  clear hK K
  try simp only [Act.put, List.getElem_toArray, List.getElem_cons_succ, List.getElem_cons_zero, List.setIfInBounds_toArray, List.set_cons_zero, List.set_cons_succ]
  refine wpList_plain rfl fun K hK => ?_
  go_simp
  refine hK _ _ ?_
  clear hK K
  try simp only [Act.put, List.getElem_toArray, List.getElem_cons_succ, List.getElem_cons_zero, List.setIfInBounds_toArray, List.set_cons_zero, List.set_cons_succ]
  refine wpList_plain rfl fun K hK => ?_
  go_simp
  refine hK _ _ ?_
  clear hK K
  try simp only [Act.put, List.getElem_toArray, List.getElem_cons_succ, List.getElem_cons_zero, List.setIfInBounds_toArray, List.set_cons_zero, List.set_cons_succ]
  refine wpList_plain rfl fun K hK => ?_
  go_simp
  refine hK _ _ ?_
  clear hK K
  try simp only [Act.put, List.getElem_toArray, List.getElem_cons_succ, List.getElem_cons_zero, List.setIfInBounds_toArray, List.set_cons_zero, List.set_cons_succ]
  refine wpList_plain rfl fun K hK => ?_
  go_simp
  refine hK _ _ ?_
  clear hK K
  try simp only [Act.put, List.getElem_toArray, List.getElem_cons_succ, List.getElem_cons_zero, List.setIfInBounds_toArray, List.set_cons_zero, List.set_cons_succ]
  refine wpList_plain rfl fun K hK => ?_
  go_simp
  refine hK _ _ ?_
  clear hK K
  try simp only [Act.put, List.getElem_toArray, List.getElem_cons_succ, List.getElem_cons_zero, List.setIfInBounds_toArray, List.set_cons_zero, List.set_cons_succ]
  refine wpList_plain rfl fun K hK => ?_
  go_simp
  refine hK _ _ ?_
  clear hK K
  try simp only [Act.put, List.getElem_toArray, List.getElem_cons_succ, List.getElem_cons_zero, List.setIfInBounds_toArray, List.set_cons_zero, List.set_cons_succ]
  refine wpList_plain rfl fun K hK => ?_
  go_simp
  refine hK _ _ ?_
  clear hK K
  try simp only [Act.put, List.getElem_toArray, List.getElem_cons_succ, List.getElem_cons_zero, List.setIfInBounds_toArray, List.set_cons_zero, List.set_cons_succ]
  refine wpList_plain rfl fun K hK => ?_
  go_simp
  refine hK _ _ ?_
  clear hK K
  try simp only [Act.put, List.getElem_toArray, List.getElem_cons_succ, List.getElem_cons_zero, List.setIfInBounds_toArray, List.set_cons_zero, List.set_cons_succ]
  refine wpList_plain rfl fun K hK => ?_
  go_simp
  refine hK _ _ ?_
  clear hK K
  try simp only [Act.put, List.getElem_toArray, List.getElem_cons_succ, List.getElem_cons_zero, List.setIfInBounds_toArray, List.set_cons_zero, List.set_cons_succ]
  refine wpList_plain rfl fun K hK => ?_
  refine wp_lit5x6 34 33 _ _ _ _ _ rfl (by kernel_rfl) (by kernel_rfl) (by rfl) (by rfl) (by rfl) (by rfl) (by rfl) ?_
  refine hK _ _ ?_
  clear hK K
  try simp only [Act.put, List.getElem_toArray, List.getElem_cons_succ, List.getElem_cons_zero, List.setIfInBounds_toArray, List.set_cons_zero, List.set_cons_succ]
  clear kHBA0 kHBA1 kHBA2 kHBB0 kHBB1 kHBB2 kHBD0 kHBD1 kHBD2 kHB40 kHB41 kHB42
  go_wp2_with fail
  refine wp_named ?_
  intro W6 hW
  have n : Nw W5 W6 := by rw [hW]; first | exact Ch.refl _ _ | exact (Ch.refl _ _).alloc _ | exact ((Ch.refl _ _).alloc _).alloc _
  replace NX := Lib.hid (NX.out.trans n)
  replace MX := Lib.hid (MX.out.kept n id)
  replace HLA := Lib.hid (HLA.out.kept n nof)
  replace HLB := Lib.hid (HLB.out.kept n nof)
  replace HXR := Lib.hid (HXR.out.kept n nof)
  replace HB3 := Lib.hid (n.heap HB3.out id)
  replace HB4 := Lib.hid (n.heap HB4.out id)
  replace HB5 := Lib.hid (n.heap HB5.out id)
  replace SZ := Nat.lt_of_lt_of_le SZ n.size
  replace HIR := Lib.hid (HIR.out.kept n nof)
  replace HIa := Lib.hid ((HIa.out.kept n nof).hi n.size)
  replace HIb := Lib.hid ((HIb.out.kept n nof).hi n.size)
  replace HId := Lib.hid ((HId.out.kept n nof).hi n.size)
  replace HBA := Lib.hid (n.heap HBA.out id)
  replace HBB := Lib.hid (n.heap HBB.out id)
  replace HBD := Lib.hid (n.heap HBD.out id)
  have HSL := Lib.hid (show W6.heap[W5.heap.size]? = some (.cells #[.int .i64 aW, .int .i64 aH, .slice Aa al.length ca, .int .i64 bW, .int .i64 bH, .slice Ab bl.length cb, .int .i64 aW, .int .i64 aH, .slice Aa al.length ca, .int .i64 dW, .int .i64 dH, .slice Ad dl.length cd, .int .i64 dW, .int .i64 dH, .slice Ad dl.length cd, .int .i64 bW, .int .i64 bH, .slice Ab bl.length cb, .int .i64 xrW, .int .i64 xrH, .slice AR rl.length cR, .int .i64 aW, .int .i64 aH, .slice Aa al.length ca, .int .i64 bW, .int .i64 bH, .slice Ab bl.length cb, .int .i64 xrW, .int .i64 xrH, .slice AR rl.length cR] 33 (0, 0)) from by rw [hW]; exact heap_alloc_eq _ rfl)
  clear hW n
  have La : al.length ≤ 1000 := by
    obtain ⟨⟨e1, -⟩, ⟨e3, -⟩, e5⟩ := bmE_ok hE1
    have h2 : aW * aH ≤ 16 * 12 := Int.mul_le_mul (by assumption) (by assumption) (by simp only at e3; omega) (by omega)
    simp only at e5
    omega
  have Lb : bl.length ≤ 1000 := by
    obtain ⟨⟨e1, -⟩, ⟨e3, -⟩, e5⟩ := bmE_ok hE2
    have h2 : bW * bH ≤ 16 * 12 := Int.mul_le_mul (by assumption) (by assumption) (by simp only at e3; omega) (by omega)
    simp only at e5
    omega
  have Ld : dl.length ≤ 1000 := by omega
  clear hE1 hE2 hl1 hl2 hl3 hl4 hl5
  go_loopw [53] (fun s53 wr => ∃ (k : Nat), s53 = .int .i64 k ∧ k ≤ 5 ∧ Hid (Nw W6 wr)) (fun s53 _ => 5 - (intOf s53).toNat)
  case atStart => exact ⟨0, rfl, by omega, Lib.hid (Ch.refl _ _)⟩
  case round =>
    obtain ⟨k, rfl, hk, HC⟩ := hrel
    have k0 : (0 : Int) ≤ (k : Int) := by omega
    obtain ⟨wr0, hwr0⟩ : ∃ W : World, W = wr := ⟨_, rfl⟩
    subst hwr0
    replace NX := Lib.hid (NX.out.trans HC.out)
    replace MX := Lib.hid (MX.out.kept HC.out id)
    replace HLA := Lib.hid (HLA.out.kept HC.out nof)
    replace HLB := Lib.hid (HLB.out.kept HC.out nof)
    replace HXR := Lib.hid (HXR.out.kept HC.out nof)
    replace HB3 := Lib.hid (HC.out.heap HB3.out id)
    replace HB4 := Lib.hid (HC.out.heap HB4.out id)
    replace HB5 := Lib.hid (HC.out.heap HB5.out id)
    replace SZ := Nat.lt_of_lt_of_le SZ HC.out.size
    replace HIR := Lib.hid (HIR.out.kept HC.out nof)
    replace HIa := Lib.hid ((HIa.out.kept HC.out nof).hi HC.out.size)
    replace HIb := Lib.hid ((HIb.out.kept HC.out nof).hi HC.out.size)
    replace HId := Lib.hid ((HId.out.kept HC.out nof).hi HC.out.size)
    replace HBA := Lib.hid (HC.out.heap HBA.out id)
    replace HBB := Lib.hid (HC.out.heap HBB.out id)
    replace HBD := Lib.hid (HC.out.heap HBD.out id)
    replace HSL := Lib.hid (HC.out.heap HSL.out id)
    by_cases hlt : k < 5
    · have k5 : (k : Int) < 5 := by omega
      have hX : ∃ (x y : Bm) (A B : Option Addr) (c c' : Nat), wr0.cell? ⟨W5.heap.size, k * 6, none⟩ = some (.int .i64 x.1) ∧ wr0.cell? ⟨W5.heap.size, k * 6 + 1, none⟩ = some (.int .i64 x.2.1) ∧ wr0.cell? ⟨W5.heap.size, k * 6 + 2, none⟩ = some (.slice A x.2.2.length c) ∧ wr0.cell? ⟨W5.heap.size, k * 6 + 3, none⟩ = some (.int .i64 y.1) ∧ wr0.cell? ⟨W5.heap.size, k * 6 + 4, none⟩ = some (.int .i64 y.2.1) ∧ wr0.cell? ⟨W5.heap.size, k * 6 + 5, none⟩ = some (.slice B y.2.2.length c') ∧ IsBm wr0 wr0.heap.size (.agg #[.int .i64 x.1, .int .i64 x.2.1, .slice A x.2.2.length c]) x ∧ IsBm wr0 wr0.heap.size (.agg #[.int .i64 y.1, .int .i64 y.2.1, .slice B y.2.2.length c']) y ∧ x.2.2.length ≤ 1000 ∧ y.2.2.length ≤ 1000 := by
        obtain rfl | rfl | rfl | rfl | rfl : k = 0 ∨ k = 1 ∨ k = 2 ∨ k = 3 ∨ k = 4 := by omega
        · exact ⟨(aW, aH, al), (bW, bH, bl), Aa, Ab, ca, cb, by rw [cell_of HSL.out]; rfl, by rw [cell_of HSL.out]; rfl, by rw [cell_of HSL.out]; rfl, by rw [cell_of HSL.out]; rfl, by rw [cell_of HSL.out]; rfl, by rw [cell_of HSL.out]; rfl, HIa.out, HIb.out, by show _ ≤ 1000; simp only; omega, by show _ ≤ 1000; simp only; omega⟩
        · exact ⟨(aW, aH, al), (dW, dH, dl), Aa, Ad, ca, cd, by rw [cell_of HSL.out]; rfl, by rw [cell_of HSL.out]; rfl, by rw [cell_of HSL.out]; rfl, by rw [cell_of HSL.out]; rfl, by rw [cell_of HSL.out]; rfl, by rw [cell_of HSL.out]; rfl, HIa.out, HId.out, by show _ ≤ 1000; simp only; omega, by show _ ≤ 1000; simp only; omega⟩
        · exact ⟨(dW, dH, dl), (bW, bH, bl), Ad, Ab, cd, cb, by rw [cell_of HSL.out]; rfl, by rw [cell_of HSL.out]; rfl, by rw [cell_of HSL.out]; rfl, by rw [cell_of HSL.out]; rfl, by rw [cell_of HSL.out]; rfl, by rw [cell_of HSL.out]; rfl, HId.out, HIb.out, by show _ ≤ 1000; simp only; omega, by show _ ≤ 1000; simp only; omega⟩
        · exact ⟨(xrW, xrH, rl), (aW, aH, al), AR, Aa, cR, ca, by rw [cell_of HSL.out]; rfl, by rw [cell_of HSL.out]; rfl, by rw [cell_of HSL.out]; rfl, by rw [cell_of HSL.out]; rfl, by rw [cell_of HSL.out]; rfl, by rw [cell_of HSL.out]; rfl, (HIR.out.hi (by omega)), HIa.out, by show _ ≤ 1000; simp only; omega, by show _ ≤ 1000; simp only; omega⟩
        · exact ⟨(bW, bH, bl), (xrW, xrH, rl), Ab, AR, cb, cR, by rw [cell_of HSL.out]; rfl, by rw [cell_of HSL.out]; rfl, by rw [cell_of HSL.out]; rfl, by rw [cell_of HSL.out]; rfl, by rw [cell_of HSL.out]; rfl, by rw [cell_of HSL.out]; rfl, HIb.out, (HIR.out.hi (by omega)), by show _ ≤ 1000; simp only; omega, by show _ ≤ 1000; simp only; omega⟩
      obtain ⟨⟨xW, xH, xl⟩, ⟨yW, yH, yl⟩, AX, AY, cX, cY, t0, t1, t2, t3, t4, t5, hX, hY, hxl, hyl⟩ := hX
      simp only at t0 t1 t2 t3 t4 t5 hX hY hxl hyl
      have HIX := Lib.hid hX
      have HIY := Lib.hid hY
      clear hX hY
      clear HLA HLB HXR HB4 HIR HIa HIb HId HBA HBB HBD HSL MX
      go_upto_region 7 with (fail)
      refine wp_named ?_
      intro W7 hW
      have n : Nw wr0 W7 := by rw [hW]; first | exact Ch.refl _ _ | exact (Ch.refl _ _).alloc _
      replace NX := Lib.hid (NX.out.trans n)
      replace HB3 := Lib.hid (n.heap HB3.out id)
      replace HB5 := Lib.hid (n.heap HB5.out id)
      replace SZ := Nat.lt_of_lt_of_le SZ n.size
      replace HC := Lib.hid (HC.out.trans n)
      replace HIX := Lib.hid ((HIX.out.kept n nof).hi n.size)
      replace HIY := Lib.hid ((HIY.out.kept n nof).hi n.size)
      have HBP := Lib.hid (show W7.heap[wr0.heap.size]? = some (.cells #[.int .i64 xW, .int .i64 xH, .slice AX xl.length cX, .int .i64 yW, .int .i64 yH, .slice AY yl.length cY] 33 (0, 0)) from by rw [hW]; exact heap_alloc_eq _ rfl)
      clear hW n
      refine wp_region_V (F := fun w' => w'.cell? ⟨w.heap.size, 0, none⟩ = some (.slice A0 la.length c0) ∧ w'.cell? ⟨w.heap.size, 1, none⟩ = some (.slice A1 lb.length c1) ∧ w'.cell? ⟨w.heap.size, 2, none⟩ = some (.int .i64 od) ∧ w'.cell? ⟨w.heap.size, 3, none⟩ = some (.int .i64 n0) ∧ w'.cell? ⟨w.heap.size, 4, none⟩ = some (.int .i64 n1) ∧ w'.cell? ⟨w.heap.size, 5, none⟩ = some (.int .i64 n2) ∧ w'.cell? ⟨w.heap.size, 6, none⟩ = some (.int .i64 n3)) (opsOf Tryd.f3 7) 7 7 (by kernel_rfl) (by kernel_rfl) (by kernel_rfl) (fun w w' h n => ⟨n.cell h.1 id, n.cell h.2.1 id, n.cell h.2.2.1 id, n.cell h.2.2.2.1 id, n.cell h.2.2.2.2.1 id, n.cell h.2.2.2.2.2.1 id, n.cell h.2.2.2.2.2.2 id⟩) ⟨by show W7.cell? _ = _; rw [cell_of HB3.out]; rfl, by show W7.cell? _ = _; rw [cell_of HB3.out]; rfl, by show W7.cell? _ = _; rw [cell_of HB3.out]; rfl, by show W7.cell? _ = _; rw [cell_of HB3.out]; rfl, by show W7.cell? _ = _; rw [cell_of HB3.out]; rfl, by show W7.cell? _ = _; rw [cell_of HB3.out]; rfl, by show W7.cell? _ = _; rw [cell_of HB3.out]; rfl⟩ (fun HOPS HCL hHeld => ?_)
      refine wpU_named ?_
      intro W8 hW
      try rw [← hW] at hHeld
      have n : Nw W7 W8 := by rw [hW]; exact (Ch.refl _ _).drew
      replace NX := Lib.hid (NX.out.trans n)
      replace HB3 := Lib.hid (n.heap HB3.out id)
      replace HB5 := Lib.hid (n.heap HB5.out id)
      replace SZ := Nat.lt_of_lt_of_le SZ n.size
      replace HC := Lib.hid (HC.out.trans n)
      replace HIX := Lib.hid ((HIX.out.kept n nof).hi n.size)
      replace HIY := Lib.hid ((HIY.out.kept n nof).hi n.size)
      replace HBP := Lib.hid (n.heap HBP.out id)
      clear hW n
      first | (refine wpU_takeB (i := 0) (v := ?_) HOPS rfl (by kernel_rfl) (fun _ _ _ h => h) HCL (goes_read (by rfl) ?hy) ?_; case hy => (intro w hSw; (try dsimp only at hSw); go_simp; (try with_reducible rfl))) | (refine wpU_takeB (i := 0) (v := _) HOPS rfl (by kernel_rfl) (fun _ _ _ h => h) HCL (goes_not (by rfl)) ?_)
      try simp only [Act.put, List.getElem_toArray, List.getElem_cons_succ, List.getElem_cons_zero, List.setIfInBounds_toArray, List.set_cons_zero, List.set_cons_succ]
      first | (refine wpU_takeB (i := 1) (v := ?_) HOPS rfl (by kernel_rfl) (fun _ _ _ h => h) HCL (goes_read (by rfl) ?hy) ?_; case hy => (intro w hSw; (try dsimp only at hSw); go_simp; (try with_reducible rfl))) | (refine wpU_takeB (i := 1) (v := _) HOPS rfl (by kernel_rfl) (fun _ _ _ h => h) HCL (goes_not (by rfl)) ?_)
      try simp only [Act.put, List.getElem_toArray, List.getElem_cons_succ, List.getElem_cons_zero, List.setIfInBounds_toArray, List.set_cons_zero, List.set_cons_succ]
      first | (refine wpU_takeB (i := 2) (v := ?_) HOPS rfl (by kernel_rfl) (fun _ _ _ h => h) HCL (goes_read (by rfl) ?hy) ?_; case hy => (intro w hSw; (try dsimp only at hSw); go_simp; (try with_reducible rfl))) | (refine wpU_takeB (i := 2) (v := _) HOPS rfl (by kernel_rfl) (fun _ _ _ h => h) HCL (goes_not (by rfl)) ?_)
      try simp only [Act.put, List.getElem_toArray, List.getElem_cons_succ, List.getElem_cons_zero, List.setIfInBounds_toArray, List.set_cons_zero, List.set_cons_succ]
      first | (refine wpU_takeB (i := 6) (v := ?_) HOPS rfl (by kernel_rfl) (fun _ _ _ h => h) HCL (goes_read (by rfl) ?hy) ?_; case hy => (intro w hSw; (try dsimp only at hSw); go_simp; (try with_reducible rfl))) | (refine wpU_takeB (i := 6) (v := _) HOPS rfl (by kernel_rfl) (fun _ _ _ h => h) HCL (goes_not (by rfl)) ?_)
      try simp only [Act.put, List.getElem_toArray, List.getElem_cons_succ, List.getElem_cons_zero, List.setIfInBounds_toArray, List.set_cons_zero, List.set_cons_succ]
      refine wpU_takeB (i := 3) HOPS rfl (by kernel_rfl) (fun _ _ _ h => h) HCL (goes_fn (v := (.agg #[.int .i64 (smallN n0), .int .i64 (smallN n1), .int .i64 (smallN n2), .int .i64 (smallN n3)])) 10 _ _ _ #[(.agg #[.slice A0 la.length c0, .slice A1 lb.length c1, .int .i64 od, .int .i64 n0, .int .i64 n1, .int .i64 n2, .int .i64 n3])] (by rfl) rfl (by kernel_rfl) (by kernel_rfl) (by kernel_rfl) (fun wq n R hR => ?_)) ?_
      · exact small_any _ _ _ _ _ _ _ _ _ ⟨_, _, _, rfl⟩ ⟨_, _, _, rfl⟩ (fun x hx => HQ.out x (by simp at hx ⊢; omega)) hR
      try simp only [Act.put, List.getElem_toArray, List.getElem_cons_succ, List.getElem_cons_zero, List.setIfInBounds_toArray, List.set_cons_zero, List.set_cons_succ]
      refine wpU_ready (rs := [4]) (by kernel_rfl) (by simp) ?_
      intro w9 hle
      obtain ⟨n, hHeld⟩ := hle.ahead (by kernel_rfl)
      clear hle
      replace NX := Lib.hid (NX.out.trans n)
      replace HB3 := Lib.hid (n.heap HB3.out id)
      replace HB5 := Lib.hid (n.heap HB5.out id)
      replace SZ := Nat.lt_of_lt_of_le SZ n.size
      replace HC := Lib.hid (HC.out.trans n)
      replace HIX := Lib.hid ((HIX.out.kept n nof).hi n.size)
      replace HIY := Lib.hid ((HIY.out.kept n nof).hi n.size)
      replace HBP := Lib.hid (n.heap HBP.out id)
      clear n
      refine ReadyU.cons HOPS rfl (by rfl) (fun K hK => ?_) ReadyU.nil
      refine wp_lit2x4 36 23 _ _ rfl (by kernel_rfl) (by kernel_rfl) (by rfl) (by rfl) ?_
      refine hK.out _ _ ((Ch.refl _ _).alloc _) ⟨cell_alloc_old _ (by rw [cell_of HB3.out]; rfl), cell_alloc_old _ (by rw [cell_of HB3.out]; rfl), cell_alloc_old _ (by rw [cell_of HB3.out]; rfl), cell_alloc_old _ (by rw [cell_of HB3.out]; rfl), cell_alloc_old _ (by rw [cell_of HB3.out]; rfl), cell_alloc_old _ (by rw [cell_of HB3.out]; rfl), cell_alloc_old _ (by rw [cell_of HB3.out]; rfl)⟩ (fun hHeld => ?_)
      clear hK K
      try simp only [Act.put, List.getElem_toArray, List.getElem_cons_succ, List.getElem_cons_zero, List.setIfInBounds_toArray, List.set_cons_zero, List.set_cons_succ]
      have SZAHSP := SZ
      refine wpU_named ?_
      intro W10 hW
      try rw [← hW] at hHeld
      have n : Nw w9 W10 := by rw [hW]; exact (Ch.refl _ _).alloc _
      replace NX := Lib.hid (NX.out.trans n)
      replace HB3 := Lib.hid (n.heap HB3.out id)
      replace HB5 := Lib.hid (n.heap HB5.out id)
      replace SZ := Nat.lt_of_lt_of_le SZ n.size
      replace HC := Lib.hid (HC.out.trans n)
      replace HIX := Lib.hid ((HIX.out.kept n nof).hi n.size)
      replace HIY := Lib.hid ((HIY.out.kept n nof).hi n.size)
      replace HBP := Lib.hid (n.heap HBP.out id)
      have HSP := Lib.hid (show W10.heap[w9.heap.size]? = some (.cells #[.int .i64 n0, .int .i64 n1, .int .i64 n2, .int .i64 n3, .int .i64 (smallN n0), .int .i64 (smallN n1), .int .i64 (smallN n2), .int .i64 (smallN n3)] 23 (0, 0)) from by rw [hW]; exact heap_alloc_eq _ rfl)
      clear hW n
      first | (refine wpU_takeB (i := 5) (v := ?_) HOPS rfl (by kernel_rfl) (fun _ _ _ h => h) HCL (goes_read (by rfl) ?hy) ?_; case hy => (intro w hSw; (try dsimp only at hSw); go_simp; (try with_reducible rfl))) | (refine wpU_takeB (i := 5) (v := _) HOPS rfl (by kernel_rfl) (fun _ _ _ h => h) HCL (goes_not (by rfl)) ?_)
      try simp only [Act.put, List.getElem_toArray, List.getElem_cons_succ, List.getElem_cons_zero, List.setIfInBounds_toArray, List.set_cons_zero, List.set_cons_succ]
      refine wpU_done (by kernel_rfl) (fun w11 hle => ?_) _
      have n := (hle.ahead (by kernel_rfl)).1
      replace NX := Lib.hid (NX.out.trans n)
      replace HB3 := Lib.hid (n.heap HB3.out id)
      replace HB5 := Lib.hid (n.heap HB5.out id)
      replace SZ := Nat.lt_of_lt_of_le SZ n.size
      replace HC := Lib.hid (HC.out.trans n)
      replace HIX := Lib.hid ((HIX.out.kept n nof).hi n.size)
      replace HIY := Lib.hid ((HIY.out.kept n nof).hi n.size)
      replace HBP := Lib.hid (n.heap HBP.out id)
      replace HSP := Lib.hid (n.heap HSP.out id)
      clear n
      clear HOPS HCL hle
      repeat clear hHeld
      clear t0 t1 t2 t3 t4 t5
      go_wp2_with fail
      refine wp_named ?_
      intro W12 hW
      have n : Nw w11 W12 := by rw [hW]; first | exact Ch.refl _ _ | exact (Ch.refl _ _).alloc _ | exact ((Ch.refl _ _).alloc _).alloc _
      replace NX := Lib.hid (NX.out.trans n)
      replace HB3 := Lib.hid (n.heap HB3.out id)
      replace HB5 := Lib.hid (n.heap HB5.out id)
      replace SZ := Nat.lt_of_lt_of_le SZ n.size
      replace HC := Lib.hid (HC.out.trans n)
      replace HIX := Lib.hid ((HIX.out.kept n nof).hi n.size)
      replace HIY := Lib.hid ((HIY.out.kept n nof).hi n.size)
      replace HBP := Lib.hid (n.heap HBP.out id)
      replace HSP := Lib.hid (n.heap HSP.out id)
      clear hW n
      go_loopw [63] (fun s63 wr => ∃ (j : Nat), s63 = .int .i64 j ∧ j ≤ 2 ∧ Hid (Nw W12 wr)) (fun s63 _ => 2 - (intOf s63).toNat)
      case atStart => exact ⟨0, rfl, by omega, Lib.hid (Ch.refl _ _)⟩
      case round =>
        obtain ⟨j, rfl, hj, HC2⟩ := hrel
        have j0 : (0 : Int) ≤ (j : Int) := by omega
        obtain ⟨wr1, hwr1⟩ : ∃ W : World, W = wr := ⟨_, rfl⟩
        subst hwr1
        replace NX := Lib.hid (NX.out.trans HC2.out)
        replace HB3 := Lib.hid (HC2.out.heap HB3.out id)
        replace HB5 := Lib.hid (HC2.out.heap HB5.out id)
        replace SZ := Nat.lt_of_lt_of_le SZ HC2.out.size
        replace HC := Lib.hid (HC.out.trans HC2.out)
        replace HIX := Lib.hid ((HIX.out.kept HC2.out nof).hi HC2.out.size)
        replace HIY := Lib.hid ((HIY.out.kept HC2.out nof).hi HC2.out.size)
        replace HBP := Lib.hid (HC2.out.heap HBP.out id)
        replace HSP := Lib.hid (HC2.out.heap HSP.out id)
        by_cases hjt : j < 2
        · as_aux_lemma =>
          have j2 : (j : Int) < 2 := by omega
          have hP : ∃ p0 p1 p2 p3 : Int, wr1.cell? ⟨w9.heap.size, j * 4, none⟩ = some (.int .i64 p0) ∧ wr1.cell? ⟨w9.heap.size, j * 4 + 1, none⟩ = some (.int .i64 p1) ∧ wr1.cell? ⟨w9.heap.size, j * 4 + 2, none⟩ = some (.int .i64 p2) ∧ wr1.cell? ⟨w9.heap.size, j * 4 + 3, none⟩ = some (.int .i64 p3) ∧ wfI p0 ∧ wfI p1 ∧ wfI p2 ∧ wfI p3 := by
            obtain rfl | rfl : j = 0 ∨ j = 1 := by omega
            · exact ⟨n0, n1, n2, n3, by rw [cell_of HSP.out]; rfl, by rw [cell_of HSP.out]; rfl, by rw [cell_of HSP.out]; rfl, by rw [cell_of HSP.out]; rfl, HQ.out _ (by simp), HQ.out _ (by simp), HQ.out _ (by simp), HQ.out _ (by simp)⟩
            · exact ⟨(smallN n0), (smallN n1), (smallN n2), (smallN n3), by rw [cell_of HSP.out]; rfl, by rw [cell_of HSP.out]; rfl, by rw [cell_of HSP.out]; rfl, by rw [cell_of HSP.out]; rfl, smallN_wf _, smallN_wf _, smallN_wf _, smallN_wf _⟩
          obtain ⟨p0, p1, p2, p3, t0, t1, t2, t3, hp0, hp1, hp2, hp3⟩ := hP
          have P0 := Lib.hid hp0
          have P1 := Lib.hid hp1
          have P2 := Lib.hid hp2
          have P3 := Lib.hid hp3
          clear hp0 hp1 hp2 hp3
          obtain ⟨PM, hPM⟩ : ∃ P, pasteM (xW, xH, xl) (yW, yH, yl) p0 p1 = P := ⟨_, rfl⟩
          have HPM := Lib.hid hPM
          clear hPM
          obtain ⟨CM, hCM⟩ : ∃ C, cropM (xW, xH, xl) p0 p1 p2 p3 = C := ⟨_, rfl⟩
          have HCM := Lib.hid hCM
          clear hCM
          obtain ⟨⟨gW, gH, gl⟩, ec⟩ := CM
          go_upto_region 10 with (fail)
          refine wp_named ?_
          intro W13 hW
          have n : Nw wr1 W13 := by rw [hW]; first | exact Ch.refl _ _ | exact (Ch.refl _ _).alloc _
          replace NX := Lib.hid (NX.out.trans n)
          replace HB3 := Lib.hid (n.heap HB3.out id)
          replace HB5 := Lib.hid (n.heap HB5.out id)
          replace SZ := Nat.lt_of_lt_of_le SZ n.size
          replace HC := Lib.hid (HC.out.trans n)
          replace HIX := Lib.hid ((HIX.out.kept n nof).hi n.size)
          replace HIY := Lib.hid ((HIY.out.kept n nof).hi n.size)
          replace HBP := Lib.hid (n.heap HBP.out id)
          replace HSP := Lib.hid (n.heap HSP.out id)
          replace HC2 := Lib.hid (HC2.out.trans n)
          have HBJ := Lib.hid (show W13.heap[wr1.heap.size]? = some (.cells #[.int .i64 p0, .int .i64 p1, .int .i64 p2, .int .i64 p3] 23 (0, 0)) from by rw [hW]; exact heap_alloc_eq _ rfl)
          clear hW n
          refine wp_region_V (F := fun w' => w'.cell? ⟨wr0.heap.size, 0, none⟩ = some (.int .i64 xW) ∧ w'.cell? ⟨wr0.heap.size, 1, none⟩ = some (.int .i64 xH) ∧ w'.cell? ⟨wr0.heap.size, 2, none⟩ = some (.slice AX xl.length cX) ∧ w'.cell? ⟨wr0.heap.size, 3, none⟩ = some (.int .i64 yW) ∧ w'.cell? ⟨wr0.heap.size, 4, none⟩ = some (.int .i64 yH) ∧ w'.cell? ⟨wr0.heap.size, 5, none⟩ = some (.slice AY yl.length cY) ∧ w'.cell? ⟨wr1.heap.size, 0, none⟩ = some (.int .i64 p0) ∧ w'.cell? ⟨wr1.heap.size, 1, none⟩ = some (.int .i64 p1) ∧ w'.cell? ⟨wr1.heap.size, 2, none⟩ = some (.int .i64 p2) ∧ w'.cell? ⟨wr1.heap.size, 3, none⟩ = some (.int .i64 p3)) (opsOf Tryd.f3 10) 20 20 (by kernel_rfl) (by kernel_rfl) (by kernel_rfl) (fun w w' h n => ⟨n.cell h.1 id, n.cell h.2.1 id, n.cell h.2.2.1 id, n.cell h.2.2.2.1 id, n.cell h.2.2.2.2.1 id, n.cell h.2.2.2.2.2.1 id, n.cell h.2.2.2.2.2.2.1 id, n.cell h.2.2.2.2.2.2.2.1 id, n.cell h.2.2.2.2.2.2.2.2.1 id, n.cell h.2.2.2.2.2.2.2.2.2 id⟩) ⟨by show W13.cell? _ = _; rw [cell_of HBP.out]; rfl, by show W13.cell? _ = _; rw [cell_of HBP.out]; rfl, by show W13.cell? _ = _; rw [cell_of HBP.out]; rfl, by show W13.cell? _ = _; rw [cell_of HBP.out]; rfl, by show W13.cell? _ = _; rw [cell_of HBP.out]; rfl, by show W13.cell? _ = _; rw [cell_of HBP.out]; rfl, by show W13.cell? _ = _; rw [cell_of HBJ.out]; rfl, by show W13.cell? _ = _; rw [cell_of HBJ.out]; rfl, by show W13.cell? _ = _; rw [cell_of HBJ.out]; rfl, by show W13.cell? _ = _; rw [cell_of HBJ.out]; rfl⟩ (fun HOPS HCL hHeld => ?_)
          refine wpU_named ?_
          intro W14 hW
          try rw [← hW] at hHeld
          have n : Nw W13 W14 := by rw [hW]; exact (Ch.refl _ _).drew
          replace NX := Lib.hid (NX.out.trans n)
          replace HB3 := Lib.hid (n.heap HB3.out id)
          replace HB5 := Lib.hid (n.heap HB5.out id)
          replace SZ := Nat.lt_of_lt_of_le SZ n.size
          replace HC := Lib.hid (HC.out.trans n)
          replace HIX := Lib.hid ((HIX.out.kept n nof).hi n.size)
          replace HIY := Lib.hid ((HIY.out.kept n nof).hi n.size)
          replace HBP := Lib.hid (n.heap HBP.out id)
          replace HSP := Lib.hid (n.heap HSP.out id)
          replace HC2 := Lib.hid (HC2.out.trans n)
          replace HBJ := Lib.hid (n.heap HBJ.out id)
          clear hW n
          first | (refine wpU_takeB (i := 0) (v := ?_) HOPS rfl (by kernel_rfl) (fun _ _ _ h => h) HCL (goes_read (by rfl) ?hy) ?_; case hy => (intro w hSw; (try dsimp only at hSw); go_simp; (try with_reducible rfl))) | (refine wpU_takeB (i := 0) (v := _) HOPS rfl (by kernel_rfl) (fun _ _ _ h => h) HCL (goes_not (by rfl)) ?_)
          try simp only [Act.put, List.getElem_toArray, List.getElem_cons_succ, List.getElem_cons_zero, List.setIfInBounds_toArray, List.set_cons_zero, List.set_cons_succ]
          first | (refine wpU_takeB (i := 1) (v := ?_) HOPS rfl (by kernel_rfl) (fun _ _ _ h => h) HCL (goes_read (by rfl) ?hy) ?_; case hy => (intro w hSw; (try dsimp only at hSw); go_simp; (try with_reducible rfl))) | (refine wpU_takeB (i := 1) (v := _) HOPS rfl (by kernel_rfl) (fun _ _ _ h => h) HCL (goes_not (by rfl)) ?_)
          try simp only [Act.put, List.getElem_toArray, List.getElem_cons_succ, List.getElem_cons_zero, List.setIfInBounds_toArray, List.set_cons_zero, List.set_cons_succ]
          first | (refine wpU_takeB (i := 2) (v := ?_) HOPS rfl (by kernel_rfl) (fun _ _ _ h => h) HCL (goes_read (by rfl) ?hy) ?_; case hy => (intro w hSw; (try dsimp only at hSw); go_simp; (try with_reducible rfl))) | (refine wpU_takeB (i := 2) (v := _) HOPS rfl (by kernel_rfl) (fun _ _ _ h => h) HCL (goes_not (by rfl)) ?_)
          try simp only [Act.put, List.getElem_toArray, List.getElem_cons_succ, List.getElem_cons_zero, List.setIfInBounds_toArray, List.set_cons_zero, List.set_cons_succ]
          first | (refine wpU_takeB (i := 3) (v := ?_) HOPS rfl (by kernel_rfl) (fun _ _ _ h => h) HCL (goes_read (by rfl) ?hy) ?_; case hy => (intro w hSw; (try dsimp only at hSw); go_simp; (try with_reducible rfl))) | (refine wpU_takeB (i := 3) (v := _) HOPS rfl (by kernel_rfl) (fun _ _ _ h => h) HCL (goes_not (by rfl)) ?_)
          try simp only [Act.put, List.getElem_toArray, List.getElem_cons_succ, List.getElem_cons_zero, List.setIfInBounds_toArray, List.set_cons_zero, List.set_cons_succ]
          first | (refine wpU_takeB (i := 4) (v := ?_) HOPS rfl (by kernel_rfl) (fun _ _ _ h => h) HCL (goes_read (by rfl) ?hy) ?_; case hy => (intro w hSw; (try dsimp only at hSw); go_simp; (try with_reducible rfl))) | (refine wpU_takeB (i := 4) (v := _) HOPS rfl (by kernel_rfl) (fun _ _ _ h => h) HCL (goes_not (by rfl)) ?_)
          try simp only [Act.put, List.getElem_toArray, List.getElem_cons_succ, List.getElem_cons_zero, List.setIfInBounds_toArray, List.set_cons_zero, List.set_cons_succ]
          first | (refine wpU_takeB (i := 5) (v := ?_) HOPS rfl (by kernel_rfl) (fun _ _ _ h => h) HCL (goes_read (by rfl) ?hy) ?_; case hy => (intro w hSw; (try dsimp only at hSw); go_simp; (try with_reducible rfl))) | (refine wpU_takeB (i := 5) (v := _) HOPS rfl (by kernel_rfl) (fun _ _ _ h => h) HCL (goes_not (by rfl)) ?_)
          try simp only [Act.put, List.getElem_toArray, List.getElem_cons_succ, List.getElem_cons_zero, List.setIfInBounds_toArray, List.set_cons_zero, List.set_cons_succ]
          first | (refine wpU_takeB (i := 6) (v := ?_) HOPS rfl (by kernel_rfl) (fun _ _ _ h => h) HCL (goes_read (by rfl) ?hy) ?_; case hy => (intro w hSw; (try dsimp only at hSw); go_simp; (try with_reducible rfl))) | (refine wpU_takeB (i := 6) (v := _) HOPS rfl (by kernel_rfl) (fun _ _ _ h => h) HCL (goes_not (by rfl)) ?_)
          try simp only [Act.put, List.getElem_toArray, List.getElem_cons_succ, List.getElem_cons_zero, List.setIfInBounds_toArray, List.set_cons_zero, List.set_cons_succ]
          first | (refine wpU_takeB (i := 7) (v := ?_) HOPS rfl (by kernel_rfl) (fun _ _ _ h => h) HCL (goes_read (by rfl) ?hy) ?_; case hy => (intro w hSw; (try dsimp only at hSw); go_simp; (try with_reducible rfl))) | (refine wpU_takeB (i := 7) (v := _) HOPS rfl (by kernel_rfl) (fun _ _ _ h => h) HCL (goes_not (by rfl)) ?_)
          try simp only [Act.put, List.getElem_toArray, List.getElem_cons_succ, List.getElem_cons_zero, List.setIfInBounds_toArray, List.set_cons_zero, List.set_cons_succ]
          first | (refine wpU_takeB (i := 9) (v := ?_) HOPS rfl (by kernel_rfl) (fun _ _ _ h => h) HCL (goes_read (by rfl) ?hy) ?_; case hy => (intro w hSw; (try dsimp only at hSw); go_simp; (try with_reducible rfl))) | (refine wpU_takeB (i := 9) (v := _) HOPS rfl (by kernel_rfl) (fun _ _ _ h => h) HCL (goes_not (by rfl)) ?_)
          try simp only [Act.put, List.getElem_toArray, List.getElem_cons_succ, List.getElem_cons_zero, List.setIfInBounds_toArray, List.set_cons_zero, List.set_cons_succ]
          first | (refine wpU_takeB (i := 10) (v := ?_) HOPS rfl (by kernel_rfl) (fun _ _ _ h => h) HCL (goes_read (by rfl) ?hy) ?_; case hy => (intro w hSw; (try dsimp only at hSw); go_simp; (try with_reducible rfl))) | (refine wpU_takeB (i := 10) (v := _) HOPS rfl (by kernel_rfl) (fun _ _ _ h => h) HCL (goes_not (by rfl)) ?_)
          try simp only [Act.put, List.getElem_toArray, List.getElem_cons_succ, List.getElem_cons_zero, List.setIfInBounds_toArray, List.set_cons_zero, List.set_cons_succ]
          first | (refine wpU_takeB (i := 11) (v := ?_) HOPS rfl (by kernel_rfl) (fun _ _ _ h => h) HCL (goes_read (by rfl) ?hy) ?_; case hy => (intro w hSw; (try dsimp only at hSw); go_simp; (try with_reducible rfl))) | (refine wpU_takeB (i := 11) (v := _) HOPS rfl (by kernel_rfl) (fun _ _ _ h => h) HCL (goes_not (by rfl)) ?_)
          try simp only [Act.put, List.getElem_toArray, List.getElem_cons_succ, List.getElem_cons_zero, List.setIfInBounds_toArray, List.set_cons_zero, List.set_cons_succ]
          first | (refine wpU_takeB (i := 12) (v := ?_) HOPS rfl (by kernel_rfl) (fun _ _ _ h => h) HCL (goes_read (by rfl) ?hy) ?_; case hy => (intro w hSw; (try dsimp only at hSw); go_simp; (try with_reducible rfl))) | (refine wpU_takeB (i := 12) (v := _) HOPS rfl (by kernel_rfl) (fun _ _ _ h => h) HCL (goes_not (by rfl)) ?_)
          try simp only [Act.put, List.getElem_toArray, List.getElem_cons_succ, List.getElem_cons_zero, List.setIfInBounds_toArray, List.set_cons_zero, List.set_cons_succ]
          first | (refine wpU_takeB (i := 13) (v := ?_) HOPS rfl (by kernel_rfl) (fun _ _ _ h => h) HCL (goes_read (by rfl) ?hy) ?_; case hy => (intro w hSw; (try dsimp only at hSw); go_simp; (try with_reducible rfl))) | (refine wpU_takeB (i := 13) (v := _) HOPS rfl (by kernel_rfl) (fun _ _ _ h => h) HCL (goes_not (by rfl)) ?_)
          try simp only [Act.put, List.getElem_toArray, List.getElem_cons_succ, List.getElem_cons_zero, List.setIfInBounds_toArray, List.set_cons_zero, List.set_cons_succ]
          first | (refine wpU_takeB (i := 14) (v := ?_) HOPS rfl (by kernel_rfl) (fun _ _ _ h => h) HCL (goes_read (by rfl) ?hy) ?_; case hy => (intro w hSw; (try dsimp only at hSw); go_simp; (try with_reducible rfl))) | (refine wpU_takeB (i := 14) (v := _) HOPS rfl (by kernel_rfl) (fun _ _ _ h => h) HCL (goes_not (by rfl)) ?_)
          try simp only [Act.put, List.getElem_toArray, List.getElem_cons_succ, List.getElem_cons_zero, List.setIfInBounds_toArray, List.set_cons_zero, List.set_cons_succ]
          first | (refine wpU_takeB (i := 15) (v := ?_) HOPS rfl (by kernel_rfl) (fun _ _ _ h => h) HCL (goes_read (by rfl) ?hy) ?_; case hy => (intro w hSw; (try dsimp only at hSw); go_simp; (try with_reducible rfl))) | (refine wpU_takeB (i := 15) (v := _) HOPS rfl (by kernel_rfl) (fun _ _ _ h => h) HCL (goes_not (by rfl)) ?_)
          try simp only [Act.put, List.getElem_toArray, List.getElem_cons_succ, List.getElem_cons_zero, List.setIfInBounds_toArray, List.set_cons_zero, List.set_cons_succ]
          first | (refine wpU_takeB (i := 16) (v := ?_) HOPS rfl (by kernel_rfl) (fun _ _ _ h => h) HCL (goes_read (by rfl) ?hy) ?_; case hy => (intro w hSw; (try dsimp only at hSw); go_simp; (try with_reducible rfl))) | (refine wpU_takeB (i := 16) (v := _) HOPS rfl (by kernel_rfl) (fun _ _ _ h => h) HCL (goes_not (by rfl)) ?_)
          try simp only [Act.put, List.getElem_toArray, List.getElem_cons_succ, List.getElem_cons_zero, List.setIfInBounds_toArray, List.set_cons_zero, List.set_cons_succ]
          refine wpU_ready (rs := [8]) (by kernel_rfl) (by simp) ?_
          intro w15 hle
          obtain ⟨n, hHeld⟩ := hle.ahead (by kernel_rfl)
          clear hle
          replace NX := Lib.hid (NX.out.trans n)
          replace HB3 := Lib.hid (n.heap HB3.out id)
          replace HB5 := Lib.hid (n.heap HB5.out id)
          replace SZ := Nat.lt_of_lt_of_le SZ n.size
          replace HC := Lib.hid (HC.out.trans n)
          replace HIX := Lib.hid ((HIX.out.kept n nof).hi n.size)
          replace HIY := Lib.hid ((HIY.out.kept n nof).hi n.size)
          replace HBP := Lib.hid (n.heap HBP.out id)
          replace HSP := Lib.hid (n.heap HSP.out id)
          replace HC2 := Lib.hid (HC2.out.trans n)
          replace HBJ := Lib.hid (n.heap HBJ.out id)
          clear n
          refine ReadyU.cons HOPS rfl (by rfl) (fun K hK => ?_) ReadyU.nil
          go_simp
          go_at_call 12
          refine bPaste_any w15.heap.size _ _ (xW, xH, xl) (yW, yH, yl) p0 p1 _ _ HIX.out HIY.out (Nat.le_refl _) P0.out P1.out (by show _ ≤ 1000000000; simp only; omega) ?_
          intro w16 hv1 hi n
          replace NX := Lib.hid (NX.out.trans n)
          replace HB3 := Lib.hid (n.heap HB3.out id)
          replace HB5 := Lib.hid (n.heap HB5.out id)
          replace SZ := Nat.lt_of_lt_of_le SZ n.size
          replace HC := Lib.hid (HC.out.trans n)
          replace HIX := Lib.hid ((HIX.out.kept n nof).hi n.size)
          replace HIY := Lib.hid ((HIY.out.kept n nof).hi n.size)
          replace HBP := Lib.hid (n.heap HBP.out id)
          replace HSP := Lib.hid (n.heap HSP.out id)
          replace HC2 := Lib.hid (HC2.out.trans n)
          replace HBJ := Lib.hid (n.heap HBJ.out id)
          rw [HPM.out] at hi
          have HV1 := Lib.hid hi
          clear hi
          refine hK.out _ _ n ⟨by show w16.cell? _ = _; rw [cell_of HBP.out]; rfl, by show w16.cell? _ = _; rw [cell_of HBP.out]; rfl, by show w16.cell? _ = _; rw [cell_of HBP.out]; rfl, by show w16.cell? _ = _; rw [cell_of HBP.out]; rfl, by show w16.cell? _ = _; rw [cell_of HBP.out]; rfl, by show w16.cell? _ = _; rw [cell_of HBP.out]; rfl, by show w16.cell? _ = _; rw [cell_of HBJ.out]; rfl, by show w16.cell? _ = _; rw [cell_of HBJ.out]; rfl, by show w16.cell? _ = _; rw [cell_of HBJ.out]; rfl, by show w16.cell? _ = _; rw [cell_of HBJ.out]; rfl⟩ (fun hHeld => ?_)
          clear hK K n
          try simp only [Act.put, List.getElem_toArray, List.getElem_cons_succ, List.getElem_cons_zero, List.setIfInBounds_toArray, List.set_cons_zero, List.set_cons_succ]
          refine wpU_ready (rs := [17]) (by kernel_rfl) (by simp) ?_
          intro w17 hle
          obtain ⟨n, hHeld⟩ := hle.ahead (by kernel_rfl)
          clear hle
          replace NX := Lib.hid (NX.out.trans n)
          replace HB3 := Lib.hid (n.heap HB3.out id)
          replace HB5 := Lib.hid (n.heap HB5.out id)
          replace SZ := Nat.lt_of_lt_of_le SZ n.size
          replace HC := Lib.hid (HC.out.trans n)
          replace HIX := Lib.hid ((HIX.out.kept n nof).hi n.size)
          replace HIY := Lib.hid ((HIY.out.kept n nof).hi n.size)
          replace HBP := Lib.hid (n.heap HBP.out id)
          replace HSP := Lib.hid (n.heap HSP.out id)
          replace HC2 := Lib.hid (HC2.out.trans n)
          replace HBJ := Lib.hid (n.heap HBJ.out id)
          replace HV1 := Lib.hid ((HV1.out.kept n nof).hi n.size)
          clear n
          refine ReadyU.cons HOPS rfl (by rfl) (fun K hK => ?_) ReadyU.nil
          go_simp
          go_at_call 13
          refine rPaste_any w17.heap.size _ _ (xW, xH, xl) (yW, yH, yl) p0 p1 _ _ HIX.out HIY.out (Nat.le_refl _) P0.out P1.out ?_
          intro w18 hv2 hi n
          replace NX := Lib.hid (NX.out.trans n)
          replace HB3 := Lib.hid (n.heap HB3.out id)
          replace HB5 := Lib.hid (n.heap HB5.out id)
          replace SZ := Nat.lt_of_lt_of_le SZ n.size
          replace HC := Lib.hid (HC.out.trans n)
          replace HIX := Lib.hid ((HIX.out.kept n nof).hi n.size)
          replace HIY := Lib.hid ((HIY.out.kept n nof).hi n.size)
          replace HBP := Lib.hid (n.heap HBP.out id)
          replace HSP := Lib.hid (n.heap HSP.out id)
          replace HC2 := Lib.hid (HC2.out.trans n)
          replace HBJ := Lib.hid (n.heap HBJ.out id)
          replace HV1 := Lib.hid ((HV1.out.kept n nof).hi n.size)
          rw [HPM.out] at hi
          have HV2 := Lib.hid hi
          clear hi
          refine hK.out _ _ n ⟨by show w18.cell? _ = _; rw [cell_of HBP.out]; rfl, by show w18.cell? _ = _; rw [cell_of HBP.out]; rfl, by show w18.cell? _ = _; rw [cell_of HBP.out]; rfl, by show w18.cell? _ = _; rw [cell_of HBP.out]; rfl, by show w18.cell? _ = _; rw [cell_of HBP.out]; rfl, by show w18.cell? _ = _; rw [cell_of HBP.out]; rfl, by show w18.cell? _ = _; rw [cell_of HBJ.out]; rfl, by show w18.cell? _ = _; rw [cell_of HBJ.out]; rfl, by show w18.cell? _ = _; rw [cell_of HBJ.out]; rfl, by show w18.cell? _ = _; rw [cell_of HBJ.out]; rfl⟩ (fun hHeld => ?_)
          clear hK K n
          try simp only [Act.put, List.getElem_toArray, List.getElem_cons_succ, List.getElem_cons_zero, List.setIfInBounds_toArray, List.set_cons_zero, List.set_cons_succ]
          refine wpU_ready (rs := [18]) (by kernel_rfl) (by simp) ?_
          intro w19 hle
          obtain ⟨n, hHeld⟩ := hle.ahead (by kernel_rfl)
          clear hle
          replace NX := Lib.hid (NX.out.trans n)
          replace HB3 := Lib.hid (n.heap HB3.out id)
          replace HB5 := Lib.hid (n.heap HB5.out id)
          replace SZ := Nat.lt_of_lt_of_le SZ n.size
          replace HC := Lib.hid (HC.out.trans n)
          replace HIX := Lib.hid ((HIX.out.kept n nof).hi n.size)
          replace HIY := Lib.hid ((HIY.out.kept n nof).hi n.size)
          replace HBP := Lib.hid (n.heap HBP.out id)
          replace HSP := Lib.hid (n.heap HSP.out id)
          replace HC2 := Lib.hid (HC2.out.trans n)
          replace HBJ := Lib.hid (n.heap HBJ.out id)
          replace HV1 := Lib.hid ((HV1.out.kept n nof).hi n.size)
          replace HV2 := Lib.hid ((HV2.out.kept n nof).hi n.size)
          clear n
          refine ReadyU.cons HOPS rfl (by rfl) (fun K hK => ?_) ReadyU.nil
          go_simp
          go_at_call 11
          refine rbSame_any _ _ _ PM PM _ _ HV1.out HV2.out ?_
          rw [decide_eq_true rfl]
          intro w20 n
          replace NX := Lib.hid (NX.out.trans n)
          replace HB3 := Lib.hid (n.heap HB3.out id)
          replace HB5 := Lib.hid (n.heap HB5.out id)
          replace SZ := Nat.lt_of_lt_of_le SZ n.size
          replace HC := Lib.hid (HC.out.trans n)
          replace HIX := Lib.hid ((HIX.out.kept n nof).hi n.size)
          replace HIY := Lib.hid ((HIY.out.kept n nof).hi n.size)
          replace HBP := Lib.hid (n.heap HBP.out id)
          replace HSP := Lib.hid (n.heap HSP.out id)
          replace HC2 := Lib.hid (HC2.out.trans n)
          replace HBJ := Lib.hid (n.heap HBJ.out id)
          replace HV1 := Lib.hid ((HV1.out.kept n nof).hi n.size)
          replace HV2 := Lib.hid ((HV2.out.kept n nof).hi n.size)
          refine hK.out _ _ n ⟨by show w20.cell? _ = _; rw [cell_of HBP.out]; rfl, by show w20.cell? _ = _; rw [cell_of HBP.out]; rfl, by show w20.cell? _ = _; rw [cell_of HBP.out]; rfl, by show w20.cell? _ = _; rw [cell_of HBP.out]; rfl, by show w20.cell? _ = _; rw [cell_of HBP.out]; rfl, by show w20.cell? _ = _; rw [cell_of HBP.out]; rfl, by show w20.cell? _ = _; rw [cell_of HBJ.out]; rfl, by show w20.cell? _ = _; rw [cell_of HBJ.out]; rfl, by show w20.cell? _ = _; rw [cell_of HBJ.out]; rfl, by show w20.cell? _ = _; rw [cell_of HBJ.out]; rfl⟩ (fun hHeld => ?_)
          clear hK K n
          try simp only [Act.put, List.getElem_toArray, List.getElem_cons_succ, List.getElem_cons_zero, List.setIfInBounds_toArray, List.set_cons_zero, List.set_cons_succ]
          first | (refine wpU_takeB (i := 19) (v := ?_) HOPS rfl (by kernel_rfl) (fun _ _ _ h => h) HCL (goes_read (by rfl) ?hy) ?_; case hy => (intro w hSw; (try dsimp only at hSw); go_simp; (try with_reducible rfl))) | (refine wpU_takeB (i := 19) (v := _) HOPS rfl (by kernel_rfl) (fun _ _ _ h => h) HCL (goes_not (by rfl)) ?_)
          try simp only [Act.put, List.getElem_toArray, List.getElem_cons_succ, List.getElem_cons_zero, List.setIfInBounds_toArray, List.set_cons_zero, List.set_cons_succ]
          refine wpU_done (by kernel_rfl) (fun w21 hle => ?_) _
          have n := (hle.ahead (by kernel_rfl)).1
          replace NX := Lib.hid (NX.out.trans n)
          replace HB3 := Lib.hid (n.heap HB3.out id)
          replace HB5 := Lib.hid (n.heap HB5.out id)
          replace SZ := Nat.lt_of_lt_of_le SZ n.size
          replace HC := Lib.hid (HC.out.trans n)
          replace HIX := Lib.hid ((HIX.out.kept n nof).hi n.size)
          replace HIY := Lib.hid ((HIY.out.kept n nof).hi n.size)
          replace HBP := Lib.hid (n.heap HBP.out id)
          replace HSP := Lib.hid (n.heap HSP.out id)
          replace HC2 := Lib.hid (HC2.out.trans n)
          replace HBJ := Lib.hid (n.heap HBJ.out id)
          replace HV1 := Lib.hid ((HV1.out.kept n nof).hi n.size)
          replace HV2 := Lib.hid ((HV2.out.kept n nof).hi n.size)
          clear n
          clear HOPS HCL hle
          repeat clear hHeld
          clear t0 t1 t2 t3 HV1 HV2 HPM
          have kHBP0 : w21.cell? ⟨wr0.heap.size, 0, none⟩ = some (.int .i64 xW) := by rw [cell_of HBP.out]; rfl
          have jHBP0 : ∀ o, (w21.alloc o).cell? ⟨wr0.heap.size, 0, none⟩ = some (.int .i64 xW) := fun o => cell_alloc_old o kHBP0
          have kHBP1 : w21.cell? ⟨wr0.heap.size, 1, none⟩ = some (.int .i64 xH) := by rw [cell_of HBP.out]; rfl
          have jHBP1 : ∀ o, (w21.alloc o).cell? ⟨wr0.heap.size, 1, none⟩ = some (.int .i64 xH) := fun o => cell_alloc_old o kHBP1
          have kHBP2 : w21.cell? ⟨wr0.heap.size, 2, none⟩ = some (.slice AX xl.length cX) := by rw [cell_of HBP.out]; rfl
          have jHBP2 : ∀ o, (w21.alloc o).cell? ⟨wr0.heap.size, 2, none⟩ = some (.slice AX xl.length cX) := fun o => cell_alloc_old o kHBP2
          have kHBP3 : w21.cell? ⟨wr0.heap.size, 3, none⟩ = some (.int .i64 yW) := by rw [cell_of HBP.out]; rfl
          have jHBP3 : ∀ o, (w21.alloc o).cell? ⟨wr0.heap.size, 3, none⟩ = some (.int .i64 yW) := fun o => cell_alloc_old o kHBP3
          have kHBP4 : w21.cell? ⟨wr0.heap.size, 4, none⟩ = some (.int .i64 yH) := by rw [cell_of HBP.out]; rfl
          have jHBP4 : ∀ o, (w21.alloc o).cell? ⟨wr0.heap.size, 4, none⟩ = some (.int .i64 yH) := fun o => cell_alloc_old o kHBP4
          have kHBP5 : w21.cell? ⟨wr0.heap.size, 5, none⟩ = some (.slice AY yl.length cY) := by rw [cell_of HBP.out]; rfl
          have jHBP5 : ∀ o, (w21.alloc o).cell? ⟨wr0.heap.size, 5, none⟩ = some (.slice AY yl.length cY) := fun o => cell_alloc_old o kHBP5
          have kHBJ0 : w21.cell? ⟨wr1.heap.size, 0, none⟩ = some (.int .i64 p0) := by rw [cell_of HBJ.out]; rfl
          have jHBJ0 : ∀ o, (w21.alloc o).cell? ⟨wr1.heap.size, 0, none⟩ = some (.int .i64 p0) := fun o => cell_alloc_old o kHBJ0
          have kHBJ1 : w21.cell? ⟨wr1.heap.size, 1, none⟩ = some (.int .i64 p1) := by rw [cell_of HBJ.out]; rfl
          have jHBJ1 : ∀ o, (w21.alloc o).cell? ⟨wr1.heap.size, 1, none⟩ = some (.int .i64 p1) := fun o => cell_alloc_old o kHBJ1
          have kHBJ2 : w21.cell? ⟨wr1.heap.size, 2, none⟩ = some (.int .i64 p2) := by rw [cell_of HBJ.out]; rfl
          have jHBJ2 : ∀ o, (w21.alloc o).cell? ⟨wr1.heap.size, 2, none⟩ = some (.int .i64 p2) := fun o => cell_alloc_old o kHBJ2
          have kHBJ3 : w21.cell? ⟨wr1.heap.size, 3, none⟩ = some (.int .i64 p3) := by rw [cell_of HBJ.out]; rfl
          have jHBJ3 : ∀ o, (w21.alloc o).cell? ⟨wr1.heap.size, 3, none⟩ = some (.int .i64 p3) := fun o => cell_alloc_old o kHBJ3
          go_wp2_with (go_at_call 5; fail)
          clear kHBP0 jHBP0 kHBP1 jHBP1 kHBP2 jHBP2 kHBP3 jHBP3 kHBP4 jHBP4 kHBP5 jHBP5 kHBJ0 jHBJ0 kHBJ1 jHBJ1 kHBJ2 jHBJ2 kHBJ3 jHBJ3
          refine Calls_nm ?_
          intro W22 hW
          have n : Nw w21 W22 := by rw [hW]; first | exact Ch.refl _ _ | exact (Ch.refl _ _).alloc _ | exact ((Ch.refl _ _).alloc _).alloc _
          replace NX := Lib.hid (NX.out.trans n)
          replace HB3 := Lib.hid (n.heap HB3.out id)
          replace HB5 := Lib.hid (n.heap HB5.out id)
          replace SZ := Nat.lt_of_lt_of_le SZ n.size
          replace HC := Lib.hid (HC.out.trans n)
          replace HIX := Lib.hid ((HIX.out.kept n nof).hi n.size)
          replace HIY := Lib.hid ((HIY.out.kept n nof).hi n.size)
          replace HBP := Lib.hid (n.heap HBP.out id)
          replace HSP := Lib.hid (n.heap HSP.out id)
          replace HC2 := Lib.hid (HC2.out.trans n)
          replace HBJ := Lib.hid (n.heap HBJ.out id)
          clear hW n
          refine bCrop_any W22.heap.size _ (xW, xH, xl) p0 p1 p2 p3 _ _ HIX.out (Nat.le_refl _) P0.out P1.out P2.out P3.out ?_
          intro w23 v hi n
          replace NX := Lib.hid (NX.out.trans n)
          replace HB3 := Lib.hid (n.heap HB3.out id)
          replace HB5 := Lib.hid (n.heap HB5.out id)
          replace SZ := Nat.lt_of_lt_of_le SZ n.size
          replace HC := Lib.hid (HC.out.trans n)
          replace HIX := Lib.hid ((HIX.out.kept n nof).hi n.size)
          replace HIY := Lib.hid ((HIY.out.kept n nof).hi n.size)
          replace HBP := Lib.hid (n.heap HBP.out id)
          replace HSP := Lib.hid (n.heap HSP.out id)
          replace HC2 := Lib.hid (HC2.out.trans n)
          replace HBJ := Lib.hid (n.heap HBJ.out id)
          rw [HCM.out] at hi ⊢
          simp only at hi ⊢
          obtain ⟨AG, cG, rfl, hI⟩ := isBm_formN (W := gW) (H := gH) (n := gl.length) hi rfl rfl rfl
          have HIG := Lib.hid hI
          clear hi hI n
          have kHBP0 : w23.cell? ⟨wr0.heap.size, 0, none⟩ = some (.int .i64 xW) := by rw [cell_of HBP.out]; rfl
          have jHBP0 : ∀ o, (w23.alloc o).cell? ⟨wr0.heap.size, 0, none⟩ = some (.int .i64 xW) := fun o => cell_alloc_old o kHBP0
          have kHBP1 : w23.cell? ⟨wr0.heap.size, 1, none⟩ = some (.int .i64 xH) := by rw [cell_of HBP.out]; rfl
          have jHBP1 : ∀ o, (w23.alloc o).cell? ⟨wr0.heap.size, 1, none⟩ = some (.int .i64 xH) := fun o => cell_alloc_old o kHBP1
          have kHBP2 : w23.cell? ⟨wr0.heap.size, 2, none⟩ = some (.slice AX xl.length cX) := by rw [cell_of HBP.out]; rfl
          have jHBP2 : ∀ o, (w23.alloc o).cell? ⟨wr0.heap.size, 2, none⟩ = some (.slice AX xl.length cX) := fun o => cell_alloc_old o kHBP2
          have kHBP3 : w23.cell? ⟨wr0.heap.size, 3, none⟩ = some (.int .i64 yW) := by rw [cell_of HBP.out]; rfl
          have jHBP3 : ∀ o, (w23.alloc o).cell? ⟨wr0.heap.size, 3, none⟩ = some (.int .i64 yW) := fun o => cell_alloc_old o kHBP3
          have kHBP4 : w23.cell? ⟨wr0.heap.size, 4, none⟩ = some (.int .i64 yH) := by rw [cell_of HBP.out]; rfl
          have jHBP4 : ∀ o, (w23.alloc o).cell? ⟨wr0.heap.size, 4, none⟩ = some (.int .i64 yH) := fun o => cell_alloc_old o kHBP4
          have kHBP5 : w23.cell? ⟨wr0.heap.size, 5, none⟩ = some (.slice AY yl.length cY) := by rw [cell_of HBP.out]; rfl
          have jHBP5 : ∀ o, (w23.alloc o).cell? ⟨wr0.heap.size, 5, none⟩ = some (.slice AY yl.length cY) := fun o => cell_alloc_old o kHBP5
          have kHBJ0 : w23.cell? ⟨wr1.heap.size, 0, none⟩ = some (.int .i64 p0) := by rw [cell_of HBJ.out]; rfl
          have jHBJ0 : ∀ o, (w23.alloc o).cell? ⟨wr1.heap.size, 0, none⟩ = some (.int .i64 p0) := fun o => cell_alloc_old o kHBJ0
          have kHBJ1 : w23.cell? ⟨wr1.heap.size, 1, none⟩ = some (.int .i64 p1) := by rw [cell_of HBJ.out]; rfl
          have jHBJ1 : ∀ o, (w23.alloc o).cell? ⟨wr1.heap.size, 1, none⟩ = some (.int .i64 p1) := fun o => cell_alloc_old o kHBJ1
          have kHBJ2 : w23.cell? ⟨wr1.heap.size, 2, none⟩ = some (.int .i64 p2) := by rw [cell_of HBJ.out]; rfl
          have jHBJ2 : ∀ o, (w23.alloc o).cell? ⟨wr1.heap.size, 2, none⟩ = some (.int .i64 p2) := fun o => cell_alloc_old o kHBJ2
          have kHBJ3 : w23.cell? ⟨wr1.heap.size, 3, none⟩ = some (.int .i64 p3) := by rw [cell_of HBJ.out]; rfl
          have jHBJ3 : ∀ o, (w23.alloc o).cell? ⟨wr1.heap.size, 3, none⟩ = some (.int .i64 p3) := fun o => cell_alloc_old o kHBJ3
          go_wp2_with (go_at_call 5; fail)
          clear kHBP0 jHBP0 kHBP1 jHBP1 kHBP2 jHBP2 kHBP3 jHBP3 kHBP4 jHBP4 kHBP5 jHBP5 kHBJ0 jHBJ0 kHBJ1 jHBJ1 kHBJ2 jHBJ2 kHBJ3 jHBJ3
          refine Calls_nm ?_
          intro W24 hW
          have n : Nw w23 W24 := by rw [hW]; first | exact Ch.refl _ _ | exact (Ch.refl _ _).alloc _ | exact ((Ch.refl _ _).alloc _).alloc _
          replace NX := Lib.hid (NX.out.trans n)
          replace HB3 := Lib.hid (n.heap HB3.out id)
          replace HB5 := Lib.hid (n.heap HB5.out id)
          replace SZ := Nat.lt_of_lt_of_le SZ n.size
          replace HC := Lib.hid (HC.out.trans n)
          replace HIX := Lib.hid ((HIX.out.kept n nof).hi n.size)
          replace HIY := Lib.hid ((HIY.out.kept n nof).hi n.size)
          replace HBP := Lib.hid (n.heap HBP.out id)
          replace HSP := Lib.hid (n.heap HSP.out id)
          replace HC2 := Lib.hid (HC2.out.trans n)
          replace HBJ := Lib.hid (n.heap HBJ.out id)
          replace HIG := Lib.hid ((HIG.out.kept n nof).hi n.size)
          have HBG := Lib.hid (show W24.heap[w23.heap.size]? = some (.cells #[.int .i64 gW, .int .i64 gH, .slice AG gl.length cG] 28 (0, 0)) from by rw [hW]; exact heap_alloc_eq _ rfl)
          clear hW n
          refine rCrop_any W24.heap.size _ (xW, xH, xl) p0 p1 p2 p3 _ _ HIX.out (Nat.le_refl _) P0.out P1.out P2.out P3.out ?_
          intro w25 v hi n
          replace NX := Lib.hid (NX.out.trans n)
          replace HB3 := Lib.hid (n.heap HB3.out id)
          replace HB5 := Lib.hid (n.heap HB5.out id)
          replace SZ := Nat.lt_of_lt_of_le SZ n.size
          replace HC := Lib.hid (HC.out.trans n)
          replace HIX := Lib.hid ((HIX.out.kept n nof).hi n.size)
          replace HIY := Lib.hid ((HIY.out.kept n nof).hi n.size)
          replace HBP := Lib.hid (n.heap HBP.out id)
          replace HSP := Lib.hid (n.heap HSP.out id)
          replace HC2 := Lib.hid (HC2.out.trans n)
          replace HBJ := Lib.hid (n.heap HBJ.out id)
          replace HIG := Lib.hid ((HIG.out.kept n nof).hi n.size)
          replace HBG := Lib.hid (n.heap HBG.out id)
          rw [HCM.out] at hi ⊢
          simp only at hi ⊢
          obtain ⟨AF, cF, rfl, hI⟩ := isBm_formN (W := gW) (H := gH) (n := gl.length) hi rfl rfl rfl
          have HIF := Lib.hid hI
          clear hi hI n
          have kHBP0 : w25.cell? ⟨wr0.heap.size, 0, none⟩ = some (.int .i64 xW) := by rw [cell_of HBP.out]; rfl
          have jHBP0 : ∀ o, (w25.alloc o).cell? ⟨wr0.heap.size, 0, none⟩ = some (.int .i64 xW) := fun o => cell_alloc_old o kHBP0
          have kHBP1 : w25.cell? ⟨wr0.heap.size, 1, none⟩ = some (.int .i64 xH) := by rw [cell_of HBP.out]; rfl
          have jHBP1 : ∀ o, (w25.alloc o).cell? ⟨wr0.heap.size, 1, none⟩ = some (.int .i64 xH) := fun o => cell_alloc_old o kHBP1
          have kHBP2 : w25.cell? ⟨wr0.heap.size, 2, none⟩ = some (.slice AX xl.length cX) := by rw [cell_of HBP.out]; rfl
          have jHBP2 : ∀ o, (w25.alloc o).cell? ⟨wr0.heap.size, 2, none⟩ = some (.slice AX xl.length cX) := fun o => cell_alloc_old o kHBP2
          have kHBP3 : w25.cell? ⟨wr0.heap.size, 3, none⟩ = some (.int .i64 yW) := by rw [cell_of HBP.out]; rfl
          have jHBP3 : ∀ o, (w25.alloc o).cell? ⟨wr0.heap.size, 3, none⟩ = some (.int .i64 yW) := fun o => cell_alloc_old o kHBP3
          have kHBP4 : w25.cell? ⟨wr0.heap.size, 4, none⟩ = some (.int .i64 yH) := by rw [cell_of HBP.out]; rfl
          have jHBP4 : ∀ o, (w25.alloc o).cell? ⟨wr0.heap.size, 4, none⟩ = some (.int .i64 yH) := fun o => cell_alloc_old o kHBP4
          have kHBP5 : w25.cell? ⟨wr0.heap.size, 5, none⟩ = some (.slice AY yl.length cY) := by rw [cell_of HBP.out]; rfl
          have jHBP5 : ∀ o, (w25.alloc o).cell? ⟨wr0.heap.size, 5, none⟩ = some (.slice AY yl.length cY) := fun o => cell_alloc_old o kHBP5
          have kHBJ0 : w25.cell? ⟨wr1.heap.size, 0, none⟩ = some (.int .i64 p0) := by rw [cell_of HBJ.out]; rfl
          have jHBJ0 : ∀ o, (w25.alloc o).cell? ⟨wr1.heap.size, 0, none⟩ = some (.int .i64 p0) := fun o => cell_alloc_old o kHBJ0
          have kHBJ1 : w25.cell? ⟨wr1.heap.size, 1, none⟩ = some (.int .i64 p1) := by rw [cell_of HBJ.out]; rfl
          have jHBJ1 : ∀ o, (w25.alloc o).cell? ⟨wr1.heap.size, 1, none⟩ = some (.int .i64 p1) := fun o => cell_alloc_old o kHBJ1
          have kHBJ2 : w25.cell? ⟨wr1.heap.size, 2, none⟩ = some (.int .i64 p2) := by rw [cell_of HBJ.out]; rfl
          have jHBJ2 : ∀ o, (w25.alloc o).cell? ⟨wr1.heap.size, 2, none⟩ = some (.int .i64 p2) := fun o => cell_alloc_old o kHBJ2
          have kHBJ3 : w25.cell? ⟨wr1.heap.size, 3, none⟩ = some (.int .i64 p3) := by rw [cell_of HBJ.out]; rfl
          have jHBJ3 : ∀ o, (w25.alloc o).cell? ⟨wr1.heap.size, 3, none⟩ = some (.int .i64 p3) := fun o => cell_alloc_old o kHBJ3
          have kHBG0 : w25.cell? ⟨w23.heap.size, 0, none⟩ = some (.int .i64 gW) := by rw [cell_of HBG.out]; rfl
          have jHBG0 : ∀ o, (w25.alloc o).cell? ⟨w23.heap.size, 0, none⟩ = some (.int .i64 gW) := fun o => cell_alloc_old o kHBG0
          have kHBG1 : w25.cell? ⟨w23.heap.size, 1, none⟩ = some (.int .i64 gH) := by rw [cell_of HBG.out]; rfl
          have jHBG1 : ∀ o, (w25.alloc o).cell? ⟨w23.heap.size, 1, none⟩ = some (.int .i64 gH) := fun o => cell_alloc_old o kHBG1
          have kHBG2 : w25.cell? ⟨w23.heap.size, 2, none⟩ = some (.slice AG gl.length cG) := by rw [cell_of HBG.out]; rfl
          have jHBG2 : ∀ o, (w25.alloc o).cell? ⟨w23.heap.size, 2, none⟩ = some (.slice AG gl.length cG) := fun o => cell_alloc_old o kHBG2
          go_wp2_with (go_at_call 5; fail)
          clear kHBP0 jHBP0 kHBP1 jHBP1 kHBP2 jHBP2 kHBP3 jHBP3 kHBP4 jHBP4 kHBP5 jHBP5 kHBJ0 jHBJ0 kHBJ1 jHBJ1 kHBJ2 jHBJ2 kHBJ3 jHBJ3 kHBG0 jHBG0 kHBG1 jHBG1 kHBG2 jHBG2
          refine Calls_nm ?_
          intro W26 hW
          have n : Nw w25 W26 := by rw [hW]; first | exact Ch.refl _ _ | exact (Ch.refl _ _).alloc _ | exact ((Ch.refl _ _).alloc _).alloc _
          replace NX := Lib.hid (NX.out.trans n)
          replace HB3 := Lib.hid (n.heap HB3.out id)
          replace HB5 := Lib.hid (n.heap HB5.out id)
          replace SZ := Nat.lt_of_lt_of_le SZ n.size
          replace HC := Lib.hid (HC.out.trans n)
          replace HIX := Lib.hid ((HIX.out.kept n nof).hi n.size)
          replace HIY := Lib.hid ((HIY.out.kept n nof).hi n.size)
          replace HBP := Lib.hid (n.heap HBP.out id)
          replace HSP := Lib.hid (n.heap HSP.out id)
          replace HC2 := Lib.hid (HC2.out.trans n)
          replace HBJ := Lib.hid (n.heap HBJ.out id)
          replace HIG := Lib.hid ((HIG.out.kept n nof).hi n.size)
          replace HBG := Lib.hid (n.heap HBG.out id)
          replace HIF := Lib.hid ((HIF.out.kept n nof).hi n.size)
          have HBF := Lib.hid (show W26.heap[w25.heap.size]? = some (.cells #[.int .i64 gW, .int .i64 gH, .slice AF gl.length cF] 28 (0, 0)) from by rw [hW]; exact heap_alloc_eq _ rfl)
          clear hW n
          refine rbSame_any _ _ _ (gW, gH, gl) (gW, gH, gl) _ _ HIG.out HIF.out ?_
          rw [decide_eq_true rfl]
          intro w27 n
          replace NX := Lib.hid (NX.out.trans n)
          replace HB3 := Lib.hid (n.heap HB3.out id)
          replace HB5 := Lib.hid (n.heap HB5.out id)
          replace SZ := Nat.lt_of_lt_of_le SZ n.size
          replace HC := Lib.hid (HC.out.trans n)
          replace HIX := Lib.hid ((HIX.out.kept n nof).hi n.size)
          replace HIY := Lib.hid ((HIY.out.kept n nof).hi n.size)
          replace HBP := Lib.hid (n.heap HBP.out id)
          replace HSP := Lib.hid (n.heap HSP.out id)
          replace HC2 := Lib.hid (HC2.out.trans n)
          replace HBJ := Lib.hid (n.heap HBJ.out id)
          replace HIG := Lib.hid ((HIG.out.kept n nof).hi n.size)
          replace HBG := Lib.hid (n.heap HBG.out id)
          replace HIF := Lib.hid ((HIF.out.kept n nof).hi n.size)
          replace HBF := Lib.hid (n.heap HBF.out id)
          clear n
          clear HIG HIF HBG HBF
          clear HCM
          go_upto_region 16 with (fail)
          have kHBJ0 : w27.cell? ⟨wr1.heap.size, 0, none⟩ = some (.int .i64 p0) := by rw [cell_of HBJ.out]; rfl
          have kHBJ1 : w27.cell? ⟨wr1.heap.size, 1, none⟩ = some (.int .i64 p1) := by rw [cell_of HBJ.out]; rfl
          have kHBJ2 : w27.cell? ⟨wr1.heap.size, 2, none⟩ = some (.int .i64 p2) := by rw [cell_of HBJ.out]; rfl
          have kHBJ3 : w27.cell? ⟨wr1.heap.size, 3, none⟩ = some (.int .i64 p3) := by rw [cell_of HBJ.out]; rfl
          have kHB50 : w27.cell? ⟨w.heap.size + 2, 0, none⟩ = some (.int .i64 q0) := by rw [cell_of HB5.out]; rfl
          have kHB51 : w27.cell? ⟨w.heap.size + 2, 1, none⟩ = some (.int .i64 q1) := by rw [cell_of HB5.out]; rfl
          refine wp_region_lit ?_
          refine wpList_plain rfl fun K hK => ?_
          go_simp
          refine hK _ _ ?_
          clear hK K
          try simp only [Act.put, List.getElem_toArray, List.getElem_cons_succ, List.getElem_cons_zero, List.setIfInBounds_toArray, List.set_cons_zero, List.set_cons_succ]
          refine wpList_plain rfl fun K hK => ?_
          go_simp
          refine hK _ _ ?_
          clear hK K
          try simp only [Act.put, List.getElem_toArray, List.getElem_cons_succ, List.getElem_cons_zero, List.setIfInBounds_toArray, List.set_cons_zero, List.set_cons_succ]
          refine wpList_plain rfl fun K hK => ?_
          go_simp
          refine hK _ _ ?_
          clear hK K
          try simp only [Act.put, List.getElem_toArray, List.getElem_cons_succ, List.getElem_cons_zero, List.setIfInBounds_toArray, List.set_cons_zero, List.set_cons_succ]
          refine wpList_plain rfl fun K hK => ?_
          go_simp
          refine hK _ _ ?_
          clear hK K
          try simp only [Act.put, List.getElem_toArray, List.getElem_cons_succ, List.getElem_cons_zero, List.setIfInBounds_toArray, List.set_cons_zero, List.set_cons_succ]
          refine wpList_plain rfl fun K hK => ?_
          go_simp
          refine hK _ _ ?_
          clear hK K
          try simp only [Act.put, List.getElem_toArray, List.getElem_cons_succ, List.getElem_cons_zero, List.setIfInBounds_toArray, List.set_cons_zero, List.set_cons_succ]
          refine wpList_plain rfl fun K hK => ?_
          go_simp
          refine hK _ _ ?_
          clear hK K
          try simp only [Act.put, List.getElem_toArray, List.getElem_cons_succ, List.getElem_cons_zero, List.setIfInBounds_toArray, List.set_cons_zero, List.set_cons_succ]
          refine wpList_plain rfl fun K hK => ?_
          go_simp
          refine hK _ _ ?_
          clear hK K
          try simp only [Act.put, List.getElem_toArray, List.getElem_cons_succ, List.getElem_cons_zero, List.setIfInBounds_toArray, List.set_cons_zero, List.set_cons_succ]
          refine wpList_plain rfl fun K hK => ?_
          refine wp_lit3x2 42 29 _ _ _ rfl (by kernel_rfl) (by kernel_rfl) (by rfl) (by rfl) (by rfl) ?_
          refine hK _ _ ?_
          clear hK K
          try simp only [Act.put, List.getElem_toArray, List.getElem_cons_succ, List.getElem_cons_zero, List.setIfInBounds_toArray, List.set_cons_zero, List.set_cons_succ]
          clear kHBJ0 kHBJ1 kHBJ2 kHBJ3 kHB50 kHB51
          go_wp2_with fail
          refine wp_named ?_
          intro W28 hW
          have n : Nw w27 W28 := by rw [hW]; first | exact Ch.refl _ _ | exact (Ch.refl _ _).alloc _ | exact ((Ch.refl _ _).alloc _).alloc _
          replace NX := Lib.hid (NX.out.trans n)
          replace HB3 := Lib.hid (n.heap HB3.out id)
          replace HB5 := Lib.hid (n.heap HB5.out id)
          replace SZ := Nat.lt_of_lt_of_le SZ n.size
          replace HC := Lib.hid (HC.out.trans n)
          replace HIX := Lib.hid ((HIX.out.kept n nof).hi n.size)
          replace HIY := Lib.hid ((HIY.out.kept n nof).hi n.size)
          replace HBP := Lib.hid (n.heap HBP.out id)
          replace HSP := Lib.hid (n.heap HSP.out id)
          replace HC2 := Lib.hid (HC2.out.trans n)
          replace HBJ := Lib.hid (n.heap HBJ.out id)
          have HSQ := Lib.hid (show W28.heap[w27.heap.size]? = some (.cells #[.int .i64 q0, .int .i64 q1, .int .i64 p2, .int .i64 p3, .int .i64 0, .int .i64 0] 29 (0, 0)) from by rw [hW]; exact heap_alloc_eq _ rfl)
          clear hW n
          go_loopw [133] (fun s133 wr => ∃ (m : Nat), s133 = .int .i64 m ∧ m ≤ 3 ∧ Hid (Nw W28 wr)) (fun s133 _ => 3 - (intOf s133).toNat)
          case atStart => exact ⟨0, rfl, by omega, Lib.hid (Ch.refl _ _)⟩
          case round =>
            obtain ⟨m, rfl, hm, HC3⟩ := hrel
            have m0 : (0 : Int) ≤ (m : Int) := by omega
            obtain ⟨wr2, hwr2⟩ : ∃ W : World, W = wr := ⟨_, rfl⟩
            subst hwr2
            replace NX := Lib.hid (NX.out.trans HC3.out)
            replace HB3 := Lib.hid (HC3.out.heap HB3.out id)
            replace HB5 := Lib.hid (HC3.out.heap HB5.out id)
            replace SZ := Nat.lt_of_lt_of_le SZ HC3.out.size
            replace HC := Lib.hid (HC.out.trans HC3.out)
            replace HIX := Lib.hid ((HIX.out.kept HC3.out nof).hi HC3.out.size)
            replace HIY := Lib.hid ((HIY.out.kept HC3.out nof).hi HC3.out.size)
            replace HBP := Lib.hid (HC3.out.heap HBP.out id)
            replace HSP := Lib.hid (HC3.out.heap HSP.out id)
            replace HC2 := Lib.hid (HC2.out.trans HC3.out)
            replace HBJ := Lib.hid (HC3.out.heap HBJ.out id)
            replace HSQ := Lib.hid (HC3.out.heap HSQ.out id)
            by_cases hmt : m < 3
            · as_aux_lemma =>
              have m3 : (m : Int) < 3 := by omega
              have hQ : ∃ r0 r1 : Int, wr2.cell? ⟨w27.heap.size, m * 2, none⟩ = some (.int .i64 r0) ∧ wr2.cell? ⟨w27.heap.size, m * 2 + 1, none⟩ = some (.int .i64 r1) := by
                obtain rfl | rfl | rfl : m = 0 ∨ m = 1 ∨ m = 2 := by omega
                · exact ⟨q0, q1, by rw [cell_of HSQ.out]; rfl, by rw [cell_of HSQ.out]; rfl⟩
                · exact ⟨p2, p3, by rw [cell_of HSQ.out]; rfl, by rw [cell_of HSQ.out]; rfl⟩
                · exact ⟨0, 0, by rw [cell_of HSQ.out]; rfl, by rw [cell_of HSQ.out]; rfl⟩
              obtain ⟨r0, r1, t0, t1⟩ := hQ
              go_upto_region 19 with (fail)
              refine wp_named ?_
              intro W29 hW
              have n : Nw wr2 W29 := by rw [hW]; first | exact Ch.refl _ _ | exact (Ch.refl _ _).alloc _
              replace NX := Lib.hid (NX.out.trans n)
              replace HB3 := Lib.hid (n.heap HB3.out id)
              replace HB5 := Lib.hid (n.heap HB5.out id)
              replace SZ := Nat.lt_of_lt_of_le SZ n.size
              replace HC := Lib.hid (HC.out.trans n)
              replace HIX := Lib.hid ((HIX.out.kept n nof).hi n.size)
              replace HIY := Lib.hid ((HIY.out.kept n nof).hi n.size)
              replace HBP := Lib.hid (n.heap HBP.out id)
              replace HSP := Lib.hid (n.heap HSP.out id)
              replace HC2 := Lib.hid (HC2.out.trans n)
              replace HBJ := Lib.hid (n.heap HBJ.out id)
              replace HSQ := Lib.hid (n.heap HSQ.out id)
              replace HC3 := Lib.hid (HC3.out.trans n)
              have HBQ := Lib.hid (show W29.heap[wr2.heap.size]? = some (.cells #[.int .i64 r0, .int .i64 r1] 29 (0, 0)) from by rw [hW]; exact heap_alloc_eq _ rfl)
              clear hW n
              refine wp_region_V (F := fun w' => w'.cell? ⟨wr0.heap.size, 0, none⟩ = some (.int .i64 xW) ∧ w'.cell? ⟨wr0.heap.size, 1, none⟩ = some (.int .i64 xH) ∧ w'.cell? ⟨wr0.heap.size, 2, none⟩ = some (.slice AX xl.length cX) ∧ w'.cell? ⟨wr0.heap.size, 3, none⟩ = some (.int .i64 yW) ∧ w'.cell? ⟨wr0.heap.size, 4, none⟩ = some (.int .i64 yH) ∧ w'.cell? ⟨wr0.heap.size, 5, none⟩ = some (.slice AY yl.length cY) ∧ w'.cell? ⟨wr1.heap.size, 0, none⟩ = some (.int .i64 p0) ∧ w'.cell? ⟨wr1.heap.size, 1, none⟩ = some (.int .i64 p1) ∧ w'.cell? ⟨wr1.heap.size, 2, none⟩ = some (.int .i64 p2) ∧ w'.cell? ⟨wr1.heap.size, 3, none⟩ = some (.int .i64 p3) ∧ w'.cell? ⟨wr2.heap.size, 0, none⟩ = some (.int .i64 r0) ∧ w'.cell? ⟨wr2.heap.size, 1, none⟩ = some (.int .i64 r1)) (opsOf Tryd.f3 19) 27 27 (by kernel_rfl) (by kernel_rfl) (by kernel_rfl) (fun w w' h n => ⟨n.cell h.1 id, n.cell h.2.1 id, n.cell h.2.2.1 id, n.cell h.2.2.2.1 id, n.cell h.2.2.2.2.1 id, n.cell h.2.2.2.2.2.1 id, n.cell h.2.2.2.2.2.2.1 id, n.cell h.2.2.2.2.2.2.2.1 id, n.cell h.2.2.2.2.2.2.2.2.1 id, n.cell h.2.2.2.2.2.2.2.2.2.1 id, n.cell h.2.2.2.2.2.2.2.2.2.2.1 id, n.cell h.2.2.2.2.2.2.2.2.2.2.2 id⟩) ⟨by show W29.cell? _ = _; rw [cell_of HBP.out]; rfl, by show W29.cell? _ = _; rw [cell_of HBP.out]; rfl, by show W29.cell? _ = _; rw [cell_of HBP.out]; rfl, by show W29.cell? _ = _; rw [cell_of HBP.out]; rfl, by show W29.cell? _ = _; rw [cell_of HBP.out]; rfl, by show W29.cell? _ = _; rw [cell_of HBP.out]; rfl, by show W29.cell? _ = _; rw [cell_of HBJ.out]; rfl, by show W29.cell? _ = _; rw [cell_of HBJ.out]; rfl, by show W29.cell? _ = _; rw [cell_of HBJ.out]; rfl, by show W29.cell? _ = _; rw [cell_of HBJ.out]; rfl, by show W29.cell? _ = _; rw [cell_of HBQ.out]; rfl, by show W29.cell? _ = _; rw [cell_of HBQ.out]; rfl⟩ (fun HOPS HCL hHeld => ?_)
              refine wpU_named ?_
              intro W30 hW
              try rw [← hW] at hHeld
              have n : Nw W29 W30 := by rw [hW]; exact (Ch.refl _ _).drew
              replace NX := Lib.hid (NX.out.trans n)
              replace HB3 := Lib.hid (n.heap HB3.out id)
              replace HB5 := Lib.hid (n.heap HB5.out id)
              replace SZ := Nat.lt_of_lt_of_le SZ n.size
              replace HC := Lib.hid (HC.out.trans n)
              replace HIX := Lib.hid ((HIX.out.kept n nof).hi n.size)
              replace HIY := Lib.hid ((HIY.out.kept n nof).hi n.size)
              replace HBP := Lib.hid (n.heap HBP.out id)
              replace HSP := Lib.hid (n.heap HSP.out id)
              replace HC2 := Lib.hid (HC2.out.trans n)
              replace HBJ := Lib.hid (n.heap HBJ.out id)
              replace HSQ := Lib.hid (n.heap HSQ.out id)
              replace HC3 := Lib.hid (HC3.out.trans n)
              replace HBQ := Lib.hid (n.heap HBQ.out id)
              clear hW n
              first | (refine wpU_takeB (i := 0) (v := ?_) HOPS rfl (by kernel_rfl) (fun _ _ _ h => h) HCL (goes_read (by rfl) ?hy) ?_; case hy => (intro w hSw; (try dsimp only at hSw); go_simp; (try with_reducible rfl))) | (refine wpU_takeB (i := 0) (v := _) HOPS rfl (by kernel_rfl) (fun _ _ _ h => h) HCL (goes_not (by rfl)) ?_)
              try simp only [Act.put, List.getElem_toArray, List.getElem_cons_succ, List.getElem_cons_zero, List.setIfInBounds_toArray, List.set_cons_zero, List.set_cons_succ]
              first | (refine wpU_takeB (i := 1) (v := ?_) HOPS rfl (by kernel_rfl) (fun _ _ _ h => h) HCL (goes_read (by rfl) ?hy) ?_; case hy => (intro w hSw; (try dsimp only at hSw); go_simp; (try with_reducible rfl))) | (refine wpU_takeB (i := 1) (v := _) HOPS rfl (by kernel_rfl) (fun _ _ _ h => h) HCL (goes_not (by rfl)) ?_)
              try simp only [Act.put, List.getElem_toArray, List.getElem_cons_succ, List.getElem_cons_zero, List.setIfInBounds_toArray, List.set_cons_zero, List.set_cons_succ]
              first | (refine wpU_takeB (i := 2) (v := ?_) HOPS rfl (by kernel_rfl) (fun _ _ _ h => h) HCL (goes_read (by rfl) ?hy) ?_; case hy => (intro w hSw; (try dsimp only at hSw); go_simp; (try with_reducible rfl))) | (refine wpU_takeB (i := 2) (v := _) HOPS rfl (by kernel_rfl) (fun _ _ _ h => h) HCL (goes_not (by rfl)) ?_)
              try simp only [Act.put, List.getElem_toArray, List.getElem_cons_succ, List.getElem_cons_zero, List.setIfInBounds_toArray, List.set_cons_zero, List.set_cons_succ]
              first | (refine wpU_takeB (i := 3) (v := ?_) HOPS rfl (by kernel_rfl) (fun _ _ _ h => h) HCL (goes_read (by rfl) ?hy) ?_; case hy => (intro w hSw; (try dsimp only at hSw); go_simp; (try with_reducible rfl))) | (refine wpU_takeB (i := 3) (v := _) HOPS rfl (by kernel_rfl) (fun _ _ _ h => h) HCL (goes_not (by rfl)) ?_)
              try simp only [Act.put, List.getElem_toArray, List.getElem_cons_succ, List.getElem_cons_zero, List.setIfInBounds_toArray, List.set_cons_zero, List.set_cons_succ]
              first | (refine wpU_takeB (i := 4) (v := ?_) HOPS rfl (by kernel_rfl) (fun _ _ _ h => h) HCL (goes_read (by rfl) ?hy) ?_; case hy => (intro w hSw; (try dsimp only at hSw); go_simp; (try with_reducible rfl))) | (refine wpU_takeB (i := 4) (v := _) HOPS rfl (by kernel_rfl) (fun _ _ _ h => h) HCL (goes_not (by rfl)) ?_)
              try simp only [Act.put, List.getElem_toArray, List.getElem_cons_succ, List.getElem_cons_zero, List.setIfInBounds_toArray, List.set_cons_zero, List.set_cons_succ]
              first | (refine wpU_takeB (i := 5) (v := ?_) HOPS rfl (by kernel_rfl) (fun _ _ _ h => h) HCL (goes_read (by rfl) ?hy) ?_; case hy => (intro w hSw; (try dsimp only at hSw); go_simp; (try with_reducible rfl))) | (refine wpU_takeB (i := 5) (v := _) HOPS rfl (by kernel_rfl) (fun _ _ _ h => h) HCL (goes_not (by rfl)) ?_)
              try simp only [Act.put, List.getElem_toArray, List.getElem_cons_succ, List.getElem_cons_zero, List.setIfInBounds_toArray, List.set_cons_zero, List.set_cons_succ]
              first | (refine wpU_takeB (i := 6) (v := ?_) HOPS rfl (by kernel_rfl) (fun _ _ _ h => h) HCL (goes_read (by rfl) ?hy) ?_; case hy => (intro w hSw; (try dsimp only at hSw); go_simp; (try with_reducible rfl))) | (refine wpU_takeB (i := 6) (v := _) HOPS rfl (by kernel_rfl) (fun _ _ _ h => h) HCL (goes_not (by rfl)) ?_)
              try simp only [Act.put, List.getElem_toArray, List.getElem_cons_succ, List.getElem_cons_zero, List.setIfInBounds_toArray, List.set_cons_zero, List.set_cons_succ]
              first | (refine wpU_takeB (i := 7) (v := ?_) HOPS rfl (by kernel_rfl) (fun _ _ _ h => h) HCL (goes_read (by rfl) ?hy) ?_; case hy => (intro w hSw; (try dsimp only at hSw); go_simp; (try with_reducible rfl))) | (refine wpU_takeB (i := 7) (v := _) HOPS rfl (by kernel_rfl) (fun _ _ _ h => h) HCL (goes_not (by rfl)) ?_)
              try simp only [Act.put, List.getElem_toArray, List.getElem_cons_succ, List.getElem_cons_zero, List.setIfInBounds_toArray, List.set_cons_zero, List.set_cons_succ]
              first | (refine wpU_takeB (i := 8) (v := ?_) HOPS rfl (by kernel_rfl) (fun _ _ _ h => h) HCL (goes_read (by rfl) ?hy) ?_; case hy => (intro w hSw; (try dsimp only at hSw); go_simp; (try with_reducible rfl))) | (refine wpU_takeB (i := 8) (v := _) HOPS rfl (by kernel_rfl) (fun _ _ _ h => h) HCL (goes_not (by rfl)) ?_)
              try simp only [Act.put, List.getElem_toArray, List.getElem_cons_succ, List.getElem_cons_zero, List.setIfInBounds_toArray, List.set_cons_zero, List.set_cons_succ]
              first | (refine wpU_takeB (i := 9) (v := ?_) HOPS rfl (by kernel_rfl) (fun _ _ _ h => h) HCL (goes_read (by rfl) ?hy) ?_; case hy => (intro w hSw; (try dsimp only at hSw); go_simp; (try with_reducible rfl))) | (refine wpU_takeB (i := 9) (v := _) HOPS rfl (by kernel_rfl) (fun _ _ _ h => h) HCL (goes_not (by rfl)) ?_)
              try simp only [Act.put, List.getElem_toArray, List.getElem_cons_succ, List.getElem_cons_zero, List.setIfInBounds_toArray, List.set_cons_zero, List.set_cons_succ]
              first | (refine wpU_takeB (i := 10) (v := ?_) HOPS rfl (by kernel_rfl) (fun _ _ _ h => h) HCL (goes_read (by rfl) ?hy) ?_; case hy => (intro w hSw; (try dsimp only at hSw); go_simp; (try with_reducible rfl))) | (refine wpU_takeB (i := 10) (v := _) HOPS rfl (by kernel_rfl) (fun _ _ _ h => h) HCL (goes_not (by rfl)) ?_)
              try simp only [Act.put, List.getElem_toArray, List.getElem_cons_succ, List.getElem_cons_zero, List.setIfInBounds_toArray, List.set_cons_zero, List.set_cons_succ]
              first | (refine wpU_takeB (i := 11) (v := ?_) HOPS rfl (by kernel_rfl) (fun _ _ _ h => h) HCL (goes_read (by rfl) ?hy) ?_; case hy => (intro w hSw; (try dsimp only at hSw); go_simp; (try with_reducible rfl))) | (refine wpU_takeB (i := 11) (v := _) HOPS rfl (by kernel_rfl) (fun _ _ _ h => h) HCL (goes_not (by rfl)) ?_)
              try simp only [Act.put, List.getElem_toArray, List.getElem_cons_succ, List.getElem_cons_zero, List.setIfInBounds_toArray, List.set_cons_zero, List.set_cons_succ]
              first | (refine wpU_takeB (i := 13) (v := ?_) HOPS rfl (by kernel_rfl) (fun _ _ _ h => h) HCL (goes_read (by rfl) ?hy) ?_; case hy => (intro w hSw; (try dsimp only at hSw); go_simp; (try with_reducible rfl))) | (refine wpU_takeB (i := 13) (v := _) HOPS rfl (by kernel_rfl) (fun _ _ _ h => h) HCL (goes_not (by rfl)) ?_)
              try simp only [Act.put, List.getElem_toArray, List.getElem_cons_succ, List.getElem_cons_zero, List.setIfInBounds_toArray, List.set_cons_zero, List.set_cons_succ]
              first | (refine wpU_takeB (i := 14) (v := ?_) HOPS rfl (by kernel_rfl) (fun _ _ _ h => h) HCL (goes_read (by rfl) ?hy) ?_; case hy => (intro w hSw; (try dsimp only at hSw); go_simp; (try with_reducible rfl))) | (refine wpU_takeB (i := 14) (v := _) HOPS rfl (by kernel_rfl) (fun _ _ _ h => h) HCL (goes_not (by rfl)) ?_)
              try simp only [Act.put, List.getElem_toArray, List.getElem_cons_succ, List.getElem_cons_zero, List.setIfInBounds_toArray, List.set_cons_zero, List.set_cons_succ]
              first | (refine wpU_takeB (i := 15) (v := ?_) HOPS rfl (by kernel_rfl) (fun _ _ _ h => h) HCL (goes_read (by rfl) ?hy) ?_; case hy => (intro w hSw; (try dsimp only at hSw); go_simp; (try with_reducible rfl))) | (refine wpU_takeB (i := 15) (v := _) HOPS rfl (by kernel_rfl) (fun _ _ _ h => h) HCL (goes_not (by rfl)) ?_)
              try simp only [Act.put, List.getElem_toArray, List.getElem_cons_succ, List.getElem_cons_zero, List.setIfInBounds_toArray, List.set_cons_zero, List.set_cons_succ]
              first | (refine wpU_takeB (i := 16) (v := ?_) HOPS rfl (by kernel_rfl) (fun _ _ _ h => h) HCL (goes_read (by rfl) ?hy) ?_; case hy => (intro w hSw; (try dsimp only at hSw); go_simp; (try with_reducible rfl))) | (refine wpU_takeB (i := 16) (v := _) HOPS rfl (by kernel_rfl) (fun _ _ _ h => h) HCL (goes_not (by rfl)) ?_)
              try simp only [Act.put, List.getElem_toArray, List.getElem_cons_succ, List.getElem_cons_zero, List.setIfInBounds_toArray, List.set_cons_zero, List.set_cons_succ]
              first | (refine wpU_takeB (i := 17) (v := ?_) HOPS rfl (by kernel_rfl) (fun _ _ _ h => h) HCL (goes_read (by rfl) ?hy) ?_; case hy => (intro w hSw; (try dsimp only at hSw); go_simp; (try with_reducible rfl))) | (refine wpU_takeB (i := 17) (v := _) HOPS rfl (by kernel_rfl) (fun _ _ _ h => h) HCL (goes_not (by rfl)) ?_)
              try simp only [Act.put, List.getElem_toArray, List.getElem_cons_succ, List.getElem_cons_zero, List.setIfInBounds_toArray, List.set_cons_zero, List.set_cons_succ]
              first | (refine wpU_takeB (i := 18) (v := ?_) HOPS rfl (by kernel_rfl) (fun _ _ _ h => h) HCL (goes_read (by rfl) ?hy) ?_; case hy => (intro w hSw; (try dsimp only at hSw); go_simp; (try with_reducible rfl))) | (refine wpU_takeB (i := 18) (v := _) HOPS rfl (by kernel_rfl) (fun _ _ _ h => h) HCL (goes_not (by rfl)) ?_)
              try simp only [Act.put, List.getElem_toArray, List.getElem_cons_succ, List.getElem_cons_zero, List.setIfInBounds_toArray, List.set_cons_zero, List.set_cons_succ]
              first | (refine wpU_takeB (i := 19) (v := ?_) HOPS rfl (by kernel_rfl) (fun _ _ _ h => h) HCL (goes_read (by rfl) ?hy) ?_; case hy => (intro w hSw; (try dsimp only at hSw); go_simp; (try with_reducible rfl))) | (refine wpU_takeB (i := 19) (v := _) HOPS rfl (by kernel_rfl) (fun _ _ _ h => h) HCL (goes_not (by rfl)) ?_)
              try simp only [Act.put, List.getElem_toArray, List.getElem_cons_succ, List.getElem_cons_zero, List.setIfInBounds_toArray, List.set_cons_zero, List.set_cons_succ]
              first | (refine wpU_takeB (i := 20) (v := ?_) HOPS rfl (by kernel_rfl) (fun _ _ _ h => h) HCL (goes_read (by rfl) ?hy) ?_; case hy => (intro w hSw; (try dsimp only at hSw); go_simp; (try with_reducible rfl))) | (refine wpU_takeB (i := 20) (v := _) HOPS rfl (by kernel_rfl) (fun _ _ _ h => h) HCL (goes_not (by rfl)) ?_)
              try simp only [Act.put, List.getElem_toArray, List.getElem_cons_succ, List.getElem_cons_zero, List.setIfInBounds_toArray, List.set_cons_zero, List.set_cons_succ]
              first | (refine wpU_takeB (i := 21) (v := ?_) HOPS rfl (by kernel_rfl) (fun _ _ _ h => h) HCL (goes_read (by rfl) ?hy) ?_; case hy => (intro w hSw; (try dsimp only at hSw); go_simp; (try with_reducible rfl))) | (refine wpU_takeB (i := 21) (v := _) HOPS rfl (by kernel_rfl) (fun _ _ _ h => h) HCL (goes_not (by rfl)) ?_)
              try simp only [Act.put, List.getElem_toArray, List.getElem_cons_succ, List.getElem_cons_zero, List.setIfInBounds_toArray, List.set_cons_zero, List.set_cons_succ]
              first | (refine wpU_takeB (i := 22) (v := ?_) HOPS rfl (by kernel_rfl) (fun _ _ _ h => h) HCL (goes_read (by rfl) ?hy) ?_; case hy => (intro w hSw; (try dsimp only at hSw); go_simp; (try with_reducible rfl))) | (refine wpU_takeB (i := 22) (v := _) HOPS rfl (by kernel_rfl) (fun _ _ _ h => h) HCL (goes_not (by rfl)) ?_)
              try simp only [Act.put, List.getElem_toArray, List.getElem_cons_succ, List.getElem_cons_zero, List.setIfInBounds_toArray, List.set_cons_zero, List.set_cons_succ]
              first | (refine wpU_takeB (i := 23) (v := ?_) HOPS rfl (by kernel_rfl) (fun _ _ _ h => h) HCL (goes_read (by rfl) ?hy) ?_; case hy => (intro w hSw; (try dsimp only at hSw); go_simp; (try with_reducible rfl))) | (refine wpU_takeB (i := 23) (v := _) HOPS rfl (by kernel_rfl) (fun _ _ _ h => h) HCL (goes_not (by rfl)) ?_)
              try simp only [Act.put, List.getElem_toArray, List.getElem_cons_succ, List.getElem_cons_zero, List.setIfInBounds_toArray, List.set_cons_zero, List.set_cons_succ]
              first | (refine wpU_takeB (i := 24) (v := ?_) HOPS rfl (by kernel_rfl) (fun _ _ _ h => h) HCL (goes_read (by rfl) ?hy) ?_; case hy => (intro w hSw; (try dsimp only at hSw); go_simp; (try with_reducible rfl))) | (refine wpU_takeB (i := 24) (v := _) HOPS rfl (by kernel_rfl) (fun _ _ _ h => h) HCL (goes_not (by rfl)) ?_)
              try simp only [Act.put, List.getElem_toArray, List.getElem_cons_succ, List.getElem_cons_zero, List.setIfInBounds_toArray, List.set_cons_zero, List.set_cons_succ]
              refine wpU_takeB (i := 12) HOPS rfl (by kernel_rfl) (fun _ _ _ h => h) HCL (goes_fn (v := (.int .i64 (cntD (xW, xH, xl) (onlyP (validB (yW, yH, yl)) p0 p1 r0 r1)))) 16 _ _ _ #[(.agg #[.int .i64 xW, .int .i64 xH, .slice AX xl.length cX]), (.agg #[.int .i64 yW, .int .i64 yH, .slice AY yl.length cY]), .int .i64 p0, .int .i64 p1, .int .i64 r0, .int .i64 r1] (by rfl) rfl (by kernel_rfl) (by kernel_rfl) (by kernel_rfl) (fun wq n R hR => ?_)) ?_
              · exact Only_any W30.heap.size _ _ (xW, xH, xl) (yW, yH, yl) p0 p1 r0 r1 _ _ (HIX.out.kept n nof) (HIY.out.kept n nof) n.size (by show _ ≤ 1000000000; simp only; omega) hR
              try simp only [Act.put, List.getElem_toArray, List.getElem_cons_succ, List.getElem_cons_zero, List.setIfInBounds_toArray, List.set_cons_zero, List.set_cons_succ]
              refine wpU_takeB (i := 25) HOPS rfl (by kernel_rfl) (fun _ _ _ h => h) HCL (goes_fn (v := (.int .i64 (cntD (xW, xH, xl) (onlyP (validB (yW, yH, yl)) p0 p1 r0 r1)))) 17 _ _ _ #[(.agg #[.int .i64 xW, .int .i64 xH, .slice AX xl.length cX]), (.agg #[.int .i64 yW, .int .i64 yH, .slice AY yl.length cY]), .int .i64 p0, .int .i64 p1, .int .i64 r0, .int .i64 r1] (by rfl) rfl (by kernel_rfl) (by kernel_rfl) (by kernel_rfl) (fun wq n R hR => ?_)) ?_
              · exact rOnly_any W30.heap.size _ _ (xW, xH, xl) (yW, yH, yl) p0 p1 r0 r1 _ _ (HIX.out.kept n nof) (HIY.out.kept n nof) n.size (by show _ ≤ 1000000000; simp only; omega) hR
              try simp only [Act.put, List.getElem_toArray, List.getElem_cons_succ, List.getElem_cons_zero, List.setIfInBounds_toArray, List.set_cons_zero, List.set_cons_succ]
              first | (refine wpU_takeB (i := 26) (v := ?_) HOPS rfl (by kernel_rfl) (fun _ _ _ h => h) HCL (goes_read (by rfl) ?hy) ?_; case hy => (intro w hSw; (try dsimp only at hSw); go_simp; (try with_reducible rfl))) | (refine wpU_takeB (i := 26) (v := _) HOPS rfl (by kernel_rfl) (fun _ _ _ h => h) HCL (goes_not (by rfl)) ?_)
              try simp only [Act.put, List.getElem_toArray, List.getElem_cons_succ, List.getElem_cons_zero, List.setIfInBounds_toArray, List.set_cons_zero, List.set_cons_succ]
              refine wpU_done (by kernel_rfl) (fun w31 hle => ?_) _
              have n := (hle.ahead (by kernel_rfl)).1
              replace NX := Lib.hid (NX.out.trans n)
              replace HB3 := Lib.hid (n.heap HB3.out id)
              replace HB5 := Lib.hid (n.heap HB5.out id)
              replace SZ := Nat.lt_of_lt_of_le SZ n.size
              replace HC := Lib.hid (HC.out.trans n)
              replace HIX := Lib.hid ((HIX.out.kept n nof).hi n.size)
              replace HIY := Lib.hid ((HIY.out.kept n nof).hi n.size)
              replace HBP := Lib.hid (n.heap HBP.out id)
              replace HSP := Lib.hid (n.heap HSP.out id)
              replace HC2 := Lib.hid (HC2.out.trans n)
              replace HBJ := Lib.hid (n.heap HBJ.out id)
              replace HSQ := Lib.hid (n.heap HSQ.out id)
              replace HC3 := Lib.hid (HC3.out.trans n)
              replace HBQ := Lib.hid (n.heap HBQ.out id)
              clear n
              clear HOPS HCL hle
              repeat clear hHeld
              clear t0 t1
              go_wp2_with fail
              refine ⟨⟨m + 1, by go_num, by omega, Lib.hid HC3.out⟩, ?_⟩
              simp [intOf]; omega
            · obtain rfl : m = 3 := by omega
              go_wp2_with fail
              refine ⟨⟨j + 1, by go_num, by omega, Lib.hid HC2.out⟩, ?_⟩
              simp [intOf]; omega
        · obtain rfl : j = 2 := by omega
          go_wp2_with fail
          refine ⟨⟨k + 1, by go_num, by omega, Lib.hid HC.out⟩, ?_⟩
          simp [intOf]; omega
    · obtain rfl : k = 5 := by omega
      go_wp2_with fail
      exact ret_b (HR.out _ NX.out) (by simp)
end Go.Proofs.YtaafmgkjfmngjaaDoor
