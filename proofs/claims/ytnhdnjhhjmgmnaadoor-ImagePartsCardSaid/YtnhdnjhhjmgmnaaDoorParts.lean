/-
  The contract of the law ImageParts: it returns true.
-/
import Derived.Test.YtnhdnjhhjmgmnaaDoorSan22
import Derived.Test.YtnhdnjhhjmgmnaaDoorImK
import Derived.Test.YtnhdnjhhjmgmnaaDoorImO
import Derived.Test.YtnhdnjhhjmgmnaaDoorBOdd
import Derived.Test.YtnhdnjhhjmgmnaaDoorImT
import Derived.Test.YtnhdnjhhjmgmnaaDoorLawLib
import Derived.Test.YtnhdnjhhjmgmnaaDoorFew
import Derived.Test.YtnhdnjhhjmgmnaaDoorSlc
import Derived.Test.YtnhdnjhhjmgmnaaDoorRegU
namespace Go.Proofs.YtnhdnjhhjmgmnaaDoor
open Go.RowKit
set_option linter.unusedVariables false
set_option linter.unusedSimpArgs false
set_option maxRecDepth 100000

set_option maxHeartbeats 16000000 in
theorem parts_any (lo : Nat) (va vb : Value) (la lb : List Int) (vr : Value) (xr : Im) (q0 q1 q2 q3 : Int) (w : World) (R : Ending → World → Prop) (hlo : lo ≤ w.heap.size) (hla : IsInts w lo va la) (hlb : IsInts w lo vb lb)
    (hxr : IsIm w lo vr xr) (hq : ∀ x ∈ [q0, q1, q2, q3], wfI x) (hrn : RunesOk w) (hmx : MaxOk w)
    (hR : ∀ w', Nw w w' → R (.returned (.bool true)) w') : Calls Tryd.prog 3 #[.agg #[va, vb], vr, .agg #[.int .i64 q0, .int .i64 q1, .int .i64 q2, .int .i64 q3]] w R := by
  have HR := Lib.hid hR
  clear hR
  have HLA := Lib.hid (hla.hi hlo)
  have HLB := Lib.hid (hlb.hi hlo)
  have HXR := Lib.hid (hxr.hi hlo)
  have Q0 := Lib.hid (hq q0 (by simp))
  have Q1 := Lib.hid (hq q1 (by simp))
  have Q2 := Lib.hid (hq q2 (by simp))
  have Q3 := Lib.hid (hq q3 (by simp))
  clear hq
  obtain ⟨A0, c0, rfl, -⟩ := hla
  obtain ⟨A1, c1, rfl, -⟩ := hlb
  obtain ⟨AR, cR, rfl, -⟩ := isIm_form hxr
  have HWR := Lib.hid (show wfI xr.1 ∧ wfI xr.2.1 from by obtain ⟨s, -, -, h⟩ := HXR.out; exact h)
  obtain ⟨xrW, xrH, xrl⟩ := xr
  simp only at HXR HWR ⊢
  have NX := Lib.hid (Ch.refl (fun _ => False) w)
  have RN := Lib.hid hrn
  have MX := Lib.hid hmx
  have hr0 := hrn.lt
  have hm0 := hmx.lt
  clear hrn hmx hxr
  go_enter Tryd.func3, Tryd.ntmps3
  go_wp2_with (go_at_call 6; fail)
  refine Calls_nm ?_
  intro W1 hW
  have n : Nw w W1 := by rw [hW]; exact (((Ch.refl _ _).alloc _).alloc _).alloc _
  replace NX := Lib.hid (NX.out.trans n)
  replace RN := Lib.hid (RN.out.kept n id)
  replace MX := Lib.hid (MX.out.kept n id)
  replace HLA := Lib.hid (HLA.out.kept n nof)
  replace HLB := Lib.hid (HLB.out.kept n nof)
  replace HXR := Lib.hid (HXR.out.kept n nof)
  have HB0 := Lib.hid (show W1.heap[w.heap.size]? = some (.cells #[.slice A0 la.length c0, .slice A1 lb.length c1] 23 (0, 0)) from by rw [hW]; exact heap_alloc_old' _ (heap_alloc_old' _ (heap_alloc_eq _ rfl)))
  have HB4 := Lib.hid (show W1.heap[w.heap.size + 1]? = some (.cells #[.int .i64 xrW, .int .i64 xrH, .slice AR xrl.length cR] 25 (0, 0)) from by rw [hW]; exact heap_alloc_old' _ (heap_alloc_eq _ (by simp only [alloc_size])))
  have HB5 := Lib.hid (show W1.heap[w.heap.size + 2]? = some (.cells #[.int .i64 q0, .int .i64 q1, .int .i64 q2, .int .i64 q3] 26 (0, 0)) from by rw [hW]; exact heap_alloc_eq _ (by simp only [alloc_size]))
  clear hW n
  have SZ : w.heap.size + 2 < W1.heap.size := lt_of_heap HB5.out
  refine sanity_any _ _ RN.out MX.out ?_
  intro w2 n
  replace NX := Lib.hid (NX.out.trans n)
  replace RN := Lib.hid (RN.out.kept n id)
  replace MX := Lib.hid (MX.out.kept n id)
  replace HLA := Lib.hid (HLA.out.kept n nof)
  replace HLB := Lib.hid (HLB.out.kept n nof)
  replace HXR := Lib.hid (HXR.out.kept n nof)
  replace HB0 := Lib.hid (n.heap HB0.out id)
  replace HB4 := Lib.hid (n.heap HB4.out id)
  replace HB5 := Lib.hid (n.heap HB5.out id)
  replace SZ := Nat.lt_of_lt_of_le SZ n.size
  clear n
  have kHB40 : w2.cell? ⟨w.heap.size + 1, 0, none⟩ = some (.int .i64 xrW) := by rw [cell_of HB4.out]; rfl
  have jHB40 : ∀ o, (w2.alloc o).cell? ⟨w.heap.size + 1, 0, none⟩ = some (.int .i64 xrW) := fun o => cell_alloc_old o kHB40
  have kHB41 : w2.cell? ⟨w.heap.size + 1, 1, none⟩ = some (.int .i64 xrH) := by rw [cell_of HB4.out]; rfl
  have jHB41 : ∀ o, (w2.alloc o).cell? ⟨w.heap.size + 1, 1, none⟩ = some (.int .i64 xrH) := fun o => cell_alloc_old o kHB41
  have kHB42 : w2.cell? ⟨w.heap.size + 1, 2, none⟩ = some (.slice AR xrl.length cR) := by rw [cell_of HB4.out]; rfl
  have jHB42 : ∀ o, (w2.alloc o).cell? ⟨w.heap.size + 1, 2, none⟩ = some (.slice AR xrl.length cR) := fun o => cell_alloc_old o kHB42
  go_wp2_with (go_at_call 6; fail)
  clear kHB40 jHB40 kHB41 jHB41 kHB42 jHB42
  refine Calls_nm ?_
  intro W3 hW
  have n : Nw w2 W3 := by rw [hW]; first | exact Ch.refl _ _ | exact (Ch.refl _ _).alloc _ | exact ((Ch.refl _ _).alloc _).alloc _
  replace NX := Lib.hid (NX.out.trans n)
  replace RN := Lib.hid (RN.out.kept n id)
  replace MX := Lib.hid (MX.out.kept n id)
  replace HLA := Lib.hid (HLA.out.kept n nof)
  replace HLB := Lib.hid (HLB.out.kept n nof)
  replace HXR := Lib.hid (HXR.out.kept n nof)
  replace HB0 := Lib.hid (n.heap HB0.out id)
  replace HB4 := Lib.hid (n.heap HB4.out id)
  replace HB5 := Lib.hid (n.heap HB5.out id)
  replace SZ := Nat.lt_of_lt_of_le SZ n.size
  clear hW n
  refine few_lo w.heap.size _ (xrW, xrH, xrl) _ _ HXR.out ?_
  intro w4 v hi n
  replace NX := Lib.hid (NX.out.trans n)
  replace RN := Lib.hid (RN.out.kept n id)
  replace MX := Lib.hid (MX.out.kept n id)
  replace HLA := Lib.hid (HLA.out.kept n nof)
  replace HLB := Lib.hid (HLB.out.kept n nof)
  replace HXR := Lib.hid (HXR.out.kept n nof)
  replace HB0 := Lib.hid (n.heap HB0.out id)
  replace HB4 := Lib.hid (n.heap HB4.out id)
  replace HB5 := Lib.hid (n.heap HB5.out id)
  replace SZ := Nat.lt_of_lt_of_le SZ n.size
  simp only at hi
  obtain ⟨rl, hrl⟩ : ∃ l, xrl.take 400 = l := ⟨_, rfl⟩
  rw [hrl] at hi
  have hr4 : rl.length ≤ 400 := by rw [← hrl, List.length_take]; omega
  clear hrl
  obtain ⟨AF, cF, rfl, hI⟩ := isIm_formN (n := rl.length) hi rfl rfl rfl
  have HIR := Lib.hid hI
  clear hi hI n
  have k40 : w4.cell? ⟨w.heap.size + 1, 0, none⟩ = some (.int .i64 xrW) := by rw [cell_of HB4.out]; rfl
  have k41 : w4.cell? ⟨w.heap.size + 1, 1, none⟩ = some (.int .i64 xrH) := by rw [cell_of HB4.out]; rfl
  have k42 : w4.cell? ⟨w.heap.size + 1, 2, none⟩ = some (.slice AR xrl.length cR) := by rw [cell_of HB4.out]; rfl
  have f40 : w4.frozen? ⟨w.heap.size + 1, 0, none⟩ = false := frozen_of HB4.out
  have f41 : w4.frozen? ⟨w.heap.size + 1, 1, none⟩ = false := frozen_of HB4.out
  have f42 : w4.frozen? ⟨w.heap.size + 1, 2, none⟩ = false := frozen_of HB4.out
  go_upto_region 3 with (fail)
  clear k40 k41 k42 f40 f41 f42
  refine wp_named ?_
  intro W5 hW
  have cs : Ch (· = w.heap.size + 1) w4 W5 := by rw [hW]; exact (((Ch.refl (· = w.heap.size + 1) w4).setb (fun _ => rfl) _).setb (fun _ => rfl) _).setb (fun _ => rfl) _
  have HB4n := Lib.hid (show W5.heap[w.heap.size + 1]? = some (.cells #[.int .i64 xrW, .int .i64 xrH, .slice AF rl.length cF] 25 (0, 0)) from by rw [hW]; exact heap_setCell_eq _ (heap_setCell_eq _ (heap_setCell_eq _ HB4.out)))
  clear hW
  replace NX := Lib.hid (NX.out.trans' cs (fun j hj e => by have e' : j = w.heap.size + 1 := e; omega))
  replace RN := Lib.hid (RN.out.kept cs (by show 0 ≠ w.heap.size + 1; omega))
  replace MX := Lib.hid (MX.out.kept cs (by show 1 ≠ w.heap.size + 1; omega))
  replace HLA := Lib.hid (HLA.out.kept cs (fun j hj e => by have e' : j = w.heap.size + 1 := e; omega))
  replace HLB := Lib.hid (HLB.out.kept cs (fun j hj e => by have e' : j = w.heap.size + 1 := e; omega))
  replace HXR := Lib.hid (HXR.out.kept cs (fun j hj e => by have e' : j = w.heap.size + 1 := e; omega))
  replace HB0 := Lib.hid (cs.heap HB0.out (by show w.heap.size ≠ w.heap.size + 1; omega))
  replace HB4 := Lib.hid (HB4n.out)
  replace HB5 := Lib.hid (cs.heap HB5.out (by show w.heap.size + 2 ≠ w.heap.size + 1; omega))
  replace SZ := Nat.lt_of_lt_of_le SZ cs.size
  replace HIR := Lib.hid (HIR.out.kept cs (fun j hj e => by have e' : j = w.heap.size + 1 := e; omega))
  clear HB4n cs
  have kHB00 : W5.cell? ⟨w.heap.size, 0, none⟩ = some (.slice A0 la.length c0) := by rw [cell_of HB0.out]; rfl
  have jHB00 : ∀ o, (W5.alloc o).cell? ⟨w.heap.size, 0, none⟩ = some (.slice A0 la.length c0) := fun o => cell_alloc_old o kHB00
  have kHB01 : W5.cell? ⟨w.heap.size, 1, none⟩ = some (.slice A1 lb.length c1) := by rw [cell_of HB0.out]; rfl
  have jHB01 : ∀ o, (W5.alloc o).cell? ⟨w.heap.size, 1, none⟩ = some (.slice A1 lb.length c1) := fun o => cell_alloc_old o kHB01
  go_wp2_with (go_at_call 6; fail)
  clear kHB00 jHB00 kHB01 jHB01
  refine Calls_nm ?_
  intro W6 hW
  have n : Nw W5 W6 := by rw [hW]; first | exact Ch.refl _ _ | exact (Ch.refl _ _).alloc _ | exact ((Ch.refl _ _).alloc _).alloc _
  replace NX := Lib.hid (NX.out.trans n)
  replace RN := Lib.hid (RN.out.kept n id)
  replace MX := Lib.hid (MX.out.kept n id)
  replace HLA := Lib.hid (HLA.out.kept n nof)
  replace HLB := Lib.hid (HLB.out.kept n nof)
  replace HXR := Lib.hid (HXR.out.kept n nof)
  replace HB0 := Lib.hid (n.heap HB0.out id)
  replace HB4 := Lib.hid (n.heap HB4.out id)
  replace HB5 := Lib.hid (n.heap HB5.out id)
  replace SZ := Nat.lt_of_lt_of_le SZ n.size
  replace HIR := Lib.hid (HIR.out.kept n nof)
  clear hW n
  refine rMade4_any w.heap.size _ la _ _ HLA.out (by omega) ?_
  intro w7 vb bb hb hbE hb1 hb2 n hvb
  replace NX := Lib.hid (NX.out.trans n)
  replace RN := Lib.hid (RN.out.kept n id)
  replace MX := Lib.hid (MX.out.kept n id)
  replace HLA := Lib.hid (HLA.out.kept n nof)
  replace HLB := Lib.hid (HLB.out.kept n nof)
  replace HXR := Lib.hid (HXR.out.kept n nof)
  replace HB0 := Lib.hid (n.heap HB0.out id)
  replace HB4 := Lib.hid (n.heap HB4.out id)
  replace HB5 := Lib.hid (n.heap HB5.out id)
  replace SZ := Nat.lt_of_lt_of_le SZ n.size
  replace HIR := Lib.hid (HIR.out.kept n nof)
  obtain ⟨Ab, nb, rfl⟩ := hvb
  have HMb := Lib.hid hb
  have HEb := Lib.hid hbE
  obtain ⟨⟨e1, -⟩, ⟨e3, -⟩, e5⟩ := bmE_ok hbE
  have hbl : bb.2.2.length ≤ 1000 := by
    have h2 : bb.1 * bb.2.1 ≤ 16 * 12 := Int.mul_le_mul (by omega) (by omega) (by omega) (by omega)
    omega
  clear hb hbE n e5
  have kHB00 : w7.cell? ⟨w.heap.size, 0, none⟩ = some (.slice A0 la.length c0) := by rw [cell_of HB0.out]; rfl
  have jHB00 : ∀ o, (w7.alloc o).cell? ⟨w.heap.size, 0, none⟩ = some (.slice A0 la.length c0) := fun o => cell_alloc_old o kHB00
  have kHB01 : w7.cell? ⟨w.heap.size, 1, none⟩ = some (.slice A1 lb.length c1) := by rw [cell_of HB0.out]; rfl
  have jHB01 : ∀ o, (w7.alloc o).cell? ⟨w.heap.size, 1, none⟩ = some (.slice A1 lb.length c1) := fun o => cell_alloc_old o kHB01
  go_wp2_with (go_at_call 6; fail)
  clear kHB00 jHB00 kHB01 jHB01
  refine Calls_nm ?_
  intro W8 hW
  have n : Nw w7 W8 := by rw [hW]; first | exact Ch.refl _ _ | exact (Ch.refl _ _).alloc _ | exact ((Ch.refl _ _).alloc _).alloc _
  replace NX := Lib.hid (NX.out.trans n)
  replace RN := Lib.hid (RN.out.kept n id)
  replace MX := Lib.hid (MX.out.kept n id)
  replace HLA := Lib.hid (HLA.out.kept n nof)
  replace HLB := Lib.hid (HLB.out.kept n nof)
  replace HXR := Lib.hid (HXR.out.kept n nof)
  replace HB0 := Lib.hid (n.heap HB0.out id)
  replace HB4 := Lib.hid (n.heap HB4.out id)
  replace HB5 := Lib.hid (n.heap HB5.out id)
  replace SZ := Nat.lt_of_lt_of_le SZ n.size
  replace HIR := Lib.hid (HIR.out.kept n nof)
  replace HMb := Lib.hid ((HMb.out.kept n nof).hi n.size)
  have HB8 := Lib.hid (show W8.heap[w7.heap.size]? = some (.cells #[.int .i64 bb.1, .int .i64 bb.2.1, .slice (some Ab) nb nb] 31 (0, 0)) from by rw [hW]; exact heap_alloc_eq _ rfl)
  clear hW n
  refine rMade22_any W8.heap.size _ bb _ lb _ _ HMb.out HEb.out (HLB.out.hi (by omega)) (Nat.le_refl _) ?_
  intro w9 vx x hx hok hx1 hx2 n hvx
  replace NX := Lib.hid (NX.out.trans n)
  replace RN := Lib.hid (RN.out.kept n id)
  replace MX := Lib.hid (MX.out.kept n id)
  replace HLA := Lib.hid (HLA.out.kept n nof)
  replace HLB := Lib.hid (HLB.out.kept n nof)
  replace HXR := Lib.hid (HXR.out.kept n nof)
  replace HB0 := Lib.hid (n.heap HB0.out id)
  replace HB4 := Lib.hid (n.heap HB4.out id)
  replace HB5 := Lib.hid (n.heap HB5.out id)
  replace SZ := Nat.lt_of_lt_of_le SZ n.size
  replace HIR := Lib.hid (HIR.out.kept n nof)
  replace HMb := Lib.hid ((HMb.out.kept n nof).hi n.size)
  replace HB8 := Lib.hid (n.heap HB8.out id)
  obtain ⟨g9, n9, c9, rfl⟩ := hvx
  obtain ⟨xw, xh, px0⟩ := x
  simp only at hx1 hx2
  have hok2 : imOk (bb.1 + 4, bb.2.1 + 4, px0) := by rw [← hx1, ← hx2]; exact hok
  have L3 : px0.length ≤ 320 := by
    have h1 := hok2.2.2.1
    have h2 : (bb.1 + 4) * (bb.2.1 + 4) ≤ 20 * 16 := Int.mul_le_mul (by omega) (by omega) (by omega) (by omega)
    simp only at h1
    omega
  have h9 : n9 = px0.length := by obtain ⟨A, cap, e, -⟩ := isIm_form hx; simp at e; omega
  subst h9
  have HIX := Lib.hid hx
  clear hx hok hok2 n hx1 hx2
  simp only
  go_upto_region 5 with (fail)
  have qw0 : IntKind.i64.wrap (q0 % 7 - 3) = q0 % 7 - 3 := by rw [IntKind.wrap_i64]; omega
  have qw1 : IntKind.i64.wrap (q1 % 7 - 3) = q1 % 7 - 3 := by rw [IntKind.wrap_i64]; omega
  refine wp_named ?_
  intro W10 hW
  have n : Nw w9 W10 := by rw [hW]; first | exact Ch.refl _ _ | exact (Ch.refl _ _).alloc _
  replace NX := Lib.hid (NX.out.trans n)
  replace RN := Lib.hid (RN.out.kept n id)
  replace MX := Lib.hid (MX.out.kept n id)
  replace HLA := Lib.hid (HLA.out.kept n nof)
  replace HLB := Lib.hid (HLB.out.kept n nof)
  replace HXR := Lib.hid (HXR.out.kept n nof)
  replace HB0 := Lib.hid (n.heap HB0.out id)
  replace HB4 := Lib.hid (n.heap HB4.out id)
  replace HB5 := Lib.hid (n.heap HB5.out id)
  replace SZ := Nat.lt_of_lt_of_le SZ n.size
  replace HIR := Lib.hid (HIR.out.kept n nof)
  replace HMb := Lib.hid ((HMb.out.kept n nof).hi n.size)
  replace HB8 := Lib.hid (n.heap HB8.out id)
  replace HIX := Lib.hid ((HIX.out.kept n nof).hi n.size)
  have HB9 := Lib.hid (show W10.heap[w9.heap.size]? = some (.cells #[.int .i64 xw, .int .i64 xh, .slice (some ⟨g9, 0, none⟩) px0.length c9] 25 (0, 0)) from by rw [hW]; exact heap_alloc_eq _ rfl)
  clear hW n
  refine wp_region_V (F := fun w' => w'.cell? ⟨w.heap.size + 2, 0, none⟩ = some (.int .i64 q0) ∧ w'.cell? ⟨w.heap.size + 2, 1, none⟩ = some (.int .i64 q1) ∧ w'.cell? ⟨w.heap.size + 2, 2, none⟩ = some (.int .i64 q2) ∧ w'.cell? ⟨w.heap.size + 2, 3, none⟩ = some (.int .i64 q3)) (opsOf Tryd.f3 5) 10 11 (by kernel_rfl) (by kernel_rfl) (by kernel_rfl) (fun w w' h n => ⟨n.cell h.1 id, n.cell h.2.1 id, n.cell h.2.2.1 id, n.cell h.2.2.2 id⟩) ⟨by show W10.cell? _ = _; rw [cell_of HB5.out]; rfl, by show W10.cell? _ = _; rw [cell_of HB5.out]; rfl, by show W10.cell? _ = _; rw [cell_of HB5.out]; rfl, by show W10.cell? _ = _; rw [cell_of HB5.out]; rfl⟩ (fun HOPS HCL hHeld => ?_)
  refine wpU_named ?_
  intro W11 hW
  try rw [← hW] at hHeld
  have n : Nw W10 W11 := by rw [hW]; exact (Ch.refl _ _).drew
  replace NX := Lib.hid (NX.out.trans n)
  replace RN := Lib.hid (RN.out.kept n id)
  replace MX := Lib.hid (MX.out.kept n id)
  replace HLA := Lib.hid (HLA.out.kept n nof)
  replace HLB := Lib.hid (HLB.out.kept n nof)
  replace HXR := Lib.hid (HXR.out.kept n nof)
  replace HB0 := Lib.hid (n.heap HB0.out id)
  replace HB4 := Lib.hid (n.heap HB4.out id)
  replace HB5 := Lib.hid (n.heap HB5.out id)
  replace SZ := Nat.lt_of_lt_of_le SZ n.size
  replace HIR := Lib.hid (HIR.out.kept n nof)
  replace HMb := Lib.hid ((HMb.out.kept n nof).hi n.size)
  replace HB8 := Lib.hid (n.heap HB8.out id)
  replace HIX := Lib.hid ((HIX.out.kept n nof).hi n.size)
  replace HB9 := Lib.hid (n.heap HB9.out id)
  clear hW n
  first | (refine wpU_takeB (i := 0) (v := ?_) HOPS rfl (by kernel_rfl) (fun _ _ _ h => h) HCL (goes_read (by rfl) ?hy) ?_; case hy => (intro w hSw; (try dsimp only at hSw); go_simp; (try with_reducible rfl))) | (refine wpU_takeB (i := 0) (v := _) HOPS rfl (by kernel_rfl) (fun _ _ _ h => h) HCL (goes_not (by rfl)) ?_)
  try simp only [Act.put, List.getElem_toArray, List.getElem_cons_succ, List.getElem_cons_zero, List.setIfInBounds_toArray, List.set_cons_zero, List.set_cons_succ]
  first | (refine wpU_takeB (i := 1) (v := ?_) HOPS rfl (by kernel_rfl) (fun _ _ _ h => h) HCL (goes_read (by rfl) ?hy) ?_; case hy => (intro w hSw; (try dsimp only at hSw); go_simp; (try with_reducible rfl))) | (refine wpU_takeB (i := 1) (v := _) HOPS rfl (by kernel_rfl) (fun _ _ _ h => h) HCL (goes_not (by rfl)) ?_)
  try simp only [Act.put, List.getElem_toArray, List.getElem_cons_succ, List.getElem_cons_zero, List.setIfInBounds_toArray, List.set_cons_zero, List.set_cons_succ]
  first | (refine wpU_takeB (i := 4) (v := ?_) HOPS rfl (by kernel_rfl) (fun _ _ _ h => h) HCL (goes_read (by rfl) ?hy) ?_; case hy => (intro w hSw; (try dsimp only at hSw); go_simp; (try with_reducible rfl))) | (refine wpU_takeB (i := 4) (v := _) HOPS rfl (by kernel_rfl) (fun _ _ _ h => h) HCL (goes_not (by rfl)) ?_)
  try simp only [Act.put, List.getElem_toArray, List.getElem_cons_succ, List.getElem_cons_zero, List.setIfInBounds_toArray, List.set_cons_zero, List.set_cons_succ]
  first | (refine wpU_takeB (i := 5) (v := ?_) HOPS rfl (by kernel_rfl) (fun _ _ _ h => h) HCL (goes_read (by rfl) ?hy) ?_; case hy => (intro w hSw; (try dsimp only at hSw); go_simp; (try with_reducible rfl))) | (refine wpU_takeB (i := 5) (v := _) HOPS rfl (by kernel_rfl) (fun _ _ _ h => h) HCL (goes_not (by rfl)) ?_)
  try simp only [Act.put, List.getElem_toArray, List.getElem_cons_succ, List.getElem_cons_zero, List.setIfInBounds_toArray, List.set_cons_zero, List.set_cons_succ]
  refine wpU_takeB (i := 2) HOPS rfl (by kernel_rfl) (fun _ _ _ h => h) HCL (goes_fn (v := (.int .i64 (q0 % 7))) 12 _ _ _ #[.int .i64 q0, .int .i64 7] (by rfl) rfl (by kernel_rfl) (by kernel_rfl) (by kernel_rfl) (fun wq n R hR => ?_)) ?_
  · exact Mod_any _ _ _ _ Q0.out (by omega) (by omega) (hR _ (Ch.refl _ _))
  try simp only [Act.put, List.getElem_toArray, List.getElem_cons_succ, List.getElem_cons_zero, List.setIfInBounds_toArray, List.set_cons_zero, List.set_cons_succ]
  first | (refine wpU_takeB (i := 3) (v := ?_) HOPS rfl (by kernel_rfl) (fun _ _ _ h => h) HCL (goes_read (by rfl) ?hy) ?_; case hy => (intro w hSw; (try dsimp only at hSw); go_simp; (try with_reducible rfl))) | (refine wpU_takeB (i := 3) (v := _) HOPS rfl (by kernel_rfl) (fun _ _ _ h => h) HCL (goes_not (by rfl)) ?_)
  try simp only [Act.put, List.getElem_toArray, List.getElem_cons_succ, List.getElem_cons_zero, List.setIfInBounds_toArray, List.set_cons_zero, List.set_cons_succ]
  refine wpU_takeB (i := 6) HOPS rfl (by kernel_rfl) (fun _ _ _ h => h) HCL (goes_fn (v := (.int .i64 (q1 % 7))) 12 _ _ _ #[.int .i64 q1, .int .i64 7] (by rfl) rfl (by kernel_rfl) (by kernel_rfl) (by kernel_rfl) (fun wq n R hR => ?_)) ?_
  · exact Mod_any _ _ _ _ Q1.out (by omega) (by omega) (hR _ (Ch.refl _ _))
  try simp only [Act.put, List.getElem_toArray, List.getElem_cons_succ, List.getElem_cons_zero, List.setIfInBounds_toArray, List.set_cons_zero, List.set_cons_succ]
  first | (refine wpU_takeB (i := 7) (v := ?_) HOPS rfl (by kernel_rfl) (fun _ _ _ h => h) HCL (goes_read (by rfl) ?hy) ?_; case hy => (intro w hSw; (try dsimp only at hSw); go_simp; (try with_reducible rfl))) | (refine wpU_takeB (i := 7) (v := _) HOPS rfl (by kernel_rfl) (fun _ _ _ h => h) HCL (goes_not (by rfl)) ?_)
  try simp only [Act.put, List.getElem_toArray, List.getElem_cons_succ, List.getElem_cons_zero, List.setIfInBounds_toArray, List.set_cons_zero, List.set_cons_succ]
  first | (refine wpU_takeB (i := 8) (v := ?_) HOPS rfl (by kernel_rfl) (fun _ _ _ h => h) HCL (goes_read (by rfl) ?hy) ?_; case hy => (intro w hSw; (try dsimp only at hSw); go_simp; (try with_reducible rfl))) | (refine wpU_takeB (i := 8) (v := _) HOPS rfl (by kernel_rfl) (fun _ _ _ h => h) HCL (goes_not (by rfl)) ?_)
  try simp only [Act.put, List.getElem_toArray, List.getElem_cons_succ, List.getElem_cons_zero, List.setIfInBounds_toArray, List.set_cons_zero, List.set_cons_succ]
  refine wpU_ready (rs := [9]) (by kernel_rfl) (by simp) ?_
  intro w12 hle
  obtain ⟨n, hHeld⟩ := hle.ahead (by kernel_rfl)
  clear hle
  replace NX := Lib.hid (NX.out.trans n)
  replace RN := Lib.hid (RN.out.kept n id)
  replace MX := Lib.hid (MX.out.kept n id)
  replace HLA := Lib.hid (HLA.out.kept n nof)
  replace HLB := Lib.hid (HLB.out.kept n nof)
  replace HXR := Lib.hid (HXR.out.kept n nof)
  replace HB0 := Lib.hid (n.heap HB0.out id)
  replace HB4 := Lib.hid (n.heap HB4.out id)
  replace HB5 := Lib.hid (n.heap HB5.out id)
  replace SZ := Nat.lt_of_lt_of_le SZ n.size
  replace HIR := Lib.hid (HIR.out.kept n nof)
  replace HMb := Lib.hid ((HMb.out.kept n nof).hi n.size)
  replace HB8 := Lib.hid (n.heap HB8.out id)
  replace HIX := Lib.hid ((HIX.out.kept n nof).hi n.size)
  replace HB9 := Lib.hid (n.heap HB9.out id)
  clear n
  refine ReadyU.cons HOPS rfl (by rfl) (fun K hK => ?_) ReadyU.nil
  go_simp
  refine hK.out _ _ ((Ch.refl _ _).alloc _) ⟨cell_alloc_old _ (by rw [cell_of HB5.out]; rfl), cell_alloc_old _ (by rw [cell_of HB5.out]; rfl), cell_alloc_old _ (by rw [cell_of HB5.out]; rfl), cell_alloc_old _ (by rw [cell_of HB5.out]; rfl)⟩ (fun hHeld => ?_)
  clear hK K
  try simp only [Act.put, List.getElem_toArray, List.getElem_cons_succ, List.getElem_cons_zero, List.setIfInBounds_toArray, List.set_cons_zero, List.set_cons_succ]
  refine wpU_named ?_
  intro W13 hW
  try rw [← hW] at hHeld
  have NA := Lib.hid (show Nw w12 W13 from by rw [hW]; exact (Ch.refl _ _).alloc _)
  have HBS := Lib.hid (show W13.heap[w12.heap.size]? = some (.cells #[.int .i64 0, .int .i64 0] 35 (0, 0)) from by rw [hW]; exact heap_alloc_eq _ rfl)
  clear hW
  refine wpU_ready (rs := [10]) (by kernel_rfl) (by simp) ?_
  intro w14 hle
  obtain ⟨n, hHeld⟩ := hle.ahead (by kernel_rfl)
  clear hle
  replace NA := Lib.hid (NA.out.trans n)
  replace HBS := Lib.hid (n.heap HBS.out id)
  clear n
  refine ReadyU.last HOPS rfl (by rfl) (by kernel_rfl) (fun K hK => ?_) ReadyU.nil
  have o0 : w14.cell? ⟨w12.heap.size, 0, none⟩ = some (.int .i64 0) := by rw [cell_of HBS.out]; rfl
  have o1 : w14.cell? ⟨w12.heap.size, 1, none⟩ = some (.int .i64 0) := by rw [cell_of HBS.out]; rfl
  have p0 : w14.frozen? ⟨w12.heap.size, 0, none⟩ = false := frozen_of HBS.out
  have p1 : w14.frozen? ⟨w12.heap.size, 1, none⟩ = false := frozen_of HBS.out
  go_simp
  refine hK.out _ _ ?_
  clear hK K o0 p0 o1 p1
  try simp only [Act.put, List.getElem_toArray, List.getElem_cons_succ, List.getElem_cons_zero, List.setIfInBounds_toArray, List.set_cons_zero, List.set_cons_succ]
  refine wpU_named ?_
  intro W15 hW
  have c : Ch (· = w12.heap.size) w14 W15 := by rw [hW]; exact ((Ch.refl (· = w12.heap.size) w14).setb (fun _ => rfl) _).setb (fun _ => rfl) _
  have n : Nw w12 W15 := NA.out.trans' c (fun j hj e => by have e' : j = w12.heap.size := e; omega)
  replace HBS := Lib.hid (show W15.heap[w12.heap.size]? = some (.cells #[.int .i64 (q0 % 7 - 3), .int .i64 (q1 % 7 - 3)] 35 (0, 0)) from by rw [hW]; exact heap_setCell_eq _ (heap_setCell_eq _ (HBS.out)))
  clear hW c NA
  replace NX := Lib.hid (NX.out.trans n)
  replace RN := Lib.hid (RN.out.kept n id)
  replace MX := Lib.hid (MX.out.kept n id)
  replace HLA := Lib.hid (HLA.out.kept n nof)
  replace HLB := Lib.hid (HLB.out.kept n nof)
  replace HXR := Lib.hid (HXR.out.kept n nof)
  replace HB0 := Lib.hid (n.heap HB0.out id)
  replace HB4 := Lib.hid (n.heap HB4.out id)
  replace HB5 := Lib.hid (n.heap HB5.out id)
  replace SZ := Nat.lt_of_lt_of_le SZ n.size
  replace HIR := Lib.hid (HIR.out.kept n nof)
  replace HMb := Lib.hid ((HMb.out.kept n nof).hi n.size)
  replace HB8 := Lib.hid (n.heap HB8.out id)
  replace HIX := Lib.hid ((HIX.out.kept n nof).hi n.size)
  replace HB9 := Lib.hid (n.heap HB9.out id)
  clear n
  refine wpU_done (by kernel_rfl) (fun w16 hle => ?_) _
  rw [hle.behind (by kernel_rfl)]
  clear HOPS HCL hle
  repeat clear hHeld
  go_upto_region 6 with (fail)
  refine wp_named ?_
  intro W17 hW
  have n : Nw W15 W17 := by rw [hW]; first | exact Ch.refl _ _ | exact (Ch.refl _ _).alloc _
  replace NX := Lib.hid (NX.out.trans n)
  replace RN := Lib.hid (RN.out.kept n id)
  replace MX := Lib.hid (MX.out.kept n id)
  replace HLA := Lib.hid (HLA.out.kept n nof)
  replace HLB := Lib.hid (HLB.out.kept n nof)
  replace HXR := Lib.hid (HXR.out.kept n nof)
  replace HB0 := Lib.hid (n.heap HB0.out id)
  replace HB4 := Lib.hid (n.heap HB4.out id)
  replace HB5 := Lib.hid (n.heap HB5.out id)
  replace SZ := Nat.lt_of_lt_of_le SZ n.size
  replace HIR := Lib.hid (HIR.out.kept n nof)
  replace HMb := Lib.hid ((HMb.out.kept n nof).hi n.size)
  replace HB8 := Lib.hid (n.heap HB8.out id)
  replace HIX := Lib.hid ((HIX.out.kept n nof).hi n.size)
  replace HB9 := Lib.hid (n.heap HB9.out id)
  replace HBS := Lib.hid (n.heap HBS.out id)
  clear hW n
  refine wp_region_V (F := fun w' => w'.cell? ⟨w7.heap.size, 0, none⟩ = some (.int .i64 bb.1) ∧ w'.cell? ⟨w7.heap.size, 1, none⟩ = some (.int .i64 bb.2.1) ∧ w'.cell? ⟨w7.heap.size, 2, none⟩ = some (.slice (some Ab) nb nb) ∧ w'.cell? ⟨w.heap.size + 2, 0, none⟩ = some (.int .i64 q0) ∧ w'.cell? ⟨w.heap.size + 2, 1, none⟩ = some (.int .i64 q1) ∧ w'.cell? ⟨w.heap.size + 2, 2, none⟩ = some (.int .i64 q2) ∧ w'.cell? ⟨w.heap.size + 2, 3, none⟩ = some (.int .i64 q3)) (opsOf Tryd.f3 6) 8 8 (by kernel_rfl) (by kernel_rfl) (by kernel_rfl) (fun w w' h n => ⟨n.cell h.1 id, n.cell h.2.1 id, n.cell h.2.2.1 id, n.cell h.2.2.2.1 id, n.cell h.2.2.2.2.1 id, n.cell h.2.2.2.2.2.1 id, n.cell h.2.2.2.2.2.2 id⟩) ⟨by show W17.cell? _ = _; rw [cell_of HB8.out]; rfl, by show W17.cell? _ = _; rw [cell_of HB8.out]; rfl, by show W17.cell? _ = _; rw [cell_of HB8.out]; rfl, by show W17.cell? _ = _; rw [cell_of HB5.out]; rfl, by show W17.cell? _ = _; rw [cell_of HB5.out]; rfl, by show W17.cell? _ = _; rw [cell_of HB5.out]; rfl, by show W17.cell? _ = _; rw [cell_of HB5.out]; rfl⟩ (fun HOPS HCL hHeld => ?_)
  refine wpU_named ?_
  intro W18 hW
  try rw [← hW] at hHeld
  have n : Nw W17 W18 := by rw [hW]; exact (Ch.refl _ _).drew
  replace NX := Lib.hid (NX.out.trans n)
  replace RN := Lib.hid (RN.out.kept n id)
  replace MX := Lib.hid (MX.out.kept n id)
  replace HLA := Lib.hid (HLA.out.kept n nof)
  replace HLB := Lib.hid (HLB.out.kept n nof)
  replace HXR := Lib.hid (HXR.out.kept n nof)
  replace HB0 := Lib.hid (n.heap HB0.out id)
  replace HB4 := Lib.hid (n.heap HB4.out id)
  replace HB5 := Lib.hid (n.heap HB5.out id)
  replace SZ := Nat.lt_of_lt_of_le SZ n.size
  replace HIR := Lib.hid (HIR.out.kept n nof)
  replace HMb := Lib.hid ((HMb.out.kept n nof).hi n.size)
  replace HB8 := Lib.hid (n.heap HB8.out id)
  replace HIX := Lib.hid ((HIX.out.kept n nof).hi n.size)
  replace HB9 := Lib.hid (n.heap HB9.out id)
  replace HBS := Lib.hid (n.heap HBS.out id)
  clear hW n
  first | (refine wpU_takeB (i := 0) (v := ?_) HOPS rfl (by kernel_rfl) (fun _ _ _ h => h) HCL (goes_read (by rfl) ?hy) ?_; case hy => (intro w hSw; (try dsimp only at hSw); go_simp; (try with_reducible rfl))) | (refine wpU_takeB (i := 0) (v := _) HOPS rfl (by kernel_rfl) (fun _ _ _ h => h) HCL (goes_not (by rfl)) ?_)
  try simp only [Act.put, List.getElem_toArray, List.getElem_cons_succ, List.getElem_cons_zero, List.setIfInBounds_toArray, List.set_cons_zero, List.set_cons_succ]
  first | (refine wpU_takeB (i := 1) (v := ?_) HOPS rfl (by kernel_rfl) (fun _ _ _ h => h) HCL (goes_read (by rfl) ?hy) ?_; case hy => (intro w hSw; (try dsimp only at hSw); go_simp; (try with_reducible rfl))) | (refine wpU_takeB (i := 1) (v := _) HOPS rfl (by kernel_rfl) (fun _ _ _ h => h) HCL (goes_not (by rfl)) ?_)
  try simp only [Act.put, List.getElem_toArray, List.getElem_cons_succ, List.getElem_cons_zero, List.setIfInBounds_toArray, List.set_cons_zero, List.set_cons_succ]
  first | (refine wpU_takeB (i := 2) (v := ?_) HOPS rfl (by kernel_rfl) (fun _ _ _ h => h) HCL (goes_read (by rfl) ?hy) ?_; case hy => (intro w hSw; (try dsimp only at hSw); go_simp; (try with_reducible rfl))) | (refine wpU_takeB (i := 2) (v := _) HOPS rfl (by kernel_rfl) (fun _ _ _ h => h) HCL (goes_not (by rfl)) ?_)
  try simp only [Act.put, List.getElem_toArray, List.getElem_cons_succ, List.getElem_cons_zero, List.setIfInBounds_toArray, List.set_cons_zero, List.set_cons_succ]
  first | (refine wpU_takeB (i := 3) (v := ?_) HOPS rfl (by kernel_rfl) (fun _ _ _ h => h) HCL (goes_read (by rfl) ?hy) ?_; case hy => (intro w hSw; (try dsimp only at hSw); go_simp; (try with_reducible rfl))) | (refine wpU_takeB (i := 3) (v := _) HOPS rfl (by kernel_rfl) (fun _ _ _ h => h) HCL (goes_not (by rfl)) ?_)
  try simp only [Act.put, List.getElem_toArray, List.getElem_cons_succ, List.getElem_cons_zero, List.setIfInBounds_toArray, List.set_cons_zero, List.set_cons_succ]
  first | (refine wpU_takeB (i := 7) (v := ?_) HOPS rfl (by kernel_rfl) (fun _ _ _ h => h) HCL (goes_read (by rfl) ?hy) ?_; case hy => (intro w hSw; (try dsimp only at hSw); go_simp; (try with_reducible rfl))) | (refine wpU_takeB (i := 7) (v := _) HOPS rfl (by kernel_rfl) (fun _ _ _ h => h) HCL (goes_not (by rfl)) ?_)
  try simp only [Act.put, List.getElem_toArray, List.getElem_cons_succ, List.getElem_cons_zero, List.setIfInBounds_toArray, List.set_cons_zero, List.set_cons_succ]
  refine wpU_ready (rs := [4]) (by kernel_rfl) (by simp) ?_
  intro w19 hle
  obtain ⟨n, hHeld⟩ := hle.ahead (by kernel_rfl)
  clear hle
  replace NX := Lib.hid (NX.out.trans n)
  replace RN := Lib.hid (RN.out.kept n id)
  replace MX := Lib.hid (MX.out.kept n id)
  replace HLA := Lib.hid (HLA.out.kept n nof)
  replace HLB := Lib.hid (HLB.out.kept n nof)
  replace HXR := Lib.hid (HXR.out.kept n nof)
  replace HB0 := Lib.hid (n.heap HB0.out id)
  replace HB4 := Lib.hid (n.heap HB4.out id)
  replace HB5 := Lib.hid (n.heap HB5.out id)
  replace SZ := Nat.lt_of_lt_of_le SZ n.size
  replace HIR := Lib.hid (HIR.out.kept n nof)
  replace HMb := Lib.hid ((HMb.out.kept n nof).hi n.size)
  replace HB8 := Lib.hid (n.heap HB8.out id)
  replace HIX := Lib.hid ((HIX.out.kept n nof).hi n.size)
  replace HB9 := Lib.hid (n.heap HB9.out id)
  replace HBS := Lib.hid (n.heap HBS.out id)
  clear n
  refine ReadyU.cons HOPS rfl (by rfl) (fun K hK => ?_) ReadyU.nil
  go_simp
  go_at_call 13
  refine bmOdd_any w19.heap.size _ bb q2 _ _ HMb.out (Nat.le_refl _) Q2.out hbl (fun a b n c e => by simp at e) ?_
  intro w20 v bo hi hlo n
  replace NX := Lib.hid (NX.out.trans n)
  replace RN := Lib.hid (RN.out.kept n id)
  replace MX := Lib.hid (MX.out.kept n id)
  replace HLA := Lib.hid (HLA.out.kept n nof)
  replace HLB := Lib.hid (HLB.out.kept n nof)
  replace HXR := Lib.hid (HXR.out.kept n nof)
  replace HB0 := Lib.hid (n.heap HB0.out id)
  replace HB4 := Lib.hid (n.heap HB4.out id)
  replace HB5 := Lib.hid (n.heap HB5.out id)
  replace SZ := Nat.lt_of_lt_of_le SZ n.size
  replace HIR := Lib.hid (HIR.out.kept n nof)
  replace HMb := Lib.hid ((HMb.out.kept n nof).hi n.size)
  replace HB8 := Lib.hid (n.heap HB8.out id)
  replace HIX := Lib.hid ((HIX.out.kept n nof).hi n.size)
  replace HB9 := Lib.hid (n.heap HB9.out id)
  replace HBS := Lib.hid (n.heap HBS.out id)
  obtain ⟨oW, oH, ol⟩ := bo
  have hi' := hi
  obtain ⟨sO, rfl, ⟨AO, cO, rfl, -⟩, -⟩ := hi'
  have HMo := Lib.hid hi
  simp only at hlo
  clear hi
  refine hK.out _ _ n ⟨by show w20.cell? _ = _; rw [cell_of HB8.out]; rfl, by show w20.cell? _ = _; rw [cell_of HB8.out]; rfl, by show w20.cell? _ = _; rw [cell_of HB8.out]; rfl, by show w20.cell? _ = _; rw [cell_of HB5.out]; rfl, by show w20.cell? _ = _; rw [cell_of HB5.out]; rfl, by show w20.cell? _ = _; rw [cell_of HB5.out]; rfl, by show w20.cell? _ = _; rw [cell_of HB5.out]; rfl⟩ (fun hHeld => ?_)
  clear hK K n
  try simp only [Act.put, List.getElem_toArray, List.getElem_cons_succ, List.getElem_cons_zero, List.setIfInBounds_toArray, List.set_cons_zero, List.set_cons_succ]
  refine wpU_ready (rs := [5]) (by kernel_rfl) (by simp) ?_
  intro w21 hle
  obtain ⟨n, hHeld⟩ := hle.ahead (by kernel_rfl)
  clear hle
  replace NX := Lib.hid (NX.out.trans n)
  replace RN := Lib.hid (RN.out.kept n id)
  replace MX := Lib.hid (MX.out.kept n id)
  replace HLA := Lib.hid (HLA.out.kept n nof)
  replace HLB := Lib.hid (HLB.out.kept n nof)
  replace HXR := Lib.hid (HXR.out.kept n nof)
  replace HB0 := Lib.hid (n.heap HB0.out id)
  replace HB4 := Lib.hid (n.heap HB4.out id)
  replace HB5 := Lib.hid (n.heap HB5.out id)
  replace SZ := Nat.lt_of_lt_of_le SZ n.size
  replace HIR := Lib.hid (HIR.out.kept n nof)
  replace HMb := Lib.hid ((HMb.out.kept n nof).hi n.size)
  replace HB8 := Lib.hid (n.heap HB8.out id)
  replace HIX := Lib.hid ((HIX.out.kept n nof).hi n.size)
  replace HB9 := Lib.hid (n.heap HB9.out id)
  replace HBS := Lib.hid (n.heap HBS.out id)
  replace HMo := Lib.hid ((HMo.out.kept n nof).hi n.size)
  clear n
  refine ReadyU.cons HOPS rfl (by rfl) (fun K hK => ?_) ReadyU.nil
  refine wp_lit2x3 37 31 _ _ rfl (by kernel_rfl) (by kernel_rfl) (by rfl) (by rfl) ?_
  refine hK.out _ _ ((Ch.refl _ _).alloc _) ⟨cell_alloc_old _ (by rw [cell_of HB8.out]; rfl), cell_alloc_old _ (by rw [cell_of HB8.out]; rfl), cell_alloc_old _ (by rw [cell_of HB8.out]; rfl), cell_alloc_old _ (by rw [cell_of HB5.out]; rfl), cell_alloc_old _ (by rw [cell_of HB5.out]; rfl), cell_alloc_old _ (by rw [cell_of HB5.out]; rfl), cell_alloc_old _ (by rw [cell_of HB5.out]; rfl)⟩ (fun hHeld => ?_)
  clear hK K
  try simp only [Act.put, List.getElem_toArray, List.getElem_cons_succ, List.getElem_cons_zero, List.setIfInBounds_toArray, List.set_cons_zero, List.set_cons_succ]
  have SZAHSB := SZ
  refine wpU_named ?_
  intro W22 hW
  try rw [← hW] at hHeld
  have n : Nw w21 W22 := by rw [hW]; exact (Ch.refl _ _).alloc _
  replace NX := Lib.hid (NX.out.trans n)
  replace RN := Lib.hid (RN.out.kept n id)
  replace MX := Lib.hid (MX.out.kept n id)
  replace HLA := Lib.hid (HLA.out.kept n nof)
  replace HLB := Lib.hid (HLB.out.kept n nof)
  replace HXR := Lib.hid (HXR.out.kept n nof)
  replace HB0 := Lib.hid (n.heap HB0.out id)
  replace HB4 := Lib.hid (n.heap HB4.out id)
  replace HB5 := Lib.hid (n.heap HB5.out id)
  replace SZ := Nat.lt_of_lt_of_le SZ n.size
  replace HIR := Lib.hid (HIR.out.kept n nof)
  replace HMb := Lib.hid ((HMb.out.kept n nof).hi n.size)
  replace HB8 := Lib.hid (n.heap HB8.out id)
  replace HIX := Lib.hid ((HIX.out.kept n nof).hi n.size)
  replace HB9 := Lib.hid (n.heap HB9.out id)
  replace HBS := Lib.hid (n.heap HBS.out id)
  replace HMo := Lib.hid ((HMo.out.kept n nof).hi n.size)
  have HSB := Lib.hid (show W22.heap[w21.heap.size]? = some (.cells #[.int .i64 bb.1, .int .i64 bb.2.1, .slice (some Ab) nb nb, .int .i64 oW, .int .i64 oH, .slice AO ol.length cO] 31 (0, 0)) from by rw [hW]; exact heap_alloc_eq _ rfl)
  clear hW n
  first | (refine wpU_takeB (i := 6) (v := ?_) HOPS rfl (by kernel_rfl) (fun _ _ _ h => h) HCL (goes_read (by rfl) ?hy) ?_; case hy => (intro w hSw; (try dsimp only at hSw); go_simp; (try with_reducible rfl))) | (refine wpU_takeB (i := 6) (v := _) HOPS rfl (by kernel_rfl) (fun _ _ _ h => h) HCL (goes_not (by rfl)) ?_)
  try simp only [Act.put, List.getElem_toArray, List.getElem_cons_succ, List.getElem_cons_zero, List.setIfInBounds_toArray, List.set_cons_zero, List.set_cons_succ]
  refine wpU_done (by kernel_rfl) (fun w23 hle => ?_) _
  have n := (hle.ahead (by kernel_rfl)).1
  replace NX := Lib.hid (NX.out.trans n)
  replace RN := Lib.hid (RN.out.kept n id)
  replace MX := Lib.hid (MX.out.kept n id)
  replace HLA := Lib.hid (HLA.out.kept n nof)
  replace HLB := Lib.hid (HLB.out.kept n nof)
  replace HXR := Lib.hid (HXR.out.kept n nof)
  replace HB0 := Lib.hid (n.heap HB0.out id)
  replace HB4 := Lib.hid (n.heap HB4.out id)
  replace HB5 := Lib.hid (n.heap HB5.out id)
  replace SZ := Nat.lt_of_lt_of_le SZ n.size
  replace HIR := Lib.hid (HIR.out.kept n nof)
  replace HMb := Lib.hid ((HMb.out.kept n nof).hi n.size)
  replace HB8 := Lib.hid (n.heap HB8.out id)
  replace HIX := Lib.hid ((HIX.out.kept n nof).hi n.size)
  replace HB9 := Lib.hid (n.heap HB9.out id)
  replace HBS := Lib.hid (n.heap HBS.out id)
  replace HMo := Lib.hid ((HMo.out.kept n nof).hi n.size)
  replace HSB := Lib.hid (n.heap HSB.out id)
  clear n
  clear HOPS HCL hle
  repeat clear hHeld
  go_wp2_with fail
  refine wp_named ?_
  intro W24 hW
  have n : Nw w23 W24 := by rw [hW]; first | exact Ch.refl _ _ | exact (Ch.refl _ _).alloc _ | exact ((Ch.refl _ _).alloc _).alloc _
  replace NX := Lib.hid (NX.out.trans n)
  replace RN := Lib.hid (RN.out.kept n id)
  replace MX := Lib.hid (MX.out.kept n id)
  replace HLA := Lib.hid (HLA.out.kept n nof)
  replace HLB := Lib.hid (HLB.out.kept n nof)
  replace HXR := Lib.hid (HXR.out.kept n nof)
  replace HB0 := Lib.hid (n.heap HB0.out id)
  replace HB4 := Lib.hid (n.heap HB4.out id)
  replace HB5 := Lib.hid (n.heap HB5.out id)
  replace SZ := Nat.lt_of_lt_of_le SZ n.size
  replace HIR := Lib.hid (HIR.out.kept n nof)
  replace HMb := Lib.hid ((HMb.out.kept n nof).hi n.size)
  replace HB8 := Lib.hid (n.heap HB8.out id)
  replace HIX := Lib.hid ((HIX.out.kept n nof).hi n.size)
  replace HB9 := Lib.hid (n.heap HB9.out id)
  replace HBS := Lib.hid (n.heap HBS.out id)
  replace HMo := Lib.hid ((HMo.out.kept n nof).hi n.size)
  replace HSB := Lib.hid (n.heap HSB.out id)
  clear hW n
  go_loopw [53] (fun s53 wr => ∃ (k : Nat), s53 = .int .i64 k ∧ k ≤ 2 ∧ Hid (Nw W24 wr)) (fun s53 _ => 2 - (intOf s53).toNat)
  case atStart => exact ⟨0, rfl, by omega, Lib.hid (Ch.refl _ _)⟩
  case round =>
    obtain ⟨k, rfl, hk, HC⟩ := hrel
    have k0 : (0 : Int) ≤ (k : Int) := by omega
    obtain ⟨wr0, hwr0⟩ : ∃ W : World, W = wr := ⟨_, rfl⟩
    subst hwr0
    replace NX := Lib.hid (NX.out.trans HC.out)
    replace RN := Lib.hid (RN.out.kept HC.out id)
    replace MX := Lib.hid (MX.out.kept HC.out id)
    replace HLA := Lib.hid (HLA.out.kept HC.out nof)
    replace HLB := Lib.hid (HLB.out.kept HC.out nof)
    replace HXR := Lib.hid (HXR.out.kept HC.out nof)
    replace HB0 := Lib.hid (HC.out.heap HB0.out id)
    replace HB4 := Lib.hid (HC.out.heap HB4.out id)
    replace HB5 := Lib.hid (HC.out.heap HB5.out id)
    replace SZ := Nat.lt_of_lt_of_le SZ HC.out.size
    replace HIR := Lib.hid (HIR.out.kept HC.out nof)
    replace HMb := Lib.hid ((HMb.out.kept HC.out nof).hi HC.out.size)
    replace HB8 := Lib.hid (HC.out.heap HB8.out id)
    replace HIX := Lib.hid ((HIX.out.kept HC.out nof).hi HC.out.size)
    replace HB9 := Lib.hid (HC.out.heap HB9.out id)
    replace HBS := Lib.hid (HC.out.heap HBS.out id)
    replace HMo := Lib.hid ((HMo.out.kept HC.out nof).hi HC.out.size)
    replace HSB := Lib.hid (HC.out.heap HSB.out id)
    by_cases hlt : k < 2
    · have k2 : (k : Int) < 2 := by omega
      have hX : ∃ (x : Bm) (A : Option Addr) (n c : Nat), wr0.cell? ⟨w21.heap.size, k * 3, none⟩ = some (.int .i64 x.1) ∧ wr0.cell? ⟨w21.heap.size, k * 3 + 1, none⟩ = some (.int .i64 x.2.1) ∧ wr0.cell? ⟨w21.heap.size, k * 3 + 2, none⟩ = some (.slice A n c) ∧ IsBm wr0 wr0.heap.size (.agg #[.int .i64 x.1, .int .i64 x.2.1, .slice A n c]) x := by
        obtain rfl | rfl : k = 0 ∨ k = 1 := by omega
        · exact ⟨bb, some Ab, nb, nb, by rw [cell_of HSB.out]; rfl, by rw [cell_of HSB.out]; rfl, by rw [cell_of HSB.out]; rfl, HMb.out⟩
        · exact ⟨(oW, oH, ol), AO, ol.length, cO, by rw [cell_of HSB.out]; rfl, by rw [cell_of HSB.out]; rfl, by rw [cell_of HSB.out]; rfl, HMo.out⟩
      obtain ⟨⟨cW, cH, cl⟩, AC, nC, cC, t0, t1, t2, hY⟩ := hX
      simp only at t0 t1 t2 hY
      have HMc := Lib.hid hY
      clear hY
      go_upto_region 9 with (fail)
      clear t0 t1 t2
      refine wp_named ?_
      intro W25 hW
      have n : Nw wr0 W25 := by rw [hW]; first | exact Ch.refl _ _ | exact (Ch.refl _ _).alloc _ | exact ((Ch.refl _ _).alloc _).alloc _
      replace NX := Lib.hid (NX.out.trans n)
      replace RN := Lib.hid (RN.out.kept n id)
      replace MX := Lib.hid (MX.out.kept n id)
      replace HLA := Lib.hid (HLA.out.kept n nof)
      replace HLB := Lib.hid (HLB.out.kept n nof)
      replace HXR := Lib.hid (HXR.out.kept n nof)
      replace HB0 := Lib.hid (n.heap HB0.out id)
      replace HB4 := Lib.hid (n.heap HB4.out id)
      replace HB5 := Lib.hid (n.heap HB5.out id)
      replace SZ := Nat.lt_of_lt_of_le SZ n.size
      replace HIR := Lib.hid (HIR.out.kept n nof)
      replace HMb := Lib.hid ((HMb.out.kept n nof).hi n.size)
      replace HB8 := Lib.hid (n.heap HB8.out id)
      replace HIX := Lib.hid ((HIX.out.kept n nof).hi n.size)
      replace HB9 := Lib.hid (n.heap HB9.out id)
      replace HBS := Lib.hid (n.heap HBS.out id)
      replace HMo := Lib.hid ((HMo.out.kept n nof).hi n.size)
      replace HSB := Lib.hid (n.heap HSB.out id)
      replace HC := Lib.hid (HC.out.trans n)
      replace HMc := Lib.hid ((HMc.out.kept n nof).hi n.size)
      have HBC := Lib.hid (show W25.heap[wr0.heap.size]? = some (.cells #[.int .i64 cW, .int .i64 cH, .slice AC nC cC] 31 (0, 0)) from by rw [hW]; exact heap_alloc_eq _ rfl)
      clear hW n
      have kHB50 : W25.cell? ⟨w.heap.size + 2, 0, none⟩ = some (.int .i64 q0) := by rw [cell_of HB5.out]; rfl
      have kHB51 : W25.cell? ⟨w.heap.size + 2, 1, none⟩ = some (.int .i64 q1) := by rw [cell_of HB5.out]; rfl
      have kHB52 : W25.cell? ⟨w.heap.size + 2, 2, none⟩ = some (.int .i64 q2) := by rw [cell_of HB5.out]; rfl
      have kHB53 : W25.cell? ⟨w.heap.size + 2, 3, none⟩ = some (.int .i64 q3) := by rw [cell_of HB5.out]; rfl
      have kHBS0 : W25.cell? ⟨w12.heap.size, 0, none⟩ = some (.int .i64 (q0 % 7 - 3)) := by rw [cell_of HBS.out]; rfl
      have kHBS1 : W25.cell? ⟨w12.heap.size, 1, none⟩ = some (.int .i64 (q1 % 7 - 3)) := by rw [cell_of HBS.out]; rfl
      refine wp_region_lit ?_
      refine wpList_plain rfl fun K hK => ?_
      go_simp
      refine hK _ _ ?_
      clear hK K
      try simp only [Act.put, List.getElem_toArray, List.getElem_cons_succ, List.getElem_cons_zero, List.setIfInBounds_toArray, List.set_cons_zero, List.set_cons_succ]
      refine wpList_plain rfl fun K hK => ?_
      go_simp
      refine hK _ _ ?_
      clear hK K
      try simp only [Act.put, List.getElem_toArray, List.getElem_cons_succ, List.getElem_cons_zero, List.setIfInBounds_toArray, List.set_cons_zero, List.set_cons_succ]
      refine wpList_plain rfl fun K hK => ?_
      go_simp
      refine hK _ _ ?_
      clear hK K
      try simp only [Act.put, List.getElem_toArray, List.getElem_cons_succ, List.getElem_cons_zero, List.setIfInBounds_toArray, List.set_cons_zero, List.set_cons_succ]
      refine wpList_plain rfl fun K hK => ?_
      go_simp
      refine hK _ _ ?_
      clear hK K
      try simp only [Act.put, List.getElem_toArray, List.getElem_cons_succ, List.getElem_cons_zero, List.setIfInBounds_toArray, List.set_cons_zero, List.set_cons_succ]
      refine wpList_plain rfl fun K hK => ?_
      go_simp
      refine hK _ _ ?_
      clear hK K
      try simp only [Act.put, List.getElem_toArray, List.getElem_cons_succ, List.getElem_cons_zero, List.setIfInBounds_toArray, List.set_cons_zero, List.set_cons_succ]
      refine wpList_plain rfl fun K hK => ?_
      go_simp
      refine hK _ _ ?_
      clear hK K
      try simp only [Act.put, List.getElem_toArray, List.getElem_cons_succ, List.getElem_cons_zero, List.setIfInBounds_toArray, List.set_cons_zero, List.set_cons_succ]
      refine wpList_plain rfl fun K hK => ?_
      refine wp_lit2x2 38 35 _ _ rfl (by kernel_rfl) (by kernel_rfl) (by rfl) (by rfl) ?_
      refine hK _ _ ?_
      clear hK K
      try simp only [Act.put, List.getElem_toArray, List.getElem_cons_succ, List.getElem_cons_zero, List.setIfInBounds_toArray, List.set_cons_zero, List.set_cons_succ]
      clear kHB50 kHB51 kHB52 kHB53 kHBS0 kHBS1
      go_wp2_with fail
      refine wp_named ?_
      intro W26 hW
      have n : Nw W25 W26 := by rw [hW]; first | exact Ch.refl _ _ | exact (Ch.refl _ _).alloc _ | exact ((Ch.refl _ _).alloc _).alloc _
      replace NX := Lib.hid (NX.out.trans n)
      replace RN := Lib.hid (RN.out.kept n id)
      replace MX := Lib.hid (MX.out.kept n id)
      replace HLA := Lib.hid (HLA.out.kept n nof)
      replace HLB := Lib.hid (HLB.out.kept n nof)
      replace HXR := Lib.hid (HXR.out.kept n nof)
      replace HB0 := Lib.hid (n.heap HB0.out id)
      replace HB4 := Lib.hid (n.heap HB4.out id)
      replace HB5 := Lib.hid (n.heap HB5.out id)
      replace SZ := Nat.lt_of_lt_of_le SZ n.size
      replace HIR := Lib.hid (HIR.out.kept n nof)
      replace HMb := Lib.hid ((HMb.out.kept n nof).hi n.size)
      replace HB8 := Lib.hid (n.heap HB8.out id)
      replace HIX := Lib.hid ((HIX.out.kept n nof).hi n.size)
      replace HB9 := Lib.hid (n.heap HB9.out id)
      replace HBS := Lib.hid (n.heap HBS.out id)
      replace HMo := Lib.hid ((HMo.out.kept n nof).hi n.size)
      replace HSB := Lib.hid (n.heap HSB.out id)
      replace HC := Lib.hid (HC.out.trans n)
      replace HMc := Lib.hid ((HMc.out.kept n nof).hi n.size)
      replace HBC := Lib.hid (n.heap HBC.out id)
      have HSP := Lib.hid (show W26.heap[W25.heap.size]? = some (.cells #[.int .i64 q0, .int .i64 q1, .int .i64 (q0 % 7 - 3), .int .i64 (q1 % 7 - 3)] 35 (0, 0)) from by rw [hW]; exact heap_alloc_eq _ rfl)
      clear hW n
      go_loopw [65] (fun s65 wr => ∃ (j : Nat), s65 = .int .i64 j ∧ j ≤ 2 ∧ Hid (Nw W26 wr)) (fun s65 _ => 2 - (intOf s65).toNat)
      case atStart => exact ⟨0, rfl, by omega, Lib.hid (Ch.refl _ _)⟩
      case round =>
        obtain ⟨j, rfl, hj, HC2⟩ := hrel
        have j0 : (0 : Int) ≤ (j : Int) := by omega
        obtain ⟨wr1, hwr1⟩ : ∃ W : World, W = wr := ⟨_, rfl⟩
        subst hwr1
        replace NX := Lib.hid (NX.out.trans HC2.out)
        replace RN := Lib.hid (RN.out.kept HC2.out id)
        replace MX := Lib.hid (MX.out.kept HC2.out id)
        replace HLA := Lib.hid (HLA.out.kept HC2.out nof)
        replace HLB := Lib.hid (HLB.out.kept HC2.out nof)
        replace HXR := Lib.hid (HXR.out.kept HC2.out nof)
        replace HB0 := Lib.hid (HC2.out.heap HB0.out id)
        replace HB4 := Lib.hid (HC2.out.heap HB4.out id)
        replace HB5 := Lib.hid (HC2.out.heap HB5.out id)
        replace SZ := Nat.lt_of_lt_of_le SZ HC2.out.size
        replace HIR := Lib.hid (HIR.out.kept HC2.out nof)
        replace HMb := Lib.hid ((HMb.out.kept HC2.out nof).hi HC2.out.size)
        replace HB8 := Lib.hid (HC2.out.heap HB8.out id)
        replace HIX := Lib.hid ((HIX.out.kept HC2.out nof).hi HC2.out.size)
        replace HB9 := Lib.hid (HC2.out.heap HB9.out id)
        replace HBS := Lib.hid (HC2.out.heap HBS.out id)
        replace HMo := Lib.hid ((HMo.out.kept HC2.out nof).hi HC2.out.size)
        replace HSB := Lib.hid (HC2.out.heap HSB.out id)
        replace HC := Lib.hid (HC.out.trans HC2.out)
        replace HMc := Lib.hid ((HMc.out.kept HC2.out nof).hi HC2.out.size)
        replace HBC := Lib.hid (HC2.out.heap HBC.out id)
        replace HSP := Lib.hid (HC2.out.heap HSP.out id)
        by_cases hjt : j < 2
        · have j2 : (j : Int) < 2 := by omega
          have hX : ∃ (a b : Int), wr1.cell? ⟨W25.heap.size, j * 2, none⟩ = some (.int .i64 a) ∧ wr1.cell? ⟨W25.heap.size, j * 2 + 1, none⟩ = some (.int .i64 b) ∧ wfI a ∧ wfI b := by
            obtain rfl | rfl : j = 0 ∨ j = 1 := by omega
            · exact ⟨q0, q1, by rw [cell_of HSP.out]; rfl, by rw [cell_of HSP.out]; rfl, Q0.out, Q1.out⟩
            · exact ⟨q0 % 7 - 3, q1 % 7 - 3, by rw [cell_of HSP.out]; rfl, by rw [cell_of HSP.out]; rfl, by unfold wfI; omega, by unfold wfI; omega⟩
          obtain ⟨d0, d1, t0, t1, w0, w1⟩ := hX
          have D0 := Lib.hid w0
          have D1 := Lib.hid w1
          clear w0 w1
          have kHBC0 : wr1.cell? ⟨wr0.heap.size, 0, none⟩ = some (.int .i64 cW) := by rw [cell_of HBC.out]; rfl
          have jHBC0 : ∀ o, (wr1.alloc o).cell? ⟨wr0.heap.size, 0, none⟩ = some (.int .i64 cW) := fun o => cell_alloc_old o kHBC0
          have kHBC1 : wr1.cell? ⟨wr0.heap.size, 1, none⟩ = some (.int .i64 cH) := by rw [cell_of HBC.out]; rfl
          have jHBC1 : ∀ o, (wr1.alloc o).cell? ⟨wr0.heap.size, 1, none⟩ = some (.int .i64 cH) := fun o => cell_alloc_old o kHBC1
          have kHBC2 : wr1.cell? ⟨wr0.heap.size, 2, none⟩ = some (.slice AC nC cC) := by rw [cell_of HBC.out]; rfl
          have jHBC2 : ∀ o, (wr1.alloc o).cell? ⟨wr0.heap.size, 2, none⟩ = some (.slice AC nC cC) := fun o => cell_alloc_old o kHBC2
          go_wp2_with (go_at_call 6; fail)
          clear kHBC0 jHBC0 kHBC1 jHBC1 kHBC2 jHBC2
          clear t0 t1
          refine Calls_nm ?_
          intro W27 hW
          have n : Nw wr1 W27 := by rw [hW]; first | exact Ch.refl _ _ | exact (Ch.refl _ _).alloc _ | exact ((Ch.refl _ _).alloc _).alloc _
          replace NX := Lib.hid (NX.out.trans n)
          replace RN := Lib.hid (RN.out.kept n id)
          replace MX := Lib.hid (MX.out.kept n id)
          replace HLA := Lib.hid (HLA.out.kept n nof)
          replace HLB := Lib.hid (HLB.out.kept n nof)
          replace HXR := Lib.hid (HXR.out.kept n nof)
          replace HB0 := Lib.hid (n.heap HB0.out id)
          replace HB4 := Lib.hid (n.heap HB4.out id)
          replace HB5 := Lib.hid (n.heap HB5.out id)
          replace SZ := Nat.lt_of_lt_of_le SZ n.size
          replace HIR := Lib.hid (HIR.out.kept n nof)
          replace HMb := Lib.hid ((HMb.out.kept n nof).hi n.size)
          replace HB8 := Lib.hid (n.heap HB8.out id)
          replace HIX := Lib.hid ((HIX.out.kept n nof).hi n.size)
          replace HB9 := Lib.hid (n.heap HB9.out id)
          replace HBS := Lib.hid (n.heap HBS.out id)
          replace HMo := Lib.hid ((HMo.out.kept n nof).hi n.size)
          replace HSB := Lib.hid (n.heap HSB.out id)
          replace HC := Lib.hid (HC.out.trans n)
          replace HMc := Lib.hid ((HMc.out.kept n nof).hi n.size)
          replace HBC := Lib.hid (n.heap HBC.out id)
          replace HSP := Lib.hid (n.heap HSP.out id)
          replace HC2 := Lib.hid (HC2.out.trans n)
          have HBP := Lib.hid (show W27.heap[wr1.heap.size]? = some (.cells #[.int .i64 d0, .int .i64 d1] 35 (0, 0)) from by rw [hW]; exact heap_alloc_eq _ rfl)
          clear hW n
          refine imPut_any _ _ (cW, cH, cl) d0 d1 _ _ HMc.out D0.out D1.out ?_
          intro w28 v hi n
          replace NX := Lib.hid (NX.out.trans n)
          replace RN := Lib.hid (RN.out.kept n id)
          replace MX := Lib.hid (MX.out.kept n id)
          replace HLA := Lib.hid (HLA.out.kept n nof)
          replace HLB := Lib.hid (HLB.out.kept n nof)
          replace HXR := Lib.hid (HXR.out.kept n nof)
          replace HB0 := Lib.hid (n.heap HB0.out id)
          replace HB4 := Lib.hid (n.heap HB4.out id)
          replace HB5 := Lib.hid (n.heap HB5.out id)
          replace SZ := Nat.lt_of_lt_of_le SZ n.size
          replace HIR := Lib.hid (HIR.out.kept n nof)
          replace HMb := Lib.hid ((HMb.out.kept n nof).hi n.size)
          replace HB8 := Lib.hid (n.heap HB8.out id)
          replace HIX := Lib.hid ((HIX.out.kept n nof).hi n.size)
          replace HB9 := Lib.hid (n.heap HB9.out id)
          replace HBS := Lib.hid (n.heap HBS.out id)
          replace HMo := Lib.hid ((HMo.out.kept n nof).hi n.size)
          replace HSB := Lib.hid (n.heap HSB.out id)
          replace HC := Lib.hid (HC.out.trans n)
          replace HMc := Lib.hid ((HMc.out.kept n nof).hi n.size)
          replace HBC := Lib.hid (n.heap HBC.out id)
          replace HSP := Lib.hid (n.heap HSP.out id)
          replace HC2 := Lib.hid (HC2.out.trans n)
          replace HBP := Lib.hid (n.heap HBP.out id)
          obtain ⟨PP, hPP⟩ : ∃ P, putM (cW, cH, cl) d0 d1 = P := ⟨_, rfl⟩
          have HPP := Lib.hid hPP
          rw [hPP] at hi ⊢
          clear hPP
          obtain ⟨⟨pW, pH, pl⟩, pe⟩ := PP
          simp only at hi ⊢
          obtain ⟨AP, cP, rfl, hI⟩ := isIm_formN (W := pW) (H := pH) (n := pl.length) hi rfl rfl rfl
          have HIP := Lib.hid hI
          clear hi hI n
          have kHBC0 : w28.cell? ⟨wr0.heap.size, 0, none⟩ = some (.int .i64 cW) := by rw [cell_of HBC.out]; rfl
          have jHBC0 : ∀ o, (w28.alloc o).cell? ⟨wr0.heap.size, 0, none⟩ = some (.int .i64 cW) := fun o => cell_alloc_old o kHBC0
          have kHBC1 : w28.cell? ⟨wr0.heap.size, 1, none⟩ = some (.int .i64 cH) := by rw [cell_of HBC.out]; rfl
          have jHBC1 : ∀ o, (w28.alloc o).cell? ⟨wr0.heap.size, 1, none⟩ = some (.int .i64 cH) := fun o => cell_alloc_old o kHBC1
          have kHBC2 : w28.cell? ⟨wr0.heap.size, 2, none⟩ = some (.slice AC nC cC) := by rw [cell_of HBC.out]; rfl
          have jHBC2 : ∀ o, (w28.alloc o).cell? ⟨wr0.heap.size, 2, none⟩ = some (.slice AC nC cC) := fun o => cell_alloc_old o kHBC2
          have kHBP0 : w28.cell? ⟨wr1.heap.size, 0, none⟩ = some (.int .i64 d0) := by rw [cell_of HBP.out]; rfl
          have jHBP0 : ∀ o, (w28.alloc o).cell? ⟨wr1.heap.size, 0, none⟩ = some (.int .i64 d0) := fun o => cell_alloc_old o kHBP0
          have kHBP1 : w28.cell? ⟨wr1.heap.size, 1, none⟩ = some (.int .i64 d1) := by rw [cell_of HBP.out]; rfl
          have jHBP1 : ∀ o, (w28.alloc o).cell? ⟨wr1.heap.size, 1, none⟩ = some (.int .i64 d1) := fun o => cell_alloc_old o kHBP1
          go_wp2_with (go_at_call 6; fail)
          clear kHBC0 jHBC0 kHBC1 jHBC1 kHBC2 jHBC2 kHBP0 jHBP0 kHBP1 jHBP1
          refine Calls_nm ?_
          intro W29 hW
          have n : Nw w28 W29 := by rw [hW]; first | exact Ch.refl _ _ | exact (Ch.refl _ _).alloc _ | exact ((Ch.refl _ _).alloc _).alloc _
          replace NX := Lib.hid (NX.out.trans n)
          replace RN := Lib.hid (RN.out.kept n id)
          replace MX := Lib.hid (MX.out.kept n id)
          replace HLA := Lib.hid (HLA.out.kept n nof)
          replace HLB := Lib.hid (HLB.out.kept n nof)
          replace HXR := Lib.hid (HXR.out.kept n nof)
          replace HB0 := Lib.hid (n.heap HB0.out id)
          replace HB4 := Lib.hid (n.heap HB4.out id)
          replace HB5 := Lib.hid (n.heap HB5.out id)
          replace SZ := Nat.lt_of_lt_of_le SZ n.size
          replace HIR := Lib.hid (HIR.out.kept n nof)
          replace HMb := Lib.hid ((HMb.out.kept n nof).hi n.size)
          replace HB8 := Lib.hid (n.heap HB8.out id)
          replace HIX := Lib.hid ((HIX.out.kept n nof).hi n.size)
          replace HB9 := Lib.hid (n.heap HB9.out id)
          replace HBS := Lib.hid (n.heap HBS.out id)
          replace HMo := Lib.hid ((HMo.out.kept n nof).hi n.size)
          replace HSB := Lib.hid (n.heap HSB.out id)
          replace HC := Lib.hid (HC.out.trans n)
          replace HMc := Lib.hid ((HMc.out.kept n nof).hi n.size)
          replace HBC := Lib.hid (n.heap HBC.out id)
          replace HSP := Lib.hid (n.heap HSP.out id)
          replace HC2 := Lib.hid (HC2.out.trans n)
          replace HBP := Lib.hid (n.heap HBP.out id)
          replace HIP := Lib.hid ((HIP.out.kept n nof).hi n.size)
          have HB15 := Lib.hid (show W29.heap[w28.heap.size]? = some (.cells #[.int .i64 pW, .int .i64 pH, .slice AP pl.length cP] 25 (0, 0)) from by rw [hW]; exact heap_alloc_eq _ rfl)
          clear hW n
          refine riPut_any _ _ (cW, cH, cl) d0 d1 _ _ HMc.out D0.out D1.out (Nat.le_refl _) ?_
          intro w30 v hi n
          replace NX := Lib.hid (NX.out.trans n)
          replace RN := Lib.hid (RN.out.kept n id)
          replace MX := Lib.hid (MX.out.kept n id)
          replace HLA := Lib.hid (HLA.out.kept n nof)
          replace HLB := Lib.hid (HLB.out.kept n nof)
          replace HXR := Lib.hid (HXR.out.kept n nof)
          replace HB0 := Lib.hid (n.heap HB0.out id)
          replace HB4 := Lib.hid (n.heap HB4.out id)
          replace HB5 := Lib.hid (n.heap HB5.out id)
          replace SZ := Nat.lt_of_lt_of_le SZ n.size
          replace HIR := Lib.hid (HIR.out.kept n nof)
          replace HMb := Lib.hid ((HMb.out.kept n nof).hi n.size)
          replace HB8 := Lib.hid (n.heap HB8.out id)
          replace HIX := Lib.hid ((HIX.out.kept n nof).hi n.size)
          replace HB9 := Lib.hid (n.heap HB9.out id)
          replace HBS := Lib.hid (n.heap HBS.out id)
          replace HMo := Lib.hid ((HMo.out.kept n nof).hi n.size)
          replace HSB := Lib.hid (n.heap HSB.out id)
          replace HC := Lib.hid (HC.out.trans n)
          replace HMc := Lib.hid ((HMc.out.kept n nof).hi n.size)
          replace HBC := Lib.hid (n.heap HBC.out id)
          replace HSP := Lib.hid (n.heap HSP.out id)
          replace HC2 := Lib.hid (HC2.out.trans n)
          replace HBP := Lib.hid (n.heap HBP.out id)
          replace HIP := Lib.hid ((HIP.out.kept n nof).hi n.size)
          replace HB15 := Lib.hid (n.heap HB15.out id)
          rw [HPP.out] at hi ⊢
          simp only at hi ⊢
          obtain ⟨AV, cV, rfl, hI⟩ := isIm_formN (W := pW) (H := pH) (n := pl.length) hi rfl rfl rfl
          have HIV := Lib.hid hI
          clear hi hI n HPP
          have kHB150 : w30.cell? ⟨w28.heap.size, 0, none⟩ = some (.int .i64 pW) := by rw [cell_of HB15.out]; rfl
          have jHB150 : ∀ o, (w30.alloc o).cell? ⟨w28.heap.size, 0, none⟩ = some (.int .i64 pW) := fun o => cell_alloc_old o kHB150
          have kHB151 : w30.cell? ⟨w28.heap.size, 1, none⟩ = some (.int .i64 pH) := by rw [cell_of HB15.out]; rfl
          have jHB151 : ∀ o, (w30.alloc o).cell? ⟨w28.heap.size, 1, none⟩ = some (.int .i64 pH) := fun o => cell_alloc_old o kHB151
          have kHB152 : w30.cell? ⟨w28.heap.size, 2, none⟩ = some (.slice AP pl.length cP) := by rw [cell_of HB15.out]; rfl
          have jHB152 : ∀ o, (w30.alloc o).cell? ⟨w28.heap.size, 2, none⟩ = some (.slice AP pl.length cP) := fun o => cell_alloc_old o kHB152
          go_wp2_with (go_at_call 6; fail)
          clear kHB150 jHB150 kHB151 jHB151 kHB152 jHB152
          refine Calls_nm ?_
          intro W31 hW
          have n : Nw w30 W31 := by rw [hW]; first | exact Ch.refl _ _ | exact (Ch.refl _ _).alloc _ | exact ((Ch.refl _ _).alloc _).alloc _
          replace NX := Lib.hid (NX.out.trans n)
          replace RN := Lib.hid (RN.out.kept n id)
          replace MX := Lib.hid (MX.out.kept n id)
          replace HLA := Lib.hid (HLA.out.kept n nof)
          replace HLB := Lib.hid (HLB.out.kept n nof)
          replace HXR := Lib.hid (HXR.out.kept n nof)
          replace HB0 := Lib.hid (n.heap HB0.out id)
          replace HB4 := Lib.hid (n.heap HB4.out id)
          replace HB5 := Lib.hid (n.heap HB5.out id)
          replace SZ := Nat.lt_of_lt_of_le SZ n.size
          replace HIR := Lib.hid (HIR.out.kept n nof)
          replace HMb := Lib.hid ((HMb.out.kept n nof).hi n.size)
          replace HB8 := Lib.hid (n.heap HB8.out id)
          replace HIX := Lib.hid ((HIX.out.kept n nof).hi n.size)
          replace HB9 := Lib.hid (n.heap HB9.out id)
          replace HBS := Lib.hid (n.heap HBS.out id)
          replace HMo := Lib.hid ((HMo.out.kept n nof).hi n.size)
          replace HSB := Lib.hid (n.heap HSB.out id)
          replace HC := Lib.hid (HC.out.trans n)
          replace HMc := Lib.hid ((HMc.out.kept n nof).hi n.size)
          replace HBC := Lib.hid (n.heap HBC.out id)
          replace HSP := Lib.hid (n.heap HSP.out id)
          replace HC2 := Lib.hid (HC2.out.trans n)
          replace HBP := Lib.hid (n.heap HBP.out id)
          replace HIP := Lib.hid ((HIP.out.kept n nof).hi n.size)
          replace HB15 := Lib.hid (n.heap HB15.out id)
          replace HIV := Lib.hid ((HIV.out.kept n nof).hi n.size)
          have HB17 := Lib.hid (show W31.heap[w30.heap.size]? = some (.cells #[.int .i64 pW, .int .i64 pH, .slice AV pl.length cV] 25 (0, 0)) from by rw [hW]; exact heap_alloc_eq _ rfl)
          clear hW n
          refine riSame_any _ _ _ (pW, pH, pl) (pW, pH, pl) _ _ HIP.out HIV.out ?_
          rw [decide_eq_true rfl]
          intro w32 n
          replace NX := Lib.hid (NX.out.trans n)
          replace RN := Lib.hid (RN.out.kept n id)
          replace MX := Lib.hid (MX.out.kept n id)
          replace HLA := Lib.hid (HLA.out.kept n nof)
          replace HLB := Lib.hid (HLB.out.kept n nof)
          replace HXR := Lib.hid (HXR.out.kept n nof)
          replace HB0 := Lib.hid (n.heap HB0.out id)
          replace HB4 := Lib.hid (n.heap HB4.out id)
          replace HB5 := Lib.hid (n.heap HB5.out id)
          replace SZ := Nat.lt_of_lt_of_le SZ n.size
          replace HIR := Lib.hid (HIR.out.kept n nof)
          replace HMb := Lib.hid ((HMb.out.kept n nof).hi n.size)
          replace HB8 := Lib.hid (n.heap HB8.out id)
          replace HIX := Lib.hid ((HIX.out.kept n nof).hi n.size)
          replace HB9 := Lib.hid (n.heap HB9.out id)
          replace HBS := Lib.hid (n.heap HBS.out id)
          replace HMo := Lib.hid ((HMo.out.kept n nof).hi n.size)
          replace HSB := Lib.hid (n.heap HSB.out id)
          replace HC := Lib.hid (HC.out.trans n)
          replace HMc := Lib.hid ((HMc.out.kept n nof).hi n.size)
          replace HBC := Lib.hid (n.heap HBC.out id)
          replace HSP := Lib.hid (n.heap HSP.out id)
          replace HC2 := Lib.hid (HC2.out.trans n)
          replace HBP := Lib.hid (n.heap HBP.out id)
          replace HIP := Lib.hid ((HIP.out.kept n nof).hi n.size)
          replace HB15 := Lib.hid (n.heap HB15.out id)
          replace HIV := Lib.hid ((HIV.out.kept n nof).hi n.size)
          replace HB17 := Lib.hid (n.heap HB17.out id)
          clear n
          go_upto_region 16 with (fail)
          refine wp_named ?_
          intro W33 hW
          have n : Nw w32 W33 := by rw [hW]; first | exact Ch.refl _ _ | exact (Ch.refl _ _).alloc _
          replace NX := Lib.hid (NX.out.trans n)
          replace RN := Lib.hid (RN.out.kept n id)
          replace MX := Lib.hid (MX.out.kept n id)
          replace HLA := Lib.hid (HLA.out.kept n nof)
          replace HLB := Lib.hid (HLB.out.kept n nof)
          replace HXR := Lib.hid (HXR.out.kept n nof)
          replace HB0 := Lib.hid (n.heap HB0.out id)
          replace HB4 := Lib.hid (n.heap HB4.out id)
          replace HB5 := Lib.hid (n.heap HB5.out id)
          replace SZ := Nat.lt_of_lt_of_le SZ n.size
          replace HIR := Lib.hid (HIR.out.kept n nof)
          replace HMb := Lib.hid ((HMb.out.kept n nof).hi n.size)
          replace HB8 := Lib.hid (n.heap HB8.out id)
          replace HIX := Lib.hid ((HIX.out.kept n nof).hi n.size)
          replace HB9 := Lib.hid (n.heap HB9.out id)
          replace HBS := Lib.hid (n.heap HBS.out id)
          replace HMo := Lib.hid ((HMo.out.kept n nof).hi n.size)
          replace HSB := Lib.hid (n.heap HSB.out id)
          replace HC := Lib.hid (HC.out.trans n)
          replace HMc := Lib.hid ((HMc.out.kept n nof).hi n.size)
          replace HBC := Lib.hid (n.heap HBC.out id)
          replace HSP := Lib.hid (n.heap HSP.out id)
          replace HC2 := Lib.hid (HC2.out.trans n)
          replace HBP := Lib.hid (n.heap HBP.out id)
          replace HIP := Lib.hid ((HIP.out.kept n nof).hi n.size)
          replace HB15 := Lib.hid (n.heap HB15.out id)
          replace HIV := Lib.hid ((HIV.out.kept n nof).hi n.size)
          replace HB17 := Lib.hid (n.heap HB17.out id)
          clear hW n
          refine wp_region_V (F := fun w' => w'.cell? ⟨w9.heap.size, 0, none⟩ = some (.int .i64 xw) ∧ w'.cell? ⟨w9.heap.size, 1, none⟩ = some (.int .i64 xh) ∧ w'.cell? ⟨w9.heap.size, 2, none⟩ = some (.slice (some ⟨g9, 0, none⟩) px0.length c9) ∧ w'.cell? ⟨w.heap.size + 2, 0, none⟩ = some (.int .i64 q0) ∧ w'.cell? ⟨w.heap.size + 2, 1, none⟩ = some (.int .i64 q1) ∧ w'.cell? ⟨w.heap.size + 2, 2, none⟩ = some (.int .i64 q2) ∧ w'.cell? ⟨w.heap.size + 2, 3, none⟩ = some (.int .i64 q3) ∧ w'.cell? ⟨w.heap.size + 1, 0, none⟩ = some (.int .i64 xrW) ∧ w'.cell? ⟨w.heap.size + 1, 1, none⟩ = some (.int .i64 xrH) ∧ w'.cell? ⟨w.heap.size + 1, 2, none⟩ = some (.slice AF rl.length cF) ∧ w'.cell? ⟨w30.heap.size, 0, none⟩ = some (.int .i64 pW) ∧ w'.cell? ⟨w30.heap.size, 1, none⟩ = some (.int .i64 pH) ∧ w'.cell? ⟨w30.heap.size, 2, none⟩ = some (.slice AV pl.length cV)) (opsOf Tryd.f3 16) 10 10 (by kernel_rfl) (by kernel_rfl) (by kernel_rfl) (fun w w' h n => ⟨n.cell h.1 id, n.cell h.2.1 id, n.cell h.2.2.1 id, n.cell h.2.2.2.1 id, n.cell h.2.2.2.2.1 id, n.cell h.2.2.2.2.2.1 id, n.cell h.2.2.2.2.2.2.1 id, n.cell h.2.2.2.2.2.2.2.1 id, n.cell h.2.2.2.2.2.2.2.2.1 id, n.cell h.2.2.2.2.2.2.2.2.2.1 id, n.cell h.2.2.2.2.2.2.2.2.2.2.1 id, n.cell h.2.2.2.2.2.2.2.2.2.2.2.1 id, n.cell h.2.2.2.2.2.2.2.2.2.2.2.2 id⟩) ⟨by show W33.cell? _ = _; rw [cell_of HB9.out]; rfl, by show W33.cell? _ = _; rw [cell_of HB9.out]; rfl, by show W33.cell? _ = _; rw [cell_of HB9.out]; rfl, by show W33.cell? _ = _; rw [cell_of HB5.out]; rfl, by show W33.cell? _ = _; rw [cell_of HB5.out]; rfl, by show W33.cell? _ = _; rw [cell_of HB5.out]; rfl, by show W33.cell? _ = _; rw [cell_of HB5.out]; rfl, by show W33.cell? _ = _; rw [cell_of HB4.out]; rfl, by show W33.cell? _ = _; rw [cell_of HB4.out]; rfl, by show W33.cell? _ = _; rw [cell_of HB4.out]; rfl, by show W33.cell? _ = _; rw [cell_of HB17.out]; rfl, by show W33.cell? _ = _; rw [cell_of HB17.out]; rfl, by show W33.cell? _ = _; rw [cell_of HB17.out]; rfl⟩ (fun HOPS HCL hHeld => ?_)
          refine wpU_named ?_
          intro W34 hW
          try rw [← hW] at hHeld
          have n : Nw W33 W34 := by rw [hW]; exact (Ch.refl _ _).drew
          replace NX := Lib.hid (NX.out.trans n)
          replace RN := Lib.hid (RN.out.kept n id)
          replace MX := Lib.hid (MX.out.kept n id)
          replace HLA := Lib.hid (HLA.out.kept n nof)
          replace HLB := Lib.hid (HLB.out.kept n nof)
          replace HXR := Lib.hid (HXR.out.kept n nof)
          replace HB0 := Lib.hid (n.heap HB0.out id)
          replace HB4 := Lib.hid (n.heap HB4.out id)
          replace HB5 := Lib.hid (n.heap HB5.out id)
          replace SZ := Nat.lt_of_lt_of_le SZ n.size
          replace HIR := Lib.hid (HIR.out.kept n nof)
          replace HMb := Lib.hid ((HMb.out.kept n nof).hi n.size)
          replace HB8 := Lib.hid (n.heap HB8.out id)
          replace HIX := Lib.hid ((HIX.out.kept n nof).hi n.size)
          replace HB9 := Lib.hid (n.heap HB9.out id)
          replace HBS := Lib.hid (n.heap HBS.out id)
          replace HMo := Lib.hid ((HMo.out.kept n nof).hi n.size)
          replace HSB := Lib.hid (n.heap HSB.out id)
          replace HC := Lib.hid (HC.out.trans n)
          replace HMc := Lib.hid ((HMc.out.kept n nof).hi n.size)
          replace HBC := Lib.hid (n.heap HBC.out id)
          replace HSP := Lib.hid (n.heap HSP.out id)
          replace HC2 := Lib.hid (HC2.out.trans n)
          replace HBP := Lib.hid (n.heap HBP.out id)
          replace HIP := Lib.hid ((HIP.out.kept n nof).hi n.size)
          replace HB15 := Lib.hid (n.heap HB15.out id)
          replace HIV := Lib.hid ((HIV.out.kept n nof).hi n.size)
          replace HB17 := Lib.hid (n.heap HB17.out id)
          clear hW n
          first | (refine wpU_takeB (i := 0) (v := ?_) HOPS rfl (by kernel_rfl) (fun _ _ _ h => h) HCL (goes_read (by rfl) ?hy) ?_; case hy => (intro w hSw; (try dsimp only at hSw); go_simp; (try with_reducible rfl))) | (refine wpU_takeB (i := 0) (v := _) HOPS rfl (by kernel_rfl) (fun _ _ _ h => h) HCL (goes_not (by rfl)) ?_)
          try simp only [Act.put, List.getElem_toArray, List.getElem_cons_succ, List.getElem_cons_zero, List.setIfInBounds_toArray, List.set_cons_zero, List.set_cons_succ]
          first | (refine wpU_takeB (i := 1) (v := ?_) HOPS rfl (by kernel_rfl) (fun _ _ _ h => h) HCL (goes_read (by rfl) ?hy) ?_; case hy => (intro w hSw; (try dsimp only at hSw); go_simp; (try with_reducible rfl))) | (refine wpU_takeB (i := 1) (v := _) HOPS rfl (by kernel_rfl) (fun _ _ _ h => h) HCL (goes_not (by rfl)) ?_)
          try simp only [Act.put, List.getElem_toArray, List.getElem_cons_succ, List.getElem_cons_zero, List.setIfInBounds_toArray, List.set_cons_zero, List.set_cons_succ]
          first | (refine wpU_takeB (i := 2) (v := ?_) HOPS rfl (by kernel_rfl) (fun _ _ _ h => h) HCL (goes_read (by rfl) ?hy) ?_; case hy => (intro w hSw; (try dsimp only at hSw); go_simp; (try with_reducible rfl))) | (refine wpU_takeB (i := 2) (v := _) HOPS rfl (by kernel_rfl) (fun _ _ _ h => h) HCL (goes_not (by rfl)) ?_)
          try simp only [Act.put, List.getElem_toArray, List.getElem_cons_succ, List.getElem_cons_zero, List.setIfInBounds_toArray, List.set_cons_zero, List.set_cons_succ]
          first | (refine wpU_takeB (i := 3) (v := ?_) HOPS rfl (by kernel_rfl) (fun _ _ _ h => h) HCL (goes_read (by rfl) ?hy) ?_; case hy => (intro w hSw; (try dsimp only at hSw); go_simp; (try with_reducible rfl))) | (refine wpU_takeB (i := 3) (v := _) HOPS rfl (by kernel_rfl) (fun _ _ _ h => h) HCL (goes_not (by rfl)) ?_)
          try simp only [Act.put, List.getElem_toArray, List.getElem_cons_succ, List.getElem_cons_zero, List.setIfInBounds_toArray, List.set_cons_zero, List.set_cons_succ]
          first | (refine wpU_takeB (i := 5) (v := ?_) HOPS rfl (by kernel_rfl) (fun _ _ _ h => h) HCL (goes_read (by rfl) ?hy) ?_; case hy => (intro w hSw; (try dsimp only at hSw); go_simp; (try with_reducible rfl))) | (refine wpU_takeB (i := 5) (v := _) HOPS rfl (by kernel_rfl) (fun _ _ _ h => h) HCL (goes_not (by rfl)) ?_)
          try simp only [Act.put, List.getElem_toArray, List.getElem_cons_succ, List.getElem_cons_zero, List.setIfInBounds_toArray, List.set_cons_zero, List.set_cons_succ]
          first | (refine wpU_takeB (i := 6) (v := ?_) HOPS rfl (by kernel_rfl) (fun _ _ _ h => h) HCL (goes_read (by rfl) ?hy) ?_; case hy => (intro w hSw; (try dsimp only at hSw); go_simp; (try with_reducible rfl))) | (refine wpU_takeB (i := 6) (v := _) HOPS rfl (by kernel_rfl) (fun _ _ _ h => h) HCL (goes_not (by rfl)) ?_)
          try simp only [Act.put, List.getElem_toArray, List.getElem_cons_succ, List.getElem_cons_zero, List.setIfInBounds_toArray, List.set_cons_zero, List.set_cons_succ]
          first | (refine wpU_takeB (i := 9) (v := ?_) HOPS rfl (by kernel_rfl) (fun _ _ _ h => h) HCL (goes_read (by rfl) ?hy) ?_; case hy => (intro w hSw; (try dsimp only at hSw); go_simp; (try with_reducible rfl))) | (refine wpU_takeB (i := 9) (v := _) HOPS rfl (by kernel_rfl) (fun _ _ _ h => h) HCL (goes_not (by rfl)) ?_)
          try simp only [Act.put, List.getElem_toArray, List.getElem_cons_succ, List.getElem_cons_zero, List.setIfInBounds_toArray, List.set_cons_zero, List.set_cons_succ]
          refine wpU_ready (rs := [4]) (by kernel_rfl) (by simp) ?_
          intro w35 hle
          obtain ⟨n, hHeld⟩ := hle.ahead (by kernel_rfl)
          clear hle
          replace NX := Lib.hid (NX.out.trans n)
          replace RN := Lib.hid (RN.out.kept n id)
          replace MX := Lib.hid (MX.out.kept n id)
          replace HLA := Lib.hid (HLA.out.kept n nof)
          replace HLB := Lib.hid (HLB.out.kept n nof)
          replace HXR := Lib.hid (HXR.out.kept n nof)
          replace HB0 := Lib.hid (n.heap HB0.out id)
          replace HB4 := Lib.hid (n.heap HB4.out id)
          replace HB5 := Lib.hid (n.heap HB5.out id)
          replace SZ := Nat.lt_of_lt_of_le SZ n.size
          replace HIR := Lib.hid (HIR.out.kept n nof)
          replace HMb := Lib.hid ((HMb.out.kept n nof).hi n.size)
          replace HB8 := Lib.hid (n.heap HB8.out id)
          replace HIX := Lib.hid ((HIX.out.kept n nof).hi n.size)
          replace HB9 := Lib.hid (n.heap HB9.out id)
          replace HBS := Lib.hid (n.heap HBS.out id)
          replace HMo := Lib.hid ((HMo.out.kept n nof).hi n.size)
          replace HSB := Lib.hid (n.heap HSB.out id)
          replace HC := Lib.hid (HC.out.trans n)
          replace HMc := Lib.hid ((HMc.out.kept n nof).hi n.size)
          replace HBC := Lib.hid (n.heap HBC.out id)
          replace HSP := Lib.hid (n.heap HSP.out id)
          replace HC2 := Lib.hid (HC2.out.trans n)
          replace HBP := Lib.hid (n.heap HBP.out id)
          replace HIP := Lib.hid ((HIP.out.kept n nof).hi n.size)
          replace HB15 := Lib.hid (n.heap HB15.out id)
          replace HIV := Lib.hid ((HIV.out.kept n nof).hi n.size)
          replace HB17 := Lib.hid (n.heap HB17.out id)
          clear n
          refine ReadyU.cons HOPS rfl (by rfl) (fun K hK => ?_) ReadyU.nil
          go_simp
          go_at_call 17
          refine iOdd_any w35.heap.size _ (xw, xh, px0) q3 _ _ HIX.out (Nat.le_refl _) Q3.out (by show px0.length ≤ 1000; omega) (fun a b n c e => by simp at e) ?_
          intro w36 v xo hi hlo n
          replace NX := Lib.hid (NX.out.trans n)
          replace RN := Lib.hid (RN.out.kept n id)
          replace MX := Lib.hid (MX.out.kept n id)
          replace HLA := Lib.hid (HLA.out.kept n nof)
          replace HLB := Lib.hid (HLB.out.kept n nof)
          replace HXR := Lib.hid (HXR.out.kept n nof)
          replace HB0 := Lib.hid (n.heap HB0.out id)
          replace HB4 := Lib.hid (n.heap HB4.out id)
          replace HB5 := Lib.hid (n.heap HB5.out id)
          replace SZ := Nat.lt_of_lt_of_le SZ n.size
          replace HIR := Lib.hid (HIR.out.kept n nof)
          replace HMb := Lib.hid ((HMb.out.kept n nof).hi n.size)
          replace HB8 := Lib.hid (n.heap HB8.out id)
          replace HIX := Lib.hid ((HIX.out.kept n nof).hi n.size)
          replace HB9 := Lib.hid (n.heap HB9.out id)
          replace HBS := Lib.hid (n.heap HBS.out id)
          replace HMo := Lib.hid ((HMo.out.kept n nof).hi n.size)
          replace HSB := Lib.hid (n.heap HSB.out id)
          replace HC := Lib.hid (HC.out.trans n)
          replace HMc := Lib.hid ((HMc.out.kept n nof).hi n.size)
          replace HBC := Lib.hid (n.heap HBC.out id)
          replace HSP := Lib.hid (n.heap HSP.out id)
          replace HC2 := Lib.hid (HC2.out.trans n)
          replace HBP := Lib.hid (n.heap HBP.out id)
          replace HIP := Lib.hid ((HIP.out.kept n nof).hi n.size)
          replace HB15 := Lib.hid (n.heap HB15.out id)
          replace HIV := Lib.hid ((HIV.out.kept n nof).hi n.size)
          replace HB17 := Lib.hid (n.heap HB17.out id)
          obtain ⟨uW, uH, ul⟩ := xo
          obtain ⟨AU, cU, rfl, hI⟩ := isIm_formN (W := uW) (H := uH) (n := ul.length) hi rfl rfl rfl
          have HIU := Lib.hid hI
          simp only at hlo
          clear hi hI
          refine hK.out _ _ n ⟨by show w36.cell? _ = _; rw [cell_of HB9.out]; rfl, by show w36.cell? _ = _; rw [cell_of HB9.out]; rfl, by show w36.cell? _ = _; rw [cell_of HB9.out]; rfl, by show w36.cell? _ = _; rw [cell_of HB5.out]; rfl, by show w36.cell? _ = _; rw [cell_of HB5.out]; rfl, by show w36.cell? _ = _; rw [cell_of HB5.out]; rfl, by show w36.cell? _ = _; rw [cell_of HB5.out]; rfl, by show w36.cell? _ = _; rw [cell_of HB4.out]; rfl, by show w36.cell? _ = _; rw [cell_of HB4.out]; rfl, by show w36.cell? _ = _; rw [cell_of HB4.out]; rfl, by show w36.cell? _ = _; rw [cell_of HB17.out]; rfl, by show w36.cell? _ = _; rw [cell_of HB17.out]; rfl, by show w36.cell? _ = _; rw [cell_of HB17.out]; rfl⟩ (fun hHeld => ?_)
          clear hK K n
          try simp only [Act.put, List.getElem_toArray, List.getElem_cons_succ, List.getElem_cons_zero, List.setIfInBounds_toArray, List.set_cons_zero, List.set_cons_succ]
          refine wpU_ready (rs := [7]) (by kernel_rfl) (by simp) ?_
          intro w37 hle
          obtain ⟨n, hHeld⟩ := hle.ahead (by kernel_rfl)
          clear hle
          replace NX := Lib.hid (NX.out.trans n)
          replace RN := Lib.hid (RN.out.kept n id)
          replace MX := Lib.hid (MX.out.kept n id)
          replace HLA := Lib.hid (HLA.out.kept n nof)
          replace HLB := Lib.hid (HLB.out.kept n nof)
          replace HXR := Lib.hid (HXR.out.kept n nof)
          replace HB0 := Lib.hid (n.heap HB0.out id)
          replace HB4 := Lib.hid (n.heap HB4.out id)
          replace HB5 := Lib.hid (n.heap HB5.out id)
          replace SZ := Nat.lt_of_lt_of_le SZ n.size
          replace HIR := Lib.hid (HIR.out.kept n nof)
          replace HMb := Lib.hid ((HMb.out.kept n nof).hi n.size)
          replace HB8 := Lib.hid (n.heap HB8.out id)
          replace HIX := Lib.hid ((HIX.out.kept n nof).hi n.size)
          replace HB9 := Lib.hid (n.heap HB9.out id)
          replace HBS := Lib.hid (n.heap HBS.out id)
          replace HMo := Lib.hid ((HMo.out.kept n nof).hi n.size)
          replace HSB := Lib.hid (n.heap HSB.out id)
          replace HC := Lib.hid (HC.out.trans n)
          replace HMc := Lib.hid ((HMc.out.kept n nof).hi n.size)
          replace HBC := Lib.hid (n.heap HBC.out id)
          replace HSP := Lib.hid (n.heap HSP.out id)
          replace HC2 := Lib.hid (HC2.out.trans n)
          replace HBP := Lib.hid (n.heap HBP.out id)
          replace HIP := Lib.hid ((HIP.out.kept n nof).hi n.size)
          replace HB15 := Lib.hid (n.heap HB15.out id)
          replace HIV := Lib.hid ((HIV.out.kept n nof).hi n.size)
          replace HB17 := Lib.hid (n.heap HB17.out id)
          replace HIU := Lib.hid ((HIU.out.kept n nof).hi n.size)
          clear n
          refine ReadyU.cons HOPS rfl (by rfl) (fun K hK => ?_) ReadyU.nil
          refine wp_lit4x3 44 25 _ _ _ _ rfl (by kernel_rfl) (by kernel_rfl) (by rfl) (by rfl) (by rfl) (by rfl) ?_
          refine hK.out _ _ ((Ch.refl _ _).alloc _) ⟨cell_alloc_old _ (by rw [cell_of HB9.out]; rfl), cell_alloc_old _ (by rw [cell_of HB9.out]; rfl), cell_alloc_old _ (by rw [cell_of HB9.out]; rfl), cell_alloc_old _ (by rw [cell_of HB5.out]; rfl), cell_alloc_old _ (by rw [cell_of HB5.out]; rfl), cell_alloc_old _ (by rw [cell_of HB5.out]; rfl), cell_alloc_old _ (by rw [cell_of HB5.out]; rfl), cell_alloc_old _ (by rw [cell_of HB4.out]; rfl), cell_alloc_old _ (by rw [cell_of HB4.out]; rfl), cell_alloc_old _ (by rw [cell_of HB4.out]; rfl), cell_alloc_old _ (by rw [cell_of HB17.out]; rfl), cell_alloc_old _ (by rw [cell_of HB17.out]; rfl), cell_alloc_old _ (by rw [cell_of HB17.out]; rfl)⟩ (fun hHeld => ?_)
          clear hK K
          try simp only [Act.put, List.getElem_toArray, List.getElem_cons_succ, List.getElem_cons_zero, List.setIfInBounds_toArray, List.set_cons_zero, List.set_cons_succ]
          have SZAHSI := SZ
          refine wpU_named ?_
          intro W38 hW
          try rw [← hW] at hHeld
          have n : Nw w37 W38 := by rw [hW]; exact (Ch.refl _ _).alloc _
          replace NX := Lib.hid (NX.out.trans n)
          replace RN := Lib.hid (RN.out.kept n id)
          replace MX := Lib.hid (MX.out.kept n id)
          replace HLA := Lib.hid (HLA.out.kept n nof)
          replace HLB := Lib.hid (HLB.out.kept n nof)
          replace HXR := Lib.hid (HXR.out.kept n nof)
          replace HB0 := Lib.hid (n.heap HB0.out id)
          replace HB4 := Lib.hid (n.heap HB4.out id)
          replace HB5 := Lib.hid (n.heap HB5.out id)
          replace SZ := Nat.lt_of_lt_of_le SZ n.size
          replace HIR := Lib.hid (HIR.out.kept n nof)
          replace HMb := Lib.hid ((HMb.out.kept n nof).hi n.size)
          replace HB8 := Lib.hid (n.heap HB8.out id)
          replace HIX := Lib.hid ((HIX.out.kept n nof).hi n.size)
          replace HB9 := Lib.hid (n.heap HB9.out id)
          replace HBS := Lib.hid (n.heap HBS.out id)
          replace HMo := Lib.hid ((HMo.out.kept n nof).hi n.size)
          replace HSB := Lib.hid (n.heap HSB.out id)
          replace HC := Lib.hid (HC.out.trans n)
          replace HMc := Lib.hid ((HMc.out.kept n nof).hi n.size)
          replace HBC := Lib.hid (n.heap HBC.out id)
          replace HSP := Lib.hid (n.heap HSP.out id)
          replace HC2 := Lib.hid (HC2.out.trans n)
          replace HBP := Lib.hid (n.heap HBP.out id)
          replace HIP := Lib.hid ((HIP.out.kept n nof).hi n.size)
          replace HB15 := Lib.hid (n.heap HB15.out id)
          replace HIV := Lib.hid ((HIV.out.kept n nof).hi n.size)
          replace HB17 := Lib.hid (n.heap HB17.out id)
          replace HIU := Lib.hid ((HIU.out.kept n nof).hi n.size)
          have HSI := Lib.hid (show W38.heap[w37.heap.size]? = some (.cells #[.int .i64 xw, .int .i64 xh, .slice (some ⟨g9, 0, none⟩) px0.length c9, .int .i64 uW, .int .i64 uH, .slice AU ul.length cU, .int .i64 xrW, .int .i64 xrH, .slice AF rl.length cF, .int .i64 pW, .int .i64 pH, .slice AV pl.length cV] 25 (0, 0)) from by rw [hW]; exact heap_alloc_eq _ rfl)
          clear hW n
          first | (refine wpU_takeB (i := 8) (v := ?_) HOPS rfl (by kernel_rfl) (fun _ _ _ h => h) HCL (goes_read (by rfl) ?hy) ?_; case hy => (intro w hSw; (try dsimp only at hSw); go_simp; (try with_reducible rfl))) | (refine wpU_takeB (i := 8) (v := _) HOPS rfl (by kernel_rfl) (fun _ _ _ h => h) HCL (goes_not (by rfl)) ?_)
          try simp only [Act.put, List.getElem_toArray, List.getElem_cons_succ, List.getElem_cons_zero, List.setIfInBounds_toArray, List.set_cons_zero, List.set_cons_succ]
          refine wpU_done (by kernel_rfl) (fun w39 hle => ?_) _
          have n := (hle.ahead (by kernel_rfl)).1
          replace NX := Lib.hid (NX.out.trans n)
          replace RN := Lib.hid (RN.out.kept n id)
          replace MX := Lib.hid (MX.out.kept n id)
          replace HLA := Lib.hid (HLA.out.kept n nof)
          replace HLB := Lib.hid (HLB.out.kept n nof)
          replace HXR := Lib.hid (HXR.out.kept n nof)
          replace HB0 := Lib.hid (n.heap HB0.out id)
          replace HB4 := Lib.hid (n.heap HB4.out id)
          replace HB5 := Lib.hid (n.heap HB5.out id)
          replace SZ := Nat.lt_of_lt_of_le SZ n.size
          replace HIR := Lib.hid (HIR.out.kept n nof)
          replace HMb := Lib.hid ((HMb.out.kept n nof).hi n.size)
          replace HB8 := Lib.hid (n.heap HB8.out id)
          replace HIX := Lib.hid ((HIX.out.kept n nof).hi n.size)
          replace HB9 := Lib.hid (n.heap HB9.out id)
          replace HBS := Lib.hid (n.heap HBS.out id)
          replace HMo := Lib.hid ((HMo.out.kept n nof).hi n.size)
          replace HSB := Lib.hid (n.heap HSB.out id)
          replace HC := Lib.hid (HC.out.trans n)
          replace HMc := Lib.hid ((HMc.out.kept n nof).hi n.size)
          replace HBC := Lib.hid (n.heap HBC.out id)
          replace HSP := Lib.hid (n.heap HSP.out id)
          replace HC2 := Lib.hid (HC2.out.trans n)
          replace HBP := Lib.hid (n.heap HBP.out id)
          replace HIP := Lib.hid ((HIP.out.kept n nof).hi n.size)
          replace HB15 := Lib.hid (n.heap HB15.out id)
          replace HIV := Lib.hid ((HIV.out.kept n nof).hi n.size)
          replace HB17 := Lib.hid (n.heap HB17.out id)
          replace HIU := Lib.hid ((HIU.out.kept n nof).hi n.size)
          replace HSI := Lib.hid (n.heap HSI.out id)
          clear n
          clear HOPS HCL hle
          repeat clear hHeld
          go_wp2_with fail
          refine wp_named ?_
          intro W40 hW
          have n : Nw w39 W40 := by rw [hW]; first | exact Ch.refl _ _ | exact (Ch.refl _ _).alloc _ | exact ((Ch.refl _ _).alloc _).alloc _
          replace NX := Lib.hid (NX.out.trans n)
          replace RN := Lib.hid (RN.out.kept n id)
          replace MX := Lib.hid (MX.out.kept n id)
          replace HLA := Lib.hid (HLA.out.kept n nof)
          replace HLB := Lib.hid (HLB.out.kept n nof)
          replace HXR := Lib.hid (HXR.out.kept n nof)
          replace HB0 := Lib.hid (n.heap HB0.out id)
          replace HB4 := Lib.hid (n.heap HB4.out id)
          replace HB5 := Lib.hid (n.heap HB5.out id)
          replace SZ := Nat.lt_of_lt_of_le SZ n.size
          replace HIR := Lib.hid (HIR.out.kept n nof)
          replace HMb := Lib.hid ((HMb.out.kept n nof).hi n.size)
          replace HB8 := Lib.hid (n.heap HB8.out id)
          replace HIX := Lib.hid ((HIX.out.kept n nof).hi n.size)
          replace HB9 := Lib.hid (n.heap HB9.out id)
          replace HBS := Lib.hid (n.heap HBS.out id)
          replace HMo := Lib.hid ((HMo.out.kept n nof).hi n.size)
          replace HSB := Lib.hid (n.heap HSB.out id)
          replace HC := Lib.hid (HC.out.trans n)
          replace HMc := Lib.hid ((HMc.out.kept n nof).hi n.size)
          replace HBC := Lib.hid (n.heap HBC.out id)
          replace HSP := Lib.hid (n.heap HSP.out id)
          replace HC2 := Lib.hid (HC2.out.trans n)
          replace HBP := Lib.hid (n.heap HBP.out id)
          replace HIP := Lib.hid ((HIP.out.kept n nof).hi n.size)
          replace HB15 := Lib.hid (n.heap HB15.out id)
          replace HIV := Lib.hid ((HIV.out.kept n nof).hi n.size)
          replace HB17 := Lib.hid (n.heap HB17.out id)
          replace HIU := Lib.hid ((HIU.out.kept n nof).hi n.size)
          replace HSI := Lib.hid (n.heap HSI.out id)
          clear hW n
          go_loopw [105] (fun s105 wr => ∃ (m : Nat), s105 = .int .i64 m ∧ m ≤ 4 ∧ Hid (Nw W40 wr)) (fun s105 _ => 4 - (intOf s105).toNat)
          case atStart => exact ⟨0, rfl, by omega, Lib.hid (Ch.refl _ _)⟩
          case round =>
            obtain ⟨m, rfl, hm, HC3⟩ := hrel
            have m0 : (0 : Int) ≤ (m : Int) := by omega
            obtain ⟨wr2, hwr2⟩ : ∃ W : World, W = wr := ⟨_, rfl⟩
            subst hwr2
            replace NX := Lib.hid (NX.out.trans HC3.out)
            replace RN := Lib.hid (RN.out.kept HC3.out id)
            replace MX := Lib.hid (MX.out.kept HC3.out id)
            replace HLA := Lib.hid (HLA.out.kept HC3.out nof)
            replace HLB := Lib.hid (HLB.out.kept HC3.out nof)
            replace HXR := Lib.hid (HXR.out.kept HC3.out nof)
            replace HB0 := Lib.hid (HC3.out.heap HB0.out id)
            replace HB4 := Lib.hid (HC3.out.heap HB4.out id)
            replace HB5 := Lib.hid (HC3.out.heap HB5.out id)
            replace SZ := Nat.lt_of_lt_of_le SZ HC3.out.size
            replace HIR := Lib.hid (HIR.out.kept HC3.out nof)
            replace HMb := Lib.hid ((HMb.out.kept HC3.out nof).hi HC3.out.size)
            replace HB8 := Lib.hid (HC3.out.heap HB8.out id)
            replace HIX := Lib.hid ((HIX.out.kept HC3.out nof).hi HC3.out.size)
            replace HB9 := Lib.hid (HC3.out.heap HB9.out id)
            replace HBS := Lib.hid (HC3.out.heap HBS.out id)
            replace HMo := Lib.hid ((HMo.out.kept HC3.out nof).hi HC3.out.size)
            replace HSB := Lib.hid (HC3.out.heap HSB.out id)
            replace HC := Lib.hid (HC.out.trans HC3.out)
            replace HMc := Lib.hid ((HMc.out.kept HC3.out nof).hi HC3.out.size)
            replace HBC := Lib.hid (HC3.out.heap HBC.out id)
            replace HSP := Lib.hid (HC3.out.heap HSP.out id)
            replace HC2 := Lib.hid (HC2.out.trans HC3.out)
            replace HBP := Lib.hid (HC3.out.heap HBP.out id)
            replace HIP := Lib.hid ((HIP.out.kept HC3.out nof).hi HC3.out.size)
            replace HB15 := Lib.hid (HC3.out.heap HB15.out id)
            replace HIV := Lib.hid ((HIV.out.kept HC3.out nof).hi HC3.out.size)
            replace HB17 := Lib.hid (HC3.out.heap HB17.out id)
            replace HIU := Lib.hid ((HIU.out.kept HC3.out nof).hi HC3.out.size)
            replace HSI := Lib.hid (HC3.out.heap HSI.out id)
            by_cases hmt : m < 4
            · as_aux_lemma =>
              have m4 : (m : Int) < 4 := by omega
              have hX : ∃ (x : Im) (A : Option Addr) (c : Nat), wr2.cell? ⟨w37.heap.size, m * 3, none⟩ = some (.int .i64 x.1) ∧ wr2.cell? ⟨w37.heap.size, m * 3 + 1, none⟩ = some (.int .i64 x.2.1) ∧ wr2.cell? ⟨w37.heap.size, m * 3 + 2, none⟩ = some (.slice A x.2.2.length c) ∧ IsIm wr2 wr2.heap.size (.agg #[.int .i64 x.1, .int .i64 x.2.1, .slice A x.2.2.length c]) x := by
                obtain rfl | rfl | rfl | rfl : m = 0 ∨ m = 1 ∨ m = 2 ∨ m = 3 := by omega
                · exact ⟨(xw, xh, px0), some ⟨g9, 0, none⟩, c9, by rw [cell_of HSI.out]; rfl, by rw [cell_of HSI.out]; rfl, by rw [cell_of HSI.out]; rfl, HIX.out⟩
                · exact ⟨(uW, uH, ul), AU, cU, by rw [cell_of HSI.out]; rfl, by rw [cell_of HSI.out]; rfl, by rw [cell_of HSI.out]; rfl, HIU.out⟩
                · exact ⟨(xrW, xrH, rl), AF, cF, by rw [cell_of HSI.out]; rfl, by rw [cell_of HSI.out]; rfl, by rw [cell_of HSI.out]; rfl, HIR.out.hi NX.out.size⟩
                · exact ⟨(pW, pH, pl), AV, cV, by rw [cell_of HSI.out]; rfl, by rw [cell_of HSI.out]; rfl, by rw [cell_of HSI.out]; rfl, HIV.out⟩
              obtain ⟨⟨zW, zH, zl⟩, AZ, cZ, t0, t1, t2, hY⟩ := hX
              simp only at t0 t1 t2 hY
              have HIZ := Lib.hid hY
              clear hY
              have kHBC0 : wr2.cell? ⟨wr0.heap.size, 0, none⟩ = some (.int .i64 cW) := by rw [cell_of HBC.out]; rfl
              have jHBC0 : ∀ o, (wr2.alloc o).cell? ⟨wr0.heap.size, 0, none⟩ = some (.int .i64 cW) := fun o => cell_alloc_old o kHBC0
              have kHBC1 : wr2.cell? ⟨wr0.heap.size, 1, none⟩ = some (.int .i64 cH) := by rw [cell_of HBC.out]; rfl
              have jHBC1 : ∀ o, (wr2.alloc o).cell? ⟨wr0.heap.size, 1, none⟩ = some (.int .i64 cH) := fun o => cell_alloc_old o kHBC1
              have kHBC2 : wr2.cell? ⟨wr0.heap.size, 2, none⟩ = some (.slice AC nC cC) := by rw [cell_of HBC.out]; rfl
              have jHBC2 : ∀ o, (wr2.alloc o).cell? ⟨wr0.heap.size, 2, none⟩ = some (.slice AC nC cC) := fun o => cell_alloc_old o kHBC2
              have kHBP0 : wr2.cell? ⟨wr1.heap.size, 0, none⟩ = some (.int .i64 d0) := by rw [cell_of HBP.out]; rfl
              have jHBP0 : ∀ o, (wr2.alloc o).cell? ⟨wr1.heap.size, 0, none⟩ = some (.int .i64 d0) := fun o => cell_alloc_old o kHBP0
              have kHBP1 : wr2.cell? ⟨wr1.heap.size, 1, none⟩ = some (.int .i64 d1) := by rw [cell_of HBP.out]; rfl
              have jHBP1 : ∀ o, (wr2.alloc o).cell? ⟨wr1.heap.size, 1, none⟩ = some (.int .i64 d1) := fun o => cell_alloc_old o kHBP1
              go_wp2_with (go_at_call 6; fail)
              clear kHBC0 jHBC0 kHBC1 jHBC1 kHBC2 jHBC2 kHBP0 jHBP0 kHBP1 jHBP1
              clear t0 t1 t2
              refine Calls_nm ?_
              intro W41 hW
              have n : Nw wr2 W41 := by rw [hW]; first | exact Ch.refl _ _ | exact (Ch.refl _ _).alloc _ | exact ((Ch.refl _ _).alloc _).alloc _
              replace NX := Lib.hid (NX.out.trans n)
              replace RN := Lib.hid (RN.out.kept n id)
              replace MX := Lib.hid (MX.out.kept n id)
              replace HLA := Lib.hid (HLA.out.kept n nof)
              replace HLB := Lib.hid (HLB.out.kept n nof)
              replace HXR := Lib.hid (HXR.out.kept n nof)
              replace HB0 := Lib.hid (n.heap HB0.out id)
              replace HB4 := Lib.hid (n.heap HB4.out id)
              replace HB5 := Lib.hid (n.heap HB5.out id)
              replace SZ := Nat.lt_of_lt_of_le SZ n.size
              replace HIR := Lib.hid (HIR.out.kept n nof)
              replace HMb := Lib.hid ((HMb.out.kept n nof).hi n.size)
              replace HB8 := Lib.hid (n.heap HB8.out id)
              replace HIX := Lib.hid ((HIX.out.kept n nof).hi n.size)
              replace HB9 := Lib.hid (n.heap HB9.out id)
              replace HBS := Lib.hid (n.heap HBS.out id)
              replace HMo := Lib.hid ((HMo.out.kept n nof).hi n.size)
              replace HSB := Lib.hid (n.heap HSB.out id)
              replace HC := Lib.hid (HC.out.trans n)
              replace HMc := Lib.hid ((HMc.out.kept n nof).hi n.size)
              replace HBC := Lib.hid (n.heap HBC.out id)
              replace HSP := Lib.hid (n.heap HSP.out id)
              replace HC2 := Lib.hid (HC2.out.trans n)
              replace HBP := Lib.hid (n.heap HBP.out id)
              replace HIP := Lib.hid ((HIP.out.kept n nof).hi n.size)
              replace HB15 := Lib.hid (n.heap HB15.out id)
              replace HIV := Lib.hid ((HIV.out.kept n nof).hi n.size)
              replace HB17 := Lib.hid (n.heap HB17.out id)
              replace HIU := Lib.hid ((HIU.out.kept n nof).hi n.size)
              replace HSI := Lib.hid (n.heap HSI.out id)
              replace HC3 := Lib.hid (HC3.out.trans n)
              replace HIZ := Lib.hid ((HIZ.out.kept n nof).hi n.size)
              have HBZ := Lib.hid (show W41.heap[wr2.heap.size]? = some (.cells #[.int .i64 zW, .int .i64 zH, .slice AZ zl.length cZ] 25 (0, 0)) from by rw [hW]; exact heap_alloc_eq _ rfl)
              clear hW n
              obtain ⟨FF, hFF⟩ : ∃ F, fitsM (zW, zH, zl) (cW, cH, cl) d0 d1 = F := ⟨_, rfl⟩
              have HFF := Lib.hid hFF
              clear hFF
              obtain ⟨f1, f2, f3⟩ := FF
              refine imFits_any W41.heap.size _ (zW, zH, zl) _ (cW, cH, cl) d0 d1 _ _ HIZ.out HMc.out D0.out D1.out (Nat.le_refl _) ?_
              rw [HFF.out]
              intro w42 n
              replace NX := Lib.hid (NX.out.trans n)
              replace RN := Lib.hid (RN.out.kept n id)
              replace MX := Lib.hid (MX.out.kept n id)
              replace HLA := Lib.hid (HLA.out.kept n nof)
              replace HLB := Lib.hid (HLB.out.kept n nof)
              replace HXR := Lib.hid (HXR.out.kept n nof)
              replace HB0 := Lib.hid (n.heap HB0.out id)
              replace HB4 := Lib.hid (n.heap HB4.out id)
              replace HB5 := Lib.hid (n.heap HB5.out id)
              replace SZ := Nat.lt_of_lt_of_le SZ n.size
              replace HIR := Lib.hid (HIR.out.kept n nof)
              replace HMb := Lib.hid ((HMb.out.kept n nof).hi n.size)
              replace HB8 := Lib.hid (n.heap HB8.out id)
              replace HIX := Lib.hid ((HIX.out.kept n nof).hi n.size)
              replace HB9 := Lib.hid (n.heap HB9.out id)
              replace HBS := Lib.hid (n.heap HBS.out id)
              replace HMo := Lib.hid ((HMo.out.kept n nof).hi n.size)
              replace HSB := Lib.hid (n.heap HSB.out id)
              replace HC := Lib.hid (HC.out.trans n)
              replace HMc := Lib.hid ((HMc.out.kept n nof).hi n.size)
              replace HBC := Lib.hid (n.heap HBC.out id)
              replace HSP := Lib.hid (n.heap HSP.out id)
              replace HC2 := Lib.hid (HC2.out.trans n)
              replace HBP := Lib.hid (n.heap HBP.out id)
              replace HIP := Lib.hid ((HIP.out.kept n nof).hi n.size)
              replace HB15 := Lib.hid (n.heap HB15.out id)
              replace HIV := Lib.hid ((HIV.out.kept n nof).hi n.size)
              replace HB17 := Lib.hid (n.heap HB17.out id)
              replace HIU := Lib.hid ((HIU.out.kept n nof).hi n.size)
              replace HSI := Lib.hid (n.heap HSI.out id)
              replace HC3 := Lib.hid (HC3.out.trans n)
              replace HIZ := Lib.hid ((HIZ.out.kept n nof).hi n.size)
              replace HBZ := Lib.hid (n.heap HBZ.out id)
              clear n
              have kHBC0 : w42.cell? ⟨wr0.heap.size, 0, none⟩ = some (.int .i64 cW) := by rw [cell_of HBC.out]; rfl
              have jHBC0 : ∀ o, (w42.alloc o).cell? ⟨wr0.heap.size, 0, none⟩ = some (.int .i64 cW) := fun o => cell_alloc_old o kHBC0
              have kHBC1 : w42.cell? ⟨wr0.heap.size, 1, none⟩ = some (.int .i64 cH) := by rw [cell_of HBC.out]; rfl
              have jHBC1 : ∀ o, (w42.alloc o).cell? ⟨wr0.heap.size, 1, none⟩ = some (.int .i64 cH) := fun o => cell_alloc_old o kHBC1
              have kHBC2 : w42.cell? ⟨wr0.heap.size, 2, none⟩ = some (.slice AC nC cC) := by rw [cell_of HBC.out]; rfl
              have jHBC2 : ∀ o, (w42.alloc o).cell? ⟨wr0.heap.size, 2, none⟩ = some (.slice AC nC cC) := fun o => cell_alloc_old o kHBC2
              have kHBP0 : w42.cell? ⟨wr1.heap.size, 0, none⟩ = some (.int .i64 d0) := by rw [cell_of HBP.out]; rfl
              have jHBP0 : ∀ o, (w42.alloc o).cell? ⟨wr1.heap.size, 0, none⟩ = some (.int .i64 d0) := fun o => cell_alloc_old o kHBP0
              have kHBP1 : w42.cell? ⟨wr1.heap.size, 1, none⟩ = some (.int .i64 d1) := by rw [cell_of HBP.out]; rfl
              have jHBP1 : ∀ o, (w42.alloc o).cell? ⟨wr1.heap.size, 1, none⟩ = some (.int .i64 d1) := fun o => cell_alloc_old o kHBP1
              have kHBZ0 : w42.cell? ⟨wr2.heap.size, 0, none⟩ = some (.int .i64 zW) := by rw [cell_of HBZ.out]; rfl
              have jHBZ0 : ∀ o, (w42.alloc o).cell? ⟨wr2.heap.size, 0, none⟩ = some (.int .i64 zW) := fun o => cell_alloc_old o kHBZ0
              have kHBZ1 : w42.cell? ⟨wr2.heap.size, 1, none⟩ = some (.int .i64 zH) := by rw [cell_of HBZ.out]; rfl
              have jHBZ1 : ∀ o, (w42.alloc o).cell? ⟨wr2.heap.size, 1, none⟩ = some (.int .i64 zH) := fun o => cell_alloc_old o kHBZ1
              have kHBZ2 : w42.cell? ⟨wr2.heap.size, 2, none⟩ = some (.slice AZ zl.length cZ) := by rw [cell_of HBZ.out]; rfl
              have jHBZ2 : ∀ o, (w42.alloc o).cell? ⟨wr2.heap.size, 2, none⟩ = some (.slice AZ zl.length cZ) := fun o => cell_alloc_old o kHBZ2
              go_wp2_with (go_at_call 6; fail)
              clear kHBC0 jHBC0 kHBC1 jHBC1 kHBC2 jHBC2 kHBP0 jHBP0 kHBP1 jHBP1 kHBZ0 jHBZ0 kHBZ1 jHBZ1 kHBZ2 jHBZ2
              refine Calls_nm ?_
              intro W43 hW
              have n : Nw w42 W43 := by rw [hW]; first | exact Ch.refl _ _ | exact (Ch.refl _ _).alloc _ | exact ((Ch.refl _ _).alloc _).alloc _
              replace NX := Lib.hid (NX.out.trans n)
              replace RN := Lib.hid (RN.out.kept n id)
              replace MX := Lib.hid (MX.out.kept n id)
              replace HLA := Lib.hid (HLA.out.kept n nof)
              replace HLB := Lib.hid (HLB.out.kept n nof)
              replace HXR := Lib.hid (HXR.out.kept n nof)
              replace HB0 := Lib.hid (n.heap HB0.out id)
              replace HB4 := Lib.hid (n.heap HB4.out id)
              replace HB5 := Lib.hid (n.heap HB5.out id)
              replace SZ := Nat.lt_of_lt_of_le SZ n.size
              replace HIR := Lib.hid (HIR.out.kept n nof)
              replace HMb := Lib.hid ((HMb.out.kept n nof).hi n.size)
              replace HB8 := Lib.hid (n.heap HB8.out id)
              replace HIX := Lib.hid ((HIX.out.kept n nof).hi n.size)
              replace HB9 := Lib.hid (n.heap HB9.out id)
              replace HBS := Lib.hid (n.heap HBS.out id)
              replace HMo := Lib.hid ((HMo.out.kept n nof).hi n.size)
              replace HSB := Lib.hid (n.heap HSB.out id)
              replace HC := Lib.hid (HC.out.trans n)
              replace HMc := Lib.hid ((HMc.out.kept n nof).hi n.size)
              replace HBC := Lib.hid (n.heap HBC.out id)
              replace HSP := Lib.hid (n.heap HSP.out id)
              replace HC2 := Lib.hid (HC2.out.trans n)
              replace HBP := Lib.hid (n.heap HBP.out id)
              replace HIP := Lib.hid ((HIP.out.kept n nof).hi n.size)
              replace HB15 := Lib.hid (n.heap HB15.out id)
              replace HIV := Lib.hid ((HIV.out.kept n nof).hi n.size)
              replace HB17 := Lib.hid (n.heap HB17.out id)
              replace HIU := Lib.hid ((HIU.out.kept n nof).hi n.size)
              replace HSI := Lib.hid (n.heap HSI.out id)
              replace HC3 := Lib.hid (HC3.out.trans n)
              replace HIZ := Lib.hid ((HIZ.out.kept n nof).hi n.size)
              replace HBZ := Lib.hid (n.heap HBZ.out id)
              clear hW n
              refine riFits_any W43.heap.size _ (zW, zH, zl) _ (cW, cH, cl) d0 d1 _ _ HIZ.out HMc.out D0.out D1.out (Nat.le_refl _) ?_
              rw [HFF.out]
              intro w44 n
              replace NX := Lib.hid (NX.out.trans n)
              replace RN := Lib.hid (RN.out.kept n id)
              replace MX := Lib.hid (MX.out.kept n id)
              replace HLA := Lib.hid (HLA.out.kept n nof)
              replace HLB := Lib.hid (HLB.out.kept n nof)
              replace HXR := Lib.hid (HXR.out.kept n nof)
              replace HB0 := Lib.hid (n.heap HB0.out id)
              replace HB4 := Lib.hid (n.heap HB4.out id)
              replace HB5 := Lib.hid (n.heap HB5.out id)
              replace SZ := Nat.lt_of_lt_of_le SZ n.size
              replace HIR := Lib.hid (HIR.out.kept n nof)
              replace HMb := Lib.hid ((HMb.out.kept n nof).hi n.size)
              replace HB8 := Lib.hid (n.heap HB8.out id)
              replace HIX := Lib.hid ((HIX.out.kept n nof).hi n.size)
              replace HB9 := Lib.hid (n.heap HB9.out id)
              replace HBS := Lib.hid (n.heap HBS.out id)
              replace HMo := Lib.hid ((HMo.out.kept n nof).hi n.size)
              replace HSB := Lib.hid (n.heap HSB.out id)
              replace HC := Lib.hid (HC.out.trans n)
              replace HMc := Lib.hid ((HMc.out.kept n nof).hi n.size)
              replace HBC := Lib.hid (n.heap HBC.out id)
              replace HSP := Lib.hid (n.heap HSP.out id)
              replace HC2 := Lib.hid (HC2.out.trans n)
              replace HBP := Lib.hid (n.heap HBP.out id)
              replace HIP := Lib.hid ((HIP.out.kept n nof).hi n.size)
              replace HB15 := Lib.hid (n.heap HB15.out id)
              replace HIV := Lib.hid ((HIV.out.kept n nof).hi n.size)
              replace HB17 := Lib.hid (n.heap HB17.out id)
              replace HIU := Lib.hid ((HIU.out.kept n nof).hi n.size)
              replace HSI := Lib.hid (n.heap HSI.out id)
              replace HC3 := Lib.hid (HC3.out.trans n)
              replace HIZ := Lib.hid ((HIZ.out.kept n nof).hi n.size)
              replace HBZ := Lib.hid (n.heap HBZ.out id)
              clear n HFF
              go_upto_region 21 with (fail)
              obtain ⟨r3, hr3⟩ : ∃ r, q3.tmod 30 = r := ⟨_, rfl⟩
              have hr3b : -30 < r3 ∧ r3 < 30 := by have := tdiv_tmod q3 30 (by omega); omega
              obtain ⟨hr3c, hr3d⟩ := hr3b
              have er3 : IntKind.i64.wrap r3 = r3 := by rw [IntKind.wrap_i64]; omega
              refine wp_named ?_
              intro W45 hW
              have n : Nw w44 W45 := by rw [hW]; first | exact Ch.refl _ _ | exact (Ch.refl _ _).alloc _
              replace NX := Lib.hid (NX.out.trans n)
              replace RN := Lib.hid (RN.out.kept n id)
              replace MX := Lib.hid (MX.out.kept n id)
              replace HLA := Lib.hid (HLA.out.kept n nof)
              replace HLB := Lib.hid (HLB.out.kept n nof)
              replace HXR := Lib.hid (HXR.out.kept n nof)
              replace HB0 := Lib.hid (n.heap HB0.out id)
              replace HB4 := Lib.hid (n.heap HB4.out id)
              replace HB5 := Lib.hid (n.heap HB5.out id)
              replace SZ := Nat.lt_of_lt_of_le SZ n.size
              replace HIR := Lib.hid (HIR.out.kept n nof)
              replace HMb := Lib.hid ((HMb.out.kept n nof).hi n.size)
              replace HB8 := Lib.hid (n.heap HB8.out id)
              replace HIX := Lib.hid ((HIX.out.kept n nof).hi n.size)
              replace HB9 := Lib.hid (n.heap HB9.out id)
              replace HBS := Lib.hid (n.heap HBS.out id)
              replace HMo := Lib.hid ((HMo.out.kept n nof).hi n.size)
              replace HSB := Lib.hid (n.heap HSB.out id)
              replace HC := Lib.hid (HC.out.trans n)
              replace HMc := Lib.hid ((HMc.out.kept n nof).hi n.size)
              replace HBC := Lib.hid (n.heap HBC.out id)
              replace HSP := Lib.hid (n.heap HSP.out id)
              replace HC2 := Lib.hid (HC2.out.trans n)
              replace HBP := Lib.hid (n.heap HBP.out id)
              replace HIP := Lib.hid ((HIP.out.kept n nof).hi n.size)
              replace HB15 := Lib.hid (n.heap HB15.out id)
              replace HIV := Lib.hid ((HIV.out.kept n nof).hi n.size)
              replace HB17 := Lib.hid (n.heap HB17.out id)
              replace HIU := Lib.hid ((HIU.out.kept n nof).hi n.size)
              replace HSI := Lib.hid (n.heap HSI.out id)
              replace HC3 := Lib.hid (HC3.out.trans n)
              replace HIZ := Lib.hid ((HIZ.out.kept n nof).hi n.size)
              replace HBZ := Lib.hid (n.heap HBZ.out id)
              clear hW n
              refine wp_region_V (F := fun w' => w'.cell? ⟨wr2.heap.size, 0, none⟩ = some (.int .i64 zW) ∧ w'.cell? ⟨wr2.heap.size, 1, none⟩ = some (.int .i64 zH) ∧ w'.cell? ⟨wr2.heap.size, 2, none⟩ = some (.slice AZ zl.length cZ) ∧ w'.cell? ⟨w.heap.size + 2, 0, none⟩ = some (.int .i64 q0) ∧ w'.cell? ⟨w.heap.size + 2, 1, none⟩ = some (.int .i64 q1) ∧ w'.cell? ⟨w.heap.size + 2, 2, none⟩ = some (.int .i64 q2) ∧ w'.cell? ⟨w.heap.size + 2, 3, none⟩ = some (.int .i64 q3) ∧ w'.cell? ⟨w12.heap.size, 0, none⟩ = some (.int .i64 (q0 % 7 - 3)) ∧ w'.cell? ⟨w12.heap.size, 1, none⟩ = some (.int .i64 (q1 % 7 - 3))) (opsOf Tryd.f3 21) 47 47 (by kernel_rfl) (by kernel_rfl) (by kernel_rfl) (fun w w' h n => ⟨n.cell h.1 id, n.cell h.2.1 id, n.cell h.2.2.1 id, n.cell h.2.2.2.1 id, n.cell h.2.2.2.2.1 id, n.cell h.2.2.2.2.2.1 id, n.cell h.2.2.2.2.2.2.1 id, n.cell h.2.2.2.2.2.2.2.1 id, n.cell h.2.2.2.2.2.2.2.2 id⟩) ⟨by show W45.cell? _ = _; rw [cell_of HBZ.out]; rfl, by show W45.cell? _ = _; rw [cell_of HBZ.out]; rfl, by show W45.cell? _ = _; rw [cell_of HBZ.out]; rfl, by show W45.cell? _ = _; rw [cell_of HB5.out]; rfl, by show W45.cell? _ = _; rw [cell_of HB5.out]; rfl, by show W45.cell? _ = _; rw [cell_of HB5.out]; rfl, by show W45.cell? _ = _; rw [cell_of HB5.out]; rfl, by show W45.cell? _ = _; rw [cell_of HBS.out]; rfl, by show W45.cell? _ = _; rw [cell_of HBS.out]; rfl⟩ (fun HOPS HCL hHeld => ?_)
              refine wpU_named ?_
              intro W46 hW
              try rw [← hW] at hHeld
              have n : Nw W45 W46 := by rw [hW]; exact (Ch.refl _ _).drew
              replace NX := Lib.hid (NX.out.trans n)
              replace RN := Lib.hid (RN.out.kept n id)
              replace MX := Lib.hid (MX.out.kept n id)
              replace HLA := Lib.hid (HLA.out.kept n nof)
              replace HLB := Lib.hid (HLB.out.kept n nof)
              replace HXR := Lib.hid (HXR.out.kept n nof)
              replace HB0 := Lib.hid (n.heap HB0.out id)
              replace HB4 := Lib.hid (n.heap HB4.out id)
              replace HB5 := Lib.hid (n.heap HB5.out id)
              replace SZ := Nat.lt_of_lt_of_le SZ n.size
              replace HIR := Lib.hid (HIR.out.kept n nof)
              replace HMb := Lib.hid ((HMb.out.kept n nof).hi n.size)
              replace HB8 := Lib.hid (n.heap HB8.out id)
              replace HIX := Lib.hid ((HIX.out.kept n nof).hi n.size)
              replace HB9 := Lib.hid (n.heap HB9.out id)
              replace HBS := Lib.hid (n.heap HBS.out id)
              replace HMo := Lib.hid ((HMo.out.kept n nof).hi n.size)
              replace HSB := Lib.hid (n.heap HSB.out id)
              replace HC := Lib.hid (HC.out.trans n)
              replace HMc := Lib.hid ((HMc.out.kept n nof).hi n.size)
              replace HBC := Lib.hid (n.heap HBC.out id)
              replace HSP := Lib.hid (n.heap HSP.out id)
              replace HC2 := Lib.hid (HC2.out.trans n)
              replace HBP := Lib.hid (n.heap HBP.out id)
              replace HIP := Lib.hid ((HIP.out.kept n nof).hi n.size)
              replace HB15 := Lib.hid (n.heap HB15.out id)
              replace HIV := Lib.hid ((HIV.out.kept n nof).hi n.size)
              replace HB17 := Lib.hid (n.heap HB17.out id)
              replace HIU := Lib.hid ((HIU.out.kept n nof).hi n.size)
              replace HSI := Lib.hid (n.heap HSI.out id)
              replace HC3 := Lib.hid (HC3.out.trans n)
              replace HIZ := Lib.hid ((HIZ.out.kept n nof).hi n.size)
              replace HBZ := Lib.hid (n.heap HBZ.out id)
              clear hW n
              first | (refine wpU_takeB (i := 0) (v := ?_) HOPS rfl (by kernel_rfl) (fun _ _ _ h => h) HCL (goes_read (by rfl) ?hy) ?_; case hy => (intro w hSw; (try dsimp only at hSw); go_simp; (try with_reducible rfl))) | (refine wpU_takeB (i := 0) (v := _) HOPS rfl (by kernel_rfl) (fun _ _ _ h => h) HCL (goes_not (by rfl)) ?_)
              try simp only [Act.put, List.getElem_toArray, List.getElem_cons_succ, List.getElem_cons_zero, List.setIfInBounds_toArray, List.set_cons_zero, List.set_cons_succ]
              first | (refine wpU_takeB (i := 1) (v := ?_) HOPS rfl (by kernel_rfl) (fun _ _ _ h => h) HCL (goes_read (by rfl) ?hy) ?_; case hy => (intro w hSw; (try dsimp only at hSw); go_simp; (try with_reducible rfl))) | (refine wpU_takeB (i := 1) (v := _) HOPS rfl (by kernel_rfl) (fun _ _ _ h => h) HCL (goes_not (by rfl)) ?_)
              try simp only [Act.put, List.getElem_toArray, List.getElem_cons_succ, List.getElem_cons_zero, List.setIfInBounds_toArray, List.set_cons_zero, List.set_cons_succ]
              first | (refine wpU_takeB (i := 2) (v := ?_) HOPS rfl (by kernel_rfl) (fun _ _ _ h => h) HCL (goes_read (by rfl) ?hy) ?_; case hy => (intro w hSw; (try dsimp only at hSw); go_simp; (try with_reducible rfl))) | (refine wpU_takeB (i := 2) (v := _) HOPS rfl (by kernel_rfl) (fun _ _ _ h => h) HCL (goes_not (by rfl)) ?_)
              try simp only [Act.put, List.getElem_toArray, List.getElem_cons_succ, List.getElem_cons_zero, List.setIfInBounds_toArray, List.set_cons_zero, List.set_cons_succ]
              first | (refine wpU_takeB (i := 3) (v := ?_) HOPS rfl (by kernel_rfl) (fun _ _ _ h => h) HCL (goes_read (by rfl) ?hy) ?_; case hy => (intro w hSw; (try dsimp only at hSw); go_simp; (try with_reducible rfl))) | (refine wpU_takeB (i := 3) (v := _) HOPS rfl (by kernel_rfl) (fun _ _ _ h => h) HCL (goes_not (by rfl)) ?_)
              try simp only [Act.put, List.getElem_toArray, List.getElem_cons_succ, List.getElem_cons_zero, List.setIfInBounds_toArray, List.set_cons_zero, List.set_cons_succ]
              first | (refine wpU_takeB (i := 4) (v := ?_) HOPS rfl (by kernel_rfl) (fun _ _ _ h => h) HCL (goes_read (by rfl) ?hy) ?_; case hy => (intro w hSw; (try dsimp only at hSw); go_simp; (try with_reducible rfl))) | (refine wpU_takeB (i := 4) (v := _) HOPS rfl (by kernel_rfl) (fun _ _ _ h => h) HCL (goes_not (by rfl)) ?_)
              try simp only [Act.put, List.getElem_toArray, List.getElem_cons_succ, List.getElem_cons_zero, List.setIfInBounds_toArray, List.set_cons_zero, List.set_cons_succ]
              first | (refine wpU_takeB (i := 5) (v := ?_) HOPS rfl (by kernel_rfl) (fun _ _ _ h => h) HCL (goes_read (by rfl) ?hy) ?_; case hy => (intro w hSw; (try dsimp only at hSw); go_simp; (try with_reducible rfl))) | (refine wpU_takeB (i := 5) (v := _) HOPS rfl (by kernel_rfl) (fun _ _ _ h => h) HCL (goes_not (by rfl)) ?_)
              try simp only [Act.put, List.getElem_toArray, List.getElem_cons_succ, List.getElem_cons_zero, List.setIfInBounds_toArray, List.set_cons_zero, List.set_cons_succ]
              first | (refine wpU_takeB (i := 6) (v := ?_) HOPS rfl (by kernel_rfl) (fun _ _ _ h => h) HCL (goes_read (by rfl) ?hy) ?_; case hy => (intro w hSw; (try dsimp only at hSw); go_simp; (try with_reducible rfl))) | (refine wpU_takeB (i := 6) (v := _) HOPS rfl (by kernel_rfl) (fun _ _ _ h => h) HCL (goes_not (by rfl)) ?_)
              try simp only [Act.put, List.getElem_toArray, List.getElem_cons_succ, List.getElem_cons_zero, List.setIfInBounds_toArray, List.set_cons_zero, List.set_cons_succ]
              first | (refine wpU_takeB (i := 7) (v := ?_) HOPS rfl (by kernel_rfl) (fun _ _ _ h => h) HCL (goes_read (by rfl) ?hy) ?_; case hy => (intro w hSw; (try dsimp only at hSw); go_simp; (try with_reducible rfl))) | (refine wpU_takeB (i := 7) (v := _) HOPS rfl (by kernel_rfl) (fun _ _ _ h => h) HCL (goes_not (by rfl)) ?_)
              try simp only [Act.put, List.getElem_toArray, List.getElem_cons_succ, List.getElem_cons_zero, List.setIfInBounds_toArray, List.set_cons_zero, List.set_cons_succ]
              first | (refine wpU_takeB (i := 8) (v := ?_) HOPS rfl (by kernel_rfl) (fun _ _ _ h => h) HCL (goes_read (by rfl) ?hy) ?_; case hy => (intro w hSw; (try dsimp only at hSw); go_simp; (try with_reducible rfl))) | (refine wpU_takeB (i := 8) (v := _) HOPS rfl (by kernel_rfl) (fun _ _ _ h => h) HCL (goes_not (by rfl)) ?_)
              try simp only [Act.put, List.getElem_toArray, List.getElem_cons_succ, List.getElem_cons_zero, List.setIfInBounds_toArray, List.set_cons_zero, List.set_cons_succ]
              first | (refine wpU_takeB (i := 9) (v := ?_) HOPS rfl (by kernel_rfl) (fun _ _ _ h => h) HCL (goes_read (by rfl) ?hy) ?_; case hy => (intro w hSw; (try dsimp only at hSw); go_simp; (try with_reducible rfl))) | (refine wpU_takeB (i := 9) (v := _) HOPS rfl (by kernel_rfl) (fun _ _ _ h => h) HCL (goes_not (by rfl)) ?_)
              try simp only [Act.put, List.getElem_toArray, List.getElem_cons_succ, List.getElem_cons_zero, List.setIfInBounds_toArray, List.set_cons_zero, List.set_cons_succ]
              first | (refine wpU_takeB (i := 10) (v := ?_) HOPS rfl (by kernel_rfl) (fun _ _ _ h => h) HCL (goes_read (by rfl) ?hy) ?_; case hy => (intro w hSw; (try dsimp only at hSw); go_simp; (try with_reducible rfl))) | (refine wpU_takeB (i := 10) (v := _) HOPS rfl (by kernel_rfl) (fun _ _ _ h => h) HCL (goes_not (by rfl)) ?_)
              try simp only [Act.put, List.getElem_toArray, List.getElem_cons_succ, List.getElem_cons_zero, List.setIfInBounds_toArray, List.set_cons_zero, List.set_cons_succ]
              first | (refine wpU_takeB (i := 11) (v := ?_) HOPS rfl (by kernel_rfl) (fun _ _ _ h => h) HCL (goes_read (by rfl) ?hy) ?_; case hy => (intro w hSw; (try dsimp only at hSw); go_simp; (try with_reducible rfl))) | (refine wpU_takeB (i := 11) (v := _) HOPS rfl (by kernel_rfl) (fun _ _ _ h => h) HCL (goes_not (by rfl)) ?_)
              try simp only [Act.put, List.getElem_toArray, List.getElem_cons_succ, List.getElem_cons_zero, List.setIfInBounds_toArray, List.set_cons_zero, List.set_cons_succ]
              first | (refine wpU_takeB (i := 12) (v := ?_) HOPS rfl (by kernel_rfl) (fun _ _ _ h => h) HCL (goes_read (by rfl) ?hy) ?_; case hy => (intro w hSw; (try dsimp only at hSw); go_simp; (try with_reducible rfl))) | (refine wpU_takeB (i := 12) (v := _) HOPS rfl (by kernel_rfl) (fun _ _ _ h => h) HCL (goes_not (by rfl)) ?_)
              try simp only [Act.put, List.getElem_toArray, List.getElem_cons_succ, List.getElem_cons_zero, List.setIfInBounds_toArray, List.set_cons_zero, List.set_cons_succ]
              first | (refine wpU_takeB (i := 13) (v := ?_) HOPS rfl (by kernel_rfl) (fun _ _ _ h => h) HCL (goes_read (by rfl) ?hy) ?_; case hy => (intro w hSw; (try dsimp only at hSw); go_simp; (try with_reducible rfl))) | (refine wpU_takeB (i := 13) (v := _) HOPS rfl (by kernel_rfl) (fun _ _ _ h => h) HCL (goes_not (by rfl)) ?_)
              try simp only [Act.put, List.getElem_toArray, List.getElem_cons_succ, List.getElem_cons_zero, List.setIfInBounds_toArray, List.set_cons_zero, List.set_cons_succ]
              first | (refine wpU_takeB (i := 14) (v := ?_) HOPS rfl (by kernel_rfl) (fun _ _ _ h => h) HCL (goes_read (by rfl) ?hy) ?_; case hy => (intro w hSw; (try dsimp only at hSw); go_simp; (try with_reducible rfl))) | (refine wpU_takeB (i := 14) (v := _) HOPS rfl (by kernel_rfl) (fun _ _ _ h => h) HCL (goes_not (by rfl)) ?_)
              try simp only [Act.put, List.getElem_toArray, List.getElem_cons_succ, List.getElem_cons_zero, List.setIfInBounds_toArray, List.set_cons_zero, List.set_cons_succ]
              first | (refine wpU_takeB (i := 15) (v := ?_) HOPS rfl (by kernel_rfl) (fun _ _ _ h => h) HCL (goes_read (by rfl) ?hy) ?_; case hy => (intro w hSw; (try dsimp only at hSw); go_simp; (try with_reducible rfl))) | (refine wpU_takeB (i := 15) (v := _) HOPS rfl (by kernel_rfl) (fun _ _ _ h => h) HCL (goes_not (by rfl)) ?_)
              try simp only [Act.put, List.getElem_toArray, List.getElem_cons_succ, List.getElem_cons_zero, List.setIfInBounds_toArray, List.set_cons_zero, List.set_cons_succ]
              first | (refine wpU_takeB (i := 16) (v := ?_) HOPS rfl (by kernel_rfl) (fun _ _ _ h => h) HCL (goes_read (by rfl) ?hy) ?_; case hy => (intro w hSw; (try dsimp only at hSw); go_simp; (try with_reducible rfl))) | (refine wpU_takeB (i := 16) (v := _) HOPS rfl (by kernel_rfl) (fun _ _ _ h => h) HCL (goes_not (by rfl)) ?_)
              try simp only [Act.put, List.getElem_toArray, List.getElem_cons_succ, List.getElem_cons_zero, List.setIfInBounds_toArray, List.set_cons_zero, List.set_cons_succ]
              first | (refine wpU_takeB (i := 17) (v := ?_) HOPS rfl (by kernel_rfl) (fun _ _ _ h => h) HCL (goes_read (by rfl) ?hy) ?_; case hy => (intro w hSw; (try dsimp only at hSw); go_simp; (try with_reducible rfl))) | (refine wpU_takeB (i := 17) (v := _) HOPS rfl (by kernel_rfl) (fun _ _ _ h => h) HCL (goes_not (by rfl)) ?_)
              try simp only [Act.put, List.getElem_toArray, List.getElem_cons_succ, List.getElem_cons_zero, List.setIfInBounds_toArray, List.set_cons_zero, List.set_cons_succ]
              first | (refine wpU_takeB (i := 18) (v := ?_) HOPS rfl (by kernel_rfl) (fun _ _ _ h => h) HCL (goes_read (by rfl) ?hy) ?_; case hy => (intro w hSw; (try dsimp only at hSw); go_simp; (try with_reducible rfl))) | (refine wpU_takeB (i := 18) (v := _) HOPS rfl (by kernel_rfl) (fun _ _ _ h => h) HCL (goes_not (by rfl)) ?_)
              try simp only [Act.put, List.getElem_toArray, List.getElem_cons_succ, List.getElem_cons_zero, List.setIfInBounds_toArray, List.set_cons_zero, List.set_cons_succ]
              first | (refine wpU_takeB (i := 20) (v := ?_) HOPS rfl (by kernel_rfl) (fun _ _ _ h => h) HCL (goes_read (by rfl) ?hy) ?_; case hy => (intro w hSw; (try dsimp only at hSw); go_simp; (try with_reducible rfl))) | (refine wpU_takeB (i := 20) (v := _) HOPS rfl (by kernel_rfl) (fun _ _ _ h => h) HCL (goes_not (by rfl)) ?_)
              try simp only [Act.put, List.getElem_toArray, List.getElem_cons_succ, List.getElem_cons_zero, List.setIfInBounds_toArray, List.set_cons_zero, List.set_cons_succ]
              first | (refine wpU_takeB (i := 21) (v := ?_) HOPS rfl (by kernel_rfl) (fun _ _ _ h => h) HCL (goes_read (by rfl) ?hy) ?_; case hy => (intro w hSw; (try dsimp only at hSw); go_simp; (try with_reducible rfl))) | (refine wpU_takeB (i := 21) (v := _) HOPS rfl (by kernel_rfl) (fun _ _ _ h => h) HCL (goes_not (by rfl)) ?_)
              try simp only [Act.put, List.getElem_toArray, List.getElem_cons_succ, List.getElem_cons_zero, List.setIfInBounds_toArray, List.set_cons_zero, List.set_cons_succ]
              first | (refine wpU_takeB (i := 22) (v := ?_) HOPS rfl (by kernel_rfl) (fun _ _ _ h => h) HCL (goes_read (by rfl) ?hy) ?_; case hy => (intro w hSw; (try dsimp only at hSw); go_simp; (try with_reducible rfl))) | (refine wpU_takeB (i := 22) (v := _) HOPS rfl (by kernel_rfl) (fun _ _ _ h => h) HCL (goes_not (by rfl)) ?_)
              try simp only [Act.put, List.getElem_toArray, List.getElem_cons_succ, List.getElem_cons_zero, List.setIfInBounds_toArray, List.set_cons_zero, List.set_cons_succ]
              first | (refine wpU_takeB (i := 23) (v := ?_) HOPS rfl (by kernel_rfl) (fun _ _ _ h => h) HCL (goes_read (by rfl) ?hy) ?_; case hy => (intro w hSw; (try dsimp only at hSw); go_simp; (try with_reducible rfl))) | (refine wpU_takeB (i := 23) (v := _) HOPS rfl (by kernel_rfl) (fun _ _ _ h => h) HCL (goes_not (by rfl)) ?_)
              try simp only [Act.put, List.getElem_toArray, List.getElem_cons_succ, List.getElem_cons_zero, List.setIfInBounds_toArray, List.set_cons_zero, List.set_cons_succ]
              first | (refine wpU_takeB (i := 24) (v := ?_) HOPS rfl (by kernel_rfl) (fun _ _ _ h => h) HCL (goes_read (by rfl) ?hy) ?_; case hy => (intro w hSw; (try dsimp only at hSw); go_simp; (try with_reducible rfl))) | (refine wpU_takeB (i := 24) (v := _) HOPS rfl (by kernel_rfl) (fun _ _ _ h => h) HCL (goes_not (by rfl)) ?_)
              try simp only [Act.put, List.getElem_toArray, List.getElem_cons_succ, List.getElem_cons_zero, List.setIfInBounds_toArray, List.set_cons_zero, List.set_cons_succ]
              refine wpU_ready (rs := [19]) (by kernel_rfl) (by simp) ?_
              intro w47 hle
              obtain ⟨n, hHeld⟩ := hle.ahead (by kernel_rfl)
              clear hle
              replace NX := Lib.hid (NX.out.trans n)
              replace RN := Lib.hid (RN.out.kept n id)
              replace MX := Lib.hid (MX.out.kept n id)
              replace HLA := Lib.hid (HLA.out.kept n nof)
              replace HLB := Lib.hid (HLB.out.kept n nof)
              replace HXR := Lib.hid (HXR.out.kept n nof)
              replace HB0 := Lib.hid (n.heap HB0.out id)
              replace HB4 := Lib.hid (n.heap HB4.out id)
              replace HB5 := Lib.hid (n.heap HB5.out id)
              replace SZ := Nat.lt_of_lt_of_le SZ n.size
              replace HIR := Lib.hid (HIR.out.kept n nof)
              replace HMb := Lib.hid ((HMb.out.kept n nof).hi n.size)
              replace HB8 := Lib.hid (n.heap HB8.out id)
              replace HIX := Lib.hid ((HIX.out.kept n nof).hi n.size)
              replace HB9 := Lib.hid (n.heap HB9.out id)
              replace HBS := Lib.hid (n.heap HBS.out id)
              replace HMo := Lib.hid ((HMo.out.kept n nof).hi n.size)
              replace HSB := Lib.hid (n.heap HSB.out id)
              replace HC := Lib.hid (HC.out.trans n)
              replace HMc := Lib.hid ((HMc.out.kept n nof).hi n.size)
              replace HBC := Lib.hid (n.heap HBC.out id)
              replace HSP := Lib.hid (n.heap HSP.out id)
              replace HC2 := Lib.hid (HC2.out.trans n)
              replace HBP := Lib.hid (n.heap HBP.out id)
              replace HIP := Lib.hid ((HIP.out.kept n nof).hi n.size)
              replace HB15 := Lib.hid (n.heap HB15.out id)
              replace HIV := Lib.hid ((HIV.out.kept n nof).hi n.size)
              replace HB17 := Lib.hid (n.heap HB17.out id)
              replace HIU := Lib.hid ((HIU.out.kept n nof).hi n.size)
              replace HSI := Lib.hid (n.heap HSI.out id)
              replace HC3 := Lib.hid (HC3.out.trans n)
              replace HIZ := Lib.hid ((HIZ.out.kept n nof).hi n.size)
              replace HBZ := Lib.hid (n.heap HBZ.out id)
              clear n
              refine ReadyU.cons HOPS rfl (by rfl) (fun K hK => ?_) ReadyU.nil
              go_simp
              go_at_call 20
              refine imHide_any w47.heap.size _ (zW, zH, zl) q2 q3 _ _ HIZ.out (Nat.le_refl _) Q2.out Q3.out ?_
              intro w48 v hi n
              replace NX := Lib.hid (NX.out.trans n)
              replace RN := Lib.hid (RN.out.kept n id)
              replace MX := Lib.hid (MX.out.kept n id)
              replace HLA := Lib.hid (HLA.out.kept n nof)
              replace HLB := Lib.hid (HLB.out.kept n nof)
              replace HXR := Lib.hid (HXR.out.kept n nof)
              replace HB0 := Lib.hid (n.heap HB0.out id)
              replace HB4 := Lib.hid (n.heap HB4.out id)
              replace HB5 := Lib.hid (n.heap HB5.out id)
              replace SZ := Nat.lt_of_lt_of_le SZ n.size
              replace HIR := Lib.hid (HIR.out.kept n nof)
              replace HMb := Lib.hid ((HMb.out.kept n nof).hi n.size)
              replace HB8 := Lib.hid (n.heap HB8.out id)
              replace HIX := Lib.hid ((HIX.out.kept n nof).hi n.size)
              replace HB9 := Lib.hid (n.heap HB9.out id)
              replace HBS := Lib.hid (n.heap HBS.out id)
              replace HMo := Lib.hid ((HMo.out.kept n nof).hi n.size)
              replace HSB := Lib.hid (n.heap HSB.out id)
              replace HC := Lib.hid (HC.out.trans n)
              replace HMc := Lib.hid ((HMc.out.kept n nof).hi n.size)
              replace HBC := Lib.hid (n.heap HBC.out id)
              replace HSP := Lib.hid (n.heap HSP.out id)
              replace HC2 := Lib.hid (HC2.out.trans n)
              replace HBP := Lib.hid (n.heap HBP.out id)
              replace HIP := Lib.hid ((HIP.out.kept n nof).hi n.size)
              replace HB15 := Lib.hid (n.heap HB15.out id)
              replace HIV := Lib.hid ((HIV.out.kept n nof).hi n.size)
              replace HB17 := Lib.hid (n.heap HB17.out id)
              replace HIU := Lib.hid ((HIU.out.kept n nof).hi n.size)
              replace HSI := Lib.hid (n.heap HSI.out id)
              replace HC3 := Lib.hid (HC3.out.trans n)
              replace HIZ := Lib.hid ((HIZ.out.kept n nof).hi n.size)
              replace HBZ := Lib.hid (n.heap HBZ.out id)
              obtain ⟨Hg, hHg⟩ : ∃ H, hideM (zW, zH, zl) q2 q3 = H := ⟨_, rfl⟩
              have HHg := Lib.hid hHg
              rw [hHg] at hi
              clear hHg
              obtain ⟨gW, gH, gl⟩ := Hg
              obtain ⟨Ag1, cg1, rfl, hI⟩ := isIm_formN (W := gW) (H := gH) (n := gl.length) hi rfl rfl rfl
              have HIg1 := Lib.hid hI
              clear hi hI
              refine hK.out _ _ n ⟨by show w48.cell? _ = _; rw [cell_of HBZ.out]; rfl, by show w48.cell? _ = _; rw [cell_of HBZ.out]; rfl, by show w48.cell? _ = _; rw [cell_of HBZ.out]; rfl, by show w48.cell? _ = _; rw [cell_of HB5.out]; rfl, by show w48.cell? _ = _; rw [cell_of HB5.out]; rfl, by show w48.cell? _ = _; rw [cell_of HB5.out]; rfl, by show w48.cell? _ = _; rw [cell_of HB5.out]; rfl, by show w48.cell? _ = _; rw [cell_of HBS.out]; rfl, by show w48.cell? _ = _; rw [cell_of HBS.out]; rfl⟩ (fun hHeld => ?_)
              clear hK K n
              try simp only [Act.put, List.getElem_toArray, List.getElem_cons_succ, List.getElem_cons_zero, List.setIfInBounds_toArray, List.set_cons_zero, List.set_cons_succ]
              refine wpU_ready (rs := [25]) (by kernel_rfl) (by simp) ?_
              intro w49 hle
              obtain ⟨n, hHeld⟩ := hle.ahead (by kernel_rfl)
              clear hle
              replace NX := Lib.hid (NX.out.trans n)
              replace RN := Lib.hid (RN.out.kept n id)
              replace MX := Lib.hid (MX.out.kept n id)
              replace HLA := Lib.hid (HLA.out.kept n nof)
              replace HLB := Lib.hid (HLB.out.kept n nof)
              replace HXR := Lib.hid (HXR.out.kept n nof)
              replace HB0 := Lib.hid (n.heap HB0.out id)
              replace HB4 := Lib.hid (n.heap HB4.out id)
              replace HB5 := Lib.hid (n.heap HB5.out id)
              replace SZ := Nat.lt_of_lt_of_le SZ n.size
              replace HIR := Lib.hid (HIR.out.kept n nof)
              replace HMb := Lib.hid ((HMb.out.kept n nof).hi n.size)
              replace HB8 := Lib.hid (n.heap HB8.out id)
              replace HIX := Lib.hid ((HIX.out.kept n nof).hi n.size)
              replace HB9 := Lib.hid (n.heap HB9.out id)
              replace HBS := Lib.hid (n.heap HBS.out id)
              replace HMo := Lib.hid ((HMo.out.kept n nof).hi n.size)
              replace HSB := Lib.hid (n.heap HSB.out id)
              replace HC := Lib.hid (HC.out.trans n)
              replace HMc := Lib.hid ((HMc.out.kept n nof).hi n.size)
              replace HBC := Lib.hid (n.heap HBC.out id)
              replace HSP := Lib.hid (n.heap HSP.out id)
              replace HC2 := Lib.hid (HC2.out.trans n)
              replace HBP := Lib.hid (n.heap HBP.out id)
              replace HIP := Lib.hid ((HIP.out.kept n nof).hi n.size)
              replace HB15 := Lib.hid (n.heap HB15.out id)
              replace HIV := Lib.hid ((HIV.out.kept n nof).hi n.size)
              replace HB17 := Lib.hid (n.heap HB17.out id)
              replace HIU := Lib.hid ((HIU.out.kept n nof).hi n.size)
              replace HSI := Lib.hid (n.heap HSI.out id)
              replace HC3 := Lib.hid (HC3.out.trans n)
              replace HIZ := Lib.hid ((HIZ.out.kept n nof).hi n.size)
              replace HBZ := Lib.hid (n.heap HBZ.out id)
              replace HIg1 := Lib.hid ((HIg1.out.kept n nof).hi n.size)
              clear n
              refine ReadyU.cons HOPS rfl (by rfl) (fun K hK => ?_) ReadyU.nil
              go_simp
              go_at_call 21
              refine riHide_any w49.heap.size _ (zW, zH, zl) q2 q3 _ _ HIZ.out (Nat.le_refl _) Q2.out Q3.out ?_
              intro w50 v hi n
              replace NX := Lib.hid (NX.out.trans n)
              replace RN := Lib.hid (RN.out.kept n id)
              replace MX := Lib.hid (MX.out.kept n id)
              replace HLA := Lib.hid (HLA.out.kept n nof)
              replace HLB := Lib.hid (HLB.out.kept n nof)
              replace HXR := Lib.hid (HXR.out.kept n nof)
              replace HB0 := Lib.hid (n.heap HB0.out id)
              replace HB4 := Lib.hid (n.heap HB4.out id)
              replace HB5 := Lib.hid (n.heap HB5.out id)
              replace SZ := Nat.lt_of_lt_of_le SZ n.size
              replace HIR := Lib.hid (HIR.out.kept n nof)
              replace HMb := Lib.hid ((HMb.out.kept n nof).hi n.size)
              replace HB8 := Lib.hid (n.heap HB8.out id)
              replace HIX := Lib.hid ((HIX.out.kept n nof).hi n.size)
              replace HB9 := Lib.hid (n.heap HB9.out id)
              replace HBS := Lib.hid (n.heap HBS.out id)
              replace HMo := Lib.hid ((HMo.out.kept n nof).hi n.size)
              replace HSB := Lib.hid (n.heap HSB.out id)
              replace HC := Lib.hid (HC.out.trans n)
              replace HMc := Lib.hid ((HMc.out.kept n nof).hi n.size)
              replace HBC := Lib.hid (n.heap HBC.out id)
              replace HSP := Lib.hid (n.heap HSP.out id)
              replace HC2 := Lib.hid (HC2.out.trans n)
              replace HBP := Lib.hid (n.heap HBP.out id)
              replace HIP := Lib.hid ((HIP.out.kept n nof).hi n.size)
              replace HB15 := Lib.hid (n.heap HB15.out id)
              replace HIV := Lib.hid ((HIV.out.kept n nof).hi n.size)
              replace HB17 := Lib.hid (n.heap HB17.out id)
              replace HIU := Lib.hid ((HIU.out.kept n nof).hi n.size)
              replace HSI := Lib.hid (n.heap HSI.out id)
              replace HC3 := Lib.hid (HC3.out.trans n)
              replace HIZ := Lib.hid ((HIZ.out.kept n nof).hi n.size)
              replace HBZ := Lib.hid (n.heap HBZ.out id)
              replace HIg1 := Lib.hid ((HIg1.out.kept n nof).hi n.size)
              rw [HHg.out] at hi
              obtain ⟨Ag2, cg2, rfl, hI⟩ := isIm_formN (W := gW) (H := gH) (n := gl.length) hi rfl rfl rfl
              have HIg2 := Lib.hid hI
              clear hi hI
              refine hK.out _ _ n ⟨by show w50.cell? _ = _; rw [cell_of HBZ.out]; rfl, by show w50.cell? _ = _; rw [cell_of HBZ.out]; rfl, by show w50.cell? _ = _; rw [cell_of HBZ.out]; rfl, by show w50.cell? _ = _; rw [cell_of HB5.out]; rfl, by show w50.cell? _ = _; rw [cell_of HB5.out]; rfl, by show w50.cell? _ = _; rw [cell_of HB5.out]; rfl, by show w50.cell? _ = _; rw [cell_of HB5.out]; rfl, by show w50.cell? _ = _; rw [cell_of HBS.out]; rfl, by show w50.cell? _ = _; rw [cell_of HBS.out]; rfl⟩ (fun hHeld => ?_)
              clear hK K n
              try simp only [Act.put, List.getElem_toArray, List.getElem_cons_succ, List.getElem_cons_zero, List.setIfInBounds_toArray, List.set_cons_zero, List.set_cons_succ]
              refine wpU_ready (rs := [26]) (by kernel_rfl) (by simp) ?_
              intro w51 hle
              obtain ⟨n, hHeld⟩ := hle.ahead (by kernel_rfl)
              clear hle
              replace NX := Lib.hid (NX.out.trans n)
              replace RN := Lib.hid (RN.out.kept n id)
              replace MX := Lib.hid (MX.out.kept n id)
              replace HLA := Lib.hid (HLA.out.kept n nof)
              replace HLB := Lib.hid (HLB.out.kept n nof)
              replace HXR := Lib.hid (HXR.out.kept n nof)
              replace HB0 := Lib.hid (n.heap HB0.out id)
              replace HB4 := Lib.hid (n.heap HB4.out id)
              replace HB5 := Lib.hid (n.heap HB5.out id)
              replace SZ := Nat.lt_of_lt_of_le SZ n.size
              replace HIR := Lib.hid (HIR.out.kept n nof)
              replace HMb := Lib.hid ((HMb.out.kept n nof).hi n.size)
              replace HB8 := Lib.hid (n.heap HB8.out id)
              replace HIX := Lib.hid ((HIX.out.kept n nof).hi n.size)
              replace HB9 := Lib.hid (n.heap HB9.out id)
              replace HBS := Lib.hid (n.heap HBS.out id)
              replace HMo := Lib.hid ((HMo.out.kept n nof).hi n.size)
              replace HSB := Lib.hid (n.heap HSB.out id)
              replace HC := Lib.hid (HC.out.trans n)
              replace HMc := Lib.hid ((HMc.out.kept n nof).hi n.size)
              replace HBC := Lib.hid (n.heap HBC.out id)
              replace HSP := Lib.hid (n.heap HSP.out id)
              replace HC2 := Lib.hid (HC2.out.trans n)
              replace HBP := Lib.hid (n.heap HBP.out id)
              replace HIP := Lib.hid ((HIP.out.kept n nof).hi n.size)
              replace HB15 := Lib.hid (n.heap HB15.out id)
              replace HIV := Lib.hid ((HIV.out.kept n nof).hi n.size)
              replace HB17 := Lib.hid (n.heap HB17.out id)
              replace HIU := Lib.hid ((HIU.out.kept n nof).hi n.size)
              replace HSI := Lib.hid (n.heap HSI.out id)
              replace HC3 := Lib.hid (HC3.out.trans n)
              replace HIZ := Lib.hid ((HIZ.out.kept n nof).hi n.size)
              replace HBZ := Lib.hid (n.heap HBZ.out id)
              replace HIg1 := Lib.hid ((HIg1.out.kept n nof).hi n.size)
              replace HIg2 := Lib.hid ((HIg2.out.kept n nof).hi n.size)
              clear n
              refine ReadyU.cons HOPS rfl (by rfl) (fun K hK => ?_) ReadyU.nil
              go_simp
              go_at_call 16
              refine riSame_any _ _ _ (gW, gH, gl) (gW, gH, gl) _ _ HIg1.out HIg2.out ?_
              rw [decide_eq_true rfl]
              intro w52 n
              replace NX := Lib.hid (NX.out.trans n)
              replace RN := Lib.hid (RN.out.kept n id)
              replace MX := Lib.hid (MX.out.kept n id)
              replace HLA := Lib.hid (HLA.out.kept n nof)
              replace HLB := Lib.hid (HLB.out.kept n nof)
              replace HXR := Lib.hid (HXR.out.kept n nof)
              replace HB0 := Lib.hid (n.heap HB0.out id)
              replace HB4 := Lib.hid (n.heap HB4.out id)
              replace HB5 := Lib.hid (n.heap HB5.out id)
              replace SZ := Nat.lt_of_lt_of_le SZ n.size
              replace HIR := Lib.hid (HIR.out.kept n nof)
              replace HMb := Lib.hid ((HMb.out.kept n nof).hi n.size)
              replace HB8 := Lib.hid (n.heap HB8.out id)
              replace HIX := Lib.hid ((HIX.out.kept n nof).hi n.size)
              replace HB9 := Lib.hid (n.heap HB9.out id)
              replace HBS := Lib.hid (n.heap HBS.out id)
              replace HMo := Lib.hid ((HMo.out.kept n nof).hi n.size)
              replace HSB := Lib.hid (n.heap HSB.out id)
              replace HC := Lib.hid (HC.out.trans n)
              replace HMc := Lib.hid ((HMc.out.kept n nof).hi n.size)
              replace HBC := Lib.hid (n.heap HBC.out id)
              replace HSP := Lib.hid (n.heap HSP.out id)
              replace HC2 := Lib.hid (HC2.out.trans n)
              replace HBP := Lib.hid (n.heap HBP.out id)
              replace HIP := Lib.hid ((HIP.out.kept n nof).hi n.size)
              replace HB15 := Lib.hid (n.heap HB15.out id)
              replace HIV := Lib.hid ((HIV.out.kept n nof).hi n.size)
              replace HB17 := Lib.hid (n.heap HB17.out id)
              replace HIU := Lib.hid ((HIU.out.kept n nof).hi n.size)
              replace HSI := Lib.hid (n.heap HSI.out id)
              replace HC3 := Lib.hid (HC3.out.trans n)
              replace HIZ := Lib.hid ((HIZ.out.kept n nof).hi n.size)
              replace HBZ := Lib.hid (n.heap HBZ.out id)
              replace HIg1 := Lib.hid ((HIg1.out.kept n nof).hi n.size)
              replace HIg2 := Lib.hid ((HIg2.out.kept n nof).hi n.size)
              refine hK.out _ _ n ⟨by show w52.cell? _ = _; rw [cell_of HBZ.out]; rfl, by show w52.cell? _ = _; rw [cell_of HBZ.out]; rfl, by show w52.cell? _ = _; rw [cell_of HBZ.out]; rfl, by show w52.cell? _ = _; rw [cell_of HB5.out]; rfl, by show w52.cell? _ = _; rw [cell_of HB5.out]; rfl, by show w52.cell? _ = _; rw [cell_of HB5.out]; rfl, by show w52.cell? _ = _; rw [cell_of HB5.out]; rfl, by show w52.cell? _ = _; rw [cell_of HBS.out]; rfl, by show w52.cell? _ = _; rw [cell_of HBS.out]; rfl⟩ (fun hHeld => ?_)
              clear hK K n
              try simp only [Act.put, List.getElem_toArray, List.getElem_cons_succ, List.getElem_cons_zero, List.setIfInBounds_toArray, List.set_cons_zero, List.set_cons_succ]
              first | (refine wpU_takeB (i := 27) (v := ?_) HOPS rfl (by kernel_rfl) (fun _ _ _ h => h) HCL (goes_read (by rfl) ?hy) ?_; case hy => (intro w hSw; (try dsimp only at hSw); go_simp; (try with_reducible rfl))) | (refine wpU_takeB (i := 27) (v := _) HOPS rfl (by kernel_rfl) (fun _ _ _ h => h) HCL (goes_not (by rfl)) ?_)
              try simp only [Act.put, List.getElem_toArray, List.getElem_cons_succ, List.getElem_cons_zero, List.setIfInBounds_toArray, List.set_cons_zero, List.set_cons_succ]
              first | (refine wpU_takeB (i := 28) (v := ?_) HOPS rfl (by kernel_rfl) (fun _ _ _ h => h) HCL (goes_read (by rfl) ?hy) ?_; case hy => (intro w hSw; (try dsimp only at hSw); go_simp; (try with_reducible rfl))) | (refine wpU_takeB (i := 28) (v := _) HOPS rfl (by kernel_rfl) (fun _ _ _ h => h) HCL (goes_not (by rfl)) ?_)
              try simp only [Act.put, List.getElem_toArray, List.getElem_cons_succ, List.getElem_cons_zero, List.setIfInBounds_toArray, List.set_cons_zero, List.set_cons_succ]
              first | (refine wpU_takeB (i := 29) (v := ?_) HOPS rfl (by kernel_rfl) (fun _ _ _ h => h) HCL (goes_read (by rfl) ?hy) ?_; case hy => (intro w hSw; (try dsimp only at hSw); go_simp; (try with_reducible rfl))) | (refine wpU_takeB (i := 29) (v := _) HOPS rfl (by kernel_rfl) (fun _ _ _ h => h) HCL (goes_not (by rfl)) ?_)
              try simp only [Act.put, List.getElem_toArray, List.getElem_cons_succ, List.getElem_cons_zero, List.setIfInBounds_toArray, List.set_cons_zero, List.set_cons_succ]
              first | (refine wpU_takeB (i := 30) (v := ?_) HOPS rfl (by kernel_rfl) (fun _ _ _ h => h) HCL (goes_read (by rfl) ?hy) ?_; case hy => (intro w hSw; (try dsimp only at hSw); go_simp; (try with_reducible rfl))) | (refine wpU_takeB (i := 30) (v := _) HOPS rfl (by kernel_rfl) (fun _ _ _ h => h) HCL (goes_not (by rfl)) ?_)
              try simp only [Act.put, List.getElem_toArray, List.getElem_cons_succ, List.getElem_cons_zero, List.setIfInBounds_toArray, List.set_cons_zero, List.set_cons_succ]
              first | (refine wpU_takeB (i := 31) (v := ?_) HOPS rfl (by kernel_rfl) (fun _ _ _ h => h) HCL (goes_read (by rfl) ?hy) ?_; case hy => (intro w hSw; (try dsimp only at hSw); go_simp; (try with_reducible rfl))) | (refine wpU_takeB (i := 31) (v := _) HOPS rfl (by kernel_rfl) (fun _ _ _ h => h) HCL (goes_not (by rfl)) ?_)
              try simp only [Act.put, List.getElem_toArray, List.getElem_cons_succ, List.getElem_cons_zero, List.setIfInBounds_toArray, List.set_cons_zero, List.set_cons_succ]
              first | (refine wpU_takeB (i := 32) (v := ?_) HOPS rfl (by kernel_rfl) (fun _ _ _ h => h) HCL (goes_read (by rfl) ?hy) ?_; case hy => (intro w hSw; (try dsimp only at hSw); go_simp; (try with_reducible rfl))) | (refine wpU_takeB (i := 32) (v := _) HOPS rfl (by kernel_rfl) (fun _ _ _ h => h) HCL (goes_not (by rfl)) ?_)
              try simp only [Act.put, List.getElem_toArray, List.getElem_cons_succ, List.getElem_cons_zero, List.setIfInBounds_toArray, List.set_cons_zero, List.set_cons_succ]
              first | (refine wpU_takeB (i := 33) (v := ?_) HOPS rfl (by kernel_rfl) (fun _ _ _ h => h) HCL (goes_read (by rfl) ?hy) ?_; case hy => (intro w hSw; (try dsimp only at hSw); go_simp; (try with_reducible rfl))) | (refine wpU_takeB (i := 33) (v := _) HOPS rfl (by kernel_rfl) (fun _ _ _ h => h) HCL (goes_not (by rfl)) ?_)
              try simp only [Act.put, List.getElem_toArray, List.getElem_cons_succ, List.getElem_cons_zero, List.setIfInBounds_toArray, List.set_cons_zero, List.set_cons_succ]
              first | (refine wpU_takeB (i := 34) (v := ?_) HOPS rfl (by kernel_rfl) (fun _ _ _ h => h) HCL (goes_read (by rfl) ?hy) ?_; case hy => (intro w hSw; (try dsimp only at hSw); go_simp; (try with_reducible rfl))) | (refine wpU_takeB (i := 34) (v := _) HOPS rfl (by kernel_rfl) (fun _ _ _ h => h) HCL (goes_not (by rfl)) ?_)
              try simp only [Act.put, List.getElem_toArray, List.getElem_cons_succ, List.getElem_cons_zero, List.setIfInBounds_toArray, List.set_cons_zero, List.set_cons_succ]
              first | (refine wpU_takeB (i := 35) (v := ?_) HOPS rfl (by kernel_rfl) (fun _ _ _ h => h) HCL (goes_read (by rfl) ?hy) ?_; case hy => (intro w hSw; (try dsimp only at hSw); go_simp; (try with_reducible rfl))) | (refine wpU_takeB (i := 35) (v := _) HOPS rfl (by kernel_rfl) (fun _ _ _ h => h) HCL (goes_not (by rfl)) ?_)
              try simp only [Act.put, List.getElem_toArray, List.getElem_cons_succ, List.getElem_cons_zero, List.setIfInBounds_toArray, List.set_cons_zero, List.set_cons_succ]
              first | (refine wpU_takeB (i := 37) (v := ?_) HOPS rfl (by kernel_rfl) (fun _ _ _ h => h) HCL (goes_read (by rfl) ?hy) ?_; case hy => (intro w hSw; (try dsimp only at hSw); go_simp; (try with_reducible rfl))) | (refine wpU_takeB (i := 37) (v := _) HOPS rfl (by kernel_rfl) (fun _ _ _ h => h) HCL (goes_not (by rfl)) ?_)
              try simp only [Act.put, List.getElem_toArray, List.getElem_cons_succ, List.getElem_cons_zero, List.setIfInBounds_toArray, List.set_cons_zero, List.set_cons_succ]
              first | (refine wpU_takeB (i := 38) (v := ?_) HOPS rfl (by kernel_rfl) (fun _ _ _ h => h) HCL (goes_read (by rfl) ?hy) ?_; case hy => (intro w hSw; (try dsimp only at hSw); go_simp; (try with_reducible rfl))) | (refine wpU_takeB (i := 38) (v := _) HOPS rfl (by kernel_rfl) (fun _ _ _ h => h) HCL (goes_not (by rfl)) ?_)
              try simp only [Act.put, List.getElem_toArray, List.getElem_cons_succ, List.getElem_cons_zero, List.setIfInBounds_toArray, List.set_cons_zero, List.set_cons_succ]
              first | (refine wpU_takeB (i := 39) (v := ?_) HOPS rfl (by kernel_rfl) (fun _ _ _ h => h) HCL (goes_read (by rfl) ?hy) ?_; case hy => (intro w hSw; (try dsimp only at hSw); go_simp; (try with_reducible rfl))) | (refine wpU_takeB (i := 39) (v := _) HOPS rfl (by kernel_rfl) (fun _ _ _ h => h) HCL (goes_not (by rfl)) ?_)
              try simp only [Act.put, List.getElem_toArray, List.getElem_cons_succ, List.getElem_cons_zero, List.setIfInBounds_toArray, List.set_cons_zero, List.set_cons_succ]
              first | (refine wpU_takeB (i := 40) (v := ?_) HOPS rfl (by kernel_rfl) (fun _ _ _ h => h) HCL (goes_read (by rfl) ?hy) ?_; case hy => (intro w hSw; (try dsimp only at hSw); go_simp; (try with_reducible rfl))) | (refine wpU_takeB (i := 40) (v := _) HOPS rfl (by kernel_rfl) (fun _ _ _ h => h) HCL (goes_not (by rfl)) ?_)
              try simp only [Act.put, List.getElem_toArray, List.getElem_cons_succ, List.getElem_cons_zero, List.setIfInBounds_toArray, List.set_cons_zero, List.set_cons_succ]
              first | (refine wpU_takeB (i := 41) (v := ?_) HOPS rfl (by kernel_rfl) (fun _ _ _ h => h) HCL (goes_read (by rfl) ?hy) ?_; case hy => (intro w hSw; (try dsimp only at hSw); go_simp; (try with_reducible rfl))) | (refine wpU_takeB (i := 41) (v := _) HOPS rfl (by kernel_rfl) (fun _ _ _ h => h) HCL (goes_not (by rfl)) ?_)
              try simp only [Act.put, List.getElem_toArray, List.getElem_cons_succ, List.getElem_cons_zero, List.setIfInBounds_toArray, List.set_cons_zero, List.set_cons_succ]
              first | (refine wpU_takeB (i := 42) (v := ?_) HOPS rfl (by kernel_rfl) (fun _ _ _ h => h) HCL (goes_read (by rfl) ?hy) ?_; case hy => (intro w hSw; (try dsimp only at hSw); go_simp; (try with_reducible rfl))) | (refine wpU_takeB (i := 42) (v := _) HOPS rfl (by kernel_rfl) (fun _ _ _ h => h) HCL (goes_not (by rfl)) ?_)
              try simp only [Act.put, List.getElem_toArray, List.getElem_cons_succ, List.getElem_cons_zero, List.setIfInBounds_toArray, List.set_cons_zero, List.set_cons_succ]
              refine wpU_ready (rs := [36]) (by kernel_rfl) (by simp) ?_
              intro w53 hle
              obtain ⟨n, hHeld⟩ := hle.ahead (by kernel_rfl)
              clear hle
              replace NX := Lib.hid (NX.out.trans n)
              replace RN := Lib.hid (RN.out.kept n id)
              replace MX := Lib.hid (MX.out.kept n id)
              replace HLA := Lib.hid (HLA.out.kept n nof)
              replace HLB := Lib.hid (HLB.out.kept n nof)
              replace HXR := Lib.hid (HXR.out.kept n nof)
              replace HB0 := Lib.hid (n.heap HB0.out id)
              replace HB4 := Lib.hid (n.heap HB4.out id)
              replace HB5 := Lib.hid (n.heap HB5.out id)
              replace SZ := Nat.lt_of_lt_of_le SZ n.size
              replace HIR := Lib.hid (HIR.out.kept n nof)
              replace HMb := Lib.hid ((HMb.out.kept n nof).hi n.size)
              replace HB8 := Lib.hid (n.heap HB8.out id)
              replace HIX := Lib.hid ((HIX.out.kept n nof).hi n.size)
              replace HB9 := Lib.hid (n.heap HB9.out id)
              replace HBS := Lib.hid (n.heap HBS.out id)
              replace HMo := Lib.hid ((HMo.out.kept n nof).hi n.size)
              replace HSB := Lib.hid (n.heap HSB.out id)
              replace HC := Lib.hid (HC.out.trans n)
              replace HMc := Lib.hid ((HMc.out.kept n nof).hi n.size)
              replace HBC := Lib.hid (n.heap HBC.out id)
              replace HSP := Lib.hid (n.heap HSP.out id)
              replace HC2 := Lib.hid (HC2.out.trans n)
              replace HBP := Lib.hid (n.heap HBP.out id)
              replace HIP := Lib.hid ((HIP.out.kept n nof).hi n.size)
              replace HB15 := Lib.hid (n.heap HB15.out id)
              replace HIV := Lib.hid ((HIV.out.kept n nof).hi n.size)
              replace HB17 := Lib.hid (n.heap HB17.out id)
              replace HIU := Lib.hid ((HIU.out.kept n nof).hi n.size)
              replace HSI := Lib.hid (n.heap HSI.out id)
              replace HC3 := Lib.hid (HC3.out.trans n)
              replace HIZ := Lib.hid ((HIZ.out.kept n nof).hi n.size)
              replace HBZ := Lib.hid (n.heap HBZ.out id)
              replace HIg1 := Lib.hid ((HIg1.out.kept n nof).hi n.size)
              replace HIg2 := Lib.hid ((HIg2.out.kept n nof).hi n.size)
              clear n
              refine ReadyU.cons HOPS rfl (by rfl) (fun K hK => ?_) ReadyU.nil
              go_simp
              go_at_call 20
              refine imHide_any w53.heap.size _ (zW, zH, zl) (q0 % 7 - 3) r3 _ _ HIZ.out (Nat.le_refl _) (by unfold wfI; omega) (by unfold wfI; omega) ?_
              intro w54 v hi n
              replace NX := Lib.hid (NX.out.trans n)
              replace RN := Lib.hid (RN.out.kept n id)
              replace MX := Lib.hid (MX.out.kept n id)
              replace HLA := Lib.hid (HLA.out.kept n nof)
              replace HLB := Lib.hid (HLB.out.kept n nof)
              replace HXR := Lib.hid (HXR.out.kept n nof)
              replace HB0 := Lib.hid (n.heap HB0.out id)
              replace HB4 := Lib.hid (n.heap HB4.out id)
              replace HB5 := Lib.hid (n.heap HB5.out id)
              replace SZ := Nat.lt_of_lt_of_le SZ n.size
              replace HIR := Lib.hid (HIR.out.kept n nof)
              replace HMb := Lib.hid ((HMb.out.kept n nof).hi n.size)
              replace HB8 := Lib.hid (n.heap HB8.out id)
              replace HIX := Lib.hid ((HIX.out.kept n nof).hi n.size)
              replace HB9 := Lib.hid (n.heap HB9.out id)
              replace HBS := Lib.hid (n.heap HBS.out id)
              replace HMo := Lib.hid ((HMo.out.kept n nof).hi n.size)
              replace HSB := Lib.hid (n.heap HSB.out id)
              replace HC := Lib.hid (HC.out.trans n)
              replace HMc := Lib.hid ((HMc.out.kept n nof).hi n.size)
              replace HBC := Lib.hid (n.heap HBC.out id)
              replace HSP := Lib.hid (n.heap HSP.out id)
              replace HC2 := Lib.hid (HC2.out.trans n)
              replace HBP := Lib.hid (n.heap HBP.out id)
              replace HIP := Lib.hid ((HIP.out.kept n nof).hi n.size)
              replace HB15 := Lib.hid (n.heap HB15.out id)
              replace HIV := Lib.hid ((HIV.out.kept n nof).hi n.size)
              replace HB17 := Lib.hid (n.heap HB17.out id)
              replace HIU := Lib.hid ((HIU.out.kept n nof).hi n.size)
              replace HSI := Lib.hid (n.heap HSI.out id)
              replace HC3 := Lib.hid (HC3.out.trans n)
              replace HIZ := Lib.hid ((HIZ.out.kept n nof).hi n.size)
              replace HBZ := Lib.hid (n.heap HBZ.out id)
              replace HIg1 := Lib.hid ((HIg1.out.kept n nof).hi n.size)
              replace HIg2 := Lib.hid ((HIg2.out.kept n nof).hi n.size)
              obtain ⟨Hi, hHi⟩ : ∃ H, hideM (zW, zH, zl) (q0 % 7 - 3) r3 = H := ⟨_, rfl⟩
              have HHi := Lib.hid hHi
              rw [hHi] at hi
              clear hHi
              obtain ⟨iW, iH, il⟩ := Hi
              obtain ⟨Ai1, ci1, rfl, hI⟩ := isIm_formN (W := iW) (H := iH) (n := il.length) hi rfl rfl rfl
              have HIi1 := Lib.hid hI
              clear hi hI
              refine hK.out _ _ n ⟨by show w54.cell? _ = _; rw [cell_of HBZ.out]; rfl, by show w54.cell? _ = _; rw [cell_of HBZ.out]; rfl, by show w54.cell? _ = _; rw [cell_of HBZ.out]; rfl, by show w54.cell? _ = _; rw [cell_of HB5.out]; rfl, by show w54.cell? _ = _; rw [cell_of HB5.out]; rfl, by show w54.cell? _ = _; rw [cell_of HB5.out]; rfl, by show w54.cell? _ = _; rw [cell_of HB5.out]; rfl, by show w54.cell? _ = _; rw [cell_of HBS.out]; rfl, by show w54.cell? _ = _; rw [cell_of HBS.out]; rfl⟩ (fun hHeld => ?_)
              clear hK K n
              try simp only [Act.put, List.getElem_toArray, List.getElem_cons_succ, List.getElem_cons_zero, List.setIfInBounds_toArray, List.set_cons_zero, List.set_cons_succ]
              refine wpU_ready (rs := [43]) (by kernel_rfl) (by simp) ?_
              intro w55 hle
              obtain ⟨n, hHeld⟩ := hle.ahead (by kernel_rfl)
              clear hle
              replace NX := Lib.hid (NX.out.trans n)
              replace RN := Lib.hid (RN.out.kept n id)
              replace MX := Lib.hid (MX.out.kept n id)
              replace HLA := Lib.hid (HLA.out.kept n nof)
              replace HLB := Lib.hid (HLB.out.kept n nof)
              replace HXR := Lib.hid (HXR.out.kept n nof)
              replace HB0 := Lib.hid (n.heap HB0.out id)
              replace HB4 := Lib.hid (n.heap HB4.out id)
              replace HB5 := Lib.hid (n.heap HB5.out id)
              replace SZ := Nat.lt_of_lt_of_le SZ n.size
              replace HIR := Lib.hid (HIR.out.kept n nof)
              replace HMb := Lib.hid ((HMb.out.kept n nof).hi n.size)
              replace HB8 := Lib.hid (n.heap HB8.out id)
              replace HIX := Lib.hid ((HIX.out.kept n nof).hi n.size)
              replace HB9 := Lib.hid (n.heap HB9.out id)
              replace HBS := Lib.hid (n.heap HBS.out id)
              replace HMo := Lib.hid ((HMo.out.kept n nof).hi n.size)
              replace HSB := Lib.hid (n.heap HSB.out id)
              replace HC := Lib.hid (HC.out.trans n)
              replace HMc := Lib.hid ((HMc.out.kept n nof).hi n.size)
              replace HBC := Lib.hid (n.heap HBC.out id)
              replace HSP := Lib.hid (n.heap HSP.out id)
              replace HC2 := Lib.hid (HC2.out.trans n)
              replace HBP := Lib.hid (n.heap HBP.out id)
              replace HIP := Lib.hid ((HIP.out.kept n nof).hi n.size)
              replace HB15 := Lib.hid (n.heap HB15.out id)
              replace HIV := Lib.hid ((HIV.out.kept n nof).hi n.size)
              replace HB17 := Lib.hid (n.heap HB17.out id)
              replace HIU := Lib.hid ((HIU.out.kept n nof).hi n.size)
              replace HSI := Lib.hid (n.heap HSI.out id)
              replace HC3 := Lib.hid (HC3.out.trans n)
              replace HIZ := Lib.hid ((HIZ.out.kept n nof).hi n.size)
              replace HBZ := Lib.hid (n.heap HBZ.out id)
              replace HIg1 := Lib.hid ((HIg1.out.kept n nof).hi n.size)
              replace HIg2 := Lib.hid ((HIg2.out.kept n nof).hi n.size)
              replace HIi1 := Lib.hid ((HIi1.out.kept n nof).hi n.size)
              clear n
              refine ReadyU.cons HOPS rfl (by rfl) (fun K hK => ?_) ReadyU.nil
              go_simp
              go_at_call 21
              refine riHide_any w55.heap.size _ (zW, zH, zl) (q0 % 7 - 3) r3 _ _ HIZ.out (Nat.le_refl _) (by unfold wfI; omega) (by unfold wfI; omega) ?_
              intro w56 v hi n
              replace NX := Lib.hid (NX.out.trans n)
              replace RN := Lib.hid (RN.out.kept n id)
              replace MX := Lib.hid (MX.out.kept n id)
              replace HLA := Lib.hid (HLA.out.kept n nof)
              replace HLB := Lib.hid (HLB.out.kept n nof)
              replace HXR := Lib.hid (HXR.out.kept n nof)
              replace HB0 := Lib.hid (n.heap HB0.out id)
              replace HB4 := Lib.hid (n.heap HB4.out id)
              replace HB5 := Lib.hid (n.heap HB5.out id)
              replace SZ := Nat.lt_of_lt_of_le SZ n.size
              replace HIR := Lib.hid (HIR.out.kept n nof)
              replace HMb := Lib.hid ((HMb.out.kept n nof).hi n.size)
              replace HB8 := Lib.hid (n.heap HB8.out id)
              replace HIX := Lib.hid ((HIX.out.kept n nof).hi n.size)
              replace HB9 := Lib.hid (n.heap HB9.out id)
              replace HBS := Lib.hid (n.heap HBS.out id)
              replace HMo := Lib.hid ((HMo.out.kept n nof).hi n.size)
              replace HSB := Lib.hid (n.heap HSB.out id)
              replace HC := Lib.hid (HC.out.trans n)
              replace HMc := Lib.hid ((HMc.out.kept n nof).hi n.size)
              replace HBC := Lib.hid (n.heap HBC.out id)
              replace HSP := Lib.hid (n.heap HSP.out id)
              replace HC2 := Lib.hid (HC2.out.trans n)
              replace HBP := Lib.hid (n.heap HBP.out id)
              replace HIP := Lib.hid ((HIP.out.kept n nof).hi n.size)
              replace HB15 := Lib.hid (n.heap HB15.out id)
              replace HIV := Lib.hid ((HIV.out.kept n nof).hi n.size)
              replace HB17 := Lib.hid (n.heap HB17.out id)
              replace HIU := Lib.hid ((HIU.out.kept n nof).hi n.size)
              replace HSI := Lib.hid (n.heap HSI.out id)
              replace HC3 := Lib.hid (HC3.out.trans n)
              replace HIZ := Lib.hid ((HIZ.out.kept n nof).hi n.size)
              replace HBZ := Lib.hid (n.heap HBZ.out id)
              replace HIg1 := Lib.hid ((HIg1.out.kept n nof).hi n.size)
              replace HIg2 := Lib.hid ((HIg2.out.kept n nof).hi n.size)
              replace HIi1 := Lib.hid ((HIi1.out.kept n nof).hi n.size)
              rw [HHi.out] at hi
              obtain ⟨Ai2, ci2, rfl, hI⟩ := isIm_formN (W := iW) (H := iH) (n := il.length) hi rfl rfl rfl
              have HIi2 := Lib.hid hI
              clear hi hI
              refine hK.out _ _ n ⟨by show w56.cell? _ = _; rw [cell_of HBZ.out]; rfl, by show w56.cell? _ = _; rw [cell_of HBZ.out]; rfl, by show w56.cell? _ = _; rw [cell_of HBZ.out]; rfl, by show w56.cell? _ = _; rw [cell_of HB5.out]; rfl, by show w56.cell? _ = _; rw [cell_of HB5.out]; rfl, by show w56.cell? _ = _; rw [cell_of HB5.out]; rfl, by show w56.cell? _ = _; rw [cell_of HB5.out]; rfl, by show w56.cell? _ = _; rw [cell_of HBS.out]; rfl, by show w56.cell? _ = _; rw [cell_of HBS.out]; rfl⟩ (fun hHeld => ?_)
              clear hK K n
              try simp only [Act.put, List.getElem_toArray, List.getElem_cons_succ, List.getElem_cons_zero, List.setIfInBounds_toArray, List.set_cons_zero, List.set_cons_succ]
              refine wpU_ready (rs := [44]) (by kernel_rfl) (by simp) ?_
              intro w57 hle
              obtain ⟨n, hHeld⟩ := hle.ahead (by kernel_rfl)
              clear hle
              replace NX := Lib.hid (NX.out.trans n)
              replace RN := Lib.hid (RN.out.kept n id)
              replace MX := Lib.hid (MX.out.kept n id)
              replace HLA := Lib.hid (HLA.out.kept n nof)
              replace HLB := Lib.hid (HLB.out.kept n nof)
              replace HXR := Lib.hid (HXR.out.kept n nof)
              replace HB0 := Lib.hid (n.heap HB0.out id)
              replace HB4 := Lib.hid (n.heap HB4.out id)
              replace HB5 := Lib.hid (n.heap HB5.out id)
              replace SZ := Nat.lt_of_lt_of_le SZ n.size
              replace HIR := Lib.hid (HIR.out.kept n nof)
              replace HMb := Lib.hid ((HMb.out.kept n nof).hi n.size)
              replace HB8 := Lib.hid (n.heap HB8.out id)
              replace HIX := Lib.hid ((HIX.out.kept n nof).hi n.size)
              replace HB9 := Lib.hid (n.heap HB9.out id)
              replace HBS := Lib.hid (n.heap HBS.out id)
              replace HMo := Lib.hid ((HMo.out.kept n nof).hi n.size)
              replace HSB := Lib.hid (n.heap HSB.out id)
              replace HC := Lib.hid (HC.out.trans n)
              replace HMc := Lib.hid ((HMc.out.kept n nof).hi n.size)
              replace HBC := Lib.hid (n.heap HBC.out id)
              replace HSP := Lib.hid (n.heap HSP.out id)
              replace HC2 := Lib.hid (HC2.out.trans n)
              replace HBP := Lib.hid (n.heap HBP.out id)
              replace HIP := Lib.hid ((HIP.out.kept n nof).hi n.size)
              replace HB15 := Lib.hid (n.heap HB15.out id)
              replace HIV := Lib.hid ((HIV.out.kept n nof).hi n.size)
              replace HB17 := Lib.hid (n.heap HB17.out id)
              replace HIU := Lib.hid ((HIU.out.kept n nof).hi n.size)
              replace HSI := Lib.hid (n.heap HSI.out id)
              replace HC3 := Lib.hid (HC3.out.trans n)
              replace HIZ := Lib.hid ((HIZ.out.kept n nof).hi n.size)
              replace HBZ := Lib.hid (n.heap HBZ.out id)
              replace HIg1 := Lib.hid ((HIg1.out.kept n nof).hi n.size)
              replace HIg2 := Lib.hid ((HIg2.out.kept n nof).hi n.size)
              replace HIi1 := Lib.hid ((HIi1.out.kept n nof).hi n.size)
              replace HIi2 := Lib.hid ((HIi2.out.kept n nof).hi n.size)
              clear n
              refine ReadyU.cons HOPS rfl (by rfl) (fun K hK => ?_) ReadyU.nil
              go_simp
              go_at_call 16
              refine riSame_any _ _ _ (iW, iH, il) (iW, iH, il) _ _ HIi1.out HIi2.out ?_
              rw [decide_eq_true rfl]
              intro w58 n
              replace NX := Lib.hid (NX.out.trans n)
              replace RN := Lib.hid (RN.out.kept n id)
              replace MX := Lib.hid (MX.out.kept n id)
              replace HLA := Lib.hid (HLA.out.kept n nof)
              replace HLB := Lib.hid (HLB.out.kept n nof)
              replace HXR := Lib.hid (HXR.out.kept n nof)
              replace HB0 := Lib.hid (n.heap HB0.out id)
              replace HB4 := Lib.hid (n.heap HB4.out id)
              replace HB5 := Lib.hid (n.heap HB5.out id)
              replace SZ := Nat.lt_of_lt_of_le SZ n.size
              replace HIR := Lib.hid (HIR.out.kept n nof)
              replace HMb := Lib.hid ((HMb.out.kept n nof).hi n.size)
              replace HB8 := Lib.hid (n.heap HB8.out id)
              replace HIX := Lib.hid ((HIX.out.kept n nof).hi n.size)
              replace HB9 := Lib.hid (n.heap HB9.out id)
              replace HBS := Lib.hid (n.heap HBS.out id)
              replace HMo := Lib.hid ((HMo.out.kept n nof).hi n.size)
              replace HSB := Lib.hid (n.heap HSB.out id)
              replace HC := Lib.hid (HC.out.trans n)
              replace HMc := Lib.hid ((HMc.out.kept n nof).hi n.size)
              replace HBC := Lib.hid (n.heap HBC.out id)
              replace HSP := Lib.hid (n.heap HSP.out id)
              replace HC2 := Lib.hid (HC2.out.trans n)
              replace HBP := Lib.hid (n.heap HBP.out id)
              replace HIP := Lib.hid ((HIP.out.kept n nof).hi n.size)
              replace HB15 := Lib.hid (n.heap HB15.out id)
              replace HIV := Lib.hid ((HIV.out.kept n nof).hi n.size)
              replace HB17 := Lib.hid (n.heap HB17.out id)
              replace HIU := Lib.hid ((HIU.out.kept n nof).hi n.size)
              replace HSI := Lib.hid (n.heap HSI.out id)
              replace HC3 := Lib.hid (HC3.out.trans n)
              replace HIZ := Lib.hid ((HIZ.out.kept n nof).hi n.size)
              replace HBZ := Lib.hid (n.heap HBZ.out id)
              replace HIg1 := Lib.hid ((HIg1.out.kept n nof).hi n.size)
              replace HIg2 := Lib.hid ((HIg2.out.kept n nof).hi n.size)
              replace HIi1 := Lib.hid ((HIi1.out.kept n nof).hi n.size)
              replace HIi2 := Lib.hid ((HIi2.out.kept n nof).hi n.size)
              refine hK.out _ _ n ⟨by show w58.cell? _ = _; rw [cell_of HBZ.out]; rfl, by show w58.cell? _ = _; rw [cell_of HBZ.out]; rfl, by show w58.cell? _ = _; rw [cell_of HBZ.out]; rfl, by show w58.cell? _ = _; rw [cell_of HB5.out]; rfl, by show w58.cell? _ = _; rw [cell_of HB5.out]; rfl, by show w58.cell? _ = _; rw [cell_of HB5.out]; rfl, by show w58.cell? _ = _; rw [cell_of HB5.out]; rfl, by show w58.cell? _ = _; rw [cell_of HBS.out]; rfl, by show w58.cell? _ = _; rw [cell_of HBS.out]; rfl⟩ (fun hHeld => ?_)
              clear hK K n
              try simp only [Act.put, List.getElem_toArray, List.getElem_cons_succ, List.getElem_cons_zero, List.setIfInBounds_toArray, List.set_cons_zero, List.set_cons_succ]
              first | (refine wpU_takeB (i := 45) (v := ?_) HOPS rfl (by kernel_rfl) (fun _ _ _ h => h) HCL (goes_read (by rfl) ?hy) ?_; case hy => (intro w hSw; (try dsimp only at hSw); go_simp; (try with_reducible rfl))) | (refine wpU_takeB (i := 45) (v := _) HOPS rfl (by kernel_rfl) (fun _ _ _ h => h) HCL (goes_not (by rfl)) ?_)
              try simp only [Act.put, List.getElem_toArray, List.getElem_cons_succ, List.getElem_cons_zero, List.setIfInBounds_toArray, List.set_cons_zero, List.set_cons_succ]
              first | (refine wpU_takeB (i := 46) (v := ?_) HOPS rfl (by kernel_rfl) (fun _ _ _ h => h) HCL (goes_read (by rfl) ?hy) ?_; case hy => (intro w hSw; (try dsimp only at hSw); go_simp; (try with_reducible rfl))) | (refine wpU_takeB (i := 46) (v := _) HOPS rfl (by kernel_rfl) (fun _ _ _ h => h) HCL (goes_not (by rfl)) ?_)
              try simp only [Act.put, List.getElem_toArray, List.getElem_cons_succ, List.getElem_cons_zero, List.setIfInBounds_toArray, List.set_cons_zero, List.set_cons_succ]
              refine wpU_done (by kernel_rfl) (fun w59 hle => ?_) _
              have n := (hle.ahead (by kernel_rfl)).1
              replace NX := Lib.hid (NX.out.trans n)
              replace RN := Lib.hid (RN.out.kept n id)
              replace MX := Lib.hid (MX.out.kept n id)
              replace HLA := Lib.hid (HLA.out.kept n nof)
              replace HLB := Lib.hid (HLB.out.kept n nof)
              replace HXR := Lib.hid (HXR.out.kept n nof)
              replace HB0 := Lib.hid (n.heap HB0.out id)
              replace HB4 := Lib.hid (n.heap HB4.out id)
              replace HB5 := Lib.hid (n.heap HB5.out id)
              replace SZ := Nat.lt_of_lt_of_le SZ n.size
              replace HIR := Lib.hid (HIR.out.kept n nof)
              replace HMb := Lib.hid ((HMb.out.kept n nof).hi n.size)
              replace HB8 := Lib.hid (n.heap HB8.out id)
              replace HIX := Lib.hid ((HIX.out.kept n nof).hi n.size)
              replace HB9 := Lib.hid (n.heap HB9.out id)
              replace HBS := Lib.hid (n.heap HBS.out id)
              replace HMo := Lib.hid ((HMo.out.kept n nof).hi n.size)
              replace HSB := Lib.hid (n.heap HSB.out id)
              replace HC := Lib.hid (HC.out.trans n)
              replace HMc := Lib.hid ((HMc.out.kept n nof).hi n.size)
              replace HBC := Lib.hid (n.heap HBC.out id)
              replace HSP := Lib.hid (n.heap HSP.out id)
              replace HC2 := Lib.hid (HC2.out.trans n)
              replace HBP := Lib.hid (n.heap HBP.out id)
              replace HIP := Lib.hid ((HIP.out.kept n nof).hi n.size)
              replace HB15 := Lib.hid (n.heap HB15.out id)
              replace HIV := Lib.hid ((HIV.out.kept n nof).hi n.size)
              replace HB17 := Lib.hid (n.heap HB17.out id)
              replace HIU := Lib.hid ((HIU.out.kept n nof).hi n.size)
              replace HSI := Lib.hid (n.heap HSI.out id)
              replace HC3 := Lib.hid (HC3.out.trans n)
              replace HIZ := Lib.hid ((HIZ.out.kept n nof).hi n.size)
              replace HBZ := Lib.hid (n.heap HBZ.out id)
              replace HIg1 := Lib.hid ((HIg1.out.kept n nof).hi n.size)
              replace HIg2 := Lib.hid ((HIg2.out.kept n nof).hi n.size)
              replace HIi1 := Lib.hid ((HIi1.out.kept n nof).hi n.size)
              replace HIi2 := Lib.hid ((HIi2.out.kept n nof).hi n.size)
              clear n
              clear HOPS HCL hle
              repeat clear hHeld
              go_wp2_with fail
              refine ⟨⟨m + 1, by go_num, by omega, Lib.hid HC3.out⟩, ?_⟩
              simp [intOf]; omega
            · obtain rfl : m = 4 := by omega
              go_wp2_with fail
              refine ⟨⟨j + 1, by go_num, by omega, Lib.hid HC2.out⟩, ?_⟩
              simp [intOf]; omega
        · obtain rfl : j = 2 := by omega
          go_wp2_with fail
          refine ⟨⟨k + 1, by go_num, by omega, Lib.hid HC.out⟩, ?_⟩
          simp [intOf]; omega
    · obtain rfl : k = 2 := by omega
      go_wp2_with fail
      exact ret_b (HR.out _ NX.out) (by simp)
end Go.Proofs.YtnhdnjhhjmgmnaaDoor
