/-
  The contract of the law ImageForms: it returns true.
-/
import Derived.Test.YtnhdnjhhjmgmnaaDoorSan22
import Derived.Test.YtnhdnjhhjmgmnaaDoorImK
import Derived.Test.YtnhdnjhhjmgmnaaDoorImO
import Derived.Test.YtnhdnjhhjmgmnaaDoorImY
import Derived.Test.YtnhdnjhhjmgmnaaDoorImU
import Derived.Test.YtnhdnjhhjmgmnaaDoorLawLib
import Derived.Test.YtnhdnjhhjmgmnaaDoorFew
import Derived.Test.YtnhdnjhhjmgmnaaDoorSlc
import Derived.Test.YtnhdnjhhjmgmnaaDoorRegU
namespace Go.Proofs.YtnhdnjhhjmgmnaaDoor
open Go.RowKit
set_option linter.unusedVariables false
set_option linter.unusedSimpArgs false
set_option maxRecDepth 100000

set_option maxHeartbeats 8000000 in
theorem forms_any (lo : Nat) (va vb : Value) (la lb : List Int) (vr : Value) (xr : Im) (q : Int) (w : World) (R : Ending → World → Prop) (hlo : lo ≤ w.heap.size) (hla : IsInts w lo va la) (hlb : IsInts w lo vb lb)
    (hxr : IsIm w lo vr xr) (hq : wfI q) (hrn : RunesOk w) (hmx : MaxOk w)
    (hR : ∀ w', Nw w w' → R (.returned (.bool true)) w') : Calls Tryd.prog 4 #[.agg #[va, vb], vr, .int .i64 q] w R := by
  have HR := Lib.hid hR
  clear hR
  have HLA := Lib.hid (hla.hi hlo)
  have HLB := Lib.hid (hlb.hi hlo)
  have HXR := Lib.hid (hxr.hi hlo)
  have HQ := Lib.hid hq
  obtain ⟨A0, c0, rfl, -⟩ := hla
  obtain ⟨A1, c1, rfl, -⟩ := hlb
  obtain ⟨AR, cR, rfl, -⟩ := isIm_form hxr
  have HWR := Lib.hid (show wfI xr.1 ∧ wfI xr.2.1 from by obtain ⟨s, -, -, h⟩ := HXR.out; exact h)
  obtain ⟨xrW, xrH, xrl⟩ := xr
  simp only at HXR HWR ⊢
  have NX := Lib.hid (Ch.refl (fun _ => False) w)
  have RN := Lib.hid hrn
  have MX := Lib.hid hmx
  have hr0 := hrn.lt
  have hm0 := hmx.lt
  clear hrn hmx hxr hq
  go_enter Tryd.func4, Tryd.ntmps4
  go_wp2_with (go_at_call 6; fail)
  refine Calls_nm ?_
  intro W1 hW
  have n : Nw w W1 := by rw [hW]; exact ((Ch.refl _ _).alloc _).alloc _
  replace NX := Lib.hid (NX.out.trans n)
  replace RN := Lib.hid (RN.out.kept n id)
  replace MX := Lib.hid (MX.out.kept n id)
  replace HLA := Lib.hid (HLA.out.kept n nof)
  replace HLB := Lib.hid (HLB.out.kept n nof)
  replace HXR := Lib.hid (HXR.out.kept n nof)
  have HB0 := Lib.hid (show W1.heap[w.heap.size]? = some (.cells #[.slice A0 la.length c0, .slice A1 lb.length c1] 23 (0, 0)) from by rw [hW]; exact heap_alloc_old' _ (heap_alloc_eq _ rfl))
  have HB4 := Lib.hid (show W1.heap[w.heap.size + 1]? = some (.cells #[.int .i64 xrW, .int .i64 xrH, .slice AR xrl.length cR] 25 (0, 0)) from by rw [hW]; exact heap_alloc_eq _ (by simp only [alloc_size]))
  clear hW n
  have SZ : w.heap.size + 1 < W1.heap.size := lt_of_heap HB4.out
  refine sanity_any _ _ RN.out MX.out ?_
  intro w2 n
  replace NX := Lib.hid (NX.out.trans n)
  replace RN := Lib.hid (RN.out.kept n id)
  replace MX := Lib.hid (MX.out.kept n id)
  replace HLA := Lib.hid (HLA.out.kept n nof)
  replace HLB := Lib.hid (HLB.out.kept n nof)
  replace HXR := Lib.hid (HXR.out.kept n nof)
  replace HB0 := Lib.hid (n.heap HB0.out id)
  replace HB4 := Lib.hid (n.heap HB4.out id)
  replace SZ := Nat.lt_of_lt_of_le SZ n.size
  clear n
  have kHB40 : w2.cell? ⟨w.heap.size + 1, 0, none⟩ = some (.int .i64 xrW) := by rw [cell_of HB4.out]; rfl
  have jHB40 : ∀ o, (w2.alloc o).cell? ⟨w.heap.size + 1, 0, none⟩ = some (.int .i64 xrW) := fun o => cell_alloc_old o kHB40
  have kHB41 : w2.cell? ⟨w.heap.size + 1, 1, none⟩ = some (.int .i64 xrH) := by rw [cell_of HB4.out]; rfl
  have jHB41 : ∀ o, (w2.alloc o).cell? ⟨w.heap.size + 1, 1, none⟩ = some (.int .i64 xrH) := fun o => cell_alloc_old o kHB41
  have kHB42 : w2.cell? ⟨w.heap.size + 1, 2, none⟩ = some (.slice AR xrl.length cR) := by rw [cell_of HB4.out]; rfl
  have jHB42 : ∀ o, (w2.alloc o).cell? ⟨w.heap.size + 1, 2, none⟩ = some (.slice AR xrl.length cR) := fun o => cell_alloc_old o kHB42
  go_wp2_with (go_at_call 6; fail)
  clear kHB40 jHB40 kHB41 jHB41 kHB42 jHB42
  refine Calls_nm ?_
  intro W3 hW
  have n : Nw w2 W3 := by rw [hW]; first | exact Ch.refl _ _ | exact (Ch.refl _ _).alloc _ | exact ((Ch.refl _ _).alloc _).alloc _
  replace NX := Lib.hid (NX.out.trans n)
  replace RN := Lib.hid (RN.out.kept n id)
  replace MX := Lib.hid (MX.out.kept n id)
  replace HLA := Lib.hid (HLA.out.kept n nof)
  replace HLB := Lib.hid (HLB.out.kept n nof)
  replace HXR := Lib.hid (HXR.out.kept n nof)
  replace HB0 := Lib.hid (n.heap HB0.out id)
  replace HB4 := Lib.hid (n.heap HB4.out id)
  replace SZ := Nat.lt_of_lt_of_le SZ n.size
  clear hW n
  refine few_lo w.heap.size _ (xrW, xrH, xrl) _ _ HXR.out ?_
  intro w4 v hi n
  replace NX := Lib.hid (NX.out.trans n)
  replace RN := Lib.hid (RN.out.kept n id)
  replace MX := Lib.hid (MX.out.kept n id)
  replace HLA := Lib.hid (HLA.out.kept n nof)
  replace HLB := Lib.hid (HLB.out.kept n nof)
  replace HXR := Lib.hid (HXR.out.kept n nof)
  replace HB0 := Lib.hid (n.heap HB0.out id)
  replace HB4 := Lib.hid (n.heap HB4.out id)
  replace SZ := Nat.lt_of_lt_of_le SZ n.size
  simp only at hi
  obtain ⟨rl, hrl⟩ : ∃ l, xrl.take 400 = l := ⟨_, rfl⟩
  rw [hrl] at hi
  have hr4 : rl.length ≤ 400 := by rw [← hrl, List.length_take]; omega
  clear hrl
  obtain ⟨AF, cF, rfl, hI⟩ := isIm_formN (n := rl.length) hi rfl rfl rfl
  have HIR := Lib.hid hI
  clear hi hI n
  have k40 : w4.cell? ⟨w.heap.size + 1, 0, none⟩ = some (.int .i64 xrW) := by rw [cell_of HB4.out]; rfl
  have k41 : w4.cell? ⟨w.heap.size + 1, 1, none⟩ = some (.int .i64 xrH) := by rw [cell_of HB4.out]; rfl
  have k42 : w4.cell? ⟨w.heap.size + 1, 2, none⟩ = some (.slice AR xrl.length cR) := by rw [cell_of HB4.out]; rfl
  have f40 : w4.frozen? ⟨w.heap.size + 1, 0, none⟩ = false := frozen_of HB4.out
  have f41 : w4.frozen? ⟨w.heap.size + 1, 1, none⟩ = false := frozen_of HB4.out
  have f42 : w4.frozen? ⟨w.heap.size + 1, 2, none⟩ = false := frozen_of HB4.out
  go_wp2_with fail
  clear k40 k41 k42 f40 f41 f42
  refine wp_named ?_
  intro W5 hW
  have cs : Ch (· = w.heap.size + 1) w4 W5 := by rw [hW]; exact (((Ch.refl (· = w.heap.size + 1) w4).setb (fun _ => rfl) _).setb (fun _ => rfl) _).setb (fun _ => rfl) _
  have HB4n := Lib.hid (show W5.heap[w.heap.size + 1]? = some (.cells #[.int .i64 xrW, .int .i64 xrH, .slice AF rl.length cF] 25 (0, 0)) from by rw [hW]; exact heap_setCell_eq _ (heap_setCell_eq _ (heap_setCell_eq _ HB4.out)))
  clear hW
  replace NX := Lib.hid (NX.out.trans' cs (fun j hj e => by have e' : j = w.heap.size + 1 := e; omega))
  replace RN := Lib.hid (RN.out.kept cs (by show 0 ≠ w.heap.size + 1; omega))
  replace MX := Lib.hid (MX.out.kept cs (by show 1 ≠ w.heap.size + 1; omega))
  replace HLA := Lib.hid (HLA.out.kept cs (fun j hj e => by have e' : j = w.heap.size + 1 := e; omega))
  replace HLB := Lib.hid (HLB.out.kept cs (fun j hj e => by have e' : j = w.heap.size + 1 := e; omega))
  replace HXR := Lib.hid (HXR.out.kept cs (fun j hj e => by have e' : j = w.heap.size + 1 := e; omega))
  replace HB0 := Lib.hid (cs.heap HB0.out (by show w.heap.size ≠ w.heap.size + 1; omega))
  replace HB4 := Lib.hid (HB4n.out)
  replace SZ := Nat.lt_of_lt_of_le SZ cs.size
  replace HIR := Lib.hid (HIR.out.kept cs (fun j hj e => by have e' : j = w.heap.size + 1 := e; omega))
  clear HB4n cs
  go_cut [8] (fun s8 wx => ∃ (ob g9 c9 : Nat) (x : Im), s8 = .pointer (some ⟨ob, 0, none⟩) ∧ w.heap.size + 2 ≤ ob ∧ imOk x ∧ 16 ≤ x.2.2.length ∧ x.2.2.length ≤ 320 ∧ Hid (wx.heap[ob]? = some (.cells #[.int .i64 x.1, .int .i64 x.2.1, .slice (some ⟨g9, 0, none⟩) x.2.2.length c9] 25 (0, 0))) ∧ Hid (IsIm wx wx.heap.size (.agg #[.int .i64 x.1, .int .i64 x.2.1, .slice (some ⟨g9, 0, none⟩) x.2.2.length c9]) x) ∧ Hid (Nw W5 wx))
  case first => as_aux_lemma =>
    have NWL := Lib.hid (Ch.refl (fun _ => False) W5)
    refine wp_named ?_
    intro W6 hW
    have n : Nw W5 W6 := by rw [hW]; first | exact Ch.refl _ _ | exact (Ch.refl _ _).alloc _
    replace NX := Lib.hid (NX.out.trans n)
    replace RN := Lib.hid (RN.out.kept n id)
    replace MX := Lib.hid (MX.out.kept n id)
    replace HLA := Lib.hid (HLA.out.kept n nof)
    replace HLB := Lib.hid (HLB.out.kept n nof)
    replace HXR := Lib.hid (HXR.out.kept n nof)
    replace HB0 := Lib.hid (n.heap HB0.out id)
    replace HB4 := Lib.hid (n.heap HB4.out id)
    replace SZ := Nat.lt_of_lt_of_le SZ n.size
    replace HIR := Lib.hid (HIR.out.kept n nof)
    replace NWL := Lib.hid (NWL.out.trans n)
    clear hW n
    refine wp_region_U (F := fun w' => w'.cell? ⟨w.heap.size, 0, none⟩ = some (.slice A0 la.length c0) ∧ w'.cell? ⟨w.heap.size, 1, none⟩ = some (.slice A1 lb.length c1)) (opsOf Tryd.f4 3) 7 8 (by kernel_rfl) (by kernel_rfl) (by kernel_rfl) ⟨by show W6.cell? _ = _; rw [cell_of HB0.out]; rfl, by show W6.cell? _ = _; rw [cell_of HB0.out]; rfl⟩ (fun HOPS hHeld => ?_)
    refine wpT_named ?_
    intro W7 hW
    try rw [← hW] at hHeld
    have n : Nw W6 W7 := by rw [hW]; exact (Ch.refl _ _).drew
    replace NX := Lib.hid (NX.out.trans n)
    replace RN := Lib.hid (RN.out.kept n id)
    replace MX := Lib.hid (MX.out.kept n id)
    replace HLA := Lib.hid (HLA.out.kept n nof)
    replace HLB := Lib.hid (HLB.out.kept n nof)
    replace HXR := Lib.hid (HXR.out.kept n nof)
    replace HB0 := Lib.hid (n.heap HB0.out id)
    replace HB4 := Lib.hid (n.heap HB4.out id)
    replace SZ := Nat.lt_of_lt_of_le SZ n.size
    replace HIR := Lib.hid (HIR.out.kept n nof)
    replace NWL := Lib.hid (NWL.out.trans n)
    clear hW n
    first | (refine wpT_takeB (i := 0) (v := ?_) HOPS rfl (by kernel_rfl) (fun _ _ _ h => h) (Or.inl ⟨by rfl, ?hy⟩) (by assumption) ?_; case hy => (intro w hSw; (try dsimp only at hSw); go_simp; (try with_reducible rfl))) | (refine wpT_takeB (i := 0) (v := _) HOPS rfl (by kernel_rfl) (fun _ _ _ h => h) (Or.inr ⟨by rfl, rfl⟩) (by assumption) ?_)
    try simp only [Act.put, List.getElem_toArray, List.getElem_cons_succ, List.getElem_cons_zero, List.setIfInBounds_toArray, List.set_cons_zero, List.set_cons_succ]
    first | (refine wpT_takeB (i := 1) (v := ?_) HOPS rfl (by kernel_rfl) (fun _ _ _ h => h) (Or.inl ⟨by rfl, ?hy⟩) (by assumption) ?_; case hy => (intro w hSw; (try dsimp only at hSw); go_simp; (try with_reducible rfl))) | (refine wpT_takeB (i := 1) (v := _) HOPS rfl (by kernel_rfl) (fun _ _ _ h => h) (Or.inr ⟨by rfl, rfl⟩) (by assumption) ?_)
    try simp only [Act.put, List.getElem_toArray, List.getElem_cons_succ, List.getElem_cons_zero, List.setIfInBounds_toArray, List.set_cons_zero, List.set_cons_succ]
    first | (refine wpT_takeB (i := 3) (v := ?_) HOPS rfl (by kernel_rfl) (fun _ _ _ h => h) (Or.inl ⟨by rfl, ?hy⟩) (by assumption) ?_; case hy => (intro w hSw; (try dsimp only at hSw); go_simp; (try with_reducible rfl))) | (refine wpT_takeB (i := 3) (v := _) HOPS rfl (by kernel_rfl) (fun _ _ _ h => h) (Or.inr ⟨by rfl, rfl⟩) (by assumption) ?_)
    try simp only [Act.put, List.getElem_toArray, List.getElem_cons_succ, List.getElem_cons_zero, List.setIfInBounds_toArray, List.set_cons_zero, List.set_cons_succ]
    first | (refine wpT_takeB (i := 4) (v := ?_) HOPS rfl (by kernel_rfl) (fun _ _ _ h => h) (Or.inl ⟨by rfl, ?hy⟩) (by assumption) ?_; case hy => (intro w hSw; (try dsimp only at hSw); go_simp; (try with_reducible rfl))) | (refine wpT_takeB (i := 4) (v := _) HOPS rfl (by kernel_rfl) (fun _ _ _ h => h) (Or.inr ⟨by rfl, rfl⟩) (by assumption) ?_)
    try simp only [Act.put, List.getElem_toArray, List.getElem_cons_succ, List.getElem_cons_zero, List.setIfInBounds_toArray, List.set_cons_zero, List.set_cons_succ]
    refine wpT_ready (rs := [2, 6]) (by kernel_rfl) (by simp) ?_
    refine ReadyT.consB HOPS rfl (by rfl) (fun K hK => ?_) (ReadyT.consB HOPS rfl (by rfl) (fun K hK => ?_) ReadyT.nil)
    · go_simp
      go_at_call 10
      refine rMade4_any w.heap.size _ la _ _ HLA.out (by omega) ?_
      intro w8 vb bb hb hbE hb1 hb2 n hvb
      replace NX := Lib.hid (NX.out.trans n)
      replace RN := Lib.hid (RN.out.kept n id)
      replace MX := Lib.hid (MX.out.kept n id)
      replace HLA := Lib.hid (HLA.out.kept n nof)
      replace HLB := Lib.hid (HLB.out.kept n nof)
      replace HXR := Lib.hid (HXR.out.kept n nof)
      replace HB0 := Lib.hid (n.heap HB0.out id)
      replace HB4 := Lib.hid (n.heap HB4.out id)
      replace SZ := Nat.lt_of_lt_of_le SZ n.size
      replace HIR := Lib.hid (HIR.out.kept n nof)
      replace NWL := Lib.hid (NWL.out.trans n)
      obtain ⟨Ab, nb, rfl⟩ := hvb
      have HMb := Lib.hid hb
      have HEb := Lib.hid hbE
      have hbB := bmE_ok hbE
      obtain ⟨⟨e1, -⟩, ⟨e3, -⟩, -⟩ := hbB
      clear hb hbE n
      refine hK.out _ _ ⟨by show w8.cell? _ = _; rw [cell_of HB0.out]; rfl, by show w8.cell? _ = _; rw [cell_of HB0.out]; rfl⟩ (fun hHeld => ?_)
      clear hK K
      try simp only [Act.put, List.getElem_toArray, List.getElem_cons_succ, List.getElem_cons_zero, List.setIfInBounds_toArray, List.set_cons_zero, List.set_cons_succ]
      refine wpT_ready (rs := [5, 6]) (by kernel_rfl) (by simp) ?_
      refine ReadyT.consB HOPS rfl (by rfl) (fun K hK => ?_) (ReadyT.consB HOPS rfl (by rfl) (fun K hK => ?_) ReadyT.nil)
      · go_simp
        go_at_call 11
        refine rMade22_any w8.heap.size _ bb _ lb _ _ HMb.out HEb.out (HLB.out.hi (by omega)) (Nat.le_refl _) ?_
        intro w9 vx x hx hok hx1 hx2 n hvx
        replace NX := Lib.hid (NX.out.trans n)
        replace RN := Lib.hid (RN.out.kept n id)
        replace MX := Lib.hid (MX.out.kept n id)
        replace HLA := Lib.hid (HLA.out.kept n nof)
        replace HLB := Lib.hid (HLB.out.kept n nof)
        replace HXR := Lib.hid (HXR.out.kept n nof)
        replace HB0 := Lib.hid (n.heap HB0.out id)
        replace HB4 := Lib.hid (n.heap HB4.out id)
        replace SZ := Nat.lt_of_lt_of_le SZ n.size
        replace HIR := Lib.hid (HIR.out.kept n nof)
        replace NWL := Lib.hid (NWL.out.trans n)
        replace HMb := Lib.hid ((HMb.out.kept n nof).hi n.size)
        obtain ⟨g9, n9, c9, rfl⟩ := hvx
        obtain ⟨xw, xh, px0⟩ := x
        simp only at hx1 hx2
        have hok2 : imOk (bb.1 + 4, bb.2.1 + 4, px0) := by rw [← hx1, ← hx2]; exact hok
        have LG := imOk_ge hok2 e1 e3
        have L3 : px0.length ≤ 320 := by
          have h1 := hok.2.2.1
          have h2 : xw * xh ≤ 20 * 16 := Int.mul_le_mul (by omega) (by omega) (by omega) (by omega)
          simp only at h1
          omega
        have h9 : n9 = px0.length := by obtain ⟨A, cap, e, -⟩ := isIm_form hx; simp at e; omega
        subst h9
        have HIX := Lib.hid hx
        have HOK := Lib.hid hok
        clear hx hok hok2 n hx1 hx2
        simp only
        refine hK.out _ _ ⟨by show w9.cell? _ = _; rw [cell_of HB0.out]; rfl, by show w9.cell? _ = _; rw [cell_of HB0.out]; rfl⟩ (fun hHeld => ?_)
        clear hK K
        try simp only [Act.put, List.getElem_toArray, List.getElem_cons_succ, List.getElem_cons_zero, List.setIfInBounds_toArray, List.set_cons_zero, List.set_cons_succ]
        refine wpT_ready (rs := [6]) (by kernel_rfl) (by simp) ?_
        refine ReadyT.consB HOPS rfl (by rfl) (fun K hK => ?_) ReadyT.nil
        go_simp
        refine hK.out _ _ ⟨cell_alloc_old _ (by rw [cell_of HB0.out]; rfl), cell_alloc_old _ (by rw [cell_of HB0.out]; rfl)⟩ (fun hHeld => ?_)
        clear hK K
        try simp only [Act.put, List.getElem_toArray, List.getElem_cons_succ, List.getElem_cons_zero, List.setIfInBounds_toArray, List.set_cons_zero, List.set_cons_succ]
        have ZNXAHB8 := NX.out.size
        have SZAHB8 := SZ
        have ZNWLAHB8 := NWL.out.size
        refine wpT_named ?_
        intro W10 hW
        try rw [← hW] at hHeld
        have n : Nw w9 W10 := by rw [hW]; exact (Ch.refl _ _).alloc _
        replace NX := Lib.hid (NX.out.trans n)
        replace RN := Lib.hid (RN.out.kept n id)
        replace MX := Lib.hid (MX.out.kept n id)
        replace HLA := Lib.hid (HLA.out.kept n nof)
        replace HLB := Lib.hid (HLB.out.kept n nof)
        replace HXR := Lib.hid (HXR.out.kept n nof)
        replace HB0 := Lib.hid (n.heap HB0.out id)
        replace HB4 := Lib.hid (n.heap HB4.out id)
        replace SZ := Nat.lt_of_lt_of_le SZ n.size
        replace HIR := Lib.hid (HIR.out.kept n nof)
        replace NWL := Lib.hid (NWL.out.trans n)
        replace HMb := Lib.hid ((HMb.out.kept n nof).hi n.size)
        replace HIX := Lib.hid ((HIX.out.kept n nof).hi n.size)
        have HB8 := Lib.hid (show W10.heap[w9.heap.size]? = some (.cells #[.int .i64 0, .int .i64 0, .slice none 0 0] 25 (0, 0)) from by rw [hW]; exact heap_alloc_eq _ rfl)
        clear hW n
        refine wpT_ready (rs := [7]) (by kernel_rfl) (by simp) ?_
        refine ReadyT.lastB HOPS rfl (by rfl) (by kernel_rfl) (fun K hK => ?_) ReadyT.nil
        have o0 : W10.cell? ⟨w9.heap.size, 0, none⟩ = some (.int .i64 0) := by rw [cell_of HB8.out]; rfl
        have o1 : W10.cell? ⟨w9.heap.size, 1, none⟩ = some (.int .i64 0) := by rw [cell_of HB8.out]; rfl
        have o2 : W10.cell? ⟨w9.heap.size, 2, none⟩ = some (.slice none 0 0) := by rw [cell_of HB8.out]; rfl
        have p0 : W10.frozen? ⟨w9.heap.size, 0, none⟩ = false := frozen_of HB8.out
        have p1 : W10.frozen? ⟨w9.heap.size, 1, none⟩ = false := frozen_of HB8.out
        have p2 : W10.frozen? ⟨w9.heap.size, 2, none⟩ = false := frozen_of HB8.out
        go_simp
        refine hK.out _ _ ?_
        clear hK K
        try simp only [Act.put, List.getElem_toArray, List.getElem_cons_succ, List.getElem_cons_zero, List.setIfInBounds_toArray, List.set_cons_zero, List.set_cons_succ]
        refine wpT_done (by kernel_rfl) ?_ _
        clear HOPS
        repeat clear hHeld
        go_wp2_with fail
        go_meet
        have cc := ((((Ch.refl (· = w9.heap.size) W10).setb (b := w9.heap.size) (o := 0) (fun _ => rfl) (.int .i64 xw)).setb (b := w9.heap.size) (o := 1) (fun _ => rfl) (.int .i64 xh)).setb (b := w9.heap.size) (o := 2) (fun _ => rfl) (.slice (some ⟨g9, 0, none⟩) px0.length c9))
        exact ⟨w9.heap.size, g9, c9, (xw, xh, px0), rfl, by omega, HOK.out, LG, L3, Lib.hid (heap_setCell_eq _ (heap_setCell_eq _ (heap_setCell_eq _ HB8.out))), Lib.hid ((isIm_far HIX.out HB8.out (by show 3 < px0.length; omega) cc).hi cc.size), Lib.hid (NWL.out.trans' cc (fun j hj e => by have e' : j = w9.heap.size := e; omega))⟩
      · go_simp
        refine hK.out _ _ ⟨cell_alloc_old _ (by rw [cell_of HB0.out]; rfl), cell_alloc_old _ (by rw [cell_of HB0.out]; rfl)⟩ (fun hHeld => ?_)
        clear hK K
        try simp only [Act.put, List.getElem_toArray, List.getElem_cons_succ, List.getElem_cons_zero, List.setIfInBounds_toArray, List.set_cons_zero, List.set_cons_succ]
        have ZNXAHB8 := NX.out.size
        have SZAHB8 := SZ
        have ZNWLAHB8 := NWL.out.size
        refine wpT_named ?_
        intro W11 hW
        try rw [← hW] at hHeld
        have n : Nw w8 W11 := by rw [hW]; exact (Ch.refl _ _).alloc _
        replace NX := Lib.hid (NX.out.trans n)
        replace RN := Lib.hid (RN.out.kept n id)
        replace MX := Lib.hid (MX.out.kept n id)
        replace HLA := Lib.hid (HLA.out.kept n nof)
        replace HLB := Lib.hid (HLB.out.kept n nof)
        replace HXR := Lib.hid (HXR.out.kept n nof)
        replace HB0 := Lib.hid (n.heap HB0.out id)
        replace HB4 := Lib.hid (n.heap HB4.out id)
        replace SZ := Nat.lt_of_lt_of_le SZ n.size
        replace HIR := Lib.hid (HIR.out.kept n nof)
        replace NWL := Lib.hid (NWL.out.trans n)
        replace HMb := Lib.hid ((HMb.out.kept n nof).hi n.size)
        have HB8 := Lib.hid (show W11.heap[w8.heap.size]? = some (.cells #[.int .i64 0, .int .i64 0, .slice none 0 0] 25 (0, 0)) from by rw [hW]; exact heap_alloc_eq _ rfl)
        clear hW n
        refine wpT_ready (rs := [5]) (by kernel_rfl) (by simp) ?_
        refine ReadyT.consB HOPS rfl (by rfl) (fun K hK => ?_) ReadyT.nil
        go_simp
        go_at_call 11
        refine rMade22_any W11.heap.size _ bb _ lb _ _ HMb.out HEb.out (HLB.out.hi (by omega)) (Nat.le_refl _) ?_
        intro w12 vx x hx hok hx1 hx2 n hvx
        replace NX := Lib.hid (NX.out.trans n)
        replace RN := Lib.hid (RN.out.kept n id)
        replace MX := Lib.hid (MX.out.kept n id)
        replace HLA := Lib.hid (HLA.out.kept n nof)
        replace HLB := Lib.hid (HLB.out.kept n nof)
        replace HXR := Lib.hid (HXR.out.kept n nof)
        replace HB0 := Lib.hid (n.heap HB0.out id)
        replace HB4 := Lib.hid (n.heap HB4.out id)
        replace SZ := Nat.lt_of_lt_of_le SZ n.size
        replace HIR := Lib.hid (HIR.out.kept n nof)
        replace NWL := Lib.hid (NWL.out.trans n)
        replace HMb := Lib.hid ((HMb.out.kept n nof).hi n.size)
        replace HB8 := Lib.hid (n.heap HB8.out id)
        obtain ⟨g9, n9, c9, rfl⟩ := hvx
        obtain ⟨xw, xh, px0⟩ := x
        simp only at hx1 hx2
        have hok2 : imOk (bb.1 + 4, bb.2.1 + 4, px0) := by rw [← hx1, ← hx2]; exact hok
        have LG := imOk_ge hok2 e1 e3
        have L3 : px0.length ≤ 320 := by
          have h1 := hok.2.2.1
          have h2 : xw * xh ≤ 20 * 16 := Int.mul_le_mul (by omega) (by omega) (by omega) (by omega)
          simp only at h1
          omega
        have h9 : n9 = px0.length := by obtain ⟨A, cap, e, -⟩ := isIm_form hx; simp at e; omega
        subst h9
        have HIX := Lib.hid hx
        have HOK := Lib.hid hok
        clear hx hok hok2 n hx1 hx2
        simp only
        refine hK.out _ _ ⟨by show w12.cell? _ = _; rw [cell_of HB0.out]; rfl, by show w12.cell? _ = _; rw [cell_of HB0.out]; rfl⟩ (fun hHeld => ?_)
        clear hK K
        try simp only [Act.put, List.getElem_toArray, List.getElem_cons_succ, List.getElem_cons_zero, List.setIfInBounds_toArray, List.set_cons_zero, List.set_cons_succ]
        refine wpT_ready (rs := [7]) (by kernel_rfl) (by simp) ?_
        refine ReadyT.lastB HOPS rfl (by rfl) (by kernel_rfl) (fun K hK => ?_) ReadyT.nil
        have o0 : w12.cell? ⟨w8.heap.size, 0, none⟩ = some (.int .i64 0) := by rw [cell_of HB8.out]; rfl
        have o1 : w12.cell? ⟨w8.heap.size, 1, none⟩ = some (.int .i64 0) := by rw [cell_of HB8.out]; rfl
        have o2 : w12.cell? ⟨w8.heap.size, 2, none⟩ = some (.slice none 0 0) := by rw [cell_of HB8.out]; rfl
        have p0 : w12.frozen? ⟨w8.heap.size, 0, none⟩ = false := frozen_of HB8.out
        have p1 : w12.frozen? ⟨w8.heap.size, 1, none⟩ = false := frozen_of HB8.out
        have p2 : w12.frozen? ⟨w8.heap.size, 2, none⟩ = false := frozen_of HB8.out
        go_simp
        refine hK.out _ _ ?_
        clear hK K
        try simp only [Act.put, List.getElem_toArray, List.getElem_cons_succ, List.getElem_cons_zero, List.setIfInBounds_toArray, List.set_cons_zero, List.set_cons_succ]
        refine wpT_done (by kernel_rfl) ?_ _
        clear HOPS
        repeat clear hHeld
        go_wp2_with fail
        go_meet
        have cc := ((((Ch.refl (· = w8.heap.size) w12).setb (b := w8.heap.size) (o := 0) (fun _ => rfl) (.int .i64 xw)).setb (b := w8.heap.size) (o := 1) (fun _ => rfl) (.int .i64 xh)).setb (b := w8.heap.size) (o := 2) (fun _ => rfl) (.slice (some ⟨g9, 0, none⟩) px0.length c9))
        exact ⟨w8.heap.size, g9, c9, (xw, xh, px0), rfl, by omega, HOK.out, LG, L3, Lib.hid (heap_setCell_eq _ (heap_setCell_eq _ (heap_setCell_eq _ HB8.out))), Lib.hid ((isIm_far HIX.out HB8.out (by show 3 < px0.length; omega) cc).hi cc.size), Lib.hid (NWL.out.trans' cc (fun j hj e => by have e' : j = w8.heap.size := e; omega))⟩
    · go_simp
      refine hK.out _ _ ⟨cell_alloc_old _ (by rw [cell_of HB0.out]; rfl), cell_alloc_old _ (by rw [cell_of HB0.out]; rfl)⟩ (fun hHeld => ?_)
      clear hK K
      try simp only [Act.put, List.getElem_toArray, List.getElem_cons_succ, List.getElem_cons_zero, List.setIfInBounds_toArray, List.set_cons_zero, List.set_cons_succ]
      have ZNXAHB8 := NX.out.size
      have SZAHB8 := SZ
      have ZNWLAHB8 := NWL.out.size
      refine wpT_named ?_
      intro W13 hW
      try rw [← hW] at hHeld
      have n : Nw W7 W13 := by rw [hW]; exact (Ch.refl _ _).alloc _
      replace NX := Lib.hid (NX.out.trans n)
      replace RN := Lib.hid (RN.out.kept n id)
      replace MX := Lib.hid (MX.out.kept n id)
      replace HLA := Lib.hid (HLA.out.kept n nof)
      replace HLB := Lib.hid (HLB.out.kept n nof)
      replace HXR := Lib.hid (HXR.out.kept n nof)
      replace HB0 := Lib.hid (n.heap HB0.out id)
      replace HB4 := Lib.hid (n.heap HB4.out id)
      replace SZ := Nat.lt_of_lt_of_le SZ n.size
      replace HIR := Lib.hid (HIR.out.kept n nof)
      replace NWL := Lib.hid (NWL.out.trans n)
      have HB8 := Lib.hid (show W13.heap[W7.heap.size]? = some (.cells #[.int .i64 0, .int .i64 0, .slice none 0 0] 25 (0, 0)) from by rw [hW]; exact heap_alloc_eq _ rfl)
      clear hW n
      refine wpT_ready (rs := [2]) (by kernel_rfl) (by simp) ?_
      refine ReadyT.consB HOPS rfl (by rfl) (fun K hK => ?_) ReadyT.nil
      go_simp
      go_at_call 10
      refine rMade4_any w.heap.size _ la _ _ HLA.out (by omega) ?_
      intro w14 vb bb hb hbE hb1 hb2 n hvb
      replace NX := Lib.hid (NX.out.trans n)
      replace RN := Lib.hid (RN.out.kept n id)
      replace MX := Lib.hid (MX.out.kept n id)
      replace HLA := Lib.hid (HLA.out.kept n nof)
      replace HLB := Lib.hid (HLB.out.kept n nof)
      replace HXR := Lib.hid (HXR.out.kept n nof)
      replace HB0 := Lib.hid (n.heap HB0.out id)
      replace HB4 := Lib.hid (n.heap HB4.out id)
      replace SZ := Nat.lt_of_lt_of_le SZ n.size
      replace HIR := Lib.hid (HIR.out.kept n nof)
      replace NWL := Lib.hid (NWL.out.trans n)
      replace HB8 := Lib.hid (n.heap HB8.out id)
      obtain ⟨Ab, nb, rfl⟩ := hvb
      have HMb := Lib.hid hb
      have HEb := Lib.hid hbE
      have hbB := bmE_ok hbE
      obtain ⟨⟨e1, -⟩, ⟨e3, -⟩, -⟩ := hbB
      clear hb hbE n
      refine hK.out _ _ ⟨by show w14.cell? _ = _; rw [cell_of HB0.out]; rfl, by show w14.cell? _ = _; rw [cell_of HB0.out]; rfl⟩ (fun hHeld => ?_)
      clear hK K
      try simp only [Act.put, List.getElem_toArray, List.getElem_cons_succ, List.getElem_cons_zero, List.setIfInBounds_toArray, List.set_cons_zero, List.set_cons_succ]
      refine wpT_ready (rs := [5]) (by kernel_rfl) (by simp) ?_
      refine ReadyT.consB HOPS rfl (by rfl) (fun K hK => ?_) ReadyT.nil
      go_simp
      go_at_call 11
      refine rMade22_any w14.heap.size _ bb _ lb _ _ HMb.out HEb.out (HLB.out.hi (by omega)) (Nat.le_refl _) ?_
      intro w15 vx x hx hok hx1 hx2 n hvx
      replace NX := Lib.hid (NX.out.trans n)
      replace RN := Lib.hid (RN.out.kept n id)
      replace MX := Lib.hid (MX.out.kept n id)
      replace HLA := Lib.hid (HLA.out.kept n nof)
      replace HLB := Lib.hid (HLB.out.kept n nof)
      replace HXR := Lib.hid (HXR.out.kept n nof)
      replace HB0 := Lib.hid (n.heap HB0.out id)
      replace HB4 := Lib.hid (n.heap HB4.out id)
      replace SZ := Nat.lt_of_lt_of_le SZ n.size
      replace HIR := Lib.hid (HIR.out.kept n nof)
      replace NWL := Lib.hid (NWL.out.trans n)
      replace HB8 := Lib.hid (n.heap HB8.out id)
      replace HMb := Lib.hid ((HMb.out.kept n nof).hi n.size)
      obtain ⟨g9, n9, c9, rfl⟩ := hvx
      obtain ⟨xw, xh, px0⟩ := x
      simp only at hx1 hx2
      have hok2 : imOk (bb.1 + 4, bb.2.1 + 4, px0) := by rw [← hx1, ← hx2]; exact hok
      have LG := imOk_ge hok2 e1 e3
      have L3 : px0.length ≤ 320 := by
        have h1 := hok.2.2.1
        have h2 : xw * xh ≤ 20 * 16 := Int.mul_le_mul (by omega) (by omega) (by omega) (by omega)
        simp only at h1
        omega
      have h9 : n9 = px0.length := by obtain ⟨A, cap, e, -⟩ := isIm_form hx; simp at e; omega
      subst h9
      have HIX := Lib.hid hx
      have HOK := Lib.hid hok
      clear hx hok hok2 n hx1 hx2
      simp only
      refine hK.out _ _ ⟨by show w15.cell? _ = _; rw [cell_of HB0.out]; rfl, by show w15.cell? _ = _; rw [cell_of HB0.out]; rfl⟩ (fun hHeld => ?_)
      clear hK K
      try simp only [Act.put, List.getElem_toArray, List.getElem_cons_succ, List.getElem_cons_zero, List.setIfInBounds_toArray, List.set_cons_zero, List.set_cons_succ]
      refine wpT_ready (rs := [7]) (by kernel_rfl) (by simp) ?_
      refine ReadyT.lastB HOPS rfl (by rfl) (by kernel_rfl) (fun K hK => ?_) ReadyT.nil
      have o0 : w15.cell? ⟨W7.heap.size, 0, none⟩ = some (.int .i64 0) := by rw [cell_of HB8.out]; rfl
      have o1 : w15.cell? ⟨W7.heap.size, 1, none⟩ = some (.int .i64 0) := by rw [cell_of HB8.out]; rfl
      have o2 : w15.cell? ⟨W7.heap.size, 2, none⟩ = some (.slice none 0 0) := by rw [cell_of HB8.out]; rfl
      have p0 : w15.frozen? ⟨W7.heap.size, 0, none⟩ = false := frozen_of HB8.out
      have p1 : w15.frozen? ⟨W7.heap.size, 1, none⟩ = false := frozen_of HB8.out
      have p2 : w15.frozen? ⟨W7.heap.size, 2, none⟩ = false := frozen_of HB8.out
      go_simp
      refine hK.out _ _ ?_
      clear hK K
      try simp only [Act.put, List.getElem_toArray, List.getElem_cons_succ, List.getElem_cons_zero, List.setIfInBounds_toArray, List.set_cons_zero, List.set_cons_succ]
      refine wpT_done (by kernel_rfl) ?_ _
      clear HOPS
      repeat clear hHeld
      go_wp2_with fail
      go_meet
      have cc := ((((Ch.refl (· = W7.heap.size) w15).setb (b := W7.heap.size) (o := 0) (fun _ => rfl) (.int .i64 xw)).setb (b := W7.heap.size) (o := 1) (fun _ => rfl) (.int .i64 xh)).setb (b := W7.heap.size) (o := 2) (fun _ => rfl) (.slice (some ⟨g9, 0, none⟩) px0.length c9))
      exact ⟨W7.heap.size, g9, c9, (xw, xh, px0), rfl, by omega, HOK.out, LG, L3, Lib.hid (heap_setCell_eq _ (heap_setCell_eq _ (heap_setCell_eq _ HB8.out))), Lib.hid ((isIm_far HIX.out HB8.out (by show 3 < px0.length; omega) cc).hi cc.size), Lib.hid (NWL.out.trans' cc (fun j hj e => by have e' : j = W7.heap.size := e; omega))⟩
  case rest => as_aux_lemma =>
    obtain ⟨ob, g9, c9, x, rfl, hob, hok, LG, L3, HB8, HIX, HN⟩ := hcut
    obtain ⟨wc0, hwc0⟩ : ∃ W : World, W = wc := ⟨_, rfl⟩
    subst hwc0
    have HOK := Lib.hid hok
    clear hok
    replace NX := Lib.hid (NX.out.trans HN.out)
    replace RN := Lib.hid (RN.out.kept HN.out id)
    replace MX := Lib.hid (MX.out.kept HN.out id)
    replace HLA := Lib.hid (HLA.out.kept HN.out nof)
    replace HLB := Lib.hid (HLB.out.kept HN.out nof)
    replace HXR := Lib.hid (HXR.out.kept HN.out nof)
    replace HB0 := Lib.hid (HN.out.heap HB0.out id)
    replace HB4 := Lib.hid (HN.out.heap HB4.out id)
    replace SZ := Nat.lt_of_lt_of_le SZ HN.out.size
    replace HIR := Lib.hid (HIR.out.kept HN.out nof)
    obtain ⟨xw, xh, px0⟩ := x
    simp only at HB8 HIX LG L3
    have kHB80 : wc0.cell? ⟨ob, 0, none⟩ = some (.int .i64 xw) := by rw [cell_of HB8.out]; rfl
    have jHB80 : ∀ o, (wc0.alloc o).cell? ⟨ob, 0, none⟩ = some (.int .i64 xw) := fun o => cell_alloc_old o kHB80
    have kHB81 : wc0.cell? ⟨ob, 1, none⟩ = some (.int .i64 xh) := by rw [cell_of HB8.out]; rfl
    have jHB81 : ∀ o, (wc0.alloc o).cell? ⟨ob, 1, none⟩ = some (.int .i64 xh) := fun o => cell_alloc_old o kHB81
    have kHB82 : wc0.cell? ⟨ob, 2, none⟩ = some (.slice (some ⟨g9, 0, none⟩) px0.length c9) := by rw [cell_of HB8.out]; rfl
    have jHB82 : ∀ o, (wc0.alloc o).cell? ⟨ob, 2, none⟩ = some (.slice (some ⟨g9, 0, none⟩) px0.length c9) := fun o => cell_alloc_old o kHB82
    go_wp2_with (go_at_call 6; fail)
    clear kHB80 jHB80 kHB81 jHB81 kHB82 jHB82
    refine iOdd_any wc0.heap.size _ (xw, xh, px0) q _ _ HIX.out (Nat.le_refl _) HQ.out (by show px0.length ≤ 1000; omega) (fun a b n c e => by simp at e) ?_
    intro w16 v xo hi hlo n
    replace NX := Lib.hid (NX.out.trans n)
    replace RN := Lib.hid (RN.out.kept n id)
    replace MX := Lib.hid (MX.out.kept n id)
    replace HLA := Lib.hid (HLA.out.kept n nof)
    replace HLB := Lib.hid (HLB.out.kept n nof)
    replace HXR := Lib.hid (HXR.out.kept n nof)
    replace HB0 := Lib.hid (n.heap HB0.out id)
    replace HB4 := Lib.hid (n.heap HB4.out id)
    replace SZ := Nat.lt_of_lt_of_le SZ n.size
    replace HIR := Lib.hid (HIR.out.kept n nof)
    replace HB8 := Lib.hid (n.heap HB8.out id)
    replace HIX := Lib.hid ((HIX.out.kept n nof).hi n.size)
    simp only at hlo
    obtain ⟨oW, oH, ol⟩ := xo
    obtain ⟨AO, cO, rfl, hI⟩ := isIm_formN (W := oW) (H := oH) (n := ol.length) hi rfl rfl rfl
    have HIO := Lib.hid hI
    simp only at hlo
    clear hi hI n
    go_upto_region 5 with (fail)
    refine wp_named ?_
    intro W17 hW
    have n : Nw w16 W17 := by rw [hW]; first | exact Ch.refl _ _ | exact (Ch.refl _ _).alloc _ | exact ((Ch.refl _ _).alloc _).alloc _
    replace NX := Lib.hid (NX.out.trans n)
    replace RN := Lib.hid (RN.out.kept n id)
    replace MX := Lib.hid (MX.out.kept n id)
    replace HLA := Lib.hid (HLA.out.kept n nof)
    replace HLB := Lib.hid (HLB.out.kept n nof)
    replace HXR := Lib.hid (HXR.out.kept n nof)
    replace HB0 := Lib.hid (n.heap HB0.out id)
    replace HB4 := Lib.hid (n.heap HB4.out id)
    replace SZ := Nat.lt_of_lt_of_le SZ n.size
    replace HIR := Lib.hid (HIR.out.kept n nof)
    replace HB8 := Lib.hid (n.heap HB8.out id)
    replace HIX := Lib.hid ((HIX.out.kept n nof).hi n.size)
    replace HIO := Lib.hid ((HIO.out.kept n nof).hi n.size)
    have HB9 := Lib.hid (show W17.heap[w16.heap.size]? = some (.cells #[.int .i64 oW, .int .i64 oH, .slice AO ol.length cO] 25 (0, 0)) from by rw [hW]; exact heap_alloc_eq _ rfl)
    clear hW n
    have kHB80 : W17.cell? ⟨ob, 0, none⟩ = some (.int .i64 xw) := by rw [cell_of HB8.out]; rfl
    have kHB81 : W17.cell? ⟨ob, 1, none⟩ = some (.int .i64 xh) := by rw [cell_of HB8.out]; rfl
    have kHB82 : W17.cell? ⟨ob, 2, none⟩ = some (.slice (some ⟨g9, 0, none⟩) px0.length c9) := by rw [cell_of HB8.out]; rfl
    have kHB90 : W17.cell? ⟨w16.heap.size, 0, none⟩ = some (.int .i64 oW) := by rw [cell_of HB9.out]; rfl
    have kHB91 : W17.cell? ⟨w16.heap.size, 1, none⟩ = some (.int .i64 oH) := by rw [cell_of HB9.out]; rfl
    have kHB92 : W17.cell? ⟨w16.heap.size, 2, none⟩ = some (.slice AO ol.length cO) := by rw [cell_of HB9.out]; rfl
    have kHB40 : W17.cell? ⟨w.heap.size + 1, 0, none⟩ = some (.int .i64 xrW) := by rw [cell_of HB4.out]; rfl
    have kHB41 : W17.cell? ⟨w.heap.size + 1, 1, none⟩ = some (.int .i64 xrH) := by rw [cell_of HB4.out]; rfl
    have kHB42 : W17.cell? ⟨w.heap.size + 1, 2, none⟩ = some (.slice AF rl.length cF) := by rw [cell_of HB4.out]; rfl
    refine wp_region_lit ?_
    refine wpList_plain rfl fun K hK => ?_
    go_simp
    refine hK _ _ ?_
    clear hK K
    try simp only [Act.put, List.getElem_toArray, List.getElem_cons_succ, List.getElem_cons_zero, List.setIfInBounds_toArray, List.set_cons_zero, List.set_cons_succ]
    refine wpList_plain rfl fun K hK => ?_
    go_simp
    refine hK _ _ ?_
    clear hK K
    try simp only [Act.put, List.getElem_toArray, List.getElem_cons_succ, List.getElem_cons_zero, List.setIfInBounds_toArray, List.set_cons_zero, List.set_cons_succ]
    refine wpList_plain rfl fun K hK => ?_
    go_simp
    refine hK _ _ ?_
    clear hK K
    try simp only [Act.put, List.getElem_toArray, List.getElem_cons_succ, List.getElem_cons_zero, List.setIfInBounds_toArray, List.set_cons_zero, List.set_cons_succ]
    refine wpList_plain rfl fun K hK => ?_
    refine wp_lit3 44 25 _ _ _ rfl (by kernel_rfl) (by kernel_rfl) (by rfl) (by rfl) (by rfl) ?_
    refine hK _ _ ?_
    clear hK K
    try simp only [Act.put, List.getElem_toArray, List.getElem_cons_succ, List.getElem_cons_zero, List.setIfInBounds_toArray, List.set_cons_zero, List.set_cons_succ]
    clear kHB80 kHB81 kHB82 kHB90 kHB91 kHB92 kHB40 kHB41 kHB42
    go_wp2_with fail
    refine wp_named ?_
    intro W18 hW
    have n : Nw W17 W18 := by rw [hW]; first | exact Ch.refl _ _ | exact (Ch.refl _ _).alloc _ | exact ((Ch.refl _ _).alloc _).alloc _
    replace NX := Lib.hid (NX.out.trans n)
    replace RN := Lib.hid (RN.out.kept n id)
    replace MX := Lib.hid (MX.out.kept n id)
    replace HLA := Lib.hid (HLA.out.kept n nof)
    replace HLB := Lib.hid (HLB.out.kept n nof)
    replace HXR := Lib.hid (HXR.out.kept n nof)
    replace HB0 := Lib.hid (n.heap HB0.out id)
    replace HB4 := Lib.hid (n.heap HB4.out id)
    replace SZ := Nat.lt_of_lt_of_le SZ n.size
    replace HIR := Lib.hid (HIR.out.kept n nof)
    replace HB8 := Lib.hid (n.heap HB8.out id)
    replace HIX := Lib.hid ((HIX.out.kept n nof).hi n.size)
    replace HIO := Lib.hid ((HIO.out.kept n nof).hi n.size)
    replace HB9 := Lib.hid (n.heap HB9.out id)
    have HSL := Lib.hid (show W18.heap[W17.heap.size]? = some (.cells #[.int .i64 xw, .int .i64 xh, .slice (some ⟨g9, 0, none⟩) px0.length c9, .int .i64 oW, .int .i64 oH, .slice AO ol.length cO, .int .i64 xrW, .int .i64 xrH, .slice AF rl.length cF] 25 (0, 0)) from by rw [hW]; exact heap_alloc_eq _ rfl)
    clear hW n
    go_loopw [37] (fun s37 wr => ∃ (k : Nat), s37 = .int .i64 k ∧ k ≤ 3 ∧ Hid (Nw W18 wr)) (fun s37 _ => 3 - (intOf s37).toNat)
    case atStart => exact ⟨0, rfl, by omega, Lib.hid (Ch.refl _ _)⟩
    case round =>
      obtain ⟨k, rfl, hk, HC⟩ := hrel
      have k0 : (0 : Int) ≤ (k : Int) := by omega
      obtain ⟨wr0, hwr0⟩ : ∃ W : World, W = wr := ⟨_, rfl⟩
      subst hwr0
      replace NX := Lib.hid (NX.out.trans HC.out)
      replace RN := Lib.hid (RN.out.kept HC.out id)
      replace MX := Lib.hid (MX.out.kept HC.out id)
      replace HLA := Lib.hid (HLA.out.kept HC.out nof)
      replace HLB := Lib.hid (HLB.out.kept HC.out nof)
      replace HXR := Lib.hid (HXR.out.kept HC.out nof)
      replace HB0 := Lib.hid (HC.out.heap HB0.out id)
      replace HB4 := Lib.hid (HC.out.heap HB4.out id)
      replace SZ := Nat.lt_of_lt_of_le SZ HC.out.size
      replace HIR := Lib.hid (HIR.out.kept HC.out nof)
      replace HB8 := Lib.hid (HC.out.heap HB8.out id)
      replace HIX := Lib.hid ((HIX.out.kept HC.out nof).hi HC.out.size)
      replace HIO := Lib.hid ((HIO.out.kept HC.out nof).hi HC.out.size)
      replace HB9 := Lib.hid (HC.out.heap HB9.out id)
      replace HSL := Lib.hid (HC.out.heap HSL.out id)
      by_cases hlt : k < 3
      · have k3 : (k : Int) < 3 := by omega
        have hX : ∃ (x : Im) (A : Option Addr) (c : Nat), wr0.cell? ⟨W17.heap.size, k * 3, none⟩ = some (.int .i64 x.1) ∧ wr0.cell? ⟨W17.heap.size, k * 3 + 1, none⟩ = some (.int .i64 x.2.1) ∧ wr0.cell? ⟨W17.heap.size, k * 3 + 2, none⟩ = some (.slice A x.2.2.length c) ∧ IsIm wr0 wr0.heap.size (.agg #[.int .i64 x.1, .int .i64 x.2.1, .slice A x.2.2.length c]) x ∧ x.2.2.length ≤ 1000 := by
          obtain rfl | rfl | rfl : k = 0 ∨ k = 1 ∨ k = 2 := by omega
          · exact ⟨(xw, xh, px0), some ⟨g9, 0, none⟩, c9, by rw [cell_of HSL.out]; rfl, by rw [cell_of HSL.out]; rfl, by rw [cell_of HSL.out]; rfl, HIX.out, by show _ ≤ 1000; simp only; omega⟩
          · exact ⟨(oW, oH, ol), AO, cO, by rw [cell_of HSL.out]; rfl, by rw [cell_of HSL.out]; rfl, by rw [cell_of HSL.out]; rfl, HIO.out, by show _ ≤ 1000; simp only; omega⟩
          · exact ⟨(xrW, xrH, rl), AF, cF, by rw [cell_of HSL.out]; rfl, by rw [cell_of HSL.out]; rfl, by rw [cell_of HSL.out]; rfl, HIR.out.hi NX.out.size, by show _ ≤ 1000; simp only; omega⟩
        obtain ⟨⟨yW, yH, yl⟩, AY, cY, q0, q1, q2, hY, hyl⟩ := hX
        simp only at q0 q1 q2 hyl
        have HIY := Lib.hid hY
        clear hY
        go_upto_region 8 with (fail)
        simp only at HIY
        refine wp_named ?_
        intro W19 hW
        have n : Nw wr0 W19 := by rw [hW]; first | exact Ch.refl _ _ | exact (Ch.refl _ _).alloc _
        replace NX := Lib.hid (NX.out.trans n)
        replace RN := Lib.hid (RN.out.kept n id)
        replace MX := Lib.hid (MX.out.kept n id)
        replace HLA := Lib.hid (HLA.out.kept n nof)
        replace HLB := Lib.hid (HLB.out.kept n nof)
        replace HXR := Lib.hid (HXR.out.kept n nof)
        replace HB0 := Lib.hid (n.heap HB0.out id)
        replace HB4 := Lib.hid (n.heap HB4.out id)
        replace SZ := Nat.lt_of_lt_of_le SZ n.size
        replace HIR := Lib.hid (HIR.out.kept n nof)
        replace HB8 := Lib.hid (n.heap HB8.out id)
        replace HIX := Lib.hid ((HIX.out.kept n nof).hi n.size)
        replace HIO := Lib.hid ((HIO.out.kept n nof).hi n.size)
        replace HB9 := Lib.hid (n.heap HB9.out id)
        replace HSL := Lib.hid (n.heap HSL.out id)
        replace HC := Lib.hid (HC.out.trans n)
        replace HIY := Lib.hid ((HIY.out.kept n nof).hi n.size)
        have HBY := Lib.hid (show W19.heap[wr0.heap.size]? = some (.cells #[.int .i64 yW, .int .i64 yH, .slice AY yl.length cY] 25 (0, 0)) from by rw [hW]; exact heap_alloc_eq _ rfl)
        clear hW n
        refine wp_region_V (F := fun w' => w'.cell? ⟨wr0.heap.size, 0, none⟩ = some (.int .i64 yW) ∧ w'.cell? ⟨wr0.heap.size, 1, none⟩ = some (.int .i64 yH) ∧ w'.cell? ⟨wr0.heap.size, 2, none⟩ = some (.slice AY yl.length cY) ∧ w'.cell? ⟨ob, 0, none⟩ = some (.int .i64 xw) ∧ w'.cell? ⟨ob, 1, none⟩ = some (.int .i64 xh) ∧ w'.cell? ⟨ob, 2, none⟩ = some (.slice (some ⟨g9, 0, none⟩) px0.length c9)) (opsOf Tryd.f4 8) 37 37 (by kernel_rfl) (by kernel_rfl) (by kernel_rfl) (fun w w' h n => ⟨n.cell h.1 id, n.cell h.2.1 id, n.cell h.2.2.1 id, n.cell h.2.2.2.1 id, n.cell h.2.2.2.2.1 id, n.cell h.2.2.2.2.2 id⟩) ⟨by show W19.cell? _ = _; rw [cell_of HBY.out]; rfl, by show W19.cell? _ = _; rw [cell_of HBY.out]; rfl, by show W19.cell? _ = _; rw [cell_of HBY.out]; rfl, by show W19.cell? _ = _; rw [cell_of HB8.out]; rfl, by show W19.cell? _ = _; rw [cell_of HB8.out]; rfl, by show W19.cell? _ = _; rw [cell_of HB8.out]; rfl⟩ (fun HOPS HCL hHeld => ?_)
        refine wpU_named ?_
        intro W20 hW
        try rw [← hW] at hHeld
        have n : Nw W19 W20 := by rw [hW]; exact (Ch.refl _ _).drew
        replace NX := Lib.hid (NX.out.trans n)
        replace RN := Lib.hid (RN.out.kept n id)
        replace MX := Lib.hid (MX.out.kept n id)
        replace HLA := Lib.hid (HLA.out.kept n nof)
        replace HLB := Lib.hid (HLB.out.kept n nof)
        replace HXR := Lib.hid (HXR.out.kept n nof)
        replace HB0 := Lib.hid (n.heap HB0.out id)
        replace HB4 := Lib.hid (n.heap HB4.out id)
        replace SZ := Nat.lt_of_lt_of_le SZ n.size
        replace HIR := Lib.hid (HIR.out.kept n nof)
        replace HB8 := Lib.hid (n.heap HB8.out id)
        replace HIX := Lib.hid ((HIX.out.kept n nof).hi n.size)
        replace HIO := Lib.hid ((HIO.out.kept n nof).hi n.size)
        replace HB9 := Lib.hid (n.heap HB9.out id)
        replace HSL := Lib.hid (n.heap HSL.out id)
        replace HC := Lib.hid (HC.out.trans n)
        replace HIY := Lib.hid ((HIY.out.kept n nof).hi n.size)
        replace HBY := Lib.hid (n.heap HBY.out id)
        clear hW n
        first | (refine wpU_takeB (i := 0) (v := ?_) HOPS rfl (by kernel_rfl) (fun _ _ _ h => h) HCL (goes_read (by rfl) ?hy) ?_; case hy => (intro w hSw; (try dsimp only at hSw); go_simp; (try with_reducible rfl))) | (refine wpU_takeB (i := 0) (v := _) HOPS rfl (by kernel_rfl) (fun _ _ _ h => h) HCL (goes_not (by rfl)) ?_)
        try simp only [Act.put, List.getElem_toArray, List.getElem_cons_succ, List.getElem_cons_zero, List.setIfInBounds_toArray, List.set_cons_zero, List.set_cons_succ]
        first | (refine wpU_takeB (i := 2) (v := ?_) HOPS rfl (by kernel_rfl) (fun _ _ _ h => h) HCL (goes_read (by rfl) ?hy) ?_; case hy => (intro w hSw; (try dsimp only at hSw); go_simp; (try with_reducible rfl))) | (refine wpU_takeB (i := 2) (v := _) HOPS rfl (by kernel_rfl) (fun _ _ _ h => h) HCL (goes_not (by rfl)) ?_)
        try simp only [Act.put, List.getElem_toArray, List.getElem_cons_succ, List.getElem_cons_zero, List.setIfInBounds_toArray, List.set_cons_zero, List.set_cons_succ]
        refine wpU_takeB (i := 1) HOPS rfl (by kernel_rfl) (fun _ _ _ h => h) HCL (goes_fn (v := (.int .i64 (imE (yW, yH, yl)))) 22 _ _ _ #[(.agg #[.int .i64 yW, .int .i64 yH, .slice AY yl.length cY])] (by rfl) rfl (by kernel_rfl) (by kernel_rfl) (by kernel_rfl) (fun wq n R hR => ?_)) ?_
        · exact imCheck_any _ _ _ _ _ (HIY.out.kept n nof) hR
        try simp only [Act.put, List.getElem_toArray, List.getElem_cons_succ, List.getElem_cons_zero, List.setIfInBounds_toArray, List.set_cons_zero, List.set_cons_succ]
        refine wpU_takeB (i := 3) HOPS rfl (by kernel_rfl) (fun _ _ _ h => h) HCL (goes_fn (v := (.int .i64 (imE (yW, yH, yl)))) 23 _ _ _ #[(.agg #[.int .i64 yW, .int .i64 yH, .slice AY yl.length cY])] (by rfl) rfl (by kernel_rfl) (by kernel_rfl) (by kernel_rfl) (fun wq n R hR => ?_)) ?_
        · exact riCheck_any _ _ _ _ _ (HIY.out.kept n nof) hR
        try simp only [Act.put, List.getElem_toArray, List.getElem_cons_succ, List.getElem_cons_zero, List.setIfInBounds_toArray, List.set_cons_zero, List.set_cons_succ]
        first | (refine wpU_takeB (i := 4) (v := ?_) HOPS rfl (by kernel_rfl) (fun _ _ _ h => h) HCL (goes_read (by rfl) ?hy) ?_; case hy => (intro w hSw; (try dsimp only at hSw); go_simp; (try with_reducible rfl))) | (refine wpU_takeB (i := 4) (v := _) HOPS rfl (by kernel_rfl) (fun _ _ _ h => h) HCL (goes_not (by rfl)) ?_)
        try simp only [Act.put, List.getElem_toArray, List.getElem_cons_succ, List.getElem_cons_zero, List.setIfInBounds_toArray, List.set_cons_zero, List.set_cons_succ]
        first | (refine wpU_takeB (i := 5) (v := ?_) HOPS rfl (by kernel_rfl) (fun _ _ _ h => h) HCL (goes_read (by rfl) ?hy) ?_; case hy => (intro w hSw; (try dsimp only at hSw); go_simp; (try with_reducible rfl))) | (refine wpU_takeB (i := 5) (v := _) HOPS rfl (by kernel_rfl) (fun _ _ _ h => h) HCL (goes_not (by rfl)) ?_)
        try simp only [Act.put, List.getElem_toArray, List.getElem_cons_succ, List.getElem_cons_zero, List.setIfInBounds_toArray, List.set_cons_zero, List.set_cons_succ]
        first | (refine wpU_takeB (i := 6) (v := ?_) HOPS rfl (by kernel_rfl) (fun _ _ _ h => h) HCL (goes_read (by rfl) ?hy) ?_; case hy => (intro w hSw; (try dsimp only at hSw); go_simp; (try with_reducible rfl))) | (refine wpU_takeB (i := 6) (v := _) HOPS rfl (by kernel_rfl) (fun _ _ _ h => h) HCL (goes_not (by rfl)) ?_)
        try simp only [Act.put, List.getElem_toArray, List.getElem_cons_succ, List.getElem_cons_zero, List.setIfInBounds_toArray, List.set_cons_zero, List.set_cons_succ]
        first | (refine wpU_takeB (i := 8) (v := ?_) HOPS rfl (by kernel_rfl) (fun _ _ _ h => h) HCL (goes_read (by rfl) ?hy) ?_; case hy => (intro w hSw; (try dsimp only at hSw); go_simp; (try with_reducible rfl))) | (refine wpU_takeB (i := 8) (v := _) HOPS rfl (by kernel_rfl) (fun _ _ _ h => h) HCL (goes_not (by rfl)) ?_)
        try simp only [Act.put, List.getElem_toArray, List.getElem_cons_succ, List.getElem_cons_zero, List.setIfInBounds_toArray, List.set_cons_zero, List.set_cons_succ]
        refine wpU_takeB (i := 7) HOPS rfl (by kernel_rfl) (fun _ _ _ h => h) HCL (goes_fn (v := (.int .i64 (knownM (yW, yH, yl)))) 24 _ _ _ #[(.agg #[.int .i64 yW, .int .i64 yH, .slice AY yl.length cY])] (by rfl) rfl (by kernel_rfl) (by kernel_rfl) (by kernel_rfl) (fun wq n R hR => ?_)) ?_
        · exact imKnown_any _ _ _ _ _ (HIY.out.kept n nof) hR
        try simp only [Act.put, List.getElem_toArray, List.getElem_cons_succ, List.getElem_cons_zero, List.setIfInBounds_toArray, List.set_cons_zero, List.set_cons_succ]
        refine wpU_takeB (i := 9) HOPS rfl (by kernel_rfl) (fun _ _ _ h => h) HCL (goes_fn (v := (.int .i64 (knownM (yW, yH, yl)))) 25 _ _ _ #[(.agg #[.int .i64 yW, .int .i64 yH, .slice AY yl.length cY])] (by rfl) rfl (by kernel_rfl) (by kernel_rfl) (by kernel_rfl) (fun wq n R hR => ?_)) ?_
        · exact riKnown_any _ _ _ _ _ (HIY.out.kept n nof) hR
        try simp only [Act.put, List.getElem_toArray, List.getElem_cons_succ, List.getElem_cons_zero, List.setIfInBounds_toArray, List.set_cons_zero, List.set_cons_succ]
        first | (refine wpU_takeB (i := 10) (v := ?_) HOPS rfl (by kernel_rfl) (fun _ _ _ h => h) HCL (goes_read (by rfl) ?hy) ?_; case hy => (intro w hSw; (try dsimp only at hSw); go_simp; (try with_reducible rfl))) | (refine wpU_takeB (i := 10) (v := _) HOPS rfl (by kernel_rfl) (fun _ _ _ h => h) HCL (goes_not (by rfl)) ?_)
        try simp only [Act.put, List.getElem_toArray, List.getElem_cons_succ, List.getElem_cons_zero, List.setIfInBounds_toArray, List.set_cons_zero, List.set_cons_succ]
        first | (refine wpU_takeB (i := 11) (v := ?_) HOPS rfl (by kernel_rfl) (fun _ _ _ h => h) HCL (goes_read (by rfl) ?hy) ?_; case hy => (intro w hSw; (try dsimp only at hSw); go_simp; (try with_reducible rfl))) | (refine wpU_takeB (i := 11) (v := _) HOPS rfl (by kernel_rfl) (fun _ _ _ h => h) HCL (goes_not (by rfl)) ?_)
        try simp only [Act.put, List.getElem_toArray, List.getElem_cons_succ, List.getElem_cons_zero, List.setIfInBounds_toArray, List.set_cons_zero, List.set_cons_succ]
        first | (refine wpU_takeB (i := 12) (v := ?_) HOPS rfl (by kernel_rfl) (fun _ _ _ h => h) HCL (goes_read (by rfl) ?hy) ?_; case hy => (intro w hSw; (try dsimp only at hSw); go_simp; (try with_reducible rfl))) | (refine wpU_takeB (i := 12) (v := _) HOPS rfl (by kernel_rfl) (fun _ _ _ h => h) HCL (goes_not (by rfl)) ?_)
        try simp only [Act.put, List.getElem_toArray, List.getElem_cons_succ, List.getElem_cons_zero, List.setIfInBounds_toArray, List.set_cons_zero, List.set_cons_succ]
        first | (refine wpU_takeB (i := 13) (v := ?_) HOPS rfl (by kernel_rfl) (fun _ _ _ h => h) HCL (goes_read (by rfl) ?hy) ?_; case hy => (intro w hSw; (try dsimp only at hSw); go_simp; (try with_reducible rfl))) | (refine wpU_takeB (i := 13) (v := _) HOPS rfl (by kernel_rfl) (fun _ _ _ h => h) HCL (goes_not (by rfl)) ?_)
        try simp only [Act.put, List.getElem_toArray, List.getElem_cons_succ, List.getElem_cons_zero, List.setIfInBounds_toArray, List.set_cons_zero, List.set_cons_succ]
        first | (refine wpU_takeB (i := 15) (v := ?_) HOPS rfl (by kernel_rfl) (fun _ _ _ h => h) HCL (goes_read (by rfl) ?hy) ?_; case hy => (intro w hSw; (try dsimp only at hSw); go_simp; (try with_reducible rfl))) | (refine wpU_takeB (i := 15) (v := _) HOPS rfl (by kernel_rfl) (fun _ _ _ h => h) HCL (goes_not (by rfl)) ?_)
        try simp only [Act.put, List.getElem_toArray, List.getElem_cons_succ, List.getElem_cons_zero, List.setIfInBounds_toArray, List.set_cons_zero, List.set_cons_succ]
        refine wpU_takeB (i := 14) HOPS rfl (by kernel_rfl) (fun _ _ _ h => h) HCL (goes_fn (v := (.string ⟨(textM (yW, yH, yl)).toArray⟩)) 26 _ _ _ #[(.agg #[.int .i64 yW, .int .i64 yH, .slice AY yl.length cY])] (by rfl) rfl (by kernel_rfl) (by kernel_rfl) (by kernel_rfl) (fun wq n R hR => ?_)) ?_
        · exact imText_any _ _ _ _ _ (HIY.out.kept n nof) n.size (RN.out.kept n id) hR
        try simp only [Act.put, List.getElem_toArray, List.getElem_cons_succ, List.getElem_cons_zero, List.setIfInBounds_toArray, List.set_cons_zero, List.set_cons_succ]
        refine wpU_takeB (i := 16) HOPS rfl (by kernel_rfl) (fun _ _ _ h => h) HCL (goes_fn (v := (.string ⟨(textM (yW, yH, yl)).toArray⟩)) 27 _ _ _ #[(.agg #[.int .i64 yW, .int .i64 yH, .slice AY yl.length cY])] (by rfl) rfl (by kernel_rfl) (by kernel_rfl) (by kernel_rfl) (fun wq n R hR => ?_)) ?_
        · exact riText_any _ _ _ _ _ (HIY.out.kept n nof) n.size hR
        try simp only [Act.put, List.getElem_toArray, List.getElem_cons_succ, List.getElem_cons_zero, List.setIfInBounds_toArray, List.set_cons_zero, List.set_cons_succ]
        first | (refine wpU_takeB (i := 17) (v := ?_) HOPS rfl (by kernel_rfl) (fun _ _ _ h => h) HCL (goes_read (by rfl) ?hy) ?_; case hy => (intro w hSw; (try dsimp only at hSw); go_simp; (try with_reducible rfl))) | (refine wpU_takeB (i := 17) (v := _) HOPS rfl (by kernel_rfl) (fun _ _ _ h => h) HCL (goes_not (by rfl)) ?_)
        try simp only [Act.put, List.getElem_toArray, List.getElem_cons_succ, List.getElem_cons_zero, List.setIfInBounds_toArray, List.set_cons_zero, List.set_cons_succ]
        first | (refine wpU_takeB (i := 18) (v := ?_) HOPS rfl (by kernel_rfl) (fun _ _ _ h => h) HCL (goes_read (by rfl) ?hy) ?_; case hy => (intro w hSw; (try dsimp only at hSw); go_simp; (try with_reducible rfl))) | (refine wpU_takeB (i := 18) (v := _) HOPS rfl (by kernel_rfl) (fun _ _ _ h => h) HCL (goes_not (by rfl)) ?_)
        try simp only [Act.put, List.getElem_toArray, List.getElem_cons_succ, List.getElem_cons_zero, List.setIfInBounds_toArray, List.set_cons_zero, List.set_cons_succ]
        first | (refine wpU_takeB (i := 19) (v := ?_) HOPS rfl (by kernel_rfl) (fun _ _ _ h => h) HCL (goes_read (by rfl) ?hy) ?_; case hy => (intro w hSw; (try dsimp only at hSw); go_simp; (try with_reducible rfl))) | (refine wpU_takeB (i := 19) (v := _) HOPS rfl (by kernel_rfl) (fun _ _ _ h => h) HCL (goes_not (by rfl)) ?_)
        try simp only [Act.put, List.getElem_toArray, List.getElem_cons_succ, List.getElem_cons_zero, List.setIfInBounds_toArray, List.set_cons_zero, List.set_cons_succ]
        first | (refine wpU_takeB (i := 20) (v := ?_) HOPS rfl (by kernel_rfl) (fun _ _ _ h => h) HCL (goes_read (by rfl) ?hy) ?_; case hy => (intro w hSw; (try dsimp only at hSw); go_simp; (try with_reducible rfl))) | (refine wpU_takeB (i := 20) (v := _) HOPS rfl (by kernel_rfl) (fun _ _ _ h => h) HCL (goes_not (by rfl)) ?_)
        try simp only [Act.put, List.getElem_toArray, List.getElem_cons_succ, List.getElem_cons_zero, List.setIfInBounds_toArray, List.set_cons_zero, List.set_cons_succ]
        first | (refine wpU_takeB (i := 21) (v := ?_) HOPS rfl (by kernel_rfl) (fun _ _ _ h => h) HCL (goes_read (by rfl) ?hy) ?_; case hy => (intro w hSw; (try dsimp only at hSw); go_simp; (try with_reducible rfl))) | (refine wpU_takeB (i := 21) (v := _) HOPS rfl (by kernel_rfl) (fun _ _ _ h => h) HCL (goes_not (by rfl)) ?_)
        try simp only [Act.put, List.getElem_toArray, List.getElem_cons_succ, List.getElem_cons_zero, List.setIfInBounds_toArray, List.set_cons_zero, List.set_cons_succ]
        first | (refine wpU_takeB (i := 23) (v := ?_) HOPS rfl (by kernel_rfl) (fun _ _ _ h => h) HCL (goes_read (by rfl) ?hy) ?_; case hy => (intro w hSw; (try dsimp only at hSw); go_simp; (try with_reducible rfl))) | (refine wpU_takeB (i := 23) (v := _) HOPS rfl (by kernel_rfl) (fun _ _ _ h => h) HCL (goes_not (by rfl)) ?_)
        try simp only [Act.put, List.getElem_toArray, List.getElem_cons_succ, List.getElem_cons_zero, List.setIfInBounds_toArray, List.set_cons_zero, List.set_cons_succ]
        first | (refine wpU_takeB (i := 24) (v := ?_) HOPS rfl (by kernel_rfl) (fun _ _ _ h => h) HCL (goes_read (by rfl) ?hy) ?_; case hy => (intro w hSw; (try dsimp only at hSw); go_simp; (try with_reducible rfl))) | (refine wpU_takeB (i := 24) (v := _) HOPS rfl (by kernel_rfl) (fun _ _ _ h => h) HCL (goes_not (by rfl)) ?_)
        try simp only [Act.put, List.getElem_toArray, List.getElem_cons_succ, List.getElem_cons_zero, List.setIfInBounds_toArray, List.set_cons_zero, List.set_cons_succ]
        refine wpU_takeB (i := 22) HOPS rfl (by kernel_rfl) (fun _ _ _ h => h) HCL (goes_fn (v := (.bool (decide ((yW, yH, yl) = (xw, xh, px0))))) 28 _ _ _ #[(.agg #[.int .i64 yW, .int .i64 yH, .slice AY yl.length cY]), (.agg #[.int .i64 xw, .int .i64 xh, .slice (some ⟨g9, 0, none⟩) px0.length c9])] (by rfl) rfl (by kernel_rfl) (by kernel_rfl) (by kernel_rfl) (fun wq n R hR => ?_)) ?_
        · exact imSame_any _ _ _ _ _ _ _ (HIY.out.kept n nof) (HIX.out.kept n nof) hR
        try simp only [Act.put, List.getElem_toArray, List.getElem_cons_succ, List.getElem_cons_zero, List.setIfInBounds_toArray, List.set_cons_zero, List.set_cons_succ]
        refine wpU_takeB (i := 25) HOPS rfl (by kernel_rfl) (fun _ _ _ h => h) HCL (goes_fn (v := (.bool (decide ((yW, yH, yl) = (xw, xh, px0))))) 16 _ _ _ #[(.agg #[.int .i64 yW, .int .i64 yH, .slice AY yl.length cY]), (.agg #[.int .i64 xw, .int .i64 xh, .slice (some ⟨g9, 0, none⟩) px0.length c9])] (by rfl) rfl (by kernel_rfl) (by kernel_rfl) (by kernel_rfl) (fun wq n R hR => ?_)) ?_
        · exact riSame_any _ _ _ _ _ _ _ (HIY.out.kept n nof) (HIX.out.kept n nof) hR
        try simp only [Act.put, List.getElem_toArray, List.getElem_cons_succ, List.getElem_cons_zero, List.setIfInBounds_toArray, List.set_cons_zero, List.set_cons_succ]
        first | (refine wpU_takeB (i := 26) (v := ?_) HOPS rfl (by kernel_rfl) (fun _ _ _ h => h) HCL (goes_read (by rfl) ?hy) ?_; case hy => (intro w hSw; (try dsimp only at hSw); go_simp; (try with_reducible rfl))) | (refine wpU_takeB (i := 26) (v := _) HOPS rfl (by kernel_rfl) (fun _ _ _ h => h) HCL (goes_not (by rfl)) ?_)
        try simp only [Act.put, List.getElem_toArray, List.getElem_cons_succ, List.getElem_cons_zero, List.setIfInBounds_toArray, List.set_cons_zero, List.set_cons_succ]
        first | (refine wpU_takeB (i := 27) (v := ?_) HOPS rfl (by kernel_rfl) (fun _ _ _ h => h) HCL (goes_read (by rfl) ?hy) ?_; case hy => (intro w hSw; (try dsimp only at hSw); go_simp; (try with_reducible rfl))) | (refine wpU_takeB (i := 27) (v := _) HOPS rfl (by kernel_rfl) (fun _ _ _ h => h) HCL (goes_not (by rfl)) ?_)
        try simp only [Act.put, List.getElem_toArray, List.getElem_cons_succ, List.getElem_cons_zero, List.setIfInBounds_toArray, List.set_cons_zero, List.set_cons_succ]
        first | (refine wpU_takeB (i := 28) (v := ?_) HOPS rfl (by kernel_rfl) (fun _ _ _ h => h) HCL (goes_read (by rfl) ?hy) ?_; case hy => (intro w hSw; (try dsimp only at hSw); go_simp; (try with_reducible rfl))) | (refine wpU_takeB (i := 28) (v := _) HOPS rfl (by kernel_rfl) (fun _ _ _ h => h) HCL (goes_not (by rfl)) ?_)
        try simp only [Act.put, List.getElem_toArray, List.getElem_cons_succ, List.getElem_cons_zero, List.setIfInBounds_toArray, List.set_cons_zero, List.set_cons_succ]
        first | (refine wpU_takeB (i := 29) (v := ?_) HOPS rfl (by kernel_rfl) (fun _ _ _ h => h) HCL (goes_read (by rfl) ?hy) ?_; case hy => (intro w hSw; (try dsimp only at hSw); go_simp; (try with_reducible rfl))) | (refine wpU_takeB (i := 29) (v := _) HOPS rfl (by kernel_rfl) (fun _ _ _ h => h) HCL (goes_not (by rfl)) ?_)
        try simp only [Act.put, List.getElem_toArray, List.getElem_cons_succ, List.getElem_cons_zero, List.setIfInBounds_toArray, List.set_cons_zero, List.set_cons_succ]
        first | (refine wpU_takeB (i := 30) (v := ?_) HOPS rfl (by kernel_rfl) (fun _ _ _ h => h) HCL (goes_read (by rfl) ?hy) ?_; case hy => (intro w hSw; (try dsimp only at hSw); go_simp; (try with_reducible rfl))) | (refine wpU_takeB (i := 30) (v := _) HOPS rfl (by kernel_rfl) (fun _ _ _ h => h) HCL (goes_not (by rfl)) ?_)
        try simp only [Act.put, List.getElem_toArray, List.getElem_cons_succ, List.getElem_cons_zero, List.setIfInBounds_toArray, List.set_cons_zero, List.set_cons_succ]
        first | (refine wpU_takeB (i := 32) (v := ?_) HOPS rfl (by kernel_rfl) (fun _ _ _ h => h) HCL (goes_read (by rfl) ?hy) ?_; case hy => (intro w hSw; (try dsimp only at hSw); go_simp; (try with_reducible rfl))) | (refine wpU_takeB (i := 32) (v := _) HOPS rfl (by kernel_rfl) (fun _ _ _ h => h) HCL (goes_not (by rfl)) ?_)
        try simp only [Act.put, List.getElem_toArray, List.getElem_cons_succ, List.getElem_cons_zero, List.setIfInBounds_toArray, List.set_cons_zero, List.set_cons_succ]
        first | (refine wpU_takeB (i := 33) (v := ?_) HOPS rfl (by kernel_rfl) (fun _ _ _ h => h) HCL (goes_read (by rfl) ?hy) ?_; case hy => (intro w hSw; (try dsimp only at hSw); go_simp; (try with_reducible rfl))) | (refine wpU_takeB (i := 33) (v := _) HOPS rfl (by kernel_rfl) (fun _ _ _ h => h) HCL (goes_not (by rfl)) ?_)
        try simp only [Act.put, List.getElem_toArray, List.getElem_cons_succ, List.getElem_cons_zero, List.setIfInBounds_toArray, List.set_cons_zero, List.set_cons_succ]
        refine wpU_takeB (i := 31) HOPS rfl (by kernel_rfl) (fun _ _ _ h => h) HCL (goes_fn (v := (.bool (decide ((xw, xh, px0) = (yW, yH, yl))))) 28 _ _ _ #[(.agg #[.int .i64 xw, .int .i64 xh, .slice (some ⟨g9, 0, none⟩) px0.length c9]), (.agg #[.int .i64 yW, .int .i64 yH, .slice AY yl.length cY])] (by rfl) rfl (by kernel_rfl) (by kernel_rfl) (by kernel_rfl) (fun wq n R hR => ?_)) ?_
        · exact imSame_any _ _ _ _ _ _ _ (HIX.out.kept n nof) (HIY.out.kept n nof) hR
        try simp only [Act.put, List.getElem_toArray, List.getElem_cons_succ, List.getElem_cons_zero, List.setIfInBounds_toArray, List.set_cons_zero, List.set_cons_succ]
        refine wpU_takeB (i := 34) HOPS rfl (by kernel_rfl) (fun _ _ _ h => h) HCL (goes_fn (v := (.bool (decide ((xw, xh, px0) = (yW, yH, yl))))) 16 _ _ _ #[(.agg #[.int .i64 xw, .int .i64 xh, .slice (some ⟨g9, 0, none⟩) px0.length c9]), (.agg #[.int .i64 yW, .int .i64 yH, .slice AY yl.length cY])] (by rfl) rfl (by kernel_rfl) (by kernel_rfl) (by kernel_rfl) (fun wq n R hR => ?_)) ?_
        · exact riSame_any _ _ _ _ _ _ _ (HIX.out.kept n nof) (HIY.out.kept n nof) hR
        try simp only [Act.put, List.getElem_toArray, List.getElem_cons_succ, List.getElem_cons_zero, List.setIfInBounds_toArray, List.set_cons_zero, List.set_cons_succ]
        first | (refine wpU_takeB (i := 35) (v := ?_) HOPS rfl (by kernel_rfl) (fun _ _ _ h => h) HCL (goes_read (by rfl) ?hy) ?_; case hy => (intro w hSw; (try dsimp only at hSw); go_simp; (try with_reducible rfl))) | (refine wpU_takeB (i := 35) (v := _) HOPS rfl (by kernel_rfl) (fun _ _ _ h => h) HCL (goes_not (by rfl)) ?_)
        try simp only [Act.put, List.getElem_toArray, List.getElem_cons_succ, List.getElem_cons_zero, List.setIfInBounds_toArray, List.set_cons_zero, List.set_cons_succ]
        first | (refine wpU_takeB (i := 36) (v := ?_) HOPS rfl (by kernel_rfl) (fun _ _ _ h => h) HCL (goes_read (by rfl) ?hy) ?_; case hy => (intro w hSw; (try dsimp only at hSw); go_simp; (try with_reducible rfl))) | (refine wpU_takeB (i := 36) (v := _) HOPS rfl (by kernel_rfl) (fun _ _ _ h => h) HCL (goes_not (by rfl)) ?_)
        try simp only [Act.put, List.getElem_toArray, List.getElem_cons_succ, List.getElem_cons_zero, List.setIfInBounds_toArray, List.set_cons_zero, List.set_cons_succ]
        refine wpU_done (by kernel_rfl) (fun w21 hle => ?_) _
        have n := (hle.ahead (by kernel_rfl)).1
        replace NX := Lib.hid (NX.out.trans n)
        replace RN := Lib.hid (RN.out.kept n id)
        replace MX := Lib.hid (MX.out.kept n id)
        replace HLA := Lib.hid (HLA.out.kept n nof)
        replace HLB := Lib.hid (HLB.out.kept n nof)
        replace HXR := Lib.hid (HXR.out.kept n nof)
        replace HB0 := Lib.hid (n.heap HB0.out id)
        replace HB4 := Lib.hid (n.heap HB4.out id)
        replace SZ := Nat.lt_of_lt_of_le SZ n.size
        replace HIR := Lib.hid (HIR.out.kept n nof)
        replace HB8 := Lib.hid (n.heap HB8.out id)
        replace HIX := Lib.hid ((HIX.out.kept n nof).hi n.size)
        replace HIO := Lib.hid ((HIO.out.kept n nof).hi n.size)
        replace HB9 := Lib.hid (n.heap HB9.out id)
        replace HSL := Lib.hid (n.heap HSL.out id)
        replace HC := Lib.hid (HC.out.trans n)
        replace HIY := Lib.hid ((HIY.out.kept n nof).hi n.size)
        replace HBY := Lib.hid (n.heap HBY.out id)
        clear n
        clear HOPS HCL hle
        repeat clear hHeld
        have kHBY0 : w21.cell? ⟨wr0.heap.size, 0, none⟩ = some (.int .i64 yW) := by rw [cell_of HBY.out]; rfl
        have jHBY0 : ∀ o, (w21.alloc o).cell? ⟨wr0.heap.size, 0, none⟩ = some (.int .i64 yW) := fun o => cell_alloc_old o kHBY0
        have kHBY1 : w21.cell? ⟨wr0.heap.size, 1, none⟩ = some (.int .i64 yH) := by rw [cell_of HBY.out]; rfl
        have jHBY1 : ∀ o, (w21.alloc o).cell? ⟨wr0.heap.size, 1, none⟩ = some (.int .i64 yH) := fun o => cell_alloc_old o kHBY1
        have kHBY2 : w21.cell? ⟨wr0.heap.size, 2, none⟩ = some (.slice AY yl.length cY) := by rw [cell_of HBY.out]; rfl
        have jHBY2 : ∀ o, (w21.alloc o).cell? ⟨wr0.heap.size, 2, none⟩ = some (.slice AY yl.length cY) := fun o => cell_alloc_old o kHBY2
        go_wp2_with (go_at_call 6; fail)
        clear kHBY0 jHBY0 kHBY1 jHBY1 kHBY2 jHBY2
        refine Calls_nm ?_
        intro W22 hW
        have n : Nw w21 W22 := by rw [hW]; first | exact Ch.refl _ _ | exact (Ch.refl _ _).alloc _ | exact ((Ch.refl _ _).alloc _).alloc _
        replace NX := Lib.hid (NX.out.trans n)
        replace RN := Lib.hid (RN.out.kept n id)
        replace MX := Lib.hid (MX.out.kept n id)
        replace HLA := Lib.hid (HLA.out.kept n nof)
        replace HLB := Lib.hid (HLB.out.kept n nof)
        replace HXR := Lib.hid (HXR.out.kept n nof)
        replace HB0 := Lib.hid (n.heap HB0.out id)
        replace HB4 := Lib.hid (n.heap HB4.out id)
        replace SZ := Nat.lt_of_lt_of_le SZ n.size
        replace HIR := Lib.hid (HIR.out.kept n nof)
        replace HB8 := Lib.hid (n.heap HB8.out id)
        replace HIX := Lib.hid ((HIX.out.kept n nof).hi n.size)
        replace HIO := Lib.hid ((HIO.out.kept n nof).hi n.size)
        replace HB9 := Lib.hid (n.heap HB9.out id)
        replace HSL := Lib.hid (n.heap HSL.out id)
        replace HC := Lib.hid (HC.out.trans n)
        replace HIY := Lib.hid ((HIY.out.kept n nof).hi n.size)
        replace HBY := Lib.hid (n.heap HBY.out id)
        clear hW n
        refine riText_any _ _ _ _ _ HIY.out (Nat.le_refl _) ?_
        intro w23 n
        replace NX := Lib.hid (NX.out.trans n)
        replace RN := Lib.hid (RN.out.kept n id)
        replace MX := Lib.hid (MX.out.kept n id)
        replace HLA := Lib.hid (HLA.out.kept n nof)
        replace HLB := Lib.hid (HLB.out.kept n nof)
        replace HXR := Lib.hid (HXR.out.kept n nof)
        replace HB0 := Lib.hid (n.heap HB0.out id)
        replace HB4 := Lib.hid (n.heap HB4.out id)
        replace SZ := Nat.lt_of_lt_of_le SZ n.size
        replace HIR := Lib.hid (HIR.out.kept n nof)
        replace HB8 := Lib.hid (n.heap HB8.out id)
        replace HIX := Lib.hid ((HIX.out.kept n nof).hi n.size)
        replace HIO := Lib.hid ((HIO.out.kept n nof).hi n.size)
        replace HB9 := Lib.hid (n.heap HB9.out id)
        replace HSL := Lib.hid (n.heap HSL.out id)
        replace HC := Lib.hid (HC.out.trans n)
        replace HIY := Lib.hid ((HIY.out.kept n nof).hi n.size)
        replace HBY := Lib.hid (n.heap HBY.out id)
        clear n
        obtain ⟨T, hT⟩ : ∃ T : ByteArray, ⟨(textM (yW, yH, yl)).toArray⟩ = T := ⟨_, rfl⟩
        have hTl : T.size ≤ 10100 := by
          rw [← hT]
          show (textM _).toArray.size ≤ _
          rw [List.size_toArray]
          by_cases h : imOk (yW, yH, yl)
          · exact textM_len h
          · unfold textM; rw [if_neg h]; decide
        rw [hT]
        clear hT
        go_upto_region 12 with (first | (go_at_call 12; refine Mod_any _ _ _ _ HQ.out (by omega) (by omega) ?_) | fail)
        obtain ⟨m, hm⟩ : ∃ m : Nat, q % ((T.size : Int) + 1) = (m : Int) := ⟨(q % ((T.size : Int) + 1)).toNat, by have := Int.emod_nonneg q (show (T.size : Int) + 1 ≠ 0 by omega); omega⟩
        have hmT : m ≤ T.size := by have := Int.emod_lt_of_pos q (show (0 : Int) < (T.size : Int) + 1 by omega); omega
        rw [hm]
        clear hm
        have m0 : (0 : Int) ≤ (m : Int) := by omega
        have m1 : (m : Int) ≤ (T.size : Int) := by omega
        have ew1 : IntKind.i64.wrap ((m : Int) + 1) = (m : Int) + 1 := by rw [IntKind.wrap_i64]; omega
        obtain ⟨mm, emm⟩ : ∃ k : Nat, min ((m : Int) + 1) (T.size : Int) = (k : Int) := ⟨(min ((m : Int) + 1) (T.size : Int)).toNat, by omega⟩
        have mm0 : (0 : Int) ≤ (mm : Int) := by omega
        have mm1 : (mm : Int) ≤ (T.size : Int) := by omega
        have hmm : mm ≤ T.size := by omega
        refine wp_named ?_
        intro W24 hW
        have n : Nw w23 W24 := by rw [hW]; first | exact Ch.refl _ _ | exact (Ch.refl _ _).alloc _
        replace NX := Lib.hid (NX.out.trans n)
        replace RN := Lib.hid (RN.out.kept n id)
        replace MX := Lib.hid (MX.out.kept n id)
        replace HLA := Lib.hid (HLA.out.kept n nof)
        replace HLB := Lib.hid (HLB.out.kept n nof)
        replace HXR := Lib.hid (HXR.out.kept n nof)
        replace HB0 := Lib.hid (n.heap HB0.out id)
        replace HB4 := Lib.hid (n.heap HB4.out id)
        replace SZ := Nat.lt_of_lt_of_le SZ n.size
        replace HIR := Lib.hid (HIR.out.kept n nof)
        replace HB8 := Lib.hid (n.heap HB8.out id)
        replace HIX := Lib.hid ((HIX.out.kept n nof).hi n.size)
        replace HIO := Lib.hid ((HIO.out.kept n nof).hi n.size)
        replace HB9 := Lib.hid (n.heap HB9.out id)
        replace HSL := Lib.hid (n.heap HSL.out id)
        replace HC := Lib.hid (HC.out.trans n)
        replace HIY := Lib.hid ((HIY.out.kept n nof).hi n.size)
        replace HBY := Lib.hid (n.heap HBY.out id)
        clear hW n
        refine wp_region_V (F := fun w' => True) (opsOf Tryd.f4 12) 42 42 (by kernel_rfl) (by kernel_rfl) (by kernel_rfl) (fun w w' h n => True.intro) True.intro (fun HOPS HCL hHeld => ?_)
        refine wpU_named ?_
        intro W25 hW
        try rw [← hW] at hHeld
        have n : Nw W24 W25 := by rw [hW]; exact (Ch.refl _ _).drew
        replace NX := Lib.hid (NX.out.trans n)
        replace RN := Lib.hid (RN.out.kept n id)
        replace MX := Lib.hid (MX.out.kept n id)
        replace HLA := Lib.hid (HLA.out.kept n nof)
        replace HLB := Lib.hid (HLB.out.kept n nof)
        replace HXR := Lib.hid (HXR.out.kept n nof)
        replace HB0 := Lib.hid (n.heap HB0.out id)
        replace HB4 := Lib.hid (n.heap HB4.out id)
        replace SZ := Nat.lt_of_lt_of_le SZ n.size
        replace HIR := Lib.hid (HIR.out.kept n nof)
        replace HB8 := Lib.hid (n.heap HB8.out id)
        replace HIX := Lib.hid ((HIX.out.kept n nof).hi n.size)
        replace HIO := Lib.hid ((HIO.out.kept n nof).hi n.size)
        replace HB9 := Lib.hid (n.heap HB9.out id)
        replace HSL := Lib.hid (n.heap HSL.out id)
        replace HC := Lib.hid (HC.out.trans n)
        replace HIY := Lib.hid ((HIY.out.kept n nof).hi n.size)
        replace HBY := Lib.hid (n.heap HBY.out id)
        clear hW n
        first | (refine wpU_takeB (i := 0) (v := ?_) HOPS rfl (by kernel_rfl) (fun _ _ _ h => h) HCL (goes_read (by rfl) ?hy) ?_; case hy => (intro w hSw; (try dsimp only at hSw); go_simp; (try with_reducible rfl))) | (refine wpU_takeB (i := 0) (v := _) HOPS rfl (by kernel_rfl) (fun _ _ _ h => h) HCL (goes_not (by rfl)) ?_)
        try simp only [Act.put, List.getElem_toArray, List.getElem_cons_succ, List.getElem_cons_zero, List.setIfInBounds_toArray, List.set_cons_zero, List.set_cons_succ]
        first | (refine wpU_takeB (i := 1) (v := ?_) HOPS rfl (by kernel_rfl) (fun _ _ _ h => h) HCL (goes_read (by rfl) ?hy) ?_; case hy => (intro w hSw; (try dsimp only at hSw); go_simp; (try with_reducible rfl))) | (refine wpU_takeB (i := 1) (v := _) HOPS rfl (by kernel_rfl) (fun _ _ _ h => h) HCL (goes_not (by rfl)) ?_)
        try simp only [Act.put, List.getElem_toArray, List.getElem_cons_succ, List.getElem_cons_zero, List.setIfInBounds_toArray, List.set_cons_zero, List.set_cons_succ]
        first | (refine wpU_takeB (i := 2) (v := ?_) HOPS rfl (by kernel_rfl) (fun _ _ _ h => h) HCL (goes_read (by rfl) ?hy) ?_; case hy => (intro w hSw; (try dsimp only at hSw); go_simp; (try with_reducible rfl))) | (refine wpU_takeB (i := 2) (v := _) HOPS rfl (by kernel_rfl) (fun _ _ _ h => h) HCL (goes_not (by rfl)) ?_)
        try simp only [Act.put, List.getElem_toArray, List.getElem_cons_succ, List.getElem_cons_zero, List.setIfInBounds_toArray, List.set_cons_zero, List.set_cons_succ]
        first | (refine wpU_takeB (i := 3) (v := ?_) HOPS rfl (by kernel_rfl) (fun _ _ _ h => h) HCL (goes_read (by rfl) ?hy) ?_; case hy => (intro w hSw; (try dsimp only at hSw); go_simp; (try with_reducible rfl))) | (refine wpU_takeB (i := 3) (v := _) HOPS rfl (by kernel_rfl) (fun _ _ _ h => h) HCL (goes_not (by rfl)) ?_)
        try simp only [Act.put, List.getElem_toArray, List.getElem_cons_succ, List.getElem_cons_zero, List.setIfInBounds_toArray, List.set_cons_zero, List.set_cons_succ]
        first | (refine wpU_takeB (i := 4) (v := ?_) HOPS rfl (by kernel_rfl) (fun _ _ _ h => h) HCL (goes_read (by rfl) ?hy) ?_; case hy => (intro w hSw; (try dsimp only at hSw); go_simp; (try with_reducible rfl))) | (refine wpU_takeB (i := 4) (v := _) HOPS rfl (by kernel_rfl) (fun _ _ _ h => h) HCL (goes_not (by rfl)) ?_)
        try simp only [Act.put, List.getElem_toArray, List.getElem_cons_succ, List.getElem_cons_zero, List.setIfInBounds_toArray, List.set_cons_zero, List.set_cons_succ]
        first | (refine wpU_takeB (i := 5) (v := ?_) HOPS rfl (by kernel_rfl) (fun _ _ _ h => h) HCL (goes_read (by rfl) ?hy) ?_; case hy => (intro w hSw; (try dsimp only at hSw); go_simp; (try with_reducible rfl))) | (refine wpU_takeB (i := 5) (v := _) HOPS rfl (by kernel_rfl) (fun _ _ _ h => h) HCL (goes_not (by rfl)) ?_)
        try simp only [Act.put, List.getElem_toArray, List.getElem_cons_succ, List.getElem_cons_zero, List.setIfInBounds_toArray, List.set_cons_zero, List.set_cons_succ]
        first | (refine wpU_takeB (i := 6) (v := ?_) HOPS rfl (by kernel_rfl) (fun _ _ _ h => h) HCL (goes_read (by rfl) ?hy) ?_; case hy => (intro w hSw; (try dsimp only at hSw); go_simp; (try with_reducible rfl))) | (refine wpU_takeB (i := 6) (v := _) HOPS rfl (by kernel_rfl) (fun _ _ _ h => h) HCL (goes_not (by rfl)) ?_)
        try simp only [Act.put, List.getElem_toArray, List.getElem_cons_succ, List.getElem_cons_zero, List.setIfInBounds_toArray, List.set_cons_zero, List.set_cons_succ]
        first | (refine wpU_takeB (i := 8) (v := ?_) HOPS rfl (by kernel_rfl) (fun _ _ _ h => h) HCL (goes_read (by rfl) ?hy) ?_; case hy => (intro w hSw; (try dsimp only at hSw); go_simp; (try with_reducible rfl))) | (refine wpU_takeB (i := 8) (v := _) HOPS rfl (by kernel_rfl) (fun _ _ _ h => h) HCL (goes_not (by rfl)) ?_)
        try simp only [Act.put, List.getElem_toArray, List.getElem_cons_succ, List.getElem_cons_zero, List.setIfInBounds_toArray, List.set_cons_zero, List.set_cons_succ]
        first | (refine wpU_takeB (i := 9) (v := ?_) HOPS rfl (by kernel_rfl) (fun _ _ _ h => h) HCL (goes_read (by rfl) ?hy) ?_; case hy => (intro w hSw; (try dsimp only at hSw); go_simp; (try with_reducible rfl))) | (refine wpU_takeB (i := 9) (v := _) HOPS rfl (by kernel_rfl) (fun _ _ _ h => h) HCL (goes_not (by rfl)) ?_)
        try simp only [Act.put, List.getElem_toArray, List.getElem_cons_succ, List.getElem_cons_zero, List.setIfInBounds_toArray, List.set_cons_zero, List.set_cons_succ]
        first | (refine wpU_takeB (i := 10) (v := ?_) HOPS rfl (by kernel_rfl) (fun _ _ _ h => h) HCL (goes_read (by rfl) ?hy) ?_; case hy => (intro w hSw; (try dsimp only at hSw); go_simp; (try with_reducible rfl))) | (refine wpU_takeB (i := 10) (v := _) HOPS rfl (by kernel_rfl) (fun _ _ _ h => h) HCL (goes_not (by rfl)) ?_)
        try simp only [Act.put, List.getElem_toArray, List.getElem_cons_succ, List.getElem_cons_zero, List.setIfInBounds_toArray, List.set_cons_zero, List.set_cons_succ]
        first | (refine wpU_takeB (i := 12) (v := ?_) HOPS rfl (by kernel_rfl) (fun _ _ _ h => h) HCL (goes_read (by rfl) ?hy) ?_; case hy => (intro w hSw; (try dsimp only at hSw); go_simp; (try with_reducible rfl))) | (refine wpU_takeB (i := 12) (v := _) HOPS rfl (by kernel_rfl) (fun _ _ _ h => h) HCL (goes_not (by rfl)) ?_)
        try simp only [Act.put, List.getElem_toArray, List.getElem_cons_succ, List.getElem_cons_zero, List.setIfInBounds_toArray, List.set_cons_zero, List.set_cons_succ]
        first | (refine wpU_takeB (i := 13) (v := ?_) HOPS rfl (by kernel_rfl) (fun _ _ _ h => h) HCL (goes_read (by rfl) ?hy) ?_; case hy => (intro w hSw; (try dsimp only at hSw); go_simp; (try with_reducible rfl))) | (refine wpU_takeB (i := 13) (v := _) HOPS rfl (by kernel_rfl) (fun _ _ _ h => h) HCL (goes_not (by rfl)) ?_)
        try simp only [Act.put, List.getElem_toArray, List.getElem_cons_succ, List.getElem_cons_zero, List.setIfInBounds_toArray, List.set_cons_zero, List.set_cons_succ]
        first | (refine wpU_takeB (i := 14) (v := ?_) HOPS rfl (by kernel_rfl) (fun _ _ _ h => h) HCL (goes_read (by rfl) ?hy) ?_; case hy => (intro w hSw; (try dsimp only at hSw); go_simp; (try with_reducible rfl))) | (refine wpU_takeB (i := 14) (v := _) HOPS rfl (by kernel_rfl) (fun _ _ _ h => h) HCL (goes_not (by rfl)) ?_)
        try simp only [Act.put, List.getElem_toArray, List.getElem_cons_succ, List.getElem_cons_zero, List.setIfInBounds_toArray, List.set_cons_zero, List.set_cons_succ]
        first | (refine wpU_takeB (i := 15) (v := ?_) HOPS rfl (by kernel_rfl) (fun _ _ _ h => h) HCL (goes_read (by rfl) ?hy) ?_; case hy => (intro w hSw; (try dsimp only at hSw); go_simp; (try with_reducible rfl))) | (refine wpU_takeB (i := 15) (v := _) HOPS rfl (by kernel_rfl) (fun _ _ _ h => h) HCL (goes_not (by rfl)) ?_)
        try simp only [Act.put, List.getElem_toArray, List.getElem_cons_succ, List.getElem_cons_zero, List.setIfInBounds_toArray, List.set_cons_zero, List.set_cons_succ]
        first | (refine wpU_takeB (i := 16) (v := ?_) HOPS rfl (by kernel_rfl) (fun _ _ _ h => h) HCL (goes_read (by rfl) ?hy) ?_; case hy => (intro w hSw; (try dsimp only at hSw); go_simp; (try with_reducible rfl))) | (refine wpU_takeB (i := 16) (v := _) HOPS rfl (by kernel_rfl) (fun _ _ _ h => h) HCL (goes_not (by rfl)) ?_)
        try simp only [Act.put, List.getElem_toArray, List.getElem_cons_succ, List.getElem_cons_zero, List.setIfInBounds_toArray, List.set_cons_zero, List.set_cons_succ]
        first | (refine wpU_takeB (i := 17) (v := ?_) HOPS rfl (by kernel_rfl) (fun _ _ _ h => h) HCL (goes_read (by rfl) ?hy) ?_; case hy => (intro w hSw; (try dsimp only at hSw); go_simp; (try with_reducible rfl))) | (refine wpU_takeB (i := 17) (v := _) HOPS rfl (by kernel_rfl) (fun _ _ _ h => h) HCL (goes_not (by rfl)) ?_)
        try simp only [Act.put, List.getElem_toArray, List.getElem_cons_succ, List.getElem_cons_zero, List.setIfInBounds_toArray, List.set_cons_zero, List.set_cons_succ]
        first | (refine wpU_takeB (i := 19) (v := ?_) HOPS rfl (by kernel_rfl) (fun _ _ _ h => h) HCL (goes_read (by rfl) ?hy) ?_; case hy => (intro w hSw; (try dsimp only at hSw); go_simp; (try with_reducible rfl))) | (refine wpU_takeB (i := 19) (v := _) HOPS rfl (by kernel_rfl) (fun _ _ _ h => h) HCL (goes_not (by rfl)) ?_)
        try simp only [Act.put, List.getElem_toArray, List.getElem_cons_succ, List.getElem_cons_zero, List.setIfInBounds_toArray, List.set_cons_zero, List.set_cons_succ]
        first | (refine wpU_takeB (i := 20) (v := ?_) HOPS rfl (by kernel_rfl) (fun _ _ _ h => h) HCL (goes_read (by rfl) ?hy) ?_; case hy => (intro w hSw; (try dsimp only at hSw); go_simp; (try with_reducible rfl))) | (refine wpU_takeB (i := 20) (v := _) HOPS rfl (by kernel_rfl) (fun _ _ _ h => h) HCL (goes_not (by rfl)) ?_)
        try simp only [Act.put, List.getElem_toArray, List.getElem_cons_succ, List.getElem_cons_zero, List.setIfInBounds_toArray, List.set_cons_zero, List.set_cons_succ]
        first | (refine wpU_takeB (i := 21) (v := ?_) HOPS rfl (by kernel_rfl) (fun _ _ _ h => h) HCL (goes_read (by rfl) ?hy) ?_; case hy => (intro w hSw; (try dsimp only at hSw); go_simp; (try with_reducible rfl))) | (refine wpU_takeB (i := 21) (v := _) HOPS rfl (by kernel_rfl) (fun _ _ _ h => h) HCL (goes_not (by rfl)) ?_)
        try simp only [Act.put, List.getElem_toArray, List.getElem_cons_succ, List.getElem_cons_zero, List.setIfInBounds_toArray, List.set_cons_zero, List.set_cons_succ]
        first | (refine wpU_takeB (i := 22) (v := ?_) HOPS rfl (by kernel_rfl) (fun _ _ _ h => h) HCL (goes_read (by rfl) ?hy) ?_; case hy => (intro w hSw; (try dsimp only at hSw); go_simp; (try with_reducible rfl))) | (refine wpU_takeB (i := 22) (v := _) HOPS rfl (by kernel_rfl) (fun _ _ _ h => h) HCL (goes_not (by rfl)) ?_)
        try simp only [Act.put, List.getElem_toArray, List.getElem_cons_succ, List.getElem_cons_zero, List.setIfInBounds_toArray, List.set_cons_zero, List.set_cons_succ]
        first | (refine wpU_takeB (i := 23) (v := ?_) HOPS rfl (by kernel_rfl) (fun _ _ _ h => h) HCL (goes_read (by rfl) ?hy) ?_; case hy => (intro w hSw; (try dsimp only at hSw); go_simp; (try with_reducible rfl))) | (refine wpU_takeB (i := 23) (v := _) HOPS rfl (by kernel_rfl) (fun _ _ _ h => h) HCL (goes_not (by rfl)) ?_)
        try simp only [Act.put, List.getElem_toArray, List.getElem_cons_succ, List.getElem_cons_zero, List.setIfInBounds_toArray, List.set_cons_zero, List.set_cons_succ]
        first | (refine wpU_takeB (i := 24) (v := ?_) HOPS rfl (by kernel_rfl) (fun _ _ _ h => h) HCL (goes_read (by rfl) ?hy) ?_; case hy => (intro w hSw; (try dsimp only at hSw); go_simp; (try with_reducible rfl))) | (refine wpU_takeB (i := 24) (v := _) HOPS rfl (by kernel_rfl) (fun _ _ _ h => h) HCL (goes_not (by rfl)) ?_)
        try simp only [Act.put, List.getElem_toArray, List.getElem_cons_succ, List.getElem_cons_zero, List.setIfInBounds_toArray, List.set_cons_zero, List.set_cons_succ]
        first | (refine wpU_takeB (i := 25) (v := ?_) HOPS rfl (by kernel_rfl) (fun _ _ _ h => h) HCL (goes_read (by rfl) ?hy) ?_; case hy => (intro w hSw; (try dsimp only at hSw); go_simp; (try with_reducible rfl))) | (refine wpU_takeB (i := 25) (v := _) HOPS rfl (by kernel_rfl) (fun _ _ _ h => h) HCL (goes_not (by rfl)) ?_)
        try simp only [Act.put, List.getElem_toArray, List.getElem_cons_succ, List.getElem_cons_zero, List.setIfInBounds_toArray, List.set_cons_zero, List.set_cons_succ]
        first | (refine wpU_takeB (i := 27) (v := ?_) HOPS rfl (by kernel_rfl) (fun _ _ _ h => h) HCL (goes_read (by rfl) ?hy) ?_; case hy => (intro w hSw; (try dsimp only at hSw); go_simp; (try with_reducible rfl))) | (refine wpU_takeB (i := 27) (v := _) HOPS rfl (by kernel_rfl) (fun _ _ _ h => h) HCL (goes_not (by rfl)) ?_)
        try simp only [Act.put, List.getElem_toArray, List.getElem_cons_succ, List.getElem_cons_zero, List.setIfInBounds_toArray, List.set_cons_zero, List.set_cons_succ]
        first | (refine wpU_takeB (i := 28) (v := ?_) HOPS rfl (by kernel_rfl) (fun _ _ _ h => h) HCL (goes_read (by rfl) ?hy) ?_; case hy => (intro w hSw; (try dsimp only at hSw); go_simp; (try with_reducible rfl))) | (refine wpU_takeB (i := 28) (v := _) HOPS rfl (by kernel_rfl) (fun _ _ _ h => h) HCL (goes_not (by rfl)) ?_)
        try simp only [Act.put, List.getElem_toArray, List.getElem_cons_succ, List.getElem_cons_zero, List.setIfInBounds_toArray, List.set_cons_zero, List.set_cons_succ]
        first | (refine wpU_takeB (i := 29) (v := ?_) HOPS rfl (by kernel_rfl) (fun _ _ _ h => h) HCL (goes_read (by rfl) ?hy) ?_; case hy => (intro w hSw; (try dsimp only at hSw); go_simp; (try with_reducible rfl))) | (refine wpU_takeB (i := 29) (v := _) HOPS rfl (by kernel_rfl) (fun _ _ _ h => h) HCL (goes_not (by rfl)) ?_)
        try simp only [Act.put, List.getElem_toArray, List.getElem_cons_succ, List.getElem_cons_zero, List.setIfInBounds_toArray, List.set_cons_zero, List.set_cons_succ]
        first | (refine wpU_takeB (i := 31) (v := ?_) HOPS rfl (by kernel_rfl) (fun _ _ _ h => h) HCL (goes_read (by rfl) ?hy) ?_; case hy => (intro w hSw; (try dsimp only at hSw); go_simp; (try with_reducible rfl))) | (refine wpU_takeB (i := 31) (v := _) HOPS rfl (by kernel_rfl) (fun _ _ _ h => h) HCL (goes_not (by rfl)) ?_)
        try simp only [Act.put, List.getElem_toArray, List.getElem_cons_succ, List.getElem_cons_zero, List.setIfInBounds_toArray, List.set_cons_zero, List.set_cons_succ]
        first | (refine wpU_takeB (i := 32) (v := ?_) HOPS rfl (by kernel_rfl) (fun _ _ _ h => h) HCL (goes_read (by rfl) ?hy) ?_; case hy => (intro w hSw; (try dsimp only at hSw); go_simp; (try with_reducible rfl))) | (refine wpU_takeB (i := 32) (v := _) HOPS rfl (by kernel_rfl) (fun _ _ _ h => h) HCL (goes_not (by rfl)) ?_)
        try simp only [Act.put, List.getElem_toArray, List.getElem_cons_succ, List.getElem_cons_zero, List.setIfInBounds_toArray, List.set_cons_zero, List.set_cons_succ]
        first | (refine wpU_takeB (i := 33) (v := ?_) HOPS rfl (by kernel_rfl) (fun _ _ _ h => h) HCL (goes_read (by rfl) ?hy) ?_; case hy => (intro w hSw; (try dsimp only at hSw); go_simp; (try with_reducible rfl))) | (refine wpU_takeB (i := 33) (v := _) HOPS rfl (by kernel_rfl) (fun _ _ _ h => h) HCL (goes_not (by rfl)) ?_)
        try simp only [Act.put, List.getElem_toArray, List.getElem_cons_succ, List.getElem_cons_zero, List.setIfInBounds_toArray, List.set_cons_zero, List.set_cons_succ]
        first | (refine wpU_takeB (i := 34) (v := ?_) HOPS rfl (by kernel_rfl) (fun _ _ _ h => h) HCL (goes_read (by rfl) ?hy) ?_; case hy => (intro w hSw; (try dsimp only at hSw); go_simp; (try with_reducible rfl))) | (refine wpU_takeB (i := 34) (v := _) HOPS rfl (by kernel_rfl) (fun _ _ _ h => h) HCL (goes_not (by rfl)) ?_)
        try simp only [Act.put, List.getElem_toArray, List.getElem_cons_succ, List.getElem_cons_zero, List.setIfInBounds_toArray, List.set_cons_zero, List.set_cons_succ]
        first | (refine wpU_takeB (i := 35) (v := ?_) HOPS rfl (by kernel_rfl) (fun _ _ _ h => h) HCL (goes_read (by rfl) ?hy) ?_; case hy => (intro w hSw; (try dsimp only at hSw); go_simp; (try with_reducible rfl))) | (refine wpU_takeB (i := 35) (v := _) HOPS rfl (by kernel_rfl) (fun _ _ _ h => h) HCL (goes_not (by rfl)) ?_)
        try simp only [Act.put, List.getElem_toArray, List.getElem_cons_succ, List.getElem_cons_zero, List.setIfInBounds_toArray, List.set_cons_zero, List.set_cons_succ]
        first | (refine wpU_takeB (i := 36) (v := ?_) HOPS rfl (by kernel_rfl) (fun _ _ _ h => h) HCL (goes_read (by rfl) ?hy) ?_; case hy => (intro w hSw; (try dsimp only at hSw); go_simp; (try with_reducible rfl))) | (refine wpU_takeB (i := 36) (v := _) HOPS rfl (by kernel_rfl) (fun _ _ _ h => h) HCL (goes_not (by rfl)) ?_)
        try simp only [Act.put, List.getElem_toArray, List.getElem_cons_succ, List.getElem_cons_zero, List.setIfInBounds_toArray, List.set_cons_zero, List.set_cons_succ]
        first | (refine wpU_takeB (i := 37) (v := ?_) HOPS rfl (by kernel_rfl) (fun _ _ _ h => h) HCL (goes_read (by rfl) ?hy) ?_; case hy => (intro w hSw; (try dsimp only at hSw); go_simp; (try with_reducible rfl))) | (refine wpU_takeB (i := 37) (v := _) HOPS rfl (by kernel_rfl) (fun _ _ _ h => h) HCL (goes_not (by rfl)) ?_)
        try simp only [Act.put, List.getElem_toArray, List.getElem_cons_succ, List.getElem_cons_zero, List.setIfInBounds_toArray, List.set_cons_zero, List.set_cons_succ]
        first | (refine wpU_takeB (i := 41) (v := ?_) HOPS rfl (by kernel_rfl) (fun _ _ _ h => h) HCL (goes_read (by rfl) ?hy) ?_; case hy => (intro w hSw; (try dsimp only at hSw); go_simp; (try with_reducible rfl))) | (refine wpU_takeB (i := 41) (v := _) HOPS rfl (by kernel_rfl) (fun _ _ _ h => h) HCL (goes_not (by rfl)) ?_)
        try simp only [Act.put, List.getElem_toArray, List.getElem_cons_succ, List.getElem_cons_zero, List.setIfInBounds_toArray, List.set_cons_zero, List.set_cons_succ]
        refine wpU_takeB (i := 7) HOPS rfl (by kernel_rfl) (fun _ _ _ h => h) HCL (goes_cat _ _ _ _ _ _ _ _ (by rfl) rfl (by rfl) (by rfl) (sz_ext hTl) (by decide : _ ≤ 1) (by decide)) ?_
        try simp only [Act.put, List.getElem_toArray, List.getElem_cons_succ, List.getElem_cons_zero, List.setIfInBounds_toArray, List.set_cons_zero, List.set_cons_succ]
        refine wpU_takeB (i := 11) HOPS rfl (by kernel_rfl) (fun _ _ _ h => h) HCL (goes_cat _ _ _ _ _ _ _ _ (by rfl) rfl (by rfl) (by rfl) (sz_cat (sz_ext hTl) (by decide : _ ≤ 1)) (sz_ext hTl) (by decide)) ?_
        try simp only [Act.put, List.getElem_toArray, List.getElem_cons_succ, List.getElem_cons_zero, List.setIfInBounds_toArray, List.set_cons_zero, List.set_cons_succ]
        refine wpU_takeB (i := 18) HOPS rfl (by kernel_rfl) (fun _ _ _ h => h) HCL (goes_cat _ _ _ _ _ _ _ _ (by rfl) rfl (by rfl) (by rfl) (sz_ext hTl) (by decide : _ ≤ 1) (by decide)) ?_
        try simp only [Act.put, List.getElem_toArray, List.getElem_cons_succ, List.getElem_cons_zero, List.setIfInBounds_toArray, List.set_cons_zero, List.set_cons_succ]
        refine wpU_takeB (i := 26) HOPS rfl (by kernel_rfl) (fun _ _ _ h => h) HCL (goes_cat _ _ _ _ _ _ _ _ (by rfl) rfl (by rfl) (by rfl) (sz_cat (sz_ext hTl) (by decide : _ ≤ 1)) (sz_ext hTl) (by decide)) ?_
        try simp only [Act.put, List.getElem_toArray, List.getElem_cons_succ, List.getElem_cons_zero, List.setIfInBounds_toArray, List.set_cons_zero, List.set_cons_succ]
        refine wpU_takeB (i := 30) HOPS rfl (by kernel_rfl) (fun _ _ _ h => h) HCL (goes_cat _ _ _ _ _ _ _ _ (by rfl) rfl (by rfl) (by rfl) (sz_ext hTl) (by decide : _ ≤ 1) (by decide)) ?_
        try simp only [Act.put, List.getElem_toArray, List.getElem_cons_succ, List.getElem_cons_zero, List.setIfInBounds_toArray, List.set_cons_zero, List.set_cons_succ]
        refine wpU_takeB (i := 38) HOPS rfl (by kernel_rfl) (fun _ _ _ h => h) HCL (goes_cat _ _ _ _ _ _ _ _ (by rfl) rfl (by rfl) (by rfl) (sz_cat (sz_ext hTl) (by decide : _ ≤ 1)) (sz_ext hTl) (by decide)) ?_
        try simp only [Act.put, List.getElem_toArray, List.getElem_cons_succ, List.getElem_cons_zero, List.setIfInBounds_toArray, List.set_cons_zero, List.set_cons_succ]
        refine wpU_ready (rs := [39]) (by kernel_rfl) (by simp) ?_
        intro w26 hle
        obtain ⟨n, hHeld⟩ := hle.ahead (by kernel_rfl)
        clear hle
        replace NX := Lib.hid (NX.out.trans n)
        replace RN := Lib.hid (RN.out.kept n id)
        replace MX := Lib.hid (MX.out.kept n id)
        replace HLA := Lib.hid (HLA.out.kept n nof)
        replace HLB := Lib.hid (HLB.out.kept n nof)
        replace HXR := Lib.hid (HXR.out.kept n nof)
        replace HB0 := Lib.hid (n.heap HB0.out id)
        replace HB4 := Lib.hid (n.heap HB4.out id)
        replace SZ := Nat.lt_of_lt_of_le SZ n.size
        replace HIR := Lib.hid (HIR.out.kept n nof)
        replace HB8 := Lib.hid (n.heap HB8.out id)
        replace HIX := Lib.hid ((HIX.out.kept n nof).hi n.size)
        replace HIO := Lib.hid ((HIO.out.kept n nof).hi n.size)
        replace HB9 := Lib.hid (n.heap HB9.out id)
        replace HSL := Lib.hid (n.heap HSL.out id)
        replace HC := Lib.hid (HC.out.trans n)
        replace HIY := Lib.hid ((HIY.out.kept n nof).hi n.size)
        replace HBY := Lib.hid (n.heap HBY.out id)
        clear n
        refine ReadyU.cons HOPS rfl (by rfl) (fun K hK => ?_) ReadyU.nil
        refine wp_lits6 52 9 _ _ _ _ _ _ rfl (by kernel_rfl) (by kernel_rfl) (by rfl) (by rfl) (by rfl) (by rfl) (by rfl) (by rfl) rfl ?_
        refine hK.out _ _ ((Ch.refl _ _).alloc _) True.intro (fun hHeld => ?_)
        clear hK K
        try simp only [Act.put, List.getElem_toArray, List.getElem_cons_succ, List.getElem_cons_zero, List.setIfInBounds_toArray, List.set_cons_zero, List.set_cons_succ]
        have SZAHSS := SZ
        refine wpU_named ?_
        intro W27 hW
        try rw [← hW] at hHeld
        have n : Nw w26 W27 := by rw [hW]; exact (Ch.refl _ _).alloc _
        replace NX := Lib.hid (NX.out.trans n)
        replace RN := Lib.hid (RN.out.kept n id)
        replace MX := Lib.hid (MX.out.kept n id)
        replace HLA := Lib.hid (HLA.out.kept n nof)
        replace HLB := Lib.hid (HLB.out.kept n nof)
        replace HXR := Lib.hid (HXR.out.kept n nof)
        replace HB0 := Lib.hid (n.heap HB0.out id)
        replace HB4 := Lib.hid (n.heap HB4.out id)
        replace SZ := Nat.lt_of_lt_of_le SZ n.size
        replace HIR := Lib.hid (HIR.out.kept n nof)
        replace HB8 := Lib.hid (n.heap HB8.out id)
        replace HIX := Lib.hid ((HIX.out.kept n nof).hi n.size)
        replace HIO := Lib.hid ((HIO.out.kept n nof).hi n.size)
        replace HB9 := Lib.hid (n.heap HB9.out id)
        replace HSL := Lib.hid (n.heap HSL.out id)
        replace HC := Lib.hid (HC.out.trans n)
        replace HIY := Lib.hid ((HIY.out.kept n nof).hi n.size)
        replace HBY := Lib.hid (n.heap HBY.out id)
        obtain ⟨SS, hss, hs6, hsz⟩ : ∃ l : List ByteArray, W27.heap[w26.heap.size]? = some (.cells (l.map Value.string).toArray 9 (0, 0)) ∧ l.length = 6 ∧ ∀ s ∈ l, s.size ≤ 500000 := by
          refine ⟨[T, T.extract 0 m, T.extract 0 m ++ ⟨#[63]⟩ ++ T.extract m T.size, T.extract m T.size, T.extract 0 m ++ ⟨#[120]⟩ ++ T.extract mm T.size, T.extract 0 m ++ ⟨#[10]⟩ ++ T.extract mm T.size], ?_, rfl, ?_⟩
          · rw [hW]; exact heap_alloc_eq _ rfl
          · intro s hs
            simp only [List.mem_cons, List.not_mem_nil, or_false] at hs
            rcases hs with rfl | rfl | rfl | rfl | rfl | rfl
            · exact Nat.le_trans hTl (by omega)
            · exact Nat.le_trans (sz_ext hTl) (by omega)
            · exact Nat.le_trans (sz_cat (sz_cat (sz_ext hTl) (by decide : _ ≤ 1)) (sz_ext hTl)) (by omega)
            · exact Nat.le_trans (sz_ext hTl) (by omega)
            · exact Nat.le_trans (sz_cat (sz_cat (sz_ext hTl) (by decide : _ ≤ 1)) (sz_ext hTl)) (by omega)
            · exact Nat.le_trans (sz_cat (sz_cat (sz_ext hTl) (by decide : _ ≤ 1)) (sz_ext hTl)) (by omega)
        have HSS := Lib.hid hss
        have HSZ := Lib.hid hsz
        clear hss hsz
        clear hW n
        first | (refine wpU_takeB (i := 40) (v := ?_) HOPS rfl (by kernel_rfl) (fun _ _ _ h => h) HCL (goes_read (by rfl) ?hy) ?_; case hy => (intro w hSw; (try dsimp only at hSw); go_simp; (try with_reducible rfl))) | (refine wpU_takeB (i := 40) (v := _) HOPS rfl (by kernel_rfl) (fun _ _ _ h => h) HCL (goes_not (by rfl)) ?_)
        try simp only [Act.put, List.getElem_toArray, List.getElem_cons_succ, List.getElem_cons_zero, List.setIfInBounds_toArray, List.set_cons_zero, List.set_cons_succ]
        refine wpU_done (by kernel_rfl) (fun w28 hle => ?_) _
        have n := (hle.ahead (by kernel_rfl)).1
        replace NX := Lib.hid (NX.out.trans n)
        replace RN := Lib.hid (RN.out.kept n id)
        replace MX := Lib.hid (MX.out.kept n id)
        replace HLA := Lib.hid (HLA.out.kept n nof)
        replace HLB := Lib.hid (HLB.out.kept n nof)
        replace HXR := Lib.hid (HXR.out.kept n nof)
        replace HB0 := Lib.hid (n.heap HB0.out id)
        replace HB4 := Lib.hid (n.heap HB4.out id)
        replace SZ := Nat.lt_of_lt_of_le SZ n.size
        replace HIR := Lib.hid (HIR.out.kept n nof)
        replace HB8 := Lib.hid (n.heap HB8.out id)
        replace HIX := Lib.hid ((HIX.out.kept n nof).hi n.size)
        replace HIO := Lib.hid ((HIO.out.kept n nof).hi n.size)
        replace HB9 := Lib.hid (n.heap HB9.out id)
        replace HSL := Lib.hid (n.heap HSL.out id)
        replace HC := Lib.hid (HC.out.trans n)
        replace HIY := Lib.hid ((HIY.out.kept n nof).hi n.size)
        replace HBY := Lib.hid (n.heap HBY.out id)
        replace HSS := Lib.hid (n.heap HSS.out id)
        clear n
        clear HOPS HCL hle
        repeat clear hHeld
        go_wp2_with (go_at_call 6; fail)
        go_loopw [126] (fun s126 wr => ∃ (j : Nat), s126 = .int .i64 j ∧ j ≤ 6 ∧ Hid (Nw w28 wr)) (fun s126 _ => 6 - (intOf s126).toNat)
        case atStart => exact ⟨0, rfl, by omega, Lib.hid (Ch.refl _ _)⟩
        case round =>
          obtain ⟨j, rfl, hj, HC2⟩ := hrel
          have j0 : (0 : Int) ≤ (j : Int) := by omega
          obtain ⟨wr1, hwr1⟩ : ∃ W : World, W = wr := ⟨_, rfl⟩
          subst hwr1
          replace NX := Lib.hid (NX.out.trans HC2.out)
          replace RN := Lib.hid (RN.out.kept HC2.out id)
          replace MX := Lib.hid (MX.out.kept HC2.out id)
          replace HLA := Lib.hid (HLA.out.kept HC2.out nof)
          replace HLB := Lib.hid (HLB.out.kept HC2.out nof)
          replace HXR := Lib.hid (HXR.out.kept HC2.out nof)
          replace HB0 := Lib.hid (HC2.out.heap HB0.out id)
          replace HB4 := Lib.hid (HC2.out.heap HB4.out id)
          replace SZ := Nat.lt_of_lt_of_le SZ HC2.out.size
          replace HIR := Lib.hid (HIR.out.kept HC2.out nof)
          replace HB8 := Lib.hid (HC2.out.heap HB8.out id)
          replace HIX := Lib.hid ((HIX.out.kept HC2.out nof).hi HC2.out.size)
          replace HIO := Lib.hid ((HIO.out.kept HC2.out nof).hi HC2.out.size)
          replace HB9 := Lib.hid (HC2.out.heap HB9.out id)
          replace HSL := Lib.hid (HC2.out.heap HSL.out id)
          replace HC := Lib.hid (HC.out.trans HC2.out)
          replace HIY := Lib.hid ((HIY.out.kept HC2.out nof).hi HC2.out.size)
          replace HBY := Lib.hid (HC2.out.heap HBY.out id)
          replace HSS := Lib.hid (HC2.out.heap HSS.out id)
          by_cases hjt : j < 6
          · as_aux_lemma =>
            have j6 : (j : Int) < 6 := by omega
            obtain ⟨t, ht⟩ : ∃ t, SS[j]? = some t := ⟨_, List.getElem?_eq_getElem (by omega)⟩
            have htz := HSZ.out t (List.mem_of_getElem? ht)
            have kc : wr1.cell? ⟨w26.heap.size, j, none⟩ = some (.string t) := by rw [cell_of HSS.out]; simp [ht]
            clear ht
            go_wp2_with (go_at_call 6; fail)
            clear kc
            refine Calls_nm ?_
            intro W29 hW
            have n : Nw wr1 W29 := by rw [hW]; first | exact Ch.refl _ _ | exact (Ch.refl _ _).alloc _ | exact ((Ch.refl _ _).alloc _).alloc _
            replace NX := Lib.hid (NX.out.trans n)
            replace RN := Lib.hid (RN.out.kept n id)
            replace MX := Lib.hid (MX.out.kept n id)
            replace HLA := Lib.hid (HLA.out.kept n nof)
            replace HLB := Lib.hid (HLB.out.kept n nof)
            replace HXR := Lib.hid (HXR.out.kept n nof)
            replace HB0 := Lib.hid (n.heap HB0.out id)
            replace HB4 := Lib.hid (n.heap HB4.out id)
            replace SZ := Nat.lt_of_lt_of_le SZ n.size
            replace HIR := Lib.hid (HIR.out.kept n nof)
            replace HB8 := Lib.hid (n.heap HB8.out id)
            replace HIX := Lib.hid ((HIX.out.kept n nof).hi n.size)
            replace HIO := Lib.hid ((HIO.out.kept n nof).hi n.size)
            replace HB9 := Lib.hid (n.heap HB9.out id)
            replace HSL := Lib.hid (n.heap HSL.out id)
            replace HC := Lib.hid (HC.out.trans n)
            replace HIY := Lib.hid ((HIY.out.kept n nof).hi n.size)
            replace HBY := Lib.hid (n.heap HBY.out id)
            replace HSS := Lib.hid (n.heap HSS.out id)
            replace HC2 := Lib.hid (HC2.out.trans n)
            clear hW n
            refine imParse_any t _ _ RN.out MX.out htz ?_
            intro w30 v hi n
            replace NX := Lib.hid (NX.out.trans n)
            replace RN := Lib.hid (RN.out.kept n id)
            replace MX := Lib.hid (MX.out.kept n id)
            replace HLA := Lib.hid (HLA.out.kept n nof)
            replace HLB := Lib.hid (HLB.out.kept n nof)
            replace HXR := Lib.hid (HXR.out.kept n nof)
            replace HB0 := Lib.hid (n.heap HB0.out id)
            replace HB4 := Lib.hid (n.heap HB4.out id)
            replace SZ := Nat.lt_of_lt_of_le SZ n.size
            replace HIR := Lib.hid (HIR.out.kept n nof)
            replace HB8 := Lib.hid (n.heap HB8.out id)
            replace HIX := Lib.hid ((HIX.out.kept n nof).hi n.size)
            replace HIO := Lib.hid ((HIO.out.kept n nof).hi n.size)
            replace HB9 := Lib.hid (n.heap HB9.out id)
            replace HSL := Lib.hid (n.heap HSL.out id)
            replace HC := Lib.hid (HC.out.trans n)
            replace HIY := Lib.hid ((HIY.out.kept n nof).hi n.size)
            replace HBY := Lib.hid (n.heap HBY.out id)
            replace HSS := Lib.hid (n.heap HSS.out id)
            replace HC2 := Lib.hid (HC2.out.trans n)
            obtain ⟨PP, hPP⟩ : ∃ P, parseM t.data.toList = P := ⟨_, rfl⟩
            have HPP := Lib.hid hPP
            rw [hPP] at hi ⊢
            clear hPP
            obtain ⟨⟨zW, zH, zl⟩, tb⟩ := PP
            simp only at hi ⊢
            obtain ⟨AZ, cZ, rfl, hI⟩ := isIm_formN (W := zW) (H := zH) (n := zl.length) hi rfl rfl rfl
            have HIZ := Lib.hid hI
            clear hi hI n
            go_wp2_with (go_at_call 6; fail)
            refine Calls_nm ?_
            intro W31 hW
            have n : Nw w30 W31 := by rw [hW]; first | exact Ch.refl _ _ | exact (Ch.refl _ _).alloc _ | exact ((Ch.refl _ _).alloc _).alloc _
            replace NX := Lib.hid (NX.out.trans n)
            replace RN := Lib.hid (RN.out.kept n id)
            replace MX := Lib.hid (MX.out.kept n id)
            replace HLA := Lib.hid (HLA.out.kept n nof)
            replace HLB := Lib.hid (HLB.out.kept n nof)
            replace HXR := Lib.hid (HXR.out.kept n nof)
            replace HB0 := Lib.hid (n.heap HB0.out id)
            replace HB4 := Lib.hid (n.heap HB4.out id)
            replace SZ := Nat.lt_of_lt_of_le SZ n.size
            replace HIR := Lib.hid (HIR.out.kept n nof)
            replace HB8 := Lib.hid (n.heap HB8.out id)
            replace HIX := Lib.hid ((HIX.out.kept n nof).hi n.size)
            replace HIO := Lib.hid ((HIO.out.kept n nof).hi n.size)
            replace HB9 := Lib.hid (n.heap HB9.out id)
            replace HSL := Lib.hid (n.heap HSL.out id)
            replace HC := Lib.hid (HC.out.trans n)
            replace HIY := Lib.hid ((HIY.out.kept n nof).hi n.size)
            replace HBY := Lib.hid (n.heap HBY.out id)
            replace HSS := Lib.hid (n.heap HSS.out id)
            replace HC2 := Lib.hid (HC2.out.trans n)
            replace HIZ := Lib.hid ((HIZ.out.kept n nof).hi n.size)
            have HBZ := Lib.hid (show W31.heap[w30.heap.size]? = some (.cells #[.int .i64 zW, .int .i64 zH, .slice AZ zl.length cZ] 25 (0, 0)) from by rw [hW]; exact heap_alloc_eq _ rfl)
            clear hW n
            refine riParse_any t _ _ (by omega) ?_
            intro w32 v hi n
            replace NX := Lib.hid (NX.out.trans n)
            replace RN := Lib.hid (RN.out.kept n id)
            replace MX := Lib.hid (MX.out.kept n id)
            replace HLA := Lib.hid (HLA.out.kept n nof)
            replace HLB := Lib.hid (HLB.out.kept n nof)
            replace HXR := Lib.hid (HXR.out.kept n nof)
            replace HB0 := Lib.hid (n.heap HB0.out id)
            replace HB4 := Lib.hid (n.heap HB4.out id)
            replace SZ := Nat.lt_of_lt_of_le SZ n.size
            replace HIR := Lib.hid (HIR.out.kept n nof)
            replace HB8 := Lib.hid (n.heap HB8.out id)
            replace HIX := Lib.hid ((HIX.out.kept n nof).hi n.size)
            replace HIO := Lib.hid ((HIO.out.kept n nof).hi n.size)
            replace HB9 := Lib.hid (n.heap HB9.out id)
            replace HSL := Lib.hid (n.heap HSL.out id)
            replace HC := Lib.hid (HC.out.trans n)
            replace HIY := Lib.hid ((HIY.out.kept n nof).hi n.size)
            replace HBY := Lib.hid (n.heap HBY.out id)
            replace HSS := Lib.hid (n.heap HSS.out id)
            replace HC2 := Lib.hid (HC2.out.trans n)
            replace HIZ := Lib.hid ((HIZ.out.kept n nof).hi n.size)
            replace HBZ := Lib.hid (n.heap HBZ.out id)
            rw [HPP.out] at hi ⊢
            simp only at hi ⊢
            obtain ⟨AV, cV, rfl, hI⟩ := isIm_formN (W := zW) (H := zH) (n := zl.length) hi rfl rfl rfl
            have HIV := Lib.hid hI
            clear hi hI n HPP
            have kHBZ0 : w32.cell? ⟨w30.heap.size, 0, none⟩ = some (.int .i64 zW) := by rw [cell_of HBZ.out]; rfl
            have jHBZ0 : ∀ o, (w32.alloc o).cell? ⟨w30.heap.size, 0, none⟩ = some (.int .i64 zW) := fun o => cell_alloc_old o kHBZ0
            have kHBZ1 : w32.cell? ⟨w30.heap.size, 1, none⟩ = some (.int .i64 zH) := by rw [cell_of HBZ.out]; rfl
            have jHBZ1 : ∀ o, (w32.alloc o).cell? ⟨w30.heap.size, 1, none⟩ = some (.int .i64 zH) := fun o => cell_alloc_old o kHBZ1
            have kHBZ2 : w32.cell? ⟨w30.heap.size, 2, none⟩ = some (.slice AZ zl.length cZ) := by rw [cell_of HBZ.out]; rfl
            have jHBZ2 : ∀ o, (w32.alloc o).cell? ⟨w30.heap.size, 2, none⟩ = some (.slice AZ zl.length cZ) := fun o => cell_alloc_old o kHBZ2
            go_wp2_with (go_at_call 6; fail)
            clear kHBZ0 jHBZ0 kHBZ1 jHBZ1 kHBZ2 jHBZ2
            refine Calls_nm ?_
            intro W33 hW
            have n : Nw w32 W33 := by rw [hW]; first | exact Ch.refl _ _ | exact (Ch.refl _ _).alloc _ | exact ((Ch.refl _ _).alloc _).alloc _
            replace NX := Lib.hid (NX.out.trans n)
            replace RN := Lib.hid (RN.out.kept n id)
            replace MX := Lib.hid (MX.out.kept n id)
            replace HLA := Lib.hid (HLA.out.kept n nof)
            replace HLB := Lib.hid (HLB.out.kept n nof)
            replace HXR := Lib.hid (HXR.out.kept n nof)
            replace HB0 := Lib.hid (n.heap HB0.out id)
            replace HB4 := Lib.hid (n.heap HB4.out id)
            replace SZ := Nat.lt_of_lt_of_le SZ n.size
            replace HIR := Lib.hid (HIR.out.kept n nof)
            replace HB8 := Lib.hid (n.heap HB8.out id)
            replace HIX := Lib.hid ((HIX.out.kept n nof).hi n.size)
            replace HIO := Lib.hid ((HIO.out.kept n nof).hi n.size)
            replace HB9 := Lib.hid (n.heap HB9.out id)
            replace HSL := Lib.hid (n.heap HSL.out id)
            replace HC := Lib.hid (HC.out.trans n)
            replace HIY := Lib.hid ((HIY.out.kept n nof).hi n.size)
            replace HBY := Lib.hid (n.heap HBY.out id)
            replace HSS := Lib.hid (n.heap HSS.out id)
            replace HC2 := Lib.hid (HC2.out.trans n)
            replace HIZ := Lib.hid ((HIZ.out.kept n nof).hi n.size)
            replace HBZ := Lib.hid (n.heap HBZ.out id)
            replace HIV := Lib.hid ((HIV.out.kept n nof).hi n.size)
            have HBV := Lib.hid (show W33.heap[w32.heap.size]? = some (.cells #[.int .i64 zW, .int .i64 zH, .slice AV zl.length cV] 25 (0, 0)) from by rw [hW]; exact heap_alloc_eq _ rfl)
            clear hW n
            refine riSame_any _ _ _ (zW, zH, zl) (zW, zH, zl) _ _ HIZ.out HIV.out ?_
            rw [decide_eq_true rfl]
            intro w34 n
            replace NX := Lib.hid (NX.out.trans n)
            replace RN := Lib.hid (RN.out.kept n id)
            replace MX := Lib.hid (MX.out.kept n id)
            replace HLA := Lib.hid (HLA.out.kept n nof)
            replace HLB := Lib.hid (HLB.out.kept n nof)
            replace HXR := Lib.hid (HXR.out.kept n nof)
            replace HB0 := Lib.hid (n.heap HB0.out id)
            replace HB4 := Lib.hid (n.heap HB4.out id)
            replace SZ := Nat.lt_of_lt_of_le SZ n.size
            replace HIR := Lib.hid (HIR.out.kept n nof)
            replace HB8 := Lib.hid (n.heap HB8.out id)
            replace HIX := Lib.hid ((HIX.out.kept n nof).hi n.size)
            replace HIO := Lib.hid ((HIO.out.kept n nof).hi n.size)
            replace HB9 := Lib.hid (n.heap HB9.out id)
            replace HSL := Lib.hid (n.heap HSL.out id)
            replace HC := Lib.hid (HC.out.trans n)
            replace HIY := Lib.hid ((HIY.out.kept n nof).hi n.size)
            replace HBY := Lib.hid (n.heap HBY.out id)
            replace HSS := Lib.hid (n.heap HSS.out id)
            replace HC2 := Lib.hid (HC2.out.trans n)
            replace HIZ := Lib.hid ((HIZ.out.kept n nof).hi n.size)
            replace HBZ := Lib.hid (n.heap HBZ.out id)
            replace HIV := Lib.hid ((HIV.out.kept n nof).hi n.size)
            replace HBV := Lib.hid (n.heap HBV.out id)
            clear n
            go_wp2_with fail
            refine ⟨⟨j + 1, by go_num, by omega, Lib.hid HC2.out⟩, ?_⟩
            simp [intOf]; omega
          · obtain rfl : j = 6 := by omega
            go_wp2_with fail
            refine ⟨⟨k + 1, by go_num, by omega, Lib.hid HC.out⟩, ?_⟩
            simp [intOf]; omega
      · obtain rfl : k = 3 := by omega
        go_wp2_with fail
        exact ret_b (HR.out _ NX.out) (by simp)
end Go.Proofs.YtnhdnjhhjmgmnaaDoor
