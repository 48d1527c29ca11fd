/-
  The law VerifyJoins: contract.
-/
import Derived.Test.YtdpbdcaefdcooaaDoorVlw
namespace Go.Proofs.YtdpbdcaefdcooaaDoor
open Go.RowKit
set_option linter.unusedVariables false
set_option linter.unusedSimpArgs false
set_option maxRecDepth 100000

theorem zero_ints (w : World) (h : True) : IRow (w.alloc (.cells #[] 3)) w.heap.size (.slice (some ⟨w.heap.size, 0, none⟩) 0 0) 0 [] :=
  ⟨rfl, Or.inr ⟨w.heap.size, 0, #[], rfl, Nat.le_refl _, heap_alloc_eq _ rfl, Nat.le_refl _, by unfold maxLen; omega, by simp, rfl⟩⟩

set_option maxHeartbeats 16000000 in
theorem law_joins (lo : Nat) (v1 v2 : Value) (l m : List Int) (w : World) (R : Ending → World → Prop) (hlo : lo ≤ w.heap.size) (hl : IsInts w lo v1 l) (hm : IsInts w lo v2 m) (hk : WOk w)
    (hR : ∀ w', Nw w w' → R (.returned (.bool true)) w') : Calls Tryd.prog 4 #[v1, v2] w R := by
  have HR := Lib.hid hR
  clear hR
  have HKW := Lib.hid hk
  clear hk
  have NX := Lib.hid (Ch.refl (fun _ => False) w)
  have hz5 := HKW.out.sz
  have HIl := Lib.hid (hl.hi hlo)
  obtain ⟨Al, cl, rfl, ⟨hcl, -⟩, -⟩ := hl
  obtain ⟨ml, eml⟩ : ∃ k : Nat, min (l.length : Int) 60 = (k : Int) := ⟨(min (l.length : Int) 60).toNat, by omega⟩
  have mal : (0 : Int) ≤ (ml : Int) := by omega
  have mbl : (ml : Int) ≤ (cl : Int) := by omega
  replace HIl := Lib.hid (HIl.out.takeN ml (by omega))
  obtain ⟨tl, htl⟩ : ∃ t, l.take ml = t := ⟨_, rfl⟩
  rw [htl] at HIl
  have hll : tl.length = ml := by rw [← htl, List.length_take]; omega
  clear htl
  rw [← hll] at eml mal mbl HIl
  clear hll
  have HIm := Lib.hid (hm.hi hlo)
  obtain ⟨Am, cm, rfl, ⟨hcm, -⟩, -⟩ := hm
  obtain ⟨mm, emm⟩ : ∃ k : Nat, min (m.length : Int) 60 = (k : Int) := ⟨(min (m.length : Int) 60).toNat, by omega⟩
  have mam : (0 : Int) ≤ (mm : Int) := by omega
  have mbm : (mm : Int) ≤ (cm : Int) := by omega
  replace HIm := Lib.hid (HIm.out.takeN mm (by omega))
  obtain ⟨tm, htm⟩ : ∃ t, m.take mm = t := ⟨_, rfl⟩
  rw [htm] at HIm
  have hlm : tm.length = mm := by rw [← htm, List.length_take]; omega
  clear htm
  rw [← hlm] at emm mam mbm HIm
  clear hlm
  go_enter Tryd.func4, Tryd.ntmps4
  go_wp2_with (go_at_call 18; fail)
  refine Calls_nm ?_
  intro W1 hW
  have n : Nw w W1 := by rw [hW]; first | exact Ch.refl _ _ | exact (Ch.refl _ _).alloc _ | exact ((Ch.refl _ _).alloc _).alloc _
  replace HKW := Lib.hid (HKW.out.kept n (fun _ _ e => e))
  replace NX := Lib.hid (NX.out.trans n)
  replace HIl := Lib.hid ((HIl.out.kept n nof).hi n.size)
  replace HIm := Lib.hid ((HIm.out.kept n nof).hi n.size)
  clear hW n
  refine sanity_any _ _ HKW.out ?_
  intro w2 n
  replace HKW := Lib.hid (HKW.out.kept n (fun _ _ e => e))
  replace NX := Lib.hid (NX.out.trans n)
  replace HIl := Lib.hid ((HIl.out.kept n nof).hi n.size)
  replace HIm := Lib.hid ((HIm.out.kept n nof).hi n.size)
  clear n
  go_upto_region 2 with (fail)
  refine wp_named ?_
  intro W3 hW
  have n : Nw w2 W3 := by rw [hW]; first | exact Ch.refl _ _ | exact (Ch.refl _ _).alloc _
  replace HKW := Lib.hid (HKW.out.kept n (fun _ _ e => e))
  replace NX := Lib.hid (NX.out.trans n)
  replace HIl := Lib.hid ((HIl.out.kept n nof).hi n.size)
  replace HIm := Lib.hid ((HIm.out.kept n nof).hi n.size)
  clear hW n
  refine wp_region_V (F := fun w' => True) (opsOf Tryd.f4 2) 14 14 (by kernel_rfl) (by kernel_rfl) (by kernel_rfl) (fun w w' h n => True.intro) True.intro (fun HOPS HCL hHeld => ?_)
  refine wpU_named ?_
  intro W4 hW
  try rw [← hW] at hHeld
  have n : Nw W3 W4 := by rw [hW]; exact (Ch.refl _ _).drew
  replace HKW := Lib.hid (HKW.out.kept n (fun _ _ e => e))
  replace NX := Lib.hid (NX.out.trans n)
  replace HIl := Lib.hid ((HIl.out.kept n nof).hi n.size)
  replace HIm := Lib.hid ((HIm.out.kept n nof).hi n.size)
  clear hW n
  first | (refine wpU_takeB (i := 0) (v := ?_) HOPS rfl (by kernel_rfl) (fun _ _ _ h => h) HCL (goes_read (by rfl) ?hy) ?_; case hy => (intro w hSw; (try dsimp only at hSw); go_simp; (try with_reducible rfl))) | (refine wpU_takeB (i := 0) (v := _) HOPS rfl (by kernel_rfl) (fun _ _ _ h => h) HCL (goes_not (by rfl)) ?_)
  try simp only [Act.put, List.getElem_toArray, List.getElem_cons_succ, List.getElem_cons_zero, List.setIfInBounds_toArray, List.set_cons_zero, List.set_cons_succ]
  first | (refine wpU_takeB (i := 1) (v := ?_) HOPS rfl (by kernel_rfl) (fun _ _ _ h => h) HCL (goes_read (by rfl) ?hy) ?_; case hy => (intro w hSw; (try dsimp only at hSw); go_simp; (try with_reducible rfl))) | (refine wpU_takeB (i := 1) (v := _) HOPS rfl (by kernel_rfl) (fun _ _ _ h => h) HCL (goes_not (by rfl)) ?_)
  try simp only [Act.put, List.getElem_toArray, List.getElem_cons_succ, List.getElem_cons_zero, List.setIfInBounds_toArray, List.set_cons_zero, List.set_cons_succ]
  first | (refine wpU_takeB (i := 2) (v := ?_) HOPS rfl (by kernel_rfl) (fun _ _ _ h => h) HCL (goes_read (by rfl) ?hy) ?_; case hy => (intro w hSw; (try dsimp only at hSw); go_simp; (try with_reducible rfl))) | (refine wpU_takeB (i := 2) (v := _) HOPS rfl (by kernel_rfl) (fun _ _ _ h => h) HCL (goes_not (by rfl)) ?_)
  try simp only [Act.put, List.getElem_toArray, List.getElem_cons_succ, List.getElem_cons_zero, List.setIfInBounds_toArray, List.set_cons_zero, List.set_cons_succ]
  first | (refine wpU_takeB (i := 3) (v := ?_) HOPS rfl (by kernel_rfl) (fun _ _ _ h => h) HCL (goes_read (by rfl) ?hy) ?_; case hy => (intro w hSw; (try dsimp only at hSw); go_simp; (try with_reducible rfl))) | (refine wpU_takeB (i := 3) (v := _) HOPS rfl (by kernel_rfl) (fun _ _ _ h => h) HCL (goes_not (by rfl)) ?_)
  try simp only [Act.put, List.getElem_toArray, List.getElem_cons_succ, List.getElem_cons_zero, List.setIfInBounds_toArray, List.set_cons_zero, List.set_cons_succ]
  first | (refine wpU_takeB (i := 4) (v := ?_) HOPS rfl (by kernel_rfl) (fun _ _ _ h => h) HCL (goes_read (by rfl) ?hy) ?_; case hy => (intro w hSw; (try dsimp only at hSw); go_simp; (try with_reducible rfl))) | (refine wpU_takeB (i := 4) (v := _) HOPS rfl (by kernel_rfl) (fun _ _ _ h => h) HCL (goes_not (by rfl)) ?_)
  try simp only [Act.put, List.getElem_toArray, List.getElem_cons_succ, List.getElem_cons_zero, List.setIfInBounds_toArray, List.set_cons_zero, List.set_cons_succ]
  first | (refine wpU_takeB (i := 6) (v := ?_) HOPS rfl (by kernel_rfl) (fun _ _ _ h => h) HCL (goes_read (by rfl) ?hy) ?_; case hy => (intro w hSw; (try dsimp only at hSw); go_simp; (try with_reducible rfl))) | (refine wpU_takeB (i := 6) (v := _) HOPS rfl (by kernel_rfl) (fun _ _ _ h => h) HCL (goes_not (by rfl)) ?_)
  try simp only [Act.put, List.getElem_toArray, List.getElem_cons_succ, List.getElem_cons_zero, List.setIfInBounds_toArray, List.set_cons_zero, List.set_cons_succ]
  first | (refine wpU_takeB (i := 7) (v := ?_) HOPS rfl (by kernel_rfl) (fun _ _ _ h => h) HCL (goes_read (by rfl) ?hy) ?_; case hy => (intro w hSw; (try dsimp only at hSw); go_simp; (try with_reducible rfl))) | (refine wpU_takeB (i := 7) (v := _) HOPS rfl (by kernel_rfl) (fun _ _ _ h => h) HCL (goes_not (by rfl)) ?_)
  try simp only [Act.put, List.getElem_toArray, List.getElem_cons_succ, List.getElem_cons_zero, List.setIfInBounds_toArray, List.set_cons_zero, List.set_cons_succ]
  first | (refine wpU_takeB (i := 8) (v := ?_) HOPS rfl (by kernel_rfl) (fun _ _ _ h => h) HCL (goes_read (by rfl) ?hy) ?_; case hy => (intro w hSw; (try dsimp only at hSw); go_simp; (try with_reducible rfl))) | (refine wpU_takeB (i := 8) (v := _) HOPS rfl (by kernel_rfl) (fun _ _ _ h => h) HCL (goes_not (by rfl)) ?_)
  try simp only [Act.put, List.getElem_toArray, List.getElem_cons_succ, List.getElem_cons_zero, List.setIfInBounds_toArray, List.set_cons_zero, List.set_cons_succ]
  first | (refine wpU_takeB (i := 9) (v := ?_) HOPS rfl (by kernel_rfl) (fun _ _ _ h => h) HCL (goes_read (by rfl) ?hy) ?_; case hy => (intro w hSw; (try dsimp only at hSw); go_simp; (try with_reducible rfl))) | (refine wpU_takeB (i := 9) (v := _) HOPS rfl (by kernel_rfl) (fun _ _ _ h => h) HCL (goes_not (by rfl)) ?_)
  try simp only [Act.put, List.getElem_toArray, List.getElem_cons_succ, List.getElem_cons_zero, List.setIfInBounds_toArray, List.set_cons_zero, List.set_cons_succ]
  first | (refine wpU_takeB (i := 10) (v := ?_) HOPS rfl (by kernel_rfl) (fun _ _ _ h => h) HCL (goes_read (by rfl) ?hy) ?_; case hy => (intro w hSw; (try dsimp only at hSw); go_simp; (try with_reducible rfl))) | (refine wpU_takeB (i := 10) (v := _) HOPS rfl (by kernel_rfl) (fun _ _ _ h => h) HCL (goes_not (by rfl)) ?_)
  try simp only [Act.put, List.getElem_toArray, List.getElem_cons_succ, List.getElem_cons_zero, List.setIfInBounds_toArray, List.set_cons_zero, List.set_cons_succ]
  refine wpU_ready (rs := [5]) (by kernel_rfl) (by simp) ?_
  intro w5 hle
  obtain ⟨n, hHeld⟩ := hle.ahead (by kernel_rfl)
  clear hle
  replace HKW := Lib.hid (HKW.out.kept n (fun _ _ e => e))
  replace NX := Lib.hid (NX.out.trans n)
  replace HIl := Lib.hid ((HIl.out.kept n nof).hi n.size)
  replace HIm := Lib.hid ((HIm.out.kept n nof).hi n.size)
  clear n
  refine ReadyU.cons HOPS rfl (by rfl) (fun K hK => ?_) ReadyU.nil
  go_simp
  go_at_call 8
  refine made_any 7 _ tl _ _ HIl.out (by omega) ?_
  intro w6 xp p hrow hnil hmade n
  replace HKW := Lib.hid (HKW.out.kept n (fun _ _ e => e))
  replace NX := Lib.hid (NX.out.trans n)
  replace HIl := Lib.hid ((HIl.out.kept n nof).hi n.size)
  replace HIm := Lib.hid ((HIm.out.kept n nof).hi n.size)
  have HOp := Lib.hid (show ORow w6 w5.heap.size xp p from hrow)
  have HMp := Lib.hid hmade
  have hpp := made_len hmade
  have HEp := Lib.hid hnil
  obtain ⟨kp, dp, rp, hf⟩ := facts_of hmade
  have kap := hf.k0
  have kbp := hf.k1
  have dbp := hf.d8
  have rbp := hf.r64
  have HFp := Lib.hid hf
  clear hf hmade hnil
  obtain ⟨Ap, cp, ep⟩ := hrow.form
  subst ep
  clear hrow
  refine hK.out _ _ n True.intro (fun hHeld => ?_)
  clear hK K n
  try simp only [Act.put, List.getElem_toArray, List.getElem_cons_succ, List.getElem_cons_zero, List.setIfInBounds_toArray, List.set_cons_zero, List.set_cons_succ]
  refine wpU_ready (rs := [11]) (by kernel_rfl) (by simp) ?_
  intro w7 hle
  obtain ⟨n, hHeld⟩ := hle.ahead (by kernel_rfl)
  clear hle
  replace HKW := Lib.hid (HKW.out.kept n (fun _ _ e => e))
  replace NX := Lib.hid (NX.out.trans n)
  replace HIl := Lib.hid ((HIl.out.kept n nof).hi n.size)
  replace HIm := Lib.hid ((HIm.out.kept n nof).hi n.size)
  replace HOp := Lib.hid (HOp.out.ch' n (fun _ _ e => e))
  clear n
  refine ReadyU.cons HOPS rfl (by rfl) (fun K hK => ?_) ReadyU.nil
  go_simp
  go_at_call 8
  refine made_any 7 _ tm _ _ HIm.out (by omega) ?_
  intro w8 xq q hrow hnil hmade n
  replace HKW := Lib.hid (HKW.out.kept n (fun _ _ e => e))
  replace NX := Lib.hid (NX.out.trans n)
  replace HIl := Lib.hid ((HIl.out.kept n nof).hi n.size)
  replace HIm := Lib.hid ((HIm.out.kept n nof).hi n.size)
  replace HOp := Lib.hid (HOp.out.ch' n (fun _ _ e => e))
  have HOq := Lib.hid (show ORow w8 w7.heap.size xq q from hrow)
  have HMq := Lib.hid hmade
  have hpq := made_len hmade
  have HEq := Lib.hid hnil
  obtain ⟨kq, dq, rq, hf⟩ := facts_of hmade
  have kaq := hf.k0
  have kbq := hf.k1
  have dbq := hf.d8
  have rbq := hf.r64
  have HFq := Lib.hid hf
  clear hf hmade hnil
  obtain ⟨Aq, cq, eq⟩ := hrow.form
  subst eq
  clear hrow
  refine hK.out _ _ n True.intro (fun hHeld => ?_)
  clear hK K n
  try simp only [Act.put, List.getElem_toArray, List.getElem_cons_succ, List.getElem_cons_zero, List.setIfInBounds_toArray, List.set_cons_zero, List.set_cons_succ]
  first | (refine wpU_takeB (i := 12) (v := ?_) HOPS rfl (by kernel_rfl) (fun _ _ _ h => h) HCL (goes_read (by rfl) ?hy) ?_; case hy => (intro w hSw; (try dsimp only at hSw); go_simp; (try with_reducible rfl))) | (refine wpU_takeB (i := 12) (v := _) HOPS rfl (by kernel_rfl) (fun _ _ _ h => h) HCL (goes_not (by rfl)) ?_)
  try simp only [Act.put, List.getElem_toArray, List.getElem_cons_succ, List.getElem_cons_zero, List.setIfInBounds_toArray, List.set_cons_zero, List.set_cons_succ]
  first | (refine wpU_takeB (i := 13) (v := ?_) HOPS rfl (by kernel_rfl) (fun _ _ _ h => h) HCL (goes_read (by rfl) ?hy) ?_; case hy => (intro w hSw; (try dsimp only at hSw); go_simp; (try with_reducible rfl))) | (refine wpU_takeB (i := 13) (v := _) HOPS rfl (by kernel_rfl) (fun _ _ _ h => h) HCL (goes_not (by rfl)) ?_)
  try simp only [Act.put, List.getElem_toArray, List.getElem_cons_succ, List.getElem_cons_zero, List.setIfInBounds_toArray, List.set_cons_zero, List.set_cons_succ]
  refine wpU_done (by kernel_rfl) (fun w9 hle => ?_) _
  have n := (hle.ahead (by kernel_rfl)).1
  replace HKW := Lib.hid (HKW.out.kept n (fun _ _ e => e))
  replace NX := Lib.hid (NX.out.trans n)
  replace HIl := Lib.hid ((HIl.out.kept n nof).hi n.size)
  replace HIm := Lib.hid ((HIm.out.kept n nof).hi n.size)
  replace HOp := Lib.hid (HOp.out.ch' n (fun _ _ e => e))
  replace HOq := Lib.hid (HOq.out.ch' n (fun _ _ e => e))
  clear n
  clear HOPS HCL hle
  repeat clear hHeld
  obtain ⟨S, hS⟩ : ∃ S, sortedP rp = S := ⟨_, rfl⟩
  have HS := Lib.hid hS
  rw [hS] at rbp
  clear hS
  obtain ⟨T, hT⟩ : ∃ S, sortedP rq = S := ⟨_, rfl⟩
  have HT := Lib.hid hT
  rw [hT] at rbq
  clear hT
  have H1 := Lib.hid HFp.out.check
  have H2 := Lib.hid HFq.out.check
  go_wp2_with (go_at_call 18; fail)
  refine Calls_nm ?_
  intro W10 hW
  have n : Nw w9 W10 := by rw [hW]; first | exact Ch.refl _ _ | exact (Ch.refl _ _).alloc _ | exact ((Ch.refl _ _).alloc _).alloc _
  replace HKW := Lib.hid (HKW.out.kept n (fun _ _ e => e))
  replace NX := Lib.hid (NX.out.trans n)
  replace HIl := Lib.hid ((HIl.out.kept n nof).hi n.size)
  replace HIm := Lib.hid ((HIm.out.kept n nof).hi n.size)
  replace HOp := Lib.hid (HOp.out.ch' n (fun _ _ e => e))
  replace HOq := Lib.hid (HOq.out.ch' n (fun _ _ e => e))
  clear hW n
  refine check_ok (H1.out) W10.heap.size _ _ _ (ORow.prog (L := p) HOp.out) (Nat.le_refl _) (by have := HKW.out.sz; omega) HKW.out ?_
  intro w11 Aa ca hc n
  replace HKW := Lib.hid (HKW.out.kept n (fun _ _ e => e))
  replace NX := Lib.hid (NX.out.trans n)
  replace HIl := Lib.hid ((HIl.out.kept n nof).hi n.size)
  replace HIm := Lib.hid ((HIm.out.kept n nof).hi n.size)
  replace HOp := Lib.hid (HOp.out.ch' n (fun _ _ e => e))
  replace HOq := Lib.hid (HOq.out.ch' n (fun _ _ e => e))
  have HCa := Lib.hid hc
  clear n hc
  rw [HS.out] at HCa ⊢
  go_wp2_with (go_at_call 18; fail)
  refine Calls_nm ?_
  intro W12 hW
  have n : Nw w11 W12 := by rw [hW]; first | exact Ch.refl _ _ | exact (Ch.refl _ _).alloc _ | exact ((Ch.refl _ _).alloc _).alloc _
  replace HKW := Lib.hid (HKW.out.kept n (fun _ _ e => e))
  replace NX := Lib.hid (NX.out.trans n)
  replace HIl := Lib.hid ((HIl.out.kept n nof).hi n.size)
  replace HIm := Lib.hid ((HIm.out.kept n nof).hi n.size)
  replace HOp := Lib.hid (HOp.out.ch' n (fun _ _ e => e))
  replace HOq := Lib.hid (HOq.out.ch' n (fun _ _ e => e))
  replace HCa := Lib.hid ((HCa.out.kept n nof))
  have HBa := Lib.hid (show W12.heap[w11.heap.size]? = some (.cells #[.int .i64 kp, .int .i64 dp, .slice Aa S.length ca] 35 (0, 0)) from by rw [hW]; exact heap_alloc_eq _ rfl)
  clear hW n
  refine check_ok (H2.out) W12.heap.size _ _ _ (ORow.prog (L := q) HOq.out) (Nat.le_refl _) (by have := HKW.out.sz; omega) HKW.out ?_
  intro w13 Ab cb hc n
  replace HKW := Lib.hid (HKW.out.kept n (fun _ _ e => e))
  replace NX := Lib.hid (NX.out.trans n)
  replace HIl := Lib.hid ((HIl.out.kept n nof).hi n.size)
  replace HIm := Lib.hid ((HIm.out.kept n nof).hi n.size)
  replace HOp := Lib.hid (HOp.out.ch' n (fun _ _ e => e))
  replace HOq := Lib.hid (HOq.out.ch' n (fun _ _ e => e))
  replace HCa := Lib.hid ((HCa.out.kept n nof))
  replace HBa := Lib.hid (n.heap HBa.out id)
  have HCb := Lib.hid hc
  clear n hc
  rw [HT.out] at HCb ⊢
  go_upto_region 5 with (fail)
  refine wp_named ?_
  intro W14 hW
  have n : Nw w13 W14 := by rw [hW]; first | exact Ch.refl _ _ | exact (Ch.refl _ _).alloc _
  replace HKW := Lib.hid (HKW.out.kept n (fun _ _ e => e))
  replace NX := Lib.hid (NX.out.trans n)
  replace HIl := Lib.hid ((HIl.out.kept n nof).hi n.size)
  replace HIm := Lib.hid ((HIm.out.kept n nof).hi n.size)
  replace HOp := Lib.hid (HOp.out.ch' n (fun _ _ e => e))
  replace HOq := Lib.hid (HOq.out.ch' n (fun _ _ e => e))
  replace HCa := Lib.hid ((HCa.out.kept n nof))
  replace HBa := Lib.hid (n.heap HBa.out id)
  replace HCb := Lib.hid ((HCb.out.kept n nof))
  have HBb := Lib.hid (show W14.heap[w13.heap.size]? = some (.cells #[.int .i64 kq, .int .i64 dq, .slice Ab T.length cb] 35 (0, 0)) from by rw [hW]; exact heap_alloc_eq _ rfl)
  clear hW n
  refine wp_region_lit ?_
  refine wpList_plain rfl fun K hK => ?_
  go_simp
  refine hK _ _ ?_
  clear hK K
  try simp only [Act.put, List.getElem_toArray, List.getElem_cons_succ, List.getElem_cons_zero, List.setIfInBounds_toArray, List.set_cons_zero, List.set_cons_succ]
  refine wpList_plain rfl fun K hK => ?_
  go_simp
  refine hK _ _ ?_
  clear hK K
  try simp only [Act.put, List.getElem_toArray, List.getElem_cons_succ, List.getElem_cons_zero, List.setIfInBounds_toArray, List.set_cons_zero, List.set_cons_succ]
  refine wpList_plain rfl fun K hK => ?_
  refine wp_appOps _ (.tmp 41) (.tmp 42) rfl W14.heap.size _ [] (by rfl) (row_lit (n := 0) (Nat.le_refl _) rfl (by omega)) w5.heap.size _ p (by rfl) (CRow.ch' (HOp.out) ((Ch.refl (fun _ => False) _).alloc _) (fun _ _ e => e)) HEp.out (by simp only [List.length_nil]; omega) (by rw [alloc_size]; omega) ?_
  intro v8 w8 hrow8 hgr8 hnil8
  rw [List.nil_append] at hrow8
  have n8 : Nw W14 w8 := ((Ch.refl _ _).alloc _).grown hgr8 (fun k e hk => by have e' : W14.heap.size = k := Option.some.inj e; omega)
  refine hK _ _ ?_
  clear hK K
  try simp only [Act.put, List.getElem_toArray, List.getElem_cons_succ, List.getElem_cons_zero, List.setIfInBounds_toArray, List.set_cons_zero, List.set_cons_succ]
  obtain ⟨A8, c8, e8⟩ := hrow8.form
  subst e8
  have z8 := n8.size
  refine wpList_plain rfl fun K hK => ?_
  go_simp
  refine hK _ _ ?_
  clear hK K
  try simp only [Act.put, List.getElem_toArray, List.getElem_cons_succ, List.getElem_cons_zero, List.setIfInBounds_toArray, List.set_cons_zero, List.set_cons_succ]
  refine wpList_plain rfl fun K hK => ?_
  refine wp_appOps _ (.tmp 43) (.tmp 44) rfl W14.heap.size _ p (by rfl) hrow8 w7.heap.size _ q (by rfl) (CRow.ch' (HOq.out) n8 (fun _ _ e => e)) HEq.out (by omega) (by omega) ?_
  intro v9 w9 hrow9 hgr9 hnil9
  have n : Nw W14 w9 := n8.grown hgr9 (fun k e hk => by have := (hrow8.lt k e).1; omega)
  refine hK _ _ ?_
  clear hK K
  try simp only [Act.put, List.getElem_toArray, List.getElem_cons_succ, List.getElem_cons_zero, List.setIfInBounds_toArray, List.set_cons_zero, List.set_cons_succ]
  clear hgr8 hnil8 hgr9 hnil9 z8 n8 hrow8
  replace HKW := Lib.hid (HKW.out.kept n (fun _ _ e => e))
  replace NX := Lib.hid (NX.out.trans n)
  replace HIl := Lib.hid ((HIl.out.kept n nof).hi n.size)
  replace HIm := Lib.hid ((HIm.out.kept n nof).hi n.size)
  replace HOp := Lib.hid (HOp.out.ch' n (fun _ _ e => e))
  replace HOq := Lib.hid (HOq.out.ch' n (fun _ _ e => e))
  replace HCa := Lib.hid ((HCa.out.kept n nof))
  replace HBa := Lib.hid (n.heap HBa.out id)
  replace HCb := Lib.hid ((HCb.out.kept n nof))
  replace HBb := Lib.hid (n.heap HBb.out id)
  have HOc := Lib.hid (show ORow w9 W14.heap.size v9 (p ++ q) from hrow9)
  obtain ⟨Ac, cc, ec⟩ := hrow9.form
  subst ec
  clear hrow9 n
  have hlen : (p ++ q).length = p.length + q.length := List.length_append
  have HJ := Lib.hid (joins_law HFp.out HFq.out)
  by_cases h64 : 64 < (p ++ q).length
  · as_aux_lemma =>
    have H3 := Lib.hid (HJ.out.1 (by omega))
    obtain ⟨pq, hpq⟩ : ∃ x, p ++ q = x := ⟨_, rfl⟩
    rw [hpq] at HOc H3 hlen h64 ⊢
    have pqb : pq.length ≤ 80 := by omega
    clear hpq HJ hlen
    go_wp2_with (go_at_call 18; fail)
    refine Calls_nm ?_
    intro W15 hW
    have n : Nw w9 W15 := by rw [hW]; first | exact Ch.refl _ _ | exact (Ch.refl _ _).alloc _ | exact ((Ch.refl _ _).alloc _).alloc _
    replace HKW := Lib.hid (HKW.out.kept n (fun _ _ e => e))
    replace NX := Lib.hid (NX.out.trans n)
    replace HIl := Lib.hid ((HIl.out.kept n nof).hi n.size)
    replace HIm := Lib.hid ((HIm.out.kept n nof).hi n.size)
    replace HOp := Lib.hid (HOp.out.ch' n (fun _ _ e => e))
    replace HOq := Lib.hid (HOq.out.ch' n (fun _ _ e => e))
    replace HCa := Lib.hid ((HCa.out.kept n nof))
    replace HBa := Lib.hid (n.heap HBa.out id)
    replace HCb := Lib.hid ((HCb.out.kept n nof))
    replace HBb := Lib.hid (n.heap HBb.out id)
    replace HOc := Lib.hid (HOc.out.ch' n (fun _ _ e => e))
    clear hW n
    refine check_err (H3.out) W15.heap.size _ _ _ (ORow.prog (L := _) HOc.out) (Nat.le_refl _) (by have := HKW.out.sz; omega) HKW.out ?_
    intro w16 n
    replace HKW := Lib.hid (HKW.out.kept n (fun _ _ e => e))
    replace NX := Lib.hid (NX.out.trans n)
    replace HIl := Lib.hid ((HIl.out.kept n nof).hi n.size)
    replace HIm := Lib.hid ((HIm.out.kept n nof).hi n.size)
    replace HOp := Lib.hid (HOp.out.ch' n (fun _ _ e => e))
    replace HOq := Lib.hid (HOq.out.ch' n (fun _ _ e => e))
    replace HCa := Lib.hid ((HCa.out.kept n nof))
    replace HBa := Lib.hid (n.heap HBa.out id)
    replace HCb := Lib.hid ((HCb.out.kept n nof))
    replace HBb := Lib.hid (n.heap HBb.out id)
    replace HOc := Lib.hid (HOc.out.ch' n (fun _ _ e => e))
    clear n
    have g1 : (pq.length : Int) > 64 := by omega
    go_wp2
    exact HR.out _ (NX.out.alloc _)
  · as_aux_lemma =>
    have H3 := Lib.hid (HJ.out.2 (by omega))
    obtain ⟨U9, hU9⟩ : ∃ S, sortedP (rp ++ rq) = S := ⟨_, rfl⟩
    have HU9 := Lib.hid hU9
    have ru9 := (checkM_len H3.out).2.1
    have ru8 := sortedP_le (rp ++ rq)
    rw [hU9] at ru8
    have ru : U9.length ≤ 64 := by omega
    clear hU9 ru9 ru8
    obtain ⟨d2, hd2⟩ : ∃ d2 : Nat, max dp dq = d2 := ⟨_, rfl⟩
    have d21 : max (dp : Int) (dq : Int) = (d2 : Int) := by omega
    rw [hd2] at H3
    clear hd2
    obtain ⟨pq, hpq⟩ : ∃ x, p ++ q = x := ⟨_, rfl⟩
    rw [hpq] at HOc H3 hlen h64 ⊢
    have pqb : pq.length ≤ 80 := by omega
    clear hpq HJ hlen
    go_wp2_with (go_at_call 18; fail)
    refine Calls_nm ?_
    intro W17 hW
    have n : Nw w9 W17 := by rw [hW]; first | exact Ch.refl _ _ | exact (Ch.refl _ _).alloc _ | exact ((Ch.refl _ _).alloc _).alloc _
    replace HKW := Lib.hid (HKW.out.kept n (fun _ _ e => e))
    replace NX := Lib.hid (NX.out.trans n)
    replace HIl := Lib.hid ((HIl.out.kept n nof).hi n.size)
    replace HIm := Lib.hid ((HIm.out.kept n nof).hi n.size)
    replace HOp := Lib.hid (HOp.out.ch' n (fun _ _ e => e))
    replace HOq := Lib.hid (HOq.out.ch' n (fun _ _ e => e))
    replace HCa := Lib.hid ((HCa.out.kept n nof))
    replace HBa := Lib.hid (n.heap HBa.out id)
    replace HCb := Lib.hid ((HCb.out.kept n nof))
    replace HBb := Lib.hid (n.heap HBb.out id)
    replace HOc := Lib.hid (HOc.out.ch' n (fun _ _ e => e))
    clear hW n
    refine check_ok (H3.out) W17.heap.size _ _ _ (ORow.prog (L := _) HOc.out) (Nat.le_refl _) (by have := HKW.out.sz; omega) HKW.out ?_
    intro w18 Ad cd hc n
    replace HKW := Lib.hid (HKW.out.kept n (fun _ _ e => e))
    replace NX := Lib.hid (NX.out.trans n)
    replace HIl := Lib.hid ((HIl.out.kept n nof).hi n.size)
    replace HIm := Lib.hid ((HIm.out.kept n nof).hi n.size)
    replace HOp := Lib.hid (HOp.out.ch' n (fun _ _ e => e))
    replace HOq := Lib.hid (HOq.out.ch' n (fun _ _ e => e))
    replace HCa := Lib.hid ((HCa.out.kept n nof))
    replace HBa := Lib.hid (n.heap HBa.out id)
    replace HCb := Lib.hid ((HCb.out.kept n nof))
    replace HBb := Lib.hid (n.heap HBb.out id)
    replace HOc := Lib.hid (HOc.out.ch' n (fun _ _ e => e))
    have HCd := Lib.hid hc
    clear n hc
    rw [HU9.out] at HCd ⊢
    have g1 : ¬ (pq.length : Int) > 64 := by omega
    have g2 : ¬ kp + kq > 2000 := by omega
    have kHBa0 : w18.cell? ⟨w11.heap.size, 0, none⟩ = some (.int .i64 kp) := by rw [cell_of HBa.out]; rfl
    have jHBa0 : ∀ o, (w18.alloc o).cell? ⟨w11.heap.size, 0, none⟩ = some (.int .i64 kp) := fun o => cell_alloc_old o kHBa0
    have kHBa1 : w18.cell? ⟨w11.heap.size, 1, none⟩ = some (.int .i64 dp) := by rw [cell_of HBa.out]; rfl
    have jHBa1 : ∀ o, (w18.alloc o).cell? ⟨w11.heap.size, 1, none⟩ = some (.int .i64 dp) := fun o => cell_alloc_old o kHBa1
    have kHBa2 : w18.cell? ⟨w11.heap.size, 2, none⟩ = some (.slice Aa S.length ca) := by rw [cell_of HBa.out]; rfl
    have jHBa2 : ∀ o, (w18.alloc o).cell? ⟨w11.heap.size, 2, none⟩ = some (.slice Aa S.length ca) := fun o => cell_alloc_old o kHBa2
    have kHBb0 : w18.cell? ⟨w13.heap.size, 0, none⟩ = some (.int .i64 kq) := by rw [cell_of HBb.out]; rfl
    have jHBb0 : ∀ o, (w18.alloc o).cell? ⟨w13.heap.size, 0, none⟩ = some (.int .i64 kq) := fun o => cell_alloc_old o kHBb0
    have kHBb1 : w18.cell? ⟨w13.heap.size, 1, none⟩ = some (.int .i64 dq) := by rw [cell_of HBb.out]; rfl
    have jHBb1 : ∀ o, (w18.alloc o).cell? ⟨w13.heap.size, 1, none⟩ = some (.int .i64 dq) := fun o => cell_alloc_old o kHBb1
    have kHBb2 : w18.cell? ⟨w13.heap.size, 2, none⟩ = some (.slice Ab T.length cb) := by rw [cell_of HBb.out]; rfl
    have jHBb2 : ∀ o, (w18.alloc o).cell? ⟨w13.heap.size, 2, none⟩ = some (.slice Ab T.length cb) := fun o => cell_alloc_old o kHBb2
    go_upto_region 13 with (fail)
    clear kHBa0 jHBa0 kHBa1 jHBa1 kHBa2 jHBa2 kHBb0 jHBb0 kHBb1 jHBb1 kHBb2 jHBb2
    refine wp_named ?_
    intro W19 hW
    have n : Nw w18 W19 := by rw [hW]; first | exact Ch.refl _ _ | exact (Ch.refl _ _).alloc _
    replace HKW := Lib.hid (HKW.out.kept n (fun _ _ e => e))
    replace NX := Lib.hid (NX.out.trans n)
    replace HIl := Lib.hid ((HIl.out.kept n nof).hi n.size)
    replace HIm := Lib.hid ((HIm.out.kept n nof).hi n.size)
    replace HOp := Lib.hid (HOp.out.ch' n (fun _ _ e => e))
    replace HOq := Lib.hid (HOq.out.ch' n (fun _ _ e => e))
    replace HCa := Lib.hid ((HCa.out.kept n nof))
    replace HBa := Lib.hid (n.heap HBa.out id)
    replace HCb := Lib.hid ((HCb.out.kept n nof))
    replace HBb := Lib.hid (n.heap HBb.out id)
    replace HOc := Lib.hid (HOc.out.ch' n (fun _ _ e => e))
    replace HCd := Lib.hid ((HCd.out.kept n nof))
    have HBd := Lib.hid (show W19.heap[w18.heap.size]? = some (.cells #[.int .i64 (kp + kq), .int .i64 d2, .slice Ad U9.length cd] 35 (0, 0)) from by rw [hW]; exact heap_alloc_eq _ rfl)
    clear hW n
    refine wp_region_lit ?_
    have ka2 : ∀ o, (W19.alloc o).cell? ⟨w11.heap.size, 2, none⟩ = some (.slice Aa S.length ca) := fun o => cell_alloc_old o (by rw [cell_of HBa.out]; rfl)
    refine wpList_plain rfl fun K hK => ?_
    go_simp
    refine hK _ _ ?_
    clear hK K
    try simp only [Act.put, List.getElem_toArray, List.getElem_cons_succ, List.getElem_cons_zero, List.setIfInBounds_toArray, List.set_cons_zero, List.set_cons_succ]
    refine wpList_plain rfl fun K hK => ?_
    go_simp
    refine hK _ _ ?_
    clear hK K
    try simp only [Act.put, List.getElem_toArray, List.getElem_cons_succ, List.getElem_cons_zero, List.setIfInBounds_toArray, List.set_cons_zero, List.set_cons_succ]
    refine wpList_plain rfl fun K hK => ?_
    go_simp
    refine hK _ _ ?_
    clear hK K
    try simp only [Act.put, List.getElem_toArray, List.getElem_cons_succ, List.getElem_cons_zero, List.setIfInBounds_toArray, List.set_cons_zero, List.set_cons_succ]
    clear ka2
    refine wpList_plain rfl fun K hK => ?_
    refine wp_appInts _ (.tmp 76) (.tmp 78) rfl W19.heap.size _ 0 [] (by rfl) (zero_ints _ trivial) _ Aa S.length ca S rfl (by rfl) (HCa.out.kept ((Ch.refl (fun _ => False) _).alloc _) nof) (by omega) (by rw [alloc_size]; omega) ?_
    intro v10 w10 hrow hgr
    rw [Nat.zero_add, List.nil_append] at hrow
    have n : Nw W19 w10 := ((Ch.refl _ _).alloc _).grown hgr (fun k e hk => by have e' : W19.heap.size = k := Option.some.inj e; omega)
    refine hK _ _ ?_
    clear hK K
    try simp only [Act.put, List.getElem_toArray, List.getElem_cons_succ, List.getElem_cons_zero, List.setIfInBounds_toArray, List.set_cons_zero, List.set_cons_succ]
    replace HKW := Lib.hid (HKW.out.kept n (fun _ _ e => e))
    replace NX := Lib.hid (NX.out.trans n)
    replace HIl := Lib.hid ((HIl.out.kept n nof).hi n.size)
    replace HIm := Lib.hid ((HIm.out.kept n nof).hi n.size)
    replace HOp := Lib.hid (HOp.out.ch' n (fun _ _ e => e))
    replace HOq := Lib.hid (HOq.out.ch' n (fun _ _ e => e))
    replace HCa := Lib.hid ((HCa.out.kept n nof))
    replace HBa := Lib.hid (n.heap HBa.out id)
    replace HCb := Lib.hid ((HCb.out.kept n nof))
    replace HBb := Lib.hid (n.heap HBb.out id)
    replace HOc := Lib.hid (HOc.out.ch' n (fun _ _ e => e))
    replace HCd := Lib.hid ((HCd.out.kept n nof))
    replace HBd := Lib.hid (n.heap HBd.out id)
    have HI := Lib.hid hrow
    clear hrow hgr n
    have kHBb0 : w10.cell? ⟨w13.heap.size, 0, none⟩ = some (.int .i64 kq) := by rw [cell_of HBb.out]; rfl
    have kHBb1 : w10.cell? ⟨w13.heap.size, 1, none⟩ = some (.int .i64 dq) := by rw [cell_of HBb.out]; rfl
    have kHBb2 : w10.cell? ⟨w13.heap.size, 2, none⟩ = some (.slice Ab T.length cb) := by rw [cell_of HBb.out]; rfl
    go_wp2_with (fail)
    clear kHBb0 kHBb1 kHBb2
    go_loopw [15, 17, 83] (fun s15 _ s83 wr => ∃ (i : Nat) (U : List Int), s83 = .int .i64 i ∧ i ≤ T.length ∧ U.length ≤ 64 + i ∧ Hid (U = putsM S (T.take i)) ∧ Hid (IRow wr 0 s15 U.length U) ∧ Hid (Nw w10 wr)) (fun _ _ s83 _ => T.length - (intOf s83).toNat)
    case atStart => exact ⟨0, S, rfl, Nat.zero_le _, by omega, Lib.hid rfl, Lib.hid (HI.out.lo (Nat.zero_le _)), Lib.hid (Ch.refl _ _)⟩
    case round =>
      clear HI
      obtain ⟨i, U, rfl, hi, hU, HUE, HI, HWN⟩ := hrel
      obtain ⟨AU, cU, eU⟩ := HI.out.form
      subst eU
      have n := HWN.out
      replace HKW := Lib.hid (HKW.out.kept n (fun _ _ e => e))
      replace NX := Lib.hid (NX.out.trans n)
      replace HIl := Lib.hid ((HIl.out.kept n nof).hi n.size)
      replace HIm := Lib.hid ((HIm.out.kept n nof).hi n.size)
      replace HOp := Lib.hid (HOp.out.ch' n (fun _ _ e => e))
      replace HOq := Lib.hid (HOq.out.ch' n (fun _ _ e => e))
      replace HCa := Lib.hid ((HCa.out.kept n nof))
      replace HBa := Lib.hid (n.heap HBa.out id)
      replace HCb := Lib.hid ((HCb.out.kept n nof))
      replace HBb := Lib.hid (n.heap HBb.out id)
      replace HOc := Lib.hid (HOc.out.ch' n (fun _ _ e => e))
      replace HCd := Lib.hid ((HCd.out.kept n nof))
      replace HBd := Lib.hid (n.heap HBd.out id)
      clear n
      have i0 : (0 : Int) ≤ (i : Int) := by omega
      by_cases hlt : i < T.length
      · as_aux_lemma =>
        have i1 : (i : Int) < (T.length : Int) := by omega
        obtain ⟨x, hx⟩ : ∃ x, T[i]? = some x := ⟨_, List.getElem?_eq_getElem hlt⟩
        obtain ⟨g9, cx, rfl⟩ := isC_int HCb.out hx
        have htk : T.take (i + 1) = T.take i ++ [x] := by rw [List.take_add_one, hx]; rfl
        have HTK := Lib.hid htk
        clear hx htk
        go_wp2_with (go_at_call 18; fail)
        clear cx
        refine put_any U x _ _ _ _ HI.out.isC (by omega) ?_
        intro w11 v11 hrow n
        have hpl := putM_len x U
        go_wp2_with (fail)
        exact ⟨⟨i + 1, putM x U, by go_num, by omega, by omega, Lib.hid (by rw [HTK.out, putsM_snoc, HUE.out]), Lib.hid (hrow.lo (Nat.zero_le _)), Lib.hid (HWN.out.trans n)⟩, by simp [intOf]; omega⟩
      · as_aux_lemma =>
        have i1 : ¬ (i : Int) < (T.length : Int) := by omega
        have hue := HUE.out
        rw [show i = T.length by omega, List.take_length, ← HS.out, ← HT.out, putsM_join, HU9.out] at hue
        subst hue
        have kHBa0 : wr.cell? ⟨w11.heap.size, 0, none⟩ = some (.int .i64 kp) := by rw [cell_of HBa.out]; rfl
        have kHBa1 : wr.cell? ⟨w11.heap.size, 1, none⟩ = some (.int .i64 dp) := by rw [cell_of HBa.out]; rfl
        have kHBa2 : wr.cell? ⟨w11.heap.size, 2, none⟩ = some (.slice Aa S.length ca) := by rw [cell_of HBa.out]; rfl
        have kHBb0 : wr.cell? ⟨w13.heap.size, 0, none⟩ = some (.int .i64 kq) := by rw [cell_of HBb.out]; rfl
        have kHBb1 : wr.cell? ⟨w13.heap.size, 1, none⟩ = some (.int .i64 dq) := by rw [cell_of HBb.out]; rfl
        have kHBb2 : wr.cell? ⟨w13.heap.size, 2, none⟩ = some (.slice Ab T.length cb) := by rw [cell_of HBb.out]; rfl
        have kHBd0 : wr.cell? ⟨w18.heap.size, 0, none⟩ = some (.int .i64 (kp + kq)) := by rw [cell_of HBd.out]; rfl
        have kHBd1 : wr.cell? ⟨w18.heap.size, 1, none⟩ = some (.int .i64 d2) := by rw [cell_of HBd.out]; rfl
        have kHBd2 : wr.cell? ⟨w18.heap.size, 2, none⟩ = some (.slice Ad U.length cd) := by rw [cell_of HBd.out]; rfl
        go_wp2_with (go_at_call 18; fail)
        clear kHBa0 kHBa1 kHBa2 kHBb0 kHBb1 kHBb2 kHBd0 kHBd1 kHBd2
        refine Calls_nm ?_
        intro W20 hW
        have n : Nw wr W20 := by rw [hW]; first | exact Ch.refl _ _ | exact (Ch.refl _ _).alloc _ | exact ((Ch.refl _ _).alloc _).alloc _
        replace HKW := Lib.hid (HKW.out.kept n (fun _ _ e => e))
        replace NX := Lib.hid (NX.out.trans n)
        replace HIl := Lib.hid ((HIl.out.kept n nof).hi n.size)
        replace HIm := Lib.hid ((HIm.out.kept n nof).hi n.size)
        replace HOp := Lib.hid (HOp.out.ch' n (fun _ _ e => e))
        replace HOq := Lib.hid (HOq.out.ch' n (fun _ _ e => e))
        replace HCa := Lib.hid ((HCa.out.kept n nof))
        replace HBa := Lib.hid (n.heap HBa.out id)
        replace HCb := Lib.hid ((HCb.out.kept n nof))
        replace HBb := Lib.hid (n.heap HBb.out id)
        replace HOc := Lib.hid (HOc.out.ch' n (fun _ _ e => e))
        replace HCd := Lib.hid ((HCd.out.kept n nof))
        replace HBd := Lib.hid (n.heap HBd.out id)
        replace HI := Lib.hid (HI.out.ch n (fun _ _ e => e))
        clear hW n
        refine sameF_any (kp + kq) (kp + kq) d2 d2 U U _ _ _ _ _ _ HCd.out (HI.out.isC) (by omega) (by omega) ?_
        intro w21 n
        replace HKW := Lib.hid (HKW.out.kept n (fun _ _ e => e))
        replace NX := Lib.hid (NX.out.trans n)
        replace HIl := Lib.hid ((HIl.out.kept n nof).hi n.size)
        replace HIm := Lib.hid ((HIm.out.kept n nof).hi n.size)
        replace HOp := Lib.hid (HOp.out.ch' n (fun _ _ e => e))
        replace HOq := Lib.hid (HOq.out.ch' n (fun _ _ e => e))
        replace HCa := Lib.hid ((HCa.out.kept n nof))
        replace HBa := Lib.hid (n.heap HBa.out id)
        replace HCb := Lib.hid ((HCb.out.kept n nof))
        replace HBb := Lib.hid (n.heap HBb.out id)
        replace HOc := Lib.hid (HOc.out.ch' n (fun _ _ e => e))
        replace HCd := Lib.hid ((HCd.out.kept n nof))
        replace HBd := Lib.hid (n.heap HBd.out id)
        replace HI := Lib.hid (HI.out.ch n (fun _ _ e => e))
        clear n
        rw [decide_eq_true rfl]
        go_wp2
        exact HR.out _ NX.out

end Go.Proofs.YtdpbdcaefdcooaaDoor
