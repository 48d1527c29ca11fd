/-
  The law VerifyChecks: contract.
-/
import Derived.Test.YtdpbdcaefdcooaaGreatDoorR8e
namespace Go.Proofs.YtdpbdcaefdcooaaGreatDoor
open Go.RowKit
set_option linter.unusedVariables false
set_option linter.unusedSimpArgs false
set_option maxRecDepth 100000

set_option maxHeartbeats 16000000 in
theorem law_checks (lo : Nat) (v : Value) (l : List Int) (b1 : UInt8) (q0 q1 q2 q3 : Int) (vr : Value) (raw : List VOp) (number : Int) (w : World) (R : Ending → World → Prop) (hlo : lo ≤ w.heap.size) (hl : IsInts w lo v l) (hq : wfI q0 ∧ wfI q1 ∧ wfI q2 ∧ wfI q3) (hraw : IsRaw w lo vr raw) (hnum : wfI number) (hk : WOk w)
    (hR : ∀ w', Nw w w' → R (.returned (.bool true)) w') : Calls Tryz.prog 3 #[v, .int .u8 (b1.toNat : Nat), .agg #[.int .i64 q0, .int .i64 q1, .int .i64 q2, .int .i64 q3], vr, .int .i64 number] w R := by
  have HR := Lib.hid hR
  clear hR
  have HKW := Lib.hid hk
  clear hk
  have NX := Lib.hid (Ch.refl (fun _ => False) w)
  have hz5 := HKW.out.sz
  have HIl := Lib.hid (hl.hi hlo)
  obtain ⟨Al, cl, rfl, ⟨hcl, -⟩, -⟩ := hl
  obtain ⟨ml, eml⟩ : ∃ k : Nat, min (l.length : Int) 60 = (k : Int) := ⟨(min (l.length : Int) 60).toNat, by omega⟩
  have mal : (0 : Int) ≤ (ml : Int) := by omega
  have mbl : (ml : Int) ≤ (cl : Int) := by omega
  replace HIl := Lib.hid (HIl.out.takeN ml (by omega))
  obtain ⟨tl, htl⟩ : ∃ t, l.take ml = t := ⟨_, rfl⟩
  rw [htl] at HIl
  have hll : tl.length = ml := by rw [← htl, List.length_take]; omega
  clear htl
  rw [← hll] at eml mal mbl HIl
  clear hll
  obtain ⟨hraw, hrn⟩ := hraw
  have HRW := Lib.hid (hraw.hi hlo)
  obtain ⟨Ar, cr, rfl, hcr, -⟩ := hraw
  obtain ⟨mr, emr⟩ : ∃ k : Nat, min (raw.length : Int) 70 = (k : Int) := ⟨(min (raw.length : Int) 70).toNat, by omega⟩
  have mar : (0 : Int) ≤ (mr : Int) := by omega
  have mbr : (mr : Int) ≤ (cr : Int) := by omega
  replace HRW := Lib.hid (HRW.out.takeN mr (by omega))
  obtain ⟨tr, htr⟩ : ∃ t, raw.take mr = t := ⟨_, rfl⟩
  have HRN := Lib.hid (show ∀ o ∈ tr, numOk o.2.1 ∧ numOk o.2.2 from fun o ho => hrn o (List.mem_of_mem_take (by rw [htr]; exact ho)))
  rw [htr] at HRW
  have hlr : tr.length = mr := by rw [← htr, List.length_take]; omega
  clear htr hrn
  rw [← hlr] at emr mar mbr HRW
  have hr70 : tr.length ≤ 70 := by omega
  clear hlr
  have hb1 := UInt8.toNat_lt b1
  obtain ⟨B1, hB1⟩ : ∃ n, b1.toNat = n := ⟨_, rfl⟩
  rw [hB1] at hb1 ⊢
  clear hB1
  have HQ := Lib.hid hq
  clear hq
  go_enter Tryz.func3, Tryz.ntmps3
  go_wp2_with (go_at_call 19; fail)
  refine Calls_nm ?_
  intro W1 hW
  have n : Nw w W1 := by rw [hW]; first | exact Ch.refl _ _ | exact (Ch.refl _ _).alloc _ | exact ((Ch.refl _ _).alloc _).alloc _
  replace HKW := Lib.hid (HKW.out.kept n (fun _ _ e => e))
  replace NX := Lib.hid (NX.out.trans n)
  replace HIl := Lib.hid ((HIl.out.kept n nof).hi n.size)
  replace HRW := Lib.hid ((HRW.out.kept n nof))
  have HB := Lib.hid (show W1.heap[w.heap.size]? = some (.cells #[.int .i64 q0, .int .i64 q1, .int .i64 q2, .int .i64 q3] 23 (0, 0)) from by rw [hW]; exact heap_alloc_eq _ rfl)
  clear hW n
  refine sanity_any _ _ HKW.out ?_
  intro w2 n
  replace HKW := Lib.hid (HKW.out.kept n (fun _ _ e => e))
  replace NX := Lib.hid (NX.out.trans n)
  replace HIl := Lib.hid ((HIl.out.kept n nof).hi n.size)
  replace HRW := Lib.hid ((HRW.out.kept n nof))
  replace HB := Lib.hid (n.heap HB.out id)
  clear n
  go_upto_region 2 with (fail)
  refine wp_named ?_
  intro W3 hW
  have n : Nw w2 W3 := by rw [hW]; first | exact Ch.refl _ _ | exact (Ch.refl _ _).alloc _
  replace HKW := Lib.hid (HKW.out.kept n (fun _ _ e => e))
  replace NX := Lib.hid (NX.out.trans n)
  replace HIl := Lib.hid ((HIl.out.kept n nof).hi n.size)
  replace HRW := Lib.hid ((HRW.out.kept n nof))
  replace HB := Lib.hid (n.heap HB.out id)
  clear hW n
  refine wp_region_V (F := fun w' => True) (opsOf Tryz.f3 2) 12 12 (by kernel_rfl) (by kernel_rfl) (by kernel_rfl) (fun w w' h n => True.intro) True.intro (fun HOPS HCL hHeld => ?_)
  refine wpU_named ?_
  intro W4 hW
  try rw [← hW] at hHeld
  have n : Nw W3 W4 := by rw [hW]; exact (Ch.refl _ _).drew
  replace HKW := Lib.hid (HKW.out.kept n (fun _ _ e => e))
  replace NX := Lib.hid (NX.out.trans n)
  replace HIl := Lib.hid ((HIl.out.kept n nof).hi n.size)
  replace HRW := Lib.hid ((HRW.out.kept n nof))
  replace HB := Lib.hid (n.heap HB.out id)
  clear hW n
  first | (refine wpU_takeB (i := 0) (v := ?_) HOPS rfl (by kernel_rfl) (fun _ _ _ h => h) HCL (goes_read (by rfl) ?hy) ?_; case hy => (intro w hSw; (try dsimp only at hSw); go_simp; (try with_reducible rfl))) | (refine wpU_takeB (i := 0) (v := _) HOPS rfl (by kernel_rfl) (fun _ _ _ h => h) HCL (goes_not (by rfl)) ?_)
  try simp only [Act.put, List.getElem_toArray, List.getElem_cons_succ, List.getElem_cons_zero, List.setIfInBounds_toArray, List.set_cons_zero, List.set_cons_succ]
  first | (refine wpU_takeB (i := 1) (v := ?_) HOPS rfl (by kernel_rfl) (fun _ _ _ h => h) HCL (goes_read (by rfl) ?hy) ?_; case hy => (intro w hSw; (try dsimp only at hSw); go_simp; (try with_reducible rfl))) | (refine wpU_takeB (i := 1) (v := _) HOPS rfl (by kernel_rfl) (fun _ _ _ h => h) HCL (goes_not (by rfl)) ?_)
  try simp only [Act.put, List.getElem_toArray, List.getElem_cons_succ, List.getElem_cons_zero, List.setIfInBounds_toArray, List.set_cons_zero, List.set_cons_succ]
  first | (refine wpU_takeB (i := 2) (v := ?_) HOPS rfl (by kernel_rfl) (fun _ _ _ h => h) HCL (goes_read (by rfl) ?hy) ?_; case hy => (intro w hSw; (try dsimp only at hSw); go_simp; (try with_reducible rfl))) | (refine wpU_takeB (i := 2) (v := _) HOPS rfl (by kernel_rfl) (fun _ _ _ h => h) HCL (goes_not (by rfl)) ?_)
  try simp only [Act.put, List.getElem_toArray, List.getElem_cons_succ, List.getElem_cons_zero, List.setIfInBounds_toArray, List.set_cons_zero, List.set_cons_succ]
  first | (refine wpU_takeB (i := 3) (v := ?_) HOPS rfl (by kernel_rfl) (fun _ _ _ h => h) HCL (goes_read (by rfl) ?hy) ?_; case hy => (intro w hSw; (try dsimp only at hSw); go_simp; (try with_reducible rfl))) | (refine wpU_takeB (i := 3) (v := _) HOPS rfl (by kernel_rfl) (fun _ _ _ h => h) HCL (goes_not (by rfl)) ?_)
  try simp only [Act.put, List.getElem_toArray, List.getElem_cons_succ, List.getElem_cons_zero, List.setIfInBounds_toArray, List.set_cons_zero, List.set_cons_succ]
  first | (refine wpU_takeB (i := 4) (v := ?_) HOPS rfl (by kernel_rfl) (fun _ _ _ h => h) HCL (goes_read (by rfl) ?hy) ?_; case hy => (intro w hSw; (try dsimp only at hSw); go_simp; (try with_reducible rfl))) | (refine wpU_takeB (i := 4) (v := _) HOPS rfl (by kernel_rfl) (fun _ _ _ h => h) HCL (goes_not (by rfl)) ?_)
  try simp only [Act.put, List.getElem_toArray, List.getElem_cons_succ, List.getElem_cons_zero, List.setIfInBounds_toArray, List.set_cons_zero, List.set_cons_succ]
  first | (refine wpU_takeB (i := 5) (v := ?_) HOPS rfl (by kernel_rfl) (fun _ _ _ h => h) HCL (goes_read (by rfl) ?hy) ?_; case hy => (intro w hSw; (try dsimp only at hSw); go_simp; (try with_reducible rfl))) | (refine wpU_takeB (i := 5) (v := _) HOPS rfl (by kernel_rfl) (fun _ _ _ h => h) HCL (goes_not (by rfl)) ?_)
  try simp only [Act.put, List.getElem_toArray, List.getElem_cons_succ, List.getElem_cons_zero, List.setIfInBounds_toArray, List.set_cons_zero, List.set_cons_succ]
  first | (refine wpU_takeB (i := 6) (v := ?_) HOPS rfl (by kernel_rfl) (fun _ _ _ h => h) HCL (goes_read (by rfl) ?hy) ?_; case hy => (intro w hSw; (try dsimp only at hSw); go_simp; (try with_reducible rfl))) | (refine wpU_takeB (i := 6) (v := _) HOPS rfl (by kernel_rfl) (fun _ _ _ h => h) HCL (goes_not (by rfl)) ?_)
  try simp only [Act.put, List.getElem_toArray, List.getElem_cons_succ, List.getElem_cons_zero, List.setIfInBounds_toArray, List.set_cons_zero, List.set_cons_succ]
  first | (refine wpU_takeB (i := 7) (v := ?_) HOPS rfl (by kernel_rfl) (fun _ _ _ h => h) HCL (goes_read (by rfl) ?hy) ?_; case hy => (intro w hSw; (try dsimp only at hSw); go_simp; (try with_reducible rfl))) | (refine wpU_takeB (i := 7) (v := _) HOPS rfl (by kernel_rfl) (fun _ _ _ h => h) HCL (goes_not (by rfl)) ?_)
  try simp only [Act.put, List.getElem_toArray, List.getElem_cons_succ, List.getElem_cons_zero, List.setIfInBounds_toArray, List.set_cons_zero, List.set_cons_succ]
  first | (refine wpU_takeB (i := 8) (v := ?_) HOPS rfl (by kernel_rfl) (fun _ _ _ h => h) HCL (goes_read (by rfl) ?hy) ?_; case hy => (intro w hSw; (try dsimp only at hSw); go_simp; (try with_reducible rfl))) | (refine wpU_takeB (i := 8) (v := _) HOPS rfl (by kernel_rfl) (fun _ _ _ h => h) HCL (goes_not (by rfl)) ?_)
  try simp only [Act.put, List.getElem_toArray, List.getElem_cons_succ, List.getElem_cons_zero, List.setIfInBounds_toArray, List.set_cons_zero, List.set_cons_succ]
  first | (refine wpU_takeB (i := 9) (v := ?_) HOPS rfl (by kernel_rfl) (fun _ _ _ h => h) HCL (goes_read (by rfl) ?hy) ?_; case hy => (intro w hSw; (try dsimp only at hSw); go_simp; (try with_reducible rfl))) | (refine wpU_takeB (i := 9) (v := _) HOPS rfl (by kernel_rfl) (fun _ _ _ h => h) HCL (goes_not (by rfl)) ?_)
  try simp only [Act.put, List.getElem_toArray, List.getElem_cons_succ, List.getElem_cons_zero, List.setIfInBounds_toArray, List.set_cons_zero, List.set_cons_succ]
  first | (refine wpU_takeB (i := 10) (v := ?_) HOPS rfl (by kernel_rfl) (fun _ _ _ h => h) HCL (goes_read (by rfl) ?hy) ?_; case hy => (intro w hSw; (try dsimp only at hSw); go_simp; (try with_reducible rfl))) | (refine wpU_takeB (i := 10) (v := _) HOPS rfl (by kernel_rfl) (fun _ _ _ h => h) HCL (goes_not (by rfl)) ?_)
  try simp only [Act.put, List.getElem_toArray, List.getElem_cons_succ, List.getElem_cons_zero, List.setIfInBounds_toArray, List.set_cons_zero, List.set_cons_succ]
  first | (refine wpU_takeB (i := 11) (v := ?_) HOPS rfl (by kernel_rfl) (fun _ _ _ h => h) HCL (goes_read (by rfl) ?hy) ?_; case hy => (intro w hSw; (try dsimp only at hSw); go_simp; (try with_reducible rfl))) | (refine wpU_takeB (i := 11) (v := _) HOPS rfl (by kernel_rfl) (fun _ _ _ h => h) HCL (goes_not (by rfl)) ?_)
  try simp only [Act.put, List.getElem_toArray, List.getElem_cons_succ, List.getElem_cons_zero, List.setIfInBounds_toArray, List.set_cons_zero, List.set_cons_succ]
  refine wpU_done (by kernel_rfl) (fun w5 hle => ?_) _
  have n := (hle.ahead (by kernel_rfl)).1
  replace HKW := Lib.hid (HKW.out.kept n (fun _ _ e => e))
  replace NX := Lib.hid (NX.out.trans n)
  replace HIl := Lib.hid ((HIl.out.kept n nof).hi n.size)
  replace HRW := Lib.hid ((HRW.out.kept n nof))
  replace HB := Lib.hid (n.heap HB.out id)
  clear n
  clear HOPS HCL hle
  repeat clear hHeld
  obtain ⟨n1, hn1⟩ : ∃ n : Nat, ((B1 : Nat) : Int) % 9 = (n : Int) := ⟨B1 % 9, by omega⟩
  have n19 : n1 < 9 := by omega
  go_wp2_with (go_at_call 19; fail)
  refine Calls_nm ?_
  intro W6 hW
  have n : Nw w5 W6 := by rw [hW]; first | exact Ch.refl _ _ | exact (Ch.refl _ _).alloc _ | exact ((Ch.refl _ _).alloc _).alloc _
  replace HKW := Lib.hid (HKW.out.kept n (fun _ _ e => e))
  replace NX := Lib.hid (NX.out.trans n)
  replace HIl := Lib.hid ((HIl.out.kept n nof).hi n.size)
  replace HRW := Lib.hid ((HRW.out.kept n nof))
  replace HB := Lib.hid (n.heap HB.out id)
  clear hW n
  refine made_any (n1 : Int) _ tl _ _ HIl.out (by omega) ?_
  intro w7 xp p hrow hnil hmade n
  replace HKW := Lib.hid (HKW.out.kept n (fun _ _ e => e))
  replace NX := Lib.hid (NX.out.trans n)
  replace HIl := Lib.hid ((HIl.out.kept n nof).hi n.size)
  replace HRW := Lib.hid ((HRW.out.kept n nof))
  replace HB := Lib.hid (n.heap HB.out id)
  clear n
  have HOp := Lib.hid (show ORow w7 W6.heap.size xp p from hrow)
  have HMp := Lib.hid hmade
  have hpp := made_len hmade
  have HEp := Lib.hid hnil
  obtain ⟨kp, dp, rp, hf⟩ := facts_of hmade
  have kap := hf.k0
  have kbp := hf.k1
  have dbp := hf.d8
  have rbp := hf.r64
  have HFp := Lib.hid hf
  clear hf hmade hnil
  obtain ⟨Ap, cp, ep⟩ := hrow.form
  subst ep
  clear hrow
  clear hn1
  have kHB0 : w7.cell? ⟨w.heap.size, 0, none⟩ = some (.int .i64 q0) := by rw [cell_of HB.out]; rfl
  have kHB1 : w7.cell? ⟨w.heap.size, 1, none⟩ = some (.int .i64 q1) := by rw [cell_of HB.out]; rfl
  have kHB2 : w7.cell? ⟨w.heap.size, 2, none⟩ = some (.int .i64 q2) := by rw [cell_of HB.out]; rfl
  have kHB3 : w7.cell? ⟨w.heap.size, 3, none⟩ = some (.int .i64 q3) := by rw [cell_of HB.out]; rfl
  go_wp2_with (go_at_call 19; fail)
  clear kHB0 kHB1 kHB2 kHB3
  refine Calls_nm ?_
  intro W8 hW
  have n : Nw w7 W8 := by rw [hW]; first | exact Ch.refl _ _ | exact (Ch.refl _ _).alloc _ | exact ((Ch.refl _ _).alloc _).alloc _
  replace HKW := Lib.hid (HKW.out.kept n (fun _ _ e => e))
  replace NX := Lib.hid (NX.out.trans n)
  replace HIl := Lib.hid ((HIl.out.kept n nof).hi n.size)
  replace HRW := Lib.hid ((HRW.out.kept n nof))
  replace HB := Lib.hid (n.heap HB.out id)
  replace HOp := Lib.hid (HOp.out.ch' n (fun _ _ e => e))
  clear hW n
  refine oddP_any p _ _ q0 q1 q2 q3 _ _ HOp.out HEp.out (by omega) HQ.out (made_num HMp.out (by omega)) ?_
  intro w9 xo po hrow hlen9 hnum9 n
  replace HKW := Lib.hid (HKW.out.kept n (fun _ _ e => e))
  replace NX := Lib.hid (NX.out.trans n)
  replace HIl := Lib.hid ((HIl.out.kept n nof).hi n.size)
  replace HRW := Lib.hid ((HRW.out.kept n nof))
  replace HB := Lib.hid (n.heap HB.out id)
  replace HOp := Lib.hid (HOp.out.ch' n (fun _ _ e => e))
  obtain ⟨Ao, co, eo⟩ := hrow.form
  subst eo
  have HOo := Lib.hid (show ORow w9 W8.heap.size (.slice Ao po.length co) po from hrow)
  have HNo := Lib.hid hnum9
  clear hrow hnum9 n
  go_wp2_with (fail)
  refine wp_named ?_
  intro W10 hW
  have n : Nw w9 W10 := by rw [hW]; first | exact Ch.refl _ _ | exact (Ch.refl _ _).alloc _ | exact ((Ch.refl _ _).alloc _).alloc _
  replace HKW := Lib.hid (HKW.out.kept n (fun _ _ e => e))
  replace NX := Lib.hid (NX.out.trans n)
  replace HIl := Lib.hid ((HIl.out.kept n nof).hi n.size)
  replace HRW := Lib.hid ((HRW.out.kept n nof))
  replace HB := Lib.hid (n.heap HB.out id)
  replace HOp := Lib.hid (HOp.out.ch' n (fun _ _ e => e))
  replace HOo := Lib.hid (HOo.out.ch' n (fun _ _ e => e))
  have HG := Lib.hid (show W10.heap[w9.heap.size]? = some (.cells #[.slice Ap p.length cp, .slice Ao po.length co, .slice Ar tr.length cr] 24 (0, 0)) from by rw [hW]; exact heap_alloc_eq _ rfl)
  clear hW n
  have HPR := Lib.hid (show Progs W10 W10.heap.size #[.slice Ap p.length cp, .slice Ao po.length co, .slice Ar tr.length cr] from progs_of (ORow.prog (L := p) HOp.out) (ORow.prog (L := po) HOo.out) (HRW.out.hi (by have := NX.out.size; omega)) rfl rfl rfl (by omega) (by omega) (by omega) (made_num HMp.out (by omega)) HNo.out HRN.out)
  clear HRW HOo HIl
  clear HNo HRN hlen9
  have hWL : 5 ≤ W10.heap.size := by have := NX.out.size; omega
  obtain ⟨VS, hVS⟩ : ∃ x : Array Value, #[.slice Ap p.length cp, .slice Ao po.length co, .slice Ar tr.length cr] = x := ⟨_, rfl⟩
  rw [hVS] at HG HPR
  clear hVS
  go_loopw [48] (fun s48 wr => ∃ i : Nat, s48 = .int .i64 i ∧ i ≤ 3 ∧ Hid (Nw W10 wr)) (fun s48 _ => 3 - (intOf s48).toNat)
  case atStart => exact ⟨0, rfl, Nat.zero_le _, Lib.hid (Ch.refl _ _)⟩
  case round =>
    obtain ⟨i, rfl, hi, HWN⟩ := hrel
    obtain ⟨wi, hwi⟩ : ∃ W : World, W = wr := ⟨_, rfl⟩
    subst hwi
    have n := HWN.out
    replace HKW := Lib.hid (HKW.out.kept n (fun _ _ e => e))
    replace NX := Lib.hid (NX.out.trans n)
    replace HB := Lib.hid (n.heap HB.out id)
    replace HOp := Lib.hid (HOp.out.ch' n (fun _ _ e => e))
    replace HG := Lib.hid (n.heap HG.out id)
    replace HPR := Lib.hid (HPR.out.kept n nof)
    clear n
    have i0 : (0 : Int) ≤ (i : Int) := by omega
    by_cases hlt : i < 3
    · as_aux_lemma =>
      have i1 : (i : Int) < 3 := by omega
      obtain ⟨AX, nX, cX, LX, hvx, enX, hpx, hlx, hnx⟩ := HPR.out i hlt
      subst enX
      have HX := Lib.hid hpx
      have cgx : wi.cell? ⟨w9.heap.size, i, none⟩ = some (.slice AX LX.length cX) := by rw [cell_of HG.out]; exact hvx
      clear hvx hpx hnx
      go_wp2_with (fail)
      clear cgx
      refine wp_named ?_
      intro W11 hW
      have n : Nw wi W11 := by rw [hW]; first | exact Ch.refl _ _ | exact (Ch.refl _ _).alloc _ | exact ((Ch.refl _ _).alloc _).alloc _
      replace HKW := Lib.hid (HKW.out.kept n (fun _ _ e => e))
      replace NX := Lib.hid (NX.out.trans n)
      replace HB := Lib.hid (n.heap HB.out id)
      replace HOp := Lib.hid (HOp.out.ch' n (fun _ _ e => e))
      replace HG := Lib.hid (n.heap HG.out id)
      replace HPR := Lib.hid (HPR.out.kept n nof)
      replace HWN := Lib.hid (HWN.out.trans n)
      replace HX := Lib.hid (HX.out.kept n nof)
      have HG2 := Lib.hid (show W11.heap[wi.heap.size]? = some (.cells #[.int .i64 n1, .int .i64 number] 3 (0, 0)) from by rw [hW]; exact heap_alloc_eq _ rfl)
      clear hW n
      go_loopw [56] (fun s56 wr => ∃ j : Nat, s56 = .int .i64 j ∧ j ≤ 2 ∧ Hid (Nw W11 wr)) (fun s56 _ => 2 - (intOf s56).toNat)
      case atStart => exact ⟨0, rfl, Nat.zero_le _, Lib.hid (Ch.refl _ _)⟩
      case round =>
        obtain ⟨j, rfl, hj, HWM⟩ := hrel
        have n := HWM.out
        replace HKW := Lib.hid (HKW.out.kept n (fun _ _ e => e))
        replace NX := Lib.hid (NX.out.trans n)
        replace HB := Lib.hid (n.heap HB.out id)
        replace HOp := Lib.hid (HOp.out.ch' n (fun _ _ e => e))
        replace HG := Lib.hid (n.heap HG.out id)
        replace HPR := Lib.hid (HPR.out.kept n nof)
        replace HWN := Lib.hid (HWN.out.trans n)
        replace HX := Lib.hid (HX.out.kept n nof)
        replace HG2 := Lib.hid (n.heap HG2.out id)
        obtain ⟨wj, hwj⟩ : ∃ W : World, W = wr := ⟨_, rfl⟩
        subst hwj
        clear n
        have j0 : (0 : Int) ≤ (j : Int) := by omega
        by_cases hlt2 : j < 2
        · as_aux_lemma =>
          have j1 : (j : Int) < 2 := by omega
          obtain ⟨np, cnp⟩ : ∃ np : Int, wj.cell? ⟨wi.heap.size, j, none⟩ = some (.int .i64 np) := by
            rw [cell_of HG2.out]
            match j, hlt2 with
            | 0, _ => exact ⟨_, rfl⟩
            | 1, _ => exact ⟨_, rfl⟩
          go_wp2_with (go_at_call 19; fail)
          clear cnp
          refine Calls_nm ?_
          intro W12 hW
          have n : Nw wj W12 := by rw [hW]; first | exact Ch.refl _ _ | exact (Ch.refl _ _).alloc _ | exact ((Ch.refl _ _).alloc _).alloc _
          replace HKW := Lib.hid (HKW.out.kept n (fun _ _ e => e))
          replace NX := Lib.hid (NX.out.trans n)
          replace HB := Lib.hid (n.heap HB.out id)
          replace HOp := Lib.hid (HOp.out.ch' n (fun _ _ e => e))
          replace HG := Lib.hid (n.heap HG.out id)
          replace HPR := Lib.hid (HPR.out.kept n nof)
          replace HWN := Lib.hid (HWN.out.trans n)
          replace HX := Lib.hid (HX.out.kept n nof)
          replace HG2 := Lib.hid (n.heap HG2.out id)
          replace HWM := Lib.hid (HWM.out.trans n)
          clear hW n
          cases hcm : checkM np LX with
          | error e => as_aux_lemma =>
            have HCM := Lib.hid hcm
            clear hcm
            refine check_err HCM.out W10.heap.size _ _ _ HX.out (by have := NX.out.size; have := HWN.out.size; have := HWM.out.size; omega) (by omega) HKW.out ?_
            intro w13 n
            replace HKW := Lib.hid (HKW.out.kept n (fun _ _ e => e))
            replace NX := Lib.hid (NX.out.trans n)
            replace HB := Lib.hid (n.heap HB.out id)
            replace HOp := Lib.hid (HOp.out.ch' n (fun _ _ e => e))
            replace HG := Lib.hid (n.heap HG.out id)
            replace HPR := Lib.hid (HPR.out.kept n nof)
            replace HWN := Lib.hid (HWN.out.trans n)
            replace HX := Lib.hid (HX.out.kept n nof)
            replace HG2 := Lib.hid (n.heap HG2.out id)
            replace HWM := Lib.hid (HWM.out.trans n)
            clear n
            go_wp2_with (go_at_call 19; fail)
            refine Calls_nm ?_
            intro W14 hW
            have n : Nw w13 W14 := by rw [hW]; first | exact Ch.refl _ _ | exact (Ch.refl _ _).alloc _ | exact ((Ch.refl _ _).alloc _).alloc _
            replace HKW := Lib.hid (HKW.out.kept n (fun _ _ e => e))
            replace NX := Lib.hid (NX.out.trans n)
            replace HB := Lib.hid (n.heap HB.out id)
            replace HOp := Lib.hid (HOp.out.ch' n (fun _ _ e => e))
            replace HG := Lib.hid (n.heap HG.out id)
            replace HPR := Lib.hid (HPR.out.kept n nof)
            replace HWN := Lib.hid (HWN.out.trans n)
            replace HX := Lib.hid (HX.out.kept n nof)
            replace HG2 := Lib.hid (n.heap HG2.out id)
            replace HWM := Lib.hid (HWM.out.trans n)
            have HBf := Lib.hid (show W14.heap[w13.heap.size]? = some (.cells #[.int .i64 0, .int .i64 0, .slice none 0 0] 30 (0, 0)) from by rw [hW]; exact heap_alloc_eq _ rfl)
            clear hW n
            refine rcheck_err HCM.out W10.heap.size _ _ _ HX.out (by have := HWN.out.size; have := HWM.out.size; omega) ?_
            intro w15 n
            replace HKW := Lib.hid (HKW.out.kept n (fun _ _ e => e))
            replace NX := Lib.hid (NX.out.trans n)
            replace HB := Lib.hid (n.heap HB.out id)
            replace HOp := Lib.hid (HOp.out.ch' n (fun _ _ e => e))
            replace HG := Lib.hid (n.heap HG.out id)
            replace HPR := Lib.hid (HPR.out.kept n nof)
            replace HWN := Lib.hid (HWN.out.trans n)
            replace HX := Lib.hid (HX.out.kept n nof)
            replace HG2 := Lib.hid (n.heap HG2.out id)
            replace HWM := Lib.hid (HWM.out.trans n)
            replace HBf := Lib.hid (n.heap HBf.out id)
            clear n
            have ee : (e != e) = false := by simp
            have kHBf0 : w15.cell? ⟨w13.heap.size, 0, none⟩ = some (.int .i64 0) := by rw [cell_of HBf.out]; rfl
            have jHBf0 : ∀ o, (w15.alloc o).cell? ⟨w13.heap.size, 0, none⟩ = some (.int .i64 0) := fun o => cell_alloc_old o kHBf0
            have kHBf1 : w15.cell? ⟨w13.heap.size, 1, none⟩ = some (.int .i64 0) := by rw [cell_of HBf.out]; rfl
            have jHBf1 : ∀ o, (w15.alloc o).cell? ⟨w13.heap.size, 1, none⟩ = some (.int .i64 0) := fun o => cell_alloc_old o kHBf1
            have kHBf2 : w15.cell? ⟨w13.heap.size, 2, none⟩ = some (.slice none 0 0) := by rw [cell_of HBf.out]; rfl
            have jHBf2 : ∀ o, (w15.alloc o).cell? ⟨w13.heap.size, 2, none⟩ = some (.slice none 0 0) := fun o => cell_alloc_old o kHBf2
            go_wp2_with (go_at_call 19; fail)
            clear kHBf0 jHBf0 kHBf1 jHBf1 kHBf2 jHBf2
            refine Calls_nm ?_
            intro W16 hW
            have n : Nw w15 W16 := by rw [hW]; first | exact Ch.refl _ _ | exact (Ch.refl _ _).alloc _ | exact ((Ch.refl _ _).alloc _).alloc _
            replace HKW := Lib.hid (HKW.out.kept n (fun _ _ e => e))
            replace NX := Lib.hid (NX.out.trans n)
            replace HB := Lib.hid (n.heap HB.out id)
            replace HOp := Lib.hid (HOp.out.ch' n (fun _ _ e => e))
            replace HG := Lib.hid (n.heap HG.out id)
            replace HPR := Lib.hid (HPR.out.kept n nof)
            replace HWN := Lib.hid (HWN.out.trans n)
            replace HX := Lib.hid (HX.out.kept n nof)
            replace HG2 := Lib.hid (n.heap HG2.out id)
            replace HWM := Lib.hid (HWM.out.trans n)
            replace HBf := Lib.hid (n.heap HBf.out id)
            have HBg := Lib.hid (show W16.heap[w15.heap.size]? = some (.cells #[.int .i64 0, .int .i64 0, .slice none 0 0] 30 (0, 0)) from by rw [hW]; exact heap_alloc_eq _ rfl)
            clear hW n
            refine sameF_any 0 0 0 0 [] [] 0 0 _ _ _ _ (IsCnil _) (IsCnil _) (by simp) (by simp) ?_
            intro w17 n
            replace HKW := Lib.hid (HKW.out.kept n (fun _ _ e => e))
            replace NX := Lib.hid (NX.out.trans n)
            replace HB := Lib.hid (n.heap HB.out id)
            replace HOp := Lib.hid (HOp.out.ch' n (fun _ _ e => e))
            replace HG := Lib.hid (n.heap HG.out id)
            replace HPR := Lib.hid (HPR.out.kept n nof)
            replace HWN := Lib.hid (HWN.out.trans n)
            replace HX := Lib.hid (HX.out.kept n nof)
            replace HG2 := Lib.hid (n.heap HG2.out id)
            replace HWM := Lib.hid (HWM.out.trans n)
            replace HBf := Lib.hid (n.heap HBf.out id)
            replace HBg := Lib.hid (n.heap HBg.out id)
            clear n
            rw [decide_eq_true rfl]
            go_wp2_with (fail)
            exact ⟨⟨j + 1, by go_num, by omega, HWM⟩, by simp [intOf]; omega⟩
          | ok y => as_aux_lemma =>
            obtain ⟨k9, d9, r9⟩ := y
            have hc9 := checkM_len hcm
            have hs9 := sortedP_le r9
            have hs64 : (sortedP r9).length ≤ 64 := by omega
            have HCM := Lib.hid hcm
            clear hcm hc9 hs9
            obtain ⟨S9, hS9⟩ : ∃ x, sortedP r9 = x := ⟨_, rfl⟩
            have HS9 := Lib.hid hS9
            rw [hS9] at hs64
            clear hS9
            refine check_ok HCM.out W10.heap.size _ _ _ HX.out (by have := NX.out.size; have := HWN.out.size; have := HWM.out.size; omega) (by omega) HKW.out ?_
            intro w18 Af cf hc n
            replace HKW := Lib.hid (HKW.out.kept n (fun _ _ e => e))
            replace NX := Lib.hid (NX.out.trans n)
            replace HB := Lib.hid (n.heap HB.out id)
            replace HOp := Lib.hid (HOp.out.ch' n (fun _ _ e => e))
            replace HG := Lib.hid (n.heap HG.out id)
            replace HPR := Lib.hid (HPR.out.kept n nof)
            replace HWN := Lib.hid (HWN.out.trans n)
            replace HX := Lib.hid (HX.out.kept n nof)
            replace HG2 := Lib.hid (n.heap HG2.out id)
            replace HWM := Lib.hid (HWM.out.trans n)
            rw [HS9.out] at hc ⊢
            have HCf := Lib.hid hc
            clear n hc
            go_wp2_with (go_at_call 19; fail)
            refine Calls_nm ?_
            intro W19 hW
            have n : Nw w18 W19 := by rw [hW]; first | exact Ch.refl _ _ | exact (Ch.refl _ _).alloc _ | exact ((Ch.refl _ _).alloc _).alloc _
            replace HKW := Lib.hid (HKW.out.kept n (fun _ _ e => e))
            replace NX := Lib.hid (NX.out.trans n)
            replace HB := Lib.hid (n.heap HB.out id)
            replace HOp := Lib.hid (HOp.out.ch' n (fun _ _ e => e))
            replace HG := Lib.hid (n.heap HG.out id)
            replace HPR := Lib.hid (HPR.out.kept n nof)
            replace HWN := Lib.hid (HWN.out.trans n)
            replace HX := Lib.hid (HX.out.kept n nof)
            replace HG2 := Lib.hid (n.heap HG2.out id)
            replace HWM := Lib.hid (HWM.out.trans n)
            replace HCf := Lib.hid ((HCf.out.kept n nof))
            have HBf := Lib.hid (show W19.heap[w18.heap.size]? = some (.cells #[.int .i64 k9, .int .i64 d9, .slice Af S9.length cf] 30 (0, 0)) from by rw [hW]; exact heap_alloc_eq _ rfl)
            clear hW n
            refine rcheck_ok HCM.out W10.heap.size _ _ _ HX.out (by have := HWN.out.size; have := HWM.out.size; omega) ?_
            intro w20 Ag cg hc n
            replace HKW := Lib.hid (HKW.out.kept n (fun _ _ e => e))
            replace NX := Lib.hid (NX.out.trans n)
            replace HB := Lib.hid (n.heap HB.out id)
            replace HOp := Lib.hid (HOp.out.ch' n (fun _ _ e => e))
            replace HG := Lib.hid (n.heap HG.out id)
            replace HPR := Lib.hid (HPR.out.kept n nof)
            replace HWN := Lib.hid (HWN.out.trans n)
            replace HX := Lib.hid (HX.out.kept n nof)
            replace HG2 := Lib.hid (n.heap HG2.out id)
            replace HWM := Lib.hid (HWM.out.trans n)
            replace HCf := Lib.hid ((HCf.out.kept n nof))
            replace HBf := Lib.hid (n.heap HBf.out id)
            rw [HS9.out] at hc ⊢
            have HCg := Lib.hid hc
            clear n hc
            have kHBf0 : w20.cell? ⟨w18.heap.size, 0, none⟩ = some (.int .i64 k9) := by rw [cell_of HBf.out]; rfl
            have jHBf0 : ∀ o, (w20.alloc o).cell? ⟨w18.heap.size, 0, none⟩ = some (.int .i64 k9) := fun o => cell_alloc_old o kHBf0
            have kHBf1 : w20.cell? ⟨w18.heap.size, 1, none⟩ = some (.int .i64 d9) := by rw [cell_of HBf.out]; rfl
            have jHBf1 : ∀ o, (w20.alloc o).cell? ⟨w18.heap.size, 1, none⟩ = some (.int .i64 d9) := fun o => cell_alloc_old o kHBf1
            have kHBf2 : w20.cell? ⟨w18.heap.size, 2, none⟩ = some (.slice Af S9.length cf) := by rw [cell_of HBf.out]; rfl
            have jHBf2 : ∀ o, (w20.alloc o).cell? ⟨w18.heap.size, 2, none⟩ = some (.slice Af S9.length cf) := fun o => cell_alloc_old o kHBf2
            go_wp2_with (go_at_call 19; fail)
            clear kHBf0 jHBf0 kHBf1 jHBf1 kHBf2 jHBf2
            refine Calls_nm ?_
            intro W21 hW
            have n : Nw w20 W21 := by rw [hW]; first | exact Ch.refl _ _ | exact (Ch.refl _ _).alloc _ | exact ((Ch.refl _ _).alloc _).alloc _
            replace HKW := Lib.hid (HKW.out.kept n (fun _ _ e => e))
            replace NX := Lib.hid (NX.out.trans n)
            replace HB := Lib.hid (n.heap HB.out id)
            replace HOp := Lib.hid (HOp.out.ch' n (fun _ _ e => e))
            replace HG := Lib.hid (n.heap HG.out id)
            replace HPR := Lib.hid (HPR.out.kept n nof)
            replace HWN := Lib.hid (HWN.out.trans n)
            replace HX := Lib.hid (HX.out.kept n nof)
            replace HG2 := Lib.hid (n.heap HG2.out id)
            replace HWM := Lib.hid (HWM.out.trans n)
            replace HCf := Lib.hid ((HCf.out.kept n nof))
            replace HBf := Lib.hid (n.heap HBf.out id)
            replace HCg := Lib.hid ((HCg.out.kept n nof))
            have HBg := Lib.hid (show W21.heap[w20.heap.size]? = some (.cells #[.int .i64 k9, .int .i64 d9, .slice Ag S9.length cg] 30 (0, 0)) from by rw [hW]; exact heap_alloc_eq _ rfl)
            clear hW n
            refine sameF_any k9 k9 d9 d9 S9 S9 _ _ _ _ _ _ HCf.out HCg.out (by omega) (by omega) ?_
            intro w22 n
            replace HKW := Lib.hid (HKW.out.kept n (fun _ _ e => e))
            replace NX := Lib.hid (NX.out.trans n)
            replace HB := Lib.hid (n.heap HB.out id)
            replace HOp := Lib.hid (HOp.out.ch' n (fun _ _ e => e))
            replace HG := Lib.hid (n.heap HG.out id)
            replace HPR := Lib.hid (HPR.out.kept n nof)
            replace HWN := Lib.hid (HWN.out.trans n)
            replace HX := Lib.hid (HX.out.kept n nof)
            replace HG2 := Lib.hid (n.heap HG2.out id)
            replace HWM := Lib.hid (HWM.out.trans n)
            replace HCf := Lib.hid ((HCf.out.kept n nof))
            replace HBf := Lib.hid (n.heap HBf.out id)
            replace HCg := Lib.hid ((HCg.out.kept n nof))
            replace HBg := Lib.hid (n.heap HBg.out id)
            clear n
            rw [decide_eq_true rfl]
            go_wp2_with (fail)
            exact ⟨⟨j + 1, by go_num, by omega, HWM⟩, by simp [intOf]; omega⟩
        · as_aux_lemma =>
          have j1 : ¬ (j : Int) < 2 := by omega
          go_wp2_with (fail)
          exact ⟨⟨i + 1, by go_num, by omega, HWN⟩, by simp [intOf]; omega⟩
    · as_aux_lemma =>
      have i1 : ¬ (i : Int) < 3 := by omega
      have H1 := Lib.hid HFp.out.check
      go_wp2_with (go_at_call 19; fail)
      refine Calls_nm ?_
      intro W23 hW
      have n : Nw wi W23 := by rw [hW]; first | exact Ch.refl _ _ | exact (Ch.refl _ _).alloc _ | exact ((Ch.refl _ _).alloc _).alloc _
      replace HKW := Lib.hid (HKW.out.kept n (fun _ _ e => e))
      replace NX := Lib.hid (NX.out.trans n)
      replace HB := Lib.hid (n.heap HB.out id)
      replace HOp := Lib.hid (HOp.out.ch' n (fun _ _ e => e))
      replace HG := Lib.hid (n.heap HG.out id)
      replace HPR := Lib.hid (HPR.out.kept n nof)
      replace HWN := Lib.hid (HWN.out.trans n)
      clear hW n
      refine check_ok (H1.out) W23.heap.size _ _ _ (ORow.prog (L := p) HOp.out) (Nat.le_refl _) (by have := HKW.out.sz; omega) HKW.out ?_
      intro w24 Az cz hc n
      replace HKW := Lib.hid (HKW.out.kept n (fun _ _ e => e))
      replace NX := Lib.hid (NX.out.trans n)
      replace HB := Lib.hid (n.heap HB.out id)
      replace HOp := Lib.hid (HOp.out.ch' n (fun _ _ e => e))
      replace HG := Lib.hid (n.heap HG.out id)
      replace HPR := Lib.hid (HPR.out.kept n nof)
      replace HWN := Lib.hid (HWN.out.trans n)
      have HCz := Lib.hid hc
      clear n hc
      go_wp2
      exact HR.out _ (NX.out.alloc _)

end Go.Proofs.YtdpbdcaefdcooaaGreatDoor
