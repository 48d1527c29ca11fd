/-
  The law VerifyTexts: contract.
-/
import Derived.Test.YtdpbdcaefdcooaaGreatDoorR8e
import Derived.Test.YtdpbdcaefdcooaaGreatDoorR8q
import Derived.Test.YtdpbdcaefdcooaaGreatDoorR8x
namespace Go.Proofs.YtdpbdcaefdcooaaGreatDoor
open Go.RowKit
set_option linter.unusedVariables false
set_option linter.unusedSimpArgs false
set_option maxRecDepth 100000

/-- The reference reads a text as verify.Parse does. -/
theorem rParse_eq (s : List UInt8) : rParseM s = parseC s := by
  by_cases h0 : s = []
  · subst h0; rfl
  · cases h : rOpsL (Lib.split s [59, 32]) with
    | none => rw [rP_none h0 h, rParse_none h0 h (fun P hP => (opsOfL_ok hP).1)]
    | some P => rw [rP_some h0 h, rParse_some h0 h]
theorem parseC_len2 (s : List UInt8) : (parseC s).1.length ≤ s.length + 2 := by
  unfold parseC
  split
  · simp
  · cases h : opsOfL (Lib.split s [59, 32]) with
    | none => simp
    | some p =>
      have h1 := (opsOfL_ok h).2
      have h2 := (split_cnt s [59, 32]).2
      simp only
      split
      · simp only; omega
      · simp

set_option maxHeartbeats 16000000 in
theorem law_texts (lo : Nat) (v : Value) (l : List Int) (q0 q1 q2 q3 : Int) (vr : Value) (raw : List VOp) (s : ByteArray) (w : World) (R : Ending → World → Prop) (hlo : lo ≤ w.heap.size) (hl : IsInts w lo v l) (hq : wfI q0 ∧ wfI q1 ∧ wfI q2 ∧ wfI q3) (hraw : IsRaw w lo vr raw) (hk : WOk w)
    (hR : ∀ w', Nw w w' → R (.returned (.bool true)) w') : Calls Tryz.prog 4 #[v, .agg #[.int .i64 q0, .int .i64 q1, .int .i64 q2, .int .i64 q3], vr, .string s] w R := by
  have HR := Lib.hid hR
  clear hR
  have HKW := Lib.hid hk
  clear hk
  have NX := Lib.hid (Ch.refl (fun _ => False) w)
  have hz5 := HKW.out.sz
  have HIl := Lib.hid (hl.hi hlo)
  obtain ⟨Al, cl, rfl, ⟨hcl, -⟩, -⟩ := hl
  obtain ⟨ml, eml⟩ : ∃ k : Nat, min (l.length : Int) 60 = (k : Int) := ⟨(min (l.length : Int) 60).toNat, by omega⟩
  have mal : (0 : Int) ≤ (ml : Int) := by omega
  have mbl : (ml : Int) ≤ (cl : Int) := by omega
  replace HIl := Lib.hid (HIl.out.takeN ml (by omega))
  obtain ⟨tl, htl⟩ : ∃ t, l.take ml = t := ⟨_, rfl⟩
  rw [htl] at HIl
  have hll : tl.length = ml := by rw [← htl, List.length_take]; omega
  clear htl
  rw [← hll] at eml mal mbl HIl
  clear hll
  obtain ⟨hraw, hrn⟩ := hraw
  have HRW := Lib.hid (hraw.hi hlo)
  obtain ⟨Ar, cr, rfl, hcr, -⟩ := hraw
  obtain ⟨mr, emr⟩ : ∃ k : Nat, min (raw.length : Int) 20 = (k : Int) := ⟨(min (raw.length : Int) 20).toNat, by omega⟩
  have mar : (0 : Int) ≤ (mr : Int) := by omega
  have mbr : (mr : Int) ≤ (cr : Int) := by omega
  replace HRW := Lib.hid (HRW.out.takeN mr (by omega))
  obtain ⟨tr, htr⟩ : ∃ t, raw.take mr = t := ⟨_, rfl⟩
  have HRN := Lib.hid (show ∀ o ∈ tr, numOk o.2.1 ∧ numOk o.2.2 from fun o ho => hrn o (List.mem_of_mem_take (by rw [htr]; exact ho)))
  rw [htr] at HRW
  have hlr : tr.length = mr := by rw [← htr, List.length_take]; omega
  clear htr hrn
  rw [← hlr] at emr mar mbr HRW
  have hr70 : tr.length ≤ 20 := by omega
  clear hlr
  have HQ := Lib.hid hq
  clear hq
  obtain ⟨ms, ems⟩ : ∃ k : Nat, min (s.size : Int) 60 = (k : Int) := ⟨(min (s.size : Int) 60).toNat, by omega⟩
  have mas : (0 : Int) ≤ (ms : Int) := by omega
  have mbs : (ms : Int) ≤ (s.size : Int) := by omega
  have ms60 : ms ≤ 60 := by omega
  go_enter Tryz.func4, Tryz.ntmps4
  go_wp2_with (go_at_call 19; fail)
  refine Calls_nm ?_
  intro W1 hW
  have n : Nw w W1 := by rw [hW]; first | exact Ch.refl _ _ | exact (Ch.refl _ _).alloc _ | exact ((Ch.refl _ _).alloc _).alloc _
  replace HKW := Lib.hid (HKW.out.kept n (fun _ _ e => e))
  replace NX := Lib.hid (NX.out.trans n)
  replace HIl := Lib.hid ((HIl.out.kept n nof).hi n.size)
  replace HRW := Lib.hid ((HRW.out.kept n nof))
  have HB := Lib.hid (show W1.heap[w.heap.size]? = some (.cells #[.int .i64 q0, .int .i64 q1, .int .i64 q2, .int .i64 q3] 23 (0, 0)) from by rw [hW]; exact heap_alloc_eq _ rfl)
  clear hW n
  refine sanity_any _ _ HKW.out ?_
  intro w2 n
  replace HKW := Lib.hid (HKW.out.kept n (fun _ _ e => e))
  replace NX := Lib.hid (NX.out.trans n)
  replace HIl := Lib.hid ((HIl.out.kept n nof).hi n.size)
  replace HRW := Lib.hid ((HRW.out.kept n nof))
  replace HB := Lib.hid (n.heap HB.out id)
  clear n
  go_upto_region 2 with (fail)
  refine wp_named ?_
  intro W3 hW
  have n : Nw w2 W3 := by rw [hW]; first | exact Ch.refl _ _ | exact (Ch.refl _ _).alloc _
  replace HKW := Lib.hid (HKW.out.kept n (fun _ _ e => e))
  replace NX := Lib.hid (NX.out.trans n)
  replace HIl := Lib.hid ((HIl.out.kept n nof).hi n.size)
  replace HRW := Lib.hid ((HRW.out.kept n nof))
  replace HB := Lib.hid (n.heap HB.out id)
  clear hW n
  refine wp_region_V (F := fun w' => True) (opsOf Tryz.f4 2) 18 18 (by kernel_rfl) (by kernel_rfl) (by kernel_rfl) (fun w w' h n => True.intro) True.intro (fun HOPS HCL hHeld => ?_)
  refine wpU_named ?_
  intro W4 hW
  try rw [← hW] at hHeld
  have n : Nw W3 W4 := by rw [hW]; exact (Ch.refl _ _).drew
  replace HKW := Lib.hid (HKW.out.kept n (fun _ _ e => e))
  replace NX := Lib.hid (NX.out.trans n)
  replace HIl := Lib.hid ((HIl.out.kept n nof).hi n.size)
  replace HRW := Lib.hid ((HRW.out.kept n nof))
  replace HB := Lib.hid (n.heap HB.out id)
  clear hW n
  first | (refine wpU_takeB (i := 0) (v := ?_) HOPS rfl (by kernel_rfl) (fun _ _ _ h => h) HCL (goes_read (by rfl) ?hy) ?_; case hy => (intro w hSw; (try dsimp only at hSw); go_simp; (try with_reducible rfl))) | (refine wpU_takeB (i := 0) (v := _) HOPS rfl (by kernel_rfl) (fun _ _ _ h => h) HCL (goes_not (by rfl)) ?_)
  try simp only [Act.put, List.getElem_toArray, List.getElem_cons_succ, List.getElem_cons_zero, List.setIfInBounds_toArray, List.set_cons_zero, List.set_cons_succ]
  first | (refine wpU_takeB (i := 1) (v := ?_) HOPS rfl (by kernel_rfl) (fun _ _ _ h => h) HCL (goes_read (by rfl) ?hy) ?_; case hy => (intro w hSw; (try dsimp only at hSw); go_simp; (try with_reducible rfl))) | (refine wpU_takeB (i := 1) (v := _) HOPS rfl (by kernel_rfl) (fun _ _ _ h => h) HCL (goes_not (by rfl)) ?_)
  try simp only [Act.put, List.getElem_toArray, List.getElem_cons_succ, List.getElem_cons_zero, List.setIfInBounds_toArray, List.set_cons_zero, List.set_cons_succ]
  first | (refine wpU_takeB (i := 2) (v := ?_) HOPS rfl (by kernel_rfl) (fun _ _ _ h => h) HCL (goes_read (by rfl) ?hy) ?_; case hy => (intro w hSw; (try dsimp only at hSw); go_simp; (try with_reducible rfl))) | (refine wpU_takeB (i := 2) (v := _) HOPS rfl (by kernel_rfl) (fun _ _ _ h => h) HCL (goes_not (by rfl)) ?_)
  try simp only [Act.put, List.getElem_toArray, List.getElem_cons_succ, List.getElem_cons_zero, List.setIfInBounds_toArray, List.set_cons_zero, List.set_cons_succ]
  first | (refine wpU_takeB (i := 3) (v := ?_) HOPS rfl (by kernel_rfl) (fun _ _ _ h => h) HCL (goes_read (by rfl) ?hy) ?_; case hy => (intro w hSw; (try dsimp only at hSw); go_simp; (try with_reducible rfl))) | (refine wpU_takeB (i := 3) (v := _) HOPS rfl (by kernel_rfl) (fun _ _ _ h => h) HCL (goes_not (by rfl)) ?_)
  try simp only [Act.put, List.getElem_toArray, List.getElem_cons_succ, List.getElem_cons_zero, List.setIfInBounds_toArray, List.set_cons_zero, List.set_cons_succ]
  first | (refine wpU_takeB (i := 4) (v := ?_) HOPS rfl (by kernel_rfl) (fun _ _ _ h => h) HCL (goes_read (by rfl) ?hy) ?_; case hy => (intro w hSw; (try dsimp only at hSw); go_simp; (try with_reducible rfl))) | (refine wpU_takeB (i := 4) (v := _) HOPS rfl (by kernel_rfl) (fun _ _ _ h => h) HCL (goes_not (by rfl)) ?_)
  try simp only [Act.put, List.getElem_toArray, List.getElem_cons_succ, List.getElem_cons_zero, List.setIfInBounds_toArray, List.set_cons_zero, List.set_cons_succ]
  first | (refine wpU_takeB (i := 5) (v := ?_) HOPS rfl (by kernel_rfl) (fun _ _ _ h => h) HCL (goes_read (by rfl) ?hy) ?_; case hy => (intro w hSw; (try dsimp only at hSw); go_simp; (try with_reducible rfl))) | (refine wpU_takeB (i := 5) (v := _) HOPS rfl (by kernel_rfl) (fun _ _ _ h => h) HCL (goes_not (by rfl)) ?_)
  try simp only [Act.put, List.getElem_toArray, List.getElem_cons_succ, List.getElem_cons_zero, List.setIfInBounds_toArray, List.set_cons_zero, List.set_cons_succ]
  first | (refine wpU_takeB (i := 6) (v := ?_) HOPS rfl (by kernel_rfl) (fun _ _ _ h => h) HCL (goes_read (by rfl) ?hy) ?_; case hy => (intro w hSw; (try dsimp only at hSw); go_simp; (try with_reducible rfl))) | (refine wpU_takeB (i := 6) (v := _) HOPS rfl (by kernel_rfl) (fun _ _ _ h => h) HCL (goes_not (by rfl)) ?_)
  try simp only [Act.put, List.getElem_toArray, List.getElem_cons_succ, List.getElem_cons_zero, List.setIfInBounds_toArray, List.set_cons_zero, List.set_cons_succ]
  first | (refine wpU_takeB (i := 7) (v := ?_) HOPS rfl (by kernel_rfl) (fun _ _ _ h => h) HCL (goes_read (by rfl) ?hy) ?_; case hy => (intro w hSw; (try dsimp only at hSw); go_simp; (try with_reducible rfl))) | (refine wpU_takeB (i := 7) (v := _) HOPS rfl (by kernel_rfl) (fun _ _ _ h => h) HCL (goes_not (by rfl)) ?_)
  try simp only [Act.put, List.getElem_toArray, List.getElem_cons_succ, List.getElem_cons_zero, List.setIfInBounds_toArray, List.set_cons_zero, List.set_cons_succ]
  first | (refine wpU_takeB (i := 8) (v := ?_) HOPS rfl (by kernel_rfl) (fun _ _ _ h => h) HCL (goes_read (by rfl) ?hy) ?_; case hy => (intro w hSw; (try dsimp only at hSw); go_simp; (try with_reducible rfl))) | (refine wpU_takeB (i := 8) (v := _) HOPS rfl (by kernel_rfl) (fun _ _ _ h => h) HCL (goes_not (by rfl)) ?_)
  try simp only [Act.put, List.getElem_toArray, List.getElem_cons_succ, List.getElem_cons_zero, List.setIfInBounds_toArray, List.set_cons_zero, List.set_cons_succ]
  first | (refine wpU_takeB (i := 9) (v := ?_) HOPS rfl (by kernel_rfl) (fun _ _ _ h => h) HCL (goes_read (by rfl) ?hy) ?_; case hy => (intro w hSw; (try dsimp only at hSw); go_simp; (try with_reducible rfl))) | (refine wpU_takeB (i := 9) (v := _) HOPS rfl (by kernel_rfl) (fun _ _ _ h => h) HCL (goes_not (by rfl)) ?_)
  try simp only [Act.put, List.getElem_toArray, List.getElem_cons_succ, List.getElem_cons_zero, List.setIfInBounds_toArray, List.set_cons_zero, List.set_cons_succ]
  first | (refine wpU_takeB (i := 10) (v := ?_) HOPS rfl (by kernel_rfl) (fun _ _ _ h => h) HCL (goes_read (by rfl) ?hy) ?_; case hy => (intro w hSw; (try dsimp only at hSw); go_simp; (try with_reducible rfl))) | (refine wpU_takeB (i := 10) (v := _) HOPS rfl (by kernel_rfl) (fun _ _ _ h => h) HCL (goes_not (by rfl)) ?_)
  try simp only [Act.put, List.getElem_toArray, List.getElem_cons_succ, List.getElem_cons_zero, List.setIfInBounds_toArray, List.set_cons_zero, List.set_cons_succ]
  first | (refine wpU_takeB (i := 11) (v := ?_) HOPS rfl (by kernel_rfl) (fun _ _ _ h => h) HCL (goes_read (by rfl) ?hy) ?_; case hy => (intro w hSw; (try dsimp only at hSw); go_simp; (try with_reducible rfl))) | (refine wpU_takeB (i := 11) (v := _) HOPS rfl (by kernel_rfl) (fun _ _ _ h => h) HCL (goes_not (by rfl)) ?_)
  try simp only [Act.put, List.getElem_toArray, List.getElem_cons_succ, List.getElem_cons_zero, List.setIfInBounds_toArray, List.set_cons_zero, List.set_cons_succ]
  first | (refine wpU_takeB (i := 12) (v := ?_) HOPS rfl (by kernel_rfl) (fun _ _ _ h => h) HCL (goes_read (by rfl) ?hy) ?_; case hy => (intro w hSw; (try dsimp only at hSw); go_simp; (try with_reducible rfl))) | (refine wpU_takeB (i := 12) (v := _) HOPS rfl (by kernel_rfl) (fun _ _ _ h => h) HCL (goes_not (by rfl)) ?_)
  try simp only [Act.put, List.getElem_toArray, List.getElem_cons_succ, List.getElem_cons_zero, List.setIfInBounds_toArray, List.set_cons_zero, List.set_cons_succ]
  first | (refine wpU_takeB (i := 13) (v := ?_) HOPS rfl (by kernel_rfl) (fun _ _ _ h => h) HCL (goes_read (by rfl) ?hy) ?_; case hy => (intro w hSw; (try dsimp only at hSw); go_simp; (try with_reducible rfl))) | (refine wpU_takeB (i := 13) (v := _) HOPS rfl (by kernel_rfl) (fun _ _ _ h => h) HCL (goes_not (by rfl)) ?_)
  try simp only [Act.put, List.getElem_toArray, List.getElem_cons_succ, List.getElem_cons_zero, List.setIfInBounds_toArray, List.set_cons_zero, List.set_cons_succ]
  first | (refine wpU_takeB (i := 14) (v := ?_) HOPS rfl (by kernel_rfl) (fun _ _ _ h => h) HCL (goes_read (by rfl) ?hy) ?_; case hy => (intro w hSw; (try dsimp only at hSw); go_simp; (try with_reducible rfl))) | (refine wpU_takeB (i := 14) (v := _) HOPS rfl (by kernel_rfl) (fun _ _ _ h => h) HCL (goes_not (by rfl)) ?_)
  try simp only [Act.put, List.getElem_toArray, List.getElem_cons_succ, List.getElem_cons_zero, List.setIfInBounds_toArray, List.set_cons_zero, List.set_cons_succ]
  first | (refine wpU_takeB (i := 15) (v := ?_) HOPS rfl (by kernel_rfl) (fun _ _ _ h => h) HCL (goes_read (by rfl) ?hy) ?_; case hy => (intro w hSw; (try dsimp only at hSw); go_simp; (try with_reducible rfl))) | (refine wpU_takeB (i := 15) (v := _) HOPS rfl (by kernel_rfl) (fun _ _ _ h => h) HCL (goes_not (by rfl)) ?_)
  try simp only [Act.put, List.getElem_toArray, List.getElem_cons_succ, List.getElem_cons_zero, List.setIfInBounds_toArray, List.set_cons_zero, List.set_cons_succ]
  first | (refine wpU_takeB (i := 16) (v := ?_) HOPS rfl (by kernel_rfl) (fun _ _ _ h => h) HCL (goes_read (by rfl) ?hy) ?_; case hy => (intro w hSw; (try dsimp only at hSw); go_simp; (try with_reducible rfl))) | (refine wpU_takeB (i := 16) (v := _) HOPS rfl (by kernel_rfl) (fun _ _ _ h => h) HCL (goes_not (by rfl)) ?_)
  try simp only [Act.put, List.getElem_toArray, List.getElem_cons_succ, List.getElem_cons_zero, List.setIfInBounds_toArray, List.set_cons_zero, List.set_cons_succ]
  first | (refine wpU_takeB (i := 17) (v := ?_) HOPS rfl (by kernel_rfl) (fun _ _ _ h => h) HCL (goes_read (by rfl) ?hy) ?_; case hy => (intro w hSw; (try dsimp only at hSw); go_simp; (try with_reducible rfl))) | (refine wpU_takeB (i := 17) (v := _) HOPS rfl (by kernel_rfl) (fun _ _ _ h => h) HCL (goes_not (by rfl)) ?_)
  try simp only [Act.put, List.getElem_toArray, List.getElem_cons_succ, List.getElem_cons_zero, List.setIfInBounds_toArray, List.set_cons_zero, List.set_cons_succ]
  refine wpU_done (by kernel_rfl) (fun w5 hle => ?_) _
  have n := (hle.ahead (by kernel_rfl)).1
  replace HKW := Lib.hid (HKW.out.kept n (fun _ _ e => e))
  replace NX := Lib.hid (NX.out.trans n)
  replace HIl := Lib.hid ((HIl.out.kept n nof).hi n.size)
  replace HRW := Lib.hid ((HRW.out.kept n nof))
  replace HB := Lib.hid (n.heap HB.out id)
  clear n
  clear HOPS HCL hle
  repeat clear hHeld
  go_upto_region 3 with (fail)
  try rw [show (min (s.size : Int) 60).toNat = ms from by omega]
  obtain ⟨S, hS⟩ : ∃ S, s.extract 0 ms = S := ⟨_, rfl⟩
  have hS60 : S.size ≤ 60 := by rw [← hS, ByteArray.size_extract]; omega
  rw [hS]
  clear hS ems mas mbs ms60
  go_wp2_with (go_at_call 19; fail)
  refine Calls_nm ?_
  intro W6 hW
  have n : Nw w5 W6 := by rw [hW]; first | exact Ch.refl _ _ | exact (Ch.refl _ _).alloc _ | exact ((Ch.refl _ _).alloc _).alloc _
  replace HKW := Lib.hid (HKW.out.kept n (fun _ _ e => e))
  replace NX := Lib.hid (NX.out.trans n)
  replace HIl := Lib.hid ((HIl.out.kept n nof).hi n.size)
  replace HRW := Lib.hid ((HRW.out.kept n nof))
  replace HB := Lib.hid (n.heap HB.out id)
  clear hW n
  refine made_any 5 _ tl _ _ HIl.out (by omega) ?_
  intro w7 xp p hrow hnil hmade n
  replace HKW := Lib.hid (HKW.out.kept n (fun _ _ e => e))
  replace NX := Lib.hid (NX.out.trans n)
  replace HIl := Lib.hid ((HIl.out.kept n nof).hi n.size)
  replace HRW := Lib.hid ((HRW.out.kept n nof))
  replace HB := Lib.hid (n.heap HB.out id)
  clear n
  have HOp := Lib.hid (show ORow w7 W6.heap.size xp p from hrow)
  have HMp := Lib.hid hmade
  have hpp := made_len hmade
  have HEp := Lib.hid hnil
  obtain ⟨kp, dp, rp, hf⟩ := facts_of hmade
  have kap := hf.k0
  have kbp := hf.k1
  have dbp := hf.d8
  have rbp := hf.r64
  have HFp := Lib.hid hf
  clear hf hmade hnil
  obtain ⟨Ap, cp, ep⟩ := hrow.form
  subst ep
  clear hrow
  have kHB0 : w7.cell? ⟨w.heap.size, 0, none⟩ = some (.int .i64 q0) := by rw [cell_of HB.out]; rfl
  have kHB1 : w7.cell? ⟨w.heap.size, 1, none⟩ = some (.int .i64 q1) := by rw [cell_of HB.out]; rfl
  have kHB2 : w7.cell? ⟨w.heap.size, 2, none⟩ = some (.int .i64 q2) := by rw [cell_of HB.out]; rfl
  have kHB3 : w7.cell? ⟨w.heap.size, 3, none⟩ = some (.int .i64 q3) := by rw [cell_of HB.out]; rfl
  go_wp2_with (go_at_call 19; fail)
  clear kHB0 kHB1 kHB2 kHB3
  refine Calls_nm ?_
  intro W8 hW
  have n : Nw w7 W8 := by rw [hW]; first | exact Ch.refl _ _ | exact (Ch.refl _ _).alloc _ | exact ((Ch.refl _ _).alloc _).alloc _
  replace HKW := Lib.hid (HKW.out.kept n (fun _ _ e => e))
  replace NX := Lib.hid (NX.out.trans n)
  replace HIl := Lib.hid ((HIl.out.kept n nof).hi n.size)
  replace HRW := Lib.hid ((HRW.out.kept n nof))
  replace HB := Lib.hid (n.heap HB.out id)
  replace HOp := Lib.hid (HOp.out.ch' n (fun _ _ e => e))
  clear hW n
  refine oddP_any p _ _ q0 q1 q2 q3 _ _ HOp.out HEp.out (by omega) HQ.out (made_num HMp.out (by omega)) ?_
  intro w9 xo po hrow hlen9 hnum9 n
  replace HKW := Lib.hid (HKW.out.kept n (fun _ _ e => e))
  replace NX := Lib.hid (NX.out.trans n)
  replace HIl := Lib.hid ((HIl.out.kept n nof).hi n.size)
  replace HRW := Lib.hid ((HRW.out.kept n nof))
  replace HB := Lib.hid (n.heap HB.out id)
  replace HOp := Lib.hid (HOp.out.ch' n (fun _ _ e => e))
  obtain ⟨Ao, co, eo⟩ := hrow.form
  subst eo
  have HOo := Lib.hid (show ORow w9 W8.heap.size (.slice Ao po.length co) po from hrow)
  have HNo := Lib.hid hnum9
  clear hrow hnum9 n
  go_wp2_with (fail)
  refine wp_named ?_
  intro W10 hW
  have n : Nw w9 W10 := by rw [hW]; first | exact Ch.refl _ _ | exact (Ch.refl _ _).alloc _ | exact ((Ch.refl _ _).alloc _).alloc _
  replace HKW := Lib.hid (HKW.out.kept n (fun _ _ e => e))
  replace NX := Lib.hid (NX.out.trans n)
  replace HIl := Lib.hid ((HIl.out.kept n nof).hi n.size)
  replace HRW := Lib.hid ((HRW.out.kept n nof))
  replace HB := Lib.hid (n.heap HB.out id)
  replace HOp := Lib.hid (HOp.out.ch' n (fun _ _ e => e))
  replace HOo := Lib.hid (HOo.out.ch' n (fun _ _ e => e))
  have HG := Lib.hid (show W10.heap[w9.heap.size]? = some (.cells #[.slice Ap p.length cp, .slice Ao po.length co, .slice Ar tr.length cr] 24 (0, 0)) from by rw [hW]; exact heap_alloc_eq _ rfl)
  clear hW n
  have HPR := Lib.hid (show Progs W10 W10.heap.size #[.slice Ap p.length cp, .slice Ao po.length co, .slice Ar tr.length cr] from progs_of (ORow.prog (L := p) HOp.out) (ORow.prog (L := po) HOo.out) (HRW.out.hi (by have := NX.out.size; omega)) rfl rfl rfl (by omega) (by omega) (by omega) (made_num HMp.out (by omega)) HNo.out HRN.out)
  clear HRW HOo HIl
  clear HNo HRN hlen9
  have hWL : 5 ≤ W10.heap.size := by have := NX.out.size; omega
  obtain ⟨VS, hVS⟩ : ∃ x : Array Value, #[.slice Ap p.length cp, .slice Ao po.length co, .slice Ar tr.length cr] = x := ⟨_, rfl⟩
  rw [hVS] at HG HPR
  clear hVS
  go_loopw [42] (fun s42 wr => ∃ i : Nat, s42 = .int .i64 i ∧ i ≤ 3 ∧ Hid (Nw W10 wr)) (fun s42 _ => 3 - (intOf s42).toNat)
  case atStart => exact ⟨0, rfl, Nat.zero_le _, Lib.hid (Ch.refl _ _)⟩
  case round =>
    obtain ⟨i, rfl, hi, HWN⟩ := hrel
    obtain ⟨wi, hwi⟩ : ∃ W : World, W = wr := ⟨_, rfl⟩
    subst hwi
    have n := HWN.out
    replace HKW := Lib.hid (HKW.out.kept n (fun _ _ e => e))
    replace NX := Lib.hid (NX.out.trans n)
    replace HB := Lib.hid (n.heap HB.out id)
    replace HOp := Lib.hid (HOp.out.ch' n (fun _ _ e => e))
    replace HG := Lib.hid (n.heap HG.out id)
    replace HPR := Lib.hid (HPR.out.kept n nof)
    clear n
    have i0 : (0 : Int) ≤ (i : Int) := by omega
    by_cases hlt : i < 3
    · as_aux_lemma =>
      have i1 : (i : Int) < 3 := by omega
      obtain ⟨AX, nX, cX, LX, hvx, enX, hpx, hlx, hnx⟩ := HPR.out i hlt
      subst enX
      have HX := Lib.hid hpx
      have HNX := Lib.hid hnx
      have cgx : wi.cell? ⟨w9.heap.size, i, none⟩ = some (.slice AX LX.length cX) := by rw [cell_of HG.out]; exact hvx
      clear hvx hpx hnx
      go_wp2_with (go_at_call 19; fail)
      clear cgx
      refine Calls_nm ?_
      intro W11 hW
      have n : Nw wi W11 := by rw [hW]; first | exact Ch.refl _ _ | exact (Ch.refl _ _).alloc _ | exact ((Ch.refl _ _).alloc _).alloc _
      replace HKW := Lib.hid (HKW.out.kept n (fun _ _ e => e))
      replace NX := Lib.hid (NX.out.trans n)
      replace HB := Lib.hid (n.heap HB.out id)
      replace HOp := Lib.hid (HOp.out.ch' n (fun _ _ e => e))
      replace HG := Lib.hid (n.heap HG.out id)
      replace HPR := Lib.hid (HPR.out.kept n nof)
      replace HWN := Lib.hid (HWN.out.trans n)
      replace HX := Lib.hid (HX.out.kept n nof)
      clear hW n
      refine text_any W10.heap.size LX _ _ _ HX.out (by have := HWN.out.size; omega) HKW.out (by omega) HNX.out ?_
      intro w12 n
      replace HKW := Lib.hid (HKW.out.kept n (fun _ _ e => e))
      replace NX := Lib.hid (NX.out.trans n)
      replace HB := Lib.hid (n.heap HB.out id)
      replace HOp := Lib.hid (HOp.out.ch' n (fun _ _ e => e))
      replace HG := Lib.hid (n.heap HG.out id)
      replace HPR := Lib.hid (HPR.out.kept n nof)
      replace HWN := Lib.hid (HWN.out.trans n)
      replace HX := Lib.hid (HX.out.kept n nof)
      clear n
      obtain ⟨TB, hTB⟩ : ∃ X, (⟨(textM LX).toArray⟩ : ByteArray) = X := ⟨_, rfl⟩
      have HTB := Lib.hid hTB
      rw [hTB]
      clear hTB
      go_wp2_with (go_at_call 19; fail)
      refine Calls_nm ?_
      intro W13 hW
      have n : Nw w12 W13 := by rw [hW]; first | exact Ch.refl _ _ | exact (Ch.refl _ _).alloc _ | exact ((Ch.refl _ _).alloc _).alloc _
      replace HKW := Lib.hid (HKW.out.kept n (fun _ _ e => e))
      replace NX := Lib.hid (NX.out.trans n)
      replace HB := Lib.hid (n.heap HB.out id)
      replace HOp := Lib.hid (HOp.out.ch' n (fun _ _ e => e))
      replace HG := Lib.hid (n.heap HG.out id)
      replace HPR := Lib.hid (HPR.out.kept n nof)
      replace HWN := Lib.hid (HWN.out.trans n)
      replace HX := Lib.hid (HX.out.kept n nof)
      clear hW n
      refine rtext_any W10.heap.size LX _ _ _ HX.out (by have := HWN.out.size; omega) (by omega) HNX.out ?_
      intro w14 n
      replace HKW := Lib.hid (HKW.out.kept n (fun _ _ e => e))
      replace NX := Lib.hid (NX.out.trans n)
      replace HB := Lib.hid (n.heap HB.out id)
      replace HOp := Lib.hid (HOp.out.ch' n (fun _ _ e => e))
      replace HG := Lib.hid (n.heap HG.out id)
      replace HPR := Lib.hid (HPR.out.kept n nof)
      replace HWN := Lib.hid (HWN.out.trans n)
      replace HX := Lib.hid (HX.out.kept n nof)
      clear n
      rw [HTB.out]
      have te : (TB.toList != TB.toList) = false := by simp
      go_wp2_with (fail)
      exact ⟨⟨i + 1, by go_num, by omega, HWN⟩, by simp [intOf]; omega⟩
    · as_aux_lemma =>
      have i1 : ¬ (i : Int) < 3 := by omega
      go_wp2_with (go_at_call 19; fail)
      refine Calls_nm ?_
      intro W15 hW
      have n : Nw wi W15 := by rw [hW]; first | exact Ch.refl _ _ | exact (Ch.refl _ _).alloc _ | exact ((Ch.refl _ _).alloc _).alloc _
      replace HKW := Lib.hid (HKW.out.kept n (fun _ _ e => e))
      replace NX := Lib.hid (NX.out.trans n)
      replace HB := Lib.hid (n.heap HB.out id)
      replace HOp := Lib.hid (HOp.out.ch' n (fun _ _ e => e))
      replace HG := Lib.hid (n.heap HG.out id)
      replace HPR := Lib.hid (HPR.out.kept n nof)
      replace HWN := Lib.hid (HWN.out.trans n)
      clear hW n
      refine parse_any S _ _ (by omega) HKW.out ?_
      have hpl := parseC_len2 S.data.toList
      have hrp := rParse_eq S.data.toList
      obtain ⟨P9, hP9⟩ : ∃ x, (parseC S.data.toList).1 = x := ⟨_, rfl⟩
      obtain ⟨b9, hb9⟩ : ∃ x, (parseC S.data.toList).2 = x := ⟨_, rfl⟩
      have hr1 : (rParseM S.data.toList).1 = P9 := by rw [hrp]; exact hP9
      have hr2 : (rParseM S.data.toList).2 = b9 := by rw [hrp]; exact hb9
      rw [hP9] at hpl
      rw [hP9, hb9]
      clear hP9 hb9 hrp
      have HR1 := Lib.hid hr1
      have HR2 := Lib.hid hr2
      clear hr1 hr2
      have hsl : S.data.toList.length = S.size := by simp
      rw [hsl] at hpl
      clear hsl
      intro w16 xr hr n
      replace HKW := Lib.hid (HKW.out.kept n (fun _ _ e => e))
      replace NX := Lib.hid (NX.out.trans n)
      replace HB := Lib.hid (n.heap HB.out id)
      replace HOp := Lib.hid (HOp.out.ch' n (fun _ _ e => e))
      replace HG := Lib.hid (n.heap HG.out id)
      replace HPR := Lib.hid (HPR.out.kept n nof)
      replace HWN := Lib.hid (HWN.out.trans n)
      clear n
      have HRR := Lib.hid (show ORow w16 _ xr P9 from hr)
      obtain ⟨Ar9, cr9, er⟩ := hr.form
      subst er
      clear hr
      go_wp2_with (go_at_call 19; fail)
      refine Calls_nm ?_
      intro W17 hW
      have n : Nw w16 W17 := by rw [hW]; first | exact Ch.refl _ _ | exact (Ch.refl _ _).alloc _ | exact ((Ch.refl _ _).alloc _).alloc _
      replace HKW := Lib.hid (HKW.out.kept n (fun _ _ e => e))
      replace NX := Lib.hid (NX.out.trans n)
      replace HB := Lib.hid (n.heap HB.out id)
      replace HOp := Lib.hid (HOp.out.ch' n (fun _ _ e => e))
      replace HG := Lib.hid (n.heap HG.out id)
      replace HPR := Lib.hid (HPR.out.kept n nof)
      replace HWN := Lib.hid (HWN.out.trans n)
      replace HRR := Lib.hid (HRR.out.ch' n (fun _ _ e => e))
      clear hW n
      refine rparse_any S _ _ (by omega) ?_
      rw [HR1.out, HR2.out]
      intro w18 xs hr n
      replace HKW := Lib.hid (HKW.out.kept n (fun _ _ e => e))
      replace NX := Lib.hid (NX.out.trans n)
      replace HB := Lib.hid (n.heap HB.out id)
      replace HOp := Lib.hid (HOp.out.ch' n (fun _ _ e => e))
      replace HG := Lib.hid (n.heap HG.out id)
      replace HPR := Lib.hid (HPR.out.kept n nof)
      replace HWN := Lib.hid (HWN.out.trans n)
      replace HRR := Lib.hid (HRR.out.ch' n (fun _ _ e => e))
      clear n
      have HRS := Lib.hid (show ORow w18 _ xs P9 from hr)
      obtain ⟨As9, cs9, er⟩ := hr.form
      subst er
      clear hr
      have eb : (b9 == b9) = true := by simp
      go_wp2_with (go_at_call 19; fail)
      refine Calls_nm ?_
      intro W19 hW
      have n : Nw w18 W19 := by rw [hW]; first | exact Ch.refl _ _ | exact (Ch.refl _ _).alloc _ | exact ((Ch.refl _ _).alloc _).alloc _
      replace HKW := Lib.hid (HKW.out.kept n (fun _ _ e => e))
      replace NX := Lib.hid (NX.out.trans n)
      replace HB := Lib.hid (n.heap HB.out id)
      replace HOp := Lib.hid (HOp.out.ch' n (fun _ _ e => e))
      replace HG := Lib.hid (n.heap HG.out id)
      replace HPR := Lib.hid (HPR.out.kept n nof)
      replace HWN := Lib.hid (HWN.out.trans n)
      replace HRR := Lib.hid (HRR.out.ch' n (fun _ _ e => e))
      replace HRS := Lib.hid (HRS.out.ch' n (fun _ _ e => e))
      clear hW n
      refine sameO_any P9 P9 _ _ _ _ _ _ (CRow.isC HRR.out) (CRow.isC HRS.out) (by omega) (by omega) ?_
      intro w20 n
      replace HKW := Lib.hid (HKW.out.kept n (fun _ _ e => e))
      replace NX := Lib.hid (NX.out.trans n)
      replace HB := Lib.hid (n.heap HB.out id)
      replace HOp := Lib.hid (HOp.out.ch' n (fun _ _ e => e))
      replace HG := Lib.hid (n.heap HG.out id)
      replace HPR := Lib.hid (HPR.out.kept n nof)
      replace HWN := Lib.hid (HWN.out.trans n)
      replace HRR := Lib.hid (HRR.out.ch' n (fun _ _ e => e))
      replace HRS := Lib.hid (HRS.out.ch' n (fun _ _ e => e))
      clear n
      rw [decide_eq_true rfl]
      go_wp2
      exact HR.out _ NX.out

end Go.Proofs.YtdpbdcaefdcooaaGreatDoor
