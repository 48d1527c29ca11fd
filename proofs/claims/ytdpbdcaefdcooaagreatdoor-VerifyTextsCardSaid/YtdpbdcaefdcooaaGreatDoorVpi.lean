/-
  verify.Parse: the program of a text.
-/
import Derived.Test.YtdpbdcaefdcooaaGreatDoorVtx
import Derived.Test.YtdpbdcaefdcooaaGreatDoorMo8
namespace Go.Proofs.YtdpbdcaefdcooaaGreatDoor
open Go.RowKit
set_option linter.unusedVariables false
set_option linter.unusedSimpArgs false
set_option maxRecDepth 100000

theorem splitK_len (sep : List UInt8) : ∀ (k : Nat) (s x : List UInt8), x ∈ Lib.splitK sep 0 k s → x.length ≤ s.length
  | 0, s, x, h => by simp [Lib.splitK] at h; rw [h]; exact Nat.le_refl _
  | k + 1, s, x, h => by
    unfold Lib.splitK at h
    split at h
    · simp at h; rw [h]; exact Nat.le_refl _
    · rcases List.mem_cons.1 h with h | h
      · rw [h, List.length_take]; omega
      · have := splitK_len sep k _ x h
        rw [List.length_drop] at this
        omega
theorem splitK_cnt (sep : List UInt8) : ∀ (k : Nat) (s : List UInt8), 1 ≤ (Lib.splitK sep 0 k s).length ∧ (Lib.splitK sep 0 k s).length ≤ k + 1
  | 0, s => by simp [Lib.splitK]
  | k + 1, s => by
    unfold Lib.splitK
    split
    · simp
    · have := splitK_cnt sep k (s.drop ((Lib.index s sep).toNat + sep.length))
      rw [List.length_cons]
      omega
theorem split_cnt (s sep : List UInt8) : 1 ≤ (Lib.split s sep).length ∧ (Lib.split s sep).length ≤ s.length + 2 := by
  have h1 := splitK_cnt sep (Lib.count s sep) s
  have h2 := Lib.count_le s sep
  unfold Lib.split
  omega
theorem split_mem {s sep x : List UInt8} (h : x ∈ Lib.split s sep) : x.length ≤ s.length := splitK_len sep _ s x h
theorem opsOfL_app : ∀ (a b : List (List UInt8)), opsOfL (a ++ b) = match opsOfL a with
    | none => none
    | some p => match opsOfL b with
      | none => none
      | some q => some (p ++ q)
  | [], b => by
    simp only [List.nil_append, opsOfL]
    cases opsOfL b <;> rfl
  | x :: a, b => by
    rw [List.cons_append, opsOfL, opsOfL, opsOfL_app a b]
    cases opOf x with
    | none => rfl
    | some o =>
      simp only
      cases opsOfL a with
      | none => rfl
      | some p =>
        simp only
        cases opsOfL b <;> rfl
theorem opsOfL_next {ws : List (List UInt8)} {k : Nat} {x : List UInt8} {P : List VOp} {o : VOp} (h : opsOfL (ws.take k) = some P) (hx : ws[k]? = some x) (ho : opOf x = some o) : opsOfL (ws.take (k + 1)) = some (P ++ [o]) := by
  rw [List.take_add_one, hx, opsOfL_app, h]
  simp [opsOfL, ho]
theorem opsOfL_fail {ws : List (List UInt8)} {k : Nat} {x : List UInt8} {P : List VOp} (h : opsOfL (ws.take k) = some P) (hx : ws[k]? = some x) (ho : opOf x = none) : opsOfL ws = none := by
  have hk := (List.getElem?_eq_some_iff.1 hx)
  obtain ⟨hk1, hk2⟩ := hk
  have e : ws = ws.take k ++ (x :: ws.drop (k + 1)) := by
    rw [← hk2, ← List.drop_eq_getElem_cons hk1, List.take_append_drop]
  rw [e, opsOfL_app, h]
  simp [opsOfL, ho]
theorem atoiV_ok (s : List UInt8) : numOk (atoiV s) := by
  unfold atoiV numOk
  cases h : Lib.atoiAll s
  rotate_left
  · simp
  · simp only; unfold Lib.atoiSat; split <;> omega
  · rename_i v
    simp only
    unfold Lib.atoiAll at h
    split at h
    · cases h
    · simp only at h
      split at h
      · cases h
      · cases h
      · split at h
        · cases h
        · split at h
          · cases h
          · rename_i u _ h1 h2
            injection h with h
            split at h <;> omega
theorem fieldV_ok (l : List (List UInt8)) (i : Nat) : numOk (fieldV l i) := by
  unfold fieldV
  cases l[i]? with
  | none => simp [numOk]
  | some x => exact atoiV_ok x
theorem opOf_ok {x : List UInt8} {o : VOp} (h : opOf x = some o) : numOk o.2.1 ∧ numOk o.2.2 := by
  unfold opOf at h
  simp only at h
  split at h
  · cases h
  · cases h
    exact ⟨fieldV_ok _ _, fieldV_ok _ _⟩
theorem opsOfL_ok : ∀ {ws : List (List UInt8)} {P : List VOp}, opsOfL ws = some P → (∀ o ∈ P, numOk o.2.1 ∧ numOk o.2.2) ∧ P.length = ws.length
  | [], P, h => by simp only [opsOfL, Option.some.injEq] at h; subst h; simp
  | x :: ws, P, h => by
    unfold opsOfL at h
    cases ho : opOf x with
    | none => rw [ho] at h; cases h
    | some o =>
      rw [ho] at h
      simp only at h
      cases hq : opsOfL ws with
      | none => rw [hq] at h; cases h
      | some Q =>
        rw [hq] at h
        simp only [Option.some.injEq] at h
        subst h
        obtain ⟨h1, h2⟩ := opsOfL_ok hq
        refine ⟨fun y hy => ?_, by simp [h2]⟩
        rcases List.mem_cons.1 hy with rfl | hy
        · exact opOf_ok ho
        · exact h1 y hy
/-- A row of operations, as an argument. -/
theorem ORow.prog {w : World} {B : Nat} {v : Value} {L : List VOp} (h : ORow w B v L) : IsProg w w.heap.size v L := by
  rcases h.2 with ⟨h1, h2⟩ | ⟨g, cap, cur, hv, hb, hgg, hnc, hcm, hcs, ht⟩
  · have hL : L = [] := List.eq_nil_of_length_eq_zero h2
    subst hL
    exact ⟨none, 0, h1, Nat.zero_le _, by omega, fun i c n m hi => by cases hi⟩
  · refine ⟨_, cap, hv, hnc, by unfold maxLen at hcm; omega, fun i c n m hi => ?_⟩
    obtain ⟨q0, q1, q2⟩ := opC_at L i (c, n, m) hi
    subst hv
    have hil := (List.getElem?_eq_some_iff.1 hi).1
    have each : ∀ (j : Nat) (u : Value), (opC L)[j]? = some u → w.cell? ⟨g, j, none⟩ = some u := by
      intro j u hj
      rw [cell_of hgg, ← Array.getElem?_toList]
      rw [← ht, List.getElem?_take] at hj
      split at hj
      · exact hj
      · cases hj
    exact ⟨g, 0, lt_of_heap hgg, rfl, by rw [Nat.zero_add]; exact each _ _ q0, by rw [Nat.zero_add]; exact each _ _ q1, by rw [Nat.zero_add]; exact each _ _ q2⟩
theorem ba_beq (a b : List UInt8) : ((⟨a.toArray⟩ : ByteArray).toList == (⟨b.toArray⟩ : ByteArray).toList) = decide (a = b) := by
  rw [ByteArray.toList_eq, ByteArray.toList_eq, Bool.eq_iff_iff, beq_iff_eq, decide_eq_true_eq]

set_option maxHeartbeats 2000000 in
theorem parse1_any (a b : List UInt8) (p q : Bool) (x y : Int) (B g len cap : Nat) (w : World) (R : Ending → World → Prop) (hb : w.cell? ⟨B, 0, none⟩ = some (.slice (some ⟨g, 0, none⟩) len cap)) (h0 : 0 < len) (hg : w.cell? ⟨g, 0, none⟩ = some (.string ⟨b.toArray⟩))
    (hR : ∀ w', Nw w w' → R (.returned (.bool (decide (a = b)))) w') : Calls Tryz.prog 33 #[.agg #[.string ⟨a.toArray⟩, .bool p, .bool q, .int .i64 x, .int .i64 y], .pointer (some ⟨B, 0, none⟩)] w R := by
  have HR := Lib.hid hR
  clear hR
  have HB := Lib.hid hb
  have HG := Lib.hid hg
  clear hb hg
  have NX := Lib.hid (Ch.refl (fun _ => False) w)
  obtain ⟨SA, hSA⟩ : ∃ S, (⟨a.toArray⟩ : ByteArray) = S := ⟨_, rfl⟩
  obtain ⟨SB, hSB⟩ : ∃ S, (⟨b.toArray⟩ : ByteArray) = S := ⟨_, rfl⟩
  obtain ⟨z, hz⟩ : ∃ z, decide (a = b) = z := ⟨_, rfl⟩
  have e0 : (SA.toList == SB.toList) = z := by rw [← hSA, ← hSB, ba_beq, hz]
  rw [hSA]
  rw [hSB] at HG
  rw [hz] at HR
  clear hSA hSB hz
  have l0 : (0 : Int) < (len : Int) := by omega
  go_enter Tryz.func33, Tryz.ntmps33
  go_upto_region 1 with (fail)
  refine wp_named ?_
  intro W1 hW
  have n : Nw w W1 := by rw [hW]; exact (Ch.refl _ _).alloc _
  replace NX := Lib.hid (NX.out.trans n)
  replace HB := Lib.hid (n.cell HB.out id)
  replace HG := Lib.hid (n.cell HG.out id)
  have HK := Lib.hid (show W1.heap[w.heap.size]? = some (.cells #[.string SA, .bool p, .bool q, .int .i64 x, .int .i64 y] 66 (0, 0)) from by rw [hW]; exact heap_alloc_eq _ rfl)
  clear hW n
  refine wp_named ?_
  intro W2 hW
  have n : Nw W1 W2 := by rw [hW]; first | exact Ch.refl _ _ | exact (Ch.refl _ _).alloc _
  replace NX := Lib.hid (NX.out.trans n)
  replace HB := Lib.hid (n.cell HB.out id)
  replace HG := Lib.hid (n.cell HG.out id)
  replace HK := Lib.hid (n.heap HK.out id)
  clear hW n
  refine wp_region_V (F := fun w' => w'.cell? ⟨w.heap.size, 0, none⟩ = some (.string SA) ∧ w'.cell? ⟨B, 0, none⟩ = some (.slice (some ⟨g, 0, none⟩) len cap) ∧ w'.cell? ⟨g, 0, none⟩ = some (.string SB)) (opsOf Tryz.f33 1) 7 7 (by kernel_rfl) (by kernel_rfl) (by kernel_rfl) (fun w w' h n => ⟨n.cell h.1 id, n.cell h.2.1 id, n.cell h.2.2 id⟩) ⟨by show W2.cell? _ = _; rw [cell_of HK.out]; rfl, HB.out, HG.out⟩ (fun HOPS HCL hHeld => ?_)
  refine wpU_named ?_
  intro W3 hW
  try rw [← hW] at hHeld
  have n : Nw W2 W3 := by rw [hW]; exact (Ch.refl _ _).drew
  replace NX := Lib.hid (NX.out.trans n)
  replace HB := Lib.hid (n.cell HB.out id)
  replace HG := Lib.hid (n.cell HG.out id)
  replace HK := Lib.hid (n.heap HK.out id)
  clear hW n
  first | (refine wpU_takeB (i := 0) (v := ?_) HOPS rfl (by kernel_rfl) (fun _ _ _ h => h) HCL (goes_read (by rfl) ?hy) ?_; case hy => (intro w hSw; (try dsimp only at hSw); go_simp; (try with_reducible rfl))) | (refine wpU_takeB (i := 0) (v := _) HOPS rfl (by kernel_rfl) (fun _ _ _ h => h) HCL (goes_not (by rfl)) ?_)
  try simp only [Act.put, List.getElem_toArray, List.getElem_cons_succ, List.getElem_cons_zero, List.setIfInBounds_toArray, List.set_cons_zero, List.set_cons_succ]
  first | (refine wpU_takeB (i := 1) (v := ?_) HOPS rfl (by kernel_rfl) (fun _ _ _ h => h) HCL (goes_read (by rfl) ?hy) ?_; case hy => (intro w hSw; (try dsimp only at hSw); go_simp; (try with_reducible rfl))) | (refine wpU_takeB (i := 1) (v := _) HOPS rfl (by kernel_rfl) (fun _ _ _ h => h) HCL (goes_not (by rfl)) ?_)
  try simp only [Act.put, List.getElem_toArray, List.getElem_cons_succ, List.getElem_cons_zero, List.setIfInBounds_toArray, List.set_cons_zero, List.set_cons_succ]
  first | (refine wpU_takeB (i := 2) (v := ?_) HOPS rfl (by kernel_rfl) (fun _ _ _ h => h) HCL (goes_read (by rfl) ?hy) ?_; case hy => (intro w hSw; (try dsimp only at hSw); go_simp; (try with_reducible rfl))) | (refine wpU_takeB (i := 2) (v := _) HOPS rfl (by kernel_rfl) (fun _ _ _ h => h) HCL (goes_not (by rfl)) ?_)
  try simp only [Act.put, List.getElem_toArray, List.getElem_cons_succ, List.getElem_cons_zero, List.setIfInBounds_toArray, List.set_cons_zero, List.set_cons_succ]
  first | (refine wpU_takeB (i := 3) (v := ?_) HOPS rfl (by kernel_rfl) (fun _ _ _ h => h) HCL (goes_read (by rfl) ?hy) ?_; case hy => (intro w hSw; (try dsimp only at hSw); go_simp; (try with_reducible rfl))) | (refine wpU_takeB (i := 3) (v := _) HOPS rfl (by kernel_rfl) (fun _ _ _ h => h) HCL (goes_not (by rfl)) ?_)
  try simp only [Act.put, List.getElem_toArray, List.getElem_cons_succ, List.getElem_cons_zero, List.setIfInBounds_toArray, List.set_cons_zero, List.set_cons_succ]
  first | (refine wpU_takeB (i := 4) (v := ?_) HOPS rfl (by kernel_rfl) (fun _ _ _ h => h) HCL (goes_read (by rfl) ?hy) ?_; case hy => (intro w hSw; (try dsimp only at hSw); go_simp; (try with_reducible rfl))) | (refine wpU_takeB (i := 4) (v := _) HOPS rfl (by kernel_rfl) (fun _ _ _ h => h) HCL (goes_not (by rfl)) ?_)
  try simp only [Act.put, List.getElem_toArray, List.getElem_cons_succ, List.getElem_cons_zero, List.setIfInBounds_toArray, List.set_cons_zero, List.set_cons_succ]
  first | (refine wpU_takeB (i := 5) (v := ?_) HOPS rfl (by kernel_rfl) (fun _ _ _ h => h) HCL (goes_read (by rfl) ?hy) ?_; case hy => (intro w hSw; (try dsimp only at hSw); go_simp; (try with_reducible rfl))) | (refine wpU_takeB (i := 5) (v := _) HOPS rfl (by kernel_rfl) (fun _ _ _ h => h) HCL (goes_not (by rfl)) ?_)
  try simp only [Act.put, List.getElem_toArray, List.getElem_cons_succ, List.getElem_cons_zero, List.setIfInBounds_toArray, List.set_cons_zero, List.set_cons_succ]
  first | (refine wpU_takeB (i := 6) (v := ?_) HOPS rfl (by kernel_rfl) (fun _ _ _ h => h) HCL (goes_read (by rfl) ?hy) ?_; case hy => (intro w hSw; (try dsimp only at hSw); go_simp; (try with_reducible rfl))) | (refine wpU_takeB (i := 6) (v := _) HOPS rfl (by kernel_rfl) (fun _ _ _ h => h) HCL (goes_not (by rfl)) ?_)
  try simp only [Act.put, List.getElem_toArray, List.getElem_cons_succ, List.getElem_cons_zero, List.setIfInBounds_toArray, List.set_cons_zero, List.set_cons_succ]
  refine wpU_done (by kernel_rfl) (fun w4 hle => ?_) _
  have n := (hle.ahead (by kernel_rfl)).1
  replace NX := Lib.hid (NX.out.trans n)
  replace HB := Lib.hid (n.cell HB.out id)
  replace HG := Lib.hid (n.cell HG.out id)
  replace HK := Lib.hid (n.heap HK.out id)
  clear n
  clear HOPS HCL hle
  repeat clear hHeld
  go_wp2
  exact HR.out _ NX.out

set_option maxHeartbeats 4000000 in
theorem index_any (b : List UInt8) (B g len cap : Nat) (w : World) (R : Ending → World → Prop) (hw : WOk w) (hb : w.cell? ⟨B, 0, none⟩ = some (.slice (some ⟨g, 0, none⟩) len cap)) (h0 : 0 < len) (hg : w.cell? ⟨g, 0, none⟩ = some (.string ⟨b.toArray⟩))
    (hR : ∀ w', Nw w w' → R (.returned (.int .i64 (codeOf b))) w') : Calls Tryz.prog 32 #[.slice (some ⟨0, 0, none⟩) 16 16, .func (.func 33) #[] #[.pointer (some ⟨B, 0, none⟩)]] w R := by
  have HR := Lib.hid hR
  have HK := Lib.hid hw
  have HB := Lib.hid hb
  have HG := Lib.hid hg
  clear hR hw hb hg
  go_enter Tryz.func32, Tryz.ntmps32
  go_wp2_with (fail)
  go_loopw [8] (fun s8 wr => ∃ i : Nat, s8 = .int .i64 i ∧ i ≤ 16 ∧ Hid (codeOf b = codeFrom b (16 - i) i) ∧ Hid (Nw w wr)) (fun s8 _ => 16 - (intOf s8).toNat)
  case atStart => exact ⟨0, rfl, Nat.zero_le _, Lib.hid rfl, Lib.hid (Ch.refl _ _)⟩
  case round =>
    obtain ⟨i, rfl, hi, HC, HN⟩ := hrel
    have i0 : (0 : Int) ≤ (i : Int) := by omega
    by_cases hlt : i < 16
    · as_aux_lemma =>
      have i1 : (i : Int) < 16 := by omega
      have HKW := HK.out.kept HN.out (fun _ _ e => e)
      obtain ⟨a1, b1, x1, y1, d0, d1, d2, d3, d4⟩ := HKW.words i hlt
      have hz : 0 < wr.heap.size := by have := HKW.sz; omega
      have HC2 := Lib.hid (show codeFrom b (16 - i) i = if wordB i = b then (i : Int) else codeFrom b (16 - (i + 1)) (i + 1) from by rw [show 16 - i = (16 - (i + 1)) + 1 by omega, codeFrom])
      have HB1 := Lib.hid (HN.out.cell HB.out id)
      have HG1 := Lib.hid (HN.out.cell HG.out id)
      clear HKW
      go_wp2_with (go_at_call 33; fail)
      clear d0 d1 d2 d3 d4
      refine parse1_any (wordB (i : Int)) b a1 b1 x1 y1 B g len cap _ _ HB1.out h0 HG1.out ?_
      intro w2 n
      by_cases hwd : wordB (i : Int) = b
      · rw [decide_eq_true hwd]
        have e := HC2.out
        rw [if_pos hwd] at e
        have e2 := HC.out.trans e
        clear hwd e
        go_wp2
        rw [← e2]
        exact HR.out _ (HN.out.trans n)
      · rw [decide_eq_false hwd]
        have e := HC2.out
        rw [if_neg hwd] at e
        have e2 := Lib.hid (HC.out.trans e)
        clear hwd e
        go_wp2_with (fail)
        exact ⟨⟨i + 1, by go_num, by omega, e2, Lib.hid (HN.out.trans n)⟩, by simp [intOf]; omega⟩
    · as_aux_lemma =>
      have i1 : ¬ (i : Int) < 16 := by omega
      obtain rfl : i = 16 := by omega
      have e := HC.out
      rw [show codeFrom b (16 - 16) 16 = -1 from rfl] at e
      go_wp2
      have h9 := HR.out _ HN.out
      rw [e] at h9
      exact h9



end Go.Proofs.YtdpbdcaefdcooaaGreatDoor
