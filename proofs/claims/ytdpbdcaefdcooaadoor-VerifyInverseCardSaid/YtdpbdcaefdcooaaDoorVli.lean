/-
  The law VerifyInverse: contract.
-/
import Derived.Test.YtdpbdcaefdcooaaDoorVlw
import Derived.Test.YtdpbdcaefdcooaaDoorVr
namespace Go.Proofs.YtdpbdcaefdcooaaDoor
open Go.RowKit
set_option linter.unusedVariables false
set_option linter.unusedSimpArgs false
set_option maxRecDepth 100000

theorem inv_formed {p : List VOp} {o0 o1 o2 : Int} (h : MadeOk 6 p) : formedL (p ++ [((1 : Int), o0, (0 : Int)), (14, o1, 0), (15, o2, o0)]) = true := by
  refine formedL_iff.2 fun q hq => ?_
  rcases List.mem_append.1 hq with h1 | h1
  · exact made_formed h q h1
  · simp at h1
    rcases h1 with rfl | rfl | rfl <;> simp [vform]
theorem inv_num {p : List VOp} {o0 o1 o2 : Int} (h : MadeOk 6 p) (hn : numOk o0 ∧ numOk o1 ∧ numOk o2) : ∀ q ∈ p ++ [((1 : Int), o0, (0 : Int)), (14, o1, 0), (15, o2, o0)], numOk q.2.1 ∧ numOk q.2.2 := by
  obtain ⟨m0, m1, m2⟩ := hn
  have z : numOk 0 := by simp [numOk]
  intro q hq
  rcases List.mem_append.1 hq with h1 | h1
  · exact made_num h (by omega) q h1
  · simp at h1
    rcases h1 with rfl | rfl | rfl
    · exact ⟨m0, z⟩
    · exact ⟨m1, z⟩
    · exact ⟨m2, m0⟩
theorem row_heap {W : World} {g n : Nat} {T : TypeId} {cs : List Value} (h : W.heap[g]? = some (.cells cs.toArray T (0, 0))) (hl : cs.length = n * 3) (hn : n ≤ 1000000) : CRow W T 3 g (.slice (some ⟨g, 0, none⟩) n n) n cs :=
  ⟨hl, Or.inr ⟨g, n, cs.toArray, rfl, Nat.le_refl _, h, Nat.le_refl _, by unfold maxLen; omega, by simp [hl], by simp [← hl]⟩⟩
theorem text_size {L : List VOp} (hl : L.length ≤ 100) (hn : ∀ o ∈ L, numOk o.2.1 ∧ numOk o.2.2) : (textM L).length ≤ 6000 := by
  unfold textM
  split
  · have hall : ∀ x ∈ L.map textW, x.length ≤ 49 := fun x hx => by obtain ⟨q, hq, rfl⟩ := List.mem_map.1 hx; exact textW_len (hn q hq)
    have hm : (L.map textW).length ≤ 100 := by rw [List.length_map]; exact hl
    generalize L.map textW = X at hall hm
    match X, hall, hm with
    | [], _, _ => rw [Lib.join_nil]; simp
    | x :: X, h, hm =>
      rw [Lib.join_length]
      have := lens_le _ h
      simp only [List.length_cons, List.length_nil] at this hm ⊢
      omega
  · simp
theorem parseC_len (s : List UInt8) : (parseC s).1.length ≤ s.length + 2 ∧ ∀ o ∈ (parseC s).1, numOk o.2.1 ∧ numOk o.2.2 := by
  refine ⟨?_, parseC_num (fun ws P h => (opsOfL_ok h).1)⟩
  unfold parseC
  split
  · simp
  · cases h : opsOfL (Lib.split s [59, 32]) with
    | none => simp
    | some p =>
      have h1 := (opsOfL_ok h).2
      have h2 := (split_cnt s [59, 32]).2
      simp only
      split
      · simp only; omega
      · simp
theorem parseC_two (s : List UInt8) : (textM (parseC s).1 = s ∧ (parseC s).2 = true) ∨ ((parseC s).1 = [] ∧ (parseC s).2 = false) := by
  rcases parseC_cases s with ⟨h, h2⟩ | ⟨-, h2⟩ | ⟨-, h2, h3⟩
  · rw [h2, h]; exact Or.inl ⟨rfl, rfl⟩
  · rw [h2]; exact Or.inr ⟨rfl, rfl⟩
  · exact Or.inl ⟨h2, h3⟩

set_option maxHeartbeats 16000000 in
theorem law_inverse (lo : Nat) (v : Value) (l : List Int) (o0 o1 o2 : Int) (s : ByteArray) (w : World) (R : Ending → World → Prop) (hlo : lo ≤ w.heap.size) (hl : IsInts w lo v l) (ho : wfI o0 ∧ wfI o1 ∧ wfI o2) (hk : WOk w)
    (hR : ∀ w', Nw w w' → R (.returned (.bool true)) w') : Calls Tryd.prog 3 #[v, .agg #[.int .i64 o0, .int .i64 o1, .int .i64 o2], .string s] w R := by
  have HR := Lib.hid hR
  clear hR
  have HKW := Lib.hid hk
  clear hk
  have NX := Lib.hid (Ch.refl (fun _ => False) w)
  have hz5 := HKW.out.sz
  have HIl := Lib.hid (hl.hi hlo)
  obtain ⟨Al, cl, rfl, ⟨hcl, -⟩, -⟩ := hl
  obtain ⟨ml, eml⟩ : ∃ k : Nat, min (l.length : Int) 60 = (k : Int) := ⟨(min (l.length : Int) 60).toNat, by omega⟩
  have mal : (0 : Int) ≤ (ml : Int) := by omega
  have mbl : (ml : Int) ≤ (cl : Int) := by omega
  replace HIl := Lib.hid (HIl.out.takeN ml (by omega))
  obtain ⟨tl, htl⟩ : ∃ t, l.take ml = t := ⟨_, rfl⟩
  rw [htl] at HIl
  have hll : tl.length = ml := by rw [← htl, List.length_take]; omega
  clear htl
  rw [← hll] at eml mal mbl HIl
  clear hll
  obtain ⟨n0, n1, n2⟩ := ho
  have N0 : numOk o0 := by unfold wfI at n0; unfold numOk; omega
  have N1 : numOk o1 := by unfold wfI at n1; unfold numOk; omega
  have N2 : numOk o2 := by unfold wfI at n2; unfold numOk; omega
  have HON := Lib.hid (And.intro N0 (And.intro N1 N2))
  clear n0 n1 n2 N0 N1 N2
  obtain ⟨ms, ems⟩ : ∃ k : Nat, min (s.size : Int) 60 = (k : Int) := ⟨(min (s.size : Int) 60).toNat, by omega⟩
  have mas : (0 : Int) ≤ (ms : Int) := by omega
  have mbs : (ms : Int) ≤ (s.size : Int) := by omega
  have ms60 : ms ≤ 60 := by omega
  go_enter Tryd.func3, Tryd.ntmps3
  go_wp2_with (go_at_call 18; fail)
  refine Calls_nm ?_
  intro W1 hW
  have n : Nw w W1 := by rw [hW]; first | exact Ch.refl _ _ | exact (Ch.refl _ _).alloc _ | exact ((Ch.refl _ _).alloc _).alloc _
  replace HKW := Lib.hid (HKW.out.kept n (fun _ _ e => e))
  replace NX := Lib.hid (NX.out.trans n)
  replace HIl := Lib.hid ((HIl.out.kept n nof).hi n.size)
  have HB := Lib.hid (show W1.heap[w.heap.size]? = some (.cells #[.int .i64 o0, .int .i64 o1, .int .i64 o2] 23 (0, 0)) from by rw [hW]; exact heap_alloc_eq _ rfl)
  clear hW n
  refine sanity_any _ _ HKW.out ?_
  intro w2 n
  replace HKW := Lib.hid (HKW.out.kept n (fun _ _ e => e))
  replace NX := Lib.hid (NX.out.trans n)
  replace HIl := Lib.hid ((HIl.out.kept n nof).hi n.size)
  replace HB := Lib.hid (n.heap HB.out id)
  clear n
  go_upto_region 2 with (fail)
  refine wp_named ?_
  intro W3 hW
  have n : Nw w2 W3 := by rw [hW]; first | exact Ch.refl _ _ | exact (Ch.refl _ _).alloc _
  replace HKW := Lib.hid (HKW.out.kept n (fun _ _ e => e))
  replace NX := Lib.hid (NX.out.trans n)
  replace HIl := Lib.hid ((HIl.out.kept n nof).hi n.size)
  replace HB := Lib.hid (n.heap HB.out id)
  clear hW n
  refine wp_region_V (F := fun w' => True) (opsOf Tryd.f3 2) 12 12 (by kernel_rfl) (by kernel_rfl) (by kernel_rfl) (fun w w' h n => True.intro) True.intro (fun HOPS HCL hHeld => ?_)
  refine wpU_named ?_
  intro W4 hW
  try rw [← hW] at hHeld
  have n : Nw W3 W4 := by rw [hW]; exact (Ch.refl _ _).drew
  replace HKW := Lib.hid (HKW.out.kept n (fun _ _ e => e))
  replace NX := Lib.hid (NX.out.trans n)
  replace HIl := Lib.hid ((HIl.out.kept n nof).hi n.size)
  replace HB := Lib.hid (n.heap HB.out id)
  clear hW n
  first | (refine wpU_takeB (i := 0) (v := ?_) HOPS rfl (by kernel_rfl) (fun _ _ _ h => h) HCL (goes_read (by rfl) ?hy) ?_; case hy => (intro w hSw; (try dsimp only at hSw); go_simp; (try with_reducible rfl))) | (refine wpU_takeB (i := 0) (v := _) HOPS rfl (by kernel_rfl) (fun _ _ _ h => h) HCL (goes_not (by rfl)) ?_)
  try simp only [Act.put, List.getElem_toArray, List.getElem_cons_succ, List.getElem_cons_zero, List.setIfInBounds_toArray, List.set_cons_zero, List.set_cons_succ]
  first | (refine wpU_takeB (i := 1) (v := ?_) HOPS rfl (by kernel_rfl) (fun _ _ _ h => h) HCL (goes_read (by rfl) ?hy) ?_; case hy => (intro w hSw; (try dsimp only at hSw); go_simp; (try with_reducible rfl))) | (refine wpU_takeB (i := 1) (v := _) HOPS rfl (by kernel_rfl) (fun _ _ _ h => h) HCL (goes_not (by rfl)) ?_)
  try simp only [Act.put, List.getElem_toArray, List.getElem_cons_succ, List.getElem_cons_zero, List.setIfInBounds_toArray, List.set_cons_zero, List.set_cons_succ]
  first | (refine wpU_takeB (i := 2) (v := ?_) HOPS rfl (by kernel_rfl) (fun _ _ _ h => h) HCL (goes_read (by rfl) ?hy) ?_; case hy => (intro w hSw; (try dsimp only at hSw); go_simp; (try with_reducible rfl))) | (refine wpU_takeB (i := 2) (v := _) HOPS rfl (by kernel_rfl) (fun _ _ _ h => h) HCL (goes_not (by rfl)) ?_)
  try simp only [Act.put, List.getElem_toArray, List.getElem_cons_succ, List.getElem_cons_zero, List.setIfInBounds_toArray, List.set_cons_zero, List.set_cons_succ]
  first | (refine wpU_takeB (i := 3) (v := ?_) HOPS rfl (by kernel_rfl) (fun _ _ _ h => h) HCL (goes_read (by rfl) ?hy) ?_; case hy => (intro w hSw; (try dsimp only at hSw); go_simp; (try with_reducible rfl))) | (refine wpU_takeB (i := 3) (v := _) HOPS rfl (by kernel_rfl) (fun _ _ _ h => h) HCL (goes_not (by rfl)) ?_)
  try simp only [Act.put, List.getElem_toArray, List.getElem_cons_succ, List.getElem_cons_zero, List.setIfInBounds_toArray, List.set_cons_zero, List.set_cons_succ]
  first | (refine wpU_takeB (i := 4) (v := ?_) HOPS rfl (by kernel_rfl) (fun _ _ _ h => h) HCL (goes_read (by rfl) ?hy) ?_; case hy => (intro w hSw; (try dsimp only at hSw); go_simp; (try with_reducible rfl))) | (refine wpU_takeB (i := 4) (v := _) HOPS rfl (by kernel_rfl) (fun _ _ _ h => h) HCL (goes_not (by rfl)) ?_)
  try simp only [Act.put, List.getElem_toArray, List.getElem_cons_succ, List.getElem_cons_zero, List.setIfInBounds_toArray, List.set_cons_zero, List.set_cons_succ]
  first | (refine wpU_takeB (i := 5) (v := ?_) HOPS rfl (by kernel_rfl) (fun _ _ _ h => h) HCL (goes_read (by rfl) ?hy) ?_; case hy => (intro w hSw; (try dsimp only at hSw); go_simp; (try with_reducible rfl))) | (refine wpU_takeB (i := 5) (v := _) HOPS rfl (by kernel_rfl) (fun _ _ _ h => h) HCL (goes_not (by rfl)) ?_)
  try simp only [Act.put, List.getElem_toArray, List.getElem_cons_succ, List.getElem_cons_zero, List.setIfInBounds_toArray, List.set_cons_zero, List.set_cons_succ]
  first | (refine wpU_takeB (i := 6) (v := ?_) HOPS rfl (by kernel_rfl) (fun _ _ _ h => h) HCL (goes_read (by rfl) ?hy) ?_; case hy => (intro w hSw; (try dsimp only at hSw); go_simp; (try with_reducible rfl))) | (refine wpU_takeB (i := 6) (v := _) HOPS rfl (by kernel_rfl) (fun _ _ _ h => h) HCL (goes_not (by rfl)) ?_)
  try simp only [Act.put, List.getElem_toArray, List.getElem_cons_succ, List.getElem_cons_zero, List.setIfInBounds_toArray, List.set_cons_zero, List.set_cons_succ]
  first | (refine wpU_takeB (i := 7) (v := ?_) HOPS rfl (by kernel_rfl) (fun _ _ _ h => h) HCL (goes_read (by rfl) ?hy) ?_; case hy => (intro w hSw; (try dsimp only at hSw); go_simp; (try with_reducible rfl))) | (refine wpU_takeB (i := 7) (v := _) HOPS rfl (by kernel_rfl) (fun _ _ _ h => h) HCL (goes_not (by rfl)) ?_)
  try simp only [Act.put, List.getElem_toArray, List.getElem_cons_succ, List.getElem_cons_zero, List.setIfInBounds_toArray, List.set_cons_zero, List.set_cons_succ]
  first | (refine wpU_takeB (i := 8) (v := ?_) HOPS rfl (by kernel_rfl) (fun _ _ _ h => h) HCL (goes_read (by rfl) ?hy) ?_; case hy => (intro w hSw; (try dsimp only at hSw); go_simp; (try with_reducible rfl))) | (refine wpU_takeB (i := 8) (v := _) HOPS rfl (by kernel_rfl) (fun _ _ _ h => h) HCL (goes_not (by rfl)) ?_)
  try simp only [Act.put, List.getElem_toArray, List.getElem_cons_succ, List.getElem_cons_zero, List.setIfInBounds_toArray, List.set_cons_zero, List.set_cons_succ]
  first | (refine wpU_takeB (i := 9) (v := ?_) HOPS rfl (by kernel_rfl) (fun _ _ _ h => h) HCL (goes_read (by rfl) ?hy) ?_; case hy => (intro w hSw; (try dsimp only at hSw); go_simp; (try with_reducible rfl))) | (refine wpU_takeB (i := 9) (v := _) HOPS rfl (by kernel_rfl) (fun _ _ _ h => h) HCL (goes_not (by rfl)) ?_)
  try simp only [Act.put, List.getElem_toArray, List.getElem_cons_succ, List.getElem_cons_zero, List.setIfInBounds_toArray, List.set_cons_zero, List.set_cons_succ]
  first | (refine wpU_takeB (i := 10) (v := ?_) HOPS rfl (by kernel_rfl) (fun _ _ _ h => h) HCL (goes_read (by rfl) ?hy) ?_; case hy => (intro w hSw; (try dsimp only at hSw); go_simp; (try with_reducible rfl))) | (refine wpU_takeB (i := 10) (v := _) HOPS rfl (by kernel_rfl) (fun _ _ _ h => h) HCL (goes_not (by rfl)) ?_)
  try simp only [Act.put, List.getElem_toArray, List.getElem_cons_succ, List.getElem_cons_zero, List.setIfInBounds_toArray, List.set_cons_zero, List.set_cons_succ]
  first | (refine wpU_takeB (i := 11) (v := ?_) HOPS rfl (by kernel_rfl) (fun _ _ _ h => h) HCL (goes_read (by rfl) ?hy) ?_; case hy => (intro w hSw; (try dsimp only at hSw); go_simp; (try with_reducible rfl))) | (refine wpU_takeB (i := 11) (v := _) HOPS rfl (by kernel_rfl) (fun _ _ _ h => h) HCL (goes_not (by rfl)) ?_)
  try simp only [Act.put, List.getElem_toArray, List.getElem_cons_succ, List.getElem_cons_zero, List.setIfInBounds_toArray, List.set_cons_zero, List.set_cons_succ]
  refine wpU_done (by kernel_rfl) (fun w5 hle => ?_) _
  have n := (hle.ahead (by kernel_rfl)).1
  replace HKW := Lib.hid (HKW.out.kept n (fun _ _ e => e))
  replace NX := Lib.hid (NX.out.trans n)
  replace HIl := Lib.hid ((HIl.out.kept n nof).hi n.size)
  replace HB := Lib.hid (n.heap HB.out id)
  clear n
  clear HOPS HCL hle
  repeat clear hHeld
  go_upto_region 3 with (fail)
  try rw [show (min (s.size : Int) 60).toNat = ms from by omega]
  obtain ⟨S, hS⟩ : ∃ S, s.extract 0 ms = S := ⟨_, rfl⟩
  have hS60 : S.size ≤ 60 := by rw [← hS, ByteArray.size_extract]; omega
  rw [hS]
  clear hS ems mas mbs ms60
  have zW := NX.out.size
  refine wp_named ?_
  intro W6 hW
  have n : Nw w5 W6 := by rw [hW]; first | exact Ch.refl _ _ | exact (Ch.refl _ _).alloc _
  replace HKW := Lib.hid (HKW.out.kept n (fun _ _ e => e))
  replace NX := Lib.hid (NX.out.trans n)
  replace HIl := Lib.hid ((HIl.out.kept n nof).hi n.size)
  replace HB := Lib.hid (n.heap HB.out id)
  replace zW := Nat.le_trans zW n.size
  clear hW n
  refine wp_region_V (F := fun w' => w'.cell? ⟨w.heap.size, 0, none⟩ = some (.int .i64 o0) ∧ w'.cell? ⟨w.heap.size, 1, none⟩ = some (.int .i64 o1) ∧ w'.cell? ⟨w.heap.size, 2, none⟩ = some (.int .i64 o2)) (opsOf Tryd.f3 3) 14 16 (by kernel_rfl) (by kernel_rfl) (by kernel_rfl) (fun w w' h n => ⟨n.cell h.1 id, n.cell h.2.1 id, n.cell h.2.2 id⟩) ⟨by show W6.cell? _ = _; rw [cell_of HB.out]; rfl, by show W6.cell? _ = _; rw [cell_of HB.out]; rfl, by show W6.cell? _ = _; rw [cell_of HB.out]; rfl⟩ (fun HOPS HCL hHeld => ?_)
  refine wpU_named ?_
  intro W7 hW
  try rw [← hW] at hHeld
  have n : Nw W6 W7 := by rw [hW]; exact (Ch.refl _ _).drew
  replace HKW := Lib.hid (HKW.out.kept n (fun _ _ e => e))
  replace NX := Lib.hid (NX.out.trans n)
  replace HIl := Lib.hid ((HIl.out.kept n nof).hi n.size)
  replace HB := Lib.hid (n.heap HB.out id)
  replace zW := Nat.le_trans zW n.size
  clear hW n
  first | (refine wpU_takeA (i := 0) (v := ?_) HOPS rfl (by kernel_rfl) (fun _ _ _ h => h) HCL (goes_read (by rfl) ?hy) ?_; case hy => (intro w hSw; (try dsimp only at hSw); go_simp; (try with_reducible rfl))) | (refine wpU_takeA (i := 0) (v := _) HOPS rfl (by kernel_rfl) (fun _ _ _ h => h) HCL (goes_not (by rfl)) ?_)
  try simp only [Act.put, List.getElem_toArray, List.getElem_cons_succ, List.getElem_cons_zero, List.setIfInBounds_toArray, List.set_cons_zero, List.set_cons_succ]
  first | (refine wpU_takeA (i := 2) (v := ?_) HOPS rfl (by kernel_rfl) (fun _ _ _ h => h) HCL (goes_read (by rfl) ?hy) ?_; case hy => (intro w hSw; (try dsimp only at hSw); go_simp; (try with_reducible rfl))) | (refine wpU_takeA (i := 2) (v := _) HOPS rfl (by kernel_rfl) (fun _ _ _ h => h) HCL (goes_not (by rfl)) ?_)
  try simp only [Act.put, List.getElem_toArray, List.getElem_cons_succ, List.getElem_cons_zero, List.setIfInBounds_toArray, List.set_cons_zero, List.set_cons_succ]
  first | (refine wpU_takeA (i := 3) (v := ?_) HOPS rfl (by kernel_rfl) (fun _ _ _ h => h) HCL (goes_read (by rfl) ?hy) ?_; case hy => (intro w hSw; (try dsimp only at hSw); go_simp; (try with_reducible rfl))) | (refine wpU_takeA (i := 3) (v := _) HOPS rfl (by kernel_rfl) (fun _ _ _ h => h) HCL (goes_not (by rfl)) ?_)
  try simp only [Act.put, List.getElem_toArray, List.getElem_cons_succ, List.getElem_cons_zero, List.setIfInBounds_toArray, List.set_cons_zero, List.set_cons_succ]
  first | (refine wpU_takeA (i := 4) (v := ?_) HOPS rfl (by kernel_rfl) (fun _ _ _ h => h) HCL (goes_read (by rfl) ?hy) ?_; case hy => (intro w hSw; (try dsimp only at hSw); go_simp; (try with_reducible rfl))) | (refine wpU_takeA (i := 4) (v := _) HOPS rfl (by kernel_rfl) (fun _ _ _ h => h) HCL (goes_not (by rfl)) ?_)
  try simp only [Act.put, List.getElem_toArray, List.getElem_cons_succ, List.getElem_cons_zero, List.setIfInBounds_toArray, List.set_cons_zero, List.set_cons_succ]
  first | (refine wpU_takeA (i := 5) (v := ?_) HOPS rfl (by kernel_rfl) (fun _ _ _ h => h) HCL (goes_read (by rfl) ?hy) ?_; case hy => (intro w hSw; (try dsimp only at hSw); go_simp; (try with_reducible rfl))) | (refine wpU_takeA (i := 5) (v := _) HOPS rfl (by kernel_rfl) (fun _ _ _ h => h) HCL (goes_not (by rfl)) ?_)
  try simp only [Act.put, List.getElem_toArray, List.getElem_cons_succ, List.getElem_cons_zero, List.setIfInBounds_toArray, List.set_cons_zero, List.set_cons_succ]
  first | (refine wpU_takeA (i := 6) (v := ?_) HOPS rfl (by kernel_rfl) (fun _ _ _ h => h) HCL (goes_read (by rfl) ?hy) ?_; case hy => (intro w hSw; (try dsimp only at hSw); go_simp; (try with_reducible rfl))) | (refine wpU_takeA (i := 6) (v := _) HOPS rfl (by kernel_rfl) (fun _ _ _ h => h) HCL (goes_not (by rfl)) ?_)
  try simp only [Act.put, List.getElem_toArray, List.getElem_cons_succ, List.getElem_cons_zero, List.setIfInBounds_toArray, List.set_cons_zero, List.set_cons_succ]
  first | (refine wpU_takeA (i := 7) (v := ?_) HOPS rfl (by kernel_rfl) (fun _ _ _ h => h) HCL (goes_read (by rfl) ?hy) ?_; case hy => (intro w hSw; (try dsimp only at hSw); go_simp; (try with_reducible rfl))) | (refine wpU_takeA (i := 7) (v := _) HOPS rfl (by kernel_rfl) (fun _ _ _ h => h) HCL (goes_not (by rfl)) ?_)
  try simp only [Act.put, List.getElem_toArray, List.getElem_cons_succ, List.getElem_cons_zero, List.setIfInBounds_toArray, List.set_cons_zero, List.set_cons_succ]
  first | (refine wpU_takeA (i := 8) (v := ?_) HOPS rfl (by kernel_rfl) (fun _ _ _ h => h) HCL (goes_read (by rfl) ?hy) ?_; case hy => (intro w hSw; (try dsimp only at hSw); go_simp; (try with_reducible rfl))) | (refine wpU_takeA (i := 8) (v := _) HOPS rfl (by kernel_rfl) (fun _ _ _ h => h) HCL (goes_not (by rfl)) ?_)
  try simp only [Act.put, List.getElem_toArray, List.getElem_cons_succ, List.getElem_cons_zero, List.setIfInBounds_toArray, List.set_cons_zero, List.set_cons_succ]
  first | (refine wpU_takeA (i := 9) (v := ?_) HOPS rfl (by kernel_rfl) (fun _ _ _ h => h) HCL (goes_read (by rfl) ?hy) ?_; case hy => (intro w hSw; (try dsimp only at hSw); go_simp; (try with_reducible rfl))) | (refine wpU_takeA (i := 9) (v := _) HOPS rfl (by kernel_rfl) (fun _ _ _ h => h) HCL (goes_not (by rfl)) ?_)
  try simp only [Act.put, List.getElem_toArray, List.getElem_cons_succ, List.getElem_cons_zero, List.setIfInBounds_toArray, List.set_cons_zero, List.set_cons_succ]
  first | (refine wpU_takeA (i := 10) (v := ?_) HOPS rfl (by kernel_rfl) (fun _ _ _ h => h) HCL (goes_read (by rfl) ?hy) ?_; case hy => (intro w hSw; (try dsimp only at hSw); go_simp; (try with_reducible rfl))) | (refine wpU_takeA (i := 10) (v := _) HOPS rfl (by kernel_rfl) (fun _ _ _ h => h) HCL (goes_not (by rfl)) ?_)
  try simp only [Act.put, List.getElem_toArray, List.getElem_cons_succ, List.getElem_cons_zero, List.setIfInBounds_toArray, List.set_cons_zero, List.set_cons_succ]
  first | (refine wpU_takeA (i := 11) (v := ?_) HOPS rfl (by kernel_rfl) (fun _ _ _ h => h) HCL (goes_read (by rfl) ?hy) ?_; case hy => (intro w hSw; (try dsimp only at hSw); go_simp; (try with_reducible rfl))) | (refine wpU_takeA (i := 11) (v := _) HOPS rfl (by kernel_rfl) (fun _ _ _ h => h) HCL (goes_not (by rfl)) ?_)
  try simp only [Act.put, List.getElem_toArray, List.getElem_cons_succ, List.getElem_cons_zero, List.setIfInBounds_toArray, List.set_cons_zero, List.set_cons_succ]
  first | (refine wpU_takeA (i := 12) (v := ?_) HOPS rfl (by kernel_rfl) (fun _ _ _ h => h) HCL (goes_read (by rfl) ?hy) ?_; case hy => (intro w hSw; (try dsimp only at hSw); go_simp; (try with_reducible rfl))) | (refine wpU_takeA (i := 12) (v := _) HOPS rfl (by kernel_rfl) (fun _ _ _ h => h) HCL (goes_not (by rfl)) ?_)
  try simp only [Act.put, List.getElem_toArray, List.getElem_cons_succ, List.getElem_cons_zero, List.setIfInBounds_toArray, List.set_cons_zero, List.set_cons_succ]
  refine wpU_ready (rs := [1, 13]) (by kernel_rfl) (by simp) ?_
  intro w8 hle
  obtain ⟨n, hHeld⟩ := hle.ahead (by kernel_rfl)
  clear hle
  replace HKW := Lib.hid (HKW.out.kept n (fun _ _ e => e))
  replace NX := Lib.hid (NX.out.trans n)
  replace HIl := Lib.hid ((HIl.out.kept n nof).hi n.size)
  replace HB := Lib.hid (n.heap HB.out id)
  replace zW := Nat.le_trans zW n.size
  clear n
  refine ReadyU.cons HOPS rfl (by rfl) (fun K hK => ?_) (ReadyU.cons HOPS rfl (by rfl) (fun K hK => ?_) ReadyU.nil)
  · go_simp
    go_at_call 8
    have zB : w.heap.size ≤ w8.heap.size := zW
    refine made_any 6 _ tl _ _ HIl.out (by omega) ?_
    intro w9 xp p hrow hnil hmade n
    replace HKW := Lib.hid (HKW.out.kept n (fun _ _ e => e))
    replace NX := Lib.hid (NX.out.trans n)
    replace HIl := Lib.hid ((HIl.out.kept n nof).hi n.size)
    replace HB := Lib.hid (n.heap HB.out id)
    replace zW := Nat.le_trans zW n.size
    have zD : w8.heap.size ≤ w9.heap.size := n.size
    have HOp := Lib.hid (show ORow w9 w8.heap.size xp p from hrow)
    have HMp := Lib.hid hmade
    have hpp := made_len hmade
    have HEp := Lib.hid hnil
    obtain ⟨kp, dp, rp, hf⟩ := facts_of hmade
    have kap := hf.k0
    have kbp := hf.k1
    have dbp := hf.d8
    have rbp := hf.r64
    have HFp := Lib.hid hf
    clear hf hmade hnil
    obtain ⟨Ap, cp, ep⟩ := hrow.form
    subst ep
    clear hrow
    refine hK.out _ _ n ⟨by show w9.cell? _ = _; rw [cell_of HB.out]; rfl, by show w9.cell? _ = _; rw [cell_of HB.out]; rfl, by show w9.cell? _ = _; rw [cell_of HB.out]; rfl⟩ (fun hHeld => ?_)
    clear hK K n
    try simp only [Act.put, List.getElem_toArray, List.getElem_cons_succ, List.getElem_cons_zero, List.setIfInBounds_toArray, List.set_cons_zero, List.set_cons_succ]
    refine wpU_ready (rs := [13]) (by kernel_rfl) (by simp) ?_
    intro w10 hle
    obtain ⟨n, hHeld⟩ := hle.ahead (by kernel_rfl)
    clear hle
    replace HKW := Lib.hid (HKW.out.kept n (fun _ _ e => e))
    replace NX := Lib.hid (NX.out.trans n)
    replace HIl := Lib.hid ((HIl.out.kept n nof).hi n.size)
    replace HB := Lib.hid (n.heap HB.out id)
    replace zW := Nat.le_trans zW n.size
    replace HOp := Lib.hid (HOp.out.ch' n (fun _ _ e => e))
    replace zD := Nat.le_trans zD n.size
    clear n
    refine ReadyU.cons HOPS rfl (by rfl) (fun K hK => ?_) ReadyU.nil
    refine wp_lit3 25 28 _ _ _ rfl Tryd.underlying25 (by kernel_rfl) (by rfl) (by rfl) (by rfl) ?_
    refine hK.out _ _ ((Ch.refl _ _).alloc _) ⟨cell_alloc_old _ (by rw [cell_of HB.out]; rfl), cell_alloc_old _ (by rw [cell_of HB.out]; rfl), cell_alloc_old _ (by rw [cell_of HB.out]; rfl)⟩ (fun hHeld => ?_)
    clear hK K
    try simp only [Act.put, List.getElem_toArray, List.getElem_cons_succ, List.getElem_cons_zero, List.setIfInBounds_toArray, List.set_cons_zero, List.set_cons_succ]
    have zWAHEL := zW
    have zDAHEL := zD
    refine wpU_named ?_
    intro W11 hW
    try rw [← hW] at hHeld
    have n : Nw w10 W11 := by rw [hW]; exact (Ch.refl _ _).alloc _
    replace HKW := Lib.hid (HKW.out.kept n (fun _ _ e => e))
    replace NX := Lib.hid (NX.out.trans n)
    replace HIl := Lib.hid ((HIl.out.kept n nof).hi n.size)
    replace HB := Lib.hid (n.heap HB.out id)
    replace zW := Nat.le_trans zW n.size
    replace HOp := Lib.hid (HOp.out.ch' n (fun _ _ e => e))
    replace zD := Nat.le_trans zD n.size
    have HEL := Lib.hid (show W11.heap[w10.heap.size]? = some (.cells #[.int .i64 1, .int .i64 o0, .int .i64 0, .int .i64 14, .int .i64 o1, .int .i64 0, .int .i64 15, .int .i64 o2, .int .i64 o0] 28 (0, 0)) from by rw [hW]; exact heap_alloc_eq _ rfl)
    clear hW n
    refine wpU_ready (rs := [14]) (by kernel_rfl) (by simp) ?_
    intro w12 hle
    obtain ⟨n, hHeld⟩ := hle.ahead (by kernel_rfl)
    clear hle
    replace HKW := Lib.hid (HKW.out.kept n (fun _ _ e => e))
    replace NX := Lib.hid (NX.out.trans n)
    replace HIl := Lib.hid ((HIl.out.kept n nof).hi n.size)
    replace HB := Lib.hid (n.heap HB.out id)
    replace zW := Nat.le_trans zW n.size
    replace HOp := Lib.hid (HOp.out.ch' n (fun _ _ e => e))
    replace zD := Nat.le_trans zD n.size
    replace HEL := Lib.hid (n.heap HEL.out id)
    clear n
    refine ReadyU.last HOPS rfl (by rfl) (by kernel_rfl) (fun K hK => ?_) ReadyU.nil
    refine wp_appOps _ (.tmp 25) (.tmp 37) rfl _ _ p (by rfl) HOp.out _ _ [((1 : Int), o0, (0 : Int)), (14, o1, 0), (15, o2, o0)] (by rfl) (row_heap (n := 3) HEL.out rfl (by omega)) (fun h => by cases h) (by simp only [List.length_cons, List.length_nil]; omega) zD ?_
    intro v9 w9 hrow9 hgr9 hnil9
    refine hK.out _ _ ?_
    clear hK K
    try simp only [Act.put, List.getElem_toArray, List.getElem_cons_succ, List.getElem_cons_zero, List.setIfInBounds_toArray, List.set_cons_zero, List.set_cons_succ]
    refine wpU_ready (rs := [15]) (by kernel_rfl) (by simp) ?_
    intro wq hle
    rw [hle.behind (by kernel_rfl)]
    clear hle wq
    refine ReadyU.last HOPS rfl (by rfl) (by kernel_rfl) (fun K hK => ?_) ReadyU.nil
    go_simp
    refine hK.out _ _ ?_
    clear hK K
    try simp only [Act.put, List.getElem_toArray, List.getElem_cons_succ, List.getElem_cons_zero, List.setIfInBounds_toArray, List.set_cons_zero, List.set_cons_succ]
    refine wpU_done (by kernel_rfl) (fun w13 hle => ?_) _
    rw [hle.behind (by kernel_rfl)]
    clear HOPS HCL hle
    repeat clear hHeld
    have c9 : Ch (fun k => (Value.slice Ap p.length cp).ownBlock = some k) w12 w9 := (Ch.refl _ _).grown hgr9 (fun k e _ => e)
    have hfar : ∀ k, (Value.slice Ap p.length cp).ownBlock = some k → w.heap.size ≤ k := fun k e => Nat.le_trans zB (HOp.out.lt k e).1
    replace NX := Lib.hid (NX.out.trans' c9 (fun j hj e => by have := hfar j e; omega))
    replace HKW := Lib.hid (HKW.out.kept c9 (fun k hk e => by have := hfar k e; omega))
    obtain ⟨A9, d9, e9⟩ := hrow9.form
    subst e9
    obtain ⟨PP, hPP⟩ : ∃ x, (p ++ [((1 : Int), o0, (0 : Int)), (14, o1, 0), (15, o2, o0)]) = x := ⟨_, rfl⟩
    have hf9 : formedL PP = true := by rw [← hPP]; exact inv_formed HMp.out
    have hn9 : ∀ q ∈ PP, numOk q.2.1 ∧ numOk q.2.2 := by rw [← hPP]; exact inv_num HMp.out HON.out
    have hl9 : PP.length ≤ 43 := by rw [← hPP, List.length_append]; simp only [List.length_cons, List.length_nil]; omega
    rw [hPP] at hrow9 ⊢
    have HO := Lib.hid hrow9
    have hpt := parse_text hf9 hn9
    have HPT := Lib.hid hpt
    have HN9 := Lib.hid hn9
    have hts := text_size (by omega) hn9
    clear hpt hn9 hf9 hrow9 hPP hgr9 hnil9 c9 hfar HB HEL HMp HFp HOp HEp zB zD zW
    go_wp2_with (go_at_call 18; fail)
    refine Calls_nm ?_
    intro W14 hW
    have n : Nw w9 W14 := by rw [hW]; first | exact Ch.refl _ _ | exact (Ch.refl _ _).alloc _ | exact ((Ch.refl _ _).alloc _).alloc _
    replace HKW := Lib.hid (HKW.out.kept n (fun _ _ e => e))
    replace NX := Lib.hid (NX.out.trans n)
    replace HO := Lib.hid (HO.out.ch' n (fun _ _ e => e))
    clear hW n
    refine text_any W14.heap.size PP _ _ _ (ORow.prog (L := PP) HO.out) (Nat.le_refl _) HKW.out (by omega) HN9.out ?_
    intro w15 n
    replace HKW := Lib.hid (HKW.out.kept n (fun _ _ e => e))
    replace NX := Lib.hid (NX.out.trans n)
    replace HO := Lib.hid (HO.out.ch' n (fun _ _ e => e))
    clear n
    obtain ⟨TB, hTB⟩ : ∃ X, (⟨(textM PP).toArray⟩ : ByteArray) = X := ⟨_, rfl⟩
    have HTB := Lib.hid (show TB.data.toList = textM PP from by rw [← hTB])
    have htz : TB.size ≤ 6000 := by rw [← hTB]; show (List.toArray _).size ≤ 6000; rw [List.size_toArray]; exact hts
    rw [hTB]
    clear hTB hts
    go_wp2_with (go_at_call 18; fail)
    refine Calls_nm ?_
    intro W16 hW
    have n : Nw w15 W16 := by rw [hW]; first | exact Ch.refl _ _ | exact (Ch.refl _ _).alloc _ | exact ((Ch.refl _ _).alloc _).alloc _
    replace HKW := Lib.hid (HKW.out.kept n (fun _ _ e => e))
    replace NX := Lib.hid (NX.out.trans n)
    replace HO := Lib.hid (HO.out.ch' n (fun _ _ e => e))
    clear hW n
    refine parse_any TB _ _ (by omega) HKW.out ?_
    rw [HTB.out, HPT.out]
    intro w17 xq hq n
    replace HKW := Lib.hid (HKW.out.kept n (fun _ _ e => e))
    replace NX := Lib.hid (NX.out.trans n)
    replace HO := Lib.hid (HO.out.ch' n (fun _ _ e => e))
    clear n
    have HQ := Lib.hid (show ORow w17 _ xq PP from hq)
    obtain ⟨Aq, cq, eq⟩ := hq.form
    subst eq
    clear hq
    go_wp2_with (go_at_call 18; fail)
    refine Calls_nm ?_
    intro W18 hW
    have n : Nw w17 W18 := by rw [hW]; first | exact Ch.refl _ _ | exact (Ch.refl _ _).alloc _ | exact ((Ch.refl _ _).alloc _).alloc _
    replace HKW := Lib.hid (HKW.out.kept n (fun _ _ e => e))
    replace NX := Lib.hid (NX.out.trans n)
    replace HO := Lib.hid (HO.out.ch' n (fun _ _ e => e))
    replace HQ := Lib.hid (HQ.out.ch' n (fun _ _ e => e))
    clear hW n
    refine parse_any S _ _ (by omega) HKW.out ?_
    have hpl := (parseC_len S.data.toList)
    have hp2 := parseC_two S.data.toList
    obtain ⟨P9, hP9⟩ : ∃ x, (parseC S.data.toList).1 = x := ⟨_, rfl⟩
    obtain ⟨b9, hb9⟩ : ∃ x, (parseC S.data.toList).2 = x := ⟨_, rfl⟩
    rw [hP9] at hpl
    rw [hP9, hb9] at hp2 ⊢
    clear hP9 hb9
    obtain ⟨hpl, hpn⟩ := hpl
    have hsl : S.data.toList.length = S.size := by simp
    rw [hsl] at hpl
    clear hsl
    intro w19 xr hr n
    replace HKW := Lib.hid (HKW.out.kept n (fun _ _ e => e))
    replace NX := Lib.hid (NX.out.trans n)
    replace HO := Lib.hid (HO.out.ch' n (fun _ _ e => e))
    replace HQ := Lib.hid (HQ.out.ch' n (fun _ _ e => e))
    clear n
    have HRR := Lib.hid (show ORow w19 _ xr P9 from hr)
    obtain ⟨Ar, cr, er⟩ := hr.form
    subst er
    clear hr
    have HPN := Lib.hid hpn
    clear hpn
    go_wp2_with (go_at_call 18; fail)
    refine Calls_nm ?_
    intro W20 hW
    have n : Nw w19 W20 := by rw [hW]; first | exact Ch.refl _ _ | exact (Ch.refl _ _).alloc _ | exact ((Ch.refl _ _).alloc _).alloc _
    replace HKW := Lib.hid (HKW.out.kept n (fun _ _ e => e))
    replace NX := Lib.hid (NX.out.trans n)
    replace HO := Lib.hid (HO.out.ch' n (fun _ _ e => e))
    replace HQ := Lib.hid (HQ.out.ch' n (fun _ _ e => e))
    replace HRR := Lib.hid (HRR.out.ch' n (fun _ _ e => e))
    clear hW n
    refine sameO_any PP PP _ _ _ _ _ _ (CRow.isC HO.out) (CRow.isC HQ.out) (by omega) (by omega) ?_
    intro w21 n
    replace HKW := Lib.hid (HKW.out.kept n (fun _ _ e => e))
    replace NX := Lib.hid (NX.out.trans n)
    replace HO := Lib.hid (HO.out.ch' n (fun _ _ e => e))
    replace HQ := Lib.hid (HQ.out.ch' n (fun _ _ e => e))
    replace HRR := Lib.hid (HRR.out.ch' n (fun _ _ e => e))
    clear n
    rw [decide_eq_true rfl]
    rcases hp2 with ⟨ht, hb⟩ | ⟨ht, hb⟩
    · as_aux_lemma =>
      subst hb
      have HT := Lib.hid ht
      clear ht
      go_wp2_with (go_at_call 18; fail)
      refine Calls_nm ?_
      intro W22 hW
      have n : Nw w21 W22 := by rw [hW]; first | exact Ch.refl _ _ | exact (Ch.refl _ _).alloc _ | exact ((Ch.refl _ _).alloc _).alloc _
      replace HKW := Lib.hid (HKW.out.kept n (fun _ _ e => e))
      replace NX := Lib.hid (NX.out.trans n)
      replace HO := Lib.hid (HO.out.ch' n (fun _ _ e => e))
      replace HQ := Lib.hid (HQ.out.ch' n (fun _ _ e => e))
      replace HRR := Lib.hid (HRR.out.ch' n (fun _ _ e => e))
      clear hW n
      refine text_any W22.heap.size P9 _ _ _ (ORow.prog (L := P9) HRR.out) (Nat.le_refl _) HKW.out (by omega) HPN.out ?_
      intro w23 n
      replace HKW := Lib.hid (HKW.out.kept n (fun _ _ e => e))
      replace NX := Lib.hid (NX.out.trans n)
      replace HO := Lib.hid (HO.out.ch' n (fun _ _ e => e))
      replace HQ := Lib.hid (HQ.out.ch' n (fun _ _ e => e))
      replace HRR := Lib.hid (HRR.out.ch' n (fun _ _ e => e))
      clear n
      rw [HT.out]
      rw [show (⟨S.data.toList.toArray⟩ : ByteArray) = S from by simp]
      have te : (S.toList != S.toList) = false := by simp
      go_wp2
      exact HR.out _ NX.out
    · as_aux_lemma =>
      subst hb
      have h0 : P9.length = 0 := by rw [ht]; rfl
      clear ht
      go_wp2
      exact HR.out _ NX.out
  · refine wp_lit3 25 28 _ _ _ rfl Tryd.underlying25 (by kernel_rfl) (by rfl) (by rfl) (by rfl) ?_
    refine hK.out _ _ ((Ch.refl _ _).alloc _) ⟨cell_alloc_old _ (by rw [cell_of HB.out]; rfl), cell_alloc_old _ (by rw [cell_of HB.out]; rfl), cell_alloc_old _ (by rw [cell_of HB.out]; rfl)⟩ (fun hHeld => ?_)
    clear hK K
    try simp only [Act.put, List.getElem_toArray, List.getElem_cons_succ, List.getElem_cons_zero, List.setIfInBounds_toArray, List.set_cons_zero, List.set_cons_succ]
    have zWAHEL := zW
    refine wpU_named ?_
    intro W24 hW
    try rw [← hW] at hHeld
    have n : Nw w8 W24 := by rw [hW]; exact (Ch.refl _ _).alloc _
    replace HKW := Lib.hid (HKW.out.kept n (fun _ _ e => e))
    replace NX := Lib.hid (NX.out.trans n)
    replace HIl := Lib.hid ((HIl.out.kept n nof).hi n.size)
    replace HB := Lib.hid (n.heap HB.out id)
    replace zW := Nat.le_trans zW n.size
    have HEL := Lib.hid (show W24.heap[w8.heap.size]? = some (.cells #[.int .i64 1, .int .i64 o0, .int .i64 0, .int .i64 14, .int .i64 o1, .int .i64 0, .int .i64 15, .int .i64 o2, .int .i64 o0] 28 (0, 0)) from by rw [hW]; exact heap_alloc_eq _ rfl)
    clear hW n
    refine wpU_ready (rs := [1]) (by kernel_rfl) (by simp) ?_
    intro w25 hle
    obtain ⟨n, hHeld⟩ := hle.ahead (by kernel_rfl)
    clear hle
    replace HKW := Lib.hid (HKW.out.kept n (fun _ _ e => e))
    replace NX := Lib.hid (NX.out.trans n)
    replace HIl := Lib.hid ((HIl.out.kept n nof).hi n.size)
    replace HB := Lib.hid (n.heap HB.out id)
    replace zW := Nat.le_trans zW n.size
    replace HEL := Lib.hid (n.heap HEL.out id)
    clear n
    refine ReadyU.cons HOPS rfl (by rfl) (fun K hK => ?_) ReadyU.nil
    go_simp
    go_at_call 8
    have zB : w.heap.size ≤ w25.heap.size := zW
    refine made_any 6 _ tl _ _ HIl.out (by omega) ?_
    intro w26 xp p hrow hnil hmade n
    replace HKW := Lib.hid (HKW.out.kept n (fun _ _ e => e))
    replace NX := Lib.hid (NX.out.trans n)
    replace HIl := Lib.hid ((HIl.out.kept n nof).hi n.size)
    replace HB := Lib.hid (n.heap HB.out id)
    replace zW := Nat.le_trans zW n.size
    replace HEL := Lib.hid (n.heap HEL.out id)
    have zD : w25.heap.size ≤ w26.heap.size := n.size
    have HOp := Lib.hid (show ORow w26 w25.heap.size xp p from hrow)
    have HMp := Lib.hid hmade
    have hpp := made_len hmade
    have HEp := Lib.hid hnil
    obtain ⟨kp, dp, rp, hf⟩ := facts_of hmade
    have kap := hf.k0
    have kbp := hf.k1
    have dbp := hf.d8
    have rbp := hf.r64
    have HFp := Lib.hid hf
    clear hf hmade hnil
    obtain ⟨Ap, cp, ep⟩ := hrow.form
    subst ep
    clear hrow
    refine hK.out _ _ n ⟨by show w26.cell? _ = _; rw [cell_of HB.out]; rfl, by show w26.cell? _ = _; rw [cell_of HB.out]; rfl, by show w26.cell? _ = _; rw [cell_of HB.out]; rfl⟩ (fun hHeld => ?_)
    clear hK K n
    try simp only [Act.put, List.getElem_toArray, List.getElem_cons_succ, List.getElem_cons_zero, List.setIfInBounds_toArray, List.set_cons_zero, List.set_cons_succ]
    refine wpU_ready (rs := [14]) (by kernel_rfl) (by simp) ?_
    intro w27 hle
    obtain ⟨n, hHeld⟩ := hle.ahead (by kernel_rfl)
    clear hle
    replace HKW := Lib.hid (HKW.out.kept n (fun _ _ e => e))
    replace NX := Lib.hid (NX.out.trans n)
    replace HIl := Lib.hid ((HIl.out.kept n nof).hi n.size)
    replace HB := Lib.hid (n.heap HB.out id)
    replace zW := Nat.le_trans zW n.size
    replace HEL := Lib.hid (n.heap HEL.out id)
    replace HOp := Lib.hid (HOp.out.ch' n (fun _ _ e => e))
    replace zD := Nat.le_trans zD n.size
    clear n
    refine ReadyU.last HOPS rfl (by rfl) (by kernel_rfl) (fun K hK => ?_) ReadyU.nil
    refine wp_appOps _ (.tmp 25) (.tmp 37) rfl _ _ p (by rfl) HOp.out _ _ [((1 : Int), o0, (0 : Int)), (14, o1, 0), (15, o2, o0)] (by rfl) (row_heap (n := 3) HEL.out rfl (by omega)) (fun h => by cases h) (by simp only [List.length_cons, List.length_nil]; omega) zD ?_
    intro v9 w9 hrow9 hgr9 hnil9
    refine hK.out _ _ ?_
    clear hK K
    try simp only [Act.put, List.getElem_toArray, List.getElem_cons_succ, List.getElem_cons_zero, List.setIfInBounds_toArray, List.set_cons_zero, List.set_cons_succ]
    refine wpU_ready (rs := [15]) (by kernel_rfl) (by simp) ?_
    intro wq hle
    rw [hle.behind (by kernel_rfl)]
    clear hle wq
    refine ReadyU.last HOPS rfl (by rfl) (by kernel_rfl) (fun K hK => ?_) ReadyU.nil
    go_simp
    refine hK.out _ _ ?_
    clear hK K
    try simp only [Act.put, List.getElem_toArray, List.getElem_cons_succ, List.getElem_cons_zero, List.setIfInBounds_toArray, List.set_cons_zero, List.set_cons_succ]
    refine wpU_done (by kernel_rfl) (fun w28 hle => ?_) _
    rw [hle.behind (by kernel_rfl)]
    clear HOPS HCL hle
    repeat clear hHeld
    have c9 : Ch (fun k => (Value.slice Ap p.length cp).ownBlock = some k) w27 w9 := (Ch.refl _ _).grown hgr9 (fun k e _ => e)
    have hfar : ∀ k, (Value.slice Ap p.length cp).ownBlock = some k → w.heap.size ≤ k := fun k e => Nat.le_trans zB (HOp.out.lt k e).1
    replace NX := Lib.hid (NX.out.trans' c9 (fun j hj e => by have := hfar j e; omega))
    replace HKW := Lib.hid (HKW.out.kept c9 (fun k hk e => by have := hfar k e; omega))
    obtain ⟨A9, d9, e9⟩ := hrow9.form
    subst e9
    obtain ⟨PP, hPP⟩ : ∃ x, (p ++ [((1 : Int), o0, (0 : Int)), (14, o1, 0), (15, o2, o0)]) = x := ⟨_, rfl⟩
    have hf9 : formedL PP = true := by rw [← hPP]; exact inv_formed HMp.out
    have hn9 : ∀ q ∈ PP, numOk q.2.1 ∧ numOk q.2.2 := by rw [← hPP]; exact inv_num HMp.out HON.out
    have hl9 : PP.length ≤ 43 := by rw [← hPP, List.length_append]; simp only [List.length_cons, List.length_nil]; omega
    rw [hPP] at hrow9 ⊢
    have HO := Lib.hid hrow9
    have hpt := parse_text hf9 hn9
    have HPT := Lib.hid hpt
    have HN9 := Lib.hid hn9
    have hts := text_size (by omega) hn9
    clear hpt hn9 hf9 hrow9 hPP hgr9 hnil9 c9 hfar HB HEL HMp HFp HOp HEp zB zD zW
    go_wp2_with (go_at_call 18; fail)
    refine Calls_nm ?_
    intro W29 hW
    have n : Nw w9 W29 := by rw [hW]; first | exact Ch.refl _ _ | exact (Ch.refl _ _).alloc _ | exact ((Ch.refl _ _).alloc _).alloc _
    replace HKW := Lib.hid (HKW.out.kept n (fun _ _ e => e))
    replace NX := Lib.hid (NX.out.trans n)
    replace HO := Lib.hid (HO.out.ch' n (fun _ _ e => e))
    clear hW n
    refine text_any W29.heap.size PP _ _ _ (ORow.prog (L := PP) HO.out) (Nat.le_refl _) HKW.out (by omega) HN9.out ?_
    intro w30 n
    replace HKW := Lib.hid (HKW.out.kept n (fun _ _ e => e))
    replace NX := Lib.hid (NX.out.trans n)
    replace HO := Lib.hid (HO.out.ch' n (fun _ _ e => e))
    clear n
    obtain ⟨TB, hTB⟩ : ∃ X, (⟨(textM PP).toArray⟩ : ByteArray) = X := ⟨_, rfl⟩
    have HTB := Lib.hid (show TB.data.toList = textM PP from by rw [← hTB])
    have htz : TB.size ≤ 6000 := by rw [← hTB]; show (List.toArray _).size ≤ 6000; rw [List.size_toArray]; exact hts
    rw [hTB]
    clear hTB hts
    go_wp2_with (go_at_call 18; fail)
    refine Calls_nm ?_
    intro W31 hW
    have n : Nw w30 W31 := by rw [hW]; first | exact Ch.refl _ _ | exact (Ch.refl _ _).alloc _ | exact ((Ch.refl _ _).alloc _).alloc _
    replace HKW := Lib.hid (HKW.out.kept n (fun _ _ e => e))
    replace NX := Lib.hid (NX.out.trans n)
    replace HO := Lib.hid (HO.out.ch' n (fun _ _ e => e))
    clear hW n
    refine parse_any TB _ _ (by omega) HKW.out ?_
    rw [HTB.out, HPT.out]
    intro w32 xq hq n
    replace HKW := Lib.hid (HKW.out.kept n (fun _ _ e => e))
    replace NX := Lib.hid (NX.out.trans n)
    replace HO := Lib.hid (HO.out.ch' n (fun _ _ e => e))
    clear n
    have HQ := Lib.hid (show ORow w32 _ xq PP from hq)
    obtain ⟨Aq, cq, eq⟩ := hq.form
    subst eq
    clear hq
    go_wp2_with (go_at_call 18; fail)
    refine Calls_nm ?_
    intro W33 hW
    have n : Nw w32 W33 := by rw [hW]; first | exact Ch.refl _ _ | exact (Ch.refl _ _).alloc _ | exact ((Ch.refl _ _).alloc _).alloc _
    replace HKW := Lib.hid (HKW.out.kept n (fun _ _ e => e))
    replace NX := Lib.hid (NX.out.trans n)
    replace HO := Lib.hid (HO.out.ch' n (fun _ _ e => e))
    replace HQ := Lib.hid (HQ.out.ch' n (fun _ _ e => e))
    clear hW n
    refine parse_any S _ _ (by omega) HKW.out ?_
    have hpl := (parseC_len S.data.toList)
    have hp2 := parseC_two S.data.toList
    obtain ⟨P9, hP9⟩ : ∃ x, (parseC S.data.toList).1 = x := ⟨_, rfl⟩
    obtain ⟨b9, hb9⟩ : ∃ x, (parseC S.data.toList).2 = x := ⟨_, rfl⟩
    rw [hP9] at hpl
    rw [hP9, hb9] at hp2 ⊢
    clear hP9 hb9
    obtain ⟨hpl, hpn⟩ := hpl
    have hsl : S.data.toList.length = S.size := by simp
    rw [hsl] at hpl
    clear hsl
    intro w34 xr hr n
    replace HKW := Lib.hid (HKW.out.kept n (fun _ _ e => e))
    replace NX := Lib.hid (NX.out.trans n)
    replace HO := Lib.hid (HO.out.ch' n (fun _ _ e => e))
    replace HQ := Lib.hid (HQ.out.ch' n (fun _ _ e => e))
    clear n
    have HRR := Lib.hid (show ORow w34 _ xr P9 from hr)
    obtain ⟨Ar, cr, er⟩ := hr.form
    subst er
    clear hr
    have HPN := Lib.hid hpn
    clear hpn
    go_wp2_with (go_at_call 18; fail)
    refine Calls_nm ?_
    intro W35 hW
    have n : Nw w34 W35 := by rw [hW]; first | exact Ch.refl _ _ | exact (Ch.refl _ _).alloc _ | exact ((Ch.refl _ _).alloc _).alloc _
    replace HKW := Lib.hid (HKW.out.kept n (fun _ _ e => e))
    replace NX := Lib.hid (NX.out.trans n)
    replace HO := Lib.hid (HO.out.ch' n (fun _ _ e => e))
    replace HQ := Lib.hid (HQ.out.ch' n (fun _ _ e => e))
    replace HRR := Lib.hid (HRR.out.ch' n (fun _ _ e => e))
    clear hW n
    refine sameO_any PP PP _ _ _ _ _ _ (CRow.isC HO.out) (CRow.isC HQ.out) (by omega) (by omega) ?_
    intro w36 n
    replace HKW := Lib.hid (HKW.out.kept n (fun _ _ e => e))
    replace NX := Lib.hid (NX.out.trans n)
    replace HO := Lib.hid (HO.out.ch' n (fun _ _ e => e))
    replace HQ := Lib.hid (HQ.out.ch' n (fun _ _ e => e))
    replace HRR := Lib.hid (HRR.out.ch' n (fun _ _ e => e))
    clear n
    rw [decide_eq_true rfl]
    rcases hp2 with ⟨ht, hb⟩ | ⟨ht, hb⟩
    · as_aux_lemma =>
      subst hb
      have HT := Lib.hid ht
      clear ht
      go_wp2_with (go_at_call 18; fail)
      refine Calls_nm ?_
      intro W37 hW
      have n : Nw w36 W37 := by rw [hW]; first | exact Ch.refl _ _ | exact (Ch.refl _ _).alloc _ | exact ((Ch.refl _ _).alloc _).alloc _
      replace HKW := Lib.hid (HKW.out.kept n (fun _ _ e => e))
      replace NX := Lib.hid (NX.out.trans n)
      replace HO := Lib.hid (HO.out.ch' n (fun _ _ e => e))
      replace HQ := Lib.hid (HQ.out.ch' n (fun _ _ e => e))
      replace HRR := Lib.hid (HRR.out.ch' n (fun _ _ e => e))
      clear hW n
      refine text_any W37.heap.size P9 _ _ _ (ORow.prog (L := P9) HRR.out) (Nat.le_refl _) HKW.out (by omega) HPN.out ?_
      intro w38 n
      replace HKW := Lib.hid (HKW.out.kept n (fun _ _ e => e))
      replace NX := Lib.hid (NX.out.trans n)
      replace HO := Lib.hid (HO.out.ch' n (fun _ _ e => e))
      replace HQ := Lib.hid (HQ.out.ch' n (fun _ _ e => e))
      replace HRR := Lib.hid (HRR.out.ch' n (fun _ _ e => e))
      clear n
      rw [HT.out]
      rw [show (⟨S.data.toList.toArray⟩ : ByteArray) = S from by simp]
      have te : (S.toList != S.toList) = false := by simp
      go_wp2
      exact HR.out _ NX.out
    · as_aux_lemma =>
      subst hb
      have h0 : P9.length = 0 := by rw [ht]; rfl
      clear ht
      go_wp2
      exact HR.out _ NX.out

end Go.Proofs.YtdpbdcaefdcooaaDoor
