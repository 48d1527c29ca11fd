/-
  ref12.Odd: a string that is changed in one place.
-/
import Derived.Test.YtnibgjpbijlhbaaDoorDec
import Derived.Test.YtnibgjpbijlhbaaDoorDrw
import Derived.Test.YtnibgjpbijlhbaaDoorNl
namespace Go.Proofs.YtnibgjpbijlhbaaDoor
open Go.RowKit Go.Shelf
set_option linter.unusedVariables false
set_option linter.unusedSimpArgs false
set_option maxRecDepth 100000

theorem ex_take (s : ByteArray) (m : Nat) : s.extract 0 m = ⟨(s.data.toList.take m).toArray⟩ := by
  rw [extract_sub]; unfold sub; rw [List.drop_zero, Nat.sub_zero]
theorem ex_drop (s : ByteArray) (m n : Nat) (h : n = s.size) : s.extract m n = ⟨(s.data.toList.drop m).toArray⟩ := by
  subst h
  rw [extract_sub]; unfold sub; rw [List.take_of_length_le]; rw [List.length_drop, ba_len]; omega
theorem one_ba (c : UInt8) : (⟨#[c]⟩ : ByteArray) = ⟨[c].toArray⟩ := rfl
/-- What a change in one place does: a byte more, a byte less, another byte. -/
theorem odd_ins (s : ByteArray) (m n : Nat) (c : UInt8) (hm : m ≤ s.size) (h : n = s.size) : (s.extract 0 m ++ ⟨#[c]⟩ ++ s.extract m n).size ≤ s.size + 1 ∧ lev s.data.toList (s.extract 0 m ++ ⟨#[c]⟩ ++ s.extract m n).data.toList ≤ 1 := by
  rw [ex_take, ex_drop s m n h, one_ba, str_app, str_app]
  constructor
  · show (List.toArray _).size ≤ _
    rw [List.size_toArray]
    have := ba_len s
    simp only [List.length_append, List.length_take, List.length_drop, List.length_cons, List.length_nil]
    omega
  · have := lev_one_ins (s.data.toList.take m) (s.data.toList.drop m) c
    rw [List.take_append_drop] at this
    simpa using this
theorem odd_del (s : ByteArray) (m n k : Nat) (hm : m ≤ s.size) (h : n = s.size) (hk : k = if m + 1 ≤ s.size then m + 1 else s.size) : (s.extract 0 m ++ s.extract k n).size ≤ s.size + 1 ∧ lev s.data.toList (s.extract 0 m ++ s.extract k n).data.toList ≤ 1 := by
  rw [ex_take, ex_drop s k n h, str_app]
  have hl := ba_len s
  constructor
  · show (List.toArray _).size ≤ _
    rw [List.size_toArray]
    simp only [List.length_append, List.length_take, List.length_drop]
    split at hk <;> omega
  · split at hk
    · subst hk
      have := lev_one_del (s.data.toList.take m) (s.data.toList.drop (m + 1)) (at0 s.data.toList m)
      rw [List.singleton_append, ← drop_at (by omega), List.take_append_drop] at this
      simpa using this
    · subst hk
      rw [List.drop_of_length_le (by omega), List.append_nil, List.take_of_length_le (by omega)]
      simp [lev_self]
theorem odd_sub (s : ByteArray) (m n k : Nat) (c : UInt8) (hm : m ≤ s.size) (h : n = s.size) (hk : k = if m + 1 ≤ s.size then m + 1 else s.size) : (s.extract 0 m ++ ⟨#[c]⟩ ++ s.extract k n).size ≤ s.size + 1 ∧ lev s.data.toList (s.extract 0 m ++ ⟨#[c]⟩ ++ s.extract k n).data.toList ≤ 1 := by
  rw [ex_take, ex_drop s k n h, one_ba, str_app, str_app]
  have hl := ba_len s
  constructor
  · show (List.toArray _).size ≤ _
    rw [List.size_toArray]
    simp only [List.length_append, List.length_take, List.length_drop, List.length_cons, List.length_nil]
    split at hk <;> omega
  · split at hk
    · subst hk
      have := lev_one_sub (s.data.toList.take m) (s.data.toList.drop (m + 1)) (at0 s.data.toList m) c
      rw [List.singleton_append, ← drop_at (by omega), List.take_append_drop] at this
      simpa using this
    · subst hk
      rw [List.drop_of_length_le (by omega), List.append_nil, List.take_of_length_le (by omega)]
      have := lev_one_ins s.data.toList [] c
      simpa using this
/-- The changed string. -/
def oddB (s : ByteArray) (q0 q1 q2 : Int) : ByteArray :=
  let m := (q1 % ((s.size : Int) + 1)).toNat
  let c : UInt8 := UInt8.ofNat (q2 % 256).toNat
  let j := if m + 1 ≤ s.size then m + 1 else s.size
  if q0 % 5 = 0 then s.extract 0 m ++ ⟨#[c]⟩ ++ s.extract m s.size
  else if q0 % 5 = 1 then s.extract 0 m ++ ⟨#[45]⟩ ++ s.extract m s.size
  else if q0 % 5 = 2 then s.extract 0 m ++ ⟨#[48]⟩ ++ s.extract m s.size
  else if q0 % 5 = 3 then s.extract 0 m ++ s.extract j s.size
  else s.extract 0 m ++ ⟨#[c]⟩ ++ s.extract j s.size
theorem oddB_eq {s : ByteArray} {q0 q1 q2 : Int} {m j : Nat} {c : UInt8} (hm : (q1 % ((s.size : Int) + 1)).toNat = m) (hc : UInt8.ofNat (q2 % 256).toNat = c) (hj : j = if m + 1 ≤ s.size then m + 1 else s.size) : oddB s q0 q1 q2 =
    if q0 % 5 = 0 then s.extract 0 m ++ ⟨#[c]⟩ ++ s.extract m s.size
    else if q0 % 5 = 1 then s.extract 0 m ++ ⟨#[45]⟩ ++ s.extract m s.size
    else if q0 % 5 = 2 then s.extract 0 m ++ ⟨#[48]⟩ ++ s.extract m s.size
    else if q0 % 5 = 3 then s.extract 0 m ++ s.extract j s.size
    else s.extract 0 m ++ ⟨#[c]⟩ ++ s.extract j s.size := by
  subst hm hc hj
  rfl
/-- The least of two integers. -/
theorem goes_min2 {P : Program} {ops : Array Oper} {F : World → Prop} {o : Oper} {a : Act} {w0 : World} (x y : Operand) (ts : Array TypeId) (u v m : Int) (hw : Region.wanted o (yielded ops a.tmps) = true)
    (ho : o.op = .call { callee := .builtin .min, args := #[x, y], argTypes := ts }) (hx : a.eval x = .int .i64 u) (hy : a.eval y = .int .i64 v) (hm : m = (if v < u then v else u)) : Goes P ops F w0 o (.int .i64 m) a :=
  goes_read hw fun w _ => by
    subst hm
    clear hw
    generalize a.eval = ev at hx hy ⊢
    simp [execOp, ho, hx, hy, go_sem, Result.andThen]
    try (split <;> omega)

set_option maxHeartbeats 8000000 in
theorem odd_any (s : ByteArray) (q0 q1 q2 : Int) (w : World) (R : Ending → World → Prop) (hs : s.size ≤ 900000) (h0 : wfI q0) (h1 : wfI q1) (h2 : wfI q2)
    (hR : ∀ w' (t : ByteArray), t.size ≤ s.size + 1 → lev s.data.toList t.data.toList ≤ 1 → t = oddB s q0 q1 q2 → Nw w w' → R (.returned (.string t)) w') : Calls Tryd.prog 26 #[.string s, .agg #[.int .i64 q0, .int .i64 q1, .int .i64 q2]] w R := by
  have HR := Lib.hid hR
  clear hR
  have WQ0 := Lib.hid h0
  have WQ1 := Lib.hid h1
  have WQ2 := Lib.hid h2
  clear h0 h1 h2
  have NX := Lib.hid (Ch.refl (fun _ => False) w)
  go_enter Tryd.func26, Tryd.ntmps26
  go_wp2_with (go_at_call 41; fail)
  refine Calls_nm ?_
  intro W1 hW
  have n : Nw w W1 := by rw [hW]; exact (Ch.refl _ _).alloc _
  replace NX := Lib.hid (NX.out.trans n)
  have HQ := Lib.hid (show W1.heap[w.heap.size]? = some (.cells #[.int .i64 q0, .int .i64 q1, .int .i64 q2] 23 (0, 0)) from by rw [hW]; exact heap_alloc_eq _ rfl)
  clear hW n
  refine Mod_any _ _ _ _ WQ1.out (by omega) (by omega) ?_
  have m0 := Int.emod_nonneg q1 (show ((s.size : Int) + 1) ≠ 0 by omega)
  have m1 := Int.emod_lt_of_pos q1 (show 0 < (s.size : Int) + 1 by omega)
  obtain ⟨m, hm⟩ : ∃ m : Nat, (m : Int) = q1 % ((s.size : Int) + 1) := ⟨(q1 % ((s.size : Int) + 1)).toNat, by omega⟩
  have HMM := Lib.hid (show (q1 % ((s.size : Int) + 1)).toNat = m by omega)
  rw [← hm] at m0 m1 ⊢
  have mle : m ≤ s.size := by omega
  have mi : (m : Int) ≤ (s.size : Int) := by omega
  clear hm m1
  have kHQ0 : W1.cell? ⟨w.heap.size, 0, none⟩ = some (.int .i64 q0) := by rw [cell_of HQ.out]; rfl
  have jHQ0 : ∀ o, (W1.alloc o).cell? ⟨w.heap.size, 0, none⟩ = some (.int .i64 q0) := fun o => cell_alloc_old o kHQ0
  have kHQ1 : W1.cell? ⟨w.heap.size, 1, none⟩ = some (.int .i64 q1) := by rw [cell_of HQ.out]; rfl
  have jHQ1 : ∀ o, (W1.alloc o).cell? ⟨w.heap.size, 1, none⟩ = some (.int .i64 q1) := fun o => cell_alloc_old o kHQ1
  have kHQ2 : W1.cell? ⟨w.heap.size, 2, none⟩ = some (.int .i64 q2) := by rw [cell_of HQ.out]; rfl
  have jHQ2 : ∀ o, (W1.alloc o).cell? ⟨w.heap.size, 2, none⟩ = some (.int .i64 q2) := fun o => cell_alloc_old o kHQ2
  go_wp2_with (go_at_call 41; fail)
  clear kHQ0 jHQ0 kHQ1 jHQ1 kHQ2 jHQ2
  refine Mod_any _ _ _ _ WQ2.out (by omega) (by omega) ?_
  have c0 := Int.emod_nonneg q2 (show (256 : Int) ≠ 0 by omega)
  have c1 := Int.emod_lt_of_pos q2 (show (0 : Int) < 256 by omega)
  obtain ⟨z, hz⟩ : ∃ z, q2 % 256 = z := ⟨_, rfl⟩
  rw [hz] at c0 c1 ⊢
  obtain ⟨c, hcc⟩ : ∃ c : UInt8, UInt8.ofNat (q2 % 256).toNat = c := ⟨_, rfl⟩
  have HCQ := Lib.hid hcc
  have hc : (c.toNat : Int) = z := by rw [← hcc, hz, UInt8.toNat_ofNat_of_lt' (by simp [UInt8.size]; omega)]; omega
  clear hz hcc
  have ec := str_one c z hc
  have uz : IntKind.u8.wrap z = z := by rw [← hc]; simp [IntKind.wrap, IntKind.bits, IntKind.signed]; have := UInt8.toNat_lt c; omega
  clear hc
  have kHQ0 : W1.cell? ⟨w.heap.size, 0, none⟩ = some (.int .i64 q0) := by rw [cell_of HQ.out]; rfl
  have jHQ0 : ∀ o, (W1.alloc o).cell? ⟨w.heap.size, 0, none⟩ = some (.int .i64 q0) := fun o => cell_alloc_old o kHQ0
  have kHQ1 : W1.cell? ⟨w.heap.size, 1, none⟩ = some (.int .i64 q1) := by rw [cell_of HQ.out]; rfl
  have jHQ1 : ∀ o, (W1.alloc o).cell? ⟨w.heap.size, 1, none⟩ = some (.int .i64 q1) := fun o => cell_alloc_old o kHQ1
  have kHQ2 : W1.cell? ⟨w.heap.size, 2, none⟩ = some (.int .i64 q2) := by rw [cell_of HQ.out]; rfl
  have jHQ2 : ∀ o, (W1.alloc o).cell? ⟨w.heap.size, 2, none⟩ = some (.int .i64 q2) := fun o => cell_alloc_old o kHQ2
  go_wp2_with (go_at_call 41; fail)
  clear kHQ0 jHQ0 kHQ1 jHQ1 kHQ2 jHQ2
  refine Calls_nm ?_
  intro W2 hW
  have n : Nw W1 W2 := by rw [hW]; first | exact Ch.refl _ _ | exact (Ch.refl _ _).alloc _
  replace NX := Lib.hid (NX.out.trans n)
  replace HQ := Lib.hid (n.heap HQ.out id)
  clear hW n
  clear ec uz
  refine Mod_any _ _ _ _ WQ0.out (by omega) (by omega) ?_
  have k0 := Int.emod_nonneg q0 (show (5 : Int) ≠ 0 by omega)
  have k1 := Int.emod_lt_of_pos q0 (show (0 : Int) < 5 by omega)
  obtain ⟨kk, hkk⟩ : ∃ k, q0 % 5 = k := ⟨_, rfl⟩
  rw [hkk] at k0 k1 ⊢
  have HKK := Lib.hid hkk
  clear hkk
  have um : IntKind.i64.wrap ((m : Int) + 1) = (m : Int) + 1 := by rw [IntKind.wrap_i64]; omega
  obtain ⟨j, hj⟩ : ∃ j : Nat, j = if m + 1 ≤ s.size then m + 1 else s.size := ⟨_, rfl⟩
  have j0 : (0 : Int) ≤ (j : Int) := by omega
  have j1 : (j : Int) ≤ (s.size : Int) := by split at hj <;> omega
  have ej : (j : Int) = if (s.size : Int) < (m : Int) + 1 then (s.size : Int) else (m : Int) + 1 := by rw [hj]; split <;> split <;> omega
  have HJ := Lib.hid hj
  have EJ := Lib.hid ej
  clear hj ej
  have zE : (s.extract 0 m).size ≤ 900000 := by rw [ByteArray.size_extract]; omega
  have zC : (s.extract 0 m ++ ⟨#[c]⟩).size ≤ 900001 := by rw [ByteArray.size_append]; exact Nat.add_le_add zE (Nat.le_refl 1)
  have zD : (s.extract 0 m ++ ⟨#[45]⟩).size ≤ 900001 := by rw [ByteArray.size_append]; exact Nat.add_le_add zE (Nat.le_refl 1)
  have z0 : (s.extract 0 m ++ ⟨#[48]⟩).size ≤ 900001 := by rw [ByteArray.size_append]; exact Nat.add_le_add zE (Nat.le_refl 1)
  have zX : (s.extract m s.size).size ≤ 900000 := by rw [ByteArray.size_extract]; omega
  have zJ : (s.extract j s.size).size ≤ 900000 := by rw [ByteArray.size_extract]; omega
  have ZE := Lib.hid zE
  have ZC := Lib.hid zC
  have ZD := Lib.hid zD
  have Z0 := Lib.hid z0
  have ZX := Lib.hid zX
  have ZJ := Lib.hid zJ
  clear zE zC zD z0 zX zJ
  have hk : kk = 0 ∨ kk = 1 ∨ kk = 2 ∨ kk = 3 ∨ kk = 4 := by omega
  clear k0 k1
  rcases hk with rfl | rfl | rfl | rfl | rfl
  · as_aux_lemma =>
    go_upto_region 5 with (fail)
    refine wp_named ?_
    intro W3 hW
    have n : Nw W2 W3 := by rw [hW]; first | exact Ch.refl _ _ | exact (Ch.refl _ _).alloc _
    replace NX := Lib.hid (NX.out.trans n)
    replace HQ := Lib.hid (n.heap HQ.out id)
    clear hW n
    refine wp_region_V (F := fun w' => True) (opsOf Tryd.f26 5) 10 10 (by kernel_rfl) (by kernel_rfl) (by kernel_rfl) (fun w w' h n => True.intro) True.intro (fun HOPS HCL hHeld => ?_)
    refine wpU_named ?_
    intro W4 hW
    try rw [← hW] at hHeld
    have n : Nw W3 W4 := by rw [hW]; exact (Ch.refl _ _).drew
    replace NX := Lib.hid (NX.out.trans n)
    replace HQ := Lib.hid (n.heap HQ.out id)
    clear hW n
    first | (refine wpU_takeB (i := 0) (v := ?_) HOPS rfl (by kernel_rfl) (fun _ _ _ h => h) HCL (goes_read (by rfl) ?hy) ?_; case hy => (intro w hSw; (try dsimp only at hSw); go_simp; (try with_reducible rfl))) | (refine wpU_takeB (i := 0) (v := _) HOPS rfl (by kernel_rfl) (fun _ _ _ h => h) HCL (goes_not (by rfl)) ?_)
    try simp only [Act.put, List.getElem_toArray, List.getElem_cons_succ, List.getElem_cons_zero, List.setIfInBounds_toArray, List.set_cons_zero, List.set_cons_succ]
    first | (refine wpU_takeB (i := 1) (v := ?_) HOPS rfl (by kernel_rfl) (fun _ _ _ h => h) HCL (goes_read (by rfl) ?hy) ?_; case hy => (intro w hSw; (try dsimp only at hSw); go_simp; (try with_reducible rfl))) | (refine wpU_takeB (i := 1) (v := _) HOPS rfl (by kernel_rfl) (fun _ _ _ h => h) HCL (goes_not (by rfl)) ?_)
    try simp only [Act.put, List.getElem_toArray, List.getElem_cons_succ, List.getElem_cons_zero, List.setIfInBounds_toArray, List.set_cons_zero, List.set_cons_succ]
    first | (refine wpU_takeB (i := 2) (v := ?_) HOPS rfl (by kernel_rfl) (fun _ _ _ h => h) HCL (goes_read (by rfl) ?hy) ?_; case hy => (intro w hSw; (try dsimp only at hSw); go_simp; (try with_reducible rfl))) | (refine wpU_takeB (i := 2) (v := _) HOPS rfl (by kernel_rfl) (fun _ _ _ h => h) HCL (goes_not (by rfl)) ?_)
    try simp only [Act.put, List.getElem_toArray, List.getElem_cons_succ, List.getElem_cons_zero, List.setIfInBounds_toArray, List.set_cons_zero, List.set_cons_succ]
    first | (refine wpU_takeB (i := 3) (v := ?_) HOPS rfl (by kernel_rfl) (fun _ _ _ h => h) HCL (goes_read (by rfl) ?hy) ?_; case hy => (intro w hSw; (try dsimp only at hSw); go_simp; (try with_reducible rfl))) | (refine wpU_takeB (i := 3) (v := _) HOPS rfl (by kernel_rfl) (fun _ _ _ h => h) HCL (goes_not (by rfl)) ?_)
    try simp only [Act.put, List.getElem_toArray, List.getElem_cons_succ, List.getElem_cons_zero, List.setIfInBounds_toArray, List.set_cons_zero, List.set_cons_succ]
    first | (refine wpU_takeB (i := 5) (v := ?_) HOPS rfl (by kernel_rfl) (fun _ _ _ h => h) HCL (goes_read (by rfl) ?hy) ?_; case hy => (intro w hSw; (try dsimp only at hSw); go_simp; (try with_reducible rfl))) | (refine wpU_takeB (i := 5) (v := _) HOPS rfl (by kernel_rfl) (fun _ _ _ h => h) HCL (goes_not (by rfl)) ?_)
    try simp only [Act.put, List.getElem_toArray, List.getElem_cons_succ, List.getElem_cons_zero, List.setIfInBounds_toArray, List.set_cons_zero, List.set_cons_succ]
    first | (refine wpU_takeB (i := 6) (v := ?_) HOPS rfl (by kernel_rfl) (fun _ _ _ h => h) HCL (goes_read (by rfl) ?hy) ?_; case hy => (intro w hSw; (try dsimp only at hSw); go_simp; (try with_reducible rfl))) | (refine wpU_takeB (i := 6) (v := _) HOPS rfl (by kernel_rfl) (fun _ _ _ h => h) HCL (goes_not (by rfl)) ?_)
    try simp only [Act.put, List.getElem_toArray, List.getElem_cons_succ, List.getElem_cons_zero, List.setIfInBounds_toArray, List.set_cons_zero, List.set_cons_succ]
    first | (refine wpU_takeB (i := 7) (v := ?_) HOPS rfl (by kernel_rfl) (fun _ _ _ h => h) HCL (goes_read (by rfl) ?hy) ?_; case hy => (intro w hSw; (try dsimp only at hSw); go_simp; (try with_reducible rfl))) | (refine wpU_takeB (i := 7) (v := _) HOPS rfl (by kernel_rfl) (fun _ _ _ h => h) HCL (goes_not (by rfl)) ?_)
    try simp only [Act.put, List.getElem_toArray, List.getElem_cons_succ, List.getElem_cons_zero, List.setIfInBounds_toArray, List.set_cons_zero, List.set_cons_succ]
    refine wpU_takeB (i := 4) HOPS rfl (by kernel_rfl) (fun _ _ _ h => h) HCL (goes_cat _ _ _ _ _ _ _ _ (by rfl) rfl (by rfl) (by rfl) ZE.out (by show (#[(_ : UInt8)] : Array UInt8).size ≤ 1; exact Nat.le_refl 1) (by decide)) ?_
    try simp only [Act.put, List.getElem_toArray, List.getElem_cons_succ, List.getElem_cons_zero, List.setIfInBounds_toArray, List.set_cons_zero, List.set_cons_succ]
    refine wpU_takeB (i := 8) HOPS rfl (by kernel_rfl) (fun _ _ _ h => h) HCL (goes_cat _ _ _ _ _ _ _ _ (by rfl) rfl (by rfl) (by rfl) ZC.out ZX.out (by decide)) ?_
    try simp only [Act.put, List.getElem_toArray, List.getElem_cons_succ, List.getElem_cons_zero, List.setIfInBounds_toArray, List.set_cons_zero, List.set_cons_succ]
    first | (refine wpU_takeB (i := 9) (v := ?_) HOPS rfl (by kernel_rfl) (fun _ _ _ h => h) HCL (goes_read (by rfl) ?hy) ?_; case hy => (intro w hSw; (try dsimp only at hSw); go_simp; (try with_reducible rfl))) | (refine wpU_takeB (i := 9) (v := _) HOPS rfl (by kernel_rfl) (fun _ _ _ h => h) HCL (goes_not (by rfl)) ?_)
    try simp only [Act.put, List.getElem_toArray, List.getElem_cons_succ, List.getElem_cons_zero, List.setIfInBounds_toArray, List.set_cons_zero, List.set_cons_succ]
    refine wpU_done (by kernel_rfl) (fun w5 hle => ?_) _
    have n := (hle.ahead (by kernel_rfl)).1
    replace NX := Lib.hid (NX.out.trans n)
    replace HQ := Lib.hid (n.heap HQ.out id)
    clear n
    clear HOPS HCL hle
    repeat clear hHeld
    go_wp2_with (fail)
    obtain ⟨f1, f2⟩ := odd_ins s m s.size c mle rfl
    exact HR.out _ _ f1 f2 (by rw [oddB_eq HMM.out HCQ.out HJ.out, HKK.out]; simp) NX.out
  · as_aux_lemma =>
    go_upto_region 7 with (fail)
    refine wp_named ?_
    intro W6 hW
    have n : Nw W2 W6 := by rw [hW]; first | exact Ch.refl _ _ | exact (Ch.refl _ _).alloc _
    replace NX := Lib.hid (NX.out.trans n)
    replace HQ := Lib.hid (n.heap HQ.out id)
    clear hW n
    refine wp_region_V (F := fun w' => True) (opsOf Tryd.f26 7) 9 9 (by kernel_rfl) (by kernel_rfl) (by kernel_rfl) (fun w w' h n => True.intro) True.intro (fun HOPS HCL hHeld => ?_)
    refine wpU_named ?_
    intro W7 hW
    try rw [← hW] at hHeld
    have n : Nw W6 W7 := by rw [hW]; exact (Ch.refl _ _).drew
    replace NX := Lib.hid (NX.out.trans n)
    replace HQ := Lib.hid (n.heap HQ.out id)
    clear hW n
    first | (refine wpU_takeB (i := 0) (v := ?_) HOPS rfl (by kernel_rfl) (fun _ _ _ h => h) HCL (goes_read (by rfl) ?hy) ?_; case hy => (intro w hSw; (try dsimp only at hSw); go_simp; (try with_reducible rfl))) | (refine wpU_takeB (i := 0) (v := _) HOPS rfl (by kernel_rfl) (fun _ _ _ h => h) HCL (goes_not (by rfl)) ?_)
    try simp only [Act.put, List.getElem_toArray, List.getElem_cons_succ, List.getElem_cons_zero, List.setIfInBounds_toArray, List.set_cons_zero, List.set_cons_succ]
    first | (refine wpU_takeB (i := 1) (v := ?_) HOPS rfl (by kernel_rfl) (fun _ _ _ h => h) HCL (goes_read (by rfl) ?hy) ?_; case hy => (intro w hSw; (try dsimp only at hSw); go_simp; (try with_reducible rfl))) | (refine wpU_takeB (i := 1) (v := _) HOPS rfl (by kernel_rfl) (fun _ _ _ h => h) HCL (goes_not (by rfl)) ?_)
    try simp only [Act.put, List.getElem_toArray, List.getElem_cons_succ, List.getElem_cons_zero, List.setIfInBounds_toArray, List.set_cons_zero, List.set_cons_succ]
    first | (refine wpU_takeB (i := 2) (v := ?_) HOPS rfl (by kernel_rfl) (fun _ _ _ h => h) HCL (goes_read (by rfl) ?hy) ?_; case hy => (intro w hSw; (try dsimp only at hSw); go_simp; (try with_reducible rfl))) | (refine wpU_takeB (i := 2) (v := _) HOPS rfl (by kernel_rfl) (fun _ _ _ h => h) HCL (goes_not (by rfl)) ?_)
    try simp only [Act.put, List.getElem_toArray, List.getElem_cons_succ, List.getElem_cons_zero, List.setIfInBounds_toArray, List.set_cons_zero, List.set_cons_succ]
    first | (refine wpU_takeB (i := 4) (v := ?_) HOPS rfl (by kernel_rfl) (fun _ _ _ h => h) HCL (goes_read (by rfl) ?hy) ?_; case hy => (intro w hSw; (try dsimp only at hSw); go_simp; (try with_reducible rfl))) | (refine wpU_takeB (i := 4) (v := _) HOPS rfl (by kernel_rfl) (fun _ _ _ h => h) HCL (goes_not (by rfl)) ?_)
    try simp only [Act.put, List.getElem_toArray, List.getElem_cons_succ, List.getElem_cons_zero, List.setIfInBounds_toArray, List.set_cons_zero, List.set_cons_succ]
    first | (refine wpU_takeB (i := 5) (v := ?_) HOPS rfl (by kernel_rfl) (fun _ _ _ h => h) HCL (goes_read (by rfl) ?hy) ?_; case hy => (intro w hSw; (try dsimp only at hSw); go_simp; (try with_reducible rfl))) | (refine wpU_takeB (i := 5) (v := _) HOPS rfl (by kernel_rfl) (fun _ _ _ h => h) HCL (goes_not (by rfl)) ?_)
    try simp only [Act.put, List.getElem_toArray, List.getElem_cons_succ, List.getElem_cons_zero, List.setIfInBounds_toArray, List.set_cons_zero, List.set_cons_succ]
    first | (refine wpU_takeB (i := 6) (v := ?_) HOPS rfl (by kernel_rfl) (fun _ _ _ h => h) HCL (goes_read (by rfl) ?hy) ?_; case hy => (intro w hSw; (try dsimp only at hSw); go_simp; (try with_reducible rfl))) | (refine wpU_takeB (i := 6) (v := _) HOPS rfl (by kernel_rfl) (fun _ _ _ h => h) HCL (goes_not (by rfl)) ?_)
    try simp only [Act.put, List.getElem_toArray, List.getElem_cons_succ, List.getElem_cons_zero, List.setIfInBounds_toArray, List.set_cons_zero, List.set_cons_succ]
    refine wpU_takeB (i := 3) HOPS rfl (by kernel_rfl) (fun _ _ _ h => h) HCL (goes_cat _ _ _ _ _ _ _ _ (by rfl) rfl (by rfl) (by rfl) ZE.out (by show (#[(_ : UInt8)] : Array UInt8).size ≤ 1; exact Nat.le_refl 1) (by decide)) ?_
    try simp only [Act.put, List.getElem_toArray, List.getElem_cons_succ, List.getElem_cons_zero, List.setIfInBounds_toArray, List.set_cons_zero, List.set_cons_succ]
    refine wpU_takeB (i := 7) HOPS rfl (by kernel_rfl) (fun _ _ _ h => h) HCL (goes_cat _ _ _ _ _ _ _ _ (by rfl) rfl (by rfl) (by rfl) ZD.out ZX.out (by decide)) ?_
    try simp only [Act.put, List.getElem_toArray, List.getElem_cons_succ, List.getElem_cons_zero, List.setIfInBounds_toArray, List.set_cons_zero, List.set_cons_succ]
    first | (refine wpU_takeB (i := 8) (v := ?_) HOPS rfl (by kernel_rfl) (fun _ _ _ h => h) HCL (goes_read (by rfl) ?hy) ?_; case hy => (intro w hSw; (try dsimp only at hSw); go_simp; (try with_reducible rfl))) | (refine wpU_takeB (i := 8) (v := _) HOPS rfl (by kernel_rfl) (fun _ _ _ h => h) HCL (goes_not (by rfl)) ?_)
    try simp only [Act.put, List.getElem_toArray, List.getElem_cons_succ, List.getElem_cons_zero, List.setIfInBounds_toArray, List.set_cons_zero, List.set_cons_succ]
    refine wpU_done (by kernel_rfl) (fun w8 hle => ?_) _
    have n := (hle.ahead (by kernel_rfl)).1
    replace NX := Lib.hid (NX.out.trans n)
    replace HQ := Lib.hid (n.heap HQ.out id)
    clear n
    clear HOPS HCL hle
    repeat clear hHeld
    go_wp2_with (fail)
    obtain ⟨f1, f2⟩ := odd_ins s m s.size 45 mle rfl
    exact HR.out _ _ f1 f2 (by rw [oddB_eq HMM.out HCQ.out HJ.out, HKK.out]; simp) NX.out
  · as_aux_lemma =>
    go_upto_region 9 with (fail)
    refine wp_named ?_
    intro W9 hW
    have n : Nw W2 W9 := by rw [hW]; first | exact Ch.refl _ _ | exact (Ch.refl _ _).alloc _
    replace NX := Lib.hid (NX.out.trans n)
    replace HQ := Lib.hid (n.heap HQ.out id)
    clear hW n
    refine wp_region_V (F := fun w' => True) (opsOf Tryd.f26 9) 9 9 (by kernel_rfl) (by kernel_rfl) (by kernel_rfl) (fun w w' h n => True.intro) True.intro (fun HOPS HCL hHeld => ?_)
    refine wpU_named ?_
    intro W10 hW
    try rw [← hW] at hHeld
    have n : Nw W9 W10 := by rw [hW]; exact (Ch.refl _ _).drew
    replace NX := Lib.hid (NX.out.trans n)
    replace HQ := Lib.hid (n.heap HQ.out id)
    clear hW n
    first | (refine wpU_takeB (i := 0) (v := ?_) HOPS rfl (by kernel_rfl) (fun _ _ _ h => h) HCL (goes_read (by rfl) ?hy) ?_; case hy => (intro w hSw; (try dsimp only at hSw); go_simp; (try with_reducible rfl))) | (refine wpU_takeB (i := 0) (v := _) HOPS rfl (by kernel_rfl) (fun _ _ _ h => h) HCL (goes_not (by rfl)) ?_)
    try simp only [Act.put, List.getElem_toArray, List.getElem_cons_succ, List.getElem_cons_zero, List.setIfInBounds_toArray, List.set_cons_zero, List.set_cons_succ]
    first | (refine wpU_takeB (i := 1) (v := ?_) HOPS rfl (by kernel_rfl) (fun _ _ _ h => h) HCL (goes_read (by rfl) ?hy) ?_; case hy => (intro w hSw; (try dsimp only at hSw); go_simp; (try with_reducible rfl))) | (refine wpU_takeB (i := 1) (v := _) HOPS rfl (by kernel_rfl) (fun _ _ _ h => h) HCL (goes_not (by rfl)) ?_)
    try simp only [Act.put, List.getElem_toArray, List.getElem_cons_succ, List.getElem_cons_zero, List.setIfInBounds_toArray, List.set_cons_zero, List.set_cons_succ]
    first | (refine wpU_takeB (i := 2) (v := ?_) HOPS rfl (by kernel_rfl) (fun _ _ _ h => h) HCL (goes_read (by rfl) ?hy) ?_; case hy => (intro w hSw; (try dsimp only at hSw); go_simp; (try with_reducible rfl))) | (refine wpU_takeB (i := 2) (v := _) HOPS rfl (by kernel_rfl) (fun _ _ _ h => h) HCL (goes_not (by rfl)) ?_)
    try simp only [Act.put, List.getElem_toArray, List.getElem_cons_succ, List.getElem_cons_zero, List.setIfInBounds_toArray, List.set_cons_zero, List.set_cons_succ]
    first | (refine wpU_takeB (i := 4) (v := ?_) HOPS rfl (by kernel_rfl) (fun _ _ _ h => h) HCL (goes_read (by rfl) ?hy) ?_; case hy => (intro w hSw; (try dsimp only at hSw); go_simp; (try with_reducible rfl))) | (refine wpU_takeB (i := 4) (v := _) HOPS rfl (by kernel_rfl) (fun _ _ _ h => h) HCL (goes_not (by rfl)) ?_)
    try simp only [Act.put, List.getElem_toArray, List.getElem_cons_succ, List.getElem_cons_zero, List.setIfInBounds_toArray, List.set_cons_zero, List.set_cons_succ]
    first | (refine wpU_takeB (i := 5) (v := ?_) HOPS rfl (by kernel_rfl) (fun _ _ _ h => h) HCL (goes_read (by rfl) ?hy) ?_; case hy => (intro w hSw; (try dsimp only at hSw); go_simp; (try with_reducible rfl))) | (refine wpU_takeB (i := 5) (v := _) HOPS rfl (by kernel_rfl) (fun _ _ _ h => h) HCL (goes_not (by rfl)) ?_)
    try simp only [Act.put, List.getElem_toArray, List.getElem_cons_succ, List.getElem_cons_zero, List.setIfInBounds_toArray, List.set_cons_zero, List.set_cons_succ]
    first | (refine wpU_takeB (i := 6) (v := ?_) HOPS rfl (by kernel_rfl) (fun _ _ _ h => h) HCL (goes_read (by rfl) ?hy) ?_; case hy => (intro w hSw; (try dsimp only at hSw); go_simp; (try with_reducible rfl))) | (refine wpU_takeB (i := 6) (v := _) HOPS rfl (by kernel_rfl) (fun _ _ _ h => h) HCL (goes_not (by rfl)) ?_)
    try simp only [Act.put, List.getElem_toArray, List.getElem_cons_succ, List.getElem_cons_zero, List.setIfInBounds_toArray, List.set_cons_zero, List.set_cons_succ]
    refine wpU_takeB (i := 3) HOPS rfl (by kernel_rfl) (fun _ _ _ h => h) HCL (goes_cat _ _ _ _ _ _ _ _ (by rfl) rfl (by rfl) (by rfl) ZE.out (by show (#[(_ : UInt8)] : Array UInt8).size ≤ 1; exact Nat.le_refl 1) (by decide)) ?_
    try simp only [Act.put, List.getElem_toArray, List.getElem_cons_succ, List.getElem_cons_zero, List.setIfInBounds_toArray, List.set_cons_zero, List.set_cons_succ]
    refine wpU_takeB (i := 7) HOPS rfl (by kernel_rfl) (fun _ _ _ h => h) HCL (goes_cat _ _ _ _ _ _ _ _ (by rfl) rfl (by rfl) (by rfl) Z0.out ZX.out (by decide)) ?_
    try simp only [Act.put, List.getElem_toArray, List.getElem_cons_succ, List.getElem_cons_zero, List.setIfInBounds_toArray, List.set_cons_zero, List.set_cons_succ]
    first | (refine wpU_takeB (i := 8) (v := ?_) HOPS rfl (by kernel_rfl) (fun _ _ _ h => h) HCL (goes_read (by rfl) ?hy) ?_; case hy => (intro w hSw; (try dsimp only at hSw); go_simp; (try with_reducible rfl))) | (refine wpU_takeB (i := 8) (v := _) HOPS rfl (by kernel_rfl) (fun _ _ _ h => h) HCL (goes_not (by rfl)) ?_)
    try simp only [Act.put, List.getElem_toArray, List.getElem_cons_succ, List.getElem_cons_zero, List.setIfInBounds_toArray, List.set_cons_zero, List.set_cons_succ]
    refine wpU_done (by kernel_rfl) (fun w11 hle => ?_) _
    have n := (hle.ahead (by kernel_rfl)).1
    replace NX := Lib.hid (NX.out.trans n)
    replace HQ := Lib.hid (n.heap HQ.out id)
    clear n
    clear HOPS HCL hle
    repeat clear hHeld
    go_wp2_with (fail)
    obtain ⟨f1, f2⟩ := odd_ins s m s.size 48 mle rfl
    exact HR.out _ _ f1 f2 (by rw [oddB_eq HMM.out HCQ.out HJ.out, HKK.out]; simp) NX.out
  · as_aux_lemma =>
    go_upto_region 11 with (fail)
    refine wp_named ?_
    intro W12 hW
    have n : Nw W2 W12 := by rw [hW]; first | exact Ch.refl _ _ | exact (Ch.refl _ _).alloc _
    replace NX := Lib.hid (NX.out.trans n)
    replace HQ := Lib.hid (n.heap HQ.out id)
    clear hW n
    refine wp_region_V (F := fun w' => True) (opsOf Tryd.f26 11) 12 12 (by kernel_rfl) (by kernel_rfl) (by kernel_rfl) (fun w w' h n => True.intro) True.intro (fun HOPS HCL hHeld => ?_)
    refine wpU_named ?_
    intro W13 hW
    try rw [← hW] at hHeld
    have n : Nw W12 W13 := by rw [hW]; exact (Ch.refl _ _).drew
    replace NX := Lib.hid (NX.out.trans n)
    replace HQ := Lib.hid (n.heap HQ.out id)
    clear hW n
    first | (refine wpU_takeB (i := 0) (v := ?_) HOPS rfl (by kernel_rfl) (fun _ _ _ h => h) HCL (goes_read (by rfl) ?hy) ?_; case hy => (intro w hSw; (try dsimp only at hSw); go_simp; (try with_reducible rfl))) | (refine wpU_takeB (i := 0) (v := _) HOPS rfl (by kernel_rfl) (fun _ _ _ h => h) HCL (goes_not (by rfl)) ?_)
    try simp only [Act.put, List.getElem_toArray, List.getElem_cons_succ, List.getElem_cons_zero, List.setIfInBounds_toArray, List.set_cons_zero, List.set_cons_succ]
    first | (refine wpU_takeB (i := 1) (v := ?_) HOPS rfl (by kernel_rfl) (fun _ _ _ h => h) HCL (goes_read (by rfl) ?hy) ?_; case hy => (intro w hSw; (try dsimp only at hSw); go_simp; (try with_reducible rfl))) | (refine wpU_takeB (i := 1) (v := _) HOPS rfl (by kernel_rfl) (fun _ _ _ h => h) HCL (goes_not (by rfl)) ?_)
    try simp only [Act.put, List.getElem_toArray, List.getElem_cons_succ, List.getElem_cons_zero, List.setIfInBounds_toArray, List.set_cons_zero, List.set_cons_succ]
    first | (refine wpU_takeB (i := 2) (v := ?_) HOPS rfl (by kernel_rfl) (fun _ _ _ h => h) HCL (goes_read (by rfl) ?hy) ?_; case hy => (intro w hSw; (try dsimp only at hSw); go_simp; (try with_reducible rfl))) | (refine wpU_takeB (i := 2) (v := _) HOPS rfl (by kernel_rfl) (fun _ _ _ h => h) HCL (goes_not (by rfl)) ?_)
    try simp only [Act.put, List.getElem_toArray, List.getElem_cons_succ, List.getElem_cons_zero, List.setIfInBounds_toArray, List.set_cons_zero, List.set_cons_succ]
    first | (refine wpU_takeB (i := 3) (v := ?_) HOPS rfl (by kernel_rfl) (fun _ _ _ h => h) HCL (goes_read (by rfl) ?hy) ?_; case hy => (intro w hSw; (try dsimp only at hSw); go_simp; (try with_reducible rfl))) | (refine wpU_takeB (i := 3) (v := _) HOPS rfl (by kernel_rfl) (fun _ _ _ h => h) HCL (goes_not (by rfl)) ?_)
    try simp only [Act.put, List.getElem_toArray, List.getElem_cons_succ, List.getElem_cons_zero, List.setIfInBounds_toArray, List.set_cons_zero, List.set_cons_succ]
    first | (refine wpU_takeB (i := 4) (v := ?_) HOPS rfl (by kernel_rfl) (fun _ _ _ h => h) HCL (goes_read (by rfl) ?hy) ?_; case hy => (intro w hSw; (try dsimp only at hSw); go_simp; (try with_reducible rfl))) | (refine wpU_takeB (i := 4) (v := _) HOPS rfl (by kernel_rfl) (fun _ _ _ h => h) HCL (goes_not (by rfl)) ?_)
    try simp only [Act.put, List.getElem_toArray, List.getElem_cons_succ, List.getElem_cons_zero, List.setIfInBounds_toArray, List.set_cons_zero, List.set_cons_succ]
    first | (refine wpU_takeB (i := 5) (v := ?_) HOPS rfl (by kernel_rfl) (fun _ _ _ h => h) HCL (goes_read (by rfl) ?hy) ?_; case hy => (intro w hSw; (try dsimp only at hSw); go_simp; (try with_reducible rfl))) | (refine wpU_takeB (i := 5) (v := _) HOPS rfl (by kernel_rfl) (fun _ _ _ h => h) HCL (goes_not (by rfl)) ?_)
    try simp only [Act.put, List.getElem_toArray, List.getElem_cons_succ, List.getElem_cons_zero, List.setIfInBounds_toArray, List.set_cons_zero, List.set_cons_succ]
    first | (refine wpU_takeB (i := 6) (v := ?_) HOPS rfl (by kernel_rfl) (fun _ _ _ h => h) HCL (goes_read (by rfl) ?hy) ?_; case hy => (intro w hSw; (try dsimp only at hSw); go_simp; (try with_reducible rfl))) | (refine wpU_takeB (i := 6) (v := _) HOPS rfl (by kernel_rfl) (fun _ _ _ h => h) HCL (goes_not (by rfl)) ?_)
    try simp only [Act.put, List.getElem_toArray, List.getElem_cons_succ, List.getElem_cons_zero, List.setIfInBounds_toArray, List.set_cons_zero, List.set_cons_succ]
    first | (refine wpU_takeB (i := 7) (v := ?_) HOPS rfl (by kernel_rfl) (fun _ _ _ h => h) HCL (goes_read (by rfl) ?hy) ?_; case hy => (intro w hSw; (try dsimp only at hSw); go_simp; (try with_reducible rfl))) | (refine wpU_takeB (i := 7) (v := _) HOPS rfl (by kernel_rfl) (fun _ _ _ h => h) HCL (goes_not (by rfl)) ?_)
    try simp only [Act.put, List.getElem_toArray, List.getElem_cons_succ, List.getElem_cons_zero, List.setIfInBounds_toArray, List.set_cons_zero, List.set_cons_succ]
    refine wpU_takeB (i := 8) HOPS rfl (by kernel_rfl) (fun _ _ _ h => h) HCL (goes_min2 _ _ _ ((m : Int) + 1) (s.size : Int) (j : Int) (by rfl) rfl (by rfl) (by rfl) EJ.out) ?_
    try simp only [Act.put, List.getElem_toArray, List.getElem_cons_succ, List.getElem_cons_zero, List.setIfInBounds_toArray, List.set_cons_zero, List.set_cons_succ]
    first | (refine wpU_takeB (i := 9) (v := ?_) HOPS rfl (by kernel_rfl) (fun _ _ _ h => h) HCL (goes_read (by rfl) ?hy) ?_; case hy => (intro w hSw; (try dsimp only at hSw); go_simp; (try with_reducible rfl))) | (refine wpU_takeB (i := 9) (v := _) HOPS rfl (by kernel_rfl) (fun _ _ _ h => h) HCL (goes_not (by rfl)) ?_)
    try simp only [Act.put, List.getElem_toArray, List.getElem_cons_succ, List.getElem_cons_zero, List.setIfInBounds_toArray, List.set_cons_zero, List.set_cons_succ]
    refine wpU_takeB (i := 10) HOPS rfl (by kernel_rfl) (fun _ _ _ h => h) HCL (goes_cat _ _ _ _ _ _ _ _ (by rfl) rfl (by rfl) (by rfl) ZE.out ZJ.out (by decide)) ?_
    try simp only [Act.put, List.getElem_toArray, List.getElem_cons_succ, List.getElem_cons_zero, List.setIfInBounds_toArray, List.set_cons_zero, List.set_cons_succ]
    first | (refine wpU_takeB (i := 11) (v := ?_) HOPS rfl (by kernel_rfl) (fun _ _ _ h => h) HCL (goes_read (by rfl) ?hy) ?_; case hy => (intro w hSw; (try dsimp only at hSw); go_simp; (try with_reducible rfl))) | (refine wpU_takeB (i := 11) (v := _) HOPS rfl (by kernel_rfl) (fun _ _ _ h => h) HCL (goes_not (by rfl)) ?_)
    try simp only [Act.put, List.getElem_toArray, List.getElem_cons_succ, List.getElem_cons_zero, List.setIfInBounds_toArray, List.set_cons_zero, List.set_cons_succ]
    refine wpU_done (by kernel_rfl) (fun w14 hle => ?_) _
    have n := (hle.ahead (by kernel_rfl)).1
    replace NX := Lib.hid (NX.out.trans n)
    replace HQ := Lib.hid (n.heap HQ.out id)
    clear n
    clear HOPS HCL hle
    repeat clear hHeld
    go_wp2_with (fail)
    obtain ⟨f1, f2⟩ := odd_del s m s.size j mle rfl HJ.out
    exact HR.out _ _ f1 f2 (by rw [oddB_eq HMM.out HCQ.out HJ.out, HKK.out]; simp) NX.out
  · as_aux_lemma =>
    go_upto_region 12 with (fail)
    refine wp_named ?_
    intro W15 hW
    have n : Nw W2 W15 := by rw [hW]; first | exact Ch.refl _ _ | exact (Ch.refl _ _).alloc _
    replace NX := Lib.hid (NX.out.trans n)
    replace HQ := Lib.hid (n.heap HQ.out id)
    clear hW n
    refine wp_region_V (F := fun w' => True) (opsOf Tryd.f26 12) 14 14 (by kernel_rfl) (by kernel_rfl) (by kernel_rfl) (fun w w' h n => True.intro) True.intro (fun HOPS HCL hHeld => ?_)
    refine wpU_named ?_
    intro W16 hW
    try rw [← hW] at hHeld
    have n : Nw W15 W16 := by rw [hW]; exact (Ch.refl _ _).drew
    replace NX := Lib.hid (NX.out.trans n)
    replace HQ := Lib.hid (n.heap HQ.out id)
    clear hW n
    first | (refine wpU_takeB (i := 0) (v := ?_) HOPS rfl (by kernel_rfl) (fun _ _ _ h => h) HCL (goes_read (by rfl) ?hy) ?_; case hy => (intro w hSw; (try dsimp only at hSw); go_simp; (try with_reducible rfl))) | (refine wpU_takeB (i := 0) (v := _) HOPS rfl (by kernel_rfl) (fun _ _ _ h => h) HCL (goes_not (by rfl)) ?_)
    try simp only [Act.put, List.getElem_toArray, List.getElem_cons_succ, List.getElem_cons_zero, List.setIfInBounds_toArray, List.set_cons_zero, List.set_cons_succ]
    first | (refine wpU_takeB (i := 1) (v := ?_) HOPS rfl (by kernel_rfl) (fun _ _ _ h => h) HCL (goes_read (by rfl) ?hy) ?_; case hy => (intro w hSw; (try dsimp only at hSw); go_simp; (try with_reducible rfl))) | (refine wpU_takeB (i := 1) (v := _) HOPS rfl (by kernel_rfl) (fun _ _ _ h => h) HCL (goes_not (by rfl)) ?_)
    try simp only [Act.put, List.getElem_toArray, List.getElem_cons_succ, List.getElem_cons_zero, List.setIfInBounds_toArray, List.set_cons_zero, List.set_cons_succ]
    first | (refine wpU_takeB (i := 2) (v := ?_) HOPS rfl (by kernel_rfl) (fun _ _ _ h => h) HCL (goes_read (by rfl) ?hy) ?_; case hy => (intro w hSw; (try dsimp only at hSw); go_simp; (try with_reducible rfl))) | (refine wpU_takeB (i := 2) (v := _) HOPS rfl (by kernel_rfl) (fun _ _ _ h => h) HCL (goes_not (by rfl)) ?_)
    try simp only [Act.put, List.getElem_toArray, List.getElem_cons_succ, List.getElem_cons_zero, List.setIfInBounds_toArray, List.set_cons_zero, List.set_cons_succ]
    first | (refine wpU_takeB (i := 3) (v := ?_) HOPS rfl (by kernel_rfl) (fun _ _ _ h => h) HCL (goes_read (by rfl) ?hy) ?_; case hy => (intro w hSw; (try dsimp only at hSw); go_simp; (try with_reducible rfl))) | (refine wpU_takeB (i := 3) (v := _) HOPS rfl (by kernel_rfl) (fun _ _ _ h => h) HCL (goes_not (by rfl)) ?_)
    try simp only [Act.put, List.getElem_toArray, List.getElem_cons_succ, List.getElem_cons_zero, List.setIfInBounds_toArray, List.set_cons_zero, List.set_cons_succ]
    first | (refine wpU_takeB (i := 5) (v := ?_) HOPS rfl (by kernel_rfl) (fun _ _ _ h => h) HCL (goes_read (by rfl) ?hy) ?_; case hy => (intro w hSw; (try dsimp only at hSw); go_simp; (try with_reducible rfl))) | (refine wpU_takeB (i := 5) (v := _) HOPS rfl (by kernel_rfl) (fun _ _ _ h => h) HCL (goes_not (by rfl)) ?_)
    try simp only [Act.put, List.getElem_toArray, List.getElem_cons_succ, List.getElem_cons_zero, List.setIfInBounds_toArray, List.set_cons_zero, List.set_cons_succ]
    first | (refine wpU_takeB (i := 6) (v := ?_) HOPS rfl (by kernel_rfl) (fun _ _ _ h => h) HCL (goes_read (by rfl) ?hy) ?_; case hy => (intro w hSw; (try dsimp only at hSw); go_simp; (try with_reducible rfl))) | (refine wpU_takeB (i := 6) (v := _) HOPS rfl (by kernel_rfl) (fun _ _ _ h => h) HCL (goes_not (by rfl)) ?_)
    try simp only [Act.put, List.getElem_toArray, List.getElem_cons_succ, List.getElem_cons_zero, List.setIfInBounds_toArray, List.set_cons_zero, List.set_cons_succ]
    first | (refine wpU_takeB (i := 7) (v := ?_) HOPS rfl (by kernel_rfl) (fun _ _ _ h => h) HCL (goes_read (by rfl) ?hy) ?_; case hy => (intro w hSw; (try dsimp only at hSw); go_simp; (try with_reducible rfl))) | (refine wpU_takeB (i := 7) (v := _) HOPS rfl (by kernel_rfl) (fun _ _ _ h => h) HCL (goes_not (by rfl)) ?_)
    try simp only [Act.put, List.getElem_toArray, List.getElem_cons_succ, List.getElem_cons_zero, List.setIfInBounds_toArray, List.set_cons_zero, List.set_cons_succ]
    first | (refine wpU_takeB (i := 8) (v := ?_) HOPS rfl (by kernel_rfl) (fun _ _ _ h => h) HCL (goes_read (by rfl) ?hy) ?_; case hy => (intro w hSw; (try dsimp only at hSw); go_simp; (try with_reducible rfl))) | (refine wpU_takeB (i := 8) (v := _) HOPS rfl (by kernel_rfl) (fun _ _ _ h => h) HCL (goes_not (by rfl)) ?_)
    try simp only [Act.put, List.getElem_toArray, List.getElem_cons_succ, List.getElem_cons_zero, List.setIfInBounds_toArray, List.set_cons_zero, List.set_cons_succ]
    first | (refine wpU_takeB (i := 9) (v := ?_) HOPS rfl (by kernel_rfl) (fun _ _ _ h => h) HCL (goes_read (by rfl) ?hy) ?_; case hy => (intro w hSw; (try dsimp only at hSw); go_simp; (try with_reducible rfl))) | (refine wpU_takeB (i := 9) (v := _) HOPS rfl (by kernel_rfl) (fun _ _ _ h => h) HCL (goes_not (by rfl)) ?_)
    try simp only [Act.put, List.getElem_toArray, List.getElem_cons_succ, List.getElem_cons_zero, List.setIfInBounds_toArray, List.set_cons_zero, List.set_cons_succ]
    refine wpU_takeB (i := 4) HOPS rfl (by kernel_rfl) (fun _ _ _ h => h) HCL (goes_cat _ _ _ _ _ _ _ _ (by rfl) rfl (by rfl) (by rfl) ZE.out (by show (#[(_ : UInt8)] : Array UInt8).size ≤ 1; exact Nat.le_refl 1) (by decide)) ?_
    try simp only [Act.put, List.getElem_toArray, List.getElem_cons_succ, List.getElem_cons_zero, List.setIfInBounds_toArray, List.set_cons_zero, List.set_cons_succ]
    refine wpU_takeB (i := 10) HOPS rfl (by kernel_rfl) (fun _ _ _ h => h) HCL (goes_min2 _ _ _ ((m : Int) + 1) (s.size : Int) (j : Int) (by rfl) rfl (by rfl) (by rfl) EJ.out) ?_
    try simp only [Act.put, List.getElem_toArray, List.getElem_cons_succ, List.getElem_cons_zero, List.setIfInBounds_toArray, List.set_cons_zero, List.set_cons_succ]
    first | (refine wpU_takeB (i := 11) (v := ?_) HOPS rfl (by kernel_rfl) (fun _ _ _ h => h) HCL (goes_read (by rfl) ?hy) ?_; case hy => (intro w hSw; (try dsimp only at hSw); go_simp; (try with_reducible rfl))) | (refine wpU_takeB (i := 11) (v := _) HOPS rfl (by kernel_rfl) (fun _ _ _ h => h) HCL (goes_not (by rfl)) ?_)
    try simp only [Act.put, List.getElem_toArray, List.getElem_cons_succ, List.getElem_cons_zero, List.setIfInBounds_toArray, List.set_cons_zero, List.set_cons_succ]
    refine wpU_takeB (i := 12) HOPS rfl (by kernel_rfl) (fun _ _ _ h => h) HCL (goes_cat _ _ _ _ _ _ _ _ (by rfl) rfl (by rfl) (by rfl) ZC.out ZJ.out (by decide)) ?_
    try simp only [Act.put, List.getElem_toArray, List.getElem_cons_succ, List.getElem_cons_zero, List.setIfInBounds_toArray, List.set_cons_zero, List.set_cons_succ]
    first | (refine wpU_takeB (i := 13) (v := ?_) HOPS rfl (by kernel_rfl) (fun _ _ _ h => h) HCL (goes_read (by rfl) ?hy) ?_; case hy => (intro w hSw; (try dsimp only at hSw); go_simp; (try with_reducible rfl))) | (refine wpU_takeB (i := 13) (v := _) HOPS rfl (by kernel_rfl) (fun _ _ _ h => h) HCL (goes_not (by rfl)) ?_)
    try simp only [Act.put, List.getElem_toArray, List.getElem_cons_succ, List.getElem_cons_zero, List.setIfInBounds_toArray, List.set_cons_zero, List.set_cons_succ]
    refine wpU_done (by kernel_rfl) (fun w17 hle => ?_) _
    have n := (hle.ahead (by kernel_rfl)).1
    replace NX := Lib.hid (NX.out.trans n)
    replace HQ := Lib.hid (n.heap HQ.out id)
    clear n
    clear HOPS HCL hle
    repeat clear hHeld
    go_wp2_with (fail)
    obtain ⟨f1, f2⟩ := odd_sub s m s.size j c mle rfl HJ.out
    exact HR.out _ _ f1 f2 (by rw [oddB_eq HMM.out HCQ.out HJ.out, HKK.out]; simp) NX.out

end Go.Proofs.YtnibgjpbijlhbaaDoor
