/-
  (names.piece).compare.
-/
import Derived.Test.YtnibgjpbijlhbaaDoorOr
namespace Go.Proofs.YtnibgjpbijlhbaaDoor
open Go.RowKit Go.Shelf
set_option linter.unusedVariables false
set_option linter.unusedSimpArgs false
set_option maxRecDepth 100000
attribute [-go_sem] run_equalIn_agg
theorem eqPc' (a b : Bool) (u v : Nat) (l k : List UInt8) (w : World) : (Op.equalIn 10000 60 (.agg #[.bool a, .int .i64 (u : Nat), .string ⟨l.toArray⟩]) (.agg #[.bool b, .int .i64 (v : Nat), .string ⟨k.toArray⟩])).run Tryd.prog w = .ok (beqP (a, u, l) (b, v, k)) w := eqPc (a, u, l) (b, v, k) w
attribute [local go_sem] eqPc' egPc

/-- The value of a piece. -/
abbrev pvV (p : Pc) : Value := .agg #[.bool p.1, .int .i64 (p.2.1 : Nat), .string ⟨p.2.2.toArray⟩]

set_option maxHeartbeats 4000000 in
theorem compare_any (p q : Pc) (w : World) (R : Ending → World → Prop) (hR : ∀ w', Nw w w' → R (.returned (.int .i64 (cmpP p q))) w') : Calls Tryd.prog 35 #[pvV p, pvV q] w R := by
  have HR := Lib.hid hR
  clear hR
  obtain ⟨a, u, l⟩ := p
  obtain ⟨b, v, k⟩ := q
  by_cases e : (a, u, l) = (b, v, k)
  · have d : beqP (a, u, l) (b, v, k) = true := decide_eq_true e
    have E := Lib.hid (show cmpP (a, u, l) (b, v, k) = 0 from by rw [e]; exact cmpP_self _)
    clear e
    go_enter Tryd.func35, Tryd.ntmps35
    go_wp2
    exact ret_i (HR.out _ (((Ch.refl _ _).alloc _).alloc _)) E.out
  · have d : beqP (a, u, l) (b, v, k) = false := decide_eq_false e
    by_cases h : a = b
    · obtain rfl := h
      have E := Lib.hid (cmpP_same a u v l k)
      obtain ⟨x, hx⟩ : ∃ x, Lib.compareInt u v = x := ⟨_, rfl⟩
      obtain ⟨y, hy⟩ : ∃ y, Lib.compareBytes l k = y := ⟨_, rfl⟩
      have HX := Lib.hid hx
      have HY := Lib.hid hy
      clear e hx hy
      have e2 : (a != a) = false := by cases a <;> rfl
      go_enter Tryd.func35, Tryd.ntmps35
      go_wp2_with (fail)
      have NX := Lib.hid (Ch.refl (fun _ => False) w)
      refine wp_named ?_
      intro W1 hW
      have n : Nw w W1 := by rw [hW]; exact ((Ch.refl _ _).alloc _).alloc _
      replace NX := Lib.hid (NX.out.trans n)
      have HP := Lib.hid (show W1.heap[w.heap.size]? = some (.cells #[.bool a, .int .i64 (u : Nat), .string ⟨l.toArray⟩] 60 (0, 0)) from by rw [hW]; exact heap_alloc_old' _ (heap_alloc_eq _ rfl))
      have HQ := Lib.hid (show W1.heap[w.heap.size + 1]? = some (.cells #[.bool a, .int .i64 (v : Nat), .string ⟨k.toArray⟩] 60 (0, 0)) from by rw [hW]; exact heap_alloc_eq _ (by simp only [alloc_size]))
      clear hW n
      refine wp_region_V (F := fun w' => w'.cell? ⟨w.heap.size, 1, none⟩ = some (.int .i64 (u : Nat)) ∧ w'.cell? ⟨w.heap.size, 2, none⟩ = some (.string ⟨l.toArray⟩) ∧ w'.cell? ⟨w.heap.size + 1, 1, none⟩ = some (.int .i64 (v : Nat)) ∧ w'.cell? ⟨w.heap.size + 1, 2, none⟩ = some (.string ⟨k.toArray⟩)) (opsOf Tryd.f35 7) 13 13 (by kernel_rfl) (by kernel_rfl) (by kernel_rfl) (fun w w' h n => ⟨n.cell h.1 id, n.cell h.2.1 id, n.cell h.2.2.1 id, n.cell h.2.2.2 id⟩) ⟨by show W1.cell? _ = _; rw [cell_of HP.out]; rfl, by show W1.cell? _ = _; rw [cell_of HP.out]; rfl, by show W1.cell? _ = _; rw [cell_of HQ.out]; rfl, by show W1.cell? _ = _; rw [cell_of HQ.out]; rfl⟩ (fun HOPS HCL hHeld => ?_)
      refine wpU_named ?_
      intro W2 hW
      try rw [← hW] at hHeld
      have n : Nw W1 W2 := by rw [hW]; exact (Ch.refl _ _).drew
      replace NX := Lib.hid (NX.out.trans n)
      replace HP := Lib.hid (n.heap HP.out id)
      replace HQ := Lib.hid (n.heap HQ.out id)
      clear hW n
      first | (refine wpU_takeB (i := 0) (v := ?_) HOPS rfl (by kernel_rfl) (fun _ _ _ h => h) HCL (goes_read (by rfl) ?hy) ?_; case hy => (intro w hSw; (try dsimp only at hSw); go_simp; (try with_reducible rfl))) | (refine wpU_takeB (i := 0) (v := _) HOPS rfl (by kernel_rfl) (fun _ _ _ h => h) HCL (goes_not (by rfl)) ?_)
      try simp only [Act.put, List.getElem_toArray, List.getElem_cons_succ, List.getElem_cons_zero, List.setIfInBounds_toArray, List.set_cons_zero, List.set_cons_succ]
      first | (refine wpU_takeB (i := 1) (v := ?_) HOPS rfl (by kernel_rfl) (fun _ _ _ h => h) HCL (goes_read (by rfl) ?hy) ?_; case hy => (intro w hSw; (try dsimp only at hSw); go_simp; (try with_reducible rfl))) | (refine wpU_takeB (i := 1) (v := _) HOPS rfl (by kernel_rfl) (fun _ _ _ h => h) HCL (goes_not (by rfl)) ?_)
      try simp only [Act.put, List.getElem_toArray, List.getElem_cons_succ, List.getElem_cons_zero, List.setIfInBounds_toArray, List.set_cons_zero, List.set_cons_succ]
      first | (refine wpU_takeB (i := 2) (v := ?_) HOPS rfl (by kernel_rfl) (fun _ _ _ h => h) HCL (goes_read (by rfl) ?hy) ?_; case hy => (intro w hSw; (try dsimp only at hSw); go_simp; (try with_reducible rfl))) | (refine wpU_takeB (i := 2) (v := _) HOPS rfl (by kernel_rfl) (fun _ _ _ h => h) HCL (goes_not (by rfl)) ?_)
      try simp only [Act.put, List.getElem_toArray, List.getElem_cons_succ, List.getElem_cons_zero, List.setIfInBounds_toArray, List.set_cons_zero, List.set_cons_succ]
      first | (refine wpU_takeB (i := 3) (v := ?_) HOPS rfl (by kernel_rfl) (fun _ _ _ h => h) HCL (goes_read (by rfl) ?hy) ?_; case hy => (intro w hSw; (try dsimp only at hSw); go_simp; (try with_reducible rfl))) | (refine wpU_takeB (i := 3) (v := _) HOPS rfl (by kernel_rfl) (fun _ _ _ h => h) HCL (goes_not (by rfl)) ?_)
      try simp only [Act.put, List.getElem_toArray, List.getElem_cons_succ, List.getElem_cons_zero, List.setIfInBounds_toArray, List.set_cons_zero, List.set_cons_succ]
      first | (refine wpU_takeB (i := 5) (v := ?_) HOPS rfl (by kernel_rfl) (fun _ _ _ h => h) HCL (goes_read (by rfl) ?hy) ?_; case hy => (intro w hSw; (try dsimp only at hSw); go_simp; (try with_reducible rfl))) | (refine wpU_takeB (i := 5) (v := _) HOPS rfl (by kernel_rfl) (fun _ _ _ h => h) HCL (goes_not (by rfl)) ?_)
      try simp only [Act.put, List.getElem_toArray, List.getElem_cons_succ, List.getElem_cons_zero, List.setIfInBounds_toArray, List.set_cons_zero, List.set_cons_succ]
      first | (refine wpU_takeB (i := 6) (v := ?_) HOPS rfl (by kernel_rfl) (fun _ _ _ h => h) HCL (goes_read (by rfl) ?hy) ?_; case hy => (intro w hSw; (try dsimp only at hSw); go_simp; (try with_reducible rfl))) | (refine wpU_takeB (i := 6) (v := _) HOPS rfl (by kernel_rfl) (fun _ _ _ h => h) HCL (goes_not (by rfl)) ?_)
      try simp only [Act.put, List.getElem_toArray, List.getElem_cons_succ, List.getElem_cons_zero, List.setIfInBounds_toArray, List.set_cons_zero, List.set_cons_succ]
      first | (refine wpU_takeB (i := 7) (v := ?_) HOPS rfl (by kernel_rfl) (fun _ _ _ h => h) HCL (goes_read (by rfl) ?hy) ?_; case hy => (intro w hSw; (try dsimp only at hSw); go_simp; (try with_reducible rfl))) | (refine wpU_takeB (i := 7) (v := _) HOPS rfl (by kernel_rfl) (fun _ _ _ h => h) HCL (goes_not (by rfl)) ?_)
      try simp only [Act.put, List.getElem_toArray, List.getElem_cons_succ, List.getElem_cons_zero, List.setIfInBounds_toArray, List.set_cons_zero, List.set_cons_succ]
      first | (refine wpU_takeB (i := 8) (v := ?_) HOPS rfl (by kernel_rfl) (fun _ _ _ h => h) HCL (goes_read (by rfl) ?hy) ?_; case hy => (intro w hSw; (try dsimp only at hSw); go_simp; (try with_reducible rfl))) | (refine wpU_takeB (i := 8) (v := _) HOPS rfl (by kernel_rfl) (fun _ _ _ h => h) HCL (goes_not (by rfl)) ?_)
      try simp only [Act.put, List.getElem_toArray, List.getElem_cons_succ, List.getElem_cons_zero, List.setIfInBounds_toArray, List.set_cons_zero, List.set_cons_succ]
      refine wpU_takeB (i := 4) HOPS rfl (by kernel_rfl) (fun _ _ _ h => h) HCL (goes_fn (v := .int .i64 x) 37 _ _ _ #[.int .i64 (u : Nat), .int .i64 (v : Nat)] (by rfl) rfl (by kernel_rfl) (by kernel_rfl) (by kernel_rfl) (fun wq n R hR => ?_)) ?_
      · exact (Tryd.cmp_Compare_int _ _ _).mono (by rintro e w' ⟨rfl, hw⟩; obtain rfl := hw.symm; rw [HX.out]; exact hR _ (Ch.refl _ _))
      try simp only [Act.put, List.getElem_toArray, List.getElem_cons_succ, List.getElem_cons_zero, List.setIfInBounds_toArray, List.set_cons_zero, List.set_cons_succ]
      refine wpU_takeB (i := 9) HOPS rfl (by kernel_rfl) (fun _ _ _ h => h) HCL (goes_fn (v := .int .i64 y) 38 _ _ _ #[.string ⟨l.toArray⟩, .string ⟨k.toArray⟩] (by rfl) rfl (by kernel_rfl) (by kernel_rfl) (by kernel_rfl) (fun wq n R hR => ?_)) ?_
      · exact (Tryd.strings_Compare _ _ _).mono (by rintro e w' ⟨rfl, hw⟩; obtain rfl := hw.symm; rw [show (⟨l.toArray⟩ : ByteArray).data.toList = l from rfl, show (⟨k.toArray⟩ : ByteArray).data.toList = k from rfl, HY.out]; exact hR _ (Ch.refl _ _))
      try simp only [Act.put, List.getElem_toArray, List.getElem_cons_succ, List.getElem_cons_zero, List.setIfInBounds_toArray, List.set_cons_zero, List.set_cons_succ]
      refine wpU_ready (rs := [10]) (by kernel_rfl) (by simp) ?_
      intro w3 hle
      obtain ⟨n, hHeld⟩ := hle.ahead (by kernel_rfl)
      clear hle
      replace NX := Lib.hid (NX.out.trans n)
      replace HP := Lib.hid (n.heap HP.out id)
      replace HQ := Lib.hid (n.heap HQ.out id)
      clear n
      refine ReadyU.cons HOPS rfl (by rfl) (fun K hK => ?_) ReadyU.nil
      go_simp
      refine hK.out _ _ ((Ch.refl _ _).alloc _) ⟨cell_alloc_old _ (by rw [cell_of HP.out]; rfl), cell_alloc_old _ (by rw [cell_of HP.out]; rfl), cell_alloc_old _ (by rw [cell_of HQ.out]; rfl), cell_alloc_old _ (by rw [cell_of HQ.out]; rfl)⟩ (fun hHeld => ?_)
      clear hK K
      try simp only [Act.put, List.getElem_toArray, List.getElem_cons_succ, List.getElem_cons_zero, List.setIfInBounds_toArray, List.set_cons_zero, List.set_cons_succ]
      refine wpU_named ?_
      intro W4 hW
      try rw [← hW] at hHeld
      have n : Nw w3 W4 := by rw [hW]; exact (Ch.refl _ _).alloc _
      replace NX := Lib.hid (NX.out.trans n)
      replace HP := Lib.hid (n.heap HP.out id)
      replace HQ := Lib.hid (n.heap HQ.out id)
      have HOR := Lib.hid (show W4.heap[w3.heap.size]? = some (.cells #[.int .i64 x, .int .i64 y] 3 (0, 0)) from by rw [hW]; exact heap_alloc_eq _ rfl)
      clear hW n
      refine wpU_ready (rs := [11]) (by kernel_rfl) (by simp) ?_
      intro w5 hle
      obtain ⟨n, hHeld⟩ := hle.ahead (by kernel_rfl)
      clear hle
      replace NX := Lib.hid (NX.out.trans n)
      replace HP := Lib.hid (n.heap HP.out id)
      replace HQ := Lib.hid (n.heap HQ.out id)
      replace HOR := Lib.hid (n.heap HOR.out id)
      clear n
      refine ReadyU.cons HOPS rfl (by rfl) (fun K hK => ?_) ReadyU.nil
      go_simp
      go_at_call 36
      refine or2_any x y _ _ _ _ HOR.out ?_
      have n := Ch.refl (fun _ => False) w5
      refine hK.out _ _ n ⟨by show w5.cell? _ = _; rw [cell_of HP.out]; rfl, by show w5.cell? _ = _; rw [cell_of HP.out]; rfl, by show w5.cell? _ = _; rw [cell_of HQ.out]; rfl, by show w5.cell? _ = _; rw [cell_of HQ.out]; rfl⟩ (fun hHeld => ?_)
      clear hK K n
      try simp only [Act.put, List.getElem_toArray, List.getElem_cons_succ, List.getElem_cons_zero, List.setIfInBounds_toArray, List.set_cons_zero, List.set_cons_succ]
      first | (refine wpU_takeB (i := 12) (v := ?_) HOPS rfl (by kernel_rfl) (fun _ _ _ h => h) HCL (goes_read (by rfl) ?hy) ?_; case hy => (intro w hSw; (try dsimp only at hSw); go_simp; (try with_reducible rfl))) | (refine wpU_takeB (i := 12) (v := _) HOPS rfl (by kernel_rfl) (fun _ _ _ h => h) HCL (goes_not (by rfl)) ?_)
      try simp only [Act.put, List.getElem_toArray, List.getElem_cons_succ, List.getElem_cons_zero, List.setIfInBounds_toArray, List.set_cons_zero, List.set_cons_succ]
      refine wpU_done (by kernel_rfl) (fun w6 hle => ?_) _
      have n := (hle.ahead (by kernel_rfl)).1
      replace NX := Lib.hid (NX.out.trans n)
      replace HP := Lib.hid (n.heap HP.out id)
      replace HQ := Lib.hid (n.heap HQ.out id)
      replace HOR := Lib.hid (n.heap HOR.out id)
      clear n
      clear HOPS HCL hle
      repeat clear hHeld
      go_wp2
      exact ret_i (HR.out _ NX.out) (by rw [E.out, HX.out, HY.out])
    · have E := Lib.hid (show cmpP (a, u, l) (b, v, k) = if b = true then -1 else 1 from cmpP_other (a, u, l) (b, v, k) h)
      clear e
      cases a <;> cases b
      · exact absurd rfl h
      all_goals (first | exact absurd rfl h | skip)
      all_goals
        clear h
        simp only [if_true, if_false, reduceCtorEq, Bool.false_eq_true] at E
        go_enter Tryd.func35, Tryd.ntmps35
        go_wp2
        exact ret_i (HR.out _ (((Ch.refl _ _).alloc _).alloc _)) E.out

end Go.Proofs.YtnibgjpbijlhbaaDoor
