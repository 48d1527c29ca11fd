/-
  ref08.Same: two programs, equal or not.
-/
import Derived.Test.YtdpbdcaefdcooaaGreatDoorMo8
import Derived.Test.YtdpbdcaefdcooaaGreatDoorRegI
import Derived.Below
import Derived.Laws.StructEq
namespace Go.Proofs.YtdpbdcaefdcooaaGreatDoor
open Go.RowKit
set_option linter.unusedVariables false
set_option linter.unusedSimpArgs false
set_option maxRecDepth 100000

def beqO (p q : VOp) : Bool := decide (p = q)
theorem eqOp (p q : VOp) (w : World) : (Op.equalIn 10000 49 (.agg #[.int .i64 p.1, .int .i64 p.2.1, .int .i64 p.2.2]) (.agg #[.int .i64 q.1, .int .i64 q.2.1, .int .i64 q.2.2])).run Tryz.prog w = .ok (beqO p q) w := by
  have u3 := Tryz.underlying3
  have hS : Tryz.prog.underlying 49 = some (.struct (Tryz.prog.fieldsOf 49)) := by kernel_rfl
  have hp : Tryz.prog.stoodInHeld 49 = false := by kernel_rfl
  obtain ⟨a, n, l⟩ := p
  obtain ⟨b, m, k⟩ := q
  rw [show (10000 : Nat) = 9999 + 1 from rfl, run_equalIn_agg w 9999 49 _ _ hS hp]
  simp only [Program.fieldsOf, Tryz.underlying49]
  go_simp
  by_cases h1 : a = b <;> by_cases h2 : n = m <;> by_cases h3 : l = k <;> simp [h1, h2, h3, beqO]
attribute [-go_sem] run_equalIn_agg
theorem egOp (op : BinOp) (x y : Operand) (xs ys : Array Value) (w : World) : (eqGuard op 49 x y (.agg xs) (.agg ys)).run Tryz.prog w = .ok () w := run_eqGuard_agg w op 49 x y xs ys (by kernel_rfl)
theorem eqOp' (a n l b m k : Int) (w : World) : (Op.equalIn 10000 49 (.agg #[.int .i64 a, .int .i64 n, .int .i64 l]) (.agg #[.int .i64 b, .int .i64 m, .int .i64 k])).run Tryz.prog w = .ok (beqO (a, n, l) (b, m, k)) w := eqOp (a, n, l) (b, m, k) w
attribute [local go_sem] eqOp' egOp

theorem isC_op {w : World} {lo n : Nat} {A : Option Addr} {c : Nat} {X : List VOp} {k : Nat} {p : VOp} (h : IsC w lo (.slice A n c) n 3 (opC X)) (hp : X[k]? = some p) :
    ∃ g, w.cell? ⟨g, k * 3, none⟩ = some (.int .i64 p.1) ∧ w.cell? ⟨g, k * 3 + 1, none⟩ = some (.int .i64 p.2.1) ∧ w.cell? ⟨g, k * 3 + 2, none⟩ = some (.int .i64 p.2.2) ∧ A = some ⟨g, 0, none⟩ := by
  obtain ⟨A', c', e, -, -, h⟩ := h
  cases e
  obtain ⟨h0, h1, h2⟩ := opC_at X k p hp
  obtain ⟨g, -, e, q0⟩ := h _ _ h0
  obtain ⟨g', -, e', q1⟩ := h _ _ h1
  obtain ⟨g'', -, e'', q2⟩ := h _ _ h2
  obtain rfl : g = g' := by rw [e] at e'; cases e'; rfl
  obtain rfl : g = g'' := by rw [e] at e''; cases e''; rfl
  exact ⟨g, q0, q1, q2, e⟩

set_option maxHeartbeats 8000000 in
theorem sameO_any (X Y : List VOp) (lo lo' : Nat) (v1 v2 : Value) (w : World) (R : Ending → World → Prop) (h1 : IsC w lo v1 X.length 3 (opC X)) (h2 : IsC w lo' v2 Y.length 3 (opC Y)) (hX : X.length ≤ 1000000) (hY : Y.length ≤ 1000000)
    (hR : ∀ w', Nw w w' → R (.returned (.bool (decide (X = Y)))) w') : Calls Tryz.prog 15 #[v1, v2] w R := by
  have HR := Lib.hid hR
  clear hR
  have HC1 := Lib.hid h1
  have HC2 := Lib.hid h2
  clear h1 h2
  obtain ⟨A1, c1, rfl⟩ : ∃ A c, v1 = .slice A X.length c := by obtain ⟨A, c, e, -⟩ := HC1.out; exact ⟨A, c, e⟩
  obtain ⟨A2, c2, rfl⟩ : ∃ A c, v2 = .slice A Y.length c := by obtain ⟨A, c, e, -⟩ := HC2.out; exact ⟨A, c, e⟩
  by_cases hl : X.length = Y.length
  · as_aux_lemma =>
      have e1 : ((X.length : Int) != (Y.length : Int)) = false := by rw [hl]; simp
      have HLn := Lib.hid hl
      clear hl
      go_enter Tryz.func15, Tryz.ntmps15
      go_wp2_with (fail)
      go_loopw [5] (fun s5 wr => Hid (Nw w wr) ∧ ∃ k : Nat, s5 = .int .i64 k ∧ k ≤ X.length ∧ Hid (∀ j, j < k → X[j]? = Y[j]?)) (fun s5 _ => X.length - (intOf s5).toNat)
      case atStart => exact ⟨Lib.hid (Ch.refl _ _), 0, rfl, Nat.zero_le _, Lib.hid fun j hj => by omega⟩
      case round =>
        obtain ⟨hwr, k, rfl, hk, HK⟩ := hrel
        have n := hwr.out
        have HWR := hwr
        clear hwr
        replace HC1 := Lib.hid ((HC1.out.kept n nof))
        replace HC2 := Lib.hid ((HC2.out.kept n nof))
        clear n
        have k0 : (0 : Int) ≤ (k : Int) := by omega
        by_cases hlt : k < X.length
        · as_aux_lemma =>
            have k1 : (k : Int) < (X.length : Int) := by omega
            have k2 : (k : Int) < (Y.length : Int) := by have := HLn.out; omega
            obtain ⟨p, hp⟩ : ∃ p, X[k]? = some p := ⟨_, List.getElem?_eq_getElem hlt⟩
            obtain ⟨q, hq⟩ : ∃ q, Y[k]? = some q := ⟨_, List.getElem?_eq_getElem (by have := HLn.out; omega)⟩
            obtain ⟨⟨p1, p2, p3⟩, rfl⟩ : ∃ p', p' = p := ⟨p, rfl⟩
            obtain ⟨⟨q1, q2, q3⟩, rfl⟩ : ∃ q', q' = q := ⟨q, rfl⟩
            obtain ⟨g1, c10, c11, c12, rfl⟩ := isC_op HC1.out hp
            obtain ⟨g2, c20, c21, c22, rfl⟩ := isC_op HC2.out hq
            simp only at c10 c11 c12 c20 c21 c22
            have HP := Lib.hid hp
            have HQ := Lib.hid hq
            clear hp hq
            have Hc10 := Lib.hid c10
            have Hc11 := Lib.hid c11
            have Hc12 := Lib.hid c12
            have Hc20 := Lib.hid c20
            have Hc21 := Lib.hid c21
            have Hc22 := Lib.hid c22
            clear c10 c11 c12 c20 c21 c22
            by_cases hpq : (p1, p2, p3) = (q1, q2, q3)
            · as_aux_lemma =>
                have e0 : beqO (p1, p2, p3) (q1, q2, q3) = true := by unfold beqO; simp only [hpq, decide_true, decide_false]
                have HPQ := Lib.hid hpq
                clear hpq
                go_wp2_with (fail)
                refine wp_named ?_
                intro W1 hW
                have n : Nw wr W1 := by rw [hW]; first | exact Ch.refl _ _ | exact (Ch.refl _ _).alloc _
                replace HC1 := Lib.hid ((HC1.out.kept n nof))
                replace HC2 := Lib.hid ((HC2.out.kept n nof))
                replace HWR := Lib.hid (HWR.out.trans n)
                replace Hc10 := Lib.hid (n.cell Hc10.out id)
                replace Hc11 := Lib.hid (n.cell Hc11.out id)
                replace Hc12 := Lib.hid (n.cell Hc12.out id)
                replace Hc20 := Lib.hid (n.cell Hc20.out id)
                replace Hc21 := Lib.hid (n.cell Hc21.out id)
                replace Hc22 := Lib.hid (n.cell Hc22.out id)
                clear hW n
                refine wp_region_V (F := fun w' => w'.cell? ⟨g1, k * 3, none⟩ = some (.int .i64 p1) ∧ w'.cell? ⟨g1, k * 3 + 1, none⟩ = some (.int .i64 p2) ∧ w'.cell? ⟨g1, k * 3 + 2, none⟩ = some (.int .i64 p3) ∧ w'.cell? ⟨g2, k * 3, none⟩ = some (.int .i64 q1) ∧ w'.cell? ⟨g2, k * 3 + 1, none⟩ = some (.int .i64 q2) ∧ w'.cell? ⟨g2, k * 3 + 2, none⟩ = some (.int .i64 q3)) (opsOf Tryz.f15 6) 9 9 (by kernel_rfl) (by kernel_rfl) (by kernel_rfl) (fun w w' h n => (⟨n.cell h.1 id, n.cell h.2.1 id, n.cell h.2.2.1 id, n.cell h.2.2.2.1 id, n.cell h.2.2.2.2.1 id, n.cell h.2.2.2.2.2 id⟩)) (⟨Hc10.out, Hc11.out, Hc12.out, Hc20.out, Hc21.out, Hc22.out⟩) (fun HOPS HCL hHeld => ?_)
                refine wpU_named ?_
                intro W2 hW
                try rw [← hW] at hHeld
                have n : Nw W1 W2 := by rw [hW]; exact (Ch.refl _ _).drew
                replace HC1 := Lib.hid ((HC1.out.kept n nof))
                replace HC2 := Lib.hid ((HC2.out.kept n nof))
                replace HWR := Lib.hid (HWR.out.trans n)
                replace Hc10 := Lib.hid (n.cell Hc10.out id)
                replace Hc11 := Lib.hid (n.cell Hc11.out id)
                replace Hc12 := Lib.hid (n.cell Hc12.out id)
                replace Hc20 := Lib.hid (n.cell Hc20.out id)
                replace Hc21 := Lib.hid (n.cell Hc21.out id)
                replace Hc22 := Lib.hid (n.cell Hc22.out id)
                clear hW n
                first | (refine wpU_takeB (i := 0) (v := ?_) HOPS rfl (by kernel_rfl) (fun _ _ _ h => h) HCL (goes_read (by rfl) ?hy) ?_; case hy => (intro w hSw; (try dsimp only at hSw); go_simp; (try with_reducible rfl))) | (refine wpU_takeB (i := 0) (v := _) HOPS rfl (by kernel_rfl) (fun _ _ _ h => h) HCL (goes_not (by rfl)) ?_)
                try simp only [Act.put, List.getElem_toArray, List.getElem_cons_succ, List.getElem_cons_zero, List.setIfInBounds_toArray, List.set_cons_zero, List.set_cons_succ]
                first | (refine wpU_takeB (i := 1) (v := ?_) HOPS rfl (by kernel_rfl) (fun _ _ _ h => h) HCL (goes_read (by rfl) ?hy) ?_; case hy => (intro w hSw; (try dsimp only at hSw); go_simp; (try with_reducible rfl))) | (refine wpU_takeB (i := 1) (v := _) HOPS rfl (by kernel_rfl) (fun _ _ _ h => h) HCL (goes_not (by rfl)) ?_)
                try simp only [Act.put, List.getElem_toArray, List.getElem_cons_succ, List.getElem_cons_zero, List.setIfInBounds_toArray, List.set_cons_zero, List.set_cons_succ]
                first | (refine wpU_takeB (i := 2) (v := ?_) HOPS rfl (by kernel_rfl) (fun _ _ _ h => h) HCL (goes_read (by rfl) ?hy) ?_; case hy => (intro w hSw; (try dsimp only at hSw); go_simp; (try with_reducible rfl))) | (refine wpU_takeB (i := 2) (v := _) HOPS rfl (by kernel_rfl) (fun _ _ _ h => h) HCL (goes_not (by rfl)) ?_)
                try simp only [Act.put, List.getElem_toArray, List.getElem_cons_succ, List.getElem_cons_zero, List.setIfInBounds_toArray, List.set_cons_zero, List.set_cons_succ]
                first | (refine wpU_takeB (i := 3) (v := ?_) HOPS rfl (by kernel_rfl) (fun _ _ _ h => h) HCL (goes_read (by rfl) ?hy) ?_; case hy => (intro w hSw; (try dsimp only at hSw); go_simp; (try with_reducible rfl))) | (refine wpU_takeB (i := 3) (v := _) HOPS rfl (by kernel_rfl) (fun _ _ _ h => h) HCL (goes_not (by rfl)) ?_)
                try simp only [Act.put, List.getElem_toArray, List.getElem_cons_succ, List.getElem_cons_zero, List.setIfInBounds_toArray, List.set_cons_zero, List.set_cons_succ]
                first | (refine wpU_takeB (i := 4) (v := ?_) HOPS rfl (by kernel_rfl) (fun _ _ _ h => h) HCL (goes_read (by rfl) ?hy) ?_; case hy => (intro w hSw; (try dsimp only at hSw); go_simp; (try with_reducible rfl))) | (refine wpU_takeB (i := 4) (v := _) HOPS rfl (by kernel_rfl) (fun _ _ _ h => h) HCL (goes_not (by rfl)) ?_)
                try simp only [Act.put, List.getElem_toArray, List.getElem_cons_succ, List.getElem_cons_zero, List.setIfInBounds_toArray, List.set_cons_zero, List.set_cons_succ]
                first | (refine wpU_takeB (i := 5) (v := ?_) HOPS rfl (by kernel_rfl) (fun _ _ _ h => h) HCL (goes_read (by rfl) ?hy) ?_; case hy => (intro w hSw; (try dsimp only at hSw); go_simp; (try with_reducible rfl))) | (refine wpU_takeB (i := 5) (v := _) HOPS rfl (by kernel_rfl) (fun _ _ _ h => h) HCL (goes_not (by rfl)) ?_)
                try simp only [Act.put, List.getElem_toArray, List.getElem_cons_succ, List.getElem_cons_zero, List.setIfInBounds_toArray, List.set_cons_zero, List.set_cons_succ]
                first | (refine wpU_takeB (i := 6) (v := ?_) HOPS rfl (by kernel_rfl) (fun _ _ _ h => h) HCL (goes_read (by rfl) ?hy) ?_; case hy => (intro w hSw; (try dsimp only at hSw); go_simp; (try with_reducible rfl))) | (refine wpU_takeB (i := 6) (v := _) HOPS rfl (by kernel_rfl) (fun _ _ _ h => h) HCL (goes_not (by rfl)) ?_)
                try simp only [Act.put, List.getElem_toArray, List.getElem_cons_succ, List.getElem_cons_zero, List.setIfInBounds_toArray, List.set_cons_zero, List.set_cons_succ]
                first | (refine wpU_takeB (i := 7) (v := ?_) HOPS rfl (by kernel_rfl) (fun _ _ _ h => h) HCL (goes_read (by rfl) ?hy) ?_; case hy => (intro w hSw; (try dsimp only at hSw); go_simp; (try with_reducible rfl))) | (refine wpU_takeB (i := 7) (v := _) HOPS rfl (by kernel_rfl) (fun _ _ _ h => h) HCL (goes_not (by rfl)) ?_)
                try simp only [Act.put, List.getElem_toArray, List.getElem_cons_succ, List.getElem_cons_zero, List.setIfInBounds_toArray, List.set_cons_zero, List.set_cons_succ]
                first | (refine wpU_takeB (i := 8) (v := ?_) HOPS rfl (by kernel_rfl) (fun _ _ _ h => h) HCL (goes_read (by rfl) ?hy) ?_; case hy => (intro w hSw; (try dsimp only at hSw); go_simp; (try with_reducible rfl))) | (refine wpU_takeB (i := 8) (v := _) HOPS rfl (by kernel_rfl) (fun _ _ _ h => h) HCL (goes_not (by rfl)) ?_)
                try simp only [Act.put, List.getElem_toArray, List.getElem_cons_succ, List.getElem_cons_zero, List.setIfInBounds_toArray, List.set_cons_zero, List.set_cons_succ]
                refine wpU_done (by kernel_rfl) (fun w3 hle => ?_) _
                have n := (hle.ahead (by kernel_rfl)).1
                replace HC1 := Lib.hid ((HC1.out.kept n nof))
                replace HC2 := Lib.hid ((HC2.out.kept n nof))
                replace HWR := Lib.hid (HWR.out.trans n)
                replace Hc10 := Lib.hid (n.cell Hc10.out id)
                replace Hc11 := Lib.hid (n.cell Hc11.out id)
                replace Hc12 := Lib.hid (n.cell Hc12.out id)
                replace Hc20 := Lib.hid (n.cell Hc20.out id)
                replace Hc21 := Lib.hid (n.cell Hc21.out id)
                replace Hc22 := Lib.hid (n.cell Hc22.out id)
                clear n
                clear HOPS HCL hle
                repeat clear hHeld
                go_wp2
                refine ⟨⟨HWR, k + 1, by go_num, by omega, Lib.hid fun j hj => ?_⟩, by simp [intOf]; omega⟩
                by_cases e : j = k
                · rw [e, HP.out, HQ.out, HPQ.out]
                · exact HK.out j (by omega)
            · as_aux_lemma =>
                have e0 : beqO (p1, p2, p3) (q1, q2, q3) = false := by unfold beqO; simp only [hpq, decide_true, decide_false]
                have HPQ := Lib.hid hpq
                clear hpq
                go_wp2_with (fail)
                refine wp_named ?_
                intro W4 hW
                have n : Nw wr W4 := by rw [hW]; first | exact Ch.refl _ _ | exact (Ch.refl _ _).alloc _
                replace HC1 := Lib.hid ((HC1.out.kept n nof))
                replace HC2 := Lib.hid ((HC2.out.kept n nof))
                replace HWR := Lib.hid (HWR.out.trans n)
                replace Hc10 := Lib.hid (n.cell Hc10.out id)
                replace Hc11 := Lib.hid (n.cell Hc11.out id)
                replace Hc12 := Lib.hid (n.cell Hc12.out id)
                replace Hc20 := Lib.hid (n.cell Hc20.out id)
                replace Hc21 := Lib.hid (n.cell Hc21.out id)
                replace Hc22 := Lib.hid (n.cell Hc22.out id)
                clear hW n
                refine wp_region_V (F := fun w' => w'.cell? ⟨g1, k * 3, none⟩ = some (.int .i64 p1) ∧ w'.cell? ⟨g1, k * 3 + 1, none⟩ = some (.int .i64 p2) ∧ w'.cell? ⟨g1, k * 3 + 2, none⟩ = some (.int .i64 p3) ∧ w'.cell? ⟨g2, k * 3, none⟩ = some (.int .i64 q1) ∧ w'.cell? ⟨g2, k * 3 + 1, none⟩ = some (.int .i64 q2) ∧ w'.cell? ⟨g2, k * 3 + 2, none⟩ = some (.int .i64 q3)) (opsOf Tryz.f15 6) 9 9 (by kernel_rfl) (by kernel_rfl) (by kernel_rfl) (fun w w' h n => (⟨n.cell h.1 id, n.cell h.2.1 id, n.cell h.2.2.1 id, n.cell h.2.2.2.1 id, n.cell h.2.2.2.2.1 id, n.cell h.2.2.2.2.2 id⟩)) (⟨Hc10.out, Hc11.out, Hc12.out, Hc20.out, Hc21.out, Hc22.out⟩) (fun HOPS HCL hHeld => ?_)
                refine wpU_named ?_
                intro W5 hW
                try rw [← hW] at hHeld
                have n : Nw W4 W5 := by rw [hW]; exact (Ch.refl _ _).drew
                replace HC1 := Lib.hid ((HC1.out.kept n nof))
                replace HC2 := Lib.hid ((HC2.out.kept n nof))
                replace HWR := Lib.hid (HWR.out.trans n)
                replace Hc10 := Lib.hid (n.cell Hc10.out id)
                replace Hc11 := Lib.hid (n.cell Hc11.out id)
                replace Hc12 := Lib.hid (n.cell Hc12.out id)
                replace Hc20 := Lib.hid (n.cell Hc20.out id)
                replace Hc21 := Lib.hid (n.cell Hc21.out id)
                replace Hc22 := Lib.hid (n.cell Hc22.out id)
                clear hW n
                first | (refine wpU_takeB (i := 0) (v := ?_) HOPS rfl (by kernel_rfl) (fun _ _ _ h => h) HCL (goes_read (by rfl) ?hy) ?_; case hy => (intro w hSw; (try dsimp only at hSw); go_simp; (try with_reducible rfl))) | (refine wpU_takeB (i := 0) (v := _) HOPS rfl (by kernel_rfl) (fun _ _ _ h => h) HCL (goes_not (by rfl)) ?_)
                try simp only [Act.put, List.getElem_toArray, List.getElem_cons_succ, List.getElem_cons_zero, List.setIfInBounds_toArray, List.set_cons_zero, List.set_cons_succ]
                first | (refine wpU_takeB (i := 1) (v := ?_) HOPS rfl (by kernel_rfl) (fun _ _ _ h => h) HCL (goes_read (by rfl) ?hy) ?_; case hy => (intro w hSw; (try dsimp only at hSw); go_simp; (try with_reducible rfl))) | (refine wpU_takeB (i := 1) (v := _) HOPS rfl (by kernel_rfl) (fun _ _ _ h => h) HCL (goes_not (by rfl)) ?_)
                try simp only [Act.put, List.getElem_toArray, List.getElem_cons_succ, List.getElem_cons_zero, List.setIfInBounds_toArray, List.set_cons_zero, List.set_cons_succ]
                first | (refine wpU_takeB (i := 2) (v := ?_) HOPS rfl (by kernel_rfl) (fun _ _ _ h => h) HCL (goes_read (by rfl) ?hy) ?_; case hy => (intro w hSw; (try dsimp only at hSw); go_simp; (try with_reducible rfl))) | (refine wpU_takeB (i := 2) (v := _) HOPS rfl (by kernel_rfl) (fun _ _ _ h => h) HCL (goes_not (by rfl)) ?_)
                try simp only [Act.put, List.getElem_toArray, List.getElem_cons_succ, List.getElem_cons_zero, List.setIfInBounds_toArray, List.set_cons_zero, List.set_cons_succ]
                first | (refine wpU_takeB (i := 3) (v := ?_) HOPS rfl (by kernel_rfl) (fun _ _ _ h => h) HCL (goes_read (by rfl) ?hy) ?_; case hy => (intro w hSw; (try dsimp only at hSw); go_simp; (try with_reducible rfl))) | (refine wpU_takeB (i := 3) (v := _) HOPS rfl (by kernel_rfl) (fun _ _ _ h => h) HCL (goes_not (by rfl)) ?_)
                try simp only [Act.put, List.getElem_toArray, List.getElem_cons_succ, List.getElem_cons_zero, List.setIfInBounds_toArray, List.set_cons_zero, List.set_cons_succ]
                first | (refine wpU_takeB (i := 4) (v := ?_) HOPS rfl (by kernel_rfl) (fun _ _ _ h => h) HCL (goes_read (by rfl) ?hy) ?_; case hy => (intro w hSw; (try dsimp only at hSw); go_simp; (try with_reducible rfl))) | (refine wpU_takeB (i := 4) (v := _) HOPS rfl (by kernel_rfl) (fun _ _ _ h => h) HCL (goes_not (by rfl)) ?_)
                try simp only [Act.put, List.getElem_toArray, List.getElem_cons_succ, List.getElem_cons_zero, List.setIfInBounds_toArray, List.set_cons_zero, List.set_cons_succ]
                first | (refine wpU_takeB (i := 5) (v := ?_) HOPS rfl (by kernel_rfl) (fun _ _ _ h => h) HCL (goes_read (by rfl) ?hy) ?_; case hy => (intro w hSw; (try dsimp only at hSw); go_simp; (try with_reducible rfl))) | (refine wpU_takeB (i := 5) (v := _) HOPS rfl (by kernel_rfl) (fun _ _ _ h => h) HCL (goes_not (by rfl)) ?_)
                try simp only [Act.put, List.getElem_toArray, List.getElem_cons_succ, List.getElem_cons_zero, List.setIfInBounds_toArray, List.set_cons_zero, List.set_cons_succ]
                first | (refine wpU_takeB (i := 6) (v := ?_) HOPS rfl (by kernel_rfl) (fun _ _ _ h => h) HCL (goes_read (by rfl) ?hy) ?_; case hy => (intro w hSw; (try dsimp only at hSw); go_simp; (try with_reducible rfl))) | (refine wpU_takeB (i := 6) (v := _) HOPS rfl (by kernel_rfl) (fun _ _ _ h => h) HCL (goes_not (by rfl)) ?_)
                try simp only [Act.put, List.getElem_toArray, List.getElem_cons_succ, List.getElem_cons_zero, List.setIfInBounds_toArray, List.set_cons_zero, List.set_cons_succ]
                first | (refine wpU_takeB (i := 7) (v := ?_) HOPS rfl (by kernel_rfl) (fun _ _ _ h => h) HCL (goes_read (by rfl) ?hy) ?_; case hy => (intro w hSw; (try dsimp only at hSw); go_simp; (try with_reducible rfl))) | (refine wpU_takeB (i := 7) (v := _) HOPS rfl (by kernel_rfl) (fun _ _ _ h => h) HCL (goes_not (by rfl)) ?_)
                try simp only [Act.put, List.getElem_toArray, List.getElem_cons_succ, List.getElem_cons_zero, List.setIfInBounds_toArray, List.set_cons_zero, List.set_cons_succ]
                first | (refine wpU_takeB (i := 8) (v := ?_) HOPS rfl (by kernel_rfl) (fun _ _ _ h => h) HCL (goes_read (by rfl) ?hy) ?_; case hy => (intro w hSw; (try dsimp only at hSw); go_simp; (try with_reducible rfl))) | (refine wpU_takeB (i := 8) (v := _) HOPS rfl (by kernel_rfl) (fun _ _ _ h => h) HCL (goes_not (by rfl)) ?_)
                try simp only [Act.put, List.getElem_toArray, List.getElem_cons_succ, List.getElem_cons_zero, List.setIfInBounds_toArray, List.set_cons_zero, List.set_cons_succ]
                refine wpU_done (by kernel_rfl) (fun w6 hle => ?_) _
                have n := (hle.ahead (by kernel_rfl)).1
                replace HC1 := Lib.hid ((HC1.out.kept n nof))
                replace HC2 := Lib.hid ((HC2.out.kept n nof))
                replace HWR := Lib.hid (HWR.out.trans n)
                replace Hc10 := Lib.hid (n.cell Hc10.out id)
                replace Hc11 := Lib.hid (n.cell Hc11.out id)
                replace Hc12 := Lib.hid (n.cell Hc12.out id)
                replace Hc20 := Lib.hid (n.cell Hc20.out id)
                replace Hc21 := Lib.hid (n.cell Hc21.out id)
                replace Hc22 := Lib.hid (n.cell Hc22.out id)
                clear n
                clear HOPS HCL hle
                repeat clear hHeld
                go_wp2
                exact ret_b (HR.out _ HWR.out) (decide_eq_false fun e => HPQ.out (by have h1 := HP.out; rw [e, HQ.out] at h1; exact (Option.some.inj h1).symm))
        · as_aux_lemma =>
          have k1 : ¬ (k : Int) < (X.length : Int) := by omega
          go_wp2
          exact ret_b (HR.out _ HWR.out) (decide_eq_true (List.ext_getElem? fun j => by
            rcases Nat.lt_or_ge j k with h | h
            · exact HK.out j h
            · rw [List.getElem?_eq_none (by omega), List.getElem?_eq_none (by have := HLn.out; omega)]))
  · as_aux_lemma =>
    have e1 : ((X.length : Int) != (Y.length : Int)) = true := by simp only [bne_iff_ne]; omega
    have HLn := Lib.hid hl
    clear hl
    go_enter Tryz.func15, Tryz.ntmps15
    go_wp2
    exact ret_b (HR.out _ (Ch.refl _ _)) (decide_eq_false fun e => HLn.out (by rw [e]))

end Go.Proofs.YtdpbdcaefdcooaaGreatDoor
