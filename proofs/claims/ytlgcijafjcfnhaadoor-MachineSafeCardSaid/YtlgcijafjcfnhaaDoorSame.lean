/-
  indelibleref06.Same: whether two outlines are equal.
-/
import Derived.Test.YtlgcijafjcfnhaaDoorOut
import Derived.BigQuiet
import Derived.Deep.QuietTactic
namespace Go.Proofs.YtlgcijafjcfnhaaDoor
open Go.RowKit
set_option linter.unusedVariables false

theorem neq_pt (q r : Pt) (w : World) : (binOp .neq 72 (.agg #[.int .i64 q.1, .int .i64 q.2.1, .bool q.2.2]) (.agg #[.int .i64 r.1, .int .i64 r.2.1, .bool r.2.2])).run Tryd.prog w = .ok (.bool (!decide (q = r))) w := by
  obtain ⟨x, y, b⟩ := q
  obtain ⟨x', y', b'⟩ := r
  by_cases h1 : x = x'
  · by_cases h2 : y = y'
    · by_cases h3 : b = b'
      · subst h1 h2 h3
        simp [go_sem]
      · simp [go_sem, h1, h2, h3]
    · simp [go_sem, h1, h2]
  · simp [go_sem, h1]

theorem take_ne {α : Type} {a b : List α} {k : Nat} {x y : α} (hx : a[k]? = some x) (hy : b[k]? = some y) (h : x ≠ y) : a ≠ b := by
  rintro rfl
  rw [hx] at hy
  injection hy with hy
  exact h hy
theorem take_eq {α : Type} {a b : List α} {k : Nat} {x : α} (h : a.take k = b.take k) (hx : a[k]? = some x) (hy : b[k]? = some x) : a.take (k + 1) = b.take (k + 1) := by
  rw [List.take_add_one, List.take_add_one, h, hx, hy]

set_option maxRecDepth 100000 in
set_option maxHeartbeats 1000000 in
theorem Same_any (lo : Nat) (va vb : Value) (a b : List (List Pt)) (w : World) (R : Ending → World → Prop) (ha : IsOut w lo va a) (hb : IsOut w lo vb b)
    (hR : ∀ d, R (.returned (.bool (decide (a = b)))) (w.drewN d)) : Calls Tryd.prog 12 #[va, vb] w R := by
  have HR := Lib.hid hR
  clear hR
  obtain ⟨A, capa, rfl, ha64, hela⟩ := ha
  obtain ⟨B, capb, rfl, hb64, helb⟩ := hb
  have HA := Lib.hid hela
  have HB := Lib.hid helb
  clear hela helb
  by_cases hl : a.length = b.length
  · have l1 : a.length ≤ b.length := by omega
    have l2 : b.length ≤ a.length := by omega
    clear hl
    go_enter Tryd.func12, Tryd.ntmps12
    go_wp2
    go_loopw [5] (fun s5 wr => ∃ (k d : Nat), s5 = .int .i64 k ∧ k ≤ a.length ∧ wr = w.drewN d ∧ a.take k = b.take k) (fun s5 _ => a.length - (intOf s5).toNat)
    case atStart => exact ⟨0, 0, rfl, Nat.zero_le _, rfl, rfl⟩
    case round =>
      obtain ⟨k, d, rfl, hk, rfl, htk⟩ := hrel
      have HTK := Lib.hid htk
      clear htk
      by_cases hlt : k < a.length
      · have xa : a[k]? = some a[k] := List.getElem?_eq_getElem hlt
        have xb : b[k]? = some (b[k]'(by omega)) := List.getElem?_eq_getElem _
        generalize a[k] = c at xa
        generalize b[k]'(by omega) = e at xb
        obtain ⟨c64, -, bk, bo, vi, -, rfl, hcell, A2, cap2, rfl, -, hpts⟩ := HA.out k c xa
        obtain ⟨e64, -, bk', bo', vi', -, rfl, hcell', A3, cap3, rfl, -, hpts'⟩ := HB.out k e xb
        have HP := Lib.hid hpts
        have HQ := Lib.hid hpts'
        have XA := Lib.hid xa
        have XB := Lib.hid xb
        have k0 : (0 : Int) ≤ (k : Int) := by omega
        have k1 : (k : Int) < (a.length : Int) := by omega
        have k2 : (k : Int) < (b.length : Int) := by omega
        clear hpts hpts' xa xb
        by_cases hce : c.length = e.length
        · have m1 : c.length ≤ e.length := by omega
          have m2 : e.length ≤ c.length := by omega
          clear hce
          go_wp2
          go_quiet (fail)
          go_wp2
          go_loopw [6] (fun s6 wr => ∃ (i d : Nat), s6 = .int .i64 i ∧ i ≤ c.length ∧ wr = w.drewN d ∧ c.take i = e.take i) (fun s6 _ => c.length - (intOf s6).toNat)
          case atStart => exact ⟨0, _, rfl, Nat.zero_le _, World.drewN_drewN .., rfl⟩
          case round =>
            obtain ⟨i, d3, rfl, hi, rfl, hti⟩ := hrel
            have HTI := Lib.hid hti
            clear hti
            by_cases hil : i < c.length
            · have xq : c[i]? = some c[i] := List.getElem?_eq_getElem hil
              have xr : e[i]? = some (e[i]'(by omega)) := List.getElem?_eq_getElem _
              generalize c[i] = q at xq
              generalize e[i]'(by omega) = r at xr
              obtain ⟨pk, po, -, rfl, p0, p1, p2⟩ := HP.out i q xq
              obtain ⟨pk', po', -, rfl, p0', p1', p2'⟩ := HQ.out i r xr
              have XQ := Lib.hid xq
              have XR := Lib.hid xr
              clear xq xr
              have i0 : (0 : Int) ≤ (i : Int) := by omega
              have i1 : (i : Int) < (c.length : Int) := by omega
              have i2 : (i : Int) < (e.length : Int) := by omega
              have hne : ∀ w, (binOp .neq 72 (.agg #[.int .i64 q.1, .int .i64 q.2.1, .bool q.2.2]) (.agg #[.int .i64 r.1, .int .i64 r.2.1, .bool r.2.2])).run Tryd.prog w = .ok (.bool (!decide (q = r))) w := fun w => neq_pt q r w
              by_cases hqr : q = r
              · have hd : decide (q = r) = true := by simp [hqr]
                have HQR := Lib.hid hqr
                clear hqr
                go_wp2
                go_quiet (fail)
                go_wp2
                go_roundw
                case rel => exact ⟨i + 1, _, by go_num, by omega, rfl, take_eq HTI.out XQ.out (by rw [HQR.out]; exact XR.out)⟩
                case measure => simp [intOf]; omega
              · have hd : decide (q = r) = false := by simp [hqr]
                have HQR := Lib.hid hqr
                clear hqr
                go_wp2
                go_quiet (fail)
                go_wp2
                rw [World.drewN_drewN]
                refine ret_b (HR.out _) ?_
                exact decide_eq_false (take_ne XA.out XB.out (take_ne XQ.out XR.out HQR.out))
            · obtain rfl : i = c.length := by omega
              go_wp2
              go_roundw
              case rel =>
                refine ⟨k + 1, _, by go_num, by omega, rfl, take_eq HTK.out XA.out ?_⟩
                rw [XB.out]
                have h := HTI.out
                rw [List.take_length, List.take_of_length_le (by omega)] at h
                rw [h]
              case measure => simp [intOf]; omega
        · go_wp2
          go_quiet (fail)
          go_wp2
          rw [World.drewN_drewN]
          refine ret_b (HR.out _) ?_
          exact decide_eq_false (take_ne XA.out XB.out (fun h => hce (by rw [h])))
      · obtain rfl : k = a.length := by omega
        go_wp2
        refine ret_b (HR.out _) ?_
        have h := HTK.out
        rw [List.take_length, List.take_of_length_le (by omega)] at h
        exact decide_eq_true h
  · go_enter Tryd.func12, Tryd.ntmps12
    go_wp2
    refine ret_b (HR.out 0) ?_
    exact decide_eq_false (fun h => hl (by rw [h]))
end Go.Proofs.YtlgcijafjcfnhaaDoor
