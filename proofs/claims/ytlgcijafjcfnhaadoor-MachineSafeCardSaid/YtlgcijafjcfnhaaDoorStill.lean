/-
  indeliblelaw09.still: outlines that are equal but for the coordinates of some points.
-/
import Derived.Test.YtlgcijafjcfnhaaDoorScale
import Derived.Test.YtlgcijafjcfnhaaDoorSame
namespace Go.Proofs.YtlgcijafjcfnhaaDoor
open Go.RowKit
set_option linter.unusedVariables false

/-- Equal, but for the coordinates of the points with the numbers of l. -/
def Still (a b : List (List Pt)) (l : List Int) : Prop :=
  a.length = b.length ∧ ∀ (k : Nat) (c d : List Pt), a[k]? = some c → b[k]? = some d → c.length = d.length ∧
    ∀ (i : Nat) (q r : Pt), c[i]? = some q → d[i]? = some r → q.2.2 = r.2.2 ∧ (q = r ∨ (((a.take k).flatten.length + i : Nat) : Int) ∈ l)

theorem any_take {l : List Int} {j : Nat} {x n : Int} (h : l[j]? = some x) : (l.take (j + 1)).any (· == n) = ((l.take j).any (· == n) || x == n) := by
  rw [List.take_add_one, h]
  simp

set_option maxRecDepth 100000 in
set_option maxHeartbeats 4000000 in
theorem still_any (lo : Nat) (va vb vl : Value) (a b : List (List Pt)) (l : List Int) (w : World) (R : Ending → World → Prop) (ha : IsOut w lo va a) (hb : IsOut w lo vb b) (hl : IsInts w lo vl l) (hs : Still a b l)
    (hR : ∀ d, R (.returned (.bool true)) (w.drewN d)) : Calls Tryd.prog 10 #[va, vb, vl] w R := by
  have HR := Lib.hid hR
  have HS := Lib.hid hs.2
  have hlen := hs.1
  clear hR hs
  obtain ⟨A, capa, rfl, ha64, hela⟩ := ha
  obtain ⟨B, capb, rfl, hb64, helb⟩ := hb
  obtain ⟨C, capc, rfl, hl64, hell⟩ := hl
  have HA := Lib.hid hela
  have HB := Lib.hid helb
  have HL := Lib.hid hell
  have h64 : ∀ k : Nat, (a.take k).flatten.length ≤ 4096 := by
    intro k
    have := flat_le (o := a.take k) (fun c hc => by
      obtain ⟨j, hj⟩ := List.mem_iff_getElem?.1 (List.mem_of_mem_take hc)
      exact (hela j c hj).1)
    simp only [List.length_take] at this
    omega
  have H64 := Lib.hid h64
  clear hela helb hell h64
  have l1 : a.length ≤ b.length := by omega
  have l2 : b.length ≤ a.length := by omega
  have t1 : ((a.length : Int) != (b.length : Int)) = false := by simp [hlen]
  clear hlen
  go_enter Tryd.func10, Tryd.ntmps10
  go_wp2
  go_loopw [7, 8] (fun s7 s8 wr => ∃ (k n d : Nat), s8 = .int .i64 k ∧ s7 = .int .i64 n ∧ n = (a.take k).flatten.length ∧ k ≤ a.length ∧ wr = w.drewN d) (fun _ s8 _ => a.length - (intOf s8).toNat)
  case atStart => exact ⟨0, 0, 0, rfl, rfl, by simp, Nat.zero_le _, rfl⟩
  case round =>
    obtain ⟨k, n, d, rfl, rfl, hn, hk, rfl⟩ := hrel
    have HN := Lib.hid hn
    have n64 := H64.out k
    rw [← hn] at n64
    clear hn
    have k0 : (0 : Int) ≤ (k : Int) := by omega
    by_cases hlt : k < a.length
    · have xa : a[k]? = some a[k] := List.getElem?_eq_getElem hlt
      have xb : b[k]? = some (b[k]'(by omega)) := List.getElem?_eq_getElem _
      generalize a[k] = c at xa
      generalize b[k]'(by omega) = e at xb
      obtain ⟨c64, -, bk, bo, vi, -, rfl, hcell, A2, cap2, rfl, -, hpts⟩ := HA.out k c xa
      obtain ⟨e64, -, bk', bo', vi', -, rfl, hcell', A3, cap3, rfl, -, hpts'⟩ := HB.out k e xb
      obtain ⟨hce, hst⟩ := HS.out k c e xa xb
      have HP := Lib.hid hpts
      have HQ := Lib.hid hpts'
      have HST := Lib.hid hst
      have XA := Lib.hid xa
      have XB := Lib.hid xb
      have k1 : (k : Int) < (a.length : Int) := by omega
      have k2 : (k : Int) < (b.length : Int) := by omega
      have m1 : c.length ≤ e.length := by omega
      have m2 : e.length ≤ c.length := by omega
      have t2 : ((c.length : Int) != (e.length : Int)) = false := by simp [hce]
      clear hpts hpts' xa xb hst hce
      go_wp2
      go_quiet (fail)
      go_wp2
      go_loopw [7, 9] (fun s7 s9 wr => ∃ (i n' d : Nat), s9 = .int .i64 i ∧ s7 = .int .i64 n' ∧ n' = n + i ∧ i ≤ c.length ∧ wr = w.drewN d) (fun _ s9 _ => c.length - (intOf s9).toNat)
      case atStart => exact ⟨0, n, _, rfl, rfl, rfl, Nat.zero_le _, World.drewN_drewN ..⟩
      case round =>
        obtain ⟨i, n', d3, rfl, rfl, hn', hi, rfl⟩ := hrel
        have HN' := Lib.hid hn'
        have n64' : n' ≤ 5000 := by omega
        clear hn'
        have i0 : (0 : Int) ≤ (i : Int) := by omega
        by_cases hil : i < c.length
        · have xq : c[i]? = some c[i] := List.getElem?_eq_getElem hil
          have xr : e[i]? = some (e[i]'(by omega)) := List.getElem?_eq_getElem _
          generalize c[i] = q at xq
          generalize e[i]'(by omega) = r at xr
          obtain ⟨pk, po, -, rfl, p0, p1, p2⟩ := HP.out i q xq
          obtain ⟨pk', po', -, rfl, p0', p1', p2'⟩ := HQ.out i r xr
          obtain ⟨hon, hqr⟩ := HST.out i q r xq xr
          obtain ⟨q1, q2, q3⟩ := q
          obtain ⟨r1, r2, r3⟩ := r
          simp only at hon p0 p1 p2 p0' p1' p2'
          subst hon
          rw [← HN.out, ← HN'.out] at hqr
          have HQR := Lib.hid hqr
          have i1 : (i : Int) < (c.length : Int) := by omega
          have i2 : (i : Int) < (e.length : Int) := by omega
          clear xq xr hqr
          go_wp2
          go_loopw [10, 46] (fun s10 s46 wr => ∃ (j : Nat) (mv : Bool), s46 = .int .i64 j ∧ s10 = .bool mv ∧ mv = (l.take j).any (· == (n' : Int)) ∧ j ≤ l.length ∧ wr = w.drewN d3) (fun _ s46 _ => l.length - (intOf s46).toNat)
          case atStart => exact ⟨0, false, rfl, rfl, by simp, Nat.zero_le _, rfl⟩
          case round =>
            obtain ⟨j, mv, rfl, rfl, hmv, hj, rfl⟩ := hrel
            have HMV := Lib.hid hmv
            clear hmv
            have j0 : (0 : Int) ≤ (j : Int) := by omega
            by_cases hjl : j < l.length
            · obtain ⟨x, hx⟩ : ∃ x, l[j]? = some x := ⟨_, List.getElem?_eq_getElem hjl⟩
              obtain ⟨-, lk, lo', -, rfl, hlc⟩ := HL.out j x hx
              have HX := Lib.hid hx
              have j1 : (j : Int) < (l.length : Int) := by omega
              clear hx
              cases mv with
              | true =>
                go_wp2
                refine ⟨⟨j + 1, true, rfl, rfl, ?_, by omega, trivial⟩, ?_⟩
                · rw [any_take HX.out, ← HMV.out]; rfl
                · simp [intOf]; omega
              | false =>
                go_wp2
                refine ⟨⟨j + 1, _, rfl, rfl, ?_, by omega, trivial⟩, ?_⟩
                · rw [any_take HX.out, ← HMV.out]; rfl
                · simp [intOf]; omega
            · have j1 : ¬ (j : Int) < (l.length : Int) := by omega
              obtain rfl : j = l.length := by omega
              cases mv with
              | true =>
                go_wp2
                go_quiet (fail)
                go_wp2
                go_roundw
                case rel => exact ⟨i + 1, n' + 1, _, by go_num, by go_num, by rw [HN'.out]; omega, by omega, rfl⟩
                case measure => simp [intOf]; omega
              | false =>
                have hqe : (q1, q2, q3) = (r1, r2, q3) := by
                  rcases HQR.out with h | h
                  · exact h
                  · have := HMV.out
                    rw [List.take_length] at this
                    have h2 : l.any (· == (n' : Int)) = true := List.any_eq_true.2 ⟨_, h, by simp⟩
                    rw [h2] at this
                    cases this
                injection hqe with e1 e2
                injection e2 with e2 e3
                subst e1 e2
                clear e3
                have hne : ∀ w, (binOp .neq 72 (.agg #[.int .i64 q1, .int .i64 q2, .bool q3]) (.agg #[.int .i64 q1, .int .i64 q2, .bool q3])).run Tryd.prog w = .ok (.bool false) w := fun w => by rw [neq_pt (q1, q2, q3) (q1, q2, q3)]; simp
                go_wp2
                go_quiet (fail)
                go_wp2
                go_roundw
                case rel => exact ⟨i + 1, n' + 1, _, by go_num, by go_num, by rw [HN'.out]; omega, by omega, rfl⟩
                case measure => simp [intOf]; omega
        · have i1 : ¬ (i : Int) < (c.length : Int) := by omega
          obtain rfl : i = c.length := by omega
          go_wp2
          refine ⟨⟨k + 1, n', _, rfl, rfl, ?_, by omega, rfl⟩, ?_⟩
          · rw [flat_take XA.out, HN'.out, HN.out]
          · simp [intOf]; omega
    · have k1 : ¬ (k : Int) < (a.length : Int) := by omega
      obtain rfl : k = a.length := by omega
      go_wp2
      exact HR.out _
end Go.Proofs.YtlgcijafjcfnhaaDoor
