/-
  image.Check and indelibleref22.Check: the error of an image.
-/
import Derived.Test.YtnhdnjhhjmgmnaaDoorImB
namespace Go.Proofs.YtnhdnjhhjmgmnaaDoor
open Go.RowKit
set_option linter.unusedVariables false
set_option linter.unusedSimpArgs false

set_option maxRecDepth 100000
theorem bad_yes (lo : Nat) (v : Value) (l : List Int) (w : World) (R : Ending → World → Prop) (h : IsInts w lo v l) (hall : ∀ p ∈ l, 0 ≤ p ∧ p ≤ 2)
    (hR : R (.returned (.int .i64 (-1))) w) : Calls Tryd.prog 59 #[v, .func (.func 46) #[] #[]] w R := by
  have HR := Lib.hid hR
  have HALL := Lib.hid hall
  clear hR hall
  obtain ⟨A, cap, rfl, ⟨hlc, hl⟩, hel⟩ := h
  have HEL := Lib.hid hel
  clear hel
  go_enter Tryd.func59, Tryd.ntmps59
  go_wp2
  go_loop [5, 8] (fun _ s8 => ∃ k : Nat, s8 = .int .i64 k ∧ k ≤ l.length) (fun _ s8 => l.length - (intOf s8).toNat)
  case atStart => exact ⟨0, rfl, Nat.zero_le _⟩
  case round =>
    obtain ⟨k, rfl, hk⟩ := hrel
    have k0 : (0 : Int) ≤ (k : Int) := by omega
    by_cases hlt : k < l.length
    · obtain ⟨x, hx⟩ : ∃ x, l[k]? = some x := ⟨_, List.getElem?_eq_getElem hlt⟩
      obtain ⟨hwx, pk, po, hpk, rfl, h0⟩ := HEL.out k x hx
      have k1 : (k : Int) < (l.length : Int) := by omega
      obtain ⟨g0, g1⟩ := HALL.out x (List.mem_of_getElem? hx)
      unfold wfI at hwx
      clear hx
      go_wp2
      go_round
      case rel => exact ⟨k + 1, by go_num, by omega⟩
      case measure => simp [intOf]; omega
    · obtain rfl : k = l.length := by omega
      go_wp2
      exact HR.out
theorem bad_no (lo : Nat) (v : Value) (l : List Int) (w : World) (R : Ending → World → Prop) (h : IsInts w lo v l) (hno : ¬ ∀ p ∈ l, 0 ≤ p ∧ p ≤ 2)
    (hR : ∀ k : Nat, k < l.length → R (.returned (.int .i64 k)) w) : Calls Tryd.prog 59 #[v, .func (.func 46) #[] #[]] w R := by
  have HR := Lib.hid hR
  have HNO := Lib.hid hno
  clear hR hno
  obtain ⟨A, cap, rfl, ⟨hlc, hl⟩, hel⟩ := h
  have HEL := Lib.hid hel
  clear hel
  go_enter Tryd.func59, Tryd.ntmps59
  go_wp2
  go_loop [5, 8] (fun _ s8 => ∃ k : Nat, s8 = .int .i64 k ∧ k ≤ l.length ∧ Hid (∀ i x, i < k → l[i]? = some x → 0 ≤ x ∧ x ≤ 2)) (fun _ s8 => l.length - (intOf s8).toNat)
  case atStart => exact ⟨0, rfl, Nat.zero_le _, Lib.hid fun i x hi => by omega⟩
  case round =>
    obtain ⟨k, rfl, hk, HA⟩ := hrel
    have k0 : (0 : Int) ≤ (k : Int) := by omega
    by_cases hlt : k < l.length
    · obtain ⟨x, hx⟩ : ∃ x, l[k]? = some x := ⟨_, List.getElem?_eq_getElem hlt⟩
      obtain ⟨hwx, pk, po, hpk, rfl, h0⟩ := HEL.out k x hx
      have k1 : (k : Int) < (l.length : Int) := by omega
      have HX := Lib.hid hx
      unfold wfI at hwx
      clear hx
      by_cases g0 : 0 ≤ x
      · by_cases g1 : x ≤ 2
        · go_wp2
          go_round
          case rel =>
            refine ⟨k + 1, by go_num, by omega, Lib.hid fun i y hi hy => ?_⟩
            by_cases e : i = k
            · subst e
              rw [HX.out] at hy
              cases hy
              exact ⟨g0, g1⟩
            · exact HA.out i y (by omega) hy
          case measure => simp [intOf]; omega
        · go_wp2
          exact HR.out k hlt
      · go_wp2
        exact HR.out k hlt
    · refine absurd (fun p hp => ?_) HNO.out
      obtain ⟨i, hi⟩ := List.mem_iff_getElem?.1 hp
      exact HA.out i p (by have := (List.getElem?_eq_some_iff.1 hi).1; omega) hi

theorem imE_no {x : Im} (h : ¬ imOk x) : imE x = 50 := if_neg h
theorem imE_yes {x : Im} (h : imOk x) : imE x = 0 := if_pos h

set_option maxRecDepth 100000 in
set_option maxHeartbeats 1000000 in
theorem imCheck_any (lo : Nat) (v : Value) (x : Im) (w : World) (R : Ending → World → Prop) (h : IsIm w lo v x)
    (hR : ∀ w', Nw w w' → R (.returned (.int .i64 (imE x))) w') : Calls Tryd.prog 22 #[v] w R := by
  have HR := Lib.hid hR
  clear hR
  obtain ⟨W, H, l⟩ := x
  obtain ⟨s, rfl, hi, hw, hh⟩ := h
  have HI := Lib.hid hi
  obtain ⟨A, cap, rfl, ⟨hlc, hl⟩, -⟩ := hi
  simp only at hw hh hl HR HI ⊢
  unfold wfI at hw hh
  have HN := Lib.hid (show Nw w (w.alloc (.cells #[.int .i64 W, .int .i64 H, .slice A l.length cap] 25)) from (Ch.refl _ _).alloc _)
  by_cases h1 : 0 ≤ W
  · by_cases h2 : W ≤ 100
    · by_cases h3 : 0 ≤ H
      · by_cases h4 : H ≤ 100
        · obtain ⟨m0, m1⟩ := mul96 (a := W) (b := H) ⟨h1, h2⟩ ⟨h3, h4⟩
          have e0 : IntKind.i64.wrap (W * H) = W * H := by rw [IntKind.wrap_i64]; omega
          by_cases h5 : (l.length : Int) = W * H
          · have t1 : ((l.length : Int) != W * H) = false := by simp [h5]
            have H5 := Lib.hid h5
            clear h5
            have HI2 := Lib.hid (HI.out.kept HN.out nof)
            by_cases hall : ∀ p ∈ l, 0 ≤ p ∧ p ≤ 2
            · have HALL := Lib.hid hall
              clear hall
              go_enter Tryd.func22, Tryd.ntmps22
              go_wp2_with (first | (go_at_call 59; refine bad_yes lo _ l _ _ HI2.out HALL.out ?_) | go_in)
              exact ret_i (HR.out _ HN.out) (imE_yes ⟨⟨h1, h2⟩, ⟨h3, h4⟩, H5.out, HALL.out⟩)
            · have HNO := Lib.hid hall
              clear hall
              go_enter Tryd.func22, Tryd.ntmps22
              go_wp2_with (first | (go_at_call 59; refine bad_no lo _ l _ _ HI2.out HNO.out ?_; intro kk hkk; (have q0 : (0 : Int) ≤ (kk : Int) := by omega)) | go_in)
              exact ret_i (HR.out _ HN.out) (imE_no fun hc => HNO.out hc.2.2.2)
          · have t1 : ((l.length : Int) != W * H) = true := by simp [h5]
            go_enter Tryd.func22, Tryd.ntmps22
            go_wp2
            refine ret_i (HR.out _ HN.out) (imE_no fun hc => h5 hc.2.2.1)
        · go_enter Tryd.func22, Tryd.ntmps22
          go_wp2
          refine ret_i (HR.out _ HN.out) (imE_no fun hc => by have := hc.2.1.2; simp only at this; omega)
      · go_enter Tryd.func22, Tryd.ntmps22
        go_wp2
        refine ret_i (HR.out _ HN.out) (imE_no fun hc => by have := hc.2.1.1; simp only at this; omega)
    · go_enter Tryd.func22, Tryd.ntmps22
      go_wp2
      refine ret_i (HR.out _ HN.out) (imE_no fun hc => by have := hc.1.2; simp only at this; omega)
  · go_enter Tryd.func22, Tryd.ntmps22
    go_wp2
    refine ret_i (HR.out _ HN.out) (imE_no fun hc => by have := hc.1.1; simp only at this; omega)

set_option maxRecDepth 100000 in
set_option maxHeartbeats 1000000 in
theorem riCheck_any (lo : Nat) (v : Value) (x : Im) (w : World) (R : Ending → World → Prop) (h : IsIm w lo v x)
    (hR : ∀ w', Nw w w' → R (.returned (.int .i64 (imE x))) w') : Calls Tryd.prog 23 #[v] w R := by
  have HR := Lib.hid hR
  clear hR
  obtain ⟨W, H, l⟩ := x
  obtain ⟨s, rfl, hi, hw, hh⟩ := h
  have HI := Lib.hid hi
  obtain ⟨A, cap, rfl, ⟨hlc, hl⟩, -⟩ := hi
  simp only at hw hh hl HR HI ⊢
  unfold wfI at hw hh
  have HN := Lib.hid (show Nw w (w.alloc (.cells #[.int .i64 W, .int .i64 H, .slice A l.length cap] 25)) from (Ch.refl _ _).alloc _)
  by_cases h1 : 0 ≤ W
  · by_cases h2 : W ≤ 100
    · by_cases h3 : 0 ≤ H
      · by_cases h4 : H ≤ 100
        · obtain ⟨m0, m1⟩ := mul96 (a := W) (b := H) ⟨h1, h2⟩ ⟨h3, h4⟩
          have e0 : IntKind.i64.wrap (W * H) = W * H := by rw [IntKind.wrap_i64]; omega
          by_cases h5 : (l.length : Int) = W * H
          · have t1 : ((l.length : Int) != W * H) = false := by simp [h5]
            have H5 := Lib.hid h5
            clear h5
            have HI2 := Lib.hid (HI.out.kept HN.out nof)
            obtain ⟨AA, cc, he, -, hel⟩ := HI2.out
            injection he with e1 e2 e3
            subst e1 e3
            have HEL := Lib.hid hel
            clear hel e2
            go_enter Tryd.func23, Tryd.ntmps23
            go_wp2
            go_loop [3] (fun s3 => ∃ k : Nat, s3 = .int .i64 k ∧ k ≤ l.length ∧ Hid (∀ i x, i < k → l[i]? = some x → 0 ≤ x ∧ x ≤ 2)) (fun s3 => l.length - (intOf s3).toNat)
            case atStart => exact ⟨0, rfl, Nat.zero_le _, Lib.hid fun i x hi => by omega⟩
            case round =>
              obtain ⟨k, rfl, hk, HA⟩ := hrel
              have k0 : (0 : Int) ≤ (k : Int) := by omega
              by_cases hlt : k < l.length
              · obtain ⟨x, hx⟩ : ∃ x, l[k]? = some x := ⟨_, List.getElem?_eq_getElem hlt⟩
                obtain ⟨hwx, pk, po, hpk, rfl, h0⟩ := HEL.out k x hx
                have k1 : (k : Int) < (l.length : Int) := by omega
                have HX := Lib.hid hx
                unfold wfI at hwx
                clear hx
                by_cases g0 : 0 ≤ x
                · by_cases g1 : x ≤ 2
                  · go_wp2
                    go_round
                    case rel =>
                      refine ⟨k + 1, by go_num, by omega, Lib.hid fun i y hi hy => ?_⟩
                      by_cases e : i = k
                      · subst e
                        rw [HX.out] at hy
                        cases hy
                        exact ⟨g0, g1⟩
                      · exact HA.out i y (by omega) hy
                    case measure => simp [intOf]; omega
                  · go_wp2
                    exact ret_i (HR.out _ HN.out) (imE_no fun hc => by have := hc.2.2.2 x (List.mem_of_getElem? HX.out); omega)
                · go_wp2
                  exact ret_i (HR.out _ HN.out) (imE_no fun hc => by have := hc.2.2.2 x (List.mem_of_getElem? HX.out); omega)
              · obtain rfl : k = l.length := by omega
                go_wp2
                refine ret_i (HR.out _ HN.out) (imE_yes ⟨⟨h1, h2⟩, ⟨h3, h4⟩, H5.out, fun p hp => ?_⟩)
                obtain ⟨i, hi⟩ := List.mem_iff_getElem?.1 hp
                exact HA.out i p (by have := (List.getElem?_eq_some_iff.1 hi).1; omega) hi
          · have t1 : ((l.length : Int) != W * H) = true := by simp [h5]
            go_enter Tryd.func23, Tryd.ntmps23
            go_wp2
            refine ret_i (HR.out _ HN.out) (imE_no fun hc => h5 hc.2.2.1)
        · go_enter Tryd.func23, Tryd.ntmps23
          go_wp2
          refine ret_i (HR.out _ HN.out) (imE_no fun hc => by have := hc.2.1.2; simp only at this; omega)
      · go_enter Tryd.func23, Tryd.ntmps23
        go_wp2
        refine ret_i (HR.out _ HN.out) (imE_no fun hc => by have := hc.2.1.1; simp only at this; omega)
    · go_enter Tryd.func23, Tryd.ntmps23
      go_wp2
      refine ret_i (HR.out _ HN.out) (imE_no fun hc => by have := hc.1.2; simp only at this; omega)
  · go_enter Tryd.func23, Tryd.ntmps23
    go_wp2
    refine ret_i (HR.out _ HN.out) (imE_no fun hc => by have := hc.1.1; simp only at this; omega)
end Go.Proofs.YtnhdnjhhjmgmnaaDoor
