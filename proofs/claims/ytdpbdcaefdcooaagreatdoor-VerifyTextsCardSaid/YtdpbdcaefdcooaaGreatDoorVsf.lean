/-
  ref08.SameFacts: two facts, equal or not.
-/
import Derived.Test.YtdpbdcaefdcooaaGreatDoorIRo
import Derived.Test.YtdpbdcaefdcooaaGreatDoorRegI
import Derived.Below
import Derived.Deep.Cut
namespace Go.Proofs.YtdpbdcaefdcooaaGreatDoor
open Go.RowKit
set_option linter.unusedVariables false
set_option linter.unusedSimpArgs false
set_option maxRecDepth 100000

theorem isC_int {w : World} {lo n : Nat} {A : Option Addr} {c : Nat} {X : List Int} {k : Nat} {p : Int} (h : IsC w lo (.slice A n c) n 1 (X.map (Value.int .i64))) (hp : X[k]? = some p) :
    ∃ g, w.cell? ⟨g, k, none⟩ = some (.int .i64 p) ∧ A = some ⟨g, 0, none⟩ := by
  obtain ⟨A', c', e, -, -, h⟩ := h
  cases e
  obtain ⟨g, -, e, q0⟩ := h k (.int .i64 p) (by rw [List.getElem?_map, hp]; rfl)
  exact ⟨g, q0, e⟩

set_option maxHeartbeats 8000000 in
theorem sameF_any (k1 k2 d1 d2 : Int) (X Y : List Int) (lo lo' : Nat) (v1 v2 : Value) (w : World) (R : Ending → World → Prop) (h1 : IsC w lo v1 X.length 1 (X.map (Value.int .i64))) (h2 : IsC w lo' v2 Y.length 1 (Y.map (Value.int .i64))) (hX : X.length ≤ 1000000) (hY : Y.length ≤ 1000000)
    (hR : ∀ w', Nw w w' → R (.returned (.bool (decide ((k1, d1, X) = (k2, d2, Y))))) w') : Calls Tryz.prog 10 #[.agg #[.int .i64 k1, .int .i64 d1, v1], .agg #[.int .i64 k2, .int .i64 d2, v2]] w R := by
  have HR := Lib.hid hR
  clear hR
  have HC1 := Lib.hid h1
  have HC2 := Lib.hid h2
  clear h1 h2
  have NX := Lib.hid (Ch.refl (fun _ => False) w)
  obtain ⟨A1, c1, rfl⟩ : ∃ A c, v1 = .slice A X.length c := by obtain ⟨A, c, e, -⟩ := HC1.out; exact ⟨A, c, e⟩
  obtain ⟨A2, c2, rfl⟩ : ∃ A c, v2 = .slice A Y.length c := by obtain ⟨A, c, e, -⟩ := HC2.out; exact ⟨A, c, e⟩
  obtain ⟨z, hz⟩ : ∃ z, decide ((k1, d1, X) = (k2, d2, Y)) = z := ⟨_, rfl⟩
  have HZ := Lib.hid hz
  rw [hz] at HR
  clear hz
  have hcase : k1 ≠ k2 ∨ (k1 = k2 ∧ d1 ≠ d2) ∨ (k1 = k2 ∧ d1 = d2 ∧ X.length ≠ Y.length) ∨ (k1 = k2 ∧ d1 = d2 ∧ X.length = Y.length) := by omega
  rcases hcase with h | ⟨ha, h⟩ | ⟨ha, hb, h⟩ | ⟨ha, hb, h⟩
  · as_aux_lemma =>
    have e1 : (k1 != k2) = true := by simp [h]
    have hz := HZ.out
    rw [decide_eq_false (by intro e; injection e with e1 e2; exact h e1)] at hz
    subst hz
    clear HZ h
    go_enter Tryz.func10, Tryz.ntmps10
    go_upto_region 1 with (fail)
    refine wp_named ?_
    intro W1 hW
    have n : Nw w W1 := by rw [hW]; exact ((Ch.refl _ _).alloc _).alloc _
    replace HC1 := Lib.hid ((HC1.out.kept n nof))
    replace HC2 := Lib.hid ((HC2.out.kept n nof))
    replace NX := Lib.hid (NX.out.trans n)
    have HB1 := Lib.hid (show W1.heap[w.heap.size]? = some (.cells #[.int .i64 k1, .int .i64 d1, .slice A1 X.length c1] 30 (0, 0)) from by rw [hW]; exact heap_alloc_old' _ (heap_alloc_eq _ rfl))
    have HB2 := Lib.hid (show W1.heap[w.heap.size + 1]? = some (.cells #[.int .i64 k2, .int .i64 d2, .slice A2 Y.length c2] 30 (0, 0)) from by rw [hW]; exact heap_alloc_eq _ (by rw [alloc_size]))
    clear hW n
    have kHB10 : W1.cell? ⟨w.heap.size, 0, none⟩ = some (.int .i64 k1) := by rw [cell_of HB1.out]; rfl
    have kHB11 : W1.cell? ⟨w.heap.size, 1, none⟩ = some (.int .i64 d1) := by rw [cell_of HB1.out]; rfl
    have kHB12 : W1.cell? ⟨w.heap.size, 2, none⟩ = some (.slice A1 X.length c1) := by rw [cell_of HB1.out]; rfl
    have kHB20 : W1.cell? ⟨(w.heap.size + 1), 0, none⟩ = some (.int .i64 k2) := by rw [cell_of HB2.out]; rfl
    have kHB21 : W1.cell? ⟨(w.heap.size + 1), 1, none⟩ = some (.int .i64 d2) := by rw [cell_of HB2.out]; rfl
    have kHB22 : W1.cell? ⟨(w.heap.size + 1), 2, none⟩ = some (.slice A2 Y.length c2) := by rw [cell_of HB2.out]; rfl
    go_wp2
    exact HR.out _ NX.out
  · as_aux_lemma =>
    have e1 : (k1 != k2) = false := by simp [ha]
    have e2 : (d1 != d2) = true := by simp [h]
    have hz := HZ.out
    rw [decide_eq_false (by intro e; injection e with e1 e2; injection e2 with e2 e3; exact h e2)] at hz
    subst hz
    clear HZ h ha
    go_enter Tryz.func10, Tryz.ntmps10
    go_upto_region 1 with (fail)
    refine wp_named ?_
    intro W2 hW
    have n : Nw w W2 := by rw [hW]; exact ((Ch.refl _ _).alloc _).alloc _
    replace HC1 := Lib.hid ((HC1.out.kept n nof))
    replace HC2 := Lib.hid ((HC2.out.kept n nof))
    replace NX := Lib.hid (NX.out.trans n)
    have HB1 := Lib.hid (show W2.heap[w.heap.size]? = some (.cells #[.int .i64 k1, .int .i64 d1, .slice A1 X.length c1] 30 (0, 0)) from by rw [hW]; exact heap_alloc_old' _ (heap_alloc_eq _ rfl))
    have HB2 := Lib.hid (show W2.heap[w.heap.size + 1]? = some (.cells #[.int .i64 k2, .int .i64 d2, .slice A2 Y.length c2] 30 (0, 0)) from by rw [hW]; exact heap_alloc_eq _ (by rw [alloc_size]))
    clear hW n
    have kHB10 : W2.cell? ⟨w.heap.size, 0, none⟩ = some (.int .i64 k1) := by rw [cell_of HB1.out]; rfl
    have kHB11 : W2.cell? ⟨w.heap.size, 1, none⟩ = some (.int .i64 d1) := by rw [cell_of HB1.out]; rfl
    have kHB12 : W2.cell? ⟨w.heap.size, 2, none⟩ = some (.slice A1 X.length c1) := by rw [cell_of HB1.out]; rfl
    have kHB20 : W2.cell? ⟨(w.heap.size + 1), 0, none⟩ = some (.int .i64 k2) := by rw [cell_of HB2.out]; rfl
    have kHB21 : W2.cell? ⟨(w.heap.size + 1), 1, none⟩ = some (.int .i64 d2) := by rw [cell_of HB2.out]; rfl
    have kHB22 : W2.cell? ⟨(w.heap.size + 1), 2, none⟩ = some (.slice A2 Y.length c2) := by rw [cell_of HB2.out]; rfl
    go_wp2
    exact HR.out _ NX.out
  · as_aux_lemma =>
    have e1 : (k1 != k2) = false := by simp [ha]
    have e2 : (d1 != d2) = false := by simp [hb]
    have e3 : ((X.length : Int) != (Y.length : Int)) = true := by simp only [bne_iff_ne]; omega
    have hz := HZ.out
    rw [decide_eq_false (by intro e; injection e with e1 e2; injection e2 with e2 e3; exact h (by rw [e3]))] at hz
    subst hz
    clear HZ h ha hb
    go_enter Tryz.func10, Tryz.ntmps10
    go_upto_region 1 with (fail)
    refine wp_named ?_
    intro W3 hW
    have n : Nw w W3 := by rw [hW]; exact ((Ch.refl _ _).alloc _).alloc _
    replace HC1 := Lib.hid ((HC1.out.kept n nof))
    replace HC2 := Lib.hid ((HC2.out.kept n nof))
    replace NX := Lib.hid (NX.out.trans n)
    have HB1 := Lib.hid (show W3.heap[w.heap.size]? = some (.cells #[.int .i64 k1, .int .i64 d1, .slice A1 X.length c1] 30 (0, 0)) from by rw [hW]; exact heap_alloc_old' _ (heap_alloc_eq _ rfl))
    have HB2 := Lib.hid (show W3.heap[w.heap.size + 1]? = some (.cells #[.int .i64 k2, .int .i64 d2, .slice A2 Y.length c2] 30 (0, 0)) from by rw [hW]; exact heap_alloc_eq _ (by rw [alloc_size]))
    clear hW n
    have kHB10 : W3.cell? ⟨w.heap.size, 0, none⟩ = some (.int .i64 k1) := by rw [cell_of HB1.out]; rfl
    have kHB11 : W3.cell? ⟨w.heap.size, 1, none⟩ = some (.int .i64 d1) := by rw [cell_of HB1.out]; rfl
    have kHB12 : W3.cell? ⟨w.heap.size, 2, none⟩ = some (.slice A1 X.length c1) := by rw [cell_of HB1.out]; rfl
    have kHB20 : W3.cell? ⟨(w.heap.size + 1), 0, none⟩ = some (.int .i64 k2) := by rw [cell_of HB2.out]; rfl
    have kHB21 : W3.cell? ⟨(w.heap.size + 1), 1, none⟩ = some (.int .i64 d2) := by rw [cell_of HB2.out]; rfl
    have kHB22 : W3.cell? ⟨(w.heap.size + 1), 2, none⟩ = some (.slice A2 Y.length c2) := by rw [cell_of HB2.out]; rfl
    go_wp2
    exact HR.out _ NX.out
  · as_aux_lemma =>
    have e1 : (k1 != k2) = false := by simp [ha]
    have e2 : (d1 != d2) = false := by simp [hb]
    have e3 : ((X.length : Int) != (Y.length : Int)) = false := by simp only [bne_eq_false_iff_eq]; omega
    have HLn := Lib.hid h
    have hz := HZ.out
    rw [ha, hb] at hz
    have HZ2 := Lib.hid (show decide (X = Y) = z from by rw [← hz]; simp)
    clear HZ hz ha hb h
    go_enter Tryz.func10, Tryz.ntmps10
    go_upto_region 1 with (fail)
    refine wp_named ?_
    intro W4 hW
    have n : Nw w W4 := by rw [hW]; exact ((Ch.refl _ _).alloc _).alloc _
    replace HC1 := Lib.hid ((HC1.out.kept n nof))
    replace HC2 := Lib.hid ((HC2.out.kept n nof))
    replace NX := Lib.hid (NX.out.trans n)
    have HB1 := Lib.hid (show W4.heap[w.heap.size]? = some (.cells #[.int .i64 k1, .int .i64 d1, .slice A1 X.length c1] 30 (0, 0)) from by rw [hW]; exact heap_alloc_old' _ (heap_alloc_eq _ rfl))
    have HB2 := Lib.hid (show W4.heap[w.heap.size + 1]? = some (.cells #[.int .i64 k2, .int .i64 d2, .slice A2 Y.length c2] 30 (0, 0)) from by rw [hW]; exact heap_alloc_eq _ (by rw [alloc_size]))
    clear hW n
    have kHB10 : W4.cell? ⟨w.heap.size, 0, none⟩ = some (.int .i64 k1) := by rw [cell_of HB1.out]; rfl
    have kHB11 : W4.cell? ⟨w.heap.size, 1, none⟩ = some (.int .i64 d1) := by rw [cell_of HB1.out]; rfl
    have kHB12 : W4.cell? ⟨w.heap.size, 2, none⟩ = some (.slice A1 X.length c1) := by rw [cell_of HB1.out]; rfl
    have kHB20 : W4.cell? ⟨(w.heap.size + 1), 0, none⟩ = some (.int .i64 k2) := by rw [cell_of HB2.out]; rfl
    have kHB21 : W4.cell? ⟨(w.heap.size + 1), 1, none⟩ = some (.int .i64 d2) := by rw [cell_of HB2.out]; rfl
    have kHB22 : W4.cell? ⟨(w.heap.size + 1), 2, none⟩ = some (.slice A2 Y.length c2) := by rw [cell_of HB2.out]; rfl
    go_wp2_with (fail)
    clear kHB10 kHB11 kHB12 kHB20 kHB21 kHB22
    clear e1 e2 e3
    go_loopw [5] (fun s5 wr => Hid (Nw W4 wr) ∧ ∃ k : Nat, s5 = .int .i64 k ∧ k ≤ X.length ∧ Hid (∀ j, j < k → X[j]? = Y[j]?)) (fun s5 _ => X.length - (intOf s5).toNat)
    case atStart => exact ⟨Lib.hid (Ch.refl _ _), 0, rfl, Nat.zero_le _, Lib.hid fun j hj => by omega⟩
    case round =>
      obtain ⟨hwr, k, rfl, hk, HK⟩ := hrel
      have n := hwr.out
      have HWR := hwr
      clear hwr
      replace HC1 := Lib.hid ((HC1.out.kept n nof))
      replace HC2 := Lib.hid ((HC2.out.kept n nof))
      replace NX := Lib.hid (NX.out.trans n)
      replace HB1 := Lib.hid (n.heap HB1.out id)
      replace HB2 := Lib.hid (n.heap HB2.out id)
      clear n
      have k0 : (0 : Int) ≤ (k : Int) := by omega
      by_cases hlt : k < X.length
      · as_aux_lemma =>
          have k1' : (k : Int) < (X.length : Int) := by omega
          have k2' : (k : Int) < (Y.length : Int) := by have := HLn.out; omega
          obtain ⟨p, hp⟩ : ∃ p, X[k]? = some p := ⟨_, List.getElem?_eq_getElem hlt⟩
          obtain ⟨q, hq⟩ : ∃ q, Y[k]? = some q := ⟨_, List.getElem?_eq_getElem (by have := HLn.out; omega)⟩
          obtain ⟨g1, c10, rfl⟩ := isC_int HC1.out hp
          obtain ⟨g2, c20, rfl⟩ := isC_int HC2.out hq
          have HP := Lib.hid hp
          have HQ := Lib.hid hq
          clear hp hq
          have Hc10 := Lib.hid c10
          have Hc20 := Lib.hid c20
          clear c10 c20
          by_cases hpq : p = q
          · as_aux_lemma =>
              have e0 : (p != q) = false := by simp [hpq]
              have HPQ := Lib.hid hpq
              clear hpq
              have kHB12 : wr.cell? ⟨w.heap.size, 2, none⟩ = some (.slice (some ⟨g1, 0, none⟩) X.length c1) := by rw [cell_of HB1.out]; rfl
              have kHB22 : wr.cell? ⟨(w.heap.size + 1), 2, none⟩ = some (.slice (some ⟨g2, 0, none⟩) Y.length c2) := by rw [cell_of HB2.out]; rfl
              go_upto_region 6 with (fail)
              clear kHB12 kHB22
              refine wp_named ?_
              intro W5 hW
              have n : Nw wr W5 := by rw [hW]; first | exact Ch.refl _ _ | exact (Ch.refl _ _).alloc _
              replace HC1 := Lib.hid ((HC1.out.kept n nof))
              replace HC2 := Lib.hid ((HC2.out.kept n nof))
              replace NX := Lib.hid (NX.out.trans n)
              replace HB1 := Lib.hid (n.heap HB1.out id)
              replace HB2 := Lib.hid (n.heap HB2.out id)
              replace HWR := Lib.hid (HWR.out.trans n)
              replace Hc10 := Lib.hid (n.cell Hc10.out id)
              replace Hc20 := Lib.hid (n.cell Hc20.out id)
              clear hW n
              refine wp_region_V (F := fun w' => w'.cell? ⟨w.heap.size, 2, none⟩ = some (.slice (some ⟨g1, 0, none⟩) X.length c1) ∧ w'.cell? ⟨(w.heap.size + 1), 2, none⟩ = some (.slice (some ⟨g2, 0, none⟩) Y.length c2) ∧ w'.cell? ⟨g1, k, none⟩ = some (.int .i64 p) ∧ w'.cell? ⟨g2, k, none⟩ = some (.int .i64 q)) (opsOf Tryz.f10 6) 11 11 (by kernel_rfl) (by kernel_rfl) (by kernel_rfl) (fun w w' h n => ⟨n.cell h.1 id, n.cell h.2.1 id, n.cell h.2.2.1 id, n.cell h.2.2.2 id⟩) ⟨by show W5.cell? _ = _; rw [cell_of HB1.out]; rfl, by show W5.cell? _ = _; rw [cell_of HB2.out]; rfl, Hc10.out, Hc20.out⟩ (fun HOPS HCL hHeld => ?_)
              refine wpU_named ?_
              intro W6 hW
              try rw [← hW] at hHeld
              have n : Nw W5 W6 := by rw [hW]; exact (Ch.refl _ _).drew
              replace HC1 := Lib.hid ((HC1.out.kept n nof))
              replace HC2 := Lib.hid ((HC2.out.kept n nof))
              replace NX := Lib.hid (NX.out.trans n)
              replace HB1 := Lib.hid (n.heap HB1.out id)
              replace HB2 := Lib.hid (n.heap HB2.out id)
              replace HWR := Lib.hid (HWR.out.trans n)
              replace Hc10 := Lib.hid (n.cell Hc10.out id)
              replace Hc20 := Lib.hid (n.cell Hc20.out id)
              clear hW n
              first | (refine wpU_takeB (i := 0) (v := ?_) HOPS rfl (by kernel_rfl) (fun _ _ _ h => h) HCL (goes_read (by rfl) ?hy) ?_; case hy => (intro w hSw; (try dsimp only at hSw); go_simp; (try with_reducible rfl))) | (refine wpU_takeB (i := 0) (v := _) HOPS rfl (by kernel_rfl) (fun _ _ _ h => h) HCL (goes_not (by rfl)) ?_)
              try simp only [Act.put, List.getElem_toArray, List.getElem_cons_succ, List.getElem_cons_zero, List.setIfInBounds_toArray, List.set_cons_zero, List.set_cons_succ]
              first | (refine wpU_takeB (i := 1) (v := ?_) HOPS rfl (by kernel_rfl) (fun _ _ _ h => h) HCL (goes_read (by rfl) ?hy) ?_; case hy => (intro w hSw; (try dsimp only at hSw); go_simp; (try with_reducible rfl))) | (refine wpU_takeB (i := 1) (v := _) HOPS rfl (by kernel_rfl) (fun _ _ _ h => h) HCL (goes_not (by rfl)) ?_)
              try simp only [Act.put, List.getElem_toArray, List.getElem_cons_succ, List.getElem_cons_zero, List.setIfInBounds_toArray, List.set_cons_zero, List.set_cons_succ]
              first | (refine wpU_takeB (i := 2) (v := ?_) HOPS rfl (by kernel_rfl) (fun _ _ _ h => h) HCL (goes_read (by rfl) ?hy) ?_; case hy => (intro w hSw; (try dsimp only at hSw); go_simp; (try with_reducible rfl))) | (refine wpU_takeB (i := 2) (v := _) HOPS rfl (by kernel_rfl) (fun _ _ _ h => h) HCL (goes_not (by rfl)) ?_)
              try simp only [Act.put, List.getElem_toArray, List.getElem_cons_succ, List.getElem_cons_zero, List.setIfInBounds_toArray, List.set_cons_zero, List.set_cons_succ]
              first | (refine wpU_takeB (i := 3) (v := ?_) HOPS rfl (by kernel_rfl) (fun _ _ _ h => h) HCL (goes_read (by rfl) ?hy) ?_; case hy => (intro w hSw; (try dsimp only at hSw); go_simp; (try with_reducible rfl))) | (refine wpU_takeB (i := 3) (v := _) HOPS rfl (by kernel_rfl) (fun _ _ _ h => h) HCL (goes_not (by rfl)) ?_)
              try simp only [Act.put, List.getElem_toArray, List.getElem_cons_succ, List.getElem_cons_zero, List.setIfInBounds_toArray, List.set_cons_zero, List.set_cons_succ]
              first | (refine wpU_takeB (i := 4) (v := ?_) HOPS rfl (by kernel_rfl) (fun _ _ _ h => h) HCL (goes_read (by rfl) ?hy) ?_; case hy => (intro w hSw; (try dsimp only at hSw); go_simp; (try with_reducible rfl))) | (refine wpU_takeB (i := 4) (v := _) HOPS rfl (by kernel_rfl) (fun _ _ _ h => h) HCL (goes_not (by rfl)) ?_)
              try simp only [Act.put, List.getElem_toArray, List.getElem_cons_succ, List.getElem_cons_zero, List.setIfInBounds_toArray, List.set_cons_zero, List.set_cons_succ]
              first | (refine wpU_takeB (i := 5) (v := ?_) HOPS rfl (by kernel_rfl) (fun _ _ _ h => h) HCL (goes_read (by rfl) ?hy) ?_; case hy => (intro w hSw; (try dsimp only at hSw); go_simp; (try with_reducible rfl))) | (refine wpU_takeB (i := 5) (v := _) HOPS rfl (by kernel_rfl) (fun _ _ _ h => h) HCL (goes_not (by rfl)) ?_)
              try simp only [Act.put, List.getElem_toArray, List.getElem_cons_succ, List.getElem_cons_zero, List.setIfInBounds_toArray, List.set_cons_zero, List.set_cons_succ]
              first | (refine wpU_takeB (i := 6) (v := ?_) HOPS rfl (by kernel_rfl) (fun _ _ _ h => h) HCL (goes_read (by rfl) ?hy) ?_; case hy => (intro w hSw; (try dsimp only at hSw); go_simp; (try with_reducible rfl))) | (refine wpU_takeB (i := 6) (v := _) HOPS rfl (by kernel_rfl) (fun _ _ _ h => h) HCL (goes_not (by rfl)) ?_)
              try simp only [Act.put, List.getElem_toArray, List.getElem_cons_succ, List.getElem_cons_zero, List.setIfInBounds_toArray, List.set_cons_zero, List.set_cons_succ]
              first | (refine wpU_takeB (i := 7) (v := ?_) HOPS rfl (by kernel_rfl) (fun _ _ _ h => h) HCL (goes_read (by rfl) ?hy) ?_; case hy => (intro w hSw; (try dsimp only at hSw); go_simp; (try with_reducible rfl))) | (refine wpU_takeB (i := 7) (v := _) HOPS rfl (by kernel_rfl) (fun _ _ _ h => h) HCL (goes_not (by rfl)) ?_)
              try simp only [Act.put, List.getElem_toArray, List.getElem_cons_succ, List.getElem_cons_zero, List.setIfInBounds_toArray, List.set_cons_zero, List.set_cons_succ]
              first | (refine wpU_takeB (i := 8) (v := ?_) HOPS rfl (by kernel_rfl) (fun _ _ _ h => h) HCL (goes_read (by rfl) ?hy) ?_; case hy => (intro w hSw; (try dsimp only at hSw); go_simp; (try with_reducible rfl))) | (refine wpU_takeB (i := 8) (v := _) HOPS rfl (by kernel_rfl) (fun _ _ _ h => h) HCL (goes_not (by rfl)) ?_)
              try simp only [Act.put, List.getElem_toArray, List.getElem_cons_succ, List.getElem_cons_zero, List.setIfInBounds_toArray, List.set_cons_zero, List.set_cons_succ]
              first | (refine wpU_takeB (i := 9) (v := ?_) HOPS rfl (by kernel_rfl) (fun _ _ _ h => h) HCL (goes_read (by rfl) ?hy) ?_; case hy => (intro w hSw; (try dsimp only at hSw); go_simp; (try with_reducible rfl))) | (refine wpU_takeB (i := 9) (v := _) HOPS rfl (by kernel_rfl) (fun _ _ _ h => h) HCL (goes_not (by rfl)) ?_)
              try simp only [Act.put, List.getElem_toArray, List.getElem_cons_succ, List.getElem_cons_zero, List.setIfInBounds_toArray, List.set_cons_zero, List.set_cons_succ]
              first | (refine wpU_takeB (i := 10) (v := ?_) HOPS rfl (by kernel_rfl) (fun _ _ _ h => h) HCL (goes_read (by rfl) ?hy) ?_; case hy => (intro w hSw; (try dsimp only at hSw); go_simp; (try with_reducible rfl))) | (refine wpU_takeB (i := 10) (v := _) HOPS rfl (by kernel_rfl) (fun _ _ _ h => h) HCL (goes_not (by rfl)) ?_)
              try simp only [Act.put, List.getElem_toArray, List.getElem_cons_succ, List.getElem_cons_zero, List.setIfInBounds_toArray, List.set_cons_zero, List.set_cons_succ]
              refine wpU_done (by kernel_rfl) (fun w7 hle => ?_) _
              have n := (hle.ahead (by kernel_rfl)).1
              replace HC1 := Lib.hid ((HC1.out.kept n nof))
              replace HC2 := Lib.hid ((HC2.out.kept n nof))
              replace NX := Lib.hid (NX.out.trans n)
              replace HB1 := Lib.hid (n.heap HB1.out id)
              replace HB2 := Lib.hid (n.heap HB2.out id)
              replace HWR := Lib.hid (HWR.out.trans n)
              replace Hc10 := Lib.hid (n.cell Hc10.out id)
              replace Hc20 := Lib.hid (n.cell Hc20.out id)
              clear n
              clear HOPS HCL hle
              repeat clear hHeld
              go_wp2
              refine ⟨⟨HWR, k + 1, by go_num, by omega, Lib.hid fun j hj => ?_⟩, by simp [intOf]; omega⟩
              by_cases e : j = k
              · rw [e, HP.out, HQ.out, HPQ.out]
              · exact HK.out j (by omega)
          · as_aux_lemma =>
              have e0 : (p != q) = true := by simp [hpq]
              have HPQ := Lib.hid hpq
              clear hpq
              have kHB12 : wr.cell? ⟨w.heap.size, 2, none⟩ = some (.slice (some ⟨g1, 0, none⟩) X.length c1) := by rw [cell_of HB1.out]; rfl
              have kHB22 : wr.cell? ⟨(w.heap.size + 1), 2, none⟩ = some (.slice (some ⟨g2, 0, none⟩) Y.length c2) := by rw [cell_of HB2.out]; rfl
              go_upto_region 6 with (fail)
              clear kHB12 kHB22
              refine wp_named ?_
              intro W8 hW
              have n : Nw wr W8 := by rw [hW]; first | exact Ch.refl _ _ | exact (Ch.refl _ _).alloc _
              replace HC1 := Lib.hid ((HC1.out.kept n nof))
              replace HC2 := Lib.hid ((HC2.out.kept n nof))
              replace NX := Lib.hid (NX.out.trans n)
              replace HB1 := Lib.hid (n.heap HB1.out id)
              replace HB2 := Lib.hid (n.heap HB2.out id)
              replace HWR := Lib.hid (HWR.out.trans n)
              replace Hc10 := Lib.hid (n.cell Hc10.out id)
              replace Hc20 := Lib.hid (n.cell Hc20.out id)
              clear hW n
              refine wp_region_V (F := fun w' => w'.cell? ⟨w.heap.size, 2, none⟩ = some (.slice (some ⟨g1, 0, none⟩) X.length c1) ∧ w'.cell? ⟨(w.heap.size + 1), 2, none⟩ = some (.slice (some ⟨g2, 0, none⟩) Y.length c2) ∧ w'.cell? ⟨g1, k, none⟩ = some (.int .i64 p) ∧ w'.cell? ⟨g2, k, none⟩ = some (.int .i64 q)) (opsOf Tryz.f10 6) 11 11 (by kernel_rfl) (by kernel_rfl) (by kernel_rfl) (fun w w' h n => ⟨n.cell h.1 id, n.cell h.2.1 id, n.cell h.2.2.1 id, n.cell h.2.2.2 id⟩) ⟨by show W8.cell? _ = _; rw [cell_of HB1.out]; rfl, by show W8.cell? _ = _; rw [cell_of HB2.out]; rfl, Hc10.out, Hc20.out⟩ (fun HOPS HCL hHeld => ?_)
              refine wpU_named ?_
              intro W9 hW
              try rw [← hW] at hHeld
              have n : Nw W8 W9 := by rw [hW]; exact (Ch.refl _ _).drew
              replace HC1 := Lib.hid ((HC1.out.kept n nof))
              replace HC2 := Lib.hid ((HC2.out.kept n nof))
              replace NX := Lib.hid (NX.out.trans n)
              replace HB1 := Lib.hid (n.heap HB1.out id)
              replace HB2 := Lib.hid (n.heap HB2.out id)
              replace HWR := Lib.hid (HWR.out.trans n)
              replace Hc10 := Lib.hid (n.cell Hc10.out id)
              replace Hc20 := Lib.hid (n.cell Hc20.out id)
              clear hW n
              first | (refine wpU_takeB (i := 0) (v := ?_) HOPS rfl (by kernel_rfl) (fun _ _ _ h => h) HCL (goes_read (by rfl) ?hy) ?_; case hy => (intro w hSw; (try dsimp only at hSw); go_simp; (try with_reducible rfl))) | (refine wpU_takeB (i := 0) (v := _) HOPS rfl (by kernel_rfl) (fun _ _ _ h => h) HCL (goes_not (by rfl)) ?_)
              try simp only [Act.put, List.getElem_toArray, List.getElem_cons_succ, List.getElem_cons_zero, List.setIfInBounds_toArray, List.set_cons_zero, List.set_cons_succ]
              first | (refine wpU_takeB (i := 1) (v := ?_) HOPS rfl (by kernel_rfl) (fun _ _ _ h => h) HCL (goes_read (by rfl) ?hy) ?_; case hy => (intro w hSw; (try dsimp only at hSw); go_simp; (try with_reducible rfl))) | (refine wpU_takeB (i := 1) (v := _) HOPS rfl (by kernel_rfl) (fun _ _ _ h => h) HCL (goes_not (by rfl)) ?_)
              try simp only [Act.put, List.getElem_toArray, List.getElem_cons_succ, List.getElem_cons_zero, List.setIfInBounds_toArray, List.set_cons_zero, List.set_cons_succ]
              first | (refine wpU_takeB (i := 2) (v := ?_) HOPS rfl (by kernel_rfl) (fun _ _ _ h => h) HCL (goes_read (by rfl) ?hy) ?_; case hy => (intro w hSw; (try dsimp only at hSw); go_simp; (try with_reducible rfl))) | (refine wpU_takeB (i := 2) (v := _) HOPS rfl (by kernel_rfl) (fun _ _ _ h => h) HCL (goes_not (by rfl)) ?_)
              try simp only [Act.put, List.getElem_toArray, List.getElem_cons_succ, List.getElem_cons_zero, List.setIfInBounds_toArray, List.set_cons_zero, List.set_cons_succ]
              first | (refine wpU_takeB (i := 3) (v := ?_) HOPS rfl (by kernel_rfl) (fun _ _ _ h => h) HCL (goes_read (by rfl) ?hy) ?_; case hy => (intro w hSw; (try dsimp only at hSw); go_simp; (try with_reducible rfl))) | (refine wpU_takeB (i := 3) (v := _) HOPS rfl (by kernel_rfl) (fun _ _ _ h => h) HCL (goes_not (by rfl)) ?_)
              try simp only [Act.put, List.getElem_toArray, List.getElem_cons_succ, List.getElem_cons_zero, List.setIfInBounds_toArray, List.set_cons_zero, List.set_cons_succ]
              first | (refine wpU_takeB (i := 4) (v := ?_) HOPS rfl (by kernel_rfl) (fun _ _ _ h => h) HCL (goes_read (by rfl) ?hy) ?_; case hy => (intro w hSw; (try dsimp only at hSw); go_simp; (try with_reducible rfl))) | (refine wpU_takeB (i := 4) (v := _) HOPS rfl (by kernel_rfl) (fun _ _ _ h => h) HCL (goes_not (by rfl)) ?_)
              try simp only [Act.put, List.getElem_toArray, List.getElem_cons_succ, List.getElem_cons_zero, List.setIfInBounds_toArray, List.set_cons_zero, List.set_cons_succ]
              first | (refine wpU_takeB (i := 5) (v := ?_) HOPS rfl (by kernel_rfl) (fun _ _ _ h => h) HCL (goes_read (by rfl) ?hy) ?_; case hy => (intro w hSw; (try dsimp only at hSw); go_simp; (try with_reducible rfl))) | (refine wpU_takeB (i := 5) (v := _) HOPS rfl (by kernel_rfl) (fun _ _ _ h => h) HCL (goes_not (by rfl)) ?_)
              try simp only [Act.put, List.getElem_toArray, List.getElem_cons_succ, List.getElem_cons_zero, List.setIfInBounds_toArray, List.set_cons_zero, List.set_cons_succ]
              first | (refine wpU_takeB (i := 6) (v := ?_) HOPS rfl (by kernel_rfl) (fun _ _ _ h => h) HCL (goes_read (by rfl) ?hy) ?_; case hy => (intro w hSw; (try dsimp only at hSw); go_simp; (try with_reducible rfl))) | (refine wpU_takeB (i := 6) (v := _) HOPS rfl (by kernel_rfl) (fun _ _ _ h => h) HCL (goes_not (by rfl)) ?_)
              try simp only [Act.put, List.getElem_toArray, List.getElem_cons_succ, List.getElem_cons_zero, List.setIfInBounds_toArray, List.set_cons_zero, List.set_cons_succ]
              first | (refine wpU_takeB (i := 7) (v := ?_) HOPS rfl (by kernel_rfl) (fun _ _ _ h => h) HCL (goes_read (by rfl) ?hy) ?_; case hy => (intro w hSw; (try dsimp only at hSw); go_simp; (try with_reducible rfl))) | (refine wpU_takeB (i := 7) (v := _) HOPS rfl (by kernel_rfl) (fun _ _ _ h => h) HCL (goes_not (by rfl)) ?_)
              try simp only [Act.put, List.getElem_toArray, List.getElem_cons_succ, List.getElem_cons_zero, List.setIfInBounds_toArray, List.set_cons_zero, List.set_cons_succ]
              first | (refine wpU_takeB (i := 8) (v := ?_) HOPS rfl (by kernel_rfl) (fun _ _ _ h => h) HCL (goes_read (by rfl) ?hy) ?_; case hy => (intro w hSw; (try dsimp only at hSw); go_simp; (try with_reducible rfl))) | (refine wpU_takeB (i := 8) (v := _) HOPS rfl (by kernel_rfl) (fun _ _ _ h => h) HCL (goes_not (by rfl)) ?_)
              try simp only [Act.put, List.getElem_toArray, List.getElem_cons_succ, List.getElem_cons_zero, List.setIfInBounds_toArray, List.set_cons_zero, List.set_cons_succ]
              first | (refine wpU_takeB (i := 9) (v := ?_) HOPS rfl (by kernel_rfl) (fun _ _ _ h => h) HCL (goes_read (by rfl) ?hy) ?_; case hy => (intro w hSw; (try dsimp only at hSw); go_simp; (try with_reducible rfl))) | (refine wpU_takeB (i := 9) (v := _) HOPS rfl (by kernel_rfl) (fun _ _ _ h => h) HCL (goes_not (by rfl)) ?_)
              try simp only [Act.put, List.getElem_toArray, List.getElem_cons_succ, List.getElem_cons_zero, List.setIfInBounds_toArray, List.set_cons_zero, List.set_cons_succ]
              first | (refine wpU_takeB (i := 10) (v := ?_) HOPS rfl (by kernel_rfl) (fun _ _ _ h => h) HCL (goes_read (by rfl) ?hy) ?_; case hy => (intro w hSw; (try dsimp only at hSw); go_simp; (try with_reducible rfl))) | (refine wpU_takeB (i := 10) (v := _) HOPS rfl (by kernel_rfl) (fun _ _ _ h => h) HCL (goes_not (by rfl)) ?_)
              try simp only [Act.put, List.getElem_toArray, List.getElem_cons_succ, List.getElem_cons_zero, List.setIfInBounds_toArray, List.set_cons_zero, List.set_cons_succ]
              refine wpU_done (by kernel_rfl) (fun w10 hle => ?_) _
              have n := (hle.ahead (by kernel_rfl)).1
              replace HC1 := Lib.hid ((HC1.out.kept n nof))
              replace HC2 := Lib.hid ((HC2.out.kept n nof))
              replace NX := Lib.hid (NX.out.trans n)
              replace HB1 := Lib.hid (n.heap HB1.out id)
              replace HB2 := Lib.hid (n.heap HB2.out id)
              replace HWR := Lib.hid (HWR.out.trans n)
              replace Hc10 := Lib.hid (n.cell Hc10.out id)
              replace Hc20 := Lib.hid (n.cell Hc20.out id)
              clear n
              clear HOPS HCL hle
              repeat clear hHeld
              go_wp2
              have h9 := HR.out _ NX.out
              rw [← HZ2.out, decide_eq_false (fun e => HPQ.out (by have h1 := HP.out; rw [e, HQ.out] at h1; exact (Option.some.inj h1).symm))] at h9
              exact h9
      · as_aux_lemma =>
        have k1' : ¬ (k : Int) < (X.length : Int) := by omega
        have cb1 : wr.cell? ⟨w.heap.size, 2, none⟩ = some (.slice A1 X.length c1) := by rw [cell_of HB1.out]; rfl
        go_wp2
        have h9 := HR.out _ NX.out
        rw [← HZ2.out, decide_eq_true (List.ext_getElem? fun j => by
          rcases Nat.lt_or_ge j k with h | h
          · exact HK.out j h
          · rw [List.getElem?_eq_none (by omega), List.getElem?_eq_none (by have := HLn.out; omega)])] at h9
        exact h9

end Go.Proofs.YtdpbdcaefdcooaaGreatDoor
