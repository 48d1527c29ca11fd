/-
  indeliblelaw04: Case.small and texts.
-/
import Derived.Test.YtaafmgkjfmngjaaDoorBt4
import Derived.Test.YtaafmgkjfmngjaaDoorFl4
import Derived.Test.YtaafmgkjfmngjaaDoorRegU
namespace Go.Proofs.YtaafmgkjfmngjaaDoor
open Go.RowKit
set_option linter.unusedVariables false
set_option linter.unusedSimpArgs false
set_option maxRecDepth 100000

theorem intC_of (l : List Int) : (intC l).size = l.length := by simp [intC]
/-- The small number. -/
def smallN (n : Int) : Int := n % 25 - 6
theorem smallN_in (n : Int) : -6 ≤ smallN n ∧ smallN n ≤ 18 := by unfold smallN; omega
theorem smallN_wf (n : Int) : wfI (smallN n) := by have := smallN_in n; unfold wfI; omega

set_option maxHeartbeats 2000000 in
theorem small_any (va vb : Value) (od n0 n1 n2 n3 : Int) (w : World) (R : Ending → World → Prop) (ha : ∃ A n c, va = .slice A n c) (hb : ∃ A n c, vb = .slice A n c) (hq : ∀ x ∈ [n0, n1, n2, n3], wfI x)
    (hR : ∀ w', Nw w w' → R (.returned (.agg #[.int .i64 (smallN n0), .int .i64 (smallN n1), .int .i64 (smallN n2), .int .i64 (smallN n3)])) w') :
    Calls Tryd.prog 10 #[.agg #[va, vb, .int .i64 od, .int .i64 n0, .int .i64 n1, .int .i64 n2, .int .i64 n3]] w R := by
  have HR := Lib.hid hR
  clear hR
  have HQ := Lib.hid hq
  clear hq
  obtain ⟨A, na, ca, rfl⟩ := ha
  obtain ⟨B, nb, cb, rfl⟩ := hb
  have NX := Lib.hid (Ch.refl (fun _ => False) w)
  go_enter Tryd.func10, Tryd.ntmps10
  go_wp2_with (fail)
  refine wp_named ?_
  intro W1 hW
  have n : Nw w W1 := by rw [hW]; first | exact (((((((Ch.refl (fun _ => False) w).alloc _).alloc _).alloc _).setb (fun h => by omega) _).setb (fun h => by omega) _).setb (fun h => by omega) _).setb (fun h => by omega) _ | exact (((Ch.refl _ _).alloc _).alloc _).alloc _
  replace NX := Lib.hid (NX.out.trans n)
  have RB := Lib.hid (show W1.heap[w.heap.size + 1]? = some (.cells #[.int .i64 0, .int .i64 0, .int .i64 0, .int .i64 0] 23 (0, 0)) from by rw [hW]; first | exact heap_alloc_old' _ (heap_alloc_eq _ (by simp only [alloc_size])) | (rw [heap_setCell_ne _ (by simp only; omega), heap_setCell_ne _ (by simp only; omega), heap_setCell_ne _ (by simp only; omega), heap_setCell_ne _ (by simp only; omega)]; exact heap_alloc_old' _ (heap_alloc_eq _ (by simp only [alloc_size]))))
  have HB1 := Lib.hid (show W1.heap[w.heap.size + 2]? = some (.cells (intC [n0, n1, n2, n3]) 23 (0, 0)) from by rw [hW]; exact heap_alloc_eq _ (by simp only [alloc_size]))
  clear hW n
  go_loopw [4, 7] (fun _ s7 wr => ∃ (k : Nat) (qs : List Int), s7 = .int .i64 k ∧ k ≤ 4 ∧ Hid (qs = ([n0, n1, n2, n3].take k).map smallN ++ [n0, n1, n2, n3].drop k) ∧ Hid (wr.heap[w.heap.size + 2]? = some (.cells (intC qs) 23 (0, 0))) ∧ Hid (Ch (· = w.heap.size + 2) W1 wr)) (fun _ s7 _ => 4 - (intOf s7).toNat)
  case atStart => exact ⟨0, [n0, n1, n2, n3], rfl, by omega, Lib.hid rfl, HB1, Lib.hid (Ch.refl _ _)⟩
  case round =>
    obtain ⟨k, qs, rfl, hk, HQS, HB1', HC⟩ := hrel
    have k0 : (0 : Int) ≤ (k : Int) := by omega
    by_cases hk4 : k < 4
    · obtain ⟨y, hy⟩ : ∃ y, [n0, n1, n2, n3][k]? = some y := ⟨_, List.getElem?_eq_getElem (by simpa using hk4)⟩
      have hwy := HQ.out y (List.mem_of_getElem? hy)
      have hqk : qs[k]? = some y := by
        rw [HQS.out, List.getElem?_append_right (by simp; omega)]
        simp only [List.length_map, List.length_take, List.length_cons, List.length_nil]
        rw [show min k (0 + 1 + 1 + 1 + 1) = k by omega, Nat.sub_self, List.getElem?_drop, Nat.add_zero]
        exact hy
      have kc : wr.cell? ⟨w.heap.size + 2, k, none⟩ = some (.int .i64 y) := by rw [cell_of HB1'.out]; exact intC_get hqk
      have kf : wr.frozen? ⟨w.heap.size + 2, k, none⟩ = false := frozen_of HB1'.out
      have hst : qs.set k (smallN y) = ([n0, n1, n2, n3].take (k + 1)).map smallN ++ [n0, n1, n2, n3].drop (k + 1) := by
        rw [HQS.out]
        obtain rfl | rfl | rfl | rfl : k = 0 ∨ k = 1 ∨ k = 2 ∨ k = 3 := by omega
        all_goals (simp at hy; subst hy; simp)
      have HST := Lib.hid hst
      clear hst hqk hy
      have k1 : (k : Int) < 4 := by omega
      go_wp2_with (go_at_call 20; refine Mod_any _ _ _ _ hwy (by omega) (by omega) ?_)
      refine ⟨⟨k + 1, _, by go_num, by omega, HST, Lib.hid ?_, Lib.hid (HC.out.setb (fun _ => rfl) _)⟩, ?_⟩
      · rw [← intC_set]; exact heap_setCell_eq _ HB1'.out
      · simp [intOf]; omega
    · obtain rfl : k = 4 := by omega
      have hq4 : qs = [smallN n0, smallN n1, smallN n2, smallN n3] := by rw [HQS.out]; rfl
      rw [hq4] at HB1'
      have N4 := Lib.hid (NX.out.trans' HC.out (fun j hj e => by have e' : j = w.heap.size + 2 := e; omega))
      have RB4 := Lib.hid (HC.out.heap RB.out (by show w.heap.size + 1 ≠ w.heap.size + 2; omega))
      clear HQ HQS hq4
      have b0 : wr.cell? ⟨w.heap.size + 2, 0, none⟩ = some (.int .i64 (smallN n0)) := by rw [cell_of HB1'.out]; rfl
      have r0 : wr.cell? ⟨w.heap.size + 1, 0, none⟩ = some (.int .i64 0) := by rw [cell_of RB4.out]; rfl
      have q0 : wr.frozen? ⟨w.heap.size + 1, 0, none⟩ = false := frozen_of RB4.out
      have b1 : wr.cell? ⟨w.heap.size + 2, 1, none⟩ = some (.int .i64 (smallN n1)) := by rw [cell_of HB1'.out]; rfl
      have r1 : wr.cell? ⟨w.heap.size + 1, 1, none⟩ = some (.int .i64 0) := by rw [cell_of RB4.out]; rfl
      have q1 : wr.frozen? ⟨w.heap.size + 1, 1, none⟩ = false := frozen_of RB4.out
      have b2 : wr.cell? ⟨w.heap.size + 2, 2, none⟩ = some (.int .i64 (smallN n2)) := by rw [cell_of HB1'.out]; rfl
      have r2 : wr.cell? ⟨w.heap.size + 1, 2, none⟩ = some (.int .i64 0) := by rw [cell_of RB4.out]; rfl
      have q2 : wr.frozen? ⟨w.heap.size + 1, 2, none⟩ = false := frozen_of RB4.out
      have b3 : wr.cell? ⟨w.heap.size + 2, 3, none⟩ = some (.int .i64 (smallN n3)) := by rw [cell_of HB1'.out]; rfl
      have r3 : wr.cell? ⟨w.heap.size + 1, 3, none⟩ = some (.int .i64 0) := by rw [cell_of RB4.out]; rfl
      have q3 : wr.frozen? ⟨w.heap.size + 1, 3, none⟩ = false := frozen_of RB4.out
      go_wp2
      refine bodyPost_ret (v := .agg #[.int .i64 (smallN n0), .int .i64 (smallN n1), .int .i64 (smallN n2), .int .i64 (smallN n3)]) (by simp [results, Tryd.results10, go_sem, r0, r1, r2, r3]) rfl ?_
      exact HR.out _ ((((N4.out.setb (fun h => by omega) _).setb (fun h => by omega) _).setb (fun h => by omega) _).setb (fun h => by omega) _)

set_option maxHeartbeats 2000000 in
/-- A bitmap with the given rows. -/
theorem texts_ok (lo : Nat) (v : Value) (b : Bm) (t : ByteArray) (w : World) (R : Ending → World → Prop) (h : IsBm w lo v b) (hlo : lo ≤ w.heap.size) (ht : t = ⟨(textB b).toArray⟩)
    (hR : ∀ w', Nw w w' → R (.returned (.bool true)) w') : Calls Tryd.prog 33 #[v, .int .i64 0, .string t] w R := by
  subst ht
  have HR := Lib.hid hR
  clear hR
  have HB := Lib.hid (h.hi hlo)
  obtain ⟨W, H, l⟩ := b
  obtain ⟨sv, rfl, ⟨A, cap, rfl, -, -⟩, -, -⟩ := h
  simp only at HB HR ⊢
  clear hlo
  have NX := Lib.hid (Ch.refl (fun _ => False) w)
  go_enter Tryd.func33, Tryd.ntmps33
  go_wp2_with (fail)
  refine Calls_nm ?_
  intro W1 hW
  have n : Nw w W1 := by rw [hW]; exact (Ch.refl _ _).alloc _
  replace NX := Lib.hid (NX.out.trans n)
  replace HB := Lib.hid (HB.out.kept n nof)
  clear hW n
  have Z := NX.out.size
  refine bText_any w.heap.size _ (W, H, l) _ _ HB.out Z ?_
  intro w2 n
  replace NX := Lib.hid (NX.out.trans n)
  replace HB := Lib.hid (HB.out.kept n nof)
  clear n
  go_wp2_with (fail)
  exact ret_b (HR.out _ NX.out) (by simp)
end Go.Proofs.YtaafmgkjfmngjaaDoor
