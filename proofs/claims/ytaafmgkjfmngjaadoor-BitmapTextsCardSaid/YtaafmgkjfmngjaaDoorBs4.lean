/-
  indeliblelaw04: Case.bitmaps.
-/
import Derived.Test.YtaafmgkjfmngjaaDoorBOdd
import Derived.Test.YtaafmgkjfmngjaaDoorBm4
import Derived.Test.YtaafmgkjfmngjaaDoorNew4
import Derived.Test.YtaafmgkjfmngjaaDoorRegU
namespace Go.Proofs.YtaafmgkjfmngjaaDoor
open Go.RowKit
set_option linter.unusedVariables false
set_option linter.unusedSimpArgs false
set_option maxRecDepth 100000

theorem isBools_far4 {w w' : World} {lo ob : Nat} {v : Value} {l : List Bool} {c : Array Value} {T : TypeId} {f : Nat × Nat} (h : IsBools w lo v l) (hb : w.heap[ob]? = some (.cells c T f)) (hc : ∀ (i : Nat) (x : Bool), c[i]? ≠ some (.bool x)) (hch : Ch (· = ob) w w') : IsBools w' lo v l := by
  obtain ⟨A, cap, e, hl, h⟩ := h
  refine ⟨A, cap, e, hl, fun i x hi => ?_⟩
  obtain ⟨pk, po, hk, ea, h0⟩ := h i x hi
  refine ⟨pk, po, hk, ea, hch.cell h0 ?_⟩
  rintro rfl
  rw [cell_of hb] at h0
  exact hc _ _ h0
theorem isBm_far4 {w w' : World} {lo ob : Nat} {v : Value} {b : Bm} {c : Array Value} {T : TypeId} {f : Nat × Nat} (h : IsBm w lo v b) (hb : w.heap[ob]? = some (.cells c T f)) (hc : ∀ (i : Nat) (x : Bool), c[i]? ≠ some (.bool x)) (hch : Ch (· = ob) w w') : IsBm w' lo v b := by
  obtain ⟨s, e, h, hw⟩ := h
  exact ⟨s, e, isBools_far4 h hb hc hch, hw⟩
theorem no_bool3 (a b : Int) (A : Option Addr) (n c : Nat) (i : Nat) (x : Bool) : (#[Value.int .i64 a, .int .i64 b, .slice A n c] : Array Value)[i]? ≠ some (.bool x) := by
  rcases i with _ | _ | _ | i <;> simp

set_option maxHeartbeats 4000000 in
theorem bitmaps_det (lo : Nat) (va vb : Value) (la lb : List Int) (od n0 n1 n2 n3 : Int) (w : World) (R : Ending → World → Prop) (ha : IsInts w lo va la) (hb : IsInts w lo vb lb) (hlo : lo ≤ w.heap.size) (hod : wfI od)
    (hR : ∀ w' v1 v2 v3 b1 b2 b3, IsBm w' w'.heap.size v1 b1 → IsBm w' w'.heap.size v2 b2 → IsBm w' w'.heap.size v3 b3 → bmE b1 = 0 → b1.1 ≤ 16 → b1.2.1 ≤ 12 → bmE b2 = 0 → b2.1 ≤ 16 → b2.2.1 ≤ 12 → b3.2.2.length ≤ 193 → Nw w w' → b1 = made4B la → b2 = made4B lb → R (.returned (.tuple #[v1, v2, v3])) w') :
    Calls Tryd.prog 9 #[.agg #[va, vb, .int .i64 od, .int .i64 n0, .int .i64 n1, .int .i64 n2, .int .i64 n3]] w R := by
  have HR := Lib.hid hR
  clear hR
  have HLA := Lib.hid (ha.hi hlo)
  have HLB := Lib.hid (hb.hi hlo)
  have HOD := Lib.hid hod
  obtain ⟨A0, c0, rfl, -⟩ := ha
  obtain ⟨A1, c1, rfl, -⟩ := hb
  clear hod
  have NX := Lib.hid (Ch.refl (fun _ => False) w)
  go_enter Tryd.func9, Tryd.ntmps9
  go_wp2_with (fail)
  refine Calls_nm ?_
  intro W1 hW
  have n : Nw w W1 := by rw [hW]; exact ((((Ch.refl _ _).alloc _).alloc _).alloc _).alloc _
  replace NX := Lib.hid (NX.out.trans n)
  replace HLA := Lib.hid (HLA.out.kept n nof)
  replace HLB := Lib.hid (HLB.out.kept n nof)
  have HBC := Lib.hid (show W1.heap[w.heap.size]? = some (.cells #[.slice A0 la.length c0, .slice A1 lb.length c1, .int .i64 od, .int .i64 n0, .int .i64 n1, .int .i64 n2, .int .i64 n3] 25 (0, 0)) from by rw [hW]; exact heap_alloc_old' _ (heap_alloc_old' _ (heap_alloc_old' _ (heap_alloc_eq _ rfl))))
  have R1 := Lib.hid (show W1.heap[w.heap.size + 1]? = some (.cells #[.int .i64 0, .int .i64 0, .slice none 0 0] 28 (0, 0)) from by rw [hW]; exact heap_alloc_old' _ (heap_alloc_old' _ (heap_alloc_eq _ (by simp only [alloc_size]))))
  have R2 := Lib.hid (show W1.heap[w.heap.size + 2]? = some (.cells #[.int .i64 0, .int .i64 0, .slice none 0 0] 28 (0, 0)) from by rw [hW]; exact heap_alloc_old' _ (heap_alloc_eq _ (by simp only [alloc_size])))
  have R3 := Lib.hid (show W1.heap[w.heap.size + 3]? = some (.cells #[.int .i64 0, .int .i64 0, .slice none 0 0] 28 (0, 0)) from by rw [hW]; exact heap_alloc_eq _ (by simp only [alloc_size]))
  clear hW n
  have SZ : w.heap.size + 3 < W1.heap.size := lt_of_heap R3.out
  refine rMade4_det w.heap.size _ la _ _ HLA.out (by omega) ?_
  intro w2 va b1 hb hbE hb1 hb2 n hvb hd1
  replace NX := Lib.hid (NX.out.trans n)
  replace HLA := Lib.hid (HLA.out.kept n nof)
  replace HLB := Lib.hid (HLB.out.kept n nof)
  replace HBC := Lib.hid (n.heap HBC.out id)
  replace R1 := Lib.hid (n.heap R1.out id)
  replace R2 := Lib.hid (n.heap R2.out id)
  replace R3 := Lib.hid (n.heap R3.out id)
  replace SZ := Nat.lt_of_lt_of_le SZ n.size
  have ED1 := Lib.hid hd1
  clear hd1
  obtain ⟨Ab, nb1, rfl⟩ := hvb
  have HM1 := Lib.hid hb
  have HE1 := Lib.hid hbE
  obtain ⟨⟨e1, -⟩, ⟨e3, -⟩, e5⟩ := bmE_ok hbE
  have hbl : b1.2.2.length ≤ 192 := by
    have h2 : b1.1 * b1.2.1 ≤ 16 * 12 := Int.mul_le_mul (by omega) (by omega) (by omega) (by omega)
    omega
  clear hb hbE n e5 e1 e3
  have S5 := SZ
  go_upto_region 2 with (fail)
  refine wp_named ?_
  intro W3 hW
  have n : Nw w2 W3 := by rw [hW]; first | exact Ch.refl _ _ | exact (Ch.refl _ _).alloc _
  replace NX := Lib.hid (NX.out.trans n)
  replace HLA := Lib.hid (HLA.out.kept n nof)
  replace HLB := Lib.hid (HLB.out.kept n nof)
  replace HBC := Lib.hid (n.heap HBC.out id)
  replace R1 := Lib.hid (n.heap R1.out id)
  replace R2 := Lib.hid (n.heap R2.out id)
  replace R3 := Lib.hid (n.heap R3.out id)
  replace SZ := Nat.lt_of_lt_of_le SZ n.size
  replace HM1 := Lib.hid ((HM1.out.kept n nof).hi n.size)
  have HB5 := Lib.hid (show W3.heap[w2.heap.size]? = some (.cells #[.int .i64 b1.1, .int .i64 b1.2.1, .slice (some Ab) nb1 nb1] 28 (0, 0)) from by rw [hW]; exact heap_alloc_eq _ rfl)
  clear hW n
  refine wp_region_U (F := fun w' => w'.cell? ⟨w2.heap.size, 0, none⟩ = some (.int .i64 b1.1) ∧ w'.cell? ⟨w2.heap.size, 1, none⟩ = some (.int .i64 b1.2.1) ∧ w'.cell? ⟨w2.heap.size, 2, none⟩ = some (.slice (some Ab) nb1 nb1) ∧ w'.cell? ⟨w.heap.size, 1, none⟩ = some (.slice A1 lb.length c1) ∧ w'.cell? ⟨w.heap.size, 2, none⟩ = some (.int .i64 od)) (opsOf Tryd.f9 2) 10 11 (by kernel_rfl) (by kernel_rfl) (by kernel_rfl) ⟨by show W3.cell? _ = _; rw [cell_of HB5.out]; rfl, by show W3.cell? _ = _; rw [cell_of HB5.out]; rfl, by show W3.cell? _ = _; rw [cell_of HB5.out]; rfl, by show W3.cell? _ = _; rw [cell_of HBC.out]; rfl, by show W3.cell? _ = _; rw [cell_of HBC.out]; rfl⟩ (fun HOPS hHeld => ?_)
  refine wpT_named ?_
  intro W4 hW
  try rw [← hW] at hHeld
  have n : Nw W3 W4 := by rw [hW]; exact (Ch.refl _ _).drew
  replace NX := Lib.hid (NX.out.trans n)
  replace HLA := Lib.hid (HLA.out.kept n nof)
  replace HLB := Lib.hid (HLB.out.kept n nof)
  replace HBC := Lib.hid (n.heap HBC.out id)
  replace R1 := Lib.hid (n.heap R1.out id)
  replace R2 := Lib.hid (n.heap R2.out id)
  replace R3 := Lib.hid (n.heap R3.out id)
  replace SZ := Nat.lt_of_lt_of_le SZ n.size
  replace HM1 := Lib.hid ((HM1.out.kept n nof).hi n.size)
  replace HB5 := Lib.hid (n.heap HB5.out id)
  clear hW n
  first | (refine wpT_takeB (i := 0) (v := ?_) HOPS rfl (by kernel_rfl) (fun _ _ _ h => h) (Or.inl ⟨by rfl, ?hy⟩) (by assumption) ?_; case hy => (intro w hSw; (try dsimp only at hSw); go_simp; (try with_reducible rfl))) | (refine wpT_takeB (i := 0) (v := _) HOPS rfl (by kernel_rfl) (fun _ _ _ h => h) (Or.inr ⟨by rfl, rfl⟩) (by assumption) ?_)
  try simp only [Act.put, List.getElem_toArray, List.getElem_cons_succ, List.getElem_cons_zero, List.setIfInBounds_toArray, List.set_cons_zero, List.set_cons_succ]
  first | (refine wpT_takeB (i := 1) (v := ?_) HOPS rfl (by kernel_rfl) (fun _ _ _ h => h) (Or.inl ⟨by rfl, ?hy⟩) (by assumption) ?_; case hy => (intro w hSw; (try dsimp only at hSw); go_simp; (try with_reducible rfl))) | (refine wpT_takeB (i := 1) (v := _) HOPS rfl (by kernel_rfl) (fun _ _ _ h => h) (Or.inr ⟨by rfl, rfl⟩) (by assumption) ?_)
  try simp only [Act.put, List.getElem_toArray, List.getElem_cons_succ, List.getElem_cons_zero, List.setIfInBounds_toArray, List.set_cons_zero, List.set_cons_succ]
  first | (refine wpT_takeB (i := 2) (v := ?_) HOPS rfl (by kernel_rfl) (fun _ _ _ h => h) (Or.inl ⟨by rfl, ?hy⟩) (by assumption) ?_; case hy => (intro w hSw; (try dsimp only at hSw); go_simp; (try with_reducible rfl))) | (refine wpT_takeB (i := 2) (v := _) HOPS rfl (by kernel_rfl) (fun _ _ _ h => h) (Or.inr ⟨by rfl, rfl⟩) (by assumption) ?_)
  try simp only [Act.put, List.getElem_toArray, List.getElem_cons_succ, List.getElem_cons_zero, List.setIfInBounds_toArray, List.set_cons_zero, List.set_cons_succ]
  first | (refine wpT_takeB (i := 4) (v := ?_) HOPS rfl (by kernel_rfl) (fun _ _ _ h => h) (Or.inl ⟨by rfl, ?hy⟩) (by assumption) ?_; case hy => (intro w hSw; (try dsimp only at hSw); go_simp; (try with_reducible rfl))) | (refine wpT_takeB (i := 4) (v := _) HOPS rfl (by kernel_rfl) (fun _ _ _ h => h) (Or.inr ⟨by rfl, rfl⟩) (by assumption) ?_)
  try simp only [Act.put, List.getElem_toArray, List.getElem_cons_succ, List.getElem_cons_zero, List.setIfInBounds_toArray, List.set_cons_zero, List.set_cons_succ]
  first | (refine wpT_takeB (i := 5) (v := ?_) HOPS rfl (by kernel_rfl) (fun _ _ _ h => h) (Or.inl ⟨by rfl, ?hy⟩) (by assumption) ?_; case hy => (intro w hSw; (try dsimp only at hSw); go_simp; (try with_reducible rfl))) | (refine wpT_takeB (i := 5) (v := _) HOPS rfl (by kernel_rfl) (fun _ _ _ h => h) (Or.inr ⟨by rfl, rfl⟩) (by assumption) ?_)
  try simp only [Act.put, List.getElem_toArray, List.getElem_cons_succ, List.getElem_cons_zero, List.setIfInBounds_toArray, List.set_cons_zero, List.set_cons_succ]
  first | (refine wpT_takeB (i := 6) (v := ?_) HOPS rfl (by kernel_rfl) (fun _ _ _ h => h) (Or.inl ⟨by rfl, ?hy⟩) (by assumption) ?_; case hy => (intro w hSw; (try dsimp only at hSw); go_simp; (try with_reducible rfl))) | (refine wpT_takeB (i := 6) (v := _) HOPS rfl (by kernel_rfl) (fun _ _ _ h => h) (Or.inr ⟨by rfl, rfl⟩) (by assumption) ?_)
  try simp only [Act.put, List.getElem_toArray, List.getElem_cons_succ, List.getElem_cons_zero, List.setIfInBounds_toArray, List.set_cons_zero, List.set_cons_succ]
  refine wpT_ready (rs := [3]) (by kernel_rfl) (by simp) ?_
  refine ReadyT.consB HOPS rfl (by rfl) (fun K hK => ?_) ReadyT.nil
  go_simp
  go_at_call 18
  refine rMade4_det w.heap.size _ lb _ _ HLB.out (by omega) ?_
  intro w5 vb b2 hb2 hbE2 hb21 hb22 n hvb2 hd2
  replace NX := Lib.hid (NX.out.trans n)
  replace HLA := Lib.hid (HLA.out.kept n nof)
  replace HLB := Lib.hid (HLB.out.kept n nof)
  replace HBC := Lib.hid (n.heap HBC.out id)
  replace R1 := Lib.hid (n.heap R1.out id)
  replace R2 := Lib.hid (n.heap R2.out id)
  replace R3 := Lib.hid (n.heap R3.out id)
  replace SZ := Nat.lt_of_lt_of_le SZ n.size
  replace HM1 := Lib.hid ((HM1.out.kept n nof).hi n.size)
  replace HB5 := Lib.hid (n.heap HB5.out id)
  have ED2 := Lib.hid hd2
  clear hd2
  obtain ⟨Ab2, nb2, rfl⟩ := hvb2
  have HM2 := Lib.hid hb2
  have HE2 := Lib.hid hbE2
  clear hb2 hbE2 n
  refine hK.out _ _ ⟨by show w5.cell? _ = _; rw [cell_of HB5.out]; rfl, by show w5.cell? _ = _; rw [cell_of HB5.out]; rfl, by show w5.cell? _ = _; rw [cell_of HB5.out]; rfl, by show w5.cell? _ = _; rw [cell_of HBC.out]; rfl, by show w5.cell? _ = _; rw [cell_of HBC.out]; rfl⟩ (fun hHeld => ?_)
  clear hK K
  try simp only [Act.put, List.getElem_toArray, List.getElem_cons_succ, List.getElem_cons_zero, List.setIfInBounds_toArray, List.set_cons_zero, List.set_cons_succ]
  refine wpT_ready (rs := [7]) (by kernel_rfl) (by simp) ?_
  refine ReadyT.consB HOPS rfl (by rfl) (fun K hK => ?_) ReadyT.nil
  go_simp
  go_at_call 34
  refine bmOdd_any w5.heap.size _ b1 od _ _ HM1.out (Nat.le_refl _) HOD.out (by omega) (fun a b n c e => by simp at e) ?_
  intro w6 v b3 hi hlo3 n
  replace NX := Lib.hid (NX.out.trans n)
  replace HLA := Lib.hid (HLA.out.kept n nof)
  replace HLB := Lib.hid (HLB.out.kept n nof)
  replace HBC := Lib.hid (n.heap HBC.out id)
  replace R1 := Lib.hid (n.heap R1.out id)
  replace R2 := Lib.hid (n.heap R2.out id)
  replace R3 := Lib.hid (n.heap R3.out id)
  replace SZ := Nat.lt_of_lt_of_le SZ n.size
  replace HM1 := Lib.hid ((HM1.out.kept n nof).hi n.size)
  replace HB5 := Lib.hid (n.heap HB5.out id)
  replace HM2 := Lib.hid ((HM2.out.kept n nof).hi n.size)
  obtain ⟨oW, oH, ol⟩ := b3
  have hi' := hi
  obtain ⟨sO, rfl, ⟨AO, cO, rfl, -⟩, -⟩ := hi'
  have HM3 := Lib.hid hi
  simp only at hlo3
  clear hi n
  have SO : w6.heap.size ≤ w6.heap.size := Nat.le_refl _
  refine hK.out _ _ ⟨by show w6.cell? _ = _; rw [cell_of HB5.out]; rfl, by show w6.cell? _ = _; rw [cell_of HB5.out]; rfl, by show w6.cell? _ = _; rw [cell_of HB5.out]; rfl, by show w6.cell? _ = _; rw [cell_of HBC.out]; rfl, by show w6.cell? _ = _; rw [cell_of HBC.out]; rfl⟩ (fun hHeld => ?_)
  clear hK K
  try simp only [Act.put, List.getElem_toArray, List.getElem_cons_succ, List.getElem_cons_zero, List.setIfInBounds_toArray, List.set_cons_zero, List.set_cons_succ]
  refine wpT_ready (rs := [8]) (by kernel_rfl) (by simp) ?_
  refine ReadyT.consB HOPS rfl (by rfl) (fun K hK => ?_) ReadyT.nil
  have o0 : w6.cell? ⟨w.heap.size + 1, 0, none⟩ = some (.int .i64 0) := by rw [cell_of R1.out]; rfl
  have o1 : w6.cell? ⟨w.heap.size + 1, 1, none⟩ = some (.int .i64 0) := by rw [cell_of R1.out]; rfl
  have o2 : w6.cell? ⟨w.heap.size + 1, 2, none⟩ = some (.slice none 0 0) := by rw [cell_of R1.out]; rfl
  have p0 : w6.frozen? ⟨w.heap.size + 1, 0, none⟩ = false := frozen_of R1.out
  have p1 : w6.frozen? ⟨w.heap.size + 1, 1, none⟩ = false := frozen_of R1.out
  have p2 : w6.frozen? ⟨w.heap.size + 1, 2, none⟩ = false := frozen_of R1.out
  go_simp
  refine hK.out _ _ ⟨(cell_setCell_ne _ (cell_setCell_ne _ (cell_setCell_ne _ (by rw [cell_of HB5.out]; rfl) (by simp only; omega)) (by simp only; omega)) (by simp only; omega)), (cell_setCell_ne _ (cell_setCell_ne _ (cell_setCell_ne _ (by rw [cell_of HB5.out]; rfl) (by simp only; omega)) (by simp only; omega)) (by simp only; omega)), (cell_setCell_ne _ (cell_setCell_ne _ (cell_setCell_ne _ (by rw [cell_of HB5.out]; rfl) (by simp only; omega)) (by simp only; omega)) (by simp only; omega)), (cell_setCell_ne _ (cell_setCell_ne _ (cell_setCell_ne _ (by rw [cell_of HBC.out]; rfl) (by simp only; omega)) (by simp only; omega)) (by simp only; omega)), (cell_setCell_ne _ (cell_setCell_ne _ (cell_setCell_ne _ (by rw [cell_of HBC.out]; rfl) (by simp only; omega)) (by simp only; omega)) (by simp only; omega))⟩ (fun hHeld => ?_)
  clear hK K o0 p0 o1 p1 o2 p2
  try simp only [Act.put, List.getElem_toArray, List.getElem_cons_succ, List.getElem_cons_zero, List.setIfInBounds_toArray, List.set_cons_zero, List.set_cons_succ]
  refine wpT_named ?_
  intro W7 hW
  rw [← hW] at hHeld
  have c : Ch (· = w.heap.size + 1) w6 W7 := by rw [hW]; exact (((Ch.refl (· = w.heap.size + 1) w6).setb (fun _ => rfl) _).setb (fun _ => rfl) _).setb (fun _ => rfl) _
  have nb := Lib.hid (show W7.heap[w.heap.size + 1]? = some (.cells #[.int .i64 b1.1, .int .i64 b1.2.1, .slice (some Ab) nb1 nb1] 28 (0, 0)) from by rw [hW]; exact heap_setCell_eq _ (heap_setCell_eq _ (heap_setCell_eq _ (R1.out))))
  clear hW
  have od9 := R1
  replace NX := Lib.hid (NX.out.trans' c (fun j hj e => by have e' : j = w.heap.size + 1 := e; omega))
  replace HLA := Lib.hid (HLA.out.kept c (fun j hj e => by have e' : j = w.heap.size + 1 := e; omega))
  replace HLB := Lib.hid (HLB.out.kept c (fun j hj e => by have e' : j = w.heap.size + 1 := e; omega))
  replace HBC := Lib.hid (c.heap HBC.out (by show w.heap.size ≠ w.heap.size + 1; omega))
  replace R1 := Lib.hid (nb.out)
  replace R2 := Lib.hid (c.heap R2.out (by show w.heap.size + 2 ≠ w.heap.size + 1; omega))
  replace R3 := Lib.hid (c.heap R3.out (by show w.heap.size + 3 ≠ w.heap.size + 1; omega))
  replace SZ := Nat.lt_of_lt_of_le SZ c.size
  replace HM1 := Lib.hid (isBm_far4 HM1.out od9.out (no_bool3 _ _ _ _ _) c)
  replace HB5 := Lib.hid (c.heap HB5.out (by show w2.heap.size ≠ w.heap.size + 1; omega))
  replace HM2 := Lib.hid (isBm_far4 HM2.out od9.out (no_bool3 _ _ _ _ _) c)
  replace HM3 := Lib.hid (isBm_far4 HM3.out od9.out (no_bool3 _ _ _ _ _) c)
  replace SO := Nat.le_trans SO c.size
  clear nb c od9
  refine wpT_ready (rs := [9]) (by kernel_rfl) (by simp) ?_
  refine ReadyT.consB HOPS rfl (by rfl) (fun K hK => ?_) ReadyT.nil
  have o0 : W7.cell? ⟨w.heap.size + 2, 0, none⟩ = some (.int .i64 0) := by rw [cell_of R2.out]; rfl
  have o1 : W7.cell? ⟨w.heap.size + 2, 1, none⟩ = some (.int .i64 0) := by rw [cell_of R2.out]; rfl
  have o2 : W7.cell? ⟨w.heap.size + 2, 2, none⟩ = some (.slice none 0 0) := by rw [cell_of R2.out]; rfl
  have p0 : W7.frozen? ⟨w.heap.size + 2, 0, none⟩ = false := frozen_of R2.out
  have p1 : W7.frozen? ⟨w.heap.size + 2, 1, none⟩ = false := frozen_of R2.out
  have p2 : W7.frozen? ⟨w.heap.size + 2, 2, none⟩ = false := frozen_of R2.out
  go_simp
  refine hK.out _ _ ⟨(cell_setCell_ne _ (cell_setCell_ne _ (cell_setCell_ne _ (by rw [cell_of HB5.out]; rfl) (by simp only; omega)) (by simp only; omega)) (by simp only; omega)), (cell_setCell_ne _ (cell_setCell_ne _ (cell_setCell_ne _ (by rw [cell_of HB5.out]; rfl) (by simp only; omega)) (by simp only; omega)) (by simp only; omega)), (cell_setCell_ne _ (cell_setCell_ne _ (cell_setCell_ne _ (by rw [cell_of HB5.out]; rfl) (by simp only; omega)) (by simp only; omega)) (by simp only; omega)), (cell_setCell_ne _ (cell_setCell_ne _ (cell_setCell_ne _ (by rw [cell_of HBC.out]; rfl) (by simp only; omega)) (by simp only; omega)) (by simp only; omega)), (cell_setCell_ne _ (cell_setCell_ne _ (cell_setCell_ne _ (by rw [cell_of HBC.out]; rfl) (by simp only; omega)) (by simp only; omega)) (by simp only; omega))⟩ (fun hHeld => ?_)
  clear hK K o0 p0 o1 p1 o2 p2
  try simp only [Act.put, List.getElem_toArray, List.getElem_cons_succ, List.getElem_cons_zero, List.setIfInBounds_toArray, List.set_cons_zero, List.set_cons_succ]
  refine wpT_named ?_
  intro W8 hW
  rw [← hW] at hHeld
  have c : Ch (· = w.heap.size + 2) W7 W8 := by rw [hW]; exact (((Ch.refl (· = w.heap.size + 2) W7).setb (fun _ => rfl) _).setb (fun _ => rfl) _).setb (fun _ => rfl) _
  have nb := Lib.hid (show W8.heap[w.heap.size + 2]? = some (.cells #[.int .i64 b2.1, .int .i64 b2.2.1, .slice (some Ab2) nb2 nb2] 28 (0, 0)) from by rw [hW]; exact heap_setCell_eq _ (heap_setCell_eq _ (heap_setCell_eq _ (R2.out))))
  clear hW
  have od9 := R2
  replace NX := Lib.hid (NX.out.trans' c (fun j hj e => by have e' : j = w.heap.size + 2 := e; omega))
  replace HLA := Lib.hid (HLA.out.kept c (fun j hj e => by have e' : j = w.heap.size + 2 := e; omega))
  replace HLB := Lib.hid (HLB.out.kept c (fun j hj e => by have e' : j = w.heap.size + 2 := e; omega))
  replace HBC := Lib.hid (c.heap HBC.out (by show w.heap.size ≠ w.heap.size + 2; omega))
  replace R1 := Lib.hid (c.heap R1.out (by show w.heap.size + 1 ≠ w.heap.size + 2; omega))
  replace R2 := Lib.hid (nb.out)
  replace R3 := Lib.hid (c.heap R3.out (by show w.heap.size + 3 ≠ w.heap.size + 2; omega))
  replace SZ := Nat.lt_of_lt_of_le SZ c.size
  replace HM1 := Lib.hid (isBm_far4 HM1.out od9.out (no_bool3 _ _ _ _ _) c)
  replace HB5 := Lib.hid (c.heap HB5.out (by show w2.heap.size ≠ w.heap.size + 2; omega))
  replace HM2 := Lib.hid (isBm_far4 HM2.out od9.out (no_bool3 _ _ _ _ _) c)
  replace HM3 := Lib.hid (isBm_far4 HM3.out od9.out (no_bool3 _ _ _ _ _) c)
  replace SO := Nat.le_trans SO c.size
  clear nb c od9
  refine wpT_ready (rs := [10]) (by kernel_rfl) (by simp) ?_
  refine ReadyT.lastB HOPS rfl (by rfl) (by kernel_rfl) (fun K hK => ?_) ReadyT.nil
  have o0 : W8.cell? ⟨w.heap.size + 3, 0, none⟩ = some (.int .i64 0) := by rw [cell_of R3.out]; rfl
  have o1 : W8.cell? ⟨w.heap.size + 3, 1, none⟩ = some (.int .i64 0) := by rw [cell_of R3.out]; rfl
  have o2 : W8.cell? ⟨w.heap.size + 3, 2, none⟩ = some (.slice none 0 0) := by rw [cell_of R3.out]; rfl
  have p0 : W8.frozen? ⟨w.heap.size + 3, 0, none⟩ = false := frozen_of R3.out
  have p1 : W8.frozen? ⟨w.heap.size + 3, 1, none⟩ = false := frozen_of R3.out
  have p2 : W8.frozen? ⟨w.heap.size + 3, 2, none⟩ = false := frozen_of R3.out
  go_simp
  refine hK.out _ _ ?_
  clear hK K
  try simp only [Act.put, List.getElem_toArray, List.getElem_cons_succ, List.getElem_cons_zero, List.setIfInBounds_toArray, List.set_cons_zero, List.set_cons_succ]
  refine wpT_done (by kernel_rfl) ?_ _
  clear HOPS
  repeat clear hHeld
  refine post_named ?_
  intro Wz hW
  have c : Ch (· = w.heap.size + 3) W8 Wz := by rw [hW]; exact (((Ch.refl (· = w.heap.size + 3) W8).setb (fun _ => rfl) _).setb (fun _ => rfl) _).setb (fun _ => rfl) _
  have R3z := Lib.hid (show Wz.heap[w.heap.size + 3]? = some (.cells #[.int .i64 oW, .int .i64 oH, .slice AO ol.length cO] 28 (0, 0)) from by rw [hW]; exact heap_setCell_eq _ (heap_setCell_eq _ (heap_setCell_eq _ R3.out)))
  clear hW
  have NZ := Lib.hid (NX.out.trans' c (fun j hj e => by have e' : j = w.heap.size + 3 := e; omega))
  have R1z := Lib.hid (c.heap R1.out (by show w.heap.size + 1 ≠ w.heap.size + 3; omega))
  have R2z := Lib.hid (c.heap R2.out (by show w.heap.size + 2 ≠ w.heap.size + 3; omega))
  have M1z := Lib.hid ((isBm_far4 HM1.out R3.out (no_bool3 _ _ _ _ _) c).hi (Nat.le_trans SO c.size))
  have M2z := Lib.hid ((isBm_far4 HM2.out R3.out (no_bool3 _ _ _ _ _) c).hi (Nat.le_trans SO c.size))
  have M3z := Lib.hid ((isBm_far4 HM3.out R3.out (no_bool3 _ _ _ _ _) c).hi (Nat.le_trans SO c.size))
  have z10 : Wz.cell? ⟨w.heap.size + 1, 0, none⟩ = some (.int .i64 b1.1) := by rw [cell_of R1z.out]; rfl
  have z11 : Wz.cell? ⟨w.heap.size + 1, 1, none⟩ = some (.int .i64 b1.2.1) := by rw [cell_of R1z.out]; rfl
  have z12 : Wz.cell? ⟨w.heap.size + 1, 2, none⟩ = some (.slice (some Ab) nb1 nb1) := by rw [cell_of R1z.out]; rfl
  have z20 : Wz.cell? ⟨w.heap.size + 2, 0, none⟩ = some (.int .i64 b2.1) := by rw [cell_of R2z.out]; rfl
  have z21 : Wz.cell? ⟨w.heap.size + 2, 1, none⟩ = some (.int .i64 b2.2.1) := by rw [cell_of R2z.out]; rfl
  have z22 : Wz.cell? ⟨w.heap.size + 2, 2, none⟩ = some (.slice (some Ab2) nb2 nb2) := by rw [cell_of R2z.out]; rfl
  have z30 : Wz.cell? ⟨w.heap.size + 3, 0, none⟩ = some (.int .i64 oW) := by rw [cell_of R3z.out]; rfl
  have z31 : Wz.cell? ⟨w.heap.size + 3, 1, none⟩ = some (.int .i64 oH) := by rw [cell_of R3z.out]; rfl
  have z32 : Wz.cell? ⟨w.heap.size + 3, 2, none⟩ = some (.slice AO ol.length cO) := by rw [cell_of R3z.out]; rfl
  go_wp2
  refine bodyPost_ret (v := .tuple #[.agg #[.int .i64 b1.1, .int .i64 b1.2.1, .slice (some Ab) nb1 nb1], .agg #[.int .i64 b2.1, .int .i64 b2.2.1, .slice (some Ab2) nb2 nb2], .agg #[.int .i64 oW, .int .i64 oH, .slice AO ol.length cO]]) (by simp [results, Tryd.results9, go_sem, *]) rfl ?_
  exact HR.out _ _ _ _ b1 b2 (oW, oH, ol) M1z.out M2z.out M3z.out HE1.out (by omega) (by omega) HE2.out (by omega) (by omega) (by simp only; omega) NZ.out ED1.out ED2.out
theorem bitmaps_any (lo : Nat) (va vb : Value) (la lb : List Int) (od n0 n1 n2 n3 : Int) (w : World) (R : Ending → World → Prop) (ha : IsInts w lo va la) (hb : IsInts w lo vb lb) (hlo : lo ≤ w.heap.size) (hod : wfI od)
    (hR : ∀ w' v1 v2 v3 b1 b2 b3, IsBm w' w'.heap.size v1 b1 → IsBm w' w'.heap.size v2 b2 → IsBm w' w'.heap.size v3 b3 → bmE b1 = 0 → b1.1 ≤ 16 → b1.2.1 ≤ 12 → bmE b2 = 0 → b2.1 ≤ 16 → b2.2.1 ≤ 12 → b3.2.2.length ≤ 193 → Nw w w' → R (.returned (.tuple #[v1, v2, v3])) w') :
    Calls Tryd.prog 9 #[.agg #[va, vb, .int .i64 od, .int .i64 n0, .int .i64 n1, .int .i64 n2, .int .i64 n3]] w R :=
  bitmaps_det lo va vb la lb od n0 n1 n2 n3 w R ha hb hlo hod fun w' v1 v2 v3 b1 b2 b3 h1 h2 h3 h4 h5 h6 h7 h8 h9 h10 h11 _ _ => hR w' v1 v2 v3 b1 b2 b3 h1 h2 h3 h4 h5 h6 h7 h8 h9 h10 h11
end Go.Proofs.YtaafmgkjfmngjaaDoor
