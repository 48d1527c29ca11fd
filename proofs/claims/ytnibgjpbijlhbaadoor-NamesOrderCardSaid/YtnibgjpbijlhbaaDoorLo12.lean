/-
  The contract of the law NamesOrder: it returns true.
-/
import Derived.Test.YtnibgjpbijlhbaaDoorLw12
import Derived.Test.YtnibgjpbijlhbaaDoorRegU
import Derived.Test.YtnibgjpbijlhbaaDoorDec
import Derived.Deep.DeepCutAuto
namespace Go.Proofs.YtnibgjpbijlhbaaDoor
open Go.RowKit
set_option linter.unusedVariables false
set_option linter.unusedSimpArgs false
set_option maxRecDepth 100000

theorem less_self (a : List UInt8) : lessB a a = false := by
  cases h : lessB a a with
  | false => rfl
  | true => exact absurd ((lessB_iff a a).1 h) (lessM_irrefl a)
theorem less_tr {a b c : List UInt8} (h : lessB a b = true) (k : lessB b c = true) : lessB a c = true := (lessB_iff a c).2 (lessM_trans ((lessB_iff a b).1 h) ((lessB_iff b c).1 k))
theorem less_other {p q : ByteArray} (h : p ≠ q) : lessB q.data.toList p.data.toList = !lessB p.data.toList q.data.toList := by
  have hne : p.data.toList ≠ q.data.toList := fun e => h (ByteArray.ext (Array.toList_inj.1 e))
  cases h1 : lessB p.data.toList q.data.toList with
  | true =>
    cases h2 : lessB q.data.toList p.data.toList with
    | false => rfl
    | true => exact absurd ((lessB_iff _ _).1 h2) (lessM_asymm ((lessB_iff _ _).1 h1))
  | false =>
    cases h2 : lessB q.data.toList p.data.toList with
    | true => rfl
    | false =>
      rcases lessM_total hne with h3 | h3
      · rw [(lessB_iff _ _).2 h3] at h1; cases h1
      · rw [(lessB_iff _ _).2 h3] at h2; cases h2
theorem ba_app' (a b : ByteArray) : (a ++ b).data.toList = a.data.toList ++ b.data.toList := by simp [ByteArray.data_append]
theorem zeros_ex (m : Nat) (h : m < 5) : ((⟨#[48, 48, 48, 48]⟩ : ByteArray).extract 0 m).data.toList = List.replicate m 48 := by
  obtain rfl | rfl | rfl | rfl | rfl : m = 0 ∨ m = 1 ∨ m = 2 ∨ m = 3 ∨ m = 4 := by omega
  all_goals decide +kernel
theorem num_list (p : ByteArray) (m n : Nat) (h : m < 5) : (p ++ ⟨#[45]⟩ ++ (⟨#[48, 48, 48, 48]⟩ : ByteArray).extract 0 m ++ ⟨(dec n).toArray⟩).data.toList = p.data.toList ++ 45 :: (List.replicate m 48 ++ dec n) := by
  rw [ba_app', ba_app', ba_app', zeros_ex m h]
  simp
theorem num_less (p : ByteArray) {m k n j : Nat} (hm : m < 5) (hk : k < 5) (h : n < j) : lessB (p ++ ⟨#[45]⟩ ++ (⟨#[48, 48, 48, 48]⟩ : ByteArray).extract 0 m ++ ⟨(dec n).toArray⟩).data.toList (p ++ ⟨#[45]⟩ ++ (⟨#[48, 48, 48, 48]⟩ : ByteArray).extract 0 k ++ ⟨(dec j).toArray⟩).data.toList = true := by
  rw [num_list p m n hm, num_list p k j hk]
  exact (lessB_iff _ _).2 (lessM_dec (by decide) m k h)

set_option maxHeartbeats 16000000 in
theorem law_order (lo : Nat) (va0 va1 va2 : Value) (la0 la1 la2 : List Int) (qa0 qb0 qc0 qa1 qb1 qc1 qa2 qb2 qc2 : Int) (z0 z1 z2 : ByteArray) (n0 n1 y0 y1 : Nat) (w : World) (R : Ending → World → Prop) (hlo : lo ≤ w.heap.size) (hla0 : IsInts w lo va0 la0) (hq0 : wfI qa0 ∧ wfI qb0 ∧ wfI qc0) (hla1 : IsInts w lo va1 la1) (hq1 : wfI qa1 ∧ wfI qb1 ∧ wfI qc1) (hla2 : IsInts w lo va2 la2) (hq2 : wfI qa2 ∧ wfI qb2 ∧ wfI qc2) (hn0 : n0 ≤ 65535) (hn1 : n1 ≤ 65535) (hy0 : y0 ≤ 255) (hy1 : y1 ≤ 255)
    (hmx : MaxOk w) (hR : ∀ w', Nw w w' → R (.returned (.bool true)) w') : Calls Tryd.prog 6 #[.agg #[va0, .int .i64 qa0, .int .i64 qb0, .int .i64 qc0, .string z0], .agg #[va1, .int .i64 qa1, .int .i64 qb1, .int .i64 qc1, .string z1], .agg #[va2, .int .i64 qa2, .int .i64 qb2, .int .i64 qc2, .string z2], .agg #[.int .u16 (n0 : Nat), .int .u16 (n1 : Nat)], .agg #[.int .u8 (y0 : Nat), .int .u8 (y1 : Nat)]] w R := by
  have HR := Lib.hid hR
  clear hR
  have NX := Lib.hid (Ch.refl (fun _ => False) w)
  have MX := Lib.hid hmx
  have hm0 := hmx.lt
  clear hmx
  have HLA0 := Lib.hid (hla0.hi hlo)
  obtain ⟨A0, e0, rfl, -⟩ := hla0
  have HQ0 := Lib.hid hq0
  clear hq0
  have HLA1 := Lib.hid (hla1.hi hlo)
  obtain ⟨A1, e1, rfl, -⟩ := hla1
  have HQ1 := Lib.hid hq1
  clear hq1
  have HLA2 := Lib.hid (hla2.hi hlo)
  obtain ⟨A2, e2, rfl, -⟩ := hla2
  have HQ2 := Lib.hid hq2
  clear hq2
  go_enter Tryd.func6, Tryd.ntmps6
  go_wp2_with (go_at_call 3; fail)
  refine Calls_nm ?_
  intro W1 hW
  have n : Nw w W1 := by rw [hW]; exact (((((Ch.refl _ _).alloc _).alloc _).alloc _).alloc _).alloc _
  replace NX := Lib.hid (NX.out.trans n)
  replace MX := Lib.hid (MX.out.kept n id)
  replace hm0 := Nat.lt_of_lt_of_le hm0 n.size
  replace HLA0 := Lib.hid (HLA0.out.kept n nof)
  replace HLA1 := Lib.hid (HLA1.out.kept n nof)
  replace HLA2 := Lib.hid (HLA2.out.kept n nof)
  have HB0 := Lib.hid (show W1.heap[w.heap.size]? = some (.cells #[.slice A0 la0.length e0, .int .i64 qa0, .int .i64 qb0, .int .i64 qc0, .string z0] 25 (0, 0)) from by rw [hW]; exact heap_alloc_old' _ (heap_alloc_old' _ (heap_alloc_old' _ (heap_alloc_old' _ (heap_alloc_eq _ rfl)))))
  have HB1 := Lib.hid (show W1.heap[w.heap.size + 1]? = some (.cells #[.slice A1 la1.length e1, .int .i64 qa1, .int .i64 qb1, .int .i64 qc1, .string z1] 25 (0, 0)) from by rw [hW]; exact heap_alloc_old' _ (heap_alloc_old' _ (heap_alloc_old' _ (heap_alloc_eq _ (by simp only [alloc_size])))))
  have HB2 := Lib.hid (show W1.heap[w.heap.size + 2]? = some (.cells #[.slice A2 la2.length e2, .int .i64 qa2, .int .i64 qb2, .int .i64 qc2, .string z2] 25 (0, 0)) from by rw [hW]; exact heap_alloc_old' _ (heap_alloc_old' _ (heap_alloc_eq _ (by simp only [alloc_size]))))
  have HN := Lib.hid (show W1.heap[w.heap.size + 3]? = some (.cells #[.int .u16 (n0 : Nat), .int .u16 (n1 : Nat)] 42 (0, 0)) from by rw [hW]; exact heap_alloc_old' _ (heap_alloc_eq _ (by simp only [alloc_size])))
  have HZ := Lib.hid (show W1.heap[w.heap.size + 4]? = some (.cells #[.int .u8 (y0 : Nat), .int .u8 (y1 : Nat)] 43 (0, 0)) from by rw [hW]; exact heap_alloc_eq _ (by simp only [alloc_size]))
  clear hW n
  have SZ : w.heap.size + 4 < W1.heap.size := lt_of_heap HZ.out
  refine sanity_any _ _ MX.out ?_
  intro w2 n
  replace NX := Lib.hid (NX.out.trans n)
  replace MX := Lib.hid (MX.out.kept n id)
  replace hm0 := Nat.lt_of_lt_of_le hm0 n.size
  replace HLA0 := Lib.hid (HLA0.out.kept n nof)
  replace HLA1 := Lib.hid (HLA1.out.kept n nof)
  replace HLA2 := Lib.hid (HLA2.out.kept n nof)
  replace HB0 := Lib.hid (n.heap HB0.out id)
  replace HB1 := Lib.hid (n.heap HB1.out id)
  replace HB2 := Lib.hid (n.heap HB2.out id)
  replace HN := Lib.hid (n.heap HN.out id)
  replace HZ := Lib.hid (n.heap HZ.out id)
  replace SZ := Nat.lt_of_lt_of_le SZ n.size
  clear n
  have okS := all_ok la0 qa0 qb0 qc0 z0
  obtain ⟨S, hS⟩ : ∃ S, allB la0 qa0 qb0 qc0 z0 = S := ⟨_, rfl⟩
  rw [hS] at okS
  have OKS := Lib.hid okS
  have HSS := Lib.hid hS
  clear hS okS
  have okT := all_ok la1 qa1 qb1 qc1 z1
  obtain ⟨T, hT⟩ : ∃ S, allB la1 qa1 qb1 qc1 z1 = S := ⟨_, rfl⟩
  rw [hT] at okT
  have OKT := Lib.hid okT
  have HST := Lib.hid hT
  clear hT okT
  have okU := all_ok la2 qa2 qb2 qc2 z2
  obtain ⟨U, hU⟩ : ∃ S, allB la2 qa2 qb2 qc2 z2 = S := ⟨_, rfl⟩
  rw [hU] at okU
  have OKU := Lib.hid okU
  have HSU := Lib.hid hU
  clear hU okU
  go_upto_region 2 with (fail)
  go_cut [12, 13, 14] (fun s12 s13 s14 wx => ∃ (g1 g2 g3 : Nat), s12 = .pointer (some ⟨g1, 0, none⟩) ∧ s13 = .pointer (some ⟨g2, 0, none⟩) ∧ s14 = .pointer (some ⟨g3, 0, none⟩) ∧ Hid (wx.heap[g1]? = some (.cells #[.string (S 0), .string (S 1), .string (S 2), .string (S 3)] 27 (0, 0))) ∧ Hid (wx.heap[g2]? = some (.cells #[.string (T 0), .string (T 1), .string (T 2), .string (T 3)] 27 (0, 0))) ∧ Hid (wx.heap[g3]? = some (.cells #[.string (U 0), .string (U 1), .string (U 2), .string (U 3)] 27 (0, 0))) ∧ Hid (Nw w wx) ∧ Hid (MaxOk wx) ∧ Hid (wx.heap[w.heap.size + 3]? = some (.cells #[.int .u16 (n0 : Nat), .int .u16 (n1 : Nat)] 42 (0, 0))) ∧ Hid (wx.heap[w.heap.size + 4]? = some (.cells #[.int .u8 (y0 : Nat), .int .u8 (y1 : Nat)] 43 (0, 0))))
  case first => as_aux_lemma =>
    refine wp_named ?_
    intro W3 hW
    have n : Nw w2 W3 := by rw [hW]; first | exact Ch.refl _ _ | exact (Ch.refl _ _).alloc _
    replace NX := Lib.hid (NX.out.trans n)
    replace MX := Lib.hid (MX.out.kept n id)
    replace hm0 := Nat.lt_of_lt_of_le hm0 n.size
    replace HLA0 := Lib.hid (HLA0.out.kept n nof)
    replace HLA1 := Lib.hid (HLA1.out.kept n nof)
    replace HLA2 := Lib.hid (HLA2.out.kept n nof)
    replace HB0 := Lib.hid (n.heap HB0.out id)
    replace HB1 := Lib.hid (n.heap HB1.out id)
    replace HB2 := Lib.hid (n.heap HB2.out id)
    replace HN := Lib.hid (n.heap HN.out id)
    replace HZ := Lib.hid (n.heap HZ.out id)
    replace SZ := Nat.lt_of_lt_of_le SZ n.size
    clear hW n
    refine wp_region_V (F := fun w' => w'.cell? ⟨w.heap.size, 0, none⟩ = some (.slice A0 la0.length e0) ∧ w'.cell? ⟨w.heap.size, 1, none⟩ = some (.int .i64 qa0) ∧ w'.cell? ⟨w.heap.size, 2, none⟩ = some (.int .i64 qb0) ∧ w'.cell? ⟨w.heap.size, 3, none⟩ = some (.int .i64 qc0) ∧ w'.cell? ⟨w.heap.size, 4, none⟩ = some (.string z0) ∧ w'.cell? ⟨w.heap.size + 1, 0, none⟩ = some (.slice A1 la1.length e1) ∧ w'.cell? ⟨w.heap.size + 1, 1, none⟩ = some (.int .i64 qa1) ∧ w'.cell? ⟨w.heap.size + 1, 2, none⟩ = some (.int .i64 qb1) ∧ w'.cell? ⟨w.heap.size + 1, 3, none⟩ = some (.int .i64 qc1) ∧ w'.cell? ⟨w.heap.size + 1, 4, none⟩ = some (.string z1) ∧ w'.cell? ⟨w.heap.size + 2, 0, none⟩ = some (.slice A2 la2.length e2) ∧ w'.cell? ⟨w.heap.size + 2, 1, none⟩ = some (.int .i64 qa2) ∧ w'.cell? ⟨w.heap.size + 2, 2, none⟩ = some (.int .i64 qb2) ∧ w'.cell? ⟨w.heap.size + 2, 3, none⟩ = some (.int .i64 qc2) ∧ w'.cell? ⟨w.heap.size + 2, 4, none⟩ = some (.string z2)) (opsOf Tryd.f6 2) 9 12 (by kernel_rfl) (by kernel_rfl) (by kernel_rfl) (fun w w' h n => ⟨n.cell h.1 id, n.cell h.2.1 id, n.cell h.2.2.1 id, n.cell h.2.2.2.1 id, n.cell h.2.2.2.2.1 id, n.cell h.2.2.2.2.2.1 id, n.cell h.2.2.2.2.2.2.1 id, n.cell h.2.2.2.2.2.2.2.1 id, n.cell h.2.2.2.2.2.2.2.2.1 id, n.cell h.2.2.2.2.2.2.2.2.2.1 id, n.cell h.2.2.2.2.2.2.2.2.2.2.1 id, n.cell h.2.2.2.2.2.2.2.2.2.2.2.1 id, n.cell h.2.2.2.2.2.2.2.2.2.2.2.2.1 id, n.cell h.2.2.2.2.2.2.2.2.2.2.2.2.2.1 id, n.cell h.2.2.2.2.2.2.2.2.2.2.2.2.2.2 id⟩) ⟨by show W3.cell? _ = _; rw [cell_of HB0.out]; rfl, by show W3.cell? _ = _; rw [cell_of HB0.out]; rfl, by show W3.cell? _ = _; rw [cell_of HB0.out]; rfl, by show W3.cell? _ = _; rw [cell_of HB0.out]; rfl, by show W3.cell? _ = _; rw [cell_of HB0.out]; rfl, by show W3.cell? _ = _; rw [cell_of HB1.out]; rfl, by show W3.cell? _ = _; rw [cell_of HB1.out]; rfl, by show W3.cell? _ = _; rw [cell_of HB1.out]; rfl, by show W3.cell? _ = _; rw [cell_of HB1.out]; rfl, by show W3.cell? _ = _; rw [cell_of HB1.out]; rfl, by show W3.cell? _ = _; rw [cell_of HB2.out]; rfl, by show W3.cell? _ = _; rw [cell_of HB2.out]; rfl, by show W3.cell? _ = _; rw [cell_of HB2.out]; rfl, by show W3.cell? _ = _; rw [cell_of HB2.out]; rfl, by show W3.cell? _ = _; rw [cell_of HB2.out]; rfl⟩ (fun HOPS HCL hHeld => ?_)
    refine wpU_named ?_
    intro W4 hW
    try rw [← hW] at hHeld
    have n : Nw W3 W4 := by rw [hW]; exact (Ch.refl _ _).drew
    replace NX := Lib.hid (NX.out.trans n)
    replace MX := Lib.hid (MX.out.kept n id)
    replace hm0 := Nat.lt_of_lt_of_le hm0 n.size
    replace HLA0 := Lib.hid (HLA0.out.kept n nof)
    replace HLA1 := Lib.hid (HLA1.out.kept n nof)
    replace HLA2 := Lib.hid (HLA2.out.kept n nof)
    replace HB0 := Lib.hid (n.heap HB0.out id)
    replace HB1 := Lib.hid (n.heap HB1.out id)
    replace HB2 := Lib.hid (n.heap HB2.out id)
    replace HN := Lib.hid (n.heap HN.out id)
    replace HZ := Lib.hid (n.heap HZ.out id)
    replace SZ := Nat.lt_of_lt_of_le SZ n.size
    clear hW n
    first | (refine wpU_takeA (i := 0) (v := ?_) HOPS rfl (by kernel_rfl) (fun _ _ _ h => h) HCL (goes_read (by rfl) ?hy) ?_; case hy => (intro w hSw; (try dsimp only at hSw); go_simp; (try with_reducible rfl))) | (refine wpU_takeA (i := 0) (v := _) HOPS rfl (by kernel_rfl) (fun _ _ _ h => h) HCL (goes_not (by rfl)) ?_)
    try simp only [Act.put, List.getElem_toArray, List.getElem_cons_succ, List.getElem_cons_zero, List.setIfInBounds_toArray, List.set_cons_zero, List.set_cons_succ]
    first | (refine wpU_takeA (i := 2) (v := ?_) HOPS rfl (by kernel_rfl) (fun _ _ _ h => h) HCL (goes_read (by rfl) ?hy) ?_; case hy => (intro w hSw; (try dsimp only at hSw); go_simp; (try with_reducible rfl))) | (refine wpU_takeA (i := 2) (v := _) HOPS rfl (by kernel_rfl) (fun _ _ _ h => h) HCL (goes_not (by rfl)) ?_)
    try simp only [Act.put, List.getElem_toArray, List.getElem_cons_succ, List.getElem_cons_zero, List.setIfInBounds_toArray, List.set_cons_zero, List.set_cons_succ]
    first | (refine wpU_takeA (i := 4) (v := ?_) HOPS rfl (by kernel_rfl) (fun _ _ _ h => h) HCL (goes_read (by rfl) ?hy) ?_; case hy => (intro w hSw; (try dsimp only at hSw); go_simp; (try with_reducible rfl))) | (refine wpU_takeA (i := 4) (v := _) HOPS rfl (by kernel_rfl) (fun _ _ _ h => h) HCL (goes_not (by rfl)) ?_)
    try simp only [Act.put, List.getElem_toArray, List.getElem_cons_succ, List.getElem_cons_zero, List.setIfInBounds_toArray, List.set_cons_zero, List.set_cons_succ]
    refine wpU_takeA (i := 1) HOPS rfl (by kernel_rfl) (fun _ _ _ h => h) HCL (goes_fn (v := (.agg #[.string (S 0), .string (S 1), .string (S 2), .string (S 3)])) 10 _ _ _ #[(.agg #[.slice A0 la0.length e0, .int .i64 qa0, .int .i64 qb0, .int .i64 qc0, .string z0])] (by rfl) rfl (by kernel_rfl) (by kernel_rfl) (by kernel_rfl) (fun wq n R hR => ?_)) ?_
    · exact all_det w.heap.size _ la0 qa0 qb0 qc0 z0 _ _ (by have := n.size; omega) (HLA0.out.kept n nof) HQ0.out.1 HQ0.out.2.1 HQ0.out.2.2 (by rw [HSS.out]; exact hR)
    try simp only [Act.put, List.getElem_toArray, List.getElem_cons_succ, List.getElem_cons_zero, List.setIfInBounds_toArray, List.set_cons_zero, List.set_cons_succ]
    refine wpU_takeA (i := 3) HOPS rfl (by kernel_rfl) (fun _ _ _ h => h) HCL (goes_fn (v := (.agg #[.string (T 0), .string (T 1), .string (T 2), .string (T 3)])) 10 _ _ _ #[(.agg #[.slice A1 la1.length e1, .int .i64 qa1, .int .i64 qb1, .int .i64 qc1, .string z1])] (by rfl) rfl (by kernel_rfl) (by kernel_rfl) (by kernel_rfl) (fun wq n R hR => ?_)) ?_
    · exact all_det w.heap.size _ la1 qa1 qb1 qc1 z1 _ _ (by have := n.size; omega) (HLA1.out.kept n nof) HQ1.out.1 HQ1.out.2.1 HQ1.out.2.2 (by rw [HST.out]; exact hR)
    try simp only [Act.put, List.getElem_toArray, List.getElem_cons_succ, List.getElem_cons_zero, List.setIfInBounds_toArray, List.set_cons_zero, List.set_cons_succ]
    refine wpU_takeA (i := 5) HOPS rfl (by kernel_rfl) (fun _ _ _ h => h) HCL (goes_fn (v := (.agg #[.string (U 0), .string (U 1), .string (U 2), .string (U 3)])) 10 _ _ _ #[(.agg #[.slice A2 la2.length e2, .int .i64 qa2, .int .i64 qb2, .int .i64 qc2, .string z2])] (by rfl) rfl (by kernel_rfl) (by kernel_rfl) (by kernel_rfl) (fun wq n R hR => ?_)) ?_
    · exact all_det w.heap.size _ la2 qa2 qb2 qc2 z2 _ _ (by have := n.size; omega) (HLA2.out.kept n nof) HQ2.out.1 HQ2.out.2.1 HQ2.out.2.2 (by rw [HSU.out]; exact hR)
    try simp only [Act.put, List.getElem_toArray, List.getElem_cons_succ, List.getElem_cons_zero, List.setIfInBounds_toArray, List.set_cons_zero, List.set_cons_succ]
    refine wpU_ready (rs := [6, 7, 8]) (by kernel_rfl) (by simp) ?_
    intro w5 hle
    obtain ⟨n, hHeld⟩ := hle.ahead (by kernel_rfl)
    clear hle
    replace NX := Lib.hid (NX.out.trans n)
    replace MX := Lib.hid (MX.out.kept n id)
    replace hm0 := Nat.lt_of_lt_of_le hm0 n.size
    replace HLA0 := Lib.hid (HLA0.out.kept n nof)
    replace HLA1 := Lib.hid (HLA1.out.kept n nof)
    replace HLA2 := Lib.hid (HLA2.out.kept n nof)
    replace HB0 := Lib.hid (n.heap HB0.out id)
    replace HB1 := Lib.hid (n.heap HB1.out id)
    replace HB2 := Lib.hid (n.heap HB2.out id)
    replace HN := Lib.hid (n.heap HN.out id)
    replace HZ := Lib.hid (n.heap HZ.out id)
    replace SZ := Nat.lt_of_lt_of_le SZ n.size
    clear n
    refine ReadyU.cons HOPS rfl (by rfl) (fun K hK => ?_) (ReadyU.cons HOPS rfl (by rfl) (fun K hK => ?_) (ReadyU.cons HOPS rfl (by rfl) (fun K hK => ?_) ReadyU.nil))
    · go_simp
      refine hK.out _ _ ((Ch.refl _ _).alloc _) ⟨cell_alloc_old _ (by rw [cell_of HB0.out]; rfl), cell_alloc_old _ (by rw [cell_of HB0.out]; rfl), cell_alloc_old _ (by rw [cell_of HB0.out]; rfl), cell_alloc_old _ (by rw [cell_of HB0.out]; rfl), cell_alloc_old _ (by rw [cell_of HB0.out]; rfl), cell_alloc_old _ (by rw [cell_of HB1.out]; rfl), cell_alloc_old _ (by rw [cell_of HB1.out]; rfl), cell_alloc_old _ (by rw [cell_of HB1.out]; rfl), cell_alloc_old _ (by rw [cell_of HB1.out]; rfl), cell_alloc_old _ (by rw [cell_of HB1.out]; rfl), cell_alloc_old _ (by rw [cell_of HB2.out]; rfl), cell_alloc_old _ (by rw [cell_of HB2.out]; rfl), cell_alloc_old _ (by rw [cell_of HB2.out]; rfl), cell_alloc_old _ (by rw [cell_of HB2.out]; rfl), cell_alloc_old _ (by rw [cell_of HB2.out]; rfl)⟩ (fun hHeld => ?_)
      clear hK K
      try simp only [Act.put, List.getElem_toArray, List.getElem_cons_succ, List.getElem_cons_zero, List.setIfInBounds_toArray, List.set_cons_zero, List.set_cons_succ]
      have hm0AHA1 := hm0
      have SZAHA1 := SZ
      refine wpU_named ?_
      intro W6 hW
      try rw [← hW] at hHeld
      have n : Nw w5 W6 := by rw [hW]; exact (Ch.refl _ _).alloc _
      replace NX := Lib.hid (NX.out.trans n)
      replace MX := Lib.hid (MX.out.kept n id)
      replace hm0 := Nat.lt_of_lt_of_le hm0 n.size
      replace HLA0 := Lib.hid (HLA0.out.kept n nof)
      replace HLA1 := Lib.hid (HLA1.out.kept n nof)
      replace HLA2 := Lib.hid (HLA2.out.kept n nof)
      replace HB0 := Lib.hid (n.heap HB0.out id)
      replace HB1 := Lib.hid (n.heap HB1.out id)
      replace HB2 := Lib.hid (n.heap HB2.out id)
      replace HN := Lib.hid (n.heap HN.out id)
      replace HZ := Lib.hid (n.heap HZ.out id)
      replace SZ := Nat.lt_of_lt_of_le SZ n.size
      have HA1 := Lib.hid (show W6.heap[w5.heap.size]? = some (.cells #[.string ⟨#[]⟩, .string ⟨#[]⟩, .string ⟨#[]⟩, .string ⟨#[]⟩] 27 (0, 0)) from by rw [hW]; exact heap_alloc_eq _ rfl)
      have SZHA1 : w5.heap.size < W6.heap.size := lt_of_heap HA1.out
      clear hW n
      refine wpU_ready (rs := [7, 8]) (by kernel_rfl) (by simp) ?_
      intro w7 hle
      obtain ⟨n, hHeld⟩ := hle.ahead (by kernel_rfl)
      clear hle
      replace NX := Lib.hid (NX.out.trans n)
      replace MX := Lib.hid (MX.out.kept n id)
      replace hm0 := Nat.lt_of_lt_of_le hm0 n.size
      replace HLA0 := Lib.hid (HLA0.out.kept n nof)
      replace HLA1 := Lib.hid (HLA1.out.kept n nof)
      replace HLA2 := Lib.hid (HLA2.out.kept n nof)
      replace HB0 := Lib.hid (n.heap HB0.out id)
      replace HB1 := Lib.hid (n.heap HB1.out id)
      replace HB2 := Lib.hid (n.heap HB2.out id)
      replace HN := Lib.hid (n.heap HN.out id)
      replace HZ := Lib.hid (n.heap HZ.out id)
      replace SZ := Nat.lt_of_lt_of_le SZ n.size
      replace HA1 := Lib.hid (n.heap HA1.out id)
      replace SZHA1 := Nat.lt_of_lt_of_le SZHA1 n.size
      clear n
      refine ReadyU.cons HOPS rfl (by rfl) (fun K hK => ?_) (ReadyU.cons HOPS rfl (by rfl) (fun K hK => ?_) ReadyU.nil)
      · go_simp
        refine hK.out _ _ ((Ch.refl _ _).alloc _) ⟨cell_alloc_old _ (by rw [cell_of HB0.out]; rfl), cell_alloc_old _ (by rw [cell_of HB0.out]; rfl), cell_alloc_old _ (by rw [cell_of HB0.out]; rfl), cell_alloc_old _ (by rw [cell_of HB0.out]; rfl), cell_alloc_old _ (by rw [cell_of HB0.out]; rfl), cell_alloc_old _ (by rw [cell_of HB1.out]; rfl), cell_alloc_old _ (by rw [cell_of HB1.out]; rfl), cell_alloc_old _ (by rw [cell_of HB1.out]; rfl), cell_alloc_old _ (by rw [cell_of HB1.out]; rfl), cell_alloc_old _ (by rw [cell_of HB1.out]; rfl), cell_alloc_old _ (by rw [cell_of HB2.out]; rfl), cell_alloc_old _ (by rw [cell_of HB2.out]; rfl), cell_alloc_old _ (by rw [cell_of HB2.out]; rfl), cell_alloc_old _ (by rw [cell_of HB2.out]; rfl), cell_alloc_old _ (by rw [cell_of HB2.out]; rfl)⟩ (fun hHeld => ?_)
        clear hK K
        try simp only [Act.put, List.getElem_toArray, List.getElem_cons_succ, List.getElem_cons_zero, List.setIfInBounds_toArray, List.set_cons_zero, List.set_cons_succ]
        have hm0AHA2 := hm0
        have SZAHA2 := SZ
        have SZHA1AHA2 := SZHA1
        refine wpU_named ?_
        intro W8 hW
        try rw [← hW] at hHeld
        have n : Nw w7 W8 := by rw [hW]; exact (Ch.refl _ _).alloc _
        replace NX := Lib.hid (NX.out.trans n)
        replace MX := Lib.hid (MX.out.kept n id)
        replace hm0 := Nat.lt_of_lt_of_le hm0 n.size
        replace HLA0 := Lib.hid (HLA0.out.kept n nof)
        replace HLA1 := Lib.hid (HLA1.out.kept n nof)
        replace HLA2 := Lib.hid (HLA2.out.kept n nof)
        replace HB0 := Lib.hid (n.heap HB0.out id)
        replace HB1 := Lib.hid (n.heap HB1.out id)
        replace HB2 := Lib.hid (n.heap HB2.out id)
        replace HN := Lib.hid (n.heap HN.out id)
        replace HZ := Lib.hid (n.heap HZ.out id)
        replace SZ := Nat.lt_of_lt_of_le SZ n.size
        replace HA1 := Lib.hid (n.heap HA1.out id)
        replace SZHA1 := Nat.lt_of_lt_of_le SZHA1 n.size
        have HA2 := Lib.hid (show W8.heap[w7.heap.size]? = some (.cells #[.string ⟨#[]⟩, .string ⟨#[]⟩, .string ⟨#[]⟩, .string ⟨#[]⟩] 27 (0, 0)) from by rw [hW]; exact heap_alloc_eq _ rfl)
        have SZHA2 : w7.heap.size < W8.heap.size := lt_of_heap HA2.out
        clear hW n
        refine wpU_ready (rs := [8]) (by kernel_rfl) (by simp) ?_
        intro w9 hle
        obtain ⟨n, hHeld⟩ := hle.ahead (by kernel_rfl)
        clear hle
        replace NX := Lib.hid (NX.out.trans n)
        replace MX := Lib.hid (MX.out.kept n id)
        replace hm0 := Nat.lt_of_lt_of_le hm0 n.size
        replace HLA0 := Lib.hid (HLA0.out.kept n nof)
        replace HLA1 := Lib.hid (HLA1.out.kept n nof)
        replace HLA2 := Lib.hid (HLA2.out.kept n nof)
        replace HB0 := Lib.hid (n.heap HB0.out id)
        replace HB1 := Lib.hid (n.heap HB1.out id)
        replace HB2 := Lib.hid (n.heap HB2.out id)
        replace HN := Lib.hid (n.heap HN.out id)
        replace HZ := Lib.hid (n.heap HZ.out id)
        replace SZ := Nat.lt_of_lt_of_le SZ n.size
        replace HA1 := Lib.hid (n.heap HA1.out id)
        replace SZHA1 := Nat.lt_of_lt_of_le SZHA1 n.size
        replace HA2 := Lib.hid (n.heap HA2.out id)
        replace SZHA2 := Nat.lt_of_lt_of_le SZHA2 n.size
        clear n
        refine ReadyU.cons HOPS rfl (by rfl) (fun K hK => ?_) ReadyU.nil
        go_simp
        refine hK.out _ _ ((Ch.refl _ _).alloc _) ⟨cell_alloc_old _ (by rw [cell_of HB0.out]; rfl), cell_alloc_old _ (by rw [cell_of HB0.out]; rfl), cell_alloc_old _ (by rw [cell_of HB0.out]; rfl), cell_alloc_old _ (by rw [cell_of HB0.out]; rfl), cell_alloc_old _ (by rw [cell_of HB0.out]; rfl), cell_alloc_old _ (by rw [cell_of HB1.out]; rfl), cell_alloc_old _ (by rw [cell_of HB1.out]; rfl), cell_alloc_old _ (by rw [cell_of HB1.out]; rfl), cell_alloc_old _ (by rw [cell_of HB1.out]; rfl), cell_alloc_old _ (by rw [cell_of HB1.out]; rfl), cell_alloc_old _ (by rw [cell_of HB2.out]; rfl), cell_alloc_old _ (by rw [cell_of HB2.out]; rfl), cell_alloc_old _ (by rw [cell_of HB2.out]; rfl), cell_alloc_old _ (by rw [cell_of HB2.out]; rfl), cell_alloc_old _ (by rw [cell_of HB2.out]; rfl)⟩ (fun hHeld => ?_)
        clear hK K
        try simp only [Act.put, List.getElem_toArray, List.getElem_cons_succ, List.getElem_cons_zero, List.setIfInBounds_toArray, List.set_cons_zero, List.set_cons_succ]
        have hm0AHA3 := hm0
        have SZAHA3 := SZ
        have SZHA1AHA3 := SZHA1
        have SZHA2AHA3 := SZHA2
        refine wpU_named ?_
        intro W10 hW
        try rw [← hW] at hHeld
        have n : Nw w9 W10 := by rw [hW]; exact (Ch.refl _ _).alloc _
        replace NX := Lib.hid (NX.out.trans n)
        replace MX := Lib.hid (MX.out.kept n id)
        replace hm0 := Nat.lt_of_lt_of_le hm0 n.size
        replace HLA0 := Lib.hid (HLA0.out.kept n nof)
        replace HLA1 := Lib.hid (HLA1.out.kept n nof)
        replace HLA2 := Lib.hid (HLA2.out.kept n nof)
        replace HB0 := Lib.hid (n.heap HB0.out id)
        replace HB1 := Lib.hid (n.heap HB1.out id)
        replace HB2 := Lib.hid (n.heap HB2.out id)
        replace HN := Lib.hid (n.heap HN.out id)
        replace HZ := Lib.hid (n.heap HZ.out id)
        replace SZ := Nat.lt_of_lt_of_le SZ n.size
        replace HA1 := Lib.hid (n.heap HA1.out id)
        replace SZHA1 := Nat.lt_of_lt_of_le SZHA1 n.size
        replace HA2 := Lib.hid (n.heap HA2.out id)
        replace SZHA2 := Nat.lt_of_lt_of_le SZHA2 n.size
        have HA3 := Lib.hid (show W10.heap[w9.heap.size]? = some (.cells #[.string ⟨#[]⟩, .string ⟨#[]⟩, .string ⟨#[]⟩, .string ⟨#[]⟩] 27 (0, 0)) from by rw [hW]; exact heap_alloc_eq _ rfl)
        have SZHA3 : w9.heap.size < W10.heap.size := lt_of_heap HA3.out
        clear hW n
        refine wpU_ready (rs := [9]) (by kernel_rfl) (by simp) ?_
        intro w11 hle
        obtain ⟨n, hHeld⟩ := hle.ahead (by kernel_rfl)
        clear hle
        replace NX := Lib.hid (NX.out.trans n)
        replace MX := Lib.hid (MX.out.kept n id)
        replace hm0 := Nat.lt_of_lt_of_le hm0 n.size
        replace HLA0 := Lib.hid (HLA0.out.kept n nof)
        replace HLA1 := Lib.hid (HLA1.out.kept n nof)
        replace HLA2 := Lib.hid (HLA2.out.kept n nof)
        replace HB0 := Lib.hid (n.heap HB0.out id)
        replace HB1 := Lib.hid (n.heap HB1.out id)
        replace HB2 := Lib.hid (n.heap HB2.out id)
        replace HN := Lib.hid (n.heap HN.out id)
        replace HZ := Lib.hid (n.heap HZ.out id)
        replace SZ := Nat.lt_of_lt_of_le SZ n.size
        replace HA1 := Lib.hid (n.heap HA1.out id)
        replace SZHA1 := Nat.lt_of_lt_of_le SZHA1 n.size
        replace HA2 := Lib.hid (n.heap HA2.out id)
        replace SZHA2 := Nat.lt_of_lt_of_le SZHA2 n.size
        replace HA3 := Lib.hid (n.heap HA3.out id)
        replace SZHA3 := Nat.lt_of_lt_of_le SZHA3 n.size
        clear n
        refine ReadyU.last HOPS rfl (by rfl) (by kernel_rfl) (fun K hK => ?_) ReadyU.nil
        have o0 : w11.cell? ⟨w5.heap.size, 0, none⟩ = some (.string ⟨#[]⟩) := by rw [cell_of HA1.out]; rfl
        have o1 : w11.cell? ⟨w5.heap.size, 1, none⟩ = some (.string ⟨#[]⟩) := by rw [cell_of HA1.out]; rfl
        have o2 : w11.cell? ⟨w5.heap.size, 2, none⟩ = some (.string ⟨#[]⟩) := by rw [cell_of HA1.out]; rfl
        have o3 : w11.cell? ⟨w5.heap.size, 3, none⟩ = some (.string ⟨#[]⟩) := by rw [cell_of HA1.out]; rfl
        have p0 : w11.frozen? ⟨w5.heap.size, 0, none⟩ = false := frozen_of HA1.out
        have p1 : w11.frozen? ⟨w5.heap.size, 1, none⟩ = false := frozen_of HA1.out
        have p2 : w11.frozen? ⟨w5.heap.size, 2, none⟩ = false := frozen_of HA1.out
        have p3 : w11.frozen? ⟨w5.heap.size, 3, none⟩ = false := frozen_of HA1.out
        go_simp
        refine hK.out _ _ ?_
        clear hK K o0 p0 o1 p1 o2 p2 o3 p3
        try simp only [Act.put, List.getElem_toArray, List.getElem_cons_succ, List.getElem_cons_zero, List.setIfInBounds_toArray, List.set_cons_zero, List.set_cons_succ]
        refine wpU_named ?_
        intro W12 hW
        have c : Ch (· = w5.heap.size) w11 W12 := by rw [hW]; exact ((((Ch.refl (· = w5.heap.size) w11).setb (fun _ => rfl) _).setb (fun _ => rfl) _).setb (fun _ => rfl) _).setb (fun _ => rfl) _
        have nb := Lib.hid (show W12.heap[w5.heap.size]? = some (.cells #[.string (S 0), .string (S 1), .string (S 2), .string (S 3)] 27 (0, 0)) from by rw [hW]; exact heap_setCell_eq _ (heap_setCell_eq _ (heap_setCell_eq _ (heap_setCell_eq _ HA1.out))))
        clear hW
        replace NX := Lib.hid (NX.out.trans' c (fun j hj e => by have e' : j = w5.heap.size := e; omega))
        replace MX := Lib.hid (MX.out.kept c (by show ¬ (0 = w5.heap.size); omega))
        replace hm0 := Nat.lt_of_lt_of_le hm0 c.size
        replace HLA0 := Lib.hid (HLA0.out.kept c (fun j hj e => by have e' : j = w5.heap.size := e; omega))
        replace HLA1 := Lib.hid (HLA1.out.kept c (fun j hj e => by have e' : j = w5.heap.size := e; omega))
        replace HLA2 := Lib.hid (HLA2.out.kept c (fun j hj e => by have e' : j = w5.heap.size := e; omega))
        replace HB0 := Lib.hid (c.heap HB0.out (by show w.heap.size ≠ w5.heap.size; omega))
        replace HB1 := Lib.hid (c.heap HB1.out (by show w.heap.size + 1 ≠ w5.heap.size; omega))
        replace HB2 := Lib.hid (c.heap HB2.out (by show w.heap.size + 2 ≠ w5.heap.size; omega))
        replace HN := Lib.hid (c.heap HN.out (by show w.heap.size + 3 ≠ w5.heap.size; omega))
        replace HZ := Lib.hid (c.heap HZ.out (by show w.heap.size + 4 ≠ w5.heap.size; omega))
        replace SZ := Nat.lt_of_lt_of_le SZ c.size
        replace HA1 := Lib.hid (nb.out)
        replace SZHA1 := Nat.lt_of_lt_of_le SZHA1 c.size
        replace HA2 := Lib.hid (c.heap HA2.out (by show w7.heap.size ≠ w5.heap.size; omega))
        replace SZHA2 := Nat.lt_of_lt_of_le SZHA2 c.size
        replace HA3 := Lib.hid (c.heap HA3.out (by show w9.heap.size ≠ w5.heap.size; omega))
        replace SZHA3 := Nat.lt_of_lt_of_le SZHA3 c.size
        clear nb c
        refine wpU_ready (rs := [10]) (by kernel_rfl) (by simp) ?_
        intro wq hle
        rw [hle.behind (by kernel_rfl)]
        clear hle wq
        refine ReadyU.last HOPS rfl (by rfl) (by kernel_rfl) (fun K hK => ?_) ReadyU.nil
        have o0 : W12.cell? ⟨w7.heap.size, 0, none⟩ = some (.string ⟨#[]⟩) := by rw [cell_of HA2.out]; rfl
        have o1 : W12.cell? ⟨w7.heap.size, 1, none⟩ = some (.string ⟨#[]⟩) := by rw [cell_of HA2.out]; rfl
        have o2 : W12.cell? ⟨w7.heap.size, 2, none⟩ = some (.string ⟨#[]⟩) := by rw [cell_of HA2.out]; rfl
        have o3 : W12.cell? ⟨w7.heap.size, 3, none⟩ = some (.string ⟨#[]⟩) := by rw [cell_of HA2.out]; rfl
        have p0 : W12.frozen? ⟨w7.heap.size, 0, none⟩ = false := frozen_of HA2.out
        have p1 : W12.frozen? ⟨w7.heap.size, 1, none⟩ = false := frozen_of HA2.out
        have p2 : W12.frozen? ⟨w7.heap.size, 2, none⟩ = false := frozen_of HA2.out
        have p3 : W12.frozen? ⟨w7.heap.size, 3, none⟩ = false := frozen_of HA2.out
        go_simp
        refine hK.out _ _ ?_
        clear hK K o0 p0 o1 p1 o2 p2 o3 p3
        try simp only [Act.put, List.getElem_toArray, List.getElem_cons_succ, List.getElem_cons_zero, List.setIfInBounds_toArray, List.set_cons_zero, List.set_cons_succ]
        refine wpU_named ?_
        intro W13 hW
        have c : Ch (· = w7.heap.size) W12 W13 := by rw [hW]; exact ((((Ch.refl (· = w7.heap.size) W12).setb (fun _ => rfl) _).setb (fun _ => rfl) _).setb (fun _ => rfl) _).setb (fun _ => rfl) _
        have nb := Lib.hid (show W13.heap[w7.heap.size]? = some (.cells #[.string (T 0), .string (T 1), .string (T 2), .string (T 3)] 27 (0, 0)) from by rw [hW]; exact heap_setCell_eq _ (heap_setCell_eq _ (heap_setCell_eq _ (heap_setCell_eq _ HA2.out))))
        clear hW
        replace NX := Lib.hid (NX.out.trans' c (fun j hj e => by have e' : j = w7.heap.size := e; omega))
        replace MX := Lib.hid (MX.out.kept c (by show ¬ (0 = w7.heap.size); omega))
        replace hm0 := Nat.lt_of_lt_of_le hm0 c.size
        replace HLA0 := Lib.hid (HLA0.out.kept c (fun j hj e => by have e' : j = w7.heap.size := e; omega))
        replace HLA1 := Lib.hid (HLA1.out.kept c (fun j hj e => by have e' : j = w7.heap.size := e; omega))
        replace HLA2 := Lib.hid (HLA2.out.kept c (fun j hj e => by have e' : j = w7.heap.size := e; omega))
        replace HB0 := Lib.hid (c.heap HB0.out (by show w.heap.size ≠ w7.heap.size; omega))
        replace HB1 := Lib.hid (c.heap HB1.out (by show w.heap.size + 1 ≠ w7.heap.size; omega))
        replace HB2 := Lib.hid (c.heap HB2.out (by show w.heap.size + 2 ≠ w7.heap.size; omega))
        replace HN := Lib.hid (c.heap HN.out (by show w.heap.size + 3 ≠ w7.heap.size; omega))
        replace HZ := Lib.hid (c.heap HZ.out (by show w.heap.size + 4 ≠ w7.heap.size; omega))
        replace SZ := Nat.lt_of_lt_of_le SZ c.size
        replace HA1 := Lib.hid (c.heap HA1.out (by show w5.heap.size ≠ w7.heap.size; omega))
        replace SZHA1 := Nat.lt_of_lt_of_le SZHA1 c.size
        replace HA2 := Lib.hid (nb.out)
        replace SZHA2 := Nat.lt_of_lt_of_le SZHA2 c.size
        replace HA3 := Lib.hid (c.heap HA3.out (by show w9.heap.size ≠ w7.heap.size; omega))
        replace SZHA3 := Nat.lt_of_lt_of_le SZHA3 c.size
        clear nb c
        refine wpU_ready (rs := [11]) (by kernel_rfl) (by simp) ?_
        intro wq hle
        rw [hle.behind (by kernel_rfl)]
        clear hle wq
        refine ReadyU.last HOPS rfl (by rfl) (by kernel_rfl) (fun K hK => ?_) ReadyU.nil
        have o0 : W13.cell? ⟨w9.heap.size, 0, none⟩ = some (.string ⟨#[]⟩) := by rw [cell_of HA3.out]; rfl
        have o1 : W13.cell? ⟨w9.heap.size, 1, none⟩ = some (.string ⟨#[]⟩) := by rw [cell_of HA3.out]; rfl
        have o2 : W13.cell? ⟨w9.heap.size, 2, none⟩ = some (.string ⟨#[]⟩) := by rw [cell_of HA3.out]; rfl
        have o3 : W13.cell? ⟨w9.heap.size, 3, none⟩ = some (.string ⟨#[]⟩) := by rw [cell_of HA3.out]; rfl
        have p0 : W13.frozen? ⟨w9.heap.size, 0, none⟩ = false := frozen_of HA3.out
        have p1 : W13.frozen? ⟨w9.heap.size, 1, none⟩ = false := frozen_of HA3.out
        have p2 : W13.frozen? ⟨w9.heap.size, 2, none⟩ = false := frozen_of HA3.out
        have p3 : W13.frozen? ⟨w9.heap.size, 3, none⟩ = false := frozen_of HA3.out
        go_simp
        refine hK.out _ _ ?_
        clear hK K o0 p0 o1 p1 o2 p2 o3 p3
        try simp only [Act.put, List.getElem_toArray, List.getElem_cons_succ, List.getElem_cons_zero, List.setIfInBounds_toArray, List.set_cons_zero, List.set_cons_succ]
        refine wpU_named ?_
        intro W14 hW
        have c : Ch (· = w9.heap.size) W13 W14 := by rw [hW]; exact ((((Ch.refl (· = w9.heap.size) W13).setb (fun _ => rfl) _).setb (fun _ => rfl) _).setb (fun _ => rfl) _).setb (fun _ => rfl) _
        have nb := Lib.hid (show W14.heap[w9.heap.size]? = some (.cells #[.string (U 0), .string (U 1), .string (U 2), .string (U 3)] 27 (0, 0)) from by rw [hW]; exact heap_setCell_eq _ (heap_setCell_eq _ (heap_setCell_eq _ (heap_setCell_eq _ HA3.out))))
        clear hW
        replace NX := Lib.hid (NX.out.trans' c (fun j hj e => by have e' : j = w9.heap.size := e; omega))
        replace MX := Lib.hid (MX.out.kept c (by show ¬ (0 = w9.heap.size); omega))
        replace hm0 := Nat.lt_of_lt_of_le hm0 c.size
        replace HLA0 := Lib.hid (HLA0.out.kept c (fun j hj e => by have e' : j = w9.heap.size := e; omega))
        replace HLA1 := Lib.hid (HLA1.out.kept c (fun j hj e => by have e' : j = w9.heap.size := e; omega))
        replace HLA2 := Lib.hid (HLA2.out.kept c (fun j hj e => by have e' : j = w9.heap.size := e; omega))
        replace HB0 := Lib.hid (c.heap HB0.out (by show w.heap.size ≠ w9.heap.size; omega))
        replace HB1 := Lib.hid (c.heap HB1.out (by show w.heap.size + 1 ≠ w9.heap.size; omega))
        replace HB2 := Lib.hid (c.heap HB2.out (by show w.heap.size + 2 ≠ w9.heap.size; omega))
        replace HN := Lib.hid (c.heap HN.out (by show w.heap.size + 3 ≠ w9.heap.size; omega))
        replace HZ := Lib.hid (c.heap HZ.out (by show w.heap.size + 4 ≠ w9.heap.size; omega))
        replace SZ := Nat.lt_of_lt_of_le SZ c.size
        replace HA1 := Lib.hid (c.heap HA1.out (by show w5.heap.size ≠ w9.heap.size; omega))
        replace SZHA1 := Nat.lt_of_lt_of_le SZHA1 c.size
        replace HA2 := Lib.hid (c.heap HA2.out (by show w7.heap.size ≠ w9.heap.size; omega))
        replace SZHA2 := Nat.lt_of_lt_of_le SZHA2 c.size
        replace HA3 := Lib.hid (nb.out)
        replace SZHA3 := Nat.lt_of_lt_of_le SZHA3 c.size
        clear nb c
        refine wpU_done (by kernel_rfl) (fun w15 hle => ?_) _
        rw [hle.behind (by kernel_rfl)]
        clear HOPS HCL hle
        repeat clear hHeld
        go_wp2_with fail
        go_meet
        exact ⟨w5.heap.size, w7.heap.size, w9.heap.size, rfl, rfl, rfl, HA1, HA2, HA3, NX, MX, HN, HZ⟩
      · go_simp
        refine hK.out _ _ ((Ch.refl _ _).alloc _) ⟨cell_alloc_old _ (by rw [cell_of HB0.out]; rfl), cell_alloc_old _ (by rw [cell_of HB0.out]; rfl), cell_alloc_old _ (by rw [cell_of HB0.out]; rfl), cell_alloc_old _ (by rw [cell_of HB0.out]; rfl), cell_alloc_old _ (by rw [cell_of HB0.out]; rfl), cell_alloc_old _ (by rw [cell_of HB1.out]; rfl), cell_alloc_old _ (by rw [cell_of HB1.out]; rfl), cell_alloc_old _ (by rw [cell_of HB1.out]; rfl), cell_alloc_old _ (by rw [cell_of HB1.out]; rfl), cell_alloc_old _ (by rw [cell_of HB1.out]; rfl), cell_alloc_old _ (by rw [cell_of HB2.out]; rfl), cell_alloc_old _ (by rw [cell_of HB2.out]; rfl), cell_alloc_old _ (by rw [cell_of HB2.out]; rfl), cell_alloc_old _ (by rw [cell_of HB2.out]; rfl), cell_alloc_old _ (by rw [cell_of HB2.out]; rfl)⟩ (fun hHeld => ?_)
        clear hK K
        try simp only [Act.put, List.getElem_toArray, List.getElem_cons_succ, List.getElem_cons_zero, List.setIfInBounds_toArray, List.set_cons_zero, List.set_cons_succ]
        have hm0AHA3 := hm0
        have SZAHA3 := SZ
        have SZHA1AHA3 := SZHA1
        refine wpU_named ?_
        intro W16 hW
        try rw [← hW] at hHeld
        have n : Nw w7 W16 := by rw [hW]; exact (Ch.refl _ _).alloc _
        replace NX := Lib.hid (NX.out.trans n)
        replace MX := Lib.hid (MX.out.kept n id)
        replace hm0 := Nat.lt_of_lt_of_le hm0 n.size
        replace HLA0 := Lib.hid (HLA0.out.kept n nof)
        replace HLA1 := Lib.hid (HLA1.out.kept n nof)
        replace HLA2 := Lib.hid (HLA2.out.kept n nof)
        replace HB0 := Lib.hid (n.heap HB0.out id)
        replace HB1 := Lib.hid (n.heap HB1.out id)
        replace HB2 := Lib.hid (n.heap HB2.out id)
        replace HN := Lib.hid (n.heap HN.out id)
        replace HZ := Lib.hid (n.heap HZ.out id)
        replace SZ := Nat.lt_of_lt_of_le SZ n.size
        replace HA1 := Lib.hid (n.heap HA1.out id)
        replace SZHA1 := Nat.lt_of_lt_of_le SZHA1 n.size
        have HA3 := Lib.hid (show W16.heap[w7.heap.size]? = some (.cells #[.string ⟨#[]⟩, .string ⟨#[]⟩, .string ⟨#[]⟩, .string ⟨#[]⟩] 27 (0, 0)) from by rw [hW]; exact heap_alloc_eq _ rfl)
        have SZHA3 : w7.heap.size < W16.heap.size := lt_of_heap HA3.out
        clear hW n
        refine wpU_ready (rs := [7]) (by kernel_rfl) (by simp) ?_
        intro w17 hle
        obtain ⟨n, hHeld⟩ := hle.ahead (by kernel_rfl)
        clear hle
        replace NX := Lib.hid (NX.out.trans n)
        replace MX := Lib.hid (MX.out.kept n id)
        replace hm0 := Nat.lt_of_lt_of_le hm0 n.size
        replace HLA0 := Lib.hid (HLA0.out.kept n nof)
        replace HLA1 := Lib.hid (HLA1.out.kept n nof)
        replace HLA2 := Lib.hid (HLA2.out.kept n nof)
        replace HB0 := Lib.hid (n.heap HB0.out id)
        replace HB1 := Lib.hid (n.heap HB1.out id)
        replace HB2 := Lib.hid (n.heap HB2.out id)
        replace HN := Lib.hid (n.heap HN.out id)
        replace HZ := Lib.hid (n.heap HZ.out id)
        replace SZ := Nat.lt_of_lt_of_le SZ n.size
        replace HA1 := Lib.hid (n.heap HA1.out id)
        replace SZHA1 := Nat.lt_of_lt_of_le SZHA1 n.size
        replace HA3 := Lib.hid (n.heap HA3.out id)
        replace SZHA3 := Nat.lt_of_lt_of_le SZHA3 n.size
        clear n
        refine ReadyU.cons HOPS rfl (by rfl) (fun K hK => ?_) ReadyU.nil
        go_simp
        refine hK.out _ _ ((Ch.refl _ _).alloc _) ⟨cell_alloc_old _ (by rw [cell_of HB0.out]; rfl), cell_alloc_old _ (by rw [cell_of HB0.out]; rfl), cell_alloc_old _ (by rw [cell_of HB0.out]; rfl), cell_alloc_old _ (by rw [cell_of HB0.out]; rfl), cell_alloc_old _ (by rw [cell_of HB0.out]; rfl), cell_alloc_old _ (by rw [cell_of HB1.out]; rfl), cell_alloc_old _ (by rw [cell_of HB1.out]; rfl), cell_alloc_old _ (by rw [cell_of HB1.out]; rfl), cell_alloc_old _ (by rw [cell_of HB1.out]; rfl), cell_alloc_old _ (by rw [cell_of HB1.out]; rfl), cell_alloc_old _ (by rw [cell_of HB2.out]; rfl), cell_alloc_old _ (by rw [cell_of HB2.out]; rfl), cell_alloc_old _ (by rw [cell_of HB2.out]; rfl), cell_alloc_old _ (by rw [cell_of HB2.out]; rfl), cell_alloc_old _ (by rw [cell_of HB2.out]; rfl)⟩ (fun hHeld => ?_)
        clear hK K
        try simp only [Act.put, List.getElem_toArray, List.getElem_cons_succ, List.getElem_cons_zero, List.setIfInBounds_toArray, List.set_cons_zero, List.set_cons_succ]
        have hm0AHA2 := hm0
        have SZAHA2 := SZ
        have SZHA1AHA2 := SZHA1
        have SZHA3AHA2 := SZHA3
        refine wpU_named ?_
        intro W18 hW
        try rw [← hW] at hHeld
        have n : Nw w17 W18 := by rw [hW]; exact (Ch.refl _ _).alloc _
        replace NX := Lib.hid (NX.out.trans n)
        replace MX := Lib.hid (MX.out.kept n id)
        replace hm0 := Nat.lt_of_lt_of_le hm0 n.size
        replace HLA0 := Lib.hid (HLA0.out.kept n nof)
        replace HLA1 := Lib.hid (HLA1.out.kept n nof)
        replace HLA2 := Lib.hid (HLA2.out.kept n nof)
        replace HB0 := Lib.hid (n.heap HB0.out id)
        replace HB1 := Lib.hid (n.heap HB1.out id)
        replace HB2 := Lib.hid (n.heap HB2.out id)
        replace HN := Lib.hid (n.heap HN.out id)
        replace HZ := Lib.hid (n.heap HZ.out id)
        replace SZ := Nat.lt_of_lt_of_le SZ n.size
        replace HA1 := Lib.hid (n.heap HA1.out id)
        replace SZHA1 := Nat.lt_of_lt_of_le SZHA1 n.size
        replace HA3 := Lib.hid (n.heap HA3.out id)
        replace SZHA3 := Nat.lt_of_lt_of_le SZHA3 n.size
        have HA2 := Lib.hid (show W18.heap[w17.heap.size]? = some (.cells #[.string ⟨#[]⟩, .string ⟨#[]⟩, .string ⟨#[]⟩, .string ⟨#[]⟩] 27 (0, 0)) from by rw [hW]; exact heap_alloc_eq _ rfl)
        have SZHA2 : w17.heap.size < W18.heap.size := lt_of_heap HA2.out
        clear hW n
        refine wpU_ready (rs := [9]) (by kernel_rfl) (by simp) ?_
        intro w19 hle
        obtain ⟨n, hHeld⟩ := hle.ahead (by kernel_rfl)
        clear hle
        replace NX := Lib.hid (NX.out.trans n)
        replace MX := Lib.hid (MX.out.kept n id)
        replace hm0 := Nat.lt_of_lt_of_le hm0 n.size
        replace HLA0 := Lib.hid (HLA0.out.kept n nof)
        replace HLA1 := Lib.hid (HLA1.out.kept n nof)
        replace HLA2 := Lib.hid (HLA2.out.kept n nof)
        replace HB0 := Lib.hid (n.heap HB0.out id)
        replace HB1 := Lib.hid (n.heap HB1.out id)
        replace HB2 := Lib.hid (n.heap HB2.out id)
        replace HN := Lib.hid (n.heap HN.out id)
        replace HZ := Lib.hid (n.heap HZ.out id)
        replace SZ := Nat.lt_of_lt_of_le SZ n.size
        replace HA1 := Lib.hid (n.heap HA1.out id)
        replace SZHA1 := Nat.lt_of_lt_of_le SZHA1 n.size
        replace HA3 := Lib.hid (n.heap HA3.out id)
        replace SZHA3 := Nat.lt_of_lt_of_le SZHA3 n.size
        replace HA2 := Lib.hid (n.heap HA2.out id)
        replace SZHA2 := Nat.lt_of_lt_of_le SZHA2 n.size
        clear n
        refine ReadyU.last HOPS rfl (by rfl) (by kernel_rfl) (fun K hK => ?_) ReadyU.nil
        have o0 : w19.cell? ⟨w5.heap.size, 0, none⟩ = some (.string ⟨#[]⟩) := by rw [cell_of HA1.out]; rfl
        have o1 : w19.cell? ⟨w5.heap.size, 1, none⟩ = some (.string ⟨#[]⟩) := by rw [cell_of HA1.out]; rfl
        have o2 : w19.cell? ⟨w5.heap.size, 2, none⟩ = some (.string ⟨#[]⟩) := by rw [cell_of HA1.out]; rfl
        have o3 : w19.cell? ⟨w5.heap.size, 3, none⟩ = some (.string ⟨#[]⟩) := by rw [cell_of HA1.out]; rfl
        have p0 : w19.frozen? ⟨w5.heap.size, 0, none⟩ = false := frozen_of HA1.out
        have p1 : w19.frozen? ⟨w5.heap.size, 1, none⟩ = false := frozen_of HA1.out
        have p2 : w19.frozen? ⟨w5.heap.size, 2, none⟩ = false := frozen_of HA1.out
        have p3 : w19.frozen? ⟨w5.heap.size, 3, none⟩ = false := frozen_of HA1.out
        go_simp
        refine hK.out _ _ ?_
        clear hK K o0 p0 o1 p1 o2 p2 o3 p3
        try simp only [Act.put, List.getElem_toArray, List.getElem_cons_succ, List.getElem_cons_zero, List.setIfInBounds_toArray, List.set_cons_zero, List.set_cons_succ]
        refine wpU_named ?_
        intro W20 hW
        have c : Ch (· = w5.heap.size) w19 W20 := by rw [hW]; exact ((((Ch.refl (· = w5.heap.size) w19).setb (fun _ => rfl) _).setb (fun _ => rfl) _).setb (fun _ => rfl) _).setb (fun _ => rfl) _
        have nb := Lib.hid (show W20.heap[w5.heap.size]? = some (.cells #[.string (S 0), .string (S 1), .string (S 2), .string (S 3)] 27 (0, 0)) from by rw [hW]; exact heap_setCell_eq _ (heap_setCell_eq _ (heap_setCell_eq _ (heap_setCell_eq _ HA1.out))))
        clear hW
        replace NX := Lib.hid (NX.out.trans' c (fun j hj e => by have e' : j = w5.heap.size := e; omega))
        replace MX := Lib.hid (MX.out.kept c (by show ¬ (0 = w5.heap.size); omega))
        replace hm0 := Nat.lt_of_lt_of_le hm0 c.size
        replace HLA0 := Lib.hid (HLA0.out.kept c (fun j hj e => by have e' : j = w5.heap.size := e; omega))
        replace HLA1 := Lib.hid (HLA1.out.kept c (fun j hj e => by have e' : j = w5.heap.size := e; omega))
        replace HLA2 := Lib.hid (HLA2.out.kept c (fun j hj e => by have e' : j = w5.heap.size := e; omega))
        replace HB0 := Lib.hid (c.heap HB0.out (by show w.heap.size ≠ w5.heap.size; omega))
        replace HB1 := Lib.hid (c.heap HB1.out (by show w.heap.size + 1 ≠ w5.heap.size; omega))
        replace HB2 := Lib.hid (c.heap HB2.out (by show w.heap.size + 2 ≠ w5.heap.size; omega))
        replace HN := Lib.hid (c.heap HN.out (by show w.heap.size + 3 ≠ w5.heap.size; omega))
        replace HZ := Lib.hid (c.heap HZ.out (by show w.heap.size + 4 ≠ w5.heap.size; omega))
        replace SZ := Nat.lt_of_lt_of_le SZ c.size
        replace HA1 := Lib.hid (nb.out)
        replace SZHA1 := Nat.lt_of_lt_of_le SZHA1 c.size
        replace HA3 := Lib.hid (c.heap HA3.out (by show w7.heap.size ≠ w5.heap.size; omega))
        replace SZHA3 := Nat.lt_of_lt_of_le SZHA3 c.size
        replace HA2 := Lib.hid (c.heap HA2.out (by show w17.heap.size ≠ w5.heap.size; omega))
        replace SZHA2 := Nat.lt_of_lt_of_le SZHA2 c.size
        clear nb c
        refine wpU_ready (rs := [10]) (by kernel_rfl) (by simp) ?_
        intro wq hle
        rw [hle.behind (by kernel_rfl)]
        clear hle wq
        refine ReadyU.last HOPS rfl (by rfl) (by kernel_rfl) (fun K hK => ?_) ReadyU.nil
        have o0 : W20.cell? ⟨w17.heap.size, 0, none⟩ = some (.string ⟨#[]⟩) := by rw [cell_of HA2.out]; rfl
        have o1 : W20.cell? ⟨w17.heap.size, 1, none⟩ = some (.string ⟨#[]⟩) := by rw [cell_of HA2.out]; rfl
        have o2 : W20.cell? ⟨w17.heap.size, 2, none⟩ = some (.string ⟨#[]⟩) := by rw [cell_of HA2.out]; rfl
        have o3 : W20.cell? ⟨w17.heap.size, 3, none⟩ = some (.string ⟨#[]⟩) := by rw [cell_of HA2.out]; rfl
        have p0 : W20.frozen? ⟨w17.heap.size, 0, none⟩ = false := frozen_of HA2.out
        have p1 : W20.frozen? ⟨w17.heap.size, 1, none⟩ = false := frozen_of HA2.out
        have p2 : W20.frozen? ⟨w17.heap.size, 2, none⟩ = false := frozen_of HA2.out
        have p3 : W20.frozen? ⟨w17.heap.size, 3, none⟩ = false := frozen_of HA2.out
        go_simp
        refine hK.out _ _ ?_
        clear hK K o0 p0 o1 p1 o2 p2 o3 p3
        try simp only [Act.put, List.getElem_toArray, List.getElem_cons_succ, List.getElem_cons_zero, List.setIfInBounds_toArray, List.set_cons_zero, List.set_cons_succ]
        refine wpU_named ?_
        intro W21 hW
        have c : Ch (· = w17.heap.size) W20 W21 := by rw [hW]; exact ((((Ch.refl (· = w17.heap.size) W20).setb (fun _ => rfl) _).setb (fun _ => rfl) _).setb (fun _ => rfl) _).setb (fun _ => rfl) _
        have nb := Lib.hid (show W21.heap[w17.heap.size]? = some (.cells #[.string (T 0), .string (T 1), .string (T 2), .string (T 3)] 27 (0, 0)) from by rw [hW]; exact heap_setCell_eq _ (heap_setCell_eq _ (heap_setCell_eq _ (heap_setCell_eq _ HA2.out))))
        clear hW
        replace NX := Lib.hid (NX.out.trans' c (fun j hj e => by have e' : j = w17.heap.size := e; omega))
        replace MX := Lib.hid (MX.out.kept c (by show ¬ (0 = w17.heap.size); omega))
        replace hm0 := Nat.lt_of_lt_of_le hm0 c.size
        replace HLA0 := Lib.hid (HLA0.out.kept c (fun j hj e => by have e' : j = w17.heap.size := e; omega))
        replace HLA1 := Lib.hid (HLA1.out.kept c (fun j hj e => by have e' : j = w17.heap.size := e; omega))
        replace HLA2 := Lib.hid (HLA2.out.kept c (fun j hj e => by have e' : j = w17.heap.size := e; omega))
        replace HB0 := Lib.hid (c.heap HB0.out (by show w.heap.size ≠ w17.heap.size; omega))
        replace HB1 := Lib.hid (c.heap HB1.out (by show w.heap.size + 1 ≠ w17.heap.size; omega))
        replace HB2 := Lib.hid (c.heap HB2.out (by show w.heap.size + 2 ≠ w17.heap.size; omega))
        replace HN := Lib.hid (c.heap HN.out (by show w.heap.size + 3 ≠ w17.heap.size; omega))
        replace HZ := Lib.hid (c.heap HZ.out (by show w.heap.size + 4 ≠ w17.heap.size; omega))
        replace SZ := Nat.lt_of_lt_of_le SZ c.size
        replace HA1 := Lib.hid (c.heap HA1.out (by show w5.heap.size ≠ w17.heap.size; omega))
        replace SZHA1 := Nat.lt_of_lt_of_le SZHA1 c.size
        replace HA3 := Lib.hid (c.heap HA3.out (by show w7.heap.size ≠ w17.heap.size; omega))
        replace SZHA3 := Nat.lt_of_lt_of_le SZHA3 c.size
        replace HA2 := Lib.hid (nb.out)
        replace SZHA2 := Nat.lt_of_lt_of_le SZHA2 c.size
        clear nb c
        refine wpU_ready (rs := [11]) (by kernel_rfl) (by simp) ?_
        intro wq hle
        rw [hle.behind (by kernel_rfl)]
        clear hle wq
        refine ReadyU.last HOPS rfl (by rfl) (by kernel_rfl) (fun K hK => ?_) ReadyU.nil
        have o0 : W21.cell? ⟨w7.heap.size, 0, none⟩ = some (.string ⟨#[]⟩) := by rw [cell_of HA3.out]; rfl
        have o1 : W21.cell? ⟨w7.heap.size, 1, none⟩ = some (.string ⟨#[]⟩) := by rw [cell_of HA3.out]; rfl
        have o2 : W21.cell? ⟨w7.heap.size, 2, none⟩ = some (.string ⟨#[]⟩) := by rw [cell_of HA3.out]; rfl
        have o3 : W21.cell? ⟨w7.heap.size, 3, none⟩ = some (.string ⟨#[]⟩) := by rw [cell_of HA3.out]; rfl
        have p0 : W21.frozen? ⟨w7.heap.size, 0, none⟩ = false := frozen_of HA3.out
        have p1 : W21.frozen? ⟨w7.heap.size, 1, none⟩ = false := frozen_of HA3.out
        have p2 : W21.frozen? ⟨w7.heap.size, 2, none⟩ = false := frozen_of HA3.out
        have p3 : W21.frozen? ⟨w7.heap.size, 3, none⟩ = false := frozen_of HA3.out
        go_simp
        refine hK.out _ _ ?_
        clear hK K o0 p0 o1 p1 o2 p2 o3 p3
        try simp only [Act.put, List.getElem_toArray, List.getElem_cons_succ, List.getElem_cons_zero, List.setIfInBounds_toArray, List.set_cons_zero, List.set_cons_succ]
        refine wpU_named ?_
        intro W22 hW
        have c : Ch (· = w7.heap.size) W21 W22 := by rw [hW]; exact ((((Ch.refl (· = w7.heap.size) W21).setb (fun _ => rfl) _).setb (fun _ => rfl) _).setb (fun _ => rfl) _).setb (fun _ => rfl) _
        have nb := Lib.hid (show W22.heap[w7.heap.size]? = some (.cells #[.string (U 0), .string (U 1), .string (U 2), .string (U 3)] 27 (0, 0)) from by rw [hW]; exact heap_setCell_eq _ (heap_setCell_eq _ (heap_setCell_eq _ (heap_setCell_eq _ HA3.out))))
        clear hW
        replace NX := Lib.hid (NX.out.trans' c (fun j hj e => by have e' : j = w7.heap.size := e; omega))
        replace MX := Lib.hid (MX.out.kept c (by show ¬ (0 = w7.heap.size); omega))
        replace hm0 := Nat.lt_of_lt_of_le hm0 c.size
        replace HLA0 := Lib.hid (HLA0.out.kept c (fun j hj e => by have e' : j = w7.heap.size := e; omega))
        replace HLA1 := Lib.hid (HLA1.out.kept c (fun j hj e => by have e' : j = w7.heap.size := e; omega))
        replace HLA2 := Lib.hid (HLA2.out.kept c (fun j hj e => by have e' : j = w7.heap.size := e; omega))
        replace HB0 := Lib.hid (c.heap HB0.out (by show w.heap.size ≠ w7.heap.size; omega))
        replace HB1 := Lib.hid (c.heap HB1.out (by show w.heap.size + 1 ≠ w7.heap.size; omega))
        replace HB2 := Lib.hid (c.heap HB2.out (by show w.heap.size + 2 ≠ w7.heap.size; omega))
        replace HN := Lib.hid (c.heap HN.out (by show w.heap.size + 3 ≠ w7.heap.size; omega))
        replace HZ := Lib.hid (c.heap HZ.out (by show w.heap.size + 4 ≠ w7.heap.size; omega))
        replace SZ := Nat.lt_of_lt_of_le SZ c.size
        replace HA1 := Lib.hid (c.heap HA1.out (by show w5.heap.size ≠ w7.heap.size; omega))
        replace SZHA1 := Nat.lt_of_lt_of_le SZHA1 c.size
        replace HA3 := Lib.hid (nb.out)
        replace SZHA3 := Nat.lt_of_lt_of_le SZHA3 c.size
        replace HA2 := Lib.hid (c.heap HA2.out (by show w17.heap.size ≠ w7.heap.size; omega))
        replace SZHA2 := Nat.lt_of_lt_of_le SZHA2 c.size
        clear nb c
        refine wpU_done (by kernel_rfl) (fun w23 hle => ?_) _
        rw [hle.behind (by kernel_rfl)]
        clear HOPS HCL hle
        repeat clear hHeld
        go_wp2_with fail
        go_meet
        exact ⟨w5.heap.size, w17.heap.size, w7.heap.size, rfl, rfl, rfl, HA1, HA2, HA3, NX, MX, HN, HZ⟩
    · go_simp
      refine hK.out _ _ ((Ch.refl _ _).alloc _) ⟨cell_alloc_old _ (by rw [cell_of HB0.out]; rfl), cell_alloc_old _ (by rw [cell_of HB0.out]; rfl), cell_alloc_old _ (by rw [cell_of HB0.out]; rfl), cell_alloc_old _ (by rw [cell_of HB0.out]; rfl), cell_alloc_old _ (by rw [cell_of HB0.out]; rfl), cell_alloc_old _ (by rw [cell_of HB1.out]; rfl), cell_alloc_old _ (by rw [cell_of HB1.out]; rfl), cell_alloc_old _ (by rw [cell_of HB1.out]; rfl), cell_alloc_old _ (by rw [cell_of HB1.out]; rfl), cell_alloc_old _ (by rw [cell_of HB1.out]; rfl), cell_alloc_old _ (by rw [cell_of HB2.out]; rfl), cell_alloc_old _ (by rw [cell_of HB2.out]; rfl), cell_alloc_old _ (by rw [cell_of HB2.out]; rfl), cell_alloc_old _ (by rw [cell_of HB2.out]; rfl), cell_alloc_old _ (by rw [cell_of HB2.out]; rfl)⟩ (fun hHeld => ?_)
      clear hK K
      try simp only [Act.put, List.getElem_toArray, List.getElem_cons_succ, List.getElem_cons_zero, List.setIfInBounds_toArray, List.set_cons_zero, List.set_cons_succ]
      have hm0AHA2 := hm0
      have SZAHA2 := SZ
      refine wpU_named ?_
      intro W24 hW
      try rw [← hW] at hHeld
      have n : Nw w5 W24 := by rw [hW]; exact (Ch.refl _ _).alloc _
      replace NX := Lib.hid (NX.out.trans n)
      replace MX := Lib.hid (MX.out.kept n id)
      replace hm0 := Nat.lt_of_lt_of_le hm0 n.size
      replace HLA0 := Lib.hid (HLA0.out.kept n nof)
      replace HLA1 := Lib.hid (HLA1.out.kept n nof)
      replace HLA2 := Lib.hid (HLA2.out.kept n nof)
      replace HB0 := Lib.hid (n.heap HB0.out id)
      replace HB1 := Lib.hid (n.heap HB1.out id)
      replace HB2 := Lib.hid (n.heap HB2.out id)
      replace HN := Lib.hid (n.heap HN.out id)
      replace HZ := Lib.hid (n.heap HZ.out id)
      replace SZ := Nat.lt_of_lt_of_le SZ n.size
      have HA2 := Lib.hid (show W24.heap[w5.heap.size]? = some (.cells #[.string ⟨#[]⟩, .string ⟨#[]⟩, .string ⟨#[]⟩, .string ⟨#[]⟩] 27 (0, 0)) from by rw [hW]; exact heap_alloc_eq _ rfl)
      have SZHA2 : w5.heap.size < W24.heap.size := lt_of_heap HA2.out
      clear hW n
      refine wpU_ready (rs := [6, 8]) (by kernel_rfl) (by simp) ?_
      intro w25 hle
      obtain ⟨n, hHeld⟩ := hle.ahead (by kernel_rfl)
      clear hle
      replace NX := Lib.hid (NX.out.trans n)
      replace MX := Lib.hid (MX.out.kept n id)
      replace hm0 := Nat.lt_of_lt_of_le hm0 n.size
      replace HLA0 := Lib.hid (HLA0.out.kept n nof)
      replace HLA1 := Lib.hid (HLA1.out.kept n nof)
      replace HLA2 := Lib.hid (HLA2.out.kept n nof)
      replace HB0 := Lib.hid (n.heap HB0.out id)
      replace HB1 := Lib.hid (n.heap HB1.out id)
      replace HB2 := Lib.hid (n.heap HB2.out id)
      replace HN := Lib.hid (n.heap HN.out id)
      replace HZ := Lib.hid (n.heap HZ.out id)
      replace SZ := Nat.lt_of_lt_of_le SZ n.size
      replace HA2 := Lib.hid (n.heap HA2.out id)
      replace SZHA2 := Nat.lt_of_lt_of_le SZHA2 n.size
      clear n
      refine ReadyU.cons HOPS rfl (by rfl) (fun K hK => ?_) (ReadyU.cons HOPS rfl (by rfl) (fun K hK => ?_) ReadyU.nil)
      · go_simp
        refine hK.out _ _ ((Ch.refl _ _).alloc _) ⟨cell_alloc_old _ (by rw [cell_of HB0.out]; rfl), cell_alloc_old _ (by rw [cell_of HB0.out]; rfl), cell_alloc_old _ (by rw [cell_of HB0.out]; rfl), cell_alloc_old _ (by rw [cell_of HB0.out]; rfl), cell_alloc_old _ (by rw [cell_of HB0.out]; rfl), cell_alloc_old _ (by rw [cell_of HB1.out]; rfl), cell_alloc_old _ (by rw [cell_of HB1.out]; rfl), cell_alloc_old _ (by rw [cell_of HB1.out]; rfl), cell_alloc_old _ (by rw [cell_of HB1.out]; rfl), cell_alloc_old _ (by rw [cell_of HB1.out]; rfl), cell_alloc_old _ (by rw [cell_of HB2.out]; rfl), cell_alloc_old _ (by rw [cell_of HB2.out]; rfl), cell_alloc_old _ (by rw [cell_of HB2.out]; rfl), cell_alloc_old _ (by rw [cell_of HB2.out]; rfl), cell_alloc_old _ (by rw [cell_of HB2.out]; rfl)⟩ (fun hHeld => ?_)
        clear hK K
        try simp only [Act.put, List.getElem_toArray, List.getElem_cons_succ, List.getElem_cons_zero, List.setIfInBounds_toArray, List.set_cons_zero, List.set_cons_succ]
        have hm0AHA1 := hm0
        have SZAHA1 := SZ
        have SZHA2AHA1 := SZHA2
        refine wpU_named ?_
        intro W26 hW
        try rw [← hW] at hHeld
        have n : Nw w25 W26 := by rw [hW]; exact (Ch.refl _ _).alloc _
        replace NX := Lib.hid (NX.out.trans n)
        replace MX := Lib.hid (MX.out.kept n id)
        replace hm0 := Nat.lt_of_lt_of_le hm0 n.size
        replace HLA0 := Lib.hid (HLA0.out.kept n nof)
        replace HLA1 := Lib.hid (HLA1.out.kept n nof)
        replace HLA2 := Lib.hid (HLA2.out.kept n nof)
        replace HB0 := Lib.hid (n.heap HB0.out id)
        replace HB1 := Lib.hid (n.heap HB1.out id)
        replace HB2 := Lib.hid (n.heap HB2.out id)
        replace HN := Lib.hid (n.heap HN.out id)
        replace HZ := Lib.hid (n.heap HZ.out id)
        replace SZ := Nat.lt_of_lt_of_le SZ n.size
        replace HA2 := Lib.hid (n.heap HA2.out id)
        replace SZHA2 := Nat.lt_of_lt_of_le SZHA2 n.size
        have HA1 := Lib.hid (show W26.heap[w25.heap.size]? = some (.cells #[.string ⟨#[]⟩, .string ⟨#[]⟩, .string ⟨#[]⟩, .string ⟨#[]⟩] 27 (0, 0)) from by rw [hW]; exact heap_alloc_eq _ rfl)
        have SZHA1 : w25.heap.size < W26.heap.size := lt_of_heap HA1.out
        clear hW n
        refine wpU_ready (rs := [8]) (by kernel_rfl) (by simp) ?_
        intro w27 hle
        obtain ⟨n, hHeld⟩ := hle.ahead (by kernel_rfl)
        clear hle
        replace NX := Lib.hid (NX.out.trans n)
        replace MX := Lib.hid (MX.out.kept n id)
        replace hm0 := Nat.lt_of_lt_of_le hm0 n.size
        replace HLA0 := Lib.hid (HLA0.out.kept n nof)
        replace HLA1 := Lib.hid (HLA1.out.kept n nof)
        replace HLA2 := Lib.hid (HLA2.out.kept n nof)
        replace HB0 := Lib.hid (n.heap HB0.out id)
        replace HB1 := Lib.hid (n.heap HB1.out id)
        replace HB2 := Lib.hid (n.heap HB2.out id)
        replace HN := Lib.hid (n.heap HN.out id)
        replace HZ := Lib.hid (n.heap HZ.out id)
        replace SZ := Nat.lt_of_lt_of_le SZ n.size
        replace HA2 := Lib.hid (n.heap HA2.out id)
        replace SZHA2 := Nat.lt_of_lt_of_le SZHA2 n.size
        replace HA1 := Lib.hid (n.heap HA1.out id)
        replace SZHA1 := Nat.lt_of_lt_of_le SZHA1 n.size
        clear n
        refine ReadyU.cons HOPS rfl (by rfl) (fun K hK => ?_) ReadyU.nil
        go_simp
        refine hK.out _ _ ((Ch.refl _ _).alloc _) ⟨cell_alloc_old _ (by rw [cell_of HB0.out]; rfl), cell_alloc_old _ (by rw [cell_of HB0.out]; rfl), cell_alloc_old _ (by rw [cell_of HB0.out]; rfl), cell_alloc_old _ (by rw [cell_of HB0.out]; rfl), cell_alloc_old _ (by rw [cell_of HB0.out]; rfl), cell_alloc_old _ (by rw [cell_of HB1.out]; rfl), cell_alloc_old _ (by rw [cell_of HB1.out]; rfl), cell_alloc_old _ (by rw [cell_of HB1.out]; rfl), cell_alloc_old _ (by rw [cell_of HB1.out]; rfl), cell_alloc_old _ (by rw [cell_of HB1.out]; rfl), cell_alloc_old _ (by rw [cell_of HB2.out]; rfl), cell_alloc_old _ (by rw [cell_of HB2.out]; rfl), cell_alloc_old _ (by rw [cell_of HB2.out]; rfl), cell_alloc_old _ (by rw [cell_of HB2.out]; rfl), cell_alloc_old _ (by rw [cell_of HB2.out]; rfl)⟩ (fun hHeld => ?_)
        clear hK K
        try simp only [Act.put, List.getElem_toArray, List.getElem_cons_succ, List.getElem_cons_zero, List.setIfInBounds_toArray, List.set_cons_zero, List.set_cons_succ]
        have hm0AHA3 := hm0
        have SZAHA3 := SZ
        have SZHA2AHA3 := SZHA2
        have SZHA1AHA3 := SZHA1
        refine wpU_named ?_
        intro W28 hW
        try rw [← hW] at hHeld
        have n : Nw w27 W28 := by rw [hW]; exact (Ch.refl _ _).alloc _
        replace NX := Lib.hid (NX.out.trans n)
        replace MX := Lib.hid (MX.out.kept n id)
        replace hm0 := Nat.lt_of_lt_of_le hm0 n.size
        replace HLA0 := Lib.hid (HLA0.out.kept n nof)
        replace HLA1 := Lib.hid (HLA1.out.kept n nof)
        replace HLA2 := Lib.hid (HLA2.out.kept n nof)
        replace HB0 := Lib.hid (n.heap HB0.out id)
        replace HB1 := Lib.hid (n.heap HB1.out id)
        replace HB2 := Lib.hid (n.heap HB2.out id)
        replace HN := Lib.hid (n.heap HN.out id)
        replace HZ := Lib.hid (n.heap HZ.out id)
        replace SZ := Nat.lt_of_lt_of_le SZ n.size
        replace HA2 := Lib.hid (n.heap HA2.out id)
        replace SZHA2 := Nat.lt_of_lt_of_le SZHA2 n.size
        replace HA1 := Lib.hid (n.heap HA1.out id)
        replace SZHA1 := Nat.lt_of_lt_of_le SZHA1 n.size
        have HA3 := Lib.hid (show W28.heap[w27.heap.size]? = some (.cells #[.string ⟨#[]⟩, .string ⟨#[]⟩, .string ⟨#[]⟩, .string ⟨#[]⟩] 27 (0, 0)) from by rw [hW]; exact heap_alloc_eq _ rfl)
        have SZHA3 : w27.heap.size < W28.heap.size := lt_of_heap HA3.out
        clear hW n
        refine wpU_ready (rs := [9]) (by kernel_rfl) (by simp) ?_
        intro w29 hle
        obtain ⟨n, hHeld⟩ := hle.ahead (by kernel_rfl)
        clear hle
        replace NX := Lib.hid (NX.out.trans n)
        replace MX := Lib.hid (MX.out.kept n id)
        replace hm0 := Nat.lt_of_lt_of_le hm0 n.size
        replace HLA0 := Lib.hid (HLA0.out.kept n nof)
        replace HLA1 := Lib.hid (HLA1.out.kept n nof)
        replace HLA2 := Lib.hid (HLA2.out.kept n nof)
        replace HB0 := Lib.hid (n.heap HB0.out id)
        replace HB1 := Lib.hid (n.heap HB1.out id)
        replace HB2 := Lib.hid (n.heap HB2.out id)
        replace HN := Lib.hid (n.heap HN.out id)
        replace HZ := Lib.hid (n.heap HZ.out id)
        replace SZ := Nat.lt_of_lt_of_le SZ n.size
        replace HA2 := Lib.hid (n.heap HA2.out id)
        replace SZHA2 := Nat.lt_of_lt_of_le SZHA2 n.size
        replace HA1 := Lib.hid (n.heap HA1.out id)
        replace SZHA1 := Nat.lt_of_lt_of_le SZHA1 n.size
        replace HA3 := Lib.hid (n.heap HA3.out id)
        replace SZHA3 := Nat.lt_of_lt_of_le SZHA3 n.size
        clear n
        refine ReadyU.last HOPS rfl (by rfl) (by kernel_rfl) (fun K hK => ?_) ReadyU.nil
        have o0 : w29.cell? ⟨w25.heap.size, 0, none⟩ = some (.string ⟨#[]⟩) := by rw [cell_of HA1.out]; rfl
        have o1 : w29.cell? ⟨w25.heap.size, 1, none⟩ = some (.string ⟨#[]⟩) := by rw [cell_of HA1.out]; rfl
        have o2 : w29.cell? ⟨w25.heap.size, 2, none⟩ = some (.string ⟨#[]⟩) := by rw [cell_of HA1.out]; rfl
        have o3 : w29.cell? ⟨w25.heap.size, 3, none⟩ = some (.string ⟨#[]⟩) := by rw [cell_of HA1.out]; rfl
        have p0 : w29.frozen? ⟨w25.heap.size, 0, none⟩ = false := frozen_of HA1.out
        have p1 : w29.frozen? ⟨w25.heap.size, 1, none⟩ = false := frozen_of HA1.out
        have p2 : w29.frozen? ⟨w25.heap.size, 2, none⟩ = false := frozen_of HA1.out
        have p3 : w29.frozen? ⟨w25.heap.size, 3, none⟩ = false := frozen_of HA1.out
        go_simp
        refine hK.out _ _ ?_
        clear hK K o0 p0 o1 p1 o2 p2 o3 p3
        try simp only [Act.put, List.getElem_toArray, List.getElem_cons_succ, List.getElem_cons_zero, List.setIfInBounds_toArray, List.set_cons_zero, List.set_cons_succ]
        refine wpU_named ?_
        intro W30 hW
        have c : Ch (· = w25.heap.size) w29 W30 := by rw [hW]; exact ((((Ch.refl (· = w25.heap.size) w29).setb (fun _ => rfl) _).setb (fun _ => rfl) _).setb (fun _ => rfl) _).setb (fun _ => rfl) _
        have nb := Lib.hid (show W30.heap[w25.heap.size]? = some (.cells #[.string (S 0), .string (S 1), .string (S 2), .string (S 3)] 27 (0, 0)) from by rw [hW]; exact heap_setCell_eq _ (heap_setCell_eq _ (heap_setCell_eq _ (heap_setCell_eq _ HA1.out))))
        clear hW
        replace NX := Lib.hid (NX.out.trans' c (fun j hj e => by have e' : j = w25.heap.size := e; omega))
        replace MX := Lib.hid (MX.out.kept c (by show ¬ (0 = w25.heap.size); omega))
        replace hm0 := Nat.lt_of_lt_of_le hm0 c.size
        replace HLA0 := Lib.hid (HLA0.out.kept c (fun j hj e => by have e' : j = w25.heap.size := e; omega))
        replace HLA1 := Lib.hid (HLA1.out.kept c (fun j hj e => by have e' : j = w25.heap.size := e; omega))
        replace HLA2 := Lib.hid (HLA2.out.kept c (fun j hj e => by have e' : j = w25.heap.size := e; omega))
        replace HB0 := Lib.hid (c.heap HB0.out (by show w.heap.size ≠ w25.heap.size; omega))
        replace HB1 := Lib.hid (c.heap HB1.out (by show w.heap.size + 1 ≠ w25.heap.size; omega))
        replace HB2 := Lib.hid (c.heap HB2.out (by show w.heap.size + 2 ≠ w25.heap.size; omega))
        replace HN := Lib.hid (c.heap HN.out (by show w.heap.size + 3 ≠ w25.heap.size; omega))
        replace HZ := Lib.hid (c.heap HZ.out (by show w.heap.size + 4 ≠ w25.heap.size; omega))
        replace SZ := Nat.lt_of_lt_of_le SZ c.size
        replace HA2 := Lib.hid (c.heap HA2.out (by show w5.heap.size ≠ w25.heap.size; omega))
        replace SZHA2 := Nat.lt_of_lt_of_le SZHA2 c.size
        replace HA1 := Lib.hid (nb.out)
        replace SZHA1 := Nat.lt_of_lt_of_le SZHA1 c.size
        replace HA3 := Lib.hid (c.heap HA3.out (by show w27.heap.size ≠ w25.heap.size; omega))
        replace SZHA3 := Nat.lt_of_lt_of_le SZHA3 c.size
        clear nb c
        refine wpU_ready (rs := [10]) (by kernel_rfl) (by simp) ?_
        intro wq hle
        rw [hle.behind (by kernel_rfl)]
        clear hle wq
        refine ReadyU.last HOPS rfl (by rfl) (by kernel_rfl) (fun K hK => ?_) ReadyU.nil
        have o0 : W30.cell? ⟨w5.heap.size, 0, none⟩ = some (.string ⟨#[]⟩) := by rw [cell_of HA2.out]; rfl
        have o1 : W30.cell? ⟨w5.heap.size, 1, none⟩ = some (.string ⟨#[]⟩) := by rw [cell_of HA2.out]; rfl
        have o2 : W30.cell? ⟨w5.heap.size, 2, none⟩ = some (.string ⟨#[]⟩) := by rw [cell_of HA2.out]; rfl
        have o3 : W30.cell? ⟨w5.heap.size, 3, none⟩ = some (.string ⟨#[]⟩) := by rw [cell_of HA2.out]; rfl
        have p0 : W30.frozen? ⟨w5.heap.size, 0, none⟩ = false := frozen_of HA2.out
        have p1 : W30.frozen? ⟨w5.heap.size, 1, none⟩ = false := frozen_of HA2.out
        have p2 : W30.frozen? ⟨w5.heap.size, 2, none⟩ = false := frozen_of HA2.out
        have p3 : W30.frozen? ⟨w5.heap.size, 3, none⟩ = false := frozen_of HA2.out
        go_simp
        refine hK.out _ _ ?_
        clear hK K o0 p0 o1 p1 o2 p2 o3 p3
        try simp only [Act.put, List.getElem_toArray, List.getElem_cons_succ, List.getElem_cons_zero, List.setIfInBounds_toArray, List.set_cons_zero, List.set_cons_succ]
        refine wpU_named ?_
        intro W31 hW
        have c : Ch (· = w5.heap.size) W30 W31 := by rw [hW]; exact ((((Ch.refl (· = w5.heap.size) W30).setb (fun _ => rfl) _).setb (fun _ => rfl) _).setb (fun _ => rfl) _).setb (fun _ => rfl) _
        have nb := Lib.hid (show W31.heap[w5.heap.size]? = some (.cells #[.string (T 0), .string (T 1), .string (T 2), .string (T 3)] 27 (0, 0)) from by rw [hW]; exact heap_setCell_eq _ (heap_setCell_eq _ (heap_setCell_eq _ (heap_setCell_eq _ HA2.out))))
        clear hW
        replace NX := Lib.hid (NX.out.trans' c (fun j hj e => by have e' : j = w5.heap.size := e; omega))
        replace MX := Lib.hid (MX.out.kept c (by show ¬ (0 = w5.heap.size); omega))
        replace hm0 := Nat.lt_of_lt_of_le hm0 c.size
        replace HLA0 := Lib.hid (HLA0.out.kept c (fun j hj e => by have e' : j = w5.heap.size := e; omega))
        replace HLA1 := Lib.hid (HLA1.out.kept c (fun j hj e => by have e' : j = w5.heap.size := e; omega))
        replace HLA2 := Lib.hid (HLA2.out.kept c (fun j hj e => by have e' : j = w5.heap.size := e; omega))
        replace HB0 := Lib.hid (c.heap HB0.out (by show w.heap.size ≠ w5.heap.size; omega))
        replace HB1 := Lib.hid (c.heap HB1.out (by show w.heap.size + 1 ≠ w5.heap.size; omega))
        replace HB2 := Lib.hid (c.heap HB2.out (by show w.heap.size + 2 ≠ w5.heap.size; omega))
        replace HN := Lib.hid (c.heap HN.out (by show w.heap.size + 3 ≠ w5.heap.size; omega))
        replace HZ := Lib.hid (c.heap HZ.out (by show w.heap.size + 4 ≠ w5.heap.size; omega))
        replace SZ := Nat.lt_of_lt_of_le SZ c.size
        replace HA2 := Lib.hid (nb.out)
        replace SZHA2 := Nat.lt_of_lt_of_le SZHA2 c.size
        replace HA1 := Lib.hid (c.heap HA1.out (by show w25.heap.size ≠ w5.heap.size; omega))
        replace SZHA1 := Nat.lt_of_lt_of_le SZHA1 c.size
        replace HA3 := Lib.hid (c.heap HA3.out (by show w27.heap.size ≠ w5.heap.size; omega))
        replace SZHA3 := Nat.lt_of_lt_of_le SZHA3 c.size
        clear nb c
        refine wpU_ready (rs := [11]) (by kernel_rfl) (by simp) ?_
        intro wq hle
        rw [hle.behind (by kernel_rfl)]
        clear hle wq
        refine ReadyU.last HOPS rfl (by rfl) (by kernel_rfl) (fun K hK => ?_) ReadyU.nil
        have o0 : W31.cell? ⟨w27.heap.size, 0, none⟩ = some (.string ⟨#[]⟩) := by rw [cell_of HA3.out]; rfl
        have o1 : W31.cell? ⟨w27.heap.size, 1, none⟩ = some (.string ⟨#[]⟩) := by rw [cell_of HA3.out]; rfl
        have o2 : W31.cell? ⟨w27.heap.size, 2, none⟩ = some (.string ⟨#[]⟩) := by rw [cell_of HA3.out]; rfl
        have o3 : W31.cell? ⟨w27.heap.size, 3, none⟩ = some (.string ⟨#[]⟩) := by rw [cell_of HA3.out]; rfl
        have p0 : W31.frozen? ⟨w27.heap.size, 0, none⟩ = false := frozen_of HA3.out
        have p1 : W31.frozen? ⟨w27.heap.size, 1, none⟩ = false := frozen_of HA3.out
        have p2 : W31.frozen? ⟨w27.heap.size, 2, none⟩ = false := frozen_of HA3.out
        have p3 : W31.frozen? ⟨w27.heap.size, 3, none⟩ = false := frozen_of HA3.out
        go_simp
        refine hK.out _ _ ?_
        clear hK K o0 p0 o1 p1 o2 p2 o3 p3
        try simp only [Act.put, List.getElem_toArray, List.getElem_cons_succ, List.getElem_cons_zero, List.setIfInBounds_toArray, List.set_cons_zero, List.set_cons_succ]
        refine wpU_named ?_
        intro W32 hW
        have c : Ch (· = w27.heap.size) W31 W32 := by rw [hW]; exact ((((Ch.refl (· = w27.heap.size) W31).setb (fun _ => rfl) _).setb (fun _ => rfl) _).setb (fun _ => rfl) _).setb (fun _ => rfl) _
        have nb := Lib.hid (show W32.heap[w27.heap.size]? = some (.cells #[.string (U 0), .string (U 1), .string (U 2), .string (U 3)] 27 (0, 0)) from by rw [hW]; exact heap_setCell_eq _ (heap_setCell_eq _ (heap_setCell_eq _ (heap_setCell_eq _ HA3.out))))
        clear hW
        replace NX := Lib.hid (NX.out.trans' c (fun j hj e => by have e' : j = w27.heap.size := e; omega))
        replace MX := Lib.hid (MX.out.kept c (by show ¬ (0 = w27.heap.size); omega))
        replace hm0 := Nat.lt_of_lt_of_le hm0 c.size
        replace HLA0 := Lib.hid (HLA0.out.kept c (fun j hj e => by have e' : j = w27.heap.size := e; omega))
        replace HLA1 := Lib.hid (HLA1.out.kept c (fun j hj e => by have e' : j = w27.heap.size := e; omega))
        replace HLA2 := Lib.hid (HLA2.out.kept c (fun j hj e => by have e' : j = w27.heap.size := e; omega))
        replace HB0 := Lib.hid (c.heap HB0.out (by show w.heap.size ≠ w27.heap.size; omega))
        replace HB1 := Lib.hid (c.heap HB1.out (by show w.heap.size + 1 ≠ w27.heap.size; omega))
        replace HB2 := Lib.hid (c.heap HB2.out (by show w.heap.size + 2 ≠ w27.heap.size; omega))
        replace HN := Lib.hid (c.heap HN.out (by show w.heap.size + 3 ≠ w27.heap.size; omega))
        replace HZ := Lib.hid (c.heap HZ.out (by show w.heap.size + 4 ≠ w27.heap.size; omega))
        replace SZ := Nat.lt_of_lt_of_le SZ c.size
        replace HA2 := Lib.hid (c.heap HA2.out (by show w5.heap.size ≠ w27.heap.size; omega))
        replace SZHA2 := Nat.lt_of_lt_of_le SZHA2 c.size
        replace HA1 := Lib.hid (c.heap HA1.out (by show w25.heap.size ≠ w27.heap.size; omega))
        replace SZHA1 := Nat.lt_of_lt_of_le SZHA1 c.size
        replace HA3 := Lib.hid (nb.out)
        replace SZHA3 := Nat.lt_of_lt_of_le SZHA3 c.size
        clear nb c
        refine wpU_done (by kernel_rfl) (fun w33 hle => ?_) _
        rw [hle.behind (by kernel_rfl)]
        clear HOPS HCL hle
        repeat clear hHeld
        go_wp2_with fail
        go_meet
        exact ⟨w25.heap.size, w5.heap.size, w27.heap.size, rfl, rfl, rfl, HA1, HA2, HA3, NX, MX, HN, HZ⟩
      · go_simp
        refine hK.out _ _ ((Ch.refl _ _).alloc _) ⟨cell_alloc_old _ (by rw [cell_of HB0.out]; rfl), cell_alloc_old _ (by rw [cell_of HB0.out]; rfl), cell_alloc_old _ (by rw [cell_of HB0.out]; rfl), cell_alloc_old _ (by rw [cell_of HB0.out]; rfl), cell_alloc_old _ (by rw [cell_of HB0.out]; rfl), cell_alloc_old _ (by rw [cell_of HB1.out]; rfl), cell_alloc_old _ (by rw [cell_of HB1.out]; rfl), cell_alloc_old _ (by rw [cell_of HB1.out]; rfl), cell_alloc_old _ (by rw [cell_of HB1.out]; rfl), cell_alloc_old _ (by rw [cell_of HB1.out]; rfl), cell_alloc_old _ (by rw [cell_of HB2.out]; rfl), cell_alloc_old _ (by rw [cell_of HB2.out]; rfl), cell_alloc_old _ (by rw [cell_of HB2.out]; rfl), cell_alloc_old _ (by rw [cell_of HB2.out]; rfl), cell_alloc_old _ (by rw [cell_of HB2.out]; rfl)⟩ (fun hHeld => ?_)
        clear hK K
        try simp only [Act.put, List.getElem_toArray, List.getElem_cons_succ, List.getElem_cons_zero, List.setIfInBounds_toArray, List.set_cons_zero, List.set_cons_succ]
        have hm0AHA3 := hm0
        have SZAHA3 := SZ
        have SZHA2AHA3 := SZHA2
        refine wpU_named ?_
        intro W34 hW
        try rw [← hW] at hHeld
        have n : Nw w25 W34 := by rw [hW]; exact (Ch.refl _ _).alloc _
        replace NX := Lib.hid (NX.out.trans n)
        replace MX := Lib.hid (MX.out.kept n id)
        replace hm0 := Nat.lt_of_lt_of_le hm0 n.size
        replace HLA0 := Lib.hid (HLA0.out.kept n nof)
        replace HLA1 := Lib.hid (HLA1.out.kept n nof)
        replace HLA2 := Lib.hid (HLA2.out.kept n nof)
        replace HB0 := Lib.hid (n.heap HB0.out id)
        replace HB1 := Lib.hid (n.heap HB1.out id)
        replace HB2 := Lib.hid (n.heap HB2.out id)
        replace HN := Lib.hid (n.heap HN.out id)
        replace HZ := Lib.hid (n.heap HZ.out id)
        replace SZ := Nat.lt_of_lt_of_le SZ n.size
        replace HA2 := Lib.hid (n.heap HA2.out id)
        replace SZHA2 := Nat.lt_of_lt_of_le SZHA2 n.size
        have HA3 := Lib.hid (show W34.heap[w25.heap.size]? = some (.cells #[.string ⟨#[]⟩, .string ⟨#[]⟩, .string ⟨#[]⟩, .string ⟨#[]⟩] 27 (0, 0)) from by rw [hW]; exact heap_alloc_eq _ rfl)
        have SZHA3 : w25.heap.size < W34.heap.size := lt_of_heap HA3.out
        clear hW n
        refine wpU_ready (rs := [6]) (by kernel_rfl) (by simp) ?_
        intro w35 hle
        obtain ⟨n, hHeld⟩ := hle.ahead (by kernel_rfl)
        clear hle
        replace NX := Lib.hid (NX.out.trans n)
        replace MX := Lib.hid (MX.out.kept n id)
        replace hm0 := Nat.lt_of_lt_of_le hm0 n.size
        replace HLA0 := Lib.hid (HLA0.out.kept n nof)
        replace HLA1 := Lib.hid (HLA1.out.kept n nof)
        replace HLA2 := Lib.hid (HLA2.out.kept n nof)
        replace HB0 := Lib.hid (n.heap HB0.out id)
        replace HB1 := Lib.hid (n.heap HB1.out id)
        replace HB2 := Lib.hid (n.heap HB2.out id)
        replace HN := Lib.hid (n.heap HN.out id)
        replace HZ := Lib.hid (n.heap HZ.out id)
        replace SZ := Nat.lt_of_lt_of_le SZ n.size
        replace HA2 := Lib.hid (n.heap HA2.out id)
        replace SZHA2 := Nat.lt_of_lt_of_le SZHA2 n.size
        replace HA3 := Lib.hid (n.heap HA3.out id)
        replace SZHA3 := Nat.lt_of_lt_of_le SZHA3 n.size
        clear n
        refine ReadyU.cons HOPS rfl (by rfl) (fun K hK => ?_) ReadyU.nil
        go_simp
        refine hK.out _ _ ((Ch.refl _ _).alloc _) ⟨cell_alloc_old _ (by rw [cell_of HB0.out]; rfl), cell_alloc_old _ (by rw [cell_of HB0.out]; rfl), cell_alloc_old _ (by rw [cell_of HB0.out]; rfl), cell_alloc_old _ (by rw [cell_of HB0.out]; rfl), cell_alloc_old _ (by rw [cell_of HB0.out]; rfl), cell_alloc_old _ (by rw [cell_of HB1.out]; rfl), cell_alloc_old _ (by rw [cell_of HB1.out]; rfl), cell_alloc_old _ (by rw [cell_of HB1.out]; rfl), cell_alloc_old _ (by rw [cell_of HB1.out]; rfl), cell_alloc_old _ (by rw [cell_of HB1.out]; rfl), cell_alloc_old _ (by rw [cell_of HB2.out]; rfl), cell_alloc_old _ (by rw [cell_of HB2.out]; rfl), cell_alloc_old _ (by rw [cell_of HB2.out]; rfl), cell_alloc_old _ (by rw [cell_of HB2.out]; rfl), cell_alloc_old _ (by rw [cell_of HB2.out]; rfl)⟩ (fun hHeld => ?_)
        clear hK K
        try simp only [Act.put, List.getElem_toArray, List.getElem_cons_succ, List.getElem_cons_zero, List.setIfInBounds_toArray, List.set_cons_zero, List.set_cons_succ]
        have hm0AHA1 := hm0
        have SZAHA1 := SZ
        have SZHA2AHA1 := SZHA2
        have SZHA3AHA1 := SZHA3
        refine wpU_named ?_
        intro W36 hW
        try rw [← hW] at hHeld
        have n : Nw w35 W36 := by rw [hW]; exact (Ch.refl _ _).alloc _
        replace NX := Lib.hid (NX.out.trans n)
        replace MX := Lib.hid (MX.out.kept n id)
        replace hm0 := Nat.lt_of_lt_of_le hm0 n.size
        replace HLA0 := Lib.hid (HLA0.out.kept n nof)
        replace HLA1 := Lib.hid (HLA1.out.kept n nof)
        replace HLA2 := Lib.hid (HLA2.out.kept n nof)
        replace HB0 := Lib.hid (n.heap HB0.out id)
        replace HB1 := Lib.hid (n.heap HB1.out id)
        replace HB2 := Lib.hid (n.heap HB2.out id)
        replace HN := Lib.hid (n.heap HN.out id)
        replace HZ := Lib.hid (n.heap HZ.out id)
        replace SZ := Nat.lt_of_lt_of_le SZ n.size
        replace HA2 := Lib.hid (n.heap HA2.out id)
        replace SZHA2 := Nat.lt_of_lt_of_le SZHA2 n.size
        replace HA3 := Lib.hid (n.heap HA3.out id)
        replace SZHA3 := Nat.lt_of_lt_of_le SZHA3 n.size
        have HA1 := Lib.hid (show W36.heap[w35.heap.size]? = some (.cells #[.string ⟨#[]⟩, .string ⟨#[]⟩, .string ⟨#[]⟩, .string ⟨#[]⟩] 27 (0, 0)) from by rw [hW]; exact heap_alloc_eq _ rfl)
        have SZHA1 : w35.heap.size < W36.heap.size := lt_of_heap HA1.out
        clear hW n
        refine wpU_ready (rs := [9]) (by kernel_rfl) (by simp) ?_
        intro w37 hle
        obtain ⟨n, hHeld⟩ := hle.ahead (by kernel_rfl)
        clear hle
        replace NX := Lib.hid (NX.out.trans n)
        replace MX := Lib.hid (MX.out.kept n id)
        replace hm0 := Nat.lt_of_lt_of_le hm0 n.size
        replace HLA0 := Lib.hid (HLA0.out.kept n nof)
        replace HLA1 := Lib.hid (HLA1.out.kept n nof)
        replace HLA2 := Lib.hid (HLA2.out.kept n nof)
        replace HB0 := Lib.hid (n.heap HB0.out id)
        replace HB1 := Lib.hid (n.heap HB1.out id)
        replace HB2 := Lib.hid (n.heap HB2.out id)
        replace HN := Lib.hid (n.heap HN.out id)
        replace HZ := Lib.hid (n.heap HZ.out id)
        replace SZ := Nat.lt_of_lt_of_le SZ n.size
        replace HA2 := Lib.hid (n.heap HA2.out id)
        replace SZHA2 := Nat.lt_of_lt_of_le SZHA2 n.size
        replace HA3 := Lib.hid (n.heap HA3.out id)
        replace SZHA3 := Nat.lt_of_lt_of_le SZHA3 n.size
        replace HA1 := Lib.hid (n.heap HA1.out id)
        replace SZHA1 := Nat.lt_of_lt_of_le SZHA1 n.size
        clear n
        refine ReadyU.last HOPS rfl (by rfl) (by kernel_rfl) (fun K hK => ?_) ReadyU.nil
        have o0 : w37.cell? ⟨w35.heap.size, 0, none⟩ = some (.string ⟨#[]⟩) := by rw [cell_of HA1.out]; rfl
        have o1 : w37.cell? ⟨w35.heap.size, 1, none⟩ = some (.string ⟨#[]⟩) := by rw [cell_of HA1.out]; rfl
        have o2 : w37.cell? ⟨w35.heap.size, 2, none⟩ = some (.string ⟨#[]⟩) := by rw [cell_of HA1.out]; rfl
        have o3 : w37.cell? ⟨w35.heap.size, 3, none⟩ = some (.string ⟨#[]⟩) := by rw [cell_of HA1.out]; rfl
        have p0 : w37.frozen? ⟨w35.heap.size, 0, none⟩ = false := frozen_of HA1.out
        have p1 : w37.frozen? ⟨w35.heap.size, 1, none⟩ = false := frozen_of HA1.out
        have p2 : w37.frozen? ⟨w35.heap.size, 2, none⟩ = false := frozen_of HA1.out
        have p3 : w37.frozen? ⟨w35.heap.size, 3, none⟩ = false := frozen_of HA1.out
        go_simp
        refine hK.out _ _ ?_
        clear hK K o0 p0 o1 p1 o2 p2 o3 p3
        try simp only [Act.put, List.getElem_toArray, List.getElem_cons_succ, List.getElem_cons_zero, List.setIfInBounds_toArray, List.set_cons_zero, List.set_cons_succ]
        refine wpU_named ?_
        intro W38 hW
        have c : Ch (· = w35.heap.size) w37 W38 := by rw [hW]; exact ((((Ch.refl (· = w35.heap.size) w37).setb (fun _ => rfl) _).setb (fun _ => rfl) _).setb (fun _ => rfl) _).setb (fun _ => rfl) _
        have nb := Lib.hid (show W38.heap[w35.heap.size]? = some (.cells #[.string (S 0), .string (S 1), .string (S 2), .string (S 3)] 27 (0, 0)) from by rw [hW]; exact heap_setCell_eq _ (heap_setCell_eq _ (heap_setCell_eq _ (heap_setCell_eq _ HA1.out))))
        clear hW
        replace NX := Lib.hid (NX.out.trans' c (fun j hj e => by have e' : j = w35.heap.size := e; omega))
        replace MX := Lib.hid (MX.out.kept c (by show ¬ (0 = w35.heap.size); omega))
        replace hm0 := Nat.lt_of_lt_of_le hm0 c.size
        replace HLA0 := Lib.hid (HLA0.out.kept c (fun j hj e => by have e' : j = w35.heap.size := e; omega))
        replace HLA1 := Lib.hid (HLA1.out.kept c (fun j hj e => by have e' : j = w35.heap.size := e; omega))
        replace HLA2 := Lib.hid (HLA2.out.kept c (fun j hj e => by have e' : j = w35.heap.size := e; omega))
        replace HB0 := Lib.hid (c.heap HB0.out (by show w.heap.size ≠ w35.heap.size; omega))
        replace HB1 := Lib.hid (c.heap HB1.out (by show w.heap.size + 1 ≠ w35.heap.size; omega))
        replace HB2 := Lib.hid (c.heap HB2.out (by show w.heap.size + 2 ≠ w35.heap.size; omega))
        replace HN := Lib.hid (c.heap HN.out (by show w.heap.size + 3 ≠ w35.heap.size; omega))
        replace HZ := Lib.hid (c.heap HZ.out (by show w.heap.size + 4 ≠ w35.heap.size; omega))
        replace SZ := Nat.lt_of_lt_of_le SZ c.size
        replace HA2 := Lib.hid (c.heap HA2.out (by show w5.heap.size ≠ w35.heap.size; omega))
        replace SZHA2 := Nat.lt_of_lt_of_le SZHA2 c.size
        replace HA3 := Lib.hid (c.heap HA3.out (by show w25.heap.size ≠ w35.heap.size; omega))
        replace SZHA3 := Nat.lt_of_lt_of_le SZHA3 c.size
        replace HA1 := Lib.hid (nb.out)
        replace SZHA1 := Nat.lt_of_lt_of_le SZHA1 c.size
        clear nb c
        refine wpU_ready (rs := [10]) (by kernel_rfl) (by simp) ?_
        intro wq hle
        rw [hle.behind (by kernel_rfl)]
        clear hle wq
        refine ReadyU.last HOPS rfl (by rfl) (by kernel_rfl) (fun K hK => ?_) ReadyU.nil
        have o0 : W38.cell? ⟨w5.heap.size, 0, none⟩ = some (.string ⟨#[]⟩) := by rw [cell_of HA2.out]; rfl
        have o1 : W38.cell? ⟨w5.heap.size, 1, none⟩ = some (.string ⟨#[]⟩) := by rw [cell_of HA2.out]; rfl
        have o2 : W38.cell? ⟨w5.heap.size, 2, none⟩ = some (.string ⟨#[]⟩) := by rw [cell_of HA2.out]; rfl
        have o3 : W38.cell? ⟨w5.heap.size, 3, none⟩ = some (.string ⟨#[]⟩) := by rw [cell_of HA2.out]; rfl
        have p0 : W38.frozen? ⟨w5.heap.size, 0, none⟩ = false := frozen_of HA2.out
        have p1 : W38.frozen? ⟨w5.heap.size, 1, none⟩ = false := frozen_of HA2.out
        have p2 : W38.frozen? ⟨w5.heap.size, 2, none⟩ = false := frozen_of HA2.out
        have p3 : W38.frozen? ⟨w5.heap.size, 3, none⟩ = false := frozen_of HA2.out
        go_simp
        refine hK.out _ _ ?_
        clear hK K o0 p0 o1 p1 o2 p2 o3 p3
        try simp only [Act.put, List.getElem_toArray, List.getElem_cons_succ, List.getElem_cons_zero, List.setIfInBounds_toArray, List.set_cons_zero, List.set_cons_succ]
        refine wpU_named ?_
        intro W39 hW
        have c : Ch (· = w5.heap.size) W38 W39 := by rw [hW]; exact ((((Ch.refl (· = w5.heap.size) W38).setb (fun _ => rfl) _).setb (fun _ => rfl) _).setb (fun _ => rfl) _).setb (fun _ => rfl) _
        have nb := Lib.hid (show W39.heap[w5.heap.size]? = some (.cells #[.string (T 0), .string (T 1), .string (T 2), .string (T 3)] 27 (0, 0)) from by rw [hW]; exact heap_setCell_eq _ (heap_setCell_eq _ (heap_setCell_eq _ (heap_setCell_eq _ HA2.out))))
        clear hW
        replace NX := Lib.hid (NX.out.trans' c (fun j hj e => by have e' : j = w5.heap.size := e; omega))
        replace MX := Lib.hid (MX.out.kept c (by show ¬ (0 = w5.heap.size); omega))
        replace hm0 := Nat.lt_of_lt_of_le hm0 c.size
        replace HLA0 := Lib.hid (HLA0.out.kept c (fun j hj e => by have e' : j = w5.heap.size := e; omega))
        replace HLA1 := Lib.hid (HLA1.out.kept c (fun j hj e => by have e' : j = w5.heap.size := e; omega))
        replace HLA2 := Lib.hid (HLA2.out.kept c (fun j hj e => by have e' : j = w5.heap.size := e; omega))
        replace HB0 := Lib.hid (c.heap HB0.out (by show w.heap.size ≠ w5.heap.size; omega))
        replace HB1 := Lib.hid (c.heap HB1.out (by show w.heap.size + 1 ≠ w5.heap.size; omega))
        replace HB2 := Lib.hid (c.heap HB2.out (by show w.heap.size + 2 ≠ w5.heap.size; omega))
        replace HN := Lib.hid (c.heap HN.out (by show w.heap.size + 3 ≠ w5.heap.size; omega))
        replace HZ := Lib.hid (c.heap HZ.out (by show w.heap.size + 4 ≠ w5.heap.size; omega))
        replace SZ := Nat.lt_of_lt_of_le SZ c.size
        replace HA2 := Lib.hid (nb.out)
        replace SZHA2 := Nat.lt_of_lt_of_le SZHA2 c.size
        replace HA3 := Lib.hid (c.heap HA3.out (by show w25.heap.size ≠ w5.heap.size; omega))
        replace SZHA3 := Nat.lt_of_lt_of_le SZHA3 c.size
        replace HA1 := Lib.hid (c.heap HA1.out (by show w35.heap.size ≠ w5.heap.size; omega))
        replace SZHA1 := Nat.lt_of_lt_of_le SZHA1 c.size
        clear nb c
        refine wpU_ready (rs := [11]) (by kernel_rfl) (by simp) ?_
        intro wq hle
        rw [hle.behind (by kernel_rfl)]
        clear hle wq
        refine ReadyU.last HOPS rfl (by rfl) (by kernel_rfl) (fun K hK => ?_) ReadyU.nil
        have o0 : W39.cell? ⟨w25.heap.size, 0, none⟩ = some (.string ⟨#[]⟩) := by rw [cell_of HA3.out]; rfl
        have o1 : W39.cell? ⟨w25.heap.size, 1, none⟩ = some (.string ⟨#[]⟩) := by rw [cell_of HA3.out]; rfl
        have o2 : W39.cell? ⟨w25.heap.size, 2, none⟩ = some (.string ⟨#[]⟩) := by rw [cell_of HA3.out]; rfl
        have o3 : W39.cell? ⟨w25.heap.size, 3, none⟩ = some (.string ⟨#[]⟩) := by rw [cell_of HA3.out]; rfl
        have p0 : W39.frozen? ⟨w25.heap.size, 0, none⟩ = false := frozen_of HA3.out
        have p1 : W39.frozen? ⟨w25.heap.size, 1, none⟩ = false := frozen_of HA3.out
        have p2 : W39.frozen? ⟨w25.heap.size, 2, none⟩ = false := frozen_of HA3.out
        have p3 : W39.frozen? ⟨w25.heap.size, 3, none⟩ = false := frozen_of HA3.out
        go_simp
        refine hK.out _ _ ?_
        clear hK K o0 p0 o1 p1 o2 p2 o3 p3
        try simp only [Act.put, List.getElem_toArray, List.getElem_cons_succ, List.getElem_cons_zero, List.setIfInBounds_toArray, List.set_cons_zero, List.set_cons_succ]
        refine wpU_named ?_
        intro W40 hW
        have c : Ch (· = w25.heap.size) W39 W40 := by rw [hW]; exact ((((Ch.refl (· = w25.heap.size) W39).setb (fun _ => rfl) _).setb (fun _ => rfl) _).setb (fun _ => rfl) _).setb (fun _ => rfl) _
        have nb := Lib.hid (show W40.heap[w25.heap.size]? = some (.cells #[.string (U 0), .string (U 1), .string (U 2), .string (U 3)] 27 (0, 0)) from by rw [hW]; exact heap_setCell_eq _ (heap_setCell_eq _ (heap_setCell_eq _ (heap_setCell_eq _ HA3.out))))
        clear hW
        replace NX := Lib.hid (NX.out.trans' c (fun j hj e => by have e' : j = w25.heap.size := e; omega))
        replace MX := Lib.hid (MX.out.kept c (by show ¬ (0 = w25.heap.size); omega))
        replace hm0 := Nat.lt_of_lt_of_le hm0 c.size
        replace HLA0 := Lib.hid (HLA0.out.kept c (fun j hj e => by have e' : j = w25.heap.size := e; omega))
        replace HLA1 := Lib.hid (HLA1.out.kept c (fun j hj e => by have e' : j = w25.heap.size := e; omega))
        replace HLA2 := Lib.hid (HLA2.out.kept c (fun j hj e => by have e' : j = w25.heap.size := e; omega))
        replace HB0 := Lib.hid (c.heap HB0.out (by show w.heap.size ≠ w25.heap.size; omega))
        replace HB1 := Lib.hid (c.heap HB1.out (by show w.heap.size + 1 ≠ w25.heap.size; omega))
        replace HB2 := Lib.hid (c.heap HB2.out (by show w.heap.size + 2 ≠ w25.heap.size; omega))
        replace HN := Lib.hid (c.heap HN.out (by show w.heap.size + 3 ≠ w25.heap.size; omega))
        replace HZ := Lib.hid (c.heap HZ.out (by show w.heap.size + 4 ≠ w25.heap.size; omega))
        replace SZ := Nat.lt_of_lt_of_le SZ c.size
        replace HA2 := Lib.hid (c.heap HA2.out (by show w5.heap.size ≠ w25.heap.size; omega))
        replace SZHA2 := Nat.lt_of_lt_of_le SZHA2 c.size
        replace HA3 := Lib.hid (nb.out)
        replace SZHA3 := Nat.lt_of_lt_of_le SZHA3 c.size
        replace HA1 := Lib.hid (c.heap HA1.out (by show w35.heap.size ≠ w25.heap.size; omega))
        replace SZHA1 := Nat.lt_of_lt_of_le SZHA1 c.size
        clear nb c
        refine wpU_done (by kernel_rfl) (fun w41 hle => ?_) _
        rw [hle.behind (by kernel_rfl)]
        clear HOPS HCL hle
        repeat clear hHeld
        go_wp2_with fail
        go_meet
        exact ⟨w35.heap.size, w5.heap.size, w25.heap.size, rfl, rfl, rfl, HA1, HA2, HA3, NX, MX, HN, HZ⟩
    · go_simp
      refine hK.out _ _ ((Ch.refl _ _).alloc _) ⟨cell_alloc_old _ (by rw [cell_of HB0.out]; rfl), cell_alloc_old _ (by rw [cell_of HB0.out]; rfl), cell_alloc_old _ (by rw [cell_of HB0.out]; rfl), cell_alloc_old _ (by rw [cell_of HB0.out]; rfl), cell_alloc_old _ (by rw [cell_of HB0.out]; rfl), cell_alloc_old _ (by rw [cell_of HB1.out]; rfl), cell_alloc_old _ (by rw [cell_of HB1.out]; rfl), cell_alloc_old _ (by rw [cell_of HB1.out]; rfl), cell_alloc_old _ (by rw [cell_of HB1.out]; rfl), cell_alloc_old _ (by rw [cell_of HB1.out]; rfl), cell_alloc_old _ (by rw [cell_of HB2.out]; rfl), cell_alloc_old _ (by rw [cell_of HB2.out]; rfl), cell_alloc_old _ (by rw [cell_of HB2.out]; rfl), cell_alloc_old _ (by rw [cell_of HB2.out]; rfl), cell_alloc_old _ (by rw [cell_of HB2.out]; rfl)⟩ (fun hHeld => ?_)
      clear hK K
      try simp only [Act.put, List.getElem_toArray, List.getElem_cons_succ, List.getElem_cons_zero, List.setIfInBounds_toArray, List.set_cons_zero, List.set_cons_succ]
      have hm0AHA3 := hm0
      have SZAHA3 := SZ
      refine wpU_named ?_
      intro W42 hW
      try rw [← hW] at hHeld
      have n : Nw w5 W42 := by rw [hW]; exact (Ch.refl _ _).alloc _
      replace NX := Lib.hid (NX.out.trans n)
      replace MX := Lib.hid (MX.out.kept n id)
      replace hm0 := Nat.lt_of_lt_of_le hm0 n.size
      replace HLA0 := Lib.hid (HLA0.out.kept n nof)
      replace HLA1 := Lib.hid (HLA1.out.kept n nof)
      replace HLA2 := Lib.hid (HLA2.out.kept n nof)
      replace HB0 := Lib.hid (n.heap HB0.out id)
      replace HB1 := Lib.hid (n.heap HB1.out id)
      replace HB2 := Lib.hid (n.heap HB2.out id)
      replace HN := Lib.hid (n.heap HN.out id)
      replace HZ := Lib.hid (n.heap HZ.out id)
      replace SZ := Nat.lt_of_lt_of_le SZ n.size
      have HA3 := Lib.hid (show W42.heap[w5.heap.size]? = some (.cells #[.string ⟨#[]⟩, .string ⟨#[]⟩, .string ⟨#[]⟩, .string ⟨#[]⟩] 27 (0, 0)) from by rw [hW]; exact heap_alloc_eq _ rfl)
      have SZHA3 : w5.heap.size < W42.heap.size := lt_of_heap HA3.out
      clear hW n
      refine wpU_ready (rs := [6, 7]) (by kernel_rfl) (by simp) ?_
      intro w43 hle
      obtain ⟨n, hHeld⟩ := hle.ahead (by kernel_rfl)
      clear hle
      replace NX := Lib.hid (NX.out.trans n)
      replace MX := Lib.hid (MX.out.kept n id)
      replace hm0 := Nat.lt_of_lt_of_le hm0 n.size
      replace HLA0 := Lib.hid (HLA0.out.kept n nof)
      replace HLA1 := Lib.hid (HLA1.out.kept n nof)
      replace HLA2 := Lib.hid (HLA2.out.kept n nof)
      replace HB0 := Lib.hid (n.heap HB0.out id)
      replace HB1 := Lib.hid (n.heap HB1.out id)
      replace HB2 := Lib.hid (n.heap HB2.out id)
      replace HN := Lib.hid (n.heap HN.out id)
      replace HZ := Lib.hid (n.heap HZ.out id)
      replace SZ := Nat.lt_of_lt_of_le SZ n.size
      replace HA3 := Lib.hid (n.heap HA3.out id)
      replace SZHA3 := Nat.lt_of_lt_of_le SZHA3 n.size
      clear n
      refine ReadyU.cons HOPS rfl (by rfl) (fun K hK => ?_) (ReadyU.cons HOPS rfl (by rfl) (fun K hK => ?_) ReadyU.nil)
      · go_simp
        refine hK.out _ _ ((Ch.refl _ _).alloc _) ⟨cell_alloc_old _ (by rw [cell_of HB0.out]; rfl), cell_alloc_old _ (by rw [cell_of HB0.out]; rfl), cell_alloc_old _ (by rw [cell_of HB0.out]; rfl), cell_alloc_old _ (by rw [cell_of HB0.out]; rfl), cell_alloc_old _ (by rw [cell_of HB0.out]; rfl), cell_alloc_old _ (by rw [cell_of HB1.out]; rfl), cell_alloc_old _ (by rw [cell_of HB1.out]; rfl), cell_alloc_old _ (by rw [cell_of HB1.out]; rfl), cell_alloc_old _ (by rw [cell_of HB1.out]; rfl), cell_alloc_old _ (by rw [cell_of HB1.out]; rfl), cell_alloc_old _ (by rw [cell_of HB2.out]; rfl), cell_alloc_old _ (by rw [cell_of HB2.out]; rfl), cell_alloc_old _ (by rw [cell_of HB2.out]; rfl), cell_alloc_old _ (by rw [cell_of HB2.out]; rfl), cell_alloc_old _ (by rw [cell_of HB2.out]; rfl)⟩ (fun hHeld => ?_)
        clear hK K
        try simp only [Act.put, List.getElem_toArray, List.getElem_cons_succ, List.getElem_cons_zero, List.setIfInBounds_toArray, List.set_cons_zero, List.set_cons_succ]
        have hm0AHA1 := hm0
        have SZAHA1 := SZ
        have SZHA3AHA1 := SZHA3
        refine wpU_named ?_
        intro W44 hW
        try rw [← hW] at hHeld
        have n : Nw w43 W44 := by rw [hW]; exact (Ch.refl _ _).alloc _
        replace NX := Lib.hid (NX.out.trans n)
        replace MX := Lib.hid (MX.out.kept n id)
        replace hm0 := Nat.lt_of_lt_of_le hm0 n.size
        replace HLA0 := Lib.hid (HLA0.out.kept n nof)
        replace HLA1 := Lib.hid (HLA1.out.kept n nof)
        replace HLA2 := Lib.hid (HLA2.out.kept n nof)
        replace HB0 := Lib.hid (n.heap HB0.out id)
        replace HB1 := Lib.hid (n.heap HB1.out id)
        replace HB2 := Lib.hid (n.heap HB2.out id)
        replace HN := Lib.hid (n.heap HN.out id)
        replace HZ := Lib.hid (n.heap HZ.out id)
        replace SZ := Nat.lt_of_lt_of_le SZ n.size
        replace HA3 := Lib.hid (n.heap HA3.out id)
        replace SZHA3 := Nat.lt_of_lt_of_le SZHA3 n.size
        have HA1 := Lib.hid (show W44.heap[w43.heap.size]? = some (.cells #[.string ⟨#[]⟩, .string ⟨#[]⟩, .string ⟨#[]⟩, .string ⟨#[]⟩] 27 (0, 0)) from by rw [hW]; exact heap_alloc_eq _ rfl)
        have SZHA1 : w43.heap.size < W44.heap.size := lt_of_heap HA1.out
        clear hW n
        refine wpU_ready (rs := [7]) (by kernel_rfl) (by simp) ?_
        intro w45 hle
        obtain ⟨n, hHeld⟩ := hle.ahead (by kernel_rfl)
        clear hle
        replace NX := Lib.hid (NX.out.trans n)
        replace MX := Lib.hid (MX.out.kept n id)
        replace hm0 := Nat.lt_of_lt_of_le hm0 n.size
        replace HLA0 := Lib.hid (HLA0.out.kept n nof)
        replace HLA1 := Lib.hid (HLA1.out.kept n nof)
        replace HLA2 := Lib.hid (HLA2.out.kept n nof)
        replace HB0 := Lib.hid (n.heap HB0.out id)
        replace HB1 := Lib.hid (n.heap HB1.out id)
        replace HB2 := Lib.hid (n.heap HB2.out id)
        replace HN := Lib.hid (n.heap HN.out id)
        replace HZ := Lib.hid (n.heap HZ.out id)
        replace SZ := Nat.lt_of_lt_of_le SZ n.size
        replace HA3 := Lib.hid (n.heap HA3.out id)
        replace SZHA3 := Nat.lt_of_lt_of_le SZHA3 n.size
        replace HA1 := Lib.hid (n.heap HA1.out id)
        replace SZHA1 := Nat.lt_of_lt_of_le SZHA1 n.size
        clear n
        refine ReadyU.cons HOPS rfl (by rfl) (fun K hK => ?_) ReadyU.nil
        go_simp
        refine hK.out _ _ ((Ch.refl _ _).alloc _) ⟨cell_alloc_old _ (by rw [cell_of HB0.out]; rfl), cell_alloc_old _ (by rw [cell_of HB0.out]; rfl), cell_alloc_old _ (by rw [cell_of HB0.out]; rfl), cell_alloc_old _ (by rw [cell_of HB0.out]; rfl), cell_alloc_old _ (by rw [cell_of HB0.out]; rfl), cell_alloc_old _ (by rw [cell_of HB1.out]; rfl), cell_alloc_old _ (by rw [cell_of HB1.out]; rfl), cell_alloc_old _ (by rw [cell_of HB1.out]; rfl), cell_alloc_old _ (by rw [cell_of HB1.out]; rfl), cell_alloc_old _ (by rw [cell_of HB1.out]; rfl), cell_alloc_old _ (by rw [cell_of HB2.out]; rfl), cell_alloc_old _ (by rw [cell_of HB2.out]; rfl), cell_alloc_old _ (by rw [cell_of HB2.out]; rfl), cell_alloc_old _ (by rw [cell_of HB2.out]; rfl), cell_alloc_old _ (by rw [cell_of HB2.out]; rfl)⟩ (fun hHeld => ?_)
        clear hK K
        try simp only [Act.put, List.getElem_toArray, List.getElem_cons_succ, List.getElem_cons_zero, List.setIfInBounds_toArray, List.set_cons_zero, List.set_cons_succ]
        have hm0AHA2 := hm0
        have SZAHA2 := SZ
        have SZHA3AHA2 := SZHA3
        have SZHA1AHA2 := SZHA1
        refine wpU_named ?_
        intro W46 hW
        try rw [← hW] at hHeld
        have n : Nw w45 W46 := by rw [hW]; exact (Ch.refl _ _).alloc _
        replace NX := Lib.hid (NX.out.trans n)
        replace MX := Lib.hid (MX.out.kept n id)
        replace hm0 := Nat.lt_of_lt_of_le hm0 n.size
        replace HLA0 := Lib.hid (HLA0.out.kept n nof)
        replace HLA1 := Lib.hid (HLA1.out.kept n nof)
        replace HLA2 := Lib.hid (HLA2.out.kept n nof)
        replace HB0 := Lib.hid (n.heap HB0.out id)
        replace HB1 := Lib.hid (n.heap HB1.out id)
        replace HB2 := Lib.hid (n.heap HB2.out id)
        replace HN := Lib.hid (n.heap HN.out id)
        replace HZ := Lib.hid (n.heap HZ.out id)
        replace SZ := Nat.lt_of_lt_of_le SZ n.size
        replace HA3 := Lib.hid (n.heap HA3.out id)
        replace SZHA3 := Nat.lt_of_lt_of_le SZHA3 n.size
        replace HA1 := Lib.hid (n.heap HA1.out id)
        replace SZHA1 := Nat.lt_of_lt_of_le SZHA1 n.size
        have HA2 := Lib.hid (show W46.heap[w45.heap.size]? = some (.cells #[.string ⟨#[]⟩, .string ⟨#[]⟩, .string ⟨#[]⟩, .string ⟨#[]⟩] 27 (0, 0)) from by rw [hW]; exact heap_alloc_eq _ rfl)
        have SZHA2 : w45.heap.size < W46.heap.size := lt_of_heap HA2.out
        clear hW n
        refine wpU_ready (rs := [9]) (by kernel_rfl) (by simp) ?_
        intro w47 hle
        obtain ⟨n, hHeld⟩ := hle.ahead (by kernel_rfl)
        clear hle
        replace NX := Lib.hid (NX.out.trans n)
        replace MX := Lib.hid (MX.out.kept n id)
        replace hm0 := Nat.lt_of_lt_of_le hm0 n.size
        replace HLA0 := Lib.hid (HLA0.out.kept n nof)
        replace HLA1 := Lib.hid (HLA1.out.kept n nof)
        replace HLA2 := Lib.hid (HLA2.out.kept n nof)
        replace HB0 := Lib.hid (n.heap HB0.out id)
        replace HB1 := Lib.hid (n.heap HB1.out id)
        replace HB2 := Lib.hid (n.heap HB2.out id)
        replace HN := Lib.hid (n.heap HN.out id)
        replace HZ := Lib.hid (n.heap HZ.out id)
        replace SZ := Nat.lt_of_lt_of_le SZ n.size
        replace HA3 := Lib.hid (n.heap HA3.out id)
        replace SZHA3 := Nat.lt_of_lt_of_le SZHA3 n.size
        replace HA1 := Lib.hid (n.heap HA1.out id)
        replace SZHA1 := Nat.lt_of_lt_of_le SZHA1 n.size
        replace HA2 := Lib.hid (n.heap HA2.out id)
        replace SZHA2 := Nat.lt_of_lt_of_le SZHA2 n.size
        clear n
        refine ReadyU.last HOPS rfl (by rfl) (by kernel_rfl) (fun K hK => ?_) ReadyU.nil
        have o0 : w47.cell? ⟨w43.heap.size, 0, none⟩ = some (.string ⟨#[]⟩) := by rw [cell_of HA1.out]; rfl
        have o1 : w47.cell? ⟨w43.heap.size, 1, none⟩ = some (.string ⟨#[]⟩) := by rw [cell_of HA1.out]; rfl
        have o2 : w47.cell? ⟨w43.heap.size, 2, none⟩ = some (.string ⟨#[]⟩) := by rw [cell_of HA1.out]; rfl
        have o3 : w47.cell? ⟨w43.heap.size, 3, none⟩ = some (.string ⟨#[]⟩) := by rw [cell_of HA1.out]; rfl
        have p0 : w47.frozen? ⟨w43.heap.size, 0, none⟩ = false := frozen_of HA1.out
        have p1 : w47.frozen? ⟨w43.heap.size, 1, none⟩ = false := frozen_of HA1.out
        have p2 : w47.frozen? ⟨w43.heap.size, 2, none⟩ = false := frozen_of HA1.out
        have p3 : w47.frozen? ⟨w43.heap.size, 3, none⟩ = false := frozen_of HA1.out
        go_simp
        refine hK.out _ _ ?_
        clear hK K o0 p0 o1 p1 o2 p2 o3 p3
        try simp only [Act.put, List.getElem_toArray, List.getElem_cons_succ, List.getElem_cons_zero, List.setIfInBounds_toArray, List.set_cons_zero, List.set_cons_succ]
        refine wpU_named ?_
        intro W48 hW
        have c : Ch (· = w43.heap.size) w47 W48 := by rw [hW]; exact ((((Ch.refl (· = w43.heap.size) w47).setb (fun _ => rfl) _).setb (fun _ => rfl) _).setb (fun _ => rfl) _).setb (fun _ => rfl) _
        have nb := Lib.hid (show W48.heap[w43.heap.size]? = some (.cells #[.string (S 0), .string (S 1), .string (S 2), .string (S 3)] 27 (0, 0)) from by rw [hW]; exact heap_setCell_eq _ (heap_setCell_eq _ (heap_setCell_eq _ (heap_setCell_eq _ HA1.out))))
        clear hW
        replace NX := Lib.hid (NX.out.trans' c (fun j hj e => by have e' : j = w43.heap.size := e; omega))
        replace MX := Lib.hid (MX.out.kept c (by show ¬ (0 = w43.heap.size); omega))
        replace hm0 := Nat.lt_of_lt_of_le hm0 c.size
        replace HLA0 := Lib.hid (HLA0.out.kept c (fun j hj e => by have e' : j = w43.heap.size := e; omega))
        replace HLA1 := Lib.hid (HLA1.out.kept c (fun j hj e => by have e' : j = w43.heap.size := e; omega))
        replace HLA2 := Lib.hid (HLA2.out.kept c (fun j hj e => by have e' : j = w43.heap.size := e; omega))
        replace HB0 := Lib.hid (c.heap HB0.out (by show w.heap.size ≠ w43.heap.size; omega))
        replace HB1 := Lib.hid (c.heap HB1.out (by show w.heap.size + 1 ≠ w43.heap.size; omega))
        replace HB2 := Lib.hid (c.heap HB2.out (by show w.heap.size + 2 ≠ w43.heap.size; omega))
        replace HN := Lib.hid (c.heap HN.out (by show w.heap.size + 3 ≠ w43.heap.size; omega))
        replace HZ := Lib.hid (c.heap HZ.out (by show w.heap.size + 4 ≠ w43.heap.size; omega))
        replace SZ := Nat.lt_of_lt_of_le SZ c.size
        replace HA3 := Lib.hid (c.heap HA3.out (by show w5.heap.size ≠ w43.heap.size; omega))
        replace SZHA3 := Nat.lt_of_lt_of_le SZHA3 c.size
        replace HA1 := Lib.hid (nb.out)
        replace SZHA1 := Nat.lt_of_lt_of_le SZHA1 c.size
        replace HA2 := Lib.hid (c.heap HA2.out (by show w45.heap.size ≠ w43.heap.size; omega))
        replace SZHA2 := Nat.lt_of_lt_of_le SZHA2 c.size
        clear nb c
        refine wpU_ready (rs := [10]) (by kernel_rfl) (by simp) ?_
        intro wq hle
        rw [hle.behind (by kernel_rfl)]
        clear hle wq
        refine ReadyU.last HOPS rfl (by rfl) (by kernel_rfl) (fun K hK => ?_) ReadyU.nil
        have o0 : W48.cell? ⟨w45.heap.size, 0, none⟩ = some (.string ⟨#[]⟩) := by rw [cell_of HA2.out]; rfl
        have o1 : W48.cell? ⟨w45.heap.size, 1, none⟩ = some (.string ⟨#[]⟩) := by rw [cell_of HA2.out]; rfl
        have o2 : W48.cell? ⟨w45.heap.size, 2, none⟩ = some (.string ⟨#[]⟩) := by rw [cell_of HA2.out]; rfl
        have o3 : W48.cell? ⟨w45.heap.size, 3, none⟩ = some (.string ⟨#[]⟩) := by rw [cell_of HA2.out]; rfl
        have p0 : W48.frozen? ⟨w45.heap.size, 0, none⟩ = false := frozen_of HA2.out
        have p1 : W48.frozen? ⟨w45.heap.size, 1, none⟩ = false := frozen_of HA2.out
        have p2 : W48.frozen? ⟨w45.heap.size, 2, none⟩ = false := frozen_of HA2.out
        have p3 : W48.frozen? ⟨w45.heap.size, 3, none⟩ = false := frozen_of HA2.out
        go_simp
        refine hK.out _ _ ?_
        clear hK K o0 p0 o1 p1 o2 p2 o3 p3
        try simp only [Act.put, List.getElem_toArray, List.getElem_cons_succ, List.getElem_cons_zero, List.setIfInBounds_toArray, List.set_cons_zero, List.set_cons_succ]
        refine wpU_named ?_
        intro W49 hW
        have c : Ch (· = w45.heap.size) W48 W49 := by rw [hW]; exact ((((Ch.refl (· = w45.heap.size) W48).setb (fun _ => rfl) _).setb (fun _ => rfl) _).setb (fun _ => rfl) _).setb (fun _ => rfl) _
        have nb := Lib.hid (show W49.heap[w45.heap.size]? = some (.cells #[.string (T 0), .string (T 1), .string (T 2), .string (T 3)] 27 (0, 0)) from by rw [hW]; exact heap_setCell_eq _ (heap_setCell_eq _ (heap_setCell_eq _ (heap_setCell_eq _ HA2.out))))
        clear hW
        replace NX := Lib.hid (NX.out.trans' c (fun j hj e => by have e' : j = w45.heap.size := e; omega))
        replace MX := Lib.hid (MX.out.kept c (by show ¬ (0 = w45.heap.size); omega))
        replace hm0 := Nat.lt_of_lt_of_le hm0 c.size
        replace HLA0 := Lib.hid (HLA0.out.kept c (fun j hj e => by have e' : j = w45.heap.size := e; omega))
        replace HLA1 := Lib.hid (HLA1.out.kept c (fun j hj e => by have e' : j = w45.heap.size := e; omega))
        replace HLA2 := Lib.hid (HLA2.out.kept c (fun j hj e => by have e' : j = w45.heap.size := e; omega))
        replace HB0 := Lib.hid (c.heap HB0.out (by show w.heap.size ≠ w45.heap.size; omega))
        replace HB1 := Lib.hid (c.heap HB1.out (by show w.heap.size + 1 ≠ w45.heap.size; omega))
        replace HB2 := Lib.hid (c.heap HB2.out (by show w.heap.size + 2 ≠ w45.heap.size; omega))
        replace HN := Lib.hid (c.heap HN.out (by show w.heap.size + 3 ≠ w45.heap.size; omega))
        replace HZ := Lib.hid (c.heap HZ.out (by show w.heap.size + 4 ≠ w45.heap.size; omega))
        replace SZ := Nat.lt_of_lt_of_le SZ c.size
        replace HA3 := Lib.hid (c.heap HA3.out (by show w5.heap.size ≠ w45.heap.size; omega))
        replace SZHA3 := Nat.lt_of_lt_of_le SZHA3 c.size
        replace HA1 := Lib.hid (c.heap HA1.out (by show w43.heap.size ≠ w45.heap.size; omega))
        replace SZHA1 := Nat.lt_of_lt_of_le SZHA1 c.size
        replace HA2 := Lib.hid (nb.out)
        replace SZHA2 := Nat.lt_of_lt_of_le SZHA2 c.size
        clear nb c
        refine wpU_ready (rs := [11]) (by kernel_rfl) (by simp) ?_
        intro wq hle
        rw [hle.behind (by kernel_rfl)]
        clear hle wq
        refine ReadyU.last HOPS rfl (by rfl) (by kernel_rfl) (fun K hK => ?_) ReadyU.nil
        have o0 : W49.cell? ⟨w5.heap.size, 0, none⟩ = some (.string ⟨#[]⟩) := by rw [cell_of HA3.out]; rfl
        have o1 : W49.cell? ⟨w5.heap.size, 1, none⟩ = some (.string ⟨#[]⟩) := by rw [cell_of HA3.out]; rfl
        have o2 : W49.cell? ⟨w5.heap.size, 2, none⟩ = some (.string ⟨#[]⟩) := by rw [cell_of HA3.out]; rfl
        have o3 : W49.cell? ⟨w5.heap.size, 3, none⟩ = some (.string ⟨#[]⟩) := by rw [cell_of HA3.out]; rfl
        have p0 : W49.frozen? ⟨w5.heap.size, 0, none⟩ = false := frozen_of HA3.out
        have p1 : W49.frozen? ⟨w5.heap.size, 1, none⟩ = false := frozen_of HA3.out
        have p2 : W49.frozen? ⟨w5.heap.size, 2, none⟩ = false := frozen_of HA3.out
        have p3 : W49.frozen? ⟨w5.heap.size, 3, none⟩ = false := frozen_of HA3.out
        go_simp
        refine hK.out _ _ ?_
        clear hK K o0 p0 o1 p1 o2 p2 o3 p3
        try simp only [Act.put, List.getElem_toArray, List.getElem_cons_succ, List.getElem_cons_zero, List.setIfInBounds_toArray, List.set_cons_zero, List.set_cons_succ]
        refine wpU_named ?_
        intro W50 hW
        have c : Ch (· = w5.heap.size) W49 W50 := by rw [hW]; exact ((((Ch.refl (· = w5.heap.size) W49).setb (fun _ => rfl) _).setb (fun _ => rfl) _).setb (fun _ => rfl) _).setb (fun _ => rfl) _
        have nb := Lib.hid (show W50.heap[w5.heap.size]? = some (.cells #[.string (U 0), .string (U 1), .string (U 2), .string (U 3)] 27 (0, 0)) from by rw [hW]; exact heap_setCell_eq _ (heap_setCell_eq _ (heap_setCell_eq _ (heap_setCell_eq _ HA3.out))))
        clear hW
        replace NX := Lib.hid (NX.out.trans' c (fun j hj e => by have e' : j = w5.heap.size := e; omega))
        replace MX := Lib.hid (MX.out.kept c (by show ¬ (0 = w5.heap.size); omega))
        replace hm0 := Nat.lt_of_lt_of_le hm0 c.size
        replace HLA0 := Lib.hid (HLA0.out.kept c (fun j hj e => by have e' : j = w5.heap.size := e; omega))
        replace HLA1 := Lib.hid (HLA1.out.kept c (fun j hj e => by have e' : j = w5.heap.size := e; omega))
        replace HLA2 := Lib.hid (HLA2.out.kept c (fun j hj e => by have e' : j = w5.heap.size := e; omega))
        replace HB0 := Lib.hid (c.heap HB0.out (by show w.heap.size ≠ w5.heap.size; omega))
        replace HB1 := Lib.hid (c.heap HB1.out (by show w.heap.size + 1 ≠ w5.heap.size; omega))
        replace HB2 := Lib.hid (c.heap HB2.out (by show w.heap.size + 2 ≠ w5.heap.size; omega))
        replace HN := Lib.hid (c.heap HN.out (by show w.heap.size + 3 ≠ w5.heap.size; omega))
        replace HZ := Lib.hid (c.heap HZ.out (by show w.heap.size + 4 ≠ w5.heap.size; omega))
        replace SZ := Nat.lt_of_lt_of_le SZ c.size
        replace HA3 := Lib.hid (nb.out)
        replace SZHA3 := Nat.lt_of_lt_of_le SZHA3 c.size
        replace HA1 := Lib.hid (c.heap HA1.out (by show w43.heap.size ≠ w5.heap.size; omega))
        replace SZHA1 := Nat.lt_of_lt_of_le SZHA1 c.size
        replace HA2 := Lib.hid (c.heap HA2.out (by show w45.heap.size ≠ w5.heap.size; omega))
        replace SZHA2 := Nat.lt_of_lt_of_le SZHA2 c.size
        clear nb c
        refine wpU_done (by kernel_rfl) (fun w51 hle => ?_) _
        rw [hle.behind (by kernel_rfl)]
        clear HOPS HCL hle
        repeat clear hHeld
        go_wp2_with fail
        go_meet
        exact ⟨w43.heap.size, w45.heap.size, w5.heap.size, rfl, rfl, rfl, HA1, HA2, HA3, NX, MX, HN, HZ⟩
      · go_simp
        refine hK.out _ _ ((Ch.refl _ _).alloc _) ⟨cell_alloc_old _ (by rw [cell_of HB0.out]; rfl), cell_alloc_old _ (by rw [cell_of HB0.out]; rfl), cell_alloc_old _ (by rw [cell_of HB0.out]; rfl), cell_alloc_old _ (by rw [cell_of HB0.out]; rfl), cell_alloc_old _ (by rw [cell_of HB0.out]; rfl), cell_alloc_old _ (by rw [cell_of HB1.out]; rfl), cell_alloc_old _ (by rw [cell_of HB1.out]; rfl), cell_alloc_old _ (by rw [cell_of HB1.out]; rfl), cell_alloc_old _ (by rw [cell_of HB1.out]; rfl), cell_alloc_old _ (by rw [cell_of HB1.out]; rfl), cell_alloc_old _ (by rw [cell_of HB2.out]; rfl), cell_alloc_old _ (by rw [cell_of HB2.out]; rfl), cell_alloc_old _ (by rw [cell_of HB2.out]; rfl), cell_alloc_old _ (by rw [cell_of HB2.out]; rfl), cell_alloc_old _ (by rw [cell_of HB2.out]; rfl)⟩ (fun hHeld => ?_)
        clear hK K
        try simp only [Act.put, List.getElem_toArray, List.getElem_cons_succ, List.getElem_cons_zero, List.setIfInBounds_toArray, List.set_cons_zero, List.set_cons_succ]
        have hm0AHA2 := hm0
        have SZAHA2 := SZ
        have SZHA3AHA2 := SZHA3
        refine wpU_named ?_
        intro W52 hW
        try rw [← hW] at hHeld
        have n : Nw w43 W52 := by rw [hW]; exact (Ch.refl _ _).alloc _
        replace NX := Lib.hid (NX.out.trans n)
        replace MX := Lib.hid (MX.out.kept n id)
        replace hm0 := Nat.lt_of_lt_of_le hm0 n.size
        replace HLA0 := Lib.hid (HLA0.out.kept n nof)
        replace HLA1 := Lib.hid (HLA1.out.kept n nof)
        replace HLA2 := Lib.hid (HLA2.out.kept n nof)
        replace HB0 := Lib.hid (n.heap HB0.out id)
        replace HB1 := Lib.hid (n.heap HB1.out id)
        replace HB2 := Lib.hid (n.heap HB2.out id)
        replace HN := Lib.hid (n.heap HN.out id)
        replace HZ := Lib.hid (n.heap HZ.out id)
        replace SZ := Nat.lt_of_lt_of_le SZ n.size
        replace HA3 := Lib.hid (n.heap HA3.out id)
        replace SZHA3 := Nat.lt_of_lt_of_le SZHA3 n.size
        have HA2 := Lib.hid (show W52.heap[w43.heap.size]? = some (.cells #[.string ⟨#[]⟩, .string ⟨#[]⟩, .string ⟨#[]⟩, .string ⟨#[]⟩] 27 (0, 0)) from by rw [hW]; exact heap_alloc_eq _ rfl)
        have SZHA2 : w43.heap.size < W52.heap.size := lt_of_heap HA2.out
        clear hW n
        refine wpU_ready (rs := [6]) (by kernel_rfl) (by simp) ?_
        intro w53 hle
        obtain ⟨n, hHeld⟩ := hle.ahead (by kernel_rfl)
        clear hle
        replace NX := Lib.hid (NX.out.trans n)
        replace MX := Lib.hid (MX.out.kept n id)
        replace hm0 := Nat.lt_of_lt_of_le hm0 n.size
        replace HLA0 := Lib.hid (HLA0.out.kept n nof)
        replace HLA1 := Lib.hid (HLA1.out.kept n nof)
        replace HLA2 := Lib.hid (HLA2.out.kept n nof)
        replace HB0 := Lib.hid (n.heap HB0.out id)
        replace HB1 := Lib.hid (n.heap HB1.out id)
        replace HB2 := Lib.hid (n.heap HB2.out id)
        replace HN := Lib.hid (n.heap HN.out id)
        replace HZ := Lib.hid (n.heap HZ.out id)
        replace SZ := Nat.lt_of_lt_of_le SZ n.size
        replace HA3 := Lib.hid (n.heap HA3.out id)
        replace SZHA3 := Nat.lt_of_lt_of_le SZHA3 n.size
        replace HA2 := Lib.hid (n.heap HA2.out id)
        replace SZHA2 := Nat.lt_of_lt_of_le SZHA2 n.size
        clear n
        refine ReadyU.cons HOPS rfl (by rfl) (fun K hK => ?_) ReadyU.nil
        go_simp
        refine hK.out _ _ ((Ch.refl _ _).alloc _) ⟨cell_alloc_old _ (by rw [cell_of HB0.out]; rfl), cell_alloc_old _ (by rw [cell_of HB0.out]; rfl), cell_alloc_old _ (by rw [cell_of HB0.out]; rfl), cell_alloc_old _ (by rw [cell_of HB0.out]; rfl), cell_alloc_old _ (by rw [cell_of HB0.out]; rfl), cell_alloc_old _ (by rw [cell_of HB1.out]; rfl), cell_alloc_old _ (by rw [cell_of HB1.out]; rfl), cell_alloc_old _ (by rw [cell_of HB1.out]; rfl), cell_alloc_old _ (by rw [cell_of HB1.out]; rfl), cell_alloc_old _ (by rw [cell_of HB1.out]; rfl), cell_alloc_old _ (by rw [cell_of HB2.out]; rfl), cell_alloc_old _ (by rw [cell_of HB2.out]; rfl), cell_alloc_old _ (by rw [cell_of HB2.out]; rfl), cell_alloc_old _ (by rw [cell_of HB2.out]; rfl), cell_alloc_old _ (by rw [cell_of HB2.out]; rfl)⟩ (fun hHeld => ?_)
        clear hK K
        try simp only [Act.put, List.getElem_toArray, List.getElem_cons_succ, List.getElem_cons_zero, List.setIfInBounds_toArray, List.set_cons_zero, List.set_cons_succ]
        have hm0AHA1 := hm0
        have SZAHA1 := SZ
        have SZHA3AHA1 := SZHA3
        have SZHA2AHA1 := SZHA2
        refine wpU_named ?_
        intro W54 hW
        try rw [← hW] at hHeld
        have n : Nw w53 W54 := by rw [hW]; exact (Ch.refl _ _).alloc _
        replace NX := Lib.hid (NX.out.trans n)
        replace MX := Lib.hid (MX.out.kept n id)
        replace hm0 := Nat.lt_of_lt_of_le hm0 n.size
        replace HLA0 := Lib.hid (HLA0.out.kept n nof)
        replace HLA1 := Lib.hid (HLA1.out.kept n nof)
        replace HLA2 := Lib.hid (HLA2.out.kept n nof)
        replace HB0 := Lib.hid (n.heap HB0.out id)
        replace HB1 := Lib.hid (n.heap HB1.out id)
        replace HB2 := Lib.hid (n.heap HB2.out id)
        replace HN := Lib.hid (n.heap HN.out id)
        replace HZ := Lib.hid (n.heap HZ.out id)
        replace SZ := Nat.lt_of_lt_of_le SZ n.size
        replace HA3 := Lib.hid (n.heap HA3.out id)
        replace SZHA3 := Nat.lt_of_lt_of_le SZHA3 n.size
        replace HA2 := Lib.hid (n.heap HA2.out id)
        replace SZHA2 := Nat.lt_of_lt_of_le SZHA2 n.size
        have HA1 := Lib.hid (show W54.heap[w53.heap.size]? = some (.cells #[.string ⟨#[]⟩, .string ⟨#[]⟩, .string ⟨#[]⟩, .string ⟨#[]⟩] 27 (0, 0)) from by rw [hW]; exact heap_alloc_eq _ rfl)
        have SZHA1 : w53.heap.size < W54.heap.size := lt_of_heap HA1.out
        clear hW n
        refine wpU_ready (rs := [9]) (by kernel_rfl) (by simp) ?_
        intro w55 hle
        obtain ⟨n, hHeld⟩ := hle.ahead (by kernel_rfl)
        clear hle
        replace NX := Lib.hid (NX.out.trans n)
        replace MX := Lib.hid (MX.out.kept n id)
        replace hm0 := Nat.lt_of_lt_of_le hm0 n.size
        replace HLA0 := Lib.hid (HLA0.out.kept n nof)
        replace HLA1 := Lib.hid (HLA1.out.kept n nof)
        replace HLA2 := Lib.hid (HLA2.out.kept n nof)
        replace HB0 := Lib.hid (n.heap HB0.out id)
        replace HB1 := Lib.hid (n.heap HB1.out id)
        replace HB2 := Lib.hid (n.heap HB2.out id)
        replace HN := Lib.hid (n.heap HN.out id)
        replace HZ := Lib.hid (n.heap HZ.out id)
        replace SZ := Nat.lt_of_lt_of_le SZ n.size
        replace HA3 := Lib.hid (n.heap HA3.out id)
        replace SZHA3 := Nat.lt_of_lt_of_le SZHA3 n.size
        replace HA2 := Lib.hid (n.heap HA2.out id)
        replace SZHA2 := Nat.lt_of_lt_of_le SZHA2 n.size
        replace HA1 := Lib.hid (n.heap HA1.out id)
        replace SZHA1 := Nat.lt_of_lt_of_le SZHA1 n.size
        clear n
        refine ReadyU.last HOPS rfl (by rfl) (by kernel_rfl) (fun K hK => ?_) ReadyU.nil
        have o0 : w55.cell? ⟨w53.heap.size, 0, none⟩ = some (.string ⟨#[]⟩) := by rw [cell_of HA1.out]; rfl
        have o1 : w55.cell? ⟨w53.heap.size, 1, none⟩ = some (.string ⟨#[]⟩) := by rw [cell_of HA1.out]; rfl
        have o2 : w55.cell? ⟨w53.heap.size, 2, none⟩ = some (.string ⟨#[]⟩) := by rw [cell_of HA1.out]; rfl
        have o3 : w55.cell? ⟨w53.heap.size, 3, none⟩ = some (.string ⟨#[]⟩) := by rw [cell_of HA1.out]; rfl
        have p0 : w55.frozen? ⟨w53.heap.size, 0, none⟩ = false := frozen_of HA1.out
        have p1 : w55.frozen? ⟨w53.heap.size, 1, none⟩ = false := frozen_of HA1.out
        have p2 : w55.frozen? ⟨w53.heap.size, 2, none⟩ = false := frozen_of HA1.out
        have p3 : w55.frozen? ⟨w53.heap.size, 3, none⟩ = false := frozen_of HA1.out
        go_simp
        refine hK.out _ _ ?_
        clear hK K o0 p0 o1 p1 o2 p2 o3 p3
        try simp only [Act.put, List.getElem_toArray, List.getElem_cons_succ, List.getElem_cons_zero, List.setIfInBounds_toArray, List.set_cons_zero, List.set_cons_succ]
        refine wpU_named ?_
        intro W56 hW
        have c : Ch (· = w53.heap.size) w55 W56 := by rw [hW]; exact ((((Ch.refl (· = w53.heap.size) w55).setb (fun _ => rfl) _).setb (fun _ => rfl) _).setb (fun _ => rfl) _).setb (fun _ => rfl) _
        have nb := Lib.hid (show W56.heap[w53.heap.size]? = some (.cells #[.string (S 0), .string (S 1), .string (S 2), .string (S 3)] 27 (0, 0)) from by rw [hW]; exact heap_setCell_eq _ (heap_setCell_eq _ (heap_setCell_eq _ (heap_setCell_eq _ HA1.out))))
        clear hW
        replace NX := Lib.hid (NX.out.trans' c (fun j hj e => by have e' : j = w53.heap.size := e; omega))
        replace MX := Lib.hid (MX.out.kept c (by show ¬ (0 = w53.heap.size); omega))
        replace hm0 := Nat.lt_of_lt_of_le hm0 c.size
        replace HLA0 := Lib.hid (HLA0.out.kept c (fun j hj e => by have e' : j = w53.heap.size := e; omega))
        replace HLA1 := Lib.hid (HLA1.out.kept c (fun j hj e => by have e' : j = w53.heap.size := e; omega))
        replace HLA2 := Lib.hid (HLA2.out.kept c (fun j hj e => by have e' : j = w53.heap.size := e; omega))
        replace HB0 := Lib.hid (c.heap HB0.out (by show w.heap.size ≠ w53.heap.size; omega))
        replace HB1 := Lib.hid (c.heap HB1.out (by show w.heap.size + 1 ≠ w53.heap.size; omega))
        replace HB2 := Lib.hid (c.heap HB2.out (by show w.heap.size + 2 ≠ w53.heap.size; omega))
        replace HN := Lib.hid (c.heap HN.out (by show w.heap.size + 3 ≠ w53.heap.size; omega))
        replace HZ := Lib.hid (c.heap HZ.out (by show w.heap.size + 4 ≠ w53.heap.size; omega))
        replace SZ := Nat.lt_of_lt_of_le SZ c.size
        replace HA3 := Lib.hid (c.heap HA3.out (by show w5.heap.size ≠ w53.heap.size; omega))
        replace SZHA3 := Nat.lt_of_lt_of_le SZHA3 c.size
        replace HA2 := Lib.hid (c.heap HA2.out (by show w43.heap.size ≠ w53.heap.size; omega))
        replace SZHA2 := Nat.lt_of_lt_of_le SZHA2 c.size
        replace HA1 := Lib.hid (nb.out)
        replace SZHA1 := Nat.lt_of_lt_of_le SZHA1 c.size
        clear nb c
        refine wpU_ready (rs := [10]) (by kernel_rfl) (by simp) ?_
        intro wq hle
        rw [hle.behind (by kernel_rfl)]
        clear hle wq
        refine ReadyU.last HOPS rfl (by rfl) (by kernel_rfl) (fun K hK => ?_) ReadyU.nil
        have o0 : W56.cell? ⟨w43.heap.size, 0, none⟩ = some (.string ⟨#[]⟩) := by rw [cell_of HA2.out]; rfl
        have o1 : W56.cell? ⟨w43.heap.size, 1, none⟩ = some (.string ⟨#[]⟩) := by rw [cell_of HA2.out]; rfl
        have o2 : W56.cell? ⟨w43.heap.size, 2, none⟩ = some (.string ⟨#[]⟩) := by rw [cell_of HA2.out]; rfl
        have o3 : W56.cell? ⟨w43.heap.size, 3, none⟩ = some (.string ⟨#[]⟩) := by rw [cell_of HA2.out]; rfl
        have p0 : W56.frozen? ⟨w43.heap.size, 0, none⟩ = false := frozen_of HA2.out
        have p1 : W56.frozen? ⟨w43.heap.size, 1, none⟩ = false := frozen_of HA2.out
        have p2 : W56.frozen? ⟨w43.heap.size, 2, none⟩ = false := frozen_of HA2.out
        have p3 : W56.frozen? ⟨w43.heap.size, 3, none⟩ = false := frozen_of HA2.out
        go_simp
        refine hK.out _ _ ?_
        clear hK K o0 p0 o1 p1 o2 p2 o3 p3
        try simp only [Act.put, List.getElem_toArray, List.getElem_cons_succ, List.getElem_cons_zero, List.setIfInBounds_toArray, List.set_cons_zero, List.set_cons_succ]
        refine wpU_named ?_
        intro W57 hW
        have c : Ch (· = w43.heap.size) W56 W57 := by rw [hW]; exact ((((Ch.refl (· = w43.heap.size) W56).setb (fun _ => rfl) _).setb (fun _ => rfl) _).setb (fun _ => rfl) _).setb (fun _ => rfl) _
        have nb := Lib.hid (show W57.heap[w43.heap.size]? = some (.cells #[.string (T 0), .string (T 1), .string (T 2), .string (T 3)] 27 (0, 0)) from by rw [hW]; exact heap_setCell_eq _ (heap_setCell_eq _ (heap_setCell_eq _ (heap_setCell_eq _ HA2.out))))
        clear hW
        replace NX := Lib.hid (NX.out.trans' c (fun j hj e => by have e' : j = w43.heap.size := e; omega))
        replace MX := Lib.hid (MX.out.kept c (by show ¬ (0 = w43.heap.size); omega))
        replace hm0 := Nat.lt_of_lt_of_le hm0 c.size
        replace HLA0 := Lib.hid (HLA0.out.kept c (fun j hj e => by have e' : j = w43.heap.size := e; omega))
        replace HLA1 := Lib.hid (HLA1.out.kept c (fun j hj e => by have e' : j = w43.heap.size := e; omega))
        replace HLA2 := Lib.hid (HLA2.out.kept c (fun j hj e => by have e' : j = w43.heap.size := e; omega))
        replace HB0 := Lib.hid (c.heap HB0.out (by show w.heap.size ≠ w43.heap.size; omega))
        replace HB1 := Lib.hid (c.heap HB1.out (by show w.heap.size + 1 ≠ w43.heap.size; omega))
        replace HB2 := Lib.hid (c.heap HB2.out (by show w.heap.size + 2 ≠ w43.heap.size; omega))
        replace HN := Lib.hid (c.heap HN.out (by show w.heap.size + 3 ≠ w43.heap.size; omega))
        replace HZ := Lib.hid (c.heap HZ.out (by show w.heap.size + 4 ≠ w43.heap.size; omega))
        replace SZ := Nat.lt_of_lt_of_le SZ c.size
        replace HA3 := Lib.hid (c.heap HA3.out (by show w5.heap.size ≠ w43.heap.size; omega))
        replace SZHA3 := Nat.lt_of_lt_of_le SZHA3 c.size
        replace HA2 := Lib.hid (nb.out)
        replace SZHA2 := Nat.lt_of_lt_of_le SZHA2 c.size
        replace HA1 := Lib.hid (c.heap HA1.out (by show w53.heap.size ≠ w43.heap.size; omega))
        replace SZHA1 := Nat.lt_of_lt_of_le SZHA1 c.size
        clear nb c
        refine wpU_ready (rs := [11]) (by kernel_rfl) (by simp) ?_
        intro wq hle
        rw [hle.behind (by kernel_rfl)]
        clear hle wq
        refine ReadyU.last HOPS rfl (by rfl) (by kernel_rfl) (fun K hK => ?_) ReadyU.nil
        have o0 : W57.cell? ⟨w5.heap.size, 0, none⟩ = some (.string ⟨#[]⟩) := by rw [cell_of HA3.out]; rfl
        have o1 : W57.cell? ⟨w5.heap.size, 1, none⟩ = some (.string ⟨#[]⟩) := by rw [cell_of HA3.out]; rfl
        have o2 : W57.cell? ⟨w5.heap.size, 2, none⟩ = some (.string ⟨#[]⟩) := by rw [cell_of HA3.out]; rfl
        have o3 : W57.cell? ⟨w5.heap.size, 3, none⟩ = some (.string ⟨#[]⟩) := by rw [cell_of HA3.out]; rfl
        have p0 : W57.frozen? ⟨w5.heap.size, 0, none⟩ = false := frozen_of HA3.out
        have p1 : W57.frozen? ⟨w5.heap.size, 1, none⟩ = false := frozen_of HA3.out
        have p2 : W57.frozen? ⟨w5.heap.size, 2, none⟩ = false := frozen_of HA3.out
        have p3 : W57.frozen? ⟨w5.heap.size, 3, none⟩ = false := frozen_of HA3.out
        go_simp
        refine hK.out _ _ ?_
        clear hK K o0 p0 o1 p1 o2 p2 o3 p3
        try simp only [Act.put, List.getElem_toArray, List.getElem_cons_succ, List.getElem_cons_zero, List.setIfInBounds_toArray, List.set_cons_zero, List.set_cons_succ]
        refine wpU_named ?_
        intro W58 hW
        have c : Ch (· = w5.heap.size) W57 W58 := by rw [hW]; exact ((((Ch.refl (· = w5.heap.size) W57).setb (fun _ => rfl) _).setb (fun _ => rfl) _).setb (fun _ => rfl) _).setb (fun _ => rfl) _
        have nb := Lib.hid (show W58.heap[w5.heap.size]? = some (.cells #[.string (U 0), .string (U 1), .string (U 2), .string (U 3)] 27 (0, 0)) from by rw [hW]; exact heap_setCell_eq _ (heap_setCell_eq _ (heap_setCell_eq _ (heap_setCell_eq _ HA3.out))))
        clear hW
        replace NX := Lib.hid (NX.out.trans' c (fun j hj e => by have e' : j = w5.heap.size := e; omega))
        replace MX := Lib.hid (MX.out.kept c (by show ¬ (0 = w5.heap.size); omega))
        replace hm0 := Nat.lt_of_lt_of_le hm0 c.size
        replace HLA0 := Lib.hid (HLA0.out.kept c (fun j hj e => by have e' : j = w5.heap.size := e; omega))
        replace HLA1 := Lib.hid (HLA1.out.kept c (fun j hj e => by have e' : j = w5.heap.size := e; omega))
        replace HLA2 := Lib.hid (HLA2.out.kept c (fun j hj e => by have e' : j = w5.heap.size := e; omega))
        replace HB0 := Lib.hid (c.heap HB0.out (by show w.heap.size ≠ w5.heap.size; omega))
        replace HB1 := Lib.hid (c.heap HB1.out (by show w.heap.size + 1 ≠ w5.heap.size; omega))
        replace HB2 := Lib.hid (c.heap HB2.out (by show w.heap.size + 2 ≠ w5.heap.size; omega))
        replace HN := Lib.hid (c.heap HN.out (by show w.heap.size + 3 ≠ w5.heap.size; omega))
        replace HZ := Lib.hid (c.heap HZ.out (by show w.heap.size + 4 ≠ w5.heap.size; omega))
        replace SZ := Nat.lt_of_lt_of_le SZ c.size
        replace HA3 := Lib.hid (nb.out)
        replace SZHA3 := Nat.lt_of_lt_of_le SZHA3 c.size
        replace HA2 := Lib.hid (c.heap HA2.out (by show w43.heap.size ≠ w5.heap.size; omega))
        replace SZHA2 := Nat.lt_of_lt_of_le SZHA2 c.size
        replace HA1 := Lib.hid (c.heap HA1.out (by show w53.heap.size ≠ w5.heap.size; omega))
        replace SZHA1 := Nat.lt_of_lt_of_le SZHA1 c.size
        clear nb c
        refine wpU_done (by kernel_rfl) (fun w59 hle => ?_) _
        rw [hle.behind (by kernel_rfl)]
        clear HOPS HCL hle
        repeat clear hHeld
        go_wp2_with fail
        go_meet
        exact ⟨w53.heap.size, w43.heap.size, w5.heap.size, rfl, rfl, rfl, HA1, HA2, HA3, NX, MX, HN, HZ⟩
  case rest => as_aux_lemma =>
    obtain ⟨g1, g2, g3, rfl, rfl, rfl, HA1, HA2, HA3, NX, MX, HN, HZ⟩ := hcut
    obtain ⟨wy, rfl⟩ : ∃ W : World, W = wc := ⟨_, rfl⟩
    go_wp2_with (fail)
    refine wp_named ?_
    intro W60 hW
    have n : Nw wy W60 := by rw [hW]; first | exact Ch.refl _ _ | exact (Ch.refl _ _).alloc _ | exact ((Ch.refl _ _).alloc _).alloc _
    replace HA1 := Lib.hid (n.heap HA1.out id)
    replace HA2 := Lib.hid (n.heap HA2.out id)
    replace HA3 := Lib.hid (n.heap HA3.out id)
    replace NX := Lib.hid (NX.out.trans n)
    replace MX := Lib.hid (MX.out.kept n id)
    replace HN := Lib.hid (n.heap HN.out id)
    replace HZ := Lib.hid (n.heap HZ.out id)
    clear hW n
    go_loopw [15] (fun s15 wr => ∃ k : Nat, s15 = .int .i64 k ∧ k ≤ 4 ∧ Hid (Nw W60 wr)) (fun s15 _ => 4 - (intOf s15).toNat)
    case atStart => exact ⟨0, rfl, by omega, Lib.hid (Ch.refl _ _)⟩
    case round =>
      obtain ⟨k, rfl, hk_k, HC62⟩ := hrel
      have k0 : (0 : Int) ≤ (k : Int) := by omega
      obtain ⟨wl61, hwl61⟩ : ∃ W : World, W = wr := ⟨_, rfl⟩
      subst hwl61
      replace HA1 := Lib.hid (HC62.out.heap HA1.out id)
      replace HA2 := Lib.hid (HC62.out.heap HA2.out id)
      replace HA3 := Lib.hid (HC62.out.heap HA3.out id)
      replace NX := Lib.hid (NX.out.trans HC62.out)
      replace MX := Lib.hid (MX.out.kept HC62.out id)
      replace HN := Lib.hid (HC62.out.heap HN.out id)
      replace HZ := Lib.hid (HC62.out.heap HZ.out id)
      by_cases k1 : k < 4
      · as_aux_lemma =>
        have k2 : (k : Int) < 4 := by omega
        have zS := OKS.out.1 k
        have zT := OKT.out.1 k
        have zU := OKU.out.1 k
        go_upto_region 6 with (fail)
        refine wp_named ?_
        intro W63 hW
        have n : Nw wl61 W63 := by rw [hW]; first | exact Ch.refl _ _ | exact (Ch.refl _ _).alloc _
        replace HA1 := Lib.hid (n.heap HA1.out id)
        replace HA2 := Lib.hid (n.heap HA2.out id)
        replace HA3 := Lib.hid (n.heap HA3.out id)
        replace NX := Lib.hid (NX.out.trans n)
        replace MX := Lib.hid (MX.out.kept n id)
        replace HN := Lib.hid (n.heap HN.out id)
        replace HZ := Lib.hid (n.heap HZ.out id)
        replace HC62 := Lib.hid (HC62.out.trans n)
        clear hW n
        refine wp_region_V (F := fun w' => w'.cell? ⟨g1, k, none⟩ = some (.string (S k)) ∧ w'.cell? ⟨g2, k, none⟩ = some (.string (T k)) ∧ w'.cell? ⟨g3, k, none⟩ = some (.string (U k))) (opsOf Tryd.f6 6) 12 12 (by kernel_rfl) (by kernel_rfl) (by kernel_rfl) (fun w w' h n => (⟨n.cell h.1 id, n.cell h.2.1 id, n.cell h.2.2 id⟩)) (⟨cell4 HA1.out k1, cell4 HA2.out k1, cell4 HA3.out k1⟩) (fun HOPS HCL hHeld => ?_)
        refine wpU_named ?_
        intro W64 hW
        try rw [← hW] at hHeld
        have n : Nw W63 W64 := by rw [hW]; exact (Ch.refl _ _).drew
        replace HA1 := Lib.hid (n.heap HA1.out id)
        replace HA2 := Lib.hid (n.heap HA2.out id)
        replace HA3 := Lib.hid (n.heap HA3.out id)
        replace NX := Lib.hid (NX.out.trans n)
        replace MX := Lib.hid (MX.out.kept n id)
        replace HN := Lib.hid (n.heap HN.out id)
        replace HZ := Lib.hid (n.heap HZ.out id)
        replace HC62 := Lib.hid (HC62.out.trans n)
        clear hW n
        first | (refine wpU_takeB (i := 0) (v := ?_) HOPS rfl (by kernel_rfl) (fun _ _ _ h => h) HCL (goes_read (by rfl) ?hy) ?_; case hy => (intro w hSw; (try dsimp only at hSw); go_simp; (try with_reducible rfl))) | (refine wpU_takeB (i := 0) (v := _) HOPS rfl (by kernel_rfl) (fun _ _ _ h => h) HCL (goes_not (by rfl)) ?_)
        try simp only [Act.put, List.getElem_toArray, List.getElem_cons_succ, List.getElem_cons_zero, List.setIfInBounds_toArray, List.set_cons_zero, List.set_cons_succ]
        first | (refine wpU_takeB (i := 1) (v := ?_) HOPS rfl (by kernel_rfl) (fun _ _ _ h => h) HCL (goes_read (by rfl) ?hy) ?_; case hy => (intro w hSw; (try dsimp only at hSw); go_simp; (try with_reducible rfl))) | (refine wpU_takeB (i := 1) (v := _) HOPS rfl (by kernel_rfl) (fun _ _ _ h => h) HCL (goes_not (by rfl)) ?_)
        try simp only [Act.put, List.getElem_toArray, List.getElem_cons_succ, List.getElem_cons_zero, List.setIfInBounds_toArray, List.set_cons_zero, List.set_cons_succ]
        first | (refine wpU_takeB (i := 2) (v := ?_) HOPS rfl (by kernel_rfl) (fun _ _ _ h => h) HCL (goes_read (by rfl) ?hy) ?_; case hy => (intro w hSw; (try dsimp only at hSw); go_simp; (try with_reducible rfl))) | (refine wpU_takeB (i := 2) (v := _) HOPS rfl (by kernel_rfl) (fun _ _ _ h => h) HCL (goes_not (by rfl)) ?_)
        try simp only [Act.put, List.getElem_toArray, List.getElem_cons_succ, List.getElem_cons_zero, List.setIfInBounds_toArray, List.set_cons_zero, List.set_cons_succ]
        first | (refine wpU_takeB (i := 3) (v := ?_) HOPS rfl (by kernel_rfl) (fun _ _ _ h => h) HCL (goes_read (by rfl) ?hy) ?_; case hy => (intro w hSw; (try dsimp only at hSw); go_simp; (try with_reducible rfl))) | (refine wpU_takeB (i := 3) (v := _) HOPS rfl (by kernel_rfl) (fun _ _ _ h => h) HCL (goes_not (by rfl)) ?_)
        try simp only [Act.put, List.getElem_toArray, List.getElem_cons_succ, List.getElem_cons_zero, List.setIfInBounds_toArray, List.set_cons_zero, List.set_cons_succ]
        first | (refine wpU_takeB (i := 4) (v := ?_) HOPS rfl (by kernel_rfl) (fun _ _ _ h => h) HCL (goes_read (by rfl) ?hy) ?_; case hy => (intro w hSw; (try dsimp only at hSw); go_simp; (try with_reducible rfl))) | (refine wpU_takeB (i := 4) (v := _) HOPS rfl (by kernel_rfl) (fun _ _ _ h => h) HCL (goes_not (by rfl)) ?_)
        try simp only [Act.put, List.getElem_toArray, List.getElem_cons_succ, List.getElem_cons_zero, List.setIfInBounds_toArray, List.set_cons_zero, List.set_cons_succ]
        first | (refine wpU_takeB (i := 5) (v := ?_) HOPS rfl (by kernel_rfl) (fun _ _ _ h => h) HCL (goes_read (by rfl) ?hy) ?_; case hy => (intro w hSw; (try dsimp only at hSw); go_simp; (try with_reducible rfl))) | (refine wpU_takeB (i := 5) (v := _) HOPS rfl (by kernel_rfl) (fun _ _ _ h => h) HCL (goes_not (by rfl)) ?_)
        try simp only [Act.put, List.getElem_toArray, List.getElem_cons_succ, List.getElem_cons_zero, List.setIfInBounds_toArray, List.set_cons_zero, List.set_cons_succ]
        first | (refine wpU_takeB (i := 6) (v := ?_) HOPS rfl (by kernel_rfl) (fun _ _ _ h => h) HCL (goes_read (by rfl) ?hy) ?_; case hy => (intro w hSw; (try dsimp only at hSw); go_simp; (try with_reducible rfl))) | (refine wpU_takeB (i := 6) (v := _) HOPS rfl (by kernel_rfl) (fun _ _ _ h => h) HCL (goes_not (by rfl)) ?_)
        try simp only [Act.put, List.getElem_toArray, List.getElem_cons_succ, List.getElem_cons_zero, List.setIfInBounds_toArray, List.set_cons_zero, List.set_cons_succ]
        first | (refine wpU_takeB (i := 7) (v := ?_) HOPS rfl (by kernel_rfl) (fun _ _ _ h => h) HCL (goes_read (by rfl) ?hy) ?_; case hy => (intro w hSw; (try dsimp only at hSw); go_simp; (try with_reducible rfl))) | (refine wpU_takeB (i := 7) (v := _) HOPS rfl (by kernel_rfl) (fun _ _ _ h => h) HCL (goes_not (by rfl)) ?_)
        try simp only [Act.put, List.getElem_toArray, List.getElem_cons_succ, List.getElem_cons_zero, List.setIfInBounds_toArray, List.set_cons_zero, List.set_cons_succ]
        first | (refine wpU_takeB (i := 8) (v := ?_) HOPS rfl (by kernel_rfl) (fun _ _ _ h => h) HCL (goes_read (by rfl) ?hy) ?_; case hy => (intro w hSw; (try dsimp only at hSw); go_simp; (try with_reducible rfl))) | (refine wpU_takeB (i := 8) (v := _) HOPS rfl (by kernel_rfl) (fun _ _ _ h => h) HCL (goes_not (by rfl)) ?_)
        try simp only [Act.put, List.getElem_toArray, List.getElem_cons_succ, List.getElem_cons_zero, List.setIfInBounds_toArray, List.set_cons_zero, List.set_cons_succ]
        first | (refine wpU_takeB (i := 9) (v := ?_) HOPS rfl (by kernel_rfl) (fun _ _ _ h => h) HCL (goes_read (by rfl) ?hy) ?_; case hy => (intro w hSw; (try dsimp only at hSw); go_simp; (try with_reducible rfl))) | (refine wpU_takeB (i := 9) (v := _) HOPS rfl (by kernel_rfl) (fun _ _ _ h => h) HCL (goes_not (by rfl)) ?_)
        try simp only [Act.put, List.getElem_toArray, List.getElem_cons_succ, List.getElem_cons_zero, List.setIfInBounds_toArray, List.set_cons_zero, List.set_cons_succ]
        first | (refine wpU_takeB (i := 10) (v := ?_) HOPS rfl (by kernel_rfl) (fun _ _ _ h => h) HCL (goes_read (by rfl) ?hy) ?_; case hy => (intro w hSw; (try dsimp only at hSw); go_simp; (try with_reducible rfl))) | (refine wpU_takeB (i := 10) (v := _) HOPS rfl (by kernel_rfl) (fun _ _ _ h => h) HCL (goes_not (by rfl)) ?_)
        try simp only [Act.put, List.getElem_toArray, List.getElem_cons_succ, List.getElem_cons_zero, List.setIfInBounds_toArray, List.set_cons_zero, List.set_cons_succ]
        first | (refine wpU_takeB (i := 11) (v := ?_) HOPS rfl (by kernel_rfl) (fun _ _ _ h => h) HCL (goes_read (by rfl) ?hy) ?_; case hy => (intro w hSw; (try dsimp only at hSw); go_simp; (try with_reducible rfl))) | (refine wpU_takeB (i := 11) (v := _) HOPS rfl (by kernel_rfl) (fun _ _ _ h => h) HCL (goes_not (by rfl)) ?_)
        try simp only [Act.put, List.getElem_toArray, List.getElem_cons_succ, List.getElem_cons_zero, List.setIfInBounds_toArray, List.set_cons_zero, List.set_cons_succ]
        refine wpU_done (by kernel_rfl) (fun w65 hle => ?_) _
        have n := (hle.ahead (by kernel_rfl)).1
        replace HA1 := Lib.hid (n.heap HA1.out id)
        replace HA2 := Lib.hid (n.heap HA2.out id)
        replace HA3 := Lib.hid (n.heap HA3.out id)
        replace NX := Lib.hid (NX.out.trans n)
        replace MX := Lib.hid (MX.out.kept n id)
        replace HN := Lib.hid (n.heap HN.out id)
        replace HZ := Lib.hid (n.heap HZ.out id)
        replace HC62 := Lib.hid (HC62.out.trans n)
        clear n
        clear HOPS HCL hle
        repeat clear hHeld
        obtain ⟨p, hp⟩ : ∃ p, S k = p := ⟨_, rfl⟩
        obtain ⟨q, hq⟩ : ∃ q, T k = q := ⟨_, rfl⟩
        obtain ⟨r, hr⟩ : ∃ r, U k = r := ⟨_, rfl⟩
        rw [hp] at zS ⊢
        rw [hq] at zT ⊢
        rw [hr] at zU ⊢
        clear hp hq hr
        have HPP := Lib.hid (less_self p.data.toList)
        by_cases hpq : p = q
        · as_aux_lemma =>
          have e9 : (p.toList == q.toList) = true := by rw [hpq]; simp
          have e10 : (p.toList != q.toList) = false := by rw [hpq]; simp
          have HPQ := Lib.hid (show lessB p.data.toList q.data.toList = false from by rw [hpq]; exact less_self _)
          clear hpq
          go_wp2_with (go_at_call 3; fail)
          refine Calls_nm ?_
          intro W66 hW
          have n : Nw w65 W66 := by rw [hW]; first | exact Ch.refl _ _ | exact (Ch.refl _ _).alloc _ | exact ((Ch.refl _ _).alloc _).alloc _
          replace HA1 := Lib.hid (n.heap HA1.out id)
          replace HA2 := Lib.hid (n.heap HA2.out id)
          replace HA3 := Lib.hid (n.heap HA3.out id)
          replace NX := Lib.hid (NX.out.trans n)
          replace MX := Lib.hid (MX.out.kept n id)
          replace HN := Lib.hid (n.heap HN.out id)
          replace HZ := Lib.hid (n.heap HZ.out id)
          replace HC62 := Lib.hid (HC62.out.trans n)
          clear hW n
          refine nless_any _ _ _ _ (by omega) (by omega) ?_
          rw [HPP.out]
          intro w67 n
          replace HA1 := Lib.hid (n.heap HA1.out id)
          replace HA2 := Lib.hid (n.heap HA2.out id)
          replace HA3 := Lib.hid (n.heap HA3.out id)
          replace NX := Lib.hid (NX.out.trans n)
          replace MX := Lib.hid (MX.out.kept n id)
          replace HN := Lib.hid (n.heap HN.out id)
          replace HZ := Lib.hid (n.heap HZ.out id)
          replace HC62 := Lib.hid (HC62.out.trans n)
          clear n
          go_wp2_with (go_at_call 3; fail)
          refine Calls_nm ?_
          intro W68 hW
          have n : Nw w67 W68 := by rw [hW]; first | exact Ch.refl _ _ | exact (Ch.refl _ _).alloc _ | exact ((Ch.refl _ _).alloc _).alloc _
          replace HA1 := Lib.hid (n.heap HA1.out id)
          replace HA2 := Lib.hid (n.heap HA2.out id)
          replace HA3 := Lib.hid (n.heap HA3.out id)
          replace NX := Lib.hid (NX.out.trans n)
          replace MX := Lib.hid (MX.out.kept n id)
          replace HN := Lib.hid (n.heap HN.out id)
          replace HZ := Lib.hid (n.heap HZ.out id)
          replace HC62 := Lib.hid (HC62.out.trans n)
          clear hW n
          refine nless_any _ _ _ _ (by omega) (by omega) ?_
          rw [HPQ.out]
          intro w69 n
          replace HA1 := Lib.hid (n.heap HA1.out id)
          replace HA2 := Lib.hid (n.heap HA2.out id)
          replace HA3 := Lib.hid (n.heap HA3.out id)
          replace NX := Lib.hid (NX.out.trans n)
          replace MX := Lib.hid (MX.out.kept n id)
          replace HN := Lib.hid (n.heap HN.out id)
          replace HZ := Lib.hid (n.heap HZ.out id)
          replace HC62 := Lib.hid (HC62.out.trans n)
          clear n
          go_wp2_with (fail)
          refine ⟨⟨k + 1, by go_num, by omega, Lib.hid HC62.out⟩, by simp [intOf]; omega⟩
        · as_aux_lemma =>
          have e9 : (p.toList == q.toList) = false := ba_ne hpq
          have e10 : (p.toList != q.toList) = true := by rw [bne, e9]; rfl
          have hqp := less_other hpq
          clear hpq
          cases hl : lessB p.data.toList q.data.toList with
          | false =>
            rw [hl] at hqp
            have HPQ := Lib.hid hl
            have HQP := Lib.hid hqp
            clear hl hqp
            go_wp2_with (go_at_call 3; fail)
            refine Calls_nm ?_
            intro W70 hW
            have n : Nw w65 W70 := by rw [hW]; first | exact Ch.refl _ _ | exact (Ch.refl _ _).alloc _ | exact ((Ch.refl _ _).alloc _).alloc _
            replace HA1 := Lib.hid (n.heap HA1.out id)
            replace HA2 := Lib.hid (n.heap HA2.out id)
            replace HA3 := Lib.hid (n.heap HA3.out id)
            replace NX := Lib.hid (NX.out.trans n)
            replace MX := Lib.hid (MX.out.kept n id)
            replace HN := Lib.hid (n.heap HN.out id)
            replace HZ := Lib.hid (n.heap HZ.out id)
            replace HC62 := Lib.hid (HC62.out.trans n)
            clear hW n
            refine nless_any _ _ _ _ (by omega) (by omega) ?_
            rw [HPP.out]
            intro w71 n
            replace HA1 := Lib.hid (n.heap HA1.out id)
            replace HA2 := Lib.hid (n.heap HA2.out id)
            replace HA3 := Lib.hid (n.heap HA3.out id)
            replace NX := Lib.hid (NX.out.trans n)
            replace MX := Lib.hid (MX.out.kept n id)
            replace HN := Lib.hid (n.heap HN.out id)
            replace HZ := Lib.hid (n.heap HZ.out id)
            replace HC62 := Lib.hid (HC62.out.trans n)
            clear n
            go_wp2_with (go_at_call 3; fail)
            refine Calls_nm ?_
            intro W72 hW
            have n : Nw w71 W72 := by rw [hW]; first | exact Ch.refl _ _ | exact (Ch.refl _ _).alloc _ | exact ((Ch.refl _ _).alloc _).alloc _
            replace HA1 := Lib.hid (n.heap HA1.out id)
            replace HA2 := Lib.hid (n.heap HA2.out id)
            replace HA3 := Lib.hid (n.heap HA3.out id)
            replace NX := Lib.hid (NX.out.trans n)
            replace MX := Lib.hid (MX.out.kept n id)
            replace HN := Lib.hid (n.heap HN.out id)
            replace HZ := Lib.hid (n.heap HZ.out id)
            replace HC62 := Lib.hid (HC62.out.trans n)
            clear hW n
            refine nless_any _ _ _ _ (by omega) (by omega) ?_
            rw [HPQ.out]
            intro w73 n
            replace HA1 := Lib.hid (n.heap HA1.out id)
            replace HA2 := Lib.hid (n.heap HA2.out id)
            replace HA3 := Lib.hid (n.heap HA3.out id)
            replace NX := Lib.hid (NX.out.trans n)
            replace MX := Lib.hid (MX.out.kept n id)
            replace HN := Lib.hid (n.heap HN.out id)
            replace HZ := Lib.hid (n.heap HZ.out id)
            replace HC62 := Lib.hid (HC62.out.trans n)
            clear n
            go_wp2_with (go_at_call 3; fail)
            refine Calls_nm ?_
            intro W74 hW
            have n : Nw w73 W74 := by rw [hW]; first | exact Ch.refl _ _ | exact (Ch.refl _ _).alloc _ | exact ((Ch.refl _ _).alloc _).alloc _
            replace HA1 := Lib.hid (n.heap HA1.out id)
            replace HA2 := Lib.hid (n.heap HA2.out id)
            replace HA3 := Lib.hid (n.heap HA3.out id)
            replace NX := Lib.hid (NX.out.trans n)
            replace MX := Lib.hid (MX.out.kept n id)
            replace HN := Lib.hid (n.heap HN.out id)
            replace HZ := Lib.hid (n.heap HZ.out id)
            replace HC62 := Lib.hid (HC62.out.trans n)
            clear hW n
            refine nless_any _ _ _ _ (by omega) (by omega) ?_
            rw [HQP.out]
            intro w75 n
            replace HA1 := Lib.hid (n.heap HA1.out id)
            replace HA2 := Lib.hid (n.heap HA2.out id)
            replace HA3 := Lib.hid (n.heap HA3.out id)
            replace NX := Lib.hid (NX.out.trans n)
            replace MX := Lib.hid (MX.out.kept n id)
            replace HN := Lib.hid (n.heap HN.out id)
            replace HZ := Lib.hid (n.heap HZ.out id)
            replace HC62 := Lib.hid (HC62.out.trans n)
            clear n
            go_wp2_with (go_at_call 3; fail)
            refine Calls_nm ?_
            intro W76 hW
            have n : Nw w75 W76 := by rw [hW]; first | exact Ch.refl _ _ | exact (Ch.refl _ _).alloc _ | exact ((Ch.refl _ _).alloc _).alloc _
            replace HA1 := Lib.hid (n.heap HA1.out id)
            replace HA2 := Lib.hid (n.heap HA2.out id)
            replace HA3 := Lib.hid (n.heap HA3.out id)
            replace NX := Lib.hid (NX.out.trans n)
            replace MX := Lib.hid (MX.out.kept n id)
            replace HN := Lib.hid (n.heap HN.out id)
            replace HZ := Lib.hid (n.heap HZ.out id)
            replace HC62 := Lib.hid (HC62.out.trans n)
            clear hW n
            refine nless_any _ _ _ _ (by omega) (by omega) ?_
            rw [HPQ.out]
            intro w77 n
            replace HA1 := Lib.hid (n.heap HA1.out id)
            replace HA2 := Lib.hid (n.heap HA2.out id)
            replace HA3 := Lib.hid (n.heap HA3.out id)
            replace NX := Lib.hid (NX.out.trans n)
            replace MX := Lib.hid (MX.out.kept n id)
            replace HN := Lib.hid (n.heap HN.out id)
            replace HZ := Lib.hid (n.heap HZ.out id)
            replace HC62 := Lib.hid (HC62.out.trans n)
            clear n
            go_wp2_with (fail)
            refine ⟨⟨k + 1, by go_num, by omega, Lib.hid HC62.out⟩, by simp [intOf]; omega⟩
          | true =>
            rw [hl] at hqp
            have HPQ := Lib.hid hl
            have HQP := Lib.hid hqp
            clear hqp
            cases hm : lessB q.data.toList r.data.toList with
            | false =>
              have HQR := Lib.hid hm
              clear hm hl
              go_wp2_with (go_at_call 3; fail)
              refine Calls_nm ?_
              intro W78 hW
              have n : Nw w65 W78 := by rw [hW]; first | exact Ch.refl _ _ | exact (Ch.refl _ _).alloc _ | exact ((Ch.refl _ _).alloc _).alloc _
              replace HA1 := Lib.hid (n.heap HA1.out id)
              replace HA2 := Lib.hid (n.heap HA2.out id)
              replace HA3 := Lib.hid (n.heap HA3.out id)
              replace NX := Lib.hid (NX.out.trans n)
              replace MX := Lib.hid (MX.out.kept n id)
              replace HN := Lib.hid (n.heap HN.out id)
              replace HZ := Lib.hid (n.heap HZ.out id)
              replace HC62 := Lib.hid (HC62.out.trans n)
              clear hW n
              refine nless_any _ _ _ _ (by omega) (by omega) ?_
              rw [HPP.out]
              intro w79 n
              replace HA1 := Lib.hid (n.heap HA1.out id)
              replace HA2 := Lib.hid (n.heap HA2.out id)
              replace HA3 := Lib.hid (n.heap HA3.out id)
              replace NX := Lib.hid (NX.out.trans n)
              replace MX := Lib.hid (MX.out.kept n id)
              replace HN := Lib.hid (n.heap HN.out id)
              replace HZ := Lib.hid (n.heap HZ.out id)
              replace HC62 := Lib.hid (HC62.out.trans n)
              clear n
              go_wp2_with (go_at_call 3; fail)
              refine Calls_nm ?_
              intro W80 hW
              have n : Nw w79 W80 := by rw [hW]; first | exact Ch.refl _ _ | exact (Ch.refl _ _).alloc _ | exact ((Ch.refl _ _).alloc _).alloc _
              replace HA1 := Lib.hid (n.heap HA1.out id)
              replace HA2 := Lib.hid (n.heap HA2.out id)
              replace HA3 := Lib.hid (n.heap HA3.out id)
              replace NX := Lib.hid (NX.out.trans n)
              replace MX := Lib.hid (MX.out.kept n id)
              replace HN := Lib.hid (n.heap HN.out id)
              replace HZ := Lib.hid (n.heap HZ.out id)
              replace HC62 := Lib.hid (HC62.out.trans n)
              clear hW n
              refine nless_any _ _ _ _ (by omega) (by omega) ?_
              rw [HPQ.out]
              intro w81 n
              replace HA1 := Lib.hid (n.heap HA1.out id)
              replace HA2 := Lib.hid (n.heap HA2.out id)
              replace HA3 := Lib.hid (n.heap HA3.out id)
              replace NX := Lib.hid (NX.out.trans n)
              replace MX := Lib.hid (MX.out.kept n id)
              replace HN := Lib.hid (n.heap HN.out id)
              replace HZ := Lib.hid (n.heap HZ.out id)
              replace HC62 := Lib.hid (HC62.out.trans n)
              clear n
              go_wp2_with (go_at_call 3; fail)
              refine Calls_nm ?_
              intro W82 hW
              have n : Nw w81 W82 := by rw [hW]; first | exact Ch.refl _ _ | exact (Ch.refl _ _).alloc _ | exact ((Ch.refl _ _).alloc _).alloc _
              replace HA1 := Lib.hid (n.heap HA1.out id)
              replace HA2 := Lib.hid (n.heap HA2.out id)
              replace HA3 := Lib.hid (n.heap HA3.out id)
              replace NX := Lib.hid (NX.out.trans n)
              replace MX := Lib.hid (MX.out.kept n id)
              replace HN := Lib.hid (n.heap HN.out id)
              replace HZ := Lib.hid (n.heap HZ.out id)
              replace HC62 := Lib.hid (HC62.out.trans n)
              clear hW n
              refine nless_any _ _ _ _ (by omega) (by omega) ?_
              rw [HQP.out]
              intro w83 n
              replace HA1 := Lib.hid (n.heap HA1.out id)
              replace HA2 := Lib.hid (n.heap HA2.out id)
              replace HA3 := Lib.hid (n.heap HA3.out id)
              replace NX := Lib.hid (NX.out.trans n)
              replace MX := Lib.hid (MX.out.kept n id)
              replace HN := Lib.hid (n.heap HN.out id)
              replace HZ := Lib.hid (n.heap HZ.out id)
              replace HC62 := Lib.hid (HC62.out.trans n)
              clear n
              go_wp2_with (go_at_call 3; fail)
              refine Calls_nm ?_
              intro W84 hW
              have n : Nw w83 W84 := by rw [hW]; first | exact Ch.refl _ _ | exact (Ch.refl _ _).alloc _ | exact ((Ch.refl _ _).alloc _).alloc _
              replace HA1 := Lib.hid (n.heap HA1.out id)
              replace HA2 := Lib.hid (n.heap HA2.out id)
              replace HA3 := Lib.hid (n.heap HA3.out id)
              replace NX := Lib.hid (NX.out.trans n)
              replace MX := Lib.hid (MX.out.kept n id)
              replace HN := Lib.hid (n.heap HN.out id)
              replace HZ := Lib.hid (n.heap HZ.out id)
              replace HC62 := Lib.hid (HC62.out.trans n)
              clear hW n
              refine nless_any _ _ _ _ (by omega) (by omega) ?_
              rw [HPQ.out]
              intro w85 n
              replace HA1 := Lib.hid (n.heap HA1.out id)
              replace HA2 := Lib.hid (n.heap HA2.out id)
              replace HA3 := Lib.hid (n.heap HA3.out id)
              replace NX := Lib.hid (NX.out.trans n)
              replace MX := Lib.hid (MX.out.kept n id)
              replace HN := Lib.hid (n.heap HN.out id)
              replace HZ := Lib.hid (n.heap HZ.out id)
              replace HC62 := Lib.hid (HC62.out.trans n)
              clear n
              go_wp2_with (go_at_call 3; fail)
              refine Calls_nm ?_
              intro W86 hW
              have n : Nw w85 W86 := by rw [hW]; first | exact Ch.refl _ _ | exact (Ch.refl _ _).alloc _ | exact ((Ch.refl _ _).alloc _).alloc _
              replace HA1 := Lib.hid (n.heap HA1.out id)
              replace HA2 := Lib.hid (n.heap HA2.out id)
              replace HA3 := Lib.hid (n.heap HA3.out id)
              replace NX := Lib.hid (NX.out.trans n)
              replace MX := Lib.hid (MX.out.kept n id)
              replace HN := Lib.hid (n.heap HN.out id)
              replace HZ := Lib.hid (n.heap HZ.out id)
              replace HC62 := Lib.hid (HC62.out.trans n)
              clear hW n
              refine nless_any _ _ _ _ (by omega) (by omega) ?_
              rw [HQR.out]
              intro w87 n
              replace HA1 := Lib.hid (n.heap HA1.out id)
              replace HA2 := Lib.hid (n.heap HA2.out id)
              replace HA3 := Lib.hid (n.heap HA3.out id)
              replace NX := Lib.hid (NX.out.trans n)
              replace MX := Lib.hid (MX.out.kept n id)
              replace HN := Lib.hid (n.heap HN.out id)
              replace HZ := Lib.hid (n.heap HZ.out id)
              replace HC62 := Lib.hid (HC62.out.trans n)
              clear n
              go_wp2_with (fail)
              refine ⟨⟨k + 1, by go_num, by omega, Lib.hid HC62.out⟩, by simp [intOf]; omega⟩
            | true =>
              have HQR := Lib.hid hm
              have HPR := Lib.hid (less_tr hl hm)
              clear hm hl
              go_wp2_with (go_at_call 3; fail)
              refine Calls_nm ?_
              intro W88 hW
              have n : Nw w65 W88 := by rw [hW]; first | exact Ch.refl _ _ | exact (Ch.refl _ _).alloc _ | exact ((Ch.refl _ _).alloc _).alloc _
              replace HA1 := Lib.hid (n.heap HA1.out id)
              replace HA2 := Lib.hid (n.heap HA2.out id)
              replace HA3 := Lib.hid (n.heap HA3.out id)
              replace NX := Lib.hid (NX.out.trans n)
              replace MX := Lib.hid (MX.out.kept n id)
              replace HN := Lib.hid (n.heap HN.out id)
              replace HZ := Lib.hid (n.heap HZ.out id)
              replace HC62 := Lib.hid (HC62.out.trans n)
              clear hW n
              refine nless_any _ _ _ _ (by omega) (by omega) ?_
              rw [HPP.out]
              intro w89 n
              replace HA1 := Lib.hid (n.heap HA1.out id)
              replace HA2 := Lib.hid (n.heap HA2.out id)
              replace HA3 := Lib.hid (n.heap HA3.out id)
              replace NX := Lib.hid (NX.out.trans n)
              replace MX := Lib.hid (MX.out.kept n id)
              replace HN := Lib.hid (n.heap HN.out id)
              replace HZ := Lib.hid (n.heap HZ.out id)
              replace HC62 := Lib.hid (HC62.out.trans n)
              clear n
              go_wp2_with (go_at_call 3; fail)
              refine Calls_nm ?_
              intro W90 hW
              have n : Nw w89 W90 := by rw [hW]; first | exact Ch.refl _ _ | exact (Ch.refl _ _).alloc _ | exact ((Ch.refl _ _).alloc _).alloc _
              replace HA1 := Lib.hid (n.heap HA1.out id)
              replace HA2 := Lib.hid (n.heap HA2.out id)
              replace HA3 := Lib.hid (n.heap HA3.out id)
              replace NX := Lib.hid (NX.out.trans n)
              replace MX := Lib.hid (MX.out.kept n id)
              replace HN := Lib.hid (n.heap HN.out id)
              replace HZ := Lib.hid (n.heap HZ.out id)
              replace HC62 := Lib.hid (HC62.out.trans n)
              clear hW n
              refine nless_any _ _ _ _ (by omega) (by omega) ?_
              rw [HPQ.out]
              intro w91 n
              replace HA1 := Lib.hid (n.heap HA1.out id)
              replace HA2 := Lib.hid (n.heap HA2.out id)
              replace HA3 := Lib.hid (n.heap HA3.out id)
              replace NX := Lib.hid (NX.out.trans n)
              replace MX := Lib.hid (MX.out.kept n id)
              replace HN := Lib.hid (n.heap HN.out id)
              replace HZ := Lib.hid (n.heap HZ.out id)
              replace HC62 := Lib.hid (HC62.out.trans n)
              clear n
              go_wp2_with (go_at_call 3; fail)
              refine Calls_nm ?_
              intro W92 hW
              have n : Nw w91 W92 := by rw [hW]; first | exact Ch.refl _ _ | exact (Ch.refl _ _).alloc _ | exact ((Ch.refl _ _).alloc _).alloc _
              replace HA1 := Lib.hid (n.heap HA1.out id)
              replace HA2 := Lib.hid (n.heap HA2.out id)
              replace HA3 := Lib.hid (n.heap HA3.out id)
              replace NX := Lib.hid (NX.out.trans n)
              replace MX := Lib.hid (MX.out.kept n id)
              replace HN := Lib.hid (n.heap HN.out id)
              replace HZ := Lib.hid (n.heap HZ.out id)
              replace HC62 := Lib.hid (HC62.out.trans n)
              clear hW n
              refine nless_any _ _ _ _ (by omega) (by omega) ?_
              rw [HQP.out]
              intro w93 n
              replace HA1 := Lib.hid (n.heap HA1.out id)
              replace HA2 := Lib.hid (n.heap HA2.out id)
              replace HA3 := Lib.hid (n.heap HA3.out id)
              replace NX := Lib.hid (NX.out.trans n)
              replace MX := Lib.hid (MX.out.kept n id)
              replace HN := Lib.hid (n.heap HN.out id)
              replace HZ := Lib.hid (n.heap HZ.out id)
              replace HC62 := Lib.hid (HC62.out.trans n)
              clear n
              go_wp2_with (go_at_call 3; fail)
              refine Calls_nm ?_
              intro W94 hW
              have n : Nw w93 W94 := by rw [hW]; first | exact Ch.refl _ _ | exact (Ch.refl _ _).alloc _ | exact ((Ch.refl _ _).alloc _).alloc _
              replace HA1 := Lib.hid (n.heap HA1.out id)
              replace HA2 := Lib.hid (n.heap HA2.out id)
              replace HA3 := Lib.hid (n.heap HA3.out id)
              replace NX := Lib.hid (NX.out.trans n)
              replace MX := Lib.hid (MX.out.kept n id)
              replace HN := Lib.hid (n.heap HN.out id)
              replace HZ := Lib.hid (n.heap HZ.out id)
              replace HC62 := Lib.hid (HC62.out.trans n)
              clear hW n
              refine nless_any _ _ _ _ (by omega) (by omega) ?_
              rw [HPQ.out]
              intro w95 n
              replace HA1 := Lib.hid (n.heap HA1.out id)
              replace HA2 := Lib.hid (n.heap HA2.out id)
              replace HA3 := Lib.hid (n.heap HA3.out id)
              replace NX := Lib.hid (NX.out.trans n)
              replace MX := Lib.hid (MX.out.kept n id)
              replace HN := Lib.hid (n.heap HN.out id)
              replace HZ := Lib.hid (n.heap HZ.out id)
              replace HC62 := Lib.hid (HC62.out.trans n)
              clear n
              go_wp2_with (go_at_call 3; fail)
              refine Calls_nm ?_
              intro W96 hW
              have n : Nw w95 W96 := by rw [hW]; first | exact Ch.refl _ _ | exact (Ch.refl _ _).alloc _ | exact ((Ch.refl _ _).alloc _).alloc _
              replace HA1 := Lib.hid (n.heap HA1.out id)
              replace HA2 := Lib.hid (n.heap HA2.out id)
              replace HA3 := Lib.hid (n.heap HA3.out id)
              replace NX := Lib.hid (NX.out.trans n)
              replace MX := Lib.hid (MX.out.kept n id)
              replace HN := Lib.hid (n.heap HN.out id)
              replace HZ := Lib.hid (n.heap HZ.out id)
              replace HC62 := Lib.hid (HC62.out.trans n)
              clear hW n
              refine nless_any _ _ _ _ (by omega) (by omega) ?_
              rw [HQR.out]
              intro w97 n
              replace HA1 := Lib.hid (n.heap HA1.out id)
              replace HA2 := Lib.hid (n.heap HA2.out id)
              replace HA3 := Lib.hid (n.heap HA3.out id)
              replace NX := Lib.hid (NX.out.trans n)
              replace MX := Lib.hid (MX.out.kept n id)
              replace HN := Lib.hid (n.heap HN.out id)
              replace HZ := Lib.hid (n.heap HZ.out id)
              replace HC62 := Lib.hid (HC62.out.trans n)
              clear n
              go_wp2_with (go_at_call 3; fail)
              refine Calls_nm ?_
              intro W98 hW
              have n : Nw w97 W98 := by rw [hW]; first | exact Ch.refl _ _ | exact (Ch.refl _ _).alloc _ | exact ((Ch.refl _ _).alloc _).alloc _
              replace HA1 := Lib.hid (n.heap HA1.out id)
              replace HA2 := Lib.hid (n.heap HA2.out id)
              replace HA3 := Lib.hid (n.heap HA3.out id)
              replace NX := Lib.hid (NX.out.trans n)
              replace MX := Lib.hid (MX.out.kept n id)
              replace HN := Lib.hid (n.heap HN.out id)
              replace HZ := Lib.hid (n.heap HZ.out id)
              replace HC62 := Lib.hid (HC62.out.trans n)
              clear hW n
              refine nless_any _ _ _ _ (by omega) (by omega) ?_
              rw [HPR.out]
              intro w99 n
              replace HA1 := Lib.hid (n.heap HA1.out id)
              replace HA2 := Lib.hid (n.heap HA2.out id)
              replace HA3 := Lib.hid (n.heap HA3.out id)
              replace NX := Lib.hid (NX.out.trans n)
              replace MX := Lib.hid (MX.out.kept n id)
              replace HN := Lib.hid (n.heap HN.out id)
              replace HZ := Lib.hid (n.heap HZ.out id)
              replace HC62 := Lib.hid (HC62.out.trans n)
              clear n
              go_wp2_with (fail)
              refine ⟨⟨k + 1, by go_num, by omega, Lib.hid HC62.out⟩, by simp [intOf]; omega⟩
      · as_aux_lemma =>
        have k2 : ¬ (k : Int) < 4 := by omega
        have z0 := OKS.out.1 0
        have kHA10 : wl61.cell? ⟨g1, 0, none⟩ = some (.string (S 0)) := by rw [cell_of HA1.out]; rfl
        go_upto_region 10 with (fail)
        clear kHA10
        obtain ⟨p, hp⟩ : ∃ p, S 0 = p := ⟨_, rfl⟩
        rw [hp] at z0 ⊢
        clear hp
        obtain ⟨m0, hm0⟩ : ∃ m : Nat, y0 % 5 = m := ⟨_, rfl⟩
        have m05 : m0 < 5 := by omega
        have t0 : ((y0 : Nat) : Int).tmod 5 = (m0 : Int) := by rw [Int.tmod_eq_emod_of_nonneg (by omega)]; omega
        have u0 : IntKind.u8.wrap (m0 : Int) = (m0 : Int) := by unfold IntKind.wrap; simp [IntKind.bits, IntKind.signed]; omega
        have v0 : IntKind.i64.wrap (n0 : Int) = (n0 : Int) := by rw [IntKind.wrap_i64]; omega
        have a0 : (0 : Int) ≤ (m0 : Int) := by omega
        have c0 : (m0 : Int) ≤ 4 := by omega
        have E0 := Lib.hid (show ((⟨#[48, 48, 48, 48]⟩ : ByteArray).extract 0 m0).size ≤ 4 from by rw [ByteArray.size_extract]; omega)
        have D0 := Lib.hid (show (⟨(dec n0).toArray⟩ : ByteArray).size ≤ 5 from by show (List.toArray _).size ≤ 5; rw [List.size_toArray]; exact dec_len 4 n0 (by omega))
        obtain ⟨m1, hm1⟩ : ∃ m : Nat, y1 % 5 = m := ⟨_, rfl⟩
        have m15 : m1 < 5 := by omega
        have t1 : ((y1 : Nat) : Int).tmod 5 = (m1 : Int) := by rw [Int.tmod_eq_emod_of_nonneg (by omega)]; omega
        have u1 : IntKind.u8.wrap (m1 : Int) = (m1 : Int) := by unfold IntKind.wrap; simp [IntKind.bits, IntKind.signed]; omega
        have v1 : IntKind.i64.wrap (n1 : Int) = (n1 : Int) := by rw [IntKind.wrap_i64]; omega
        have a1 : (0 : Int) ≤ (m1 : Int) := by omega
        have c1 : (m1 : Int) ≤ 4 := by omega
        have E1 := Lib.hid (show ((⟨#[48, 48, 48, 48]⟩ : ByteArray).extract 0 m1).size ≤ 4 from by rw [ByteArray.size_extract]; omega)
        have D1 := Lib.hid (show (⟨(dec n1).toArray⟩ : ByteArray).size ≤ 5 from by show (List.toArray _).size ≤ 5; rw [List.size_toArray]; exact dec_len 4 n1 (by omega))
        have P0 := Lib.hid (show (p ++ ⟨#[45]⟩).size ≤ 21 from by rw [ByteArray.size_append]; exact Nat.add_le_add z0 (Nat.le_refl 1))
        have Q0 := Lib.hid (show (p ++ ⟨#[45]⟩ ++ (⟨#[48, 48, 48, 48]⟩ : ByteArray).extract 0 m0).size ≤ 25 from by rw [ByteArray.size_append]; exact Nat.add_le_add P0.out E0.out)
        have Q1 := Lib.hid (show (p ++ ⟨#[45]⟩ ++ (⟨#[48, 48, 48, 48]⟩ : ByteArray).extract 0 m1).size ≤ 25 from by rw [ByteArray.size_append]; exact Nat.add_le_add P0.out E1.out)
        refine wp_named ?_
        intro W100 hW
        have n : Nw wl61 W100 := by rw [hW]; first | exact Ch.refl _ _ | exact (Ch.refl _ _).alloc _
        replace HA1 := Lib.hid (n.heap HA1.out id)
        replace HA2 := Lib.hid (n.heap HA2.out id)
        replace HA3 := Lib.hid (n.heap HA3.out id)
        replace NX := Lib.hid (NX.out.trans n)
        replace MX := Lib.hid (MX.out.kept n id)
        replace HN := Lib.hid (n.heap HN.out id)
        replace HZ := Lib.hid (n.heap HZ.out id)
        replace HC62 := Lib.hid (HC62.out.trans n)
        clear hW n
        refine wp_region_V (F := fun w' => w'.cell? ⟨w.heap.size + 3, 0, none⟩ = some (.int .u16 (n0 : Nat)) ∧ w'.cell? ⟨w.heap.size + 3, 1, none⟩ = some (.int .u16 (n1 : Nat)) ∧ w'.cell? ⟨w.heap.size + 4, 0, none⟩ = some (.int .u8 (y0 : Nat)) ∧ w'.cell? ⟨w.heap.size + 4, 1, none⟩ = some (.int .u8 (y1 : Nat))) (opsOf Tryd.f6 10) 12 12 (by kernel_rfl) (by kernel_rfl) (by kernel_rfl) (fun w w' h n => ⟨n.cell h.1 id, n.cell h.2.1 id, n.cell h.2.2.1 id, n.cell h.2.2.2 id⟩) ⟨by show W100.cell? _ = _; rw [cell_of HN.out]; rfl, by show W100.cell? _ = _; rw [cell_of HN.out]; rfl, by show W100.cell? _ = _; rw [cell_of HZ.out]; rfl, by show W100.cell? _ = _; rw [cell_of HZ.out]; rfl⟩ (fun HOPS HCL hHeld => ?_)
        refine wpU_named ?_
        intro W101 hW
        try rw [← hW] at hHeld
        have n : Nw W100 W101 := by rw [hW]; exact (Ch.refl _ _).drew
        replace HA1 := Lib.hid (n.heap HA1.out id)
        replace HA2 := Lib.hid (n.heap HA2.out id)
        replace HA3 := Lib.hid (n.heap HA3.out id)
        replace NX := Lib.hid (NX.out.trans n)
        replace MX := Lib.hid (MX.out.kept n id)
        replace HN := Lib.hid (n.heap HN.out id)
        replace HZ := Lib.hid (n.heap HZ.out id)
        replace HC62 := Lib.hid (HC62.out.trans n)
        clear hW n
        first | (refine wpU_takeB (i := 0) (v := ?_) HOPS rfl (by kernel_rfl) (fun _ _ _ h => h) HCL (goes_read (by rfl) ?hy) ?_; case hy => (intro w hSw; (try dsimp only at hSw); go_simp; (try with_reducible rfl))) | (refine wpU_takeB (i := 0) (v := _) HOPS rfl (by kernel_rfl) (fun _ _ _ h => h) HCL (goes_not (by rfl)) ?_)
        try simp only [Act.put, List.getElem_toArray, List.getElem_cons_succ, List.getElem_cons_zero, List.setIfInBounds_toArray, List.set_cons_zero, List.set_cons_succ]
        first | (refine wpU_takeB (i := 1) (v := ?_) HOPS rfl (by kernel_rfl) (fun _ _ _ h => h) HCL (goes_read (by rfl) ?hy) ?_; case hy => (intro w hSw; (try dsimp only at hSw); go_simp; (try with_reducible rfl))) | (refine wpU_takeB (i := 1) (v := _) HOPS rfl (by kernel_rfl) (fun _ _ _ h => h) HCL (goes_not (by rfl)) ?_)
        try simp only [Act.put, List.getElem_toArray, List.getElem_cons_succ, List.getElem_cons_zero, List.setIfInBounds_toArray, List.set_cons_zero, List.set_cons_succ]
        first | (refine wpU_takeB (i := 2) (v := ?_) HOPS rfl (by kernel_rfl) (fun _ _ _ h => h) HCL (goes_read (by rfl) ?hy) ?_; case hy => (intro w hSw; (try dsimp only at hSw); go_simp; (try with_reducible rfl))) | (refine wpU_takeB (i := 2) (v := _) HOPS rfl (by kernel_rfl) (fun _ _ _ h => h) HCL (goes_not (by rfl)) ?_)
        try simp only [Act.put, List.getElem_toArray, List.getElem_cons_succ, List.getElem_cons_zero, List.setIfInBounds_toArray, List.set_cons_zero, List.set_cons_succ]
        first | (refine wpU_takeB (i := 3) (v := ?_) HOPS rfl (by kernel_rfl) (fun _ _ _ h => h) HCL (goes_read (by rfl) ?hy) ?_; case hy => (intro w hSw; (try dsimp only at hSw); go_simp; (try with_reducible rfl))) | (refine wpU_takeB (i := 3) (v := _) HOPS rfl (by kernel_rfl) (fun _ _ _ h => h) HCL (goes_not (by rfl)) ?_)
        try simp only [Act.put, List.getElem_toArray, List.getElem_cons_succ, List.getElem_cons_zero, List.setIfInBounds_toArray, List.set_cons_zero, List.set_cons_succ]
        first | (refine wpU_takeB (i := 4) (v := ?_) HOPS rfl (by kernel_rfl) (fun _ _ _ h => h) HCL (goes_read (by rfl) ?hy) ?_; case hy => (intro w hSw; (try dsimp only at hSw); go_simp; (try with_reducible rfl))) | (refine wpU_takeB (i := 4) (v := _) HOPS rfl (by kernel_rfl) (fun _ _ _ h => h) HCL (goes_not (by rfl)) ?_)
        try simp only [Act.put, List.getElem_toArray, List.getElem_cons_succ, List.getElem_cons_zero, List.setIfInBounds_toArray, List.set_cons_zero, List.set_cons_succ]
        first | (refine wpU_takeB (i := 6) (v := ?_) HOPS rfl (by kernel_rfl) (fun _ _ _ h => h) HCL (goes_read (by rfl) ?hy) ?_; case hy => (intro w hSw; (try dsimp only at hSw); go_simp; (try with_reducible rfl))) | (refine wpU_takeB (i := 6) (v := _) HOPS rfl (by kernel_rfl) (fun _ _ _ h => h) HCL (goes_not (by rfl)) ?_)
        try simp only [Act.put, List.getElem_toArray, List.getElem_cons_succ, List.getElem_cons_zero, List.setIfInBounds_toArray, List.set_cons_zero, List.set_cons_succ]
        first | (refine wpU_takeB (i := 7) (v := ?_) HOPS rfl (by kernel_rfl) (fun _ _ _ h => h) HCL (goes_read (by rfl) ?hy) ?_; case hy => (intro w hSw; (try dsimp only at hSw); go_simp; (try with_reducible rfl))) | (refine wpU_takeB (i := 7) (v := _) HOPS rfl (by kernel_rfl) (fun _ _ _ h => h) HCL (goes_not (by rfl)) ?_)
        try simp only [Act.put, List.getElem_toArray, List.getElem_cons_succ, List.getElem_cons_zero, List.setIfInBounds_toArray, List.set_cons_zero, List.set_cons_succ]
        first | (refine wpU_takeB (i := 8) (v := ?_) HOPS rfl (by kernel_rfl) (fun _ _ _ h => h) HCL (goes_read (by rfl) ?hy) ?_; case hy => (intro w hSw; (try dsimp only at hSw); go_simp; (try with_reducible rfl))) | (refine wpU_takeB (i := 8) (v := _) HOPS rfl (by kernel_rfl) (fun _ _ _ h => h) HCL (goes_not (by rfl)) ?_)
        try simp only [Act.put, List.getElem_toArray, List.getElem_cons_succ, List.getElem_cons_zero, List.setIfInBounds_toArray, List.set_cons_zero, List.set_cons_succ]
        refine wpU_takeB (i := 5) HOPS rfl (by kernel_rfl) (fun _ _ _ h => h) HCL (goes_cat _ _ _ _ _ _ _ _ (by rfl) rfl (by rfl) (by rfl) P0.out E0.out (by decide)) ?_
        try simp only [Act.put, List.getElem_toArray, List.getElem_cons_succ, List.getElem_cons_zero, List.setIfInBounds_toArray, List.set_cons_zero, List.set_cons_succ]
        refine wpU_takeB (i := 9) HOPS rfl (by kernel_rfl) (fun _ _ _ h => h) HCL (goes_fn (v := (.string ⟨(dec n0).toArray⟩)) 22 _ _ _ #[.int .i64 (n0 : Nat)] (by rfl) rfl (by kernel_rfl) (by kernel_rfl) (by kernel_rfl) (fun wq n R hR => ?_)) ?_
        · exact decimal_any n0 n0 (Nat.le_refl _) (by omega) _ _ hR
        try simp only [Act.put, List.getElem_toArray, List.getElem_cons_succ, List.getElem_cons_zero, List.setIfInBounds_toArray, List.set_cons_zero, List.set_cons_succ]
        refine wpU_takeB (i := 10) HOPS rfl (by kernel_rfl) (fun _ _ _ h => h) HCL (goes_cat _ _ _ _ _ _ _ _ (by rfl) rfl (by rfl) (by rfl) Q0.out D0.out (by decide)) ?_
        try simp only [Act.put, List.getElem_toArray, List.getElem_cons_succ, List.getElem_cons_zero, List.setIfInBounds_toArray, List.set_cons_zero, List.set_cons_succ]
        first | (refine wpU_takeB (i := 11) (v := ?_) HOPS rfl (by kernel_rfl) (fun _ _ _ h => h) HCL (goes_read (by rfl) ?hy) ?_; case hy => (intro w hSw; (try dsimp only at hSw); go_simp; (try with_reducible rfl))) | (refine wpU_takeB (i := 11) (v := _) HOPS rfl (by kernel_rfl) (fun _ _ _ h => h) HCL (goes_not (by rfl)) ?_)
        try simp only [Act.put, List.getElem_toArray, List.getElem_cons_succ, List.getElem_cons_zero, List.setIfInBounds_toArray, List.set_cons_zero, List.set_cons_succ]
        refine wpU_done (by kernel_rfl) (fun w102 hle => ?_) _
        have n := (hle.ahead (by kernel_rfl)).1
        replace HA1 := Lib.hid (n.heap HA1.out id)
        replace HA2 := Lib.hid (n.heap HA2.out id)
        replace HA3 := Lib.hid (n.heap HA3.out id)
        replace NX := Lib.hid (NX.out.trans n)
        replace MX := Lib.hid (MX.out.kept n id)
        replace HN := Lib.hid (n.heap HN.out id)
        replace HZ := Lib.hid (n.heap HZ.out id)
        replace HC62 := Lib.hid (HC62.out.trans n)
        clear n
        clear HOPS HCL hle
        repeat clear hHeld
        have kHA10 : w102.cell? ⟨g1, 0, none⟩ = some (.string (S 0)) := by rw [cell_of HA1.out]; rfl
        go_upto_region 11 with (fail)
        clear kHA10
        refine wp_named ?_
        intro W103 hW
        have n : Nw w102 W103 := by rw [hW]; first | exact Ch.refl _ _ | exact (Ch.refl _ _).alloc _
        replace HA1 := Lib.hid (n.heap HA1.out id)
        replace HA2 := Lib.hid (n.heap HA2.out id)
        replace HA3 := Lib.hid (n.heap HA3.out id)
        replace NX := Lib.hid (NX.out.trans n)
        replace MX := Lib.hid (MX.out.kept n id)
        replace HN := Lib.hid (n.heap HN.out id)
        replace HZ := Lib.hid (n.heap HZ.out id)
        replace HC62 := Lib.hid (HC62.out.trans n)
        clear hW n
        refine wp_region_V (F := fun w' => w'.cell? ⟨w.heap.size + 3, 0, none⟩ = some (.int .u16 (n0 : Nat)) ∧ w'.cell? ⟨w.heap.size + 3, 1, none⟩ = some (.int .u16 (n1 : Nat)) ∧ w'.cell? ⟨w.heap.size + 4, 0, none⟩ = some (.int .u8 (y0 : Nat)) ∧ w'.cell? ⟨w.heap.size + 4, 1, none⟩ = some (.int .u8 (y1 : Nat))) (opsOf Tryd.f6 11) 12 12 (by kernel_rfl) (by kernel_rfl) (by kernel_rfl) (fun w w' h n => ⟨n.cell h.1 id, n.cell h.2.1 id, n.cell h.2.2.1 id, n.cell h.2.2.2 id⟩) ⟨by show W103.cell? _ = _; rw [cell_of HN.out]; rfl, by show W103.cell? _ = _; rw [cell_of HN.out]; rfl, by show W103.cell? _ = _; rw [cell_of HZ.out]; rfl, by show W103.cell? _ = _; rw [cell_of HZ.out]; rfl⟩ (fun HOPS HCL hHeld => ?_)
        refine wpU_named ?_
        intro W104 hW
        try rw [← hW] at hHeld
        have n : Nw W103 W104 := by rw [hW]; exact (Ch.refl _ _).drew
        replace HA1 := Lib.hid (n.heap HA1.out id)
        replace HA2 := Lib.hid (n.heap HA2.out id)
        replace HA3 := Lib.hid (n.heap HA3.out id)
        replace NX := Lib.hid (NX.out.trans n)
        replace MX := Lib.hid (MX.out.kept n id)
        replace HN := Lib.hid (n.heap HN.out id)
        replace HZ := Lib.hid (n.heap HZ.out id)
        replace HC62 := Lib.hid (HC62.out.trans n)
        clear hW n
        first | (refine wpU_takeB (i := 0) (v := ?_) HOPS rfl (by kernel_rfl) (fun _ _ _ h => h) HCL (goes_read (by rfl) ?hy) ?_; case hy => (intro w hSw; (try dsimp only at hSw); go_simp; (try with_reducible rfl))) | (refine wpU_takeB (i := 0) (v := _) HOPS rfl (by kernel_rfl) (fun _ _ _ h => h) HCL (goes_not (by rfl)) ?_)
        try simp only [Act.put, List.getElem_toArray, List.getElem_cons_succ, List.getElem_cons_zero, List.setIfInBounds_toArray, List.set_cons_zero, List.set_cons_succ]
        first | (refine wpU_takeB (i := 1) (v := ?_) HOPS rfl (by kernel_rfl) (fun _ _ _ h => h) HCL (goes_read (by rfl) ?hy) ?_; case hy => (intro w hSw; (try dsimp only at hSw); go_simp; (try with_reducible rfl))) | (refine wpU_takeB (i := 1) (v := _) HOPS rfl (by kernel_rfl) (fun _ _ _ h => h) HCL (goes_not (by rfl)) ?_)
        try simp only [Act.put, List.getElem_toArray, List.getElem_cons_succ, List.getElem_cons_zero, List.setIfInBounds_toArray, List.set_cons_zero, List.set_cons_succ]
        first | (refine wpU_takeB (i := 2) (v := ?_) HOPS rfl (by kernel_rfl) (fun _ _ _ h => h) HCL (goes_read (by rfl) ?hy) ?_; case hy => (intro w hSw; (try dsimp only at hSw); go_simp; (try with_reducible rfl))) | (refine wpU_takeB (i := 2) (v := _) HOPS rfl (by kernel_rfl) (fun _ _ _ h => h) HCL (goes_not (by rfl)) ?_)
        try simp only [Act.put, List.getElem_toArray, List.getElem_cons_succ, List.getElem_cons_zero, List.setIfInBounds_toArray, List.set_cons_zero, List.set_cons_succ]
        first | (refine wpU_takeB (i := 3) (v := ?_) HOPS rfl (by kernel_rfl) (fun _ _ _ h => h) HCL (goes_read (by rfl) ?hy) ?_; case hy => (intro w hSw; (try dsimp only at hSw); go_simp; (try with_reducible rfl))) | (refine wpU_takeB (i := 3) (v := _) HOPS rfl (by kernel_rfl) (fun _ _ _ h => h) HCL (goes_not (by rfl)) ?_)
        try simp only [Act.put, List.getElem_toArray, List.getElem_cons_succ, List.getElem_cons_zero, List.setIfInBounds_toArray, List.set_cons_zero, List.set_cons_succ]
        first | (refine wpU_takeB (i := 4) (v := ?_) HOPS rfl (by kernel_rfl) (fun _ _ _ h => h) HCL (goes_read (by rfl) ?hy) ?_; case hy => (intro w hSw; (try dsimp only at hSw); go_simp; (try with_reducible rfl))) | (refine wpU_takeB (i := 4) (v := _) HOPS rfl (by kernel_rfl) (fun _ _ _ h => h) HCL (goes_not (by rfl)) ?_)
        try simp only [Act.put, List.getElem_toArray, List.getElem_cons_succ, List.getElem_cons_zero, List.setIfInBounds_toArray, List.set_cons_zero, List.set_cons_succ]
        first | (refine wpU_takeB (i := 6) (v := ?_) HOPS rfl (by kernel_rfl) (fun _ _ _ h => h) HCL (goes_read (by rfl) ?hy) ?_; case hy => (intro w hSw; (try dsimp only at hSw); go_simp; (try with_reducible rfl))) | (refine wpU_takeB (i := 6) (v := _) HOPS rfl (by kernel_rfl) (fun _ _ _ h => h) HCL (goes_not (by rfl)) ?_)
        try simp only [Act.put, List.getElem_toArray, List.getElem_cons_succ, List.getElem_cons_zero, List.setIfInBounds_toArray, List.set_cons_zero, List.set_cons_succ]
        first | (refine wpU_takeB (i := 7) (v := ?_) HOPS rfl (by kernel_rfl) (fun _ _ _ h => h) HCL (goes_read (by rfl) ?hy) ?_; case hy => (intro w hSw; (try dsimp only at hSw); go_simp; (try with_reducible rfl))) | (refine wpU_takeB (i := 7) (v := _) HOPS rfl (by kernel_rfl) (fun _ _ _ h => h) HCL (goes_not (by rfl)) ?_)
        try simp only [Act.put, List.getElem_toArray, List.getElem_cons_succ, List.getElem_cons_zero, List.setIfInBounds_toArray, List.set_cons_zero, List.set_cons_succ]
        first | (refine wpU_takeB (i := 8) (v := ?_) HOPS rfl (by kernel_rfl) (fun _ _ _ h => h) HCL (goes_read (by rfl) ?hy) ?_; case hy => (intro w hSw; (try dsimp only at hSw); go_simp; (try with_reducible rfl))) | (refine wpU_takeB (i := 8) (v := _) HOPS rfl (by kernel_rfl) (fun _ _ _ h => h) HCL (goes_not (by rfl)) ?_)
        try simp only [Act.put, List.getElem_toArray, List.getElem_cons_succ, List.getElem_cons_zero, List.setIfInBounds_toArray, List.set_cons_zero, List.set_cons_succ]
        refine wpU_takeB (i := 5) HOPS rfl (by kernel_rfl) (fun _ _ _ h => h) HCL (goes_cat _ _ _ _ _ _ _ _ (by rfl) rfl (by rfl) (by rfl) P0.out E1.out (by decide)) ?_
        try simp only [Act.put, List.getElem_toArray, List.getElem_cons_succ, List.getElem_cons_zero, List.setIfInBounds_toArray, List.set_cons_zero, List.set_cons_succ]
        refine wpU_takeB (i := 9) HOPS rfl (by kernel_rfl) (fun _ _ _ h => h) HCL (goes_fn (v := (.string ⟨(dec n1).toArray⟩)) 22 _ _ _ #[.int .i64 (n1 : Nat)] (by rfl) rfl (by kernel_rfl) (by kernel_rfl) (by kernel_rfl) (fun wq n R hR => ?_)) ?_
        · exact decimal_any n1 n1 (Nat.le_refl _) (by omega) _ _ hR
        try simp only [Act.put, List.getElem_toArray, List.getElem_cons_succ, List.getElem_cons_zero, List.setIfInBounds_toArray, List.set_cons_zero, List.set_cons_succ]
        refine wpU_takeB (i := 10) HOPS rfl (by kernel_rfl) (fun _ _ _ h => h) HCL (goes_cat _ _ _ _ _ _ _ _ (by rfl) rfl (by rfl) (by rfl) Q1.out D1.out (by decide)) ?_
        try simp only [Act.put, List.getElem_toArray, List.getElem_cons_succ, List.getElem_cons_zero, List.setIfInBounds_toArray, List.set_cons_zero, List.set_cons_succ]
        first | (refine wpU_takeB (i := 11) (v := ?_) HOPS rfl (by kernel_rfl) (fun _ _ _ h => h) HCL (goes_read (by rfl) ?hy) ?_; case hy => (intro w hSw; (try dsimp only at hSw); go_simp; (try with_reducible rfl))) | (refine wpU_takeB (i := 11) (v := _) HOPS rfl (by kernel_rfl) (fun _ _ _ h => h) HCL (goes_not (by rfl)) ?_)
        try simp only [Act.put, List.getElem_toArray, List.getElem_cons_succ, List.getElem_cons_zero, List.setIfInBounds_toArray, List.set_cons_zero, List.set_cons_succ]
        refine wpU_done (by kernel_rfl) (fun w105 hle => ?_) _
        have n := (hle.ahead (by kernel_rfl)).1
        replace HA1 := Lib.hid (n.heap HA1.out id)
        replace HA2 := Lib.hid (n.heap HA2.out id)
        replace HA3 := Lib.hid (n.heap HA3.out id)
        replace NX := Lib.hid (NX.out.trans n)
        replace MX := Lib.hid (MX.out.kept n id)
        replace HN := Lib.hid (n.heap HN.out id)
        replace HZ := Lib.hid (n.heap HZ.out id)
        replace HC62 := Lib.hid (HC62.out.trans n)
        clear n
        clear HOPS HCL hle
        repeat clear hHeld
        have F0 := Lib.hid (show (p ++ ⟨#[45]⟩ ++ (⟨#[48, 48, 48, 48]⟩ : ByteArray).extract 0 m0 ++ ⟨(dec n0).toArray⟩).size ≤ 30 from by rw [ByteArray.size_append]; exact Nat.add_le_add Q0.out D0.out)
        have F1 := Lib.hid (show (p ++ ⟨#[45]⟩ ++ (⟨#[48, 48, 48, 48]⟩ : ByteArray).extract 0 m1 ++ ⟨(dec n1).toArray⟩).size ≤ 30 from by rw [ByteArray.size_append]; exact Nat.add_le_add Q1.out D1.out)
        have hlt := fun h => num_less p (m := m0) (k := m1) (n := n0) (j := n1) m05 m15 h
        have hgt := fun h => num_less p (m := m1) (k := m0) (n := n1) (j := n0) m15 m05 h
        obtain ⟨one, hone⟩ : ∃ s, p ++ ⟨#[45]⟩ ++ (⟨#[48, 48, 48, 48]⟩ : ByteArray).extract 0 m0 ++ ⟨(dec n0).toArray⟩ = s := ⟨_, rfl⟩
        rw [hone] at hlt hgt F0 ⊢
        clear hone
        obtain ⟨two, htwo⟩ : ∃ s, p ++ ⟨#[45]⟩ ++ (⟨#[48, 48, 48, 48]⟩ : ByteArray).extract 0 m1 ++ ⟨(dec n1).toArray⟩ = s := ⟨_, rfl⟩
        rw [htwo] at hlt hgt F1 ⊢
        clear htwo
        have zF0 := F0.out
        have zF1 := F1.out
        clear t0 u0 v0 a0 c0 t1 u1 v1 a1 c1
        have h3 : n0 < n1 ∨ n0 = n1 ∨ n1 < n0 := by omega
        rcases h3 with h3 | rfl | h3
        · as_aux_lemma =>
          have d1 : ¬ (n0 : Int) ≥ (n1 : Int) := by omega
          have d2 : (n0 : Int) ≤ (n1 : Int) := by omega
          have d3 : (n0 : Int) < (n1 : Int) := by omega
          have HL := Lib.hid (hlt h3)
          clear hlt hgt h3
          have kHN0 : w105.cell? ⟨w.heap.size + 3, 0, none⟩ = some (.int .u16 (n0 : Nat)) := by rw [cell_of HN.out]; rfl
          have jHN0 : ∀ o, (w105.alloc o).cell? ⟨w.heap.size + 3, 0, none⟩ = some (.int .u16 (n0 : Nat)) := fun o => cell_alloc_old o kHN0
          have kHN1 : w105.cell? ⟨w.heap.size + 3, 1, none⟩ = some (.int .u16 (n1 : Nat)) := by rw [cell_of HN.out]; rfl
          have jHN1 : ∀ o, (w105.alloc o).cell? ⟨w.heap.size + 3, 1, none⟩ = some (.int .u16 (n1 : Nat)) := fun o => cell_alloc_old o kHN1
          go_wp2_with (go_at_call 3; fail)
          clear kHN0 jHN0 kHN1 jHN1
          refine Calls_nm ?_
          intro W106 hW
          have n : Nw w105 W106 := by rw [hW]; first | exact Ch.refl _ _ | exact (Ch.refl _ _).alloc _ | exact ((Ch.refl _ _).alloc _).alloc _
          replace HA1 := Lib.hid (n.heap HA1.out id)
          replace HA2 := Lib.hid (n.heap HA2.out id)
          replace HA3 := Lib.hid (n.heap HA3.out id)
          replace NX := Lib.hid (NX.out.trans n)
          replace MX := Lib.hid (MX.out.kept n id)
          replace HN := Lib.hid (n.heap HN.out id)
          replace HZ := Lib.hid (n.heap HZ.out id)
          replace HC62 := Lib.hid (HC62.out.trans n)
          clear hW n
          refine nless_any _ _ _ _ (by omega) (by omega) ?_
          rw [HL.out]
          intro w107 n
          replace HA1 := Lib.hid (n.heap HA1.out id)
          replace HA2 := Lib.hid (n.heap HA2.out id)
          replace HA3 := Lib.hid (n.heap HA3.out id)
          replace NX := Lib.hid (NX.out.trans n)
          replace MX := Lib.hid (MX.out.kept n id)
          replace HN := Lib.hid (n.heap HN.out id)
          replace HZ := Lib.hid (n.heap HZ.out id)
          replace HC62 := Lib.hid (HC62.out.trans n)
          clear n
          have kHN0 : w107.cell? ⟨w.heap.size + 3, 0, none⟩ = some (.int .u16 (n0 : Nat)) := by rw [cell_of HN.out]; rfl
          have kHN1 : w107.cell? ⟨w.heap.size + 3, 1, none⟩ = some (.int .u16 (n1 : Nat)) := by rw [cell_of HN.out]; rfl
          go_wp2_with (fail)
          clear kHN0 kHN1
          exact ret_b (HR.out _ NX.out) (by simp)
        · as_aux_lemma =>
          have d1 : (n0 : Int) ≥ (n0 : Int) := by omega
          have d2 : (n0 : Int) ≤ (n0 : Int) := by omega
          clear hlt hgt
          have kHN0 : w105.cell? ⟨w.heap.size + 3, 0, none⟩ = some (.int .u16 (n0 : Nat)) := by rw [cell_of HN.out]; rfl
          have kHN1 : w105.cell? ⟨w.heap.size + 3, 1, none⟩ = some (.int .u16 (n0 : Nat)) := by rw [cell_of HN.out]; rfl
          go_wp2_with (fail)
          clear kHN0 kHN1
          exact ret_b (HR.out _ NX.out) (by simp)
        · as_aux_lemma =>
          have d1 : (n0 : Int) ≥ (n1 : Int) := by omega
          have d2 : ¬ (n0 : Int) ≤ (n1 : Int) := by omega
          have d3 : (n1 : Int) < (n0 : Int) := by omega
          have HL := Lib.hid (hgt h3)
          clear hlt hgt h3
          have kHN0 : w105.cell? ⟨w.heap.size + 3, 0, none⟩ = some (.int .u16 (n0 : Nat)) := by rw [cell_of HN.out]; rfl
          have jHN0 : ∀ o, (w105.alloc o).cell? ⟨w.heap.size + 3, 0, none⟩ = some (.int .u16 (n0 : Nat)) := fun o => cell_alloc_old o kHN0
          have kHN1 : w105.cell? ⟨w.heap.size + 3, 1, none⟩ = some (.int .u16 (n1 : Nat)) := by rw [cell_of HN.out]; rfl
          have jHN1 : ∀ o, (w105.alloc o).cell? ⟨w.heap.size + 3, 1, none⟩ = some (.int .u16 (n1 : Nat)) := fun o => cell_alloc_old o kHN1
          go_wp2_with (go_at_call 3; fail)
          clear kHN0 jHN0 kHN1 jHN1
          refine Calls_nm ?_
          intro W108 hW
          have n : Nw w105 W108 := by rw [hW]; first | exact Ch.refl _ _ | exact (Ch.refl _ _).alloc _ | exact ((Ch.refl _ _).alloc _).alloc _
          replace HA1 := Lib.hid (n.heap HA1.out id)
          replace HA2 := Lib.hid (n.heap HA2.out id)
          replace HA3 := Lib.hid (n.heap HA3.out id)
          replace NX := Lib.hid (NX.out.trans n)
          replace MX := Lib.hid (MX.out.kept n id)
          replace HN := Lib.hid (n.heap HN.out id)
          replace HZ := Lib.hid (n.heap HZ.out id)
          replace HC62 := Lib.hid (HC62.out.trans n)
          clear hW n
          refine nless_any _ _ _ _ (by omega) (by omega) ?_
          rw [HL.out]
          intro w109 n
          replace HA1 := Lib.hid (n.heap HA1.out id)
          replace HA2 := Lib.hid (n.heap HA2.out id)
          replace HA3 := Lib.hid (n.heap HA3.out id)
          replace NX := Lib.hid (NX.out.trans n)
          replace MX := Lib.hid (MX.out.kept n id)
          replace HN := Lib.hid (n.heap HN.out id)
          replace HZ := Lib.hid (n.heap HZ.out id)
          replace HC62 := Lib.hid (HC62.out.trans n)
          clear n
          have kHN0 : w109.cell? ⟨w.heap.size + 3, 0, none⟩ = some (.int .u16 (n0 : Nat)) := by rw [cell_of HN.out]; rfl
          have kHN1 : w109.cell? ⟨w.heap.size + 3, 1, none⟩ = some (.int .u16 (n1 : Nat)) := by rw [cell_of HN.out]; rfl
          go_wp2_with (fail)
          clear kHN0 kHN1
          exact ret_b (HR.out _ NX.out) (by simp)

end Go.Proofs.YtnibgjpbijlhbaaDoor
