/-
  The contract of the law NamesLess: it returns true.
-/
import Derived.Test.YtnibgjpbijlhbaaDoorLw12
import Derived.Test.YtnibgjpbijlhbaaDoorRegU
namespace Go.Proofs.YtnibgjpbijlhbaaDoor
open Go.RowKit
set_option linter.unusedVariables false
set_option linter.unusedSimpArgs false
set_option maxRecDepth 100000

set_option maxHeartbeats 16000000 in
theorem law_less (lo : Nat) (va0 va1 : Value) (la0 la1 : List Int) (qa0 qb0 qc0 qa1 qb1 qc1 : Int) (z0 z1 : ByteArray) (w : World) (R : Ending → World → Prop) (hlo : lo ≤ w.heap.size) (hla0 : IsInts w lo va0 la0) (hq0 : wfI qa0 ∧ wfI qb0 ∧ wfI qc0) (hla1 : IsInts w lo va1 la1) (hq1 : wfI qa1 ∧ wfI qb1 ∧ wfI qc1) 
    (hmx : MaxOk w) (hR : ∀ w', Nw w w' → R (.returned (.bool true)) w') : Calls Tryd.prog 5 #[.agg #[va0, .int .i64 qa0, .int .i64 qb0, .int .i64 qc0, .string z0], .agg #[va1, .int .i64 qa1, .int .i64 qb1, .int .i64 qc1, .string z1]] w R := by
  have HR := Lib.hid hR
  clear hR
  have NX := Lib.hid (Ch.refl (fun _ => False) w)
  have MX := Lib.hid hmx
  have hm0 := hmx.lt
  clear hmx
  have HLA0 := Lib.hid (hla0.hi hlo)
  obtain ⟨A0, e0, rfl, -⟩ := hla0
  have HQ0 := Lib.hid hq0
  clear hq0
  have HLA1 := Lib.hid (hla1.hi hlo)
  obtain ⟨A1, e1, rfl, -⟩ := hla1
  have HQ1 := Lib.hid hq1
  clear hq1
  go_enter Tryd.func5, Tryd.ntmps5
  go_wp2_with (go_at_call 3; fail)
  refine Calls_nm ?_
  intro W1 hW
  have n : Nw w W1 := by rw [hW]; exact ((Ch.refl _ _).alloc _).alloc _
  replace NX := Lib.hid (NX.out.trans n)
  replace MX := Lib.hid (MX.out.kept n id)
  replace hm0 := Nat.lt_of_lt_of_le hm0 n.size
  replace HLA0 := Lib.hid (HLA0.out.kept n nof)
  replace HLA1 := Lib.hid (HLA1.out.kept n nof)
  have HB0 := Lib.hid (show W1.heap[w.heap.size]? = some (.cells #[.slice A0 la0.length e0, .int .i64 qa0, .int .i64 qb0, .int .i64 qc0, .string z0] 25 (0, 0)) from by rw [hW]; exact heap_alloc_old' _ (heap_alloc_eq _ rfl))
  have HB1 := Lib.hid (show W1.heap[w.heap.size + 1]? = some (.cells #[.slice A1 la1.length e1, .int .i64 qa1, .int .i64 qb1, .int .i64 qc1, .string z1] 25 (0, 0)) from by rw [hW]; exact heap_alloc_eq _ (by simp only [alloc_size]))
  clear hW n
  have SZ : w.heap.size + 1 < W1.heap.size := lt_of_heap HB1.out
  refine sanity_any _ _ MX.out ?_
  intro w2 n
  replace NX := Lib.hid (NX.out.trans n)
  replace MX := Lib.hid (MX.out.kept n id)
  replace hm0 := Nat.lt_of_lt_of_le hm0 n.size
  replace HLA0 := Lib.hid (HLA0.out.kept n nof)
  replace HLA1 := Lib.hid (HLA1.out.kept n nof)
  replace HB0 := Lib.hid (n.heap HB0.out id)
  replace HB1 := Lib.hid (n.heap HB1.out id)
  replace SZ := Nat.lt_of_lt_of_le SZ n.size
  clear n
  have kHB00 : w2.cell? ⟨w.heap.size, 0, none⟩ = some (.slice A0 la0.length e0) := by rw [cell_of HB0.out]; rfl
  have jHB00 : ∀ o, (w2.alloc o).cell? ⟨w.heap.size, 0, none⟩ = some (.slice A0 la0.length e0) := fun o => cell_alloc_old o kHB00
  have kHB01 : w2.cell? ⟨w.heap.size, 1, none⟩ = some (.int .i64 qa0) := by rw [cell_of HB0.out]; rfl
  have jHB01 : ∀ o, (w2.alloc o).cell? ⟨w.heap.size, 1, none⟩ = some (.int .i64 qa0) := fun o => cell_alloc_old o kHB01
  have kHB02 : w2.cell? ⟨w.heap.size, 2, none⟩ = some (.int .i64 qb0) := by rw [cell_of HB0.out]; rfl
  have jHB02 : ∀ o, (w2.alloc o).cell? ⟨w.heap.size, 2, none⟩ = some (.int .i64 qb0) := fun o => cell_alloc_old o kHB02
  have kHB03 : w2.cell? ⟨w.heap.size, 3, none⟩ = some (.int .i64 qc0) := by rw [cell_of HB0.out]; rfl
  have jHB03 : ∀ o, (w2.alloc o).cell? ⟨w.heap.size, 3, none⟩ = some (.int .i64 qc0) := fun o => cell_alloc_old o kHB03
  have kHB04 : w2.cell? ⟨w.heap.size, 4, none⟩ = some (.string z0) := by rw [cell_of HB0.out]; rfl
  have jHB04 : ∀ o, (w2.alloc o).cell? ⟨w.heap.size, 4, none⟩ = some (.string z0) := fun o => cell_alloc_old o kHB04
  go_wp2_with (go_at_call 3; fail)
  clear kHB00 jHB00 kHB01 jHB01 kHB02 jHB02 kHB03 jHB03 kHB04 jHB04
  refine Calls_nm ?_
  intro W3 hW
  have n : Nw w2 W3 := by rw [hW]; first | exact Ch.refl _ _ | exact (Ch.refl _ _).alloc _ | exact ((Ch.refl _ _).alloc _).alloc _
  replace NX := Lib.hid (NX.out.trans n)
  replace MX := Lib.hid (MX.out.kept n id)
  replace hm0 := Nat.lt_of_lt_of_le hm0 n.size
  replace HLA0 := Lib.hid (HLA0.out.kept n nof)
  replace HLA1 := Lib.hid (HLA1.out.kept n nof)
  replace HB0 := Lib.hid (n.heap HB0.out id)
  replace HB1 := Lib.hid (n.heap HB1.out id)
  replace SZ := Nat.lt_of_lt_of_le SZ n.size
  clear hW n
  refine all_det w.heap.size _ la0 qa0 qb0 qc0 z0 _ _ (by omega) HLA0.out HQ0.out.1 HQ0.out.2.1 HQ0.out.2.2 ?_
  intro w4 n
  replace NX := Lib.hid (NX.out.trans n)
  replace MX := Lib.hid (MX.out.kept n id)
  replace hm0 := Nat.lt_of_lt_of_le hm0 n.size
  replace HLA0 := Lib.hid (HLA0.out.kept n nof)
  replace HLA1 := Lib.hid (HLA1.out.kept n nof)
  replace HB0 := Lib.hid (n.heap HB0.out id)
  replace HB1 := Lib.hid (n.heap HB1.out id)
  replace SZ := Nat.lt_of_lt_of_le SZ n.size
  have okS := all_ok la0 qa0 qb0 qc0 z0
  obtain ⟨S, hS⟩ : ∃ S, allB la0 qa0 qb0 qc0 z0 = S := ⟨_, rfl⟩
  rw [hS] at okS ⊢
  have OKS := Lib.hid okS
  clear hS okS n
  go_wp2_with (fail)
  refine wp_named ?_
  intro W5 hW
  have n : Nw w4 W5 := by rw [hW]; first | exact Ch.refl _ _ | exact (Ch.refl _ _).alloc _ | exact ((Ch.refl _ _).alloc _).alloc _
  replace NX := Lib.hid (NX.out.trans n)
  replace MX := Lib.hid (MX.out.kept n id)
  replace hm0 := Nat.lt_of_lt_of_le hm0 n.size
  replace HLA0 := Lib.hid (HLA0.out.kept n nof)
  replace HLA1 := Lib.hid (HLA1.out.kept n nof)
  replace HB0 := Lib.hid (n.heap HB0.out id)
  replace HB1 := Lib.hid (n.heap HB1.out id)
  replace SZ := Nat.lt_of_lt_of_le SZ n.size
  clear hW n
  go_loopw [15] (fun s15 wr => ∃ k : Nat, s15 = .int .i64 k ∧ k ≤ 4 ∧ Hid (Nw W5 wr)) (fun s15 _ => 4 - (intOf s15).toNat)
  case atStart => exact ⟨0, rfl, by omega, Lib.hid (Ch.refl _ _)⟩
  case round =>
    obtain ⟨k, rfl, hk_k, HC7⟩ := hrel
    have k0 : (0 : Int) ≤ (k : Int) := by omega
    obtain ⟨wl6, hwl6⟩ : ∃ W : World, W = wr := ⟨_, rfl⟩
    subst hwl6
    replace NX := Lib.hid (NX.out.trans HC7.out)
    replace MX := Lib.hid (MX.out.kept HC7.out id)
    replace hm0 := Nat.lt_of_lt_of_le hm0 HC7.out.size
    replace HLA0 := Lib.hid (HLA0.out.kept HC7.out nof)
    replace HLA1 := Lib.hid (HLA1.out.kept HC7.out nof)
    replace HB0 := Lib.hid (HC7.out.heap HB0.out id)
    replace HB1 := Lib.hid (HC7.out.heap HB1.out id)
    replace SZ := Nat.lt_of_lt_of_le SZ HC7.out.size
    by_cases k1 : k < 4
    · as_aux_lemma =>
      have k2 : (k : Int) < 4 := by omega
      go_upto_region 4 with (fail)
      refine wp_region_lit ?_
      refine wpList_plain rfl fun K hK => ?_
      refine wp_idx4 _ _ S k rfl rfl (by rfl) (by rfl) (by omega) ?_
      refine hK _ _ ?_
      clear hK K
      try simp only [Act.put, List.getElem_toArray, List.getElem_cons_succ, List.getElem_cons_zero, List.setIfInBounds_toArray, List.set_cons_zero, List.set_cons_succ]
      have kHB10 : wl6.cell? ⟨w.heap.size + 1, 0, none⟩ = some (.slice A1 la1.length e1) := by rw [cell_of HB1.out]; rfl
      have jHB10 : ∀ o, (wl6.alloc o).cell? ⟨w.heap.size + 1, 0, none⟩ = some (.slice A1 la1.length e1) := fun o => cell_alloc_old o kHB10
      have kHB11 : wl6.cell? ⟨w.heap.size + 1, 1, none⟩ = some (.int .i64 qa1) := by rw [cell_of HB1.out]; rfl
      have jHB11 : ∀ o, (wl6.alloc o).cell? ⟨w.heap.size + 1, 1, none⟩ = some (.int .i64 qa1) := fun o => cell_alloc_old o kHB11
      have kHB12 : wl6.cell? ⟨w.heap.size + 1, 2, none⟩ = some (.int .i64 qb1) := by rw [cell_of HB1.out]; rfl
      have jHB12 : ∀ o, (wl6.alloc o).cell? ⟨w.heap.size + 1, 2, none⟩ = some (.int .i64 qb1) := fun o => cell_alloc_old o kHB12
      have kHB13 : wl6.cell? ⟨w.heap.size + 1, 3, none⟩ = some (.int .i64 qc1) := by rw [cell_of HB1.out]; rfl
      have jHB13 : ∀ o, (wl6.alloc o).cell? ⟨w.heap.size + 1, 3, none⟩ = some (.int .i64 qc1) := fun o => cell_alloc_old o kHB13
      have kHB14 : wl6.cell? ⟨w.heap.size + 1, 4, none⟩ = some (.string z1) := by rw [cell_of HB1.out]; rfl
      have jHB14 : ∀ o, (wl6.alloc o).cell? ⟨w.heap.size + 1, 4, none⟩ = some (.string z1) := fun o => cell_alloc_old o kHB14
      go_wp2_with (go_at_call 3; fail)
      clear kHB10 jHB10 kHB11 jHB11 kHB12 jHB12 kHB13 jHB13 kHB14 jHB14
      refine Calls_nm ?_
      intro W8 hW
      have n : Nw wl6 W8 := by rw [hW]; first | exact Ch.refl _ _ | exact (Ch.refl _ _).alloc _ | exact ((Ch.refl _ _).alloc _).alloc _
      replace NX := Lib.hid (NX.out.trans n)
      replace MX := Lib.hid (MX.out.kept n id)
      replace hm0 := Nat.lt_of_lt_of_le hm0 n.size
      replace HLA0 := Lib.hid (HLA0.out.kept n nof)
      replace HLA1 := Lib.hid (HLA1.out.kept n nof)
      replace HB0 := Lib.hid (n.heap HB0.out id)
      replace HB1 := Lib.hid (n.heap HB1.out id)
      replace SZ := Nat.lt_of_lt_of_le SZ n.size
      replace HC7 := Lib.hid (HC7.out.trans n)
      clear hW n
      refine all_det w.heap.size _ la1 qa1 qb1 qc1 z1 _ _ (by omega) HLA1.out HQ1.out.1 HQ1.out.2.1 HQ1.out.2.2 ?_
      intro w9 n
      replace NX := Lib.hid (NX.out.trans n)
      replace MX := Lib.hid (MX.out.kept n id)
      replace hm0 := Nat.lt_of_lt_of_le hm0 n.size
      replace HLA0 := Lib.hid (HLA0.out.kept n nof)
      replace HLA1 := Lib.hid (HLA1.out.kept n nof)
      replace HB0 := Lib.hid (n.heap HB0.out id)
      replace HB1 := Lib.hid (n.heap HB1.out id)
      replace SZ := Nat.lt_of_lt_of_le SZ n.size
      replace HC7 := Lib.hid (HC7.out.trans n)
      have okT := all_ok la1 qa1 qb1 qc1 z1
      obtain ⟨T, hT⟩ : ∃ S, allB la1 qa1 qb1 qc1 z1 = S := ⟨_, rfl⟩
      rw [hT] at okT ⊢
      have OKT := Lib.hid okT
      clear hT okT n
      go_wp2_with (fail)
      refine wp_named ?_
      intro W10 hW
      have n : Nw w9 W10 := by rw [hW]; first | exact Ch.refl _ _ | exact (Ch.refl _ _).alloc _ | exact ((Ch.refl _ _).alloc _).alloc _
      replace NX := Lib.hid (NX.out.trans n)
      replace MX := Lib.hid (MX.out.kept n id)
      replace hm0 := Nat.lt_of_lt_of_le hm0 n.size
      replace HLA0 := Lib.hid (HLA0.out.kept n nof)
      replace HLA1 := Lib.hid (HLA1.out.kept n nof)
      replace HB0 := Lib.hid (n.heap HB0.out id)
      replace HB1 := Lib.hid (n.heap HB1.out id)
      replace SZ := Nat.lt_of_lt_of_le SZ n.size
      replace HC7 := Lib.hid (HC7.out.trans n)
      clear hW n
      go_loopw [20] (fun s20 wr => ∃ j : Nat, s20 = .int .i64 j ∧ j ≤ 4 ∧ Hid (Nw W10 wr)) (fun s20 _ => 4 - (intOf s20).toNat)
      case atStart => exact ⟨0, rfl, by omega, Lib.hid (Ch.refl _ _)⟩
      case round =>
        obtain ⟨j, rfl, hk_j, HC12⟩ := hrel
        have j0 : (0 : Int) ≤ (j : Int) := by omega
        obtain ⟨wl11, hwl11⟩ : ∃ W : World, W = wr := ⟨_, rfl⟩
        subst hwl11
        replace NX := Lib.hid (NX.out.trans HC12.out)
        replace MX := Lib.hid (MX.out.kept HC12.out id)
        replace hm0 := Nat.lt_of_lt_of_le hm0 HC12.out.size
        replace HLA0 := Lib.hid (HLA0.out.kept HC12.out nof)
        replace HLA1 := Lib.hid (HLA1.out.kept HC12.out nof)
        replace HB0 := Lib.hid (HC12.out.heap HB0.out id)
        replace HB1 := Lib.hid (HC12.out.heap HB1.out id)
        replace SZ := Nat.lt_of_lt_of_le SZ HC12.out.size
        replace HC7 := Lib.hid (HC7.out.trans HC12.out)
        by_cases j1 : j < 4
        · as_aux_lemma =>
          have j2 : (j : Int) < 4 := by omega
          have zS := OKS.out.1 k
          have zT := OKT.out.1 j
          go_upto_region 7 with (fail)
          refine wp_region_lit ?_
          refine wpList_plain rfl fun K hK => ?_
          refine wp_idx4 _ _ T j rfl rfl (by rfl) (by rfl) (by omega) ?_
          refine hK _ _ ?_
          clear hK K
          try simp only [Act.put, List.getElem_toArray, List.getElem_cons_succ, List.getElem_cons_zero, List.setIfInBounds_toArray, List.set_cons_zero, List.set_cons_succ]
          go_wp2_with (go_at_call 3; fail)
          refine Calls_nm ?_
          intro W13 hW
          have n : Nw wl11 W13 := by rw [hW]; first | exact Ch.refl _ _ | exact (Ch.refl _ _).alloc _ | exact ((Ch.refl _ _).alloc _).alloc _
          replace NX := Lib.hid (NX.out.trans n)
          replace MX := Lib.hid (MX.out.kept n id)
          replace hm0 := Nat.lt_of_lt_of_le hm0 n.size
          replace HLA0 := Lib.hid (HLA0.out.kept n nof)
          replace HLA1 := Lib.hid (HLA1.out.kept n nof)
          replace HB0 := Lib.hid (n.heap HB0.out id)
          replace HB1 := Lib.hid (n.heap HB1.out id)
          replace SZ := Nat.lt_of_lt_of_le SZ n.size
          replace HC7 := Lib.hid (HC7.out.trans n)
          replace HC12 := Lib.hid (HC12.out.trans n)
          clear hW n
          refine nless_any _ _ _ _ (by omega) (by omega) ?_
          intro w14 n
          replace NX := Lib.hid (NX.out.trans n)
          replace MX := Lib.hid (MX.out.kept n id)
          replace hm0 := Nat.lt_of_lt_of_le hm0 n.size
          replace HLA0 := Lib.hid (HLA0.out.kept n nof)
          replace HLA1 := Lib.hid (HLA1.out.kept n nof)
          replace HB0 := Lib.hid (n.heap HB0.out id)
          replace HB1 := Lib.hid (n.heap HB1.out id)
          replace SZ := Nat.lt_of_lt_of_le SZ n.size
          replace HC7 := Lib.hid (HC7.out.trans n)
          replace HC12 := Lib.hid (HC12.out.trans n)
          clear n
          go_wp2_with (go_at_call 3; fail)
          refine Calls_nm ?_
          intro W15 hW
          have n : Nw w14 W15 := by rw [hW]; first | exact Ch.refl _ _ | exact (Ch.refl _ _).alloc _ | exact ((Ch.refl _ _).alloc _).alloc _
          replace NX := Lib.hid (NX.out.trans n)
          replace MX := Lib.hid (MX.out.kept n id)
          replace hm0 := Nat.lt_of_lt_of_le hm0 n.size
          replace HLA0 := Lib.hid (HLA0.out.kept n nof)
          replace HLA1 := Lib.hid (HLA1.out.kept n nof)
          replace HB0 := Lib.hid (n.heap HB0.out id)
          replace HB1 := Lib.hid (n.heap HB1.out id)
          replace SZ := Nat.lt_of_lt_of_le SZ n.size
          replace HC7 := Lib.hid (HC7.out.trans n)
          replace HC12 := Lib.hid (HC12.out.trans n)
          clear hW n
          refine rless_any _ _ _ _ (by omega) (by omega) ?_
          go_wp2_with (go_at_call 3; fail)
          refine Calls_nm ?_
          intro W16 hW
          have n : Nw W15 W16 := by rw [hW]; first | exact Ch.refl _ _ | exact (Ch.refl _ _).alloc _ | exact ((Ch.refl _ _).alloc _).alloc _
          replace NX := Lib.hid (NX.out.trans n)
          replace MX := Lib.hid (MX.out.kept n id)
          replace hm0 := Nat.lt_of_lt_of_le hm0 n.size
          replace HLA0 := Lib.hid (HLA0.out.kept n nof)
          replace HLA1 := Lib.hid (HLA1.out.kept n nof)
          replace HB0 := Lib.hid (n.heap HB0.out id)
          replace HB1 := Lib.hid (n.heap HB1.out id)
          replace SZ := Nat.lt_of_lt_of_le SZ n.size
          replace HC7 := Lib.hid (HC7.out.trans n)
          replace HC12 := Lib.hid (HC12.out.trans n)
          clear hW n
          refine nless_any _ _ _ _ (by omega) (by omega) ?_
          intro w17 n
          replace NX := Lib.hid (NX.out.trans n)
          replace MX := Lib.hid (MX.out.kept n id)
          replace hm0 := Nat.lt_of_lt_of_le hm0 n.size
          replace HLA0 := Lib.hid (HLA0.out.kept n nof)
          replace HLA1 := Lib.hid (HLA1.out.kept n nof)
          replace HB0 := Lib.hid (n.heap HB0.out id)
          replace HB1 := Lib.hid (n.heap HB1.out id)
          replace SZ := Nat.lt_of_lt_of_le SZ n.size
          replace HC7 := Lib.hid (HC7.out.trans n)
          replace HC12 := Lib.hid (HC12.out.trans n)
          clear n
          go_wp2_with (go_at_call 3; fail)
          refine Calls_nm ?_
          intro W18 hW
          have n : Nw w17 W18 := by rw [hW]; first | exact Ch.refl _ _ | exact (Ch.refl _ _).alloc _ | exact ((Ch.refl _ _).alloc _).alloc _
          replace NX := Lib.hid (NX.out.trans n)
          replace MX := Lib.hid (MX.out.kept n id)
          replace hm0 := Nat.lt_of_lt_of_le hm0 n.size
          replace HLA0 := Lib.hid (HLA0.out.kept n nof)
          replace HLA1 := Lib.hid (HLA1.out.kept n nof)
          replace HB0 := Lib.hid (n.heap HB0.out id)
          replace HB1 := Lib.hid (n.heap HB1.out id)
          replace SZ := Nat.lt_of_lt_of_le SZ n.size
          replace HC7 := Lib.hid (HC7.out.trans n)
          replace HC12 := Lib.hid (HC12.out.trans n)
          clear hW n
          refine rless_any _ _ _ _ (by omega) (by omega) ?_
          go_wp2_with (fail)
          refine ⟨⟨j + 1, by go_num, by omega, Lib.hid HC12.out⟩, by simp [intOf]; omega⟩
        · as_aux_lemma =>
          have j2 : ¬ (j : Int) < 4 := by omega
          have kHB00 : wl11.cell? ⟨w.heap.size, 0, none⟩ = some (.slice A0 la0.length e0) := by rw [cell_of HB0.out]; rfl
          have jHB00 : ∀ o, (wl11.alloc o).cell? ⟨w.heap.size, 0, none⟩ = some (.slice A0 la0.length e0) := fun o => cell_alloc_old o kHB00
          have kHB01 : wl11.cell? ⟨w.heap.size, 1, none⟩ = some (.int .i64 qa0) := by rw [cell_of HB0.out]; rfl
          have jHB01 : ∀ o, (wl11.alloc o).cell? ⟨w.heap.size, 1, none⟩ = some (.int .i64 qa0) := fun o => cell_alloc_old o kHB01
          have kHB02 : wl11.cell? ⟨w.heap.size, 2, none⟩ = some (.int .i64 qb0) := by rw [cell_of HB0.out]; rfl
          have jHB02 : ∀ o, (wl11.alloc o).cell? ⟨w.heap.size, 2, none⟩ = some (.int .i64 qb0) := fun o => cell_alloc_old o kHB02
          have kHB03 : wl11.cell? ⟨w.heap.size, 3, none⟩ = some (.int .i64 qc0) := by rw [cell_of HB0.out]; rfl
          have jHB03 : ∀ o, (wl11.alloc o).cell? ⟨w.heap.size, 3, none⟩ = some (.int .i64 qc0) := fun o => cell_alloc_old o kHB03
          have kHB04 : wl11.cell? ⟨w.heap.size, 4, none⟩ = some (.string z0) := by rw [cell_of HB0.out]; rfl
          have jHB04 : ∀ o, (wl11.alloc o).cell? ⟨w.heap.size, 4, none⟩ = some (.string z0) := fun o => cell_alloc_old o kHB04
          go_wp2_with (go_at_call 3; fail)
          clear kHB00 jHB00 kHB01 jHB01 kHB02 jHB02 kHB03 jHB03 kHB04 jHB04
          refine Calls_nm ?_
          intro W19 hW
          have n : Nw wl11 W19 := by rw [hW]; first | exact Ch.refl _ _ | exact (Ch.refl _ _).alloc _ | exact ((Ch.refl _ _).alloc _).alloc _
          replace NX := Lib.hid (NX.out.trans n)
          replace MX := Lib.hid (MX.out.kept n id)
          replace hm0 := Nat.lt_of_lt_of_le hm0 n.size
          replace HLA0 := Lib.hid (HLA0.out.kept n nof)
          replace HLA1 := Lib.hid (HLA1.out.kept n nof)
          replace HB0 := Lib.hid (n.heap HB0.out id)
          replace HB1 := Lib.hid (n.heap HB1.out id)
          replace SZ := Nat.lt_of_lt_of_le SZ n.size
          replace HC7 := Lib.hid (HC7.out.trans n)
          replace HC12 := Lib.hid (HC12.out.trans n)
          clear hW n
          refine all_det w.heap.size _ la0 qa0 qb0 qc0 z0 _ _ (by omega) HLA0.out HQ0.out.1 HQ0.out.2.1 HQ0.out.2.2 ?_
          intro w20 n
          replace NX := Lib.hid (NX.out.trans n)
          replace MX := Lib.hid (MX.out.kept n id)
          replace hm0 := Nat.lt_of_lt_of_le hm0 n.size
          replace HLA0 := Lib.hid (HLA0.out.kept n nof)
          replace HLA1 := Lib.hid (HLA1.out.kept n nof)
          replace HB0 := Lib.hid (n.heap HB0.out id)
          replace HB1 := Lib.hid (n.heap HB1.out id)
          replace SZ := Nat.lt_of_lt_of_le SZ n.size
          replace HC7 := Lib.hid (HC7.out.trans n)
          replace HC12 := Lib.hid (HC12.out.trans n)
          have okU := all_ok la0 qa0 qb0 qc0 z0
          obtain ⟨U, hU⟩ : ∃ S, allB la0 qa0 qb0 qc0 z0 = S := ⟨_, rfl⟩
          rw [hU] at okU ⊢
          have OKU := Lib.hid okU
          clear hU okU n
          go_wp2_with (fail)
          refine wp_named ?_
          intro W21 hW
          have n : Nw w20 W21 := by rw [hW]; first | exact Ch.refl _ _ | exact (Ch.refl _ _).alloc _ | exact ((Ch.refl _ _).alloc _).alloc _
          replace NX := Lib.hid (NX.out.trans n)
          replace MX := Lib.hid (MX.out.kept n id)
          replace hm0 := Nat.lt_of_lt_of_le hm0 n.size
          replace HLA0 := Lib.hid (HLA0.out.kept n nof)
          replace HLA1 := Lib.hid (HLA1.out.kept n nof)
          replace HB0 := Lib.hid (n.heap HB0.out id)
          replace HB1 := Lib.hid (n.heap HB1.out id)
          replace SZ := Nat.lt_of_lt_of_le SZ n.size
          replace HC7 := Lib.hid (HC7.out.trans n)
          replace HC12 := Lib.hid (HC12.out.trans n)
          clear hW n
          go_loopw [42] (fun s42 wr => ∃ i : Nat, s42 = .int .i64 i ∧ i ≤ 4 ∧ Hid (Nw W21 wr)) (fun s42 _ => 4 - (intOf s42).toNat)
          case atStart => exact ⟨0, rfl, by omega, Lib.hid (Ch.refl _ _)⟩
          case round =>
            obtain ⟨i, rfl, hk_i, HC23⟩ := hrel
            have i0 : (0 : Int) ≤ (i : Int) := by omega
            obtain ⟨wl22, hwl22⟩ : ∃ W : World, W = wr := ⟨_, rfl⟩
            subst hwl22
            replace NX := Lib.hid (NX.out.trans HC23.out)
            replace MX := Lib.hid (MX.out.kept HC23.out id)
            replace hm0 := Nat.lt_of_lt_of_le hm0 HC23.out.size
            replace HLA0 := Lib.hid (HLA0.out.kept HC23.out nof)
            replace HLA1 := Lib.hid (HLA1.out.kept HC23.out nof)
            replace HB0 := Lib.hid (HC23.out.heap HB0.out id)
            replace HB1 := Lib.hid (HC23.out.heap HB1.out id)
            replace SZ := Nat.lt_of_lt_of_le SZ HC23.out.size
            replace HC7 := Lib.hid (HC7.out.trans HC23.out)
            replace HC12 := Lib.hid (HC12.out.trans HC23.out)
            by_cases i1 : i < 4
            · as_aux_lemma =>
              have i2 : (i : Int) < 4 := by omega
              have zS := OKS.out.1 k
              have zU := OKU.out.1 i
              go_upto_region 13 with (fail)
              refine wp_region_lit ?_
              refine wpList_plain rfl fun K hK => ?_
              refine wp_idx4 _ _ U i rfl rfl (by rfl) (by rfl) (by omega) ?_
              refine hK _ _ ?_
              clear hK K
              try simp only [Act.put, List.getElem_toArray, List.getElem_cons_succ, List.getElem_cons_zero, List.setIfInBounds_toArray, List.set_cons_zero, List.set_cons_succ]
              go_wp2_with (go_at_call 3; fail)
              refine Calls_nm ?_
              intro W24 hW
              have n : Nw wl22 W24 := by rw [hW]; first | exact Ch.refl _ _ | exact (Ch.refl _ _).alloc _ | exact ((Ch.refl _ _).alloc _).alloc _
              replace NX := Lib.hid (NX.out.trans n)
              replace MX := Lib.hid (MX.out.kept n id)
              replace hm0 := Nat.lt_of_lt_of_le hm0 n.size
              replace HLA0 := Lib.hid (HLA0.out.kept n nof)
              replace HLA1 := Lib.hid (HLA1.out.kept n nof)
              replace HB0 := Lib.hid (n.heap HB0.out id)
              replace HB1 := Lib.hid (n.heap HB1.out id)
              replace SZ := Nat.lt_of_lt_of_le SZ n.size
              replace HC7 := Lib.hid (HC7.out.trans n)
              replace HC12 := Lib.hid (HC12.out.trans n)
              replace HC23 := Lib.hid (HC23.out.trans n)
              clear hW n
              refine nless_any _ _ _ _ (by omega) (by omega) ?_
              intro w25 n
              replace NX := Lib.hid (NX.out.trans n)
              replace MX := Lib.hid (MX.out.kept n id)
              replace hm0 := Nat.lt_of_lt_of_le hm0 n.size
              replace HLA0 := Lib.hid (HLA0.out.kept n nof)
              replace HLA1 := Lib.hid (HLA1.out.kept n nof)
              replace HB0 := Lib.hid (n.heap HB0.out id)
              replace HB1 := Lib.hid (n.heap HB1.out id)
              replace SZ := Nat.lt_of_lt_of_le SZ n.size
              replace HC7 := Lib.hid (HC7.out.trans n)
              replace HC12 := Lib.hid (HC12.out.trans n)
              replace HC23 := Lib.hid (HC23.out.trans n)
              clear n
              go_wp2_with (go_at_call 3; fail)
              refine Calls_nm ?_
              intro W26 hW
              have n : Nw w25 W26 := by rw [hW]; first | exact Ch.refl _ _ | exact (Ch.refl _ _).alloc _ | exact ((Ch.refl _ _).alloc _).alloc _
              replace NX := Lib.hid (NX.out.trans n)
              replace MX := Lib.hid (MX.out.kept n id)
              replace hm0 := Nat.lt_of_lt_of_le hm0 n.size
              replace HLA0 := Lib.hid (HLA0.out.kept n nof)
              replace HLA1 := Lib.hid (HLA1.out.kept n nof)
              replace HB0 := Lib.hid (n.heap HB0.out id)
              replace HB1 := Lib.hid (n.heap HB1.out id)
              replace SZ := Nat.lt_of_lt_of_le SZ n.size
              replace HC7 := Lib.hid (HC7.out.trans n)
              replace HC12 := Lib.hid (HC12.out.trans n)
              replace HC23 := Lib.hid (HC23.out.trans n)
              clear hW n
              refine rless_any _ _ _ _ (by omega) (by omega) ?_
              go_wp2_with (fail)
              refine ⟨⟨i + 1, by go_num, by omega, Lib.hid HC23.out⟩, by simp [intOf]; omega⟩
            · as_aux_lemma =>
              have i2 : ¬ (i : Int) < 4 := by omega
              go_wp2_with (fail)
              refine ⟨⟨k + 1, by go_num, by omega, Lib.hid HC7.out⟩, by simp [intOf]; omega⟩
    · as_aux_lemma =>
      have k2 : ¬ (k : Int) < 4 := by omega
      go_wp2
      exact ret_b (HR.out _ NX.out) (by simp)

end Go.Proofs.YtnibgjpbijlhbaaDoor
