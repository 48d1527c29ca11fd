/-
  The contract of the law NamesChecks: it returns true.
-/
import Derived.Test.YtnibgjpbijlhbaaDoorLw12
import Derived.Test.YtnibgjpbijlhbaaDoorRegU
namespace Go.Proofs.YtnibgjpbijlhbaaDoor
open Go.RowKit
set_option linter.unusedVariables false
set_option linter.unusedSimpArgs false
set_option maxRecDepth 100000

set_option maxHeartbeats 16000000 in
theorem law_checks (lo : Nat) (va0 : Value) (la0 : List Int) (qa0 qb0 qc0 : Int) (z0 : ByteArray) (b : UInt8) (w : World) (R : Ending → World → Prop) (hlo : lo ≤ w.heap.size) (hla0 : IsInts w lo va0 la0) (hq0 : wfI qa0 ∧ wfI qb0 ∧ wfI qc0) 
    (hmx : MaxOk w) (hR : ∀ w', Nw w w' → R (.returned (.bool true)) w') : Calls Tryd.prog 3 #[.agg #[va0, .int .i64 qa0, .int .i64 qb0, .int .i64 qc0, .string z0], .int .u8 (b.toNat : Nat)] w R := by
  have HR := Lib.hid hR
  clear hR
  have NX := Lib.hid (Ch.refl (fun _ => False) w)
  have MX := Lib.hid hmx
  have hm0 := hmx.lt
  clear hmx
  have HLA0 := Lib.hid (hla0.hi hlo)
  obtain ⟨A0, e0, rfl, -⟩ := hla0
  have HQ0 := Lib.hid hq0
  clear hq0
  go_enter Tryd.func3, Tryd.ntmps3
  go_wp2_with (go_at_call 4; fail)
  refine Calls_nm ?_
  intro W1 hW
  have n : Nw w W1 := by rw [hW]; exact (Ch.refl _ _).alloc _
  replace NX := Lib.hid (NX.out.trans n)
  replace MX := Lib.hid (MX.out.kept n id)
  replace hm0 := Nat.lt_of_lt_of_le hm0 n.size
  replace HLA0 := Lib.hid (HLA0.out.kept n nof)
  have HB0 := Lib.hid (show W1.heap[w.heap.size]? = some (.cells #[.slice A0 la0.length e0, .int .i64 qa0, .int .i64 qb0, .int .i64 qc0, .string z0] 25 (0, 0)) from by rw [hW]; exact heap_alloc_eq _ rfl)
  clear hW n
  have SZ : w.heap.size + 0 < W1.heap.size := lt_of_heap HB0.out
  refine sanity_any _ _ MX.out ?_
  intro w2 n
  replace NX := Lib.hid (NX.out.trans n)
  replace MX := Lib.hid (MX.out.kept n id)
  replace hm0 := Nat.lt_of_lt_of_le hm0 n.size
  replace HLA0 := Lib.hid (HLA0.out.kept n nof)
  replace HB0 := Lib.hid (n.heap HB0.out id)
  replace SZ := Nat.lt_of_lt_of_le SZ n.size
  clear n
  have kHB00 : w2.cell? ⟨w.heap.size, 0, none⟩ = some (.slice A0 la0.length e0) := by rw [cell_of HB0.out]; rfl
  have jHB00 : ∀ o, (w2.alloc o).cell? ⟨w.heap.size, 0, none⟩ = some (.slice A0 la0.length e0) := fun o => cell_alloc_old o kHB00
  have kHB01 : w2.cell? ⟨w.heap.size, 1, none⟩ = some (.int .i64 qa0) := by rw [cell_of HB0.out]; rfl
  have jHB01 : ∀ o, (w2.alloc o).cell? ⟨w.heap.size, 1, none⟩ = some (.int .i64 qa0) := fun o => cell_alloc_old o kHB01
  have kHB02 : w2.cell? ⟨w.heap.size, 2, none⟩ = some (.int .i64 qb0) := by rw [cell_of HB0.out]; rfl
  have jHB02 : ∀ o, (w2.alloc o).cell? ⟨w.heap.size, 2, none⟩ = some (.int .i64 qb0) := fun o => cell_alloc_old o kHB02
  have kHB03 : w2.cell? ⟨w.heap.size, 3, none⟩ = some (.int .i64 qc0) := by rw [cell_of HB0.out]; rfl
  have jHB03 : ∀ o, (w2.alloc o).cell? ⟨w.heap.size, 3, none⟩ = some (.int .i64 qc0) := fun o => cell_alloc_old o kHB03
  have kHB04 : w2.cell? ⟨w.heap.size, 4, none⟩ = some (.string z0) := by rw [cell_of HB0.out]; rfl
  have jHB04 : ∀ o, (w2.alloc o).cell? ⟨w.heap.size, 4, none⟩ = some (.string z0) := fun o => cell_alloc_old o kHB04
  go_wp2_with (go_at_call 4; fail)
  clear kHB00 jHB00 kHB01 jHB01 kHB02 jHB02 kHB03 jHB03 kHB04 jHB04
  refine Calls_nm ?_
  intro W3 hW
  have n : Nw w2 W3 := by rw [hW]; first | exact Ch.refl _ _ | exact (Ch.refl _ _).alloc _ | exact ((Ch.refl _ _).alloc _).alloc _
  replace NX := Lib.hid (NX.out.trans n)
  replace MX := Lib.hid (MX.out.kept n id)
  replace hm0 := Nat.lt_of_lt_of_le hm0 n.size
  replace HLA0 := Lib.hid (HLA0.out.kept n nof)
  replace HB0 := Lib.hid (n.heap HB0.out id)
  replace SZ := Nat.lt_of_lt_of_le SZ n.size
  clear hW n
  clear HB0
  refine all_det w.heap.size _ la0 qa0 qb0 qc0 z0 _ _ (by omega) HLA0.out HQ0.out.1 HQ0.out.2.1 HQ0.out.2.2 ?_
  intro w4 n
  replace NX := Lib.hid (NX.out.trans n)
  replace MX := Lib.hid (MX.out.kept n id)
  replace hm0 := Nat.lt_of_lt_of_le hm0 n.size
  replace HLA0 := Lib.hid (HLA0.out.kept n nof)
  replace SZ := Nat.lt_of_lt_of_le SZ n.size
  have okS := all_ok la0 qa0 qb0 qc0 z0
  obtain ⟨S, hS⟩ : ∃ S, allB la0 qa0 qb0 qc0 z0 = S := ⟨_, rfl⟩
  rw [hS] at okS ⊢
  have OKS := Lib.hid okS
  clear hS okS n
  go_wp2_with (fail)
  refine wp_named ?_
  intro W5 hW
  have n : Nw w4 W5 := by rw [hW]; first | exact Ch.refl _ _ | exact (Ch.refl _ _).alloc _ | exact ((Ch.refl _ _).alloc _).alloc _
  replace NX := Lib.hid (NX.out.trans n)
  replace MX := Lib.hid (MX.out.kept n id)
  replace hm0 := Nat.lt_of_lt_of_le hm0 n.size
  replace HLA0 := Lib.hid (HLA0.out.kept n nof)
  replace SZ := Nat.lt_of_lt_of_le SZ n.size
  clear hW n
  go_loopw [12] (fun s12 wr => ∃ k : Nat, s12 = .int .i64 k ∧ k ≤ 4 ∧ Hid (Nw W5 wr)) (fun s12 _ => 4 - (intOf s12).toNat)
  case atStart => exact ⟨0, rfl, by omega, Lib.hid (Ch.refl _ _)⟩
  case round =>
    obtain ⟨k, rfl, hk_k, HC7⟩ := hrel
    have k0 : (0 : Int) ≤ (k : Int) := by omega
    obtain ⟨wl6, hwl6⟩ : ∃ W : World, W = wr := ⟨_, rfl⟩
    subst hwl6
    replace NX := Lib.hid (NX.out.trans HC7.out)
    replace MX := Lib.hid (MX.out.kept HC7.out id)
    replace hm0 := Nat.lt_of_lt_of_le hm0 HC7.out.size
    replace HLA0 := Lib.hid (HLA0.out.kept HC7.out nof)
    replace SZ := Nat.lt_of_lt_of_le SZ HC7.out.size
    by_cases k1 : k < 4
    · as_aux_lemma =>
      have k2 : (k : Int) < 4 := by omega
      have zS := OKS.out.1 k
      go_upto_region 4 with (fail)
      refine wp_region_lit ?_
      refine wpList_plain rfl fun K hK => ?_
      refine wp_idx4 _ _ S k rfl rfl (by rfl) (by rfl) (by omega) ?_
      refine hK _ _ ?_
      clear hK K
      try simp only [Act.put, List.getElem_toArray, List.getElem_cons_succ, List.getElem_cons_zero, List.setIfInBounds_toArray, List.set_cons_zero, List.set_cons_succ]
      obtain ⟨T, hT⟩ : ∃ T, S k = T := ⟨_, rfl⟩
      rw [hT] at zS ⊢
      clear hT
      go_wp2_with (go_at_call 4; fail)
      refine Calls_nm ?_
      intro W8 hW
      have n : Nw wl6 W8 := by rw [hW]; first | exact Ch.refl _ _ | exact (Ch.refl _ _).alloc _ | exact ((Ch.refl _ _).alloc _).alloc _
      replace NX := Lib.hid (NX.out.trans n)
      replace MX := Lib.hid (MX.out.kept n id)
      replace hm0 := Nat.lt_of_lt_of_le hm0 n.size
      replace HLA0 := Lib.hid (HLA0.out.kept n nof)
      replace SZ := Nat.lt_of_lt_of_le SZ n.size
      replace HC7 := Lib.hid (HC7.out.trans n)
      clear hW n
      refine ncheck_any _ _ _ (by omega) MX.out ?_
      intro w9 n
      replace NX := Lib.hid (NX.out.trans n)
      replace MX := Lib.hid (MX.out.kept n id)
      replace hm0 := Nat.lt_of_lt_of_le hm0 n.size
      replace HLA0 := Lib.hid (HLA0.out.kept n nof)
      replace SZ := Nat.lt_of_lt_of_le SZ n.size
      replace HC7 := Lib.hid (HC7.out.trans n)
      clear n
      go_wp2_with (go_at_call 4; fail)
      refine Calls_nm ?_
      intro W10 hW
      have n : Nw w9 W10 := by rw [hW]; first | exact Ch.refl _ _ | exact (Ch.refl _ _).alloc _ | exact ((Ch.refl _ _).alloc _).alloc _
      replace NX := Lib.hid (NX.out.trans n)
      replace MX := Lib.hid (MX.out.kept n id)
      replace hm0 := Nat.lt_of_lt_of_le hm0 n.size
      replace HLA0 := Lib.hid (HLA0.out.kept n nof)
      replace SZ := Nat.lt_of_lt_of_le SZ n.size
      replace HC7 := Lib.hid (HC7.out.trans n)
      clear hW n
      refine rcheck_any _ _ _ (by omega) ?_
      go_wp2_with (go_at_call 4; fail)
      refine Calls_nm ?_
      intro W11 hW
      have n : Nw W10 W11 := by rw [hW]; first | exact Ch.refl _ _ | exact (Ch.refl _ _).alloc _ | exact ((Ch.refl _ _).alloc _).alloc _
      replace NX := Lib.hid (NX.out.trans n)
      replace MX := Lib.hid (MX.out.kept n id)
      replace hm0 := Nat.lt_of_lt_of_le hm0 n.size
      replace HLA0 := Lib.hid (HLA0.out.kept n nof)
      replace SZ := Nat.lt_of_lt_of_le SZ n.size
      replace HC7 := Lib.hid (HC7.out.trans n)
      clear hW n
      refine nruns_any _ _ _ (by omega) ?_
      intro w12 v hrow n
      replace NX := Lib.hid (NX.out.trans n)
      replace MX := Lib.hid (MX.out.kept n id)
      replace hm0 := Nat.lt_of_lt_of_le hm0 n.size
      replace HLA0 := Lib.hid (HLA0.out.kept n nof)
      replace SZ := Nat.lt_of_lt_of_le SZ n.size
      replace HC7 := Lib.hid (HC7.out.trans n)
      obtain ⟨A8, c8, rfl⟩ := hrow.form
      have HI8 := Lib.hid hrow.isC
      clear hrow n
      go_wp2_with (go_at_call 4; fail)
      refine Calls_nm ?_
      intro W13 hW
      have n : Nw w12 W13 := by rw [hW]; first | exact Ch.refl _ _ | exact (Ch.refl _ _).alloc _ | exact ((Ch.refl _ _).alloc _).alloc _
      replace NX := Lib.hid (NX.out.trans n)
      replace MX := Lib.hid (MX.out.kept n id)
      replace hm0 := Nat.lt_of_lt_of_le hm0 n.size
      replace HLA0 := Lib.hid (HLA0.out.kept n nof)
      replace SZ := Nat.lt_of_lt_of_le SZ n.size
      replace HC7 := Lib.hid (HC7.out.trans n)
      replace HI8 := Lib.hid ((HI8.out.kept n nof).hi n.size)
      clear hW n
      refine rruns_any _ _ _ (by omega) ?_
      intro w14 v hrow n
      replace NX := Lib.hid (NX.out.trans n)
      replace MX := Lib.hid (MX.out.kept n id)
      replace hm0 := Nat.lt_of_lt_of_le hm0 n.size
      replace HLA0 := Lib.hid (HLA0.out.kept n nof)
      replace SZ := Nat.lt_of_lt_of_le SZ n.size
      replace HC7 := Lib.hid (HC7.out.trans n)
      replace HI8 := Lib.hid ((HI8.out.kept n nof).hi n.size)
      obtain ⟨A9, c9, rfl⟩ := hrow.form
      have HI9 := Lib.hid hrow.isC
      clear hrow n
      go_wp2_with (go_at_call 4; fail)
      refine Calls_nm ?_
      intro W15 hW
      have n : Nw w14 W15 := by rw [hW]; first | exact Ch.refl _ _ | exact (Ch.refl _ _).alloc _ | exact ((Ch.refl _ _).alloc _).alloc _
      replace NX := Lib.hid (NX.out.trans n)
      replace MX := Lib.hid (MX.out.kept n id)
      replace hm0 := Nat.lt_of_lt_of_le hm0 n.size
      replace HLA0 := Lib.hid (HLA0.out.kept n nof)
      replace SZ := Nat.lt_of_lt_of_le SZ n.size
      replace HC7 := Lib.hid (HC7.out.trans n)
      replace HI8 := Lib.hid ((HI8.out.kept n nof).hi n.size)
      replace HI9 := Lib.hid ((HI9.out.kept n nof).hi n.size)
      clear hW n
      have rl := runs_len T.data.toList
      rw [ba_len] at rl
      refine rsame_any (runsM T.data.toList) (runsM T.data.toList) _ _ _ _ _ _ HI8.out HI9.out (by omega) (by omega) ?_
      rw [decide_eq_true rfl]
      intro w16 n
      replace NX := Lib.hid (NX.out.trans n)
      replace MX := Lib.hid (MX.out.kept n id)
      replace hm0 := Nat.lt_of_lt_of_le hm0 n.size
      replace HLA0 := Lib.hid (HLA0.out.kept n nof)
      replace SZ := Nat.lt_of_lt_of_le SZ n.size
      replace HC7 := Lib.hid (HC7.out.trans n)
      replace HI8 := Lib.hid ((HI8.out.kept n nof).hi n.size)
      replace HI9 := Lib.hid ((HI9.out.kept n nof).hi n.size)
      clear n
      clear HI8 HI9
      go_wp2_with (fail)
      refine wp_named ?_
      intro W17 hW
      have n : Nw w16 W17 := by rw [hW]; first | exact Ch.refl _ _ | exact (Ch.refl _ _).alloc _ | exact ((Ch.refl _ _).alloc _).alloc _
      replace NX := Lib.hid (NX.out.trans n)
      replace MX := Lib.hid (MX.out.kept n id)
      replace hm0 := Nat.lt_of_lt_of_le hm0 n.size
      replace HLA0 := Lib.hid (HLA0.out.kept n nof)
      replace SZ := Nat.lt_of_lt_of_le SZ n.size
      replace HC7 := Lib.hid (HC7.out.trans n)
      clear hW n
      go_loopw [8] (fun s8 wr => ∃ j : Nat, s8 = .int .i64 j ∧ j ≤ T.size ∧ Hid (Nw W17 wr)) (fun s8 _ => T.size - (intOf s8).toNat)
      case atStart => exact ⟨0, rfl, by omega, Lib.hid (Ch.refl _ _)⟩
      case round =>
        obtain ⟨j, rfl, hj, HC9⟩ := hrel
        have j0 : (0 : Int) ≤ (j : Int) := by omega
        obtain ⟨wq, hwq⟩ : ∃ W : World, W = wr := ⟨_, rfl⟩
        subst hwq
        replace NX := Lib.hid (NX.out.trans HC9.out)
        replace MX := Lib.hid (MX.out.kept HC9.out id)
        replace hm0 := Nat.lt_of_lt_of_le hm0 HC9.out.size
        replace HLA0 := Lib.hid (HLA0.out.kept HC9.out nof)
        replace SZ := Nat.lt_of_lt_of_le SZ HC9.out.size
        replace HC7 := Lib.hid (HC7.out.trans HC9.out)
        by_cases j1 : j < T.size
        · as_aux_lemma =>
          have j2 : (j : Int) < (T.size : Int) := by omega
          obtain ⟨x, hx⟩ : ∃ x, T.data.toList[j]? = some x := ⟨_, List.getElem?_eq_getElem (by rw [ba_len]; exact j1)⟩
          go_upto_region 10 with (fail)
          obtain ⟨u, hu⟩ : ∃ u, sym x = u := ⟨_, rfl⟩
          have HU := Lib.hid hu
          obtain ⟨t, ht⟩ : ∃ t : Nat, scr x = t := ⟨_, rfl⟩
          have HT := Lib.hid ht
          clear hu ht
          have eu : (u != u) = false := by simp
          have et : ((t : Int) != (t : Int)) = false := by simp
          refine wp_named ?_
          intro W18 hW
          have n : Nw wq W18 := by rw [hW]; first | exact Ch.refl _ _ | exact (Ch.refl _ _).alloc _
          replace NX := Lib.hid (NX.out.trans n)
          replace MX := Lib.hid (MX.out.kept n id)
          replace hm0 := Nat.lt_of_lt_of_le hm0 n.size
          replace HLA0 := Lib.hid (HLA0.out.kept n nof)
          replace SZ := Nat.lt_of_lt_of_le SZ n.size
          replace HC7 := Lib.hid (HC7.out.trans n)
          replace HC9 := Lib.hid (HC9.out.trans n)
          clear hW n
          refine wp_region_V (F := fun w' => True) (opsOf Tryd.f3 10) 20 20 (by kernel_rfl) (by kernel_rfl) (by kernel_rfl) (fun w w' h n => True.intro) True.intro (fun HOPS HCL hHeld => ?_)
          refine wpU_named ?_
          intro W19 hW
          try rw [← hW] at hHeld
          have n : Nw W18 W19 := by rw [hW]; exact (Ch.refl _ _).drew
          replace NX := Lib.hid (NX.out.trans n)
          replace MX := Lib.hid (MX.out.kept n id)
          replace hm0 := Nat.lt_of_lt_of_le hm0 n.size
          replace HLA0 := Lib.hid (HLA0.out.kept n nof)
          replace SZ := Nat.lt_of_lt_of_le SZ n.size
          replace HC7 := Lib.hid (HC7.out.trans n)
          replace HC9 := Lib.hid (HC9.out.trans n)
          clear hW n
          first | (refine wpU_takeB (i := 0) (v := ?_) HOPS rfl (by kernel_rfl) (fun _ _ _ h => h) HCL (goes_read (by rfl) ?hy) ?_; case hy => (intro w hSw; (try dsimp only at hSw); go_simp; (try with_reducible rfl))) | (refine wpU_takeB (i := 0) (v := _) HOPS rfl (by kernel_rfl) (fun _ _ _ h => h) HCL (goes_not (by rfl)) ?_)
          try simp only [Act.put, List.getElem_toArray, List.getElem_cons_succ, List.getElem_cons_zero, List.setIfInBounds_toArray, List.set_cons_zero, List.set_cons_succ]
          first | (refine wpU_takeB (i := 1) (v := ?_) HOPS rfl (by kernel_rfl) (fun _ _ _ h => h) HCL (goes_read (by rfl) ?hy) ?_; case hy => (intro w hSw; (try dsimp only at hSw); go_simp; (try with_reducible rfl))) | (refine wpU_takeB (i := 1) (v := _) HOPS rfl (by kernel_rfl) (fun _ _ _ h => h) HCL (goes_not (by rfl)) ?_)
          try simp only [Act.put, List.getElem_toArray, List.getElem_cons_succ, List.getElem_cons_zero, List.setIfInBounds_toArray, List.set_cons_zero, List.set_cons_succ]
          first | (refine wpU_takeB (i := 4) (v := ?_) HOPS rfl (by kernel_rfl) (fun _ _ _ h => h) HCL (goes_read (by rfl) ?hy) ?_; case hy => (intro w hSw; (try dsimp only at hSw); go_simp; (try with_reducible rfl))) | (refine wpU_takeB (i := 4) (v := _) HOPS rfl (by kernel_rfl) (fun _ _ _ h => h) HCL (goes_not (by rfl)) ?_)
          try simp only [Act.put, List.getElem_toArray, List.getElem_cons_succ, List.getElem_cons_zero, List.setIfInBounds_toArray, List.set_cons_zero, List.set_cons_succ]
          first | (refine wpU_takeB (i := 5) (v := ?_) HOPS rfl (by kernel_rfl) (fun _ _ _ h => h) HCL (goes_read (by rfl) ?hy) ?_; case hy => (intro w hSw; (try dsimp only at hSw); go_simp; (try with_reducible rfl))) | (refine wpU_takeB (i := 5) (v := _) HOPS rfl (by kernel_rfl) (fun _ _ _ h => h) HCL (goes_not (by rfl)) ?_)
          try simp only [Act.put, List.getElem_toArray, List.getElem_cons_succ, List.getElem_cons_zero, List.setIfInBounds_toArray, List.set_cons_zero, List.set_cons_succ]
          refine wpU_takeB (i := 2) HOPS rfl (by kernel_rfl) (fun _ _ _ h => h) HCL (goes_idx _ _ _ T j x _ (by rfl) rfl Tryd.underlying9 (by rfl) (by rfl) hx rfl) ?_
          try simp only [Act.put, List.getElem_toArray, List.getElem_cons_succ, List.getElem_cons_zero, List.setIfInBounds_toArray, List.set_cons_zero, List.set_cons_succ]
          refine wpU_takeB (i := 3) HOPS rfl (by kernel_rfl) (fun _ _ _ h => h) HCL (goes_fn (v := (.int .i64 u)) 16 _ _ _ #[.int .u8 (x.toNat : Nat)] (by rfl) rfl (by kernel_rfl) (by kernel_rfl) (by kernel_rfl) (fun wq n R hR => ?_)) ?_
          · exact symbol_any x _ _ (by rw [HU.out]; exact hR _ (Ch.refl _ _))
          try simp only [Act.put, List.getElem_toArray, List.getElem_cons_succ, List.getElem_cons_zero, List.setIfInBounds_toArray, List.set_cons_zero, List.set_cons_succ]
          refine wpU_takeB (i := 6) HOPS rfl (by kernel_rfl) (fun _ _ _ h => h) HCL (goes_idx _ _ _ T j x _ (by rfl) rfl Tryd.underlying9 (by rfl) (by rfl) hx rfl) ?_
          try simp only [Act.put, List.getElem_toArray, List.getElem_cons_succ, List.getElem_cons_zero, List.setIfInBounds_toArray, List.set_cons_zero, List.set_cons_succ]
          refine wpU_takeB (i := 7) HOPS rfl (by kernel_rfl) (fun _ _ _ h => h) HCL (goes_fn (v := (.int .i64 u)) 17 _ _ _ #[.int .u8 (x.toNat : Nat)] (by rfl) rfl (by kernel_rfl) (by kernel_rfl) (by kernel_rfl) (fun wq n R hR => ?_)) ?_
          · exact rsymbol_any x _ _ (by rw [HU.out]; exact hR _ (Ch.refl _ _))
          try simp only [Act.put, List.getElem_toArray, List.getElem_cons_succ, List.getElem_cons_zero, List.setIfInBounds_toArray, List.set_cons_zero, List.set_cons_succ]
          first | (refine wpU_takeB (i := 8) (v := ?_) HOPS rfl (by kernel_rfl) (fun _ _ _ h => h) HCL (goes_read (by rfl) ?hy) ?_; case hy => (intro w hSw; (try dsimp only at hSw); go_simp; (try with_reducible rfl))) | (refine wpU_takeB (i := 8) (v := _) HOPS rfl (by kernel_rfl) (fun _ _ _ h => h) HCL (goes_not (by rfl)) ?_)
          try simp only [Act.put, List.getElem_toArray, List.getElem_cons_succ, List.getElem_cons_zero, List.setIfInBounds_toArray, List.set_cons_zero, List.set_cons_succ]
          first | (refine wpU_takeB (i := 9) (v := ?_) HOPS rfl (by kernel_rfl) (fun _ _ _ h => h) HCL (goes_read (by rfl) ?hy) ?_; case hy => (intro w hSw; (try dsimp only at hSw); go_simp; (try with_reducible rfl))) | (refine wpU_takeB (i := 9) (v := _) HOPS rfl (by kernel_rfl) (fun _ _ _ h => h) HCL (goes_not (by rfl)) ?_)
          try simp only [Act.put, List.getElem_toArray, List.getElem_cons_succ, List.getElem_cons_zero, List.setIfInBounds_toArray, List.set_cons_zero, List.set_cons_succ]
          first | (refine wpU_takeB (i := 10) (v := ?_) HOPS rfl (by kernel_rfl) (fun _ _ _ h => h) HCL (goes_read (by rfl) ?hy) ?_; case hy => (intro w hSw; (try dsimp only at hSw); go_simp; (try with_reducible rfl))) | (refine wpU_takeB (i := 10) (v := _) HOPS rfl (by kernel_rfl) (fun _ _ _ h => h) HCL (goes_not (by rfl)) ?_)
          try simp only [Act.put, List.getElem_toArray, List.getElem_cons_succ, List.getElem_cons_zero, List.setIfInBounds_toArray, List.set_cons_zero, List.set_cons_succ]
          first | (refine wpU_takeB (i := 11) (v := ?_) HOPS rfl (by kernel_rfl) (fun _ _ _ h => h) HCL (goes_read (by rfl) ?hy) ?_; case hy => (intro w hSw; (try dsimp only at hSw); go_simp; (try with_reducible rfl))) | (refine wpU_takeB (i := 11) (v := _) HOPS rfl (by kernel_rfl) (fun _ _ _ h => h) HCL (goes_not (by rfl)) ?_)
          try simp only [Act.put, List.getElem_toArray, List.getElem_cons_succ, List.getElem_cons_zero, List.setIfInBounds_toArray, List.set_cons_zero, List.set_cons_succ]
          first | (refine wpU_takeB (i := 14) (v := ?_) HOPS rfl (by kernel_rfl) (fun _ _ _ h => h) HCL (goes_read (by rfl) ?hy) ?_; case hy => (intro w hSw; (try dsimp only at hSw); go_simp; (try with_reducible rfl))) | (refine wpU_takeB (i := 14) (v := _) HOPS rfl (by kernel_rfl) (fun _ _ _ h => h) HCL (goes_not (by rfl)) ?_)
          try simp only [Act.put, List.getElem_toArray, List.getElem_cons_succ, List.getElem_cons_zero, List.setIfInBounds_toArray, List.set_cons_zero, List.set_cons_succ]
          first | (refine wpU_takeB (i := 15) (v := ?_) HOPS rfl (by kernel_rfl) (fun _ _ _ h => h) HCL (goes_read (by rfl) ?hy) ?_; case hy => (intro w hSw; (try dsimp only at hSw); go_simp; (try with_reducible rfl))) | (refine wpU_takeB (i := 15) (v := _) HOPS rfl (by kernel_rfl) (fun _ _ _ h => h) HCL (goes_not (by rfl)) ?_)
          try simp only [Act.put, List.getElem_toArray, List.getElem_cons_succ, List.getElem_cons_zero, List.setIfInBounds_toArray, List.set_cons_zero, List.set_cons_succ]
          refine wpU_takeB (i := 12) HOPS rfl (by kernel_rfl) (fun _ _ _ h => h) HCL (goes_idx _ _ _ T j x _ (by rfl) rfl Tryd.underlying9 (by rfl) (by rfl) hx rfl) ?_
          try simp only [Act.put, List.getElem_toArray, List.getElem_cons_succ, List.getElem_cons_zero, List.setIfInBounds_toArray, List.set_cons_zero, List.set_cons_succ]
          refine wpU_takeB (i := 13) HOPS rfl (by kernel_rfl) (fun _ _ _ h => h) HCL (goes_fn (v := (.int .i64 (t : Nat))) 18 _ _ _ #[.int .u8 (x.toNat : Nat)] (by rfl) rfl (by kernel_rfl) (by kernel_rfl) (by kernel_rfl) (fun wq n R hR => ?_)) ?_
          · exact script_any x _ _ (by rw [HT.out]; exact hR _ (Ch.refl _ _))
          try simp only [Act.put, List.getElem_toArray, List.getElem_cons_succ, List.getElem_cons_zero, List.setIfInBounds_toArray, List.set_cons_zero, List.set_cons_succ]
          refine wpU_takeB (i := 16) HOPS rfl (by kernel_rfl) (fun _ _ _ h => h) HCL (goes_idx _ _ _ T j x _ (by rfl) rfl Tryd.underlying9 (by rfl) (by rfl) hx rfl) ?_
          try simp only [Act.put, List.getElem_toArray, List.getElem_cons_succ, List.getElem_cons_zero, List.setIfInBounds_toArray, List.set_cons_zero, List.set_cons_succ]
          refine wpU_takeB (i := 17) HOPS rfl (by kernel_rfl) (fun _ _ _ h => h) HCL (goes_fn (v := (.int .i64 (t : Nat))) 19 _ _ _ #[.int .u8 (x.toNat : Nat)] (by rfl) rfl (by kernel_rfl) (by kernel_rfl) (by kernel_rfl) (fun wq n R hR => ?_)) ?_
          · exact rscript_any x _ _ (by rw [HT.out]; exact hR _ (Ch.refl _ _))
          try simp only [Act.put, List.getElem_toArray, List.getElem_cons_succ, List.getElem_cons_zero, List.setIfInBounds_toArray, List.set_cons_zero, List.set_cons_succ]
          first | (refine wpU_takeB (i := 18) (v := ?_) HOPS rfl (by kernel_rfl) (fun _ _ _ h => h) HCL (goes_read (by rfl) ?hy) ?_; case hy => (intro w hSw; (try dsimp only at hSw); go_simp; (try with_reducible rfl))) | (refine wpU_takeB (i := 18) (v := _) HOPS rfl (by kernel_rfl) (fun _ _ _ h => h) HCL (goes_not (by rfl)) ?_)
          try simp only [Act.put, List.getElem_toArray, List.getElem_cons_succ, List.getElem_cons_zero, List.setIfInBounds_toArray, List.set_cons_zero, List.set_cons_succ]
          first | (refine wpU_takeB (i := 19) (v := ?_) HOPS rfl (by kernel_rfl) (fun _ _ _ h => h) HCL (goes_read (by rfl) ?hy) ?_; case hy => (intro w hSw; (try dsimp only at hSw); go_simp; (try with_reducible rfl))) | (refine wpU_takeB (i := 19) (v := _) HOPS rfl (by kernel_rfl) (fun _ _ _ h => h) HCL (goes_not (by rfl)) ?_)
          try simp only [Act.put, List.getElem_toArray, List.getElem_cons_succ, List.getElem_cons_zero, List.setIfInBounds_toArray, List.set_cons_zero, List.set_cons_succ]
          refine wpU_done (by kernel_rfl) (fun w20 hle => ?_) _
          have n := (hle.ahead (by kernel_rfl)).1
          replace NX := Lib.hid (NX.out.trans n)
          replace MX := Lib.hid (MX.out.kept n id)
          replace hm0 := Nat.lt_of_lt_of_le hm0 n.size
          replace HLA0 := Lib.hid (HLA0.out.kept n nof)
          replace SZ := Nat.lt_of_lt_of_le SZ n.size
          replace HC7 := Lib.hid (HC7.out.trans n)
          replace HC9 := Lib.hid (HC9.out.trans n)
          clear n
          clear HOPS HCL hle
          repeat clear hHeld
          go_wp2_with (fail)
          refine ⟨⟨j + 1, by go_num, by omega, Lib.hid HC9.out⟩, by simp [intOf]; omega⟩
        · as_aux_lemma =>
          have j2 : ¬ (j : Int) < (T.size : Int) := by omega
          go_wp2_with (fail)
          refine ⟨⟨k + 1, by go_num, by omega, Lib.hid HC7.out⟩, by simp [intOf]; omega⟩
    · as_aux_lemma =>
      have k2 : ¬ (k : Int) < 4 := by omega
      go_wp2_with (go_at_call 4; fail)
      refine symbol_any b _ _ ?_
      go_wp2_with (go_at_call 4; fail)
      refine rsymbol_any b _ _ ?_
      go_wp2_with (go_at_call 4; fail)
      refine script_any b _ _ ?_
      go_wp2_with (go_at_call 4; fail)
      refine rscript_any b _ _ ?_
      go_wp2_with (fail)
      exact ret_b (HR.out _ NX.out) (by simp)

end Go.Proofs.YtnibgjpbijlhbaaDoor
