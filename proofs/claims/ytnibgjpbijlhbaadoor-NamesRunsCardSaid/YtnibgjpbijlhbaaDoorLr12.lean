/-
  The contract of the law NamesRuns: it returns true.
-/
import Derived.Test.YtnibgjpbijlhbaaDoorLw12
import Derived.Test.YtnibgjpbijlhbaaDoorRegU
namespace Go.Proofs.YtnibgjpbijlhbaaDoor
open Go.RowKit
set_option linter.unusedVariables false
set_option linter.unusedSimpArgs false
set_option maxRecDepth 100000

set_option maxHeartbeats 16000000 in
theorem law_runs (lo : Nat) (va0 : Value) (la0 : List Int) (qa0 qb0 qc0 : Int) (z0 : ByteArray) (b1 b2 : UInt8) (w : World) (R : Ending → World → Prop) (hlo : lo ≤ w.heap.size) (hla0 : IsInts w lo va0 la0) (hq0 : wfI qa0 ∧ wfI qb0 ∧ wfI qc0) 
    (hmx : MaxOk w) (hR : ∀ w', Nw w w' → R (.returned (.bool true)) w') : Calls Tryd.prog 4 #[.agg #[va0, .int .i64 qa0, .int .i64 qb0, .int .i64 qc0, .string z0], .int .u8 (b1.toNat : Nat), .int .u8 (b2.toNat : Nat)] w R := by
  have HR := Lib.hid hR
  clear hR
  have NX := Lib.hid (Ch.refl (fun _ => False) w)
  have MX := Lib.hid hmx
  have hm0 := hmx.lt
  clear hmx
  have HLA0 := Lib.hid (hla0.hi hlo)
  obtain ⟨A0, e0, rfl, -⟩ := hla0
  have HQ0 := Lib.hid hq0
  clear hq0
  go_enter Tryd.func4, Tryd.ntmps4
  go_wp2_with (go_at_call 3; fail)
  refine Calls_nm ?_
  intro W1 hW
  have n : Nw w W1 := by rw [hW]; exact (Ch.refl _ _).alloc _
  replace NX := Lib.hid (NX.out.trans n)
  replace MX := Lib.hid (MX.out.kept n id)
  replace hm0 := Nat.lt_of_lt_of_le hm0 n.size
  replace HLA0 := Lib.hid (HLA0.out.kept n nof)
  have HB0 := Lib.hid (show W1.heap[w.heap.size]? = some (.cells #[.slice A0 la0.length e0, .int .i64 qa0, .int .i64 qb0, .int .i64 qc0, .string z0] 25 (0, 0)) from by rw [hW]; exact heap_alloc_eq _ rfl)
  clear hW n
  have SZ : w.heap.size + 0 < W1.heap.size := lt_of_heap HB0.out
  refine sanity_any _ _ MX.out ?_
  intro w2 n
  replace NX := Lib.hid (NX.out.trans n)
  replace MX := Lib.hid (MX.out.kept n id)
  replace hm0 := Nat.lt_of_lt_of_le hm0 n.size
  replace HLA0 := Lib.hid (HLA0.out.kept n nof)
  replace HB0 := Lib.hid (n.heap HB0.out id)
  replace SZ := Nat.lt_of_lt_of_le SZ n.size
  clear n
  have kHB00 : w2.cell? ⟨w.heap.size, 0, none⟩ = some (.slice A0 la0.length e0) := by rw [cell_of HB0.out]; rfl
  have jHB00 : ∀ o, (w2.alloc o).cell? ⟨w.heap.size, 0, none⟩ = some (.slice A0 la0.length e0) := fun o => cell_alloc_old o kHB00
  have kHB01 : w2.cell? ⟨w.heap.size, 1, none⟩ = some (.int .i64 qa0) := by rw [cell_of HB0.out]; rfl
  have jHB01 : ∀ o, (w2.alloc o).cell? ⟨w.heap.size, 1, none⟩ = some (.int .i64 qa0) := fun o => cell_alloc_old o kHB01
  have kHB02 : w2.cell? ⟨w.heap.size, 2, none⟩ = some (.int .i64 qb0) := by rw [cell_of HB0.out]; rfl
  have jHB02 : ∀ o, (w2.alloc o).cell? ⟨w.heap.size, 2, none⟩ = some (.int .i64 qb0) := fun o => cell_alloc_old o kHB02
  have kHB03 : w2.cell? ⟨w.heap.size, 3, none⟩ = some (.int .i64 qc0) := by rw [cell_of HB0.out]; rfl
  have jHB03 : ∀ o, (w2.alloc o).cell? ⟨w.heap.size, 3, none⟩ = some (.int .i64 qc0) := fun o => cell_alloc_old o kHB03
  have kHB04 : w2.cell? ⟨w.heap.size, 4, none⟩ = some (.string z0) := by rw [cell_of HB0.out]; rfl
  have jHB04 : ∀ o, (w2.alloc o).cell? ⟨w.heap.size, 4, none⟩ = some (.string z0) := fun o => cell_alloc_old o kHB04
  go_wp2_with (go_at_call 3; fail)
  clear kHB00 jHB00 kHB01 jHB01 kHB02 jHB02 kHB03 jHB03 kHB04 jHB04
  refine Calls_nm ?_
  intro W3 hW
  have n : Nw w2 W3 := by rw [hW]; first | exact Ch.refl _ _ | exact (Ch.refl _ _).alloc _ | exact ((Ch.refl _ _).alloc _).alloc _
  replace NX := Lib.hid (NX.out.trans n)
  replace MX := Lib.hid (MX.out.kept n id)
  replace hm0 := Nat.lt_of_lt_of_le hm0 n.size
  replace HLA0 := Lib.hid (HLA0.out.kept n nof)
  replace HB0 := Lib.hid (n.heap HB0.out id)
  replace SZ := Nat.lt_of_lt_of_le SZ n.size
  clear hW n
  clear HB0
  refine all_det w.heap.size _ la0 qa0 qb0 qc0 z0 _ _ (by omega) HLA0.out HQ0.out.1 HQ0.out.2.1 HQ0.out.2.2 ?_
  intro w4 n
  replace NX := Lib.hid (NX.out.trans n)
  replace MX := Lib.hid (MX.out.kept n id)
  replace hm0 := Nat.lt_of_lt_of_le hm0 n.size
  replace HLA0 := Lib.hid (HLA0.out.kept n nof)
  replace SZ := Nat.lt_of_lt_of_le SZ n.size
  have okS := all_ok la0 qa0 qb0 qc0 z0
  obtain ⟨S, hS⟩ : ∃ S, allB la0 qa0 qb0 qc0 z0 = S := ⟨_, rfl⟩
  rw [hS] at okS ⊢
  have OKS := Lib.hid okS
  clear hS okS n
  go_wp2_with (fail)
  refine wp_named ?_
  intro W5 hW
  have n : Nw w4 W5 := by rw [hW]; first | exact Ch.refl _ _ | exact (Ch.refl _ _).alloc _ | exact ((Ch.refl _ _).alloc _).alloc _
  replace NX := Lib.hid (NX.out.trans n)
  replace MX := Lib.hid (MX.out.kept n id)
  replace hm0 := Nat.lt_of_lt_of_le hm0 n.size
  replace HLA0 := Lib.hid (HLA0.out.kept n nof)
  replace SZ := Nat.lt_of_lt_of_le SZ n.size
  clear hW n
  go_loopw [20] (fun s20 wr => ∃ k : Nat, s20 = .int .i64 k ∧ k ≤ 4 ∧ Hid (Nw W5 wr)) (fun s20 _ => 4 - (intOf s20).toNat)
  case atStart => exact ⟨0, rfl, by omega, Lib.hid (Ch.refl _ _)⟩
  case round =>
    obtain ⟨k, rfl, hk_k, HC7⟩ := hrel
    have k0 : (0 : Int) ≤ (k : Int) := by omega
    obtain ⟨wl6, hwl6⟩ : ∃ W : World, W = wr := ⟨_, rfl⟩
    subst hwl6
    replace NX := Lib.hid (NX.out.trans HC7.out)
    replace MX := Lib.hid (MX.out.kept HC7.out id)
    replace hm0 := Nat.lt_of_lt_of_le hm0 HC7.out.size
    replace HLA0 := Lib.hid (HLA0.out.kept HC7.out nof)
    replace SZ := Nat.lt_of_lt_of_le SZ HC7.out.size
    by_cases k1 : k < 4
    · as_aux_lemma =>
      have k2 : (k : Int) < 4 := by omega
      have zS := OKS.out.1 k
      go_upto_region 4 with (fail)
      refine wp_region_lit ?_
      refine wpList_plain rfl fun K hK => ?_
      refine wp_idx4 _ _ S k rfl rfl (by rfl) (by rfl) (by omega) ?_
      refine hK _ _ ?_
      clear hK K
      try simp only [Act.put, List.getElem_toArray, List.getElem_cons_succ, List.getElem_cons_zero, List.setIfInBounds_toArray, List.set_cons_zero, List.set_cons_succ]
      obtain ⟨T, hT⟩ : ∃ T, S k = T := ⟨_, rfl⟩
      rw [hT] at zS ⊢
      clear hT
      go_wp2_with (go_at_call 3; fail)
      refine Calls_nm ?_
      intro W8 hW
      have n : Nw wl6 W8 := by rw [hW]; first | exact Ch.refl _ _ | exact (Ch.refl _ _).alloc _ | exact ((Ch.refl _ _).alloc _).alloc _
      replace NX := Lib.hid (NX.out.trans n)
      replace MX := Lib.hid (MX.out.kept n id)
      replace hm0 := Nat.lt_of_lt_of_le hm0 n.size
      replace HLA0 := Lib.hid (HLA0.out.kept n nof)
      replace SZ := Nat.lt_of_lt_of_le SZ n.size
      replace HC7 := Lib.hid (HC7.out.trans n)
      clear hW n
      refine nruns_any _ _ _ (by omega) ?_
      intro w9 v hrow n
      replace NX := Lib.hid (NX.out.trans n)
      replace MX := Lib.hid (MX.out.kept n id)
      replace hm0 := Nat.lt_of_lt_of_le hm0 n.size
      replace HLA0 := Lib.hid (HLA0.out.kept n nof)
      replace SZ := Nat.lt_of_lt_of_le SZ n.size
      replace HC7 := Lib.hid (HC7.out.trans n)
      have rl := runs_len T.data.toList
      rw [ba_len] at rl
      have HAT := Lib.hid (fun i r => runs_at (s := T.data.toList) (i := i) (r := r))
      have HEN := Lib.hid (runs_end T.data.toList)
      obtain ⟨L, hL⟩ : ∃ L, T.data.toList = L := ⟨_, rfl⟩
      have HL := Lib.hid hL
      have hlen : L.length = T.size := by rw [← hL]; exact ba_len T
      rw [hL] at HAT HEN rl hrow
      clear hL
      obtain ⟨X, hX⟩ : ∃ X, runsM L = X := ⟨_, rfl⟩
      rw [hX] at HAT HEN rl hrow
      clear hX
      obtain ⟨A8, c8, rfl⟩ := hrow.form
      have HI8 := Lib.hid hrow.isC
      clear hrow n
      go_wp2_with (fail)
      refine wp_named ?_
      intro W10 hW
      have n : Nw w9 W10 := by rw [hW]; first | exact Ch.refl _ _ | exact (Ch.refl _ _).alloc _ | exact ((Ch.refl _ _).alloc _).alloc _
      replace NX := Lib.hid (NX.out.trans n)
      replace MX := Lib.hid (MX.out.kept n id)
      replace hm0 := Nat.lt_of_lt_of_le hm0 n.size
      replace HLA0 := Lib.hid (HLA0.out.kept n nof)
      replace SZ := Nat.lt_of_lt_of_le SZ n.size
      replace HC7 := Lib.hid (HC7.out.trans n)
      replace HI8 := Lib.hid ((HI8.out.kept n nof).hi n.size)
      clear hW n
      go_loopw [10, 11, 26] (fun s10 s11 s26 wr => ∃ i : Nat, s26 = .int .i64 i ∧ s10 = .int .i64 (tillB X i : Nat) ∧ s11 = .int .i64 (famB X i) ∧ i ≤ X.length ∧ Hid (Nw W10 wr)) (fun _ _ s26 _ => X.length - (intOf s26).toNat)
      case atStart => exact ⟨0, rfl, rfl, rfl, by omega, Lib.hid (Ch.refl _ _)⟩
      case round =>
        obtain ⟨i, rfl, rfl, rfl, hi, HC8⟩ := hrel
        have i0 : (0 : Int) ≤ (i : Int) := by omega
        obtain ⟨wi, hwi⟩ : ∃ W : World, W = wr := ⟨_, rfl⟩
        subst hwi
        replace NX := Lib.hid (NX.out.trans HC8.out)
        replace MX := Lib.hid (MX.out.kept HC8.out id)
        replace hm0 := Nat.lt_of_lt_of_le hm0 HC8.out.size
        replace HLA0 := Lib.hid (HLA0.out.kept HC8.out nof)
        replace SZ := Nat.lt_of_lt_of_le SZ HC8.out.size
        replace HC7 := Lib.hid (HC7.out.trans HC8.out)
        replace HI8 := Lib.hid ((HI8.out.kept HC8.out nof).hi HC8.out.size)
        by_cases i1 : i < X.length
        · as_aux_lemma =>
          have i2 : (i : Int) < (X.length : Int) := by omega
          obtain ⟨⟨a, f, t⟩, hp⟩ : ∃ p, X[i]? = some p := ⟨_, List.getElem?_eq_getElem i1⟩
          obtain ⟨r1, r2, r3, r4, r5⟩ := HAT.out i _ hp
          obtain ⟨s1, s2⟩ := tillB_succ hp
          simp only at r1 r2 r3 r4 r5 s1 s2
          rw [← r1]
          obtain ⟨bf, hbf⟩ : ∃ z, famB X i = z := ⟨_, rfl⟩
          rw [hbf] at r4 ⊢
          have HS5 := Lib.hid r5
          have HS1 := Lib.hid s1
          have HS2 := Lib.hid s2
          have e4 : ((a : Int) == bf) = false := by simp [r4]
          obtain ⟨g, d0, d1, d2, rfl⟩ := isC_rn HI8.out hp
          simp only at d0 d1 d2
          clear hp hbf r1 r5 s1 s2 r4
          have e1 : ((f : Int) != (f : Int)) = false := by simp
          have t1 : ¬ (t : Int) ≤ (f : Int) := by omega
          have t2 : ¬ (t : Int) > (T.size : Int) := by omega
          have t3 : ¬ (T.size : Int) < (t : Int) := by omega
          go_upto_region 10 with (fail)
          refine wp_named ?_
          intro W11 hW
          have n : Nw wi W11 := by rw [hW]; exact (Ch.refl _ _).alloc _
          replace NX := Lib.hid (NX.out.trans n)
          replace MX := Lib.hid (MX.out.kept n id)
          replace hm0 := Nat.lt_of_lt_of_le hm0 n.size
          replace HLA0 := Lib.hid (HLA0.out.kept n nof)
          replace SZ := Nat.lt_of_lt_of_le SZ n.size
          replace HC7 := Lib.hid (HC7.out.trans n)
          replace HI8 := Lib.hid ((HI8.out.kept n nof).hi n.size)
          replace HC8 := Lib.hid (HC8.out.trans n)
          have HRB := Lib.hid (show W11.heap[wi.heap.size]? = some (.cells #[.int .i64 (a : Nat), .int .i64 (f : Nat), .int .i64 (t : Nat)] 37 (0, 0)) from by rw [hW]; exact heap_alloc_eq _ rfl)
          clear hW n
          clear d0 d1 d2
          have kHRB0 : W11.cell? ⟨wi.heap.size, 0, none⟩ = some (.int .i64 (a : Nat)) := by rw [cell_of HRB.out]; rfl
          have kHRB1 : W11.cell? ⟨wi.heap.size, 1, none⟩ = some (.int .i64 (f : Nat)) := by rw [cell_of HRB.out]; rfl
          have kHRB2 : W11.cell? ⟨wi.heap.size, 2, none⟩ = some (.int .i64 (t : Nat)) := by rw [cell_of HRB.out]; rfl
          go_wp2_with (fail)
          clear kHRB0 kHRB1 kHRB2
          refine wp_named ?_
          intro W12 hW
          have n : Nw W11 W12 := by rw [hW]; first | exact Ch.refl _ _ | exact (Ch.refl _ _).alloc _ | exact ((Ch.refl _ _).alloc _).alloc _
          replace NX := Lib.hid (NX.out.trans n)
          replace MX := Lib.hid (MX.out.kept n id)
          replace hm0 := Nat.lt_of_lt_of_le hm0 n.size
          replace HLA0 := Lib.hid (HLA0.out.kept n nof)
          replace SZ := Nat.lt_of_lt_of_le SZ n.size
          replace HC7 := Lib.hid (HC7.out.trans n)
          replace HI8 := Lib.hid ((HI8.out.kept n nof).hi n.size)
          replace HC8 := Lib.hid (HC8.out.trans n)
          replace HRB := Lib.hid (n.heap HRB.out id)
          clear hW n
          go_loopw [14] (fun s14 wr => ∃ j : Nat, s14 = .int .i64 j ∧ f ≤ j ∧ j ≤ t ∧ Hid (Nw W12 wr)) (fun s14 _ => t - (intOf s14).toNat)
          case atStart => exact ⟨f, rfl, by omega, by omega, Lib.hid (Ch.refl _ _)⟩
          case round =>
            obtain ⟨j, rfl, hfj, hjt, HC9⟩ := hrel
            have j0 : (0 : Int) ≤ (j : Int) := by omega
            obtain ⟨wq, hwq⟩ : ∃ W : World, W = wr := ⟨_, rfl⟩
            subst hwq
            replace NX := Lib.hid (NX.out.trans HC9.out)
            replace MX := Lib.hid (MX.out.kept HC9.out id)
            replace hm0 := Nat.lt_of_lt_of_le hm0 HC9.out.size
            replace HLA0 := Lib.hid (HLA0.out.kept HC9.out nof)
            replace SZ := Nat.lt_of_lt_of_le SZ HC9.out.size
            replace HC7 := Lib.hid (HC7.out.trans HC9.out)
            replace HI8 := Lib.hid ((HI8.out.kept HC9.out nof).hi HC9.out.size)
            replace HC8 := Lib.hid (HC8.out.trans HC9.out)
            replace HRB := Lib.hid (HC9.out.heap HRB.out id)
            by_cases j1 : j < t
            · as_aux_lemma =>
              have j2 : (j : Int) < (t : Int) := by omega
              obtain ⟨x, hx⟩ : ∃ x, L[j]? = some x := ⟨_, List.getElem?_eq_getElem (by omega)⟩
              have HSC := Lib.hid (show scr x = a from by rw [← HS5.out j hfj j1, at0_get hx])
              rw [← HL.out] at hx
              have ea : ((a : Int) != (a : Int)) = false := by simp
              have kHRB0 : wq.cell? ⟨wi.heap.size, 0, none⟩ = some (.int .i64 (a : Nat)) := by rw [cell_of HRB.out]; rfl
              have kHRB1 : wq.cell? ⟨wi.heap.size, 1, none⟩ = some (.int .i64 (f : Nat)) := by rw [cell_of HRB.out]; rfl
              have kHRB2 : wq.cell? ⟨wi.heap.size, 2, none⟩ = some (.int .i64 (t : Nat)) := by rw [cell_of HRB.out]; rfl
              go_upto_region 15 with (fail)
              clear kHRB0 kHRB1 kHRB2
              refine wp_named ?_
              intro W13 hW
              have n : Nw wq W13 := by rw [hW]; first | exact Ch.refl _ _ | exact (Ch.refl _ _).alloc _
              replace NX := Lib.hid (NX.out.trans n)
              replace MX := Lib.hid (MX.out.kept n id)
              replace hm0 := Nat.lt_of_lt_of_le hm0 n.size
              replace HLA0 := Lib.hid (HLA0.out.kept n nof)
              replace SZ := Nat.lt_of_lt_of_le SZ n.size
              replace HC7 := Lib.hid (HC7.out.trans n)
              replace HI8 := Lib.hid ((HI8.out.kept n nof).hi n.size)
              replace HC8 := Lib.hid (HC8.out.trans n)
              replace HRB := Lib.hid (n.heap HRB.out id)
              replace HC9 := Lib.hid (HC9.out.trans n)
              clear hW n
              refine wp_region_V (F := fun w' => w'.cell? ⟨wi.heap.size, 0, none⟩ = some (.int .i64 (a : Nat)) ∧ w'.cell? ⟨wi.heap.size, 1, none⟩ = some (.int .i64 (f : Nat)) ∧ w'.cell? ⟨wi.heap.size, 2, none⟩ = some (.int .i64 (t : Nat))) (opsOf Tryd.f4 15) 7 7 (by kernel_rfl) (by kernel_rfl) (by kernel_rfl) (fun w w' h n => ⟨n.cell h.1 id, n.cell h.2.1 id, n.cell h.2.2 id⟩) ⟨by show W13.cell? _ = _; rw [cell_of HRB.out]; rfl, by show W13.cell? _ = _; rw [cell_of HRB.out]; rfl, by show W13.cell? _ = _; rw [cell_of HRB.out]; rfl⟩ (fun HOPS HCL hHeld => ?_)
              refine wpU_named ?_
              intro W14 hW
              try rw [← hW] at hHeld
              have n : Nw W13 W14 := by rw [hW]; exact (Ch.refl _ _).drew
              replace NX := Lib.hid (NX.out.trans n)
              replace MX := Lib.hid (MX.out.kept n id)
              replace hm0 := Nat.lt_of_lt_of_le hm0 n.size
              replace HLA0 := Lib.hid (HLA0.out.kept n nof)
              replace SZ := Nat.lt_of_lt_of_le SZ n.size
              replace HC7 := Lib.hid (HC7.out.trans n)
              replace HI8 := Lib.hid ((HI8.out.kept n nof).hi n.size)
              replace HC8 := Lib.hid (HC8.out.trans n)
              replace HRB := Lib.hid (n.heap HRB.out id)
              replace HC9 := Lib.hid (HC9.out.trans n)
              clear hW n
              first | (refine wpU_takeB (i := 0) (v := ?_) HOPS rfl (by kernel_rfl) (fun _ _ _ h => h) HCL (goes_read (by rfl) ?hy) ?_; case hy => (intro w hSw; (try dsimp only at hSw); go_simp; (try with_reducible rfl))) | (refine wpU_takeB (i := 0) (v := _) HOPS rfl (by kernel_rfl) (fun _ _ _ h => h) HCL (goes_not (by rfl)) ?_)
              try simp only [Act.put, List.getElem_toArray, List.getElem_cons_succ, List.getElem_cons_zero, List.setIfInBounds_toArray, List.set_cons_zero, List.set_cons_succ]
              first | (refine wpU_takeB (i := 1) (v := ?_) HOPS rfl (by kernel_rfl) (fun _ _ _ h => h) HCL (goes_read (by rfl) ?hy) ?_; case hy => (intro w hSw; (try dsimp only at hSw); go_simp; (try with_reducible rfl))) | (refine wpU_takeB (i := 1) (v := _) HOPS rfl (by kernel_rfl) (fun _ _ _ h => h) HCL (goes_not (by rfl)) ?_)
              try simp only [Act.put, List.getElem_toArray, List.getElem_cons_succ, List.getElem_cons_zero, List.setIfInBounds_toArray, List.set_cons_zero, List.set_cons_succ]
              first | (refine wpU_takeB (i := 4) (v := ?_) HOPS rfl (by kernel_rfl) (fun _ _ _ h => h) HCL (goes_read (by rfl) ?hy) ?_; case hy => (intro w hSw; (try dsimp only at hSw); go_simp; (try with_reducible rfl))) | (refine wpU_takeB (i := 4) (v := _) HOPS rfl (by kernel_rfl) (fun _ _ _ h => h) HCL (goes_not (by rfl)) ?_)
              try simp only [Act.put, List.getElem_toArray, List.getElem_cons_succ, List.getElem_cons_zero, List.setIfInBounds_toArray, List.set_cons_zero, List.set_cons_succ]
              first | (refine wpU_takeB (i := 5) (v := ?_) HOPS rfl (by kernel_rfl) (fun _ _ _ h => h) HCL (goes_read (by rfl) ?hy) ?_; case hy => (intro w hSw; (try dsimp only at hSw); go_simp; (try with_reducible rfl))) | (refine wpU_takeB (i := 5) (v := _) HOPS rfl (by kernel_rfl) (fun _ _ _ h => h) HCL (goes_not (by rfl)) ?_)
              try simp only [Act.put, List.getElem_toArray, List.getElem_cons_succ, List.getElem_cons_zero, List.setIfInBounds_toArray, List.set_cons_zero, List.set_cons_succ]
              refine wpU_takeB (i := 2) HOPS rfl (by kernel_rfl) (fun _ _ _ h => h) HCL (goes_idx _ _ _ T j x _ (by rfl) rfl Tryd.underlying9 (by rfl) (by rfl) hx rfl) ?_
              try simp only [Act.put, List.getElem_toArray, List.getElem_cons_succ, List.getElem_cons_zero, List.setIfInBounds_toArray, List.set_cons_zero, List.set_cons_succ]
              refine wpU_takeB (i := 3) HOPS rfl (by kernel_rfl) (fun _ _ _ h => h) HCL (goes_fn (v := (.int .i64 (a : Nat))) 18 _ _ _ #[.int .u8 (x.toNat : Nat)] (by rfl) rfl (by kernel_rfl) (by kernel_rfl) (by kernel_rfl) (fun wq n R hR => ?_)) ?_
              · exact script_any x _ _ (by rw [HSC.out]; exact hR _ (Ch.refl _ _))
              try simp only [Act.put, List.getElem_toArray, List.getElem_cons_succ, List.getElem_cons_zero, List.setIfInBounds_toArray, List.set_cons_zero, List.set_cons_succ]
              first | (refine wpU_takeB (i := 6) (v := ?_) HOPS rfl (by kernel_rfl) (fun _ _ _ h => h) HCL (goes_read (by rfl) ?hy) ?_; case hy => (intro w hSw; (try dsimp only at hSw); go_simp; (try with_reducible rfl))) | (refine wpU_takeB (i := 6) (v := _) HOPS rfl (by kernel_rfl) (fun _ _ _ h => h) HCL (goes_not (by rfl)) ?_)
              try simp only [Act.put, List.getElem_toArray, List.getElem_cons_succ, List.getElem_cons_zero, List.setIfInBounds_toArray, List.set_cons_zero, List.set_cons_succ]
              refine wpU_done (by kernel_rfl) (fun w15 hle => ?_) _
              have n := (hle.ahead (by kernel_rfl)).1
              replace NX := Lib.hid (NX.out.trans n)
              replace MX := Lib.hid (MX.out.kept n id)
              replace hm0 := Nat.lt_of_lt_of_le hm0 n.size
              replace HLA0 := Lib.hid (HLA0.out.kept n nof)
              replace SZ := Nat.lt_of_lt_of_le SZ n.size
              replace HC7 := Lib.hid (HC7.out.trans n)
              replace HI8 := Lib.hid ((HI8.out.kept n nof).hi n.size)
              replace HC8 := Lib.hid (HC8.out.trans n)
              replace HRB := Lib.hid (n.heap HRB.out id)
              replace HC9 := Lib.hid (HC9.out.trans n)
              clear n
              clear HOPS HCL hle
              repeat clear hHeld
              go_wp2_with (fail)
              refine ⟨⟨j + 1, by go_num, by omega, by omega, Lib.hid HC9.out⟩, by simp [intOf]; omega⟩
            · as_aux_lemma =>
              have j2 : ¬ (j : Int) < (t : Int) := by omega
              clear t1 t2 t3
              have kHRB0 : wq.cell? ⟨wi.heap.size, 0, none⟩ = some (.int .i64 (a : Nat)) := by rw [cell_of HRB.out]; rfl
              have kHRB1 : wq.cell? ⟨wi.heap.size, 1, none⟩ = some (.int .i64 (f : Nat)) := by rw [cell_of HRB.out]; rfl
              have kHRB2 : wq.cell? ⟨wi.heap.size, 2, none⟩ = some (.int .i64 (t : Nat)) := by rw [cell_of HRB.out]; rfl
              go_wp2_with (fail)
              clear kHRB0 kHRB1 kHRB2
              refine ⟨⟨i + 1, by go_num, by rw [HS1.out], by rw [HS2.out], by omega, Lib.hid HC8.out⟩, by simp [intOf]; omega⟩
        · as_aux_lemma =>
          have i2 : ¬ (i : Int) < (X.length : Int) := by omega
          obtain rfl : i = X.length := by omega
          rw [HEN.out, hlen]
          have ea : ((T.size : Int) != (T.size : Int)) = false := by simp
          go_wp2_with (fail)
          refine ⟨⟨k + 1, by go_num, by omega, Lib.hid HC7.out⟩, by simp [intOf]; omega⟩
    · as_aux_lemma =>
      have k2 : ¬ (k : Int) < 4 := by omega
      have hx37 := sym_lt b1
      have hn := sym_none b1
      have hin := fun h hne => sym_inj (a := b1) (b := b2) h hne
      go_wp2_with (go_at_call 3; fail)
      refine symbol_any b1 _ _ ?_
      go_wp2_with (go_at_call 3; fail)
      refine symbol_any b2 _ _ ?_
      obtain ⟨x, hx⟩ : ∃ x, sym b1 = x := ⟨_, rfl⟩
      obtain ⟨y, hy⟩ : ∃ y, sym b2 = y := ⟨_, rfl⟩
      obtain ⟨c, hc⟩ : ∃ c : Nat, scr b1 = c := ⟨_, rfl⟩
      rw [hx, hy] at hin ⊢
      rw [hx] at hx37 hn
      rw [hc] at hn
      have HSC := Lib.hid hc
      have HN := Lib.hid hn
      have HIN := Lib.hid hin
      clear hx hy hc hn hin
      have hx36 : decide (x < 37) = true := decide_eq_true hx37
      by_cases hx : x = -1
      · have e1 : (x == -1) = true := by simp [hx]
        have e2 : ((c : Int) == 0) = true := by simp [HN.out.1 hx]
        clear hx
        by_cases hxy : x = y
        · have e3 : (x != y) = false := by simp [hxy]
          clear hxy
          go_wp2_with (go_at_call 3; fail)
          refine script_any b1 _ _ ?_
          rw [HSC.out]
          go_wp2_with (fail)
          exact ret_b (HR.out _ NX.out) (by simp)
        · have e3 : (x != y) = true := by simp [hxy]
          clear hxy
          go_wp2_with (go_at_call 3; fail)
          refine script_any b1 _ _ ?_
          rw [HSC.out]
          go_wp2_with (fail)
          exact ret_b (HR.out _ NX.out) (by simp)
      · have e1 : (x == -1) = false := by simp [hx]
        have e2 : ((c : Int) == 0) = false := by simp; intro h; exact hx (HN.out.2 (by omega))
        by_cases hxy : x = y
        · have e3 : (x != y) = false := by simp [hxy]
          obtain rfl := HIN.out hxy hx
          have e5 : ((b1.toNat : Int) == (b1.toNat : Int)) = true := by simp
          clear hxy hx
          go_wp2_with (go_at_call 3; fail)
          refine script_any b1 _ _ ?_
          rw [HSC.out]
          go_wp2_with (fail)
          exact ret_b (HR.out _ NX.out) (by simp)
        · have e3 : (x != y) = true := by simp [hxy]
          clear hxy hx
          go_wp2_with (go_at_call 3; fail)
          refine script_any b1 _ _ ?_
          rw [HSC.out]
          go_wp2_with (fail)
          exact ret_b (HR.out _ NX.out) (by simp)

end Go.Proofs.YtnibgjpbijlhbaaDoor
