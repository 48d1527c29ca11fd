/-
  The contract of the law ImagePuts: it returns true.
-/
import Derived.Test.YtnhdnjhhjmgmnaaDoorSan22
import Derived.Test.YtnhdnjhhjmgmnaaDoorIp
import Derived.Test.YtnhdnjhhjmgmnaaDoorImK
import Derived.Test.YtnhdnjhhjmgmnaaDoorLawLib
namespace Go.Proofs.YtnhdnjhhjmgmnaaDoor
open Go.RowKit
set_option linter.unusedVariables false
set_option linter.unusedSimpArgs false
set_option maxRecDepth 100000

set_option maxHeartbeats 8000000 in
theorem puts_any (lo : Nat) (va : Value) (la : List Int) (q0 q1 q2 q3 : Int) (w : World) (R : Ending → World → Prop) (hlo : lo ≤ w.heap.size) (hla : IsInts w lo va la)
    (hq : ∀ x ∈ [q0, q1, q2, q3], wfI x) (hrn : RunesOk w) (hmx : MaxOk w)
    (hR : ∀ w', Nw w w' → R (.returned (.bool true)) w') : Calls Tryd.prog 6 #[va, .agg #[.int .i64 q0, .int .i64 q1, .int .i64 q2, .int .i64 q3]] w R := by
  have HR := Lib.hid hR
  clear hR
  have HLA := Lib.hid (hla.hi hlo)
  obtain ⟨A0, c0, rfl, -⟩ := hla
  have HQ := Lib.hid hq
  clear hq
  have NX := Lib.hid (Ch.refl (fun _ => False) w)
  have RN := Lib.hid hrn
  have MX := Lib.hid hmx
  have hr0 := hrn.lt
  have hm0 := hmx.lt
  clear hrn hmx
  go_enter Tryd.func6, Tryd.ntmps6
  go_wp2_with (go_at_call 7; fail)
  refine Calls_nm ?_
  intro W1 hW
  have n : Nw w W1 := by rw [hW]; exact (Ch.refl _ _).alloc _
  replace NX := Lib.hid (NX.out.trans n)
  replace RN := Lib.hid (RN.out.kept n id)
  replace MX := Lib.hid (MX.out.kept n id)
  replace HLA := Lib.hid (HLA.out.kept n nof)
  have HB1 := Lib.hid (show W1.heap[w.heap.size]? = some (.cells (intC [q0, q1, q2, q3]) 26 (0, 0)) from by rw [hW]; exact heap_alloc_eq _ rfl)
  clear hW n
  have SZ : w.heap.size < W1.heap.size := lt_of_heap HB1.out
  refine sanity_any _ _ RN.out MX.out ?_
  intro w2 n
  replace NX := Lib.hid (NX.out.trans n)
  replace RN := Lib.hid (RN.out.kept n id)
  replace MX := Lib.hid (MX.out.kept n id)
  replace HLA := Lib.hid (HLA.out.kept n nof)
  replace HB1 := Lib.hid (n.heap HB1.out id)
  replace SZ := Nat.lt_of_lt_of_le SZ n.size
  go_wp2_with (go_at_call 7; fail)
  refine Calls_nm ?_
  intro W3 hW
  have n : Nw w2 W3 := by rw [hW]; first | exact Ch.refl _ _ | exact (Ch.refl _ _).alloc _ | exact ((Ch.refl _ _).alloc _).alloc _
  replace NX := Lib.hid (NX.out.trans n)
  replace RN := Lib.hid (RN.out.kept n id)
  replace MX := Lib.hid (MX.out.kept n id)
  replace HLA := Lib.hid (HLA.out.kept n nof)
  replace HB1 := Lib.hid (n.heap HB1.out id)
  replace SZ := Nat.lt_of_lt_of_le SZ n.size
  clear hW n
  refine rMade4_any w.heap.size _ la _ _ HLA.out (by omega) ?_
  intro w4 vb b hb hbE hb1 hb2 n hvb
  replace NX := Lib.hid (NX.out.trans n)
  replace RN := Lib.hid (RN.out.kept n id)
  replace MX := Lib.hid (MX.out.kept n id)
  replace HLA := Lib.hid (HLA.out.kept n nof)
  replace HB1 := Lib.hid (n.heap HB1.out id)
  replace SZ := Nat.lt_of_lt_of_le SZ n.size
  obtain ⟨⟨e1, e2⟩, ⟨e3, e4⟩, -⟩ := bmE_ok hbE
  have HBE := Lib.hid hbE
  obtain ⟨A8, n8, rfl⟩ := hvb
  generalize hbw : b.1 = bw at *
  generalize hbh : b.2.1 = bh at *
  have HBW := Lib.hid hbw
  have HBH := Lib.hid hbh
  have HBM := Lib.hid hb
  clear hb hbw hbh hbE n
  have S8 := SZ
  go_wp2_with fail
  refine wp_named ?_
  intro W5 hW
  have n : Nw w4 W5 := by rw [hW]; first | exact Ch.refl _ _ | exact (Ch.refl _ _).alloc _ | exact ((Ch.refl _ _).alloc _).alloc _
  replace NX := Lib.hid (NX.out.trans n)
  replace RN := Lib.hid (RN.out.kept n id)
  replace MX := Lib.hid (MX.out.kept n id)
  replace HLA := Lib.hid (HLA.out.kept n nof)
  replace HB1 := Lib.hid (n.heap HB1.out id)
  replace SZ := Nat.lt_of_lt_of_le SZ n.size
  replace HBM := Lib.hid ((HBM.out.kept n nof).hi n.size)
  have HB8 := Lib.hid (show W5.heap[w4.heap.size]? = some (.cells #[.int .i64 bw, .int .i64 bh, .slice (some A8) n8 n8] 31 (0, 0)) from by rw [hW]; exact heap_alloc_eq _ rfl)
  clear hW n
  go_loopw [7, 18] (fun _ s18 wr => ∃ (k : Nat) (qs : List Int), s18 = .int .i64 k ∧ k ≤ 4 ∧ Hid (qs.length = 4) ∧ Hid (∀ x ∈ qs, wfI x) ∧ Hid (∀ (j : Nat) (x : Int), j < k → qs[j]? = some x → -2 ≤ x ∧ x ≤ 2) ∧ Hid (wr.heap[w.heap.size]? = some (.cells (intC qs) 26 (0, 0))) ∧ Hid (Ch (· = w.heap.size) W5 wr)) (fun _ s18 _ => 4 - (intOf s18).toNat)
  case atStart => exact ⟨0, [q0, q1, q2, q3], rfl, by omega, Lib.hid rfl, HQ, Lib.hid (fun j x hj => by omega), HB1, Lib.hid (Ch.refl _ _)⟩
  case round =>
    obtain ⟨k, qs, rfl, hk, HL4, HQ, HRG, HB1', HC⟩ := hrel
    have k0 : (0 : Int) ≤ (k : Int) := by omega
    by_cases hk4 : k < 4
    · obtain ⟨y, hy⟩ : ∃ y, qs[k]? = some y := ⟨_, List.getElem?_eq_getElem (by have := HL4.out; omega)⟩
      have hwy := HQ.out y (List.mem_of_getElem? hy)
      have k1 : (k : Int) < 4 := by omega
      have kc : wr.cell? ⟨w.heap.size, k, none⟩ = some (.int .i64 y) := by rw [cell_of HB1'.out]; exact intC_get hy
      have kf : wr.frozen? ⟨w.heap.size, k, none⟩ = false := frozen_of HB1'.out
      clear hy
      go_wp2_with (go_at_call 12; refine Mod_any _ _ _ _ hwy (by omega) (by omega) ?_)
      refine ⟨⟨k + 1, qs.set k (y % 5 - 2), by go_num, by omega, Lib.hid (by rw [List.length_set]; exact HL4.out), Lib.hid ?_, Lib.hid ?_, Lib.hid ?_, Lib.hid (HC.out.setb (fun _ => rfl) _)⟩, ?_⟩
      · intro x hx
        rcases List.mem_or_eq_of_mem_set hx with hx | rfl
        · exact HQ.out x hx
        · unfold wfI; omega
      · intro j x hj hx
        by_cases e : k = j
        · subst e
          rw [List.getElem?_set_self (by have := HL4.out; omega)] at hx
          injection hx with hx
          omega
        · rw [List.getElem?_set_ne e] at hx
          exact HRG.out j x (by omega) hx
      · rw [← intC_set]; exact heap_setCell_eq _ HB1'.out
      · simp [intOf]; omega
    · obtain rfl : k = 4 := by omega
      obtain ⟨t0, t1, t2, t3, rfl⟩ : ∃ a b c d, qs = [a, b, c, d] := by
        have h := HL4.out
        match qs, h with
        | [a, b, c, d], _ => exact ⟨a, b, c, d, rfl⟩
      have g0 := HRG.out 0 t0 (by omega) rfl
      have g1 := HRG.out 1 t1 (by omega) rfl
      have g2 := HRG.out 2 t2 (by omega) rfl
      have g3 := HRG.out 3 t3 (by omega) rfl
      clear HRG HQ HL4
      have hs1 : shiftOk t0 t1 := ⟨g0, g1⟩
      have hs2 : shiftOk t2 t3 := ⟨g2, g3⟩
      have HS1 := Lib.hid hs1
      have HS2 := Lib.hid hs2
      obtain ⟨g01, g02⟩ := g0
      obtain ⟨g11, g12⟩ := g1
      obtain ⟨g21, g22⟩ := g2
      obtain ⟨g31, g32⟩ := g3
      clear hs1 hs2
      replace NX := Lib.hid (NX.out.trans' HC.out (fun j hj e => by have e' : j = w.heap.size := e; omega))
      replace RN := Lib.hid (RN.out.kept HC.out (by show 0 ≠ w.heap.size; omega))
      replace MX := Lib.hid (MX.out.kept HC.out (by show 1 ≠ w.heap.size; omega))
      replace HLA := Lib.hid (HLA.out.kept HC.out (fun j hj e => by have e' : j = w.heap.size := e; omega))
      replace SZ := Nat.lt_of_lt_of_le SZ HC.out.size
      replace HBM := Lib.hid ((isBm_far HBM.out HB1.out intC_not HC.out).hi HC.out.size)
      replace HB8 := Lib.hid (HC.out.heap HB8.out (by show w4.heap.size ≠ w.heap.size; omega))
      replace HB1 := Lib.hid (HB1'.out)
      clear HB1' HC
      have kHB10 : wr.cell? ⟨w.heap.size, 0, none⟩ = some (.int .i64 t0) := by rw [cell_of HB1.out]; rfl
      have jHB10 : ∀ o, (wr.alloc o).cell? ⟨w.heap.size, 0, none⟩ = some (.int .i64 t0) := fun o => cell_alloc_old o kHB10
      have kHB11 : wr.cell? ⟨w.heap.size, 1, none⟩ = some (.int .i64 t1) := by rw [cell_of HB1.out]; rfl
      have jHB11 : ∀ o, (wr.alloc o).cell? ⟨w.heap.size, 1, none⟩ = some (.int .i64 t1) := fun o => cell_alloc_old o kHB11
      have kHB12 : wr.cell? ⟨w.heap.size, 2, none⟩ = some (.int .i64 t2) := by rw [cell_of HB1.out]; rfl
      have jHB12 : ∀ o, (wr.alloc o).cell? ⟨w.heap.size, 2, none⟩ = some (.int .i64 t2) := fun o => cell_alloc_old o kHB12
      have kHB13 : wr.cell? ⟨w.heap.size, 3, none⟩ = some (.int .i64 t3) := by rw [cell_of HB1.out]; rfl
      have jHB13 : ∀ o, (wr.alloc o).cell? ⟨w.heap.size, 3, none⟩ = some (.int .i64 t3) := fun o => cell_alloc_old o kHB13
      have kHB80 : wr.cell? ⟨w4.heap.size, 0, none⟩ = some (.int .i64 bw) := by rw [cell_of HB8.out]; rfl
      have jHB80 : ∀ o, (wr.alloc o).cell? ⟨w4.heap.size, 0, none⟩ = some (.int .i64 bw) := fun o => cell_alloc_old o kHB80
      have kHB81 : wr.cell? ⟨w4.heap.size, 1, none⟩ = some (.int .i64 bh) := by rw [cell_of HB8.out]; rfl
      have jHB81 : ∀ o, (wr.alloc o).cell? ⟨w4.heap.size, 1, none⟩ = some (.int .i64 bh) := fun o => cell_alloc_old o kHB81
      have kHB82 : wr.cell? ⟨w4.heap.size, 2, none⟩ = some (.slice (some A8) n8 n8) := by rw [cell_of HB8.out]; rfl
      have jHB82 : ∀ o, (wr.alloc o).cell? ⟨w4.heap.size, 2, none⟩ = some (.slice (some A8) n8 n8) := fun o => cell_alloc_old o kHB82
      go_wp2_with (go_at_call 7; fail)
      clear kHB10 jHB10 kHB11 jHB11 kHB12 jHB12 kHB13 jHB13 kHB80 jHB80 kHB81 jHB81 kHB82 jHB82
      refine imPut_ok (b := b) HBM.out (by unfold wfI; omega) (by unfold wfI; omega) HBE.out HS1.out ?_
      intro w6 A9 c9 im n
      replace NX := Lib.hid (NX.out.trans n)
      replace RN := Lib.hid (RN.out.kept n id)
      replace MX := Lib.hid (MX.out.kept n id)
      replace HLA := Lib.hid (HLA.out.kept n nof)
      replace SZ := Nat.lt_of_lt_of_le SZ n.size
      replace HBM := Lib.hid ((HBM.out.kept n nof).hi n.size)
      replace HB8 := Lib.hid (n.heap HB8.out id)
      replace HB1 := Lib.hid (n.heap HB1.out id)
      have LN := putL_len b t0 t1
      have FR := frame_ge HBE.out
      have FL := frame_len HBE.out
      have FM := frame_le HBE.out
      have HFS := Lib.hid (fits_self HBE.out HS1.out)
      have HFP := Lib.hid (fits_put HBE.out HS1.out HS2.out)
      have HKN := Lib.hid (known_put (s0 := t0) (s1 := t1) HBE.out)
      have HOK := Lib.hid (putL_ok (dx := t0) (dy := t1) HBE.out)
      have HGT := Lib.hid (fun (k : Nat) (h : k < frameN b) => putL_get (dx := t0) (dy := t1) h)
      generalize hpx : putL b t0 t1 = px0 at *
      generalize hfn : frameN b = fn at *
      clear hpx hfn
      rw [HBW.out, HBH.out] at HFS HFP HKN HOK FL ⊢
      have him : IsIm w6 w6.heap.size (.agg #[.int .i64 (bw + 4), .int .i64 (bh + 4), .slice A9 fn c9]) (bw + 4, bh + 4, px0) := ⟨_, rfl, by rw [← LN] at im; simp only; rw [← LN]; exact im, by unfold wfI; simp only; omega, by unfold wfI; simp only; omega⟩
      obtain ⟨g9, o9, rfl, -⟩ := isIm_cell him (i := 0) (List.getElem?_eq_getElem (by simp only; omega))
      have HIX := Lib.hid him
      clear him im n
      have eM : (bw + 4) * (bh + 4) = (fn : Int) := FL.symm
      replace FL := Lib.hid FL
      have eW : IntKind.i64.wrap (fn : Int) = (fn : Int) := by rw [IntKind.wrap_i64]; omega
      have eA : IntKind.i64.wrap (bw + 4) = bw + 4 := by rw [IntKind.wrap_i64]; omega
      have eB : IntKind.i64.wrap (bh + 4) = bh + 4 := by rw [IntKind.wrap_i64]; omega
      go_wp2_with fail
      refine wp_named ?_
      intro W7 hW
      have n : Nw w6 W7 := by rw [hW]; first | exact Ch.refl _ _ | exact (Ch.refl _ _).alloc _
      replace NX := Lib.hid (NX.out.trans n)
      replace RN := Lib.hid (RN.out.kept n id)
      replace MX := Lib.hid (MX.out.kept n id)
      replace HLA := Lib.hid (HLA.out.kept n nof)
      replace SZ := Nat.lt_of_lt_of_le SZ n.size
      replace HBM := Lib.hid ((HBM.out.kept n nof).hi n.size)
      replace HB8 := Lib.hid (n.heap HB8.out id)
      replace HB1 := Lib.hid (n.heap HB1.out id)
      replace HIX := Lib.hid ((HIX.out.kept n nof).hi n.size)
      have HB9 := Lib.hid (show W7.heap[w6.heap.size]? = some (.cells #[.int .i64 (bw + 4), .int .i64 (bh + 4), .slice (some ⟨g9, o9, none⟩) fn c9] 25 (0, 0)) from by rw [hW]; exact heap_alloc_eq _ rfl)
      clear hW n
      refine wp_region_U (F := fun w' => w'.cell? ⟨w6.heap.size, 0, none⟩ = some (.int .i64 (bw + 4)) ∧ w'.cell? ⟨w6.heap.size, 1, none⟩ = some (.int .i64 (bh + 4)) ∧ w'.cell? ⟨w6.heap.size, 2, none⟩ = some (.slice (some ⟨g9, o9, none⟩) fn c9) ∧ w'.cell? ⟨w4.heap.size, 0, none⟩ = some (.int .i64 bw) ∧ w'.cell? ⟨w4.heap.size, 1, none⟩ = some (.int .i64 bh) ∧ w'.cell? ⟨w4.heap.size, 2, none⟩ = some (.slice (some A8) n8 n8)) (opsOf Tryd.f6 9) 42 42 (by kernel_rfl) (by kernel_rfl) (by kernel_rfl) ⟨by show W7.cell? _ = _; rw [cell_of HB9.out]; rfl, by show W7.cell? _ = _; rw [cell_of HB9.out]; rfl, by show W7.cell? _ = _; rw [cell_of HB9.out]; rfl, by show W7.cell? _ = _; rw [cell_of HB8.out]; rfl, by show W7.cell? _ = _; rw [cell_of HB8.out]; rfl, by show W7.cell? _ = _; rw [cell_of HB8.out]; rfl⟩ (fun HOPS hHeld => ?_)
      refine wpT_named ?_
      intro W8 hW
      rw [← hW] at hHeld
      have n : Nw W7 W8 := by rw [hW]; exact (Ch.refl _ _).drew
      replace NX := Lib.hid (NX.out.trans n)
      replace RN := Lib.hid (RN.out.kept n id)
      replace MX := Lib.hid (MX.out.kept n id)
      replace HLA := Lib.hid (HLA.out.kept n nof)
      replace SZ := Nat.lt_of_lt_of_le SZ n.size
      replace HBM := Lib.hid ((HBM.out.kept n nof).hi n.size)
      replace HB8 := Lib.hid (n.heap HB8.out id)
      replace HB1 := Lib.hid (n.heap HB1.out id)
      replace HIX := Lib.hid ((HIX.out.kept n nof).hi n.size)
      replace HB9 := Lib.hid (n.heap HB9.out id)
      clear hW n
      first | (refine wpT_takeB (i := 0) (v := ?_) HOPS rfl (by kernel_rfl) (fun _ _ _ h => h) (Or.inl ⟨by rfl, ?hy⟩) (by assumption) ?_; case hy => (intro w hSw; (try dsimp only at hSw); go_simp; (try with_reducible rfl))) | (refine wpT_takeB (i := 0) (v := _) HOPS rfl (by kernel_rfl) (fun _ _ _ h => h) (Or.inr ⟨by rfl, rfl⟩) (by assumption) ?_)
      try simp only [Act.put, List.getElem_toArray, List.getElem_cons_succ, List.getElem_cons_zero, List.setIfInBounds_toArray, List.set_cons_zero, List.set_cons_succ]
      first | (refine wpT_takeB (i := 1) (v := ?_) HOPS rfl (by kernel_rfl) (fun _ _ _ h => h) (Or.inl ⟨by rfl, ?hy⟩) (by assumption) ?_; case hy => (intro w hSw; (try dsimp only at hSw); go_simp; (try with_reducible rfl))) | (refine wpT_takeB (i := 1) (v := _) HOPS rfl (by kernel_rfl) (fun _ _ _ h => h) (Or.inr ⟨by rfl, rfl⟩) (by assumption) ?_)
      try simp only [Act.put, List.getElem_toArray, List.getElem_cons_succ, List.getElem_cons_zero, List.setIfInBounds_toArray, List.set_cons_zero, List.set_cons_succ]
      first | (refine wpT_takeB (i := 2) (v := ?_) HOPS rfl (by kernel_rfl) (fun _ _ _ h => h) (Or.inl ⟨by rfl, ?hy⟩) (by assumption) ?_; case hy => (intro w hSw; (try dsimp only at hSw); go_simp; (try with_reducible rfl))) | (refine wpT_takeB (i := 2) (v := _) HOPS rfl (by kernel_rfl) (fun _ _ _ h => h) (Or.inr ⟨by rfl, rfl⟩) (by assumption) ?_)
      try simp only [Act.put, List.getElem_toArray, List.getElem_cons_succ, List.getElem_cons_zero, List.setIfInBounds_toArray, List.set_cons_zero, List.set_cons_succ]
      first | (refine wpT_takeB (i := 3) (v := ?_) HOPS rfl (by kernel_rfl) (fun _ _ _ h => h) (Or.inl ⟨by rfl, ?hy⟩) (by assumption) ?_; case hy => (intro w hSw; (try dsimp only at hSw); go_simp; (try with_reducible rfl))) | (refine wpT_takeB (i := 3) (v := _) HOPS rfl (by kernel_rfl) (fun _ _ _ h => h) (Or.inr ⟨by rfl, rfl⟩) (by assumption) ?_)
      try simp only [Act.put, List.getElem_toArray, List.getElem_cons_succ, List.getElem_cons_zero, List.setIfInBounds_toArray, List.set_cons_zero, List.set_cons_succ]
      refine wpT_ready (rs := [4]) (by kernel_rfl) (by simp) ?_
      refine ReadyT.consB HOPS rfl (by rfl) (fun K hK => ?_) ReadyT.nil
      go_simp
      go_at_call 22
      refine imCheck_ok W8.heap.size _ (bw + 4, bh + 4, px0) _ _ HIX.out HOK.out ?_
      intro w9 n
      replace NX := Lib.hid (NX.out.trans n)
      replace RN := Lib.hid (RN.out.kept n id)
      replace MX := Lib.hid (MX.out.kept n id)
      replace HLA := Lib.hid (HLA.out.kept n nof)
      replace SZ := Nat.lt_of_lt_of_le SZ n.size
      replace HBM := Lib.hid ((HBM.out.kept n nof).hi n.size)
      replace HB8 := Lib.hid (n.heap HB8.out id)
      replace HB1 := Lib.hid (n.heap HB1.out id)
      replace HIX := Lib.hid ((HIX.out.kept n nof).hi n.size)
      replace HB9 := Lib.hid (n.heap HB9.out id)
      clear n
      refine hK.out _ _ ⟨by show w9.cell? _ = _; rw [cell_of HB9.out]; rfl, by show w9.cell? _ = _; rw [cell_of HB9.out]; rfl, by show w9.cell? _ = _; rw [cell_of HB9.out]; rfl, by show w9.cell? _ = _; rw [cell_of HB8.out]; rfl, by show w9.cell? _ = _; rw [cell_of HB8.out]; rfl, by show w9.cell? _ = _; rw [cell_of HB8.out]; rfl⟩ (fun hHeld => ?_)
      clear hK K
      try simp only [Act.put, List.getElem_toArray, List.getElem_cons_succ, List.getElem_cons_zero, List.setIfInBounds_toArray, List.set_cons_zero, List.set_cons_succ]
      first | (refine wpT_takeB (i := 5) (v := ?_) HOPS rfl (by kernel_rfl) (fun _ _ _ h => h) (Or.inl ⟨by rfl, ?hy⟩) (by assumption) ?_; case hy => (intro w hSw; (try dsimp only at hSw); go_simp; (try with_reducible rfl))) | (refine wpT_takeB (i := 5) (v := _) HOPS rfl (by kernel_rfl) (fun _ _ _ h => h) (Or.inr ⟨by rfl, rfl⟩) (by assumption) ?_)
      try simp only [Act.put, List.getElem_toArray, List.getElem_cons_succ, List.getElem_cons_zero, List.setIfInBounds_toArray, List.set_cons_zero, List.set_cons_succ]
      first | (refine wpT_takeB (i := 6) (v := ?_) HOPS rfl (by kernel_rfl) (fun _ _ _ h => h) (Or.inl ⟨by rfl, ?hy⟩) (by assumption) ?_; case hy => (intro w hSw; (try dsimp only at hSw); go_simp; (try with_reducible rfl))) | (refine wpT_takeB (i := 6) (v := _) HOPS rfl (by kernel_rfl) (fun _ _ _ h => h) (Or.inr ⟨by rfl, rfl⟩) (by assumption) ?_)
      try simp only [Act.put, List.getElem_toArray, List.getElem_cons_succ, List.getElem_cons_zero, List.setIfInBounds_toArray, List.set_cons_zero, List.set_cons_succ]
      first | (refine wpT_takeB (i := 7) (v := ?_) HOPS rfl (by kernel_rfl) (fun _ _ _ h => h) (Or.inl ⟨by rfl, ?hy⟩) (by assumption) ?_; case hy => (intro w hSw; (try dsimp only at hSw); go_simp; (try with_reducible rfl))) | (refine wpT_takeB (i := 7) (v := _) HOPS rfl (by kernel_rfl) (fun _ _ _ h => h) (Or.inr ⟨by rfl, rfl⟩) (by assumption) ?_)
      try simp only [Act.put, List.getElem_toArray, List.getElem_cons_succ, List.getElem_cons_zero, List.setIfInBounds_toArray, List.set_cons_zero, List.set_cons_succ]
      first | (refine wpT_takeB (i := 8) (v := ?_) HOPS rfl (by kernel_rfl) (fun _ _ _ h => h) (Or.inl ⟨by rfl, ?hy⟩) (by assumption) ?_; case hy => (intro w hSw; (try dsimp only at hSw); go_simp; (try with_reducible rfl))) | (refine wpT_takeB (i := 8) (v := _) HOPS rfl (by kernel_rfl) (fun _ _ _ h => h) (Or.inr ⟨by rfl, rfl⟩) (by assumption) ?_)
      try simp only [Act.put, List.getElem_toArray, List.getElem_cons_succ, List.getElem_cons_zero, List.setIfInBounds_toArray, List.set_cons_zero, List.set_cons_succ]
      first | (refine wpT_takeB (i := 9) (v := ?_) HOPS rfl (by kernel_rfl) (fun _ _ _ h => h) (Or.inl ⟨by rfl, ?hy⟩) (by assumption) ?_; case hy => (intro w hSw; (try dsimp only at hSw); go_simp; (try with_reducible rfl))) | (refine wpT_takeB (i := 9) (v := _) HOPS rfl (by kernel_rfl) (fun _ _ _ h => h) (Or.inr ⟨by rfl, rfl⟩) (by assumption) ?_)
      try simp only [Act.put, List.getElem_toArray, List.getElem_cons_succ, List.getElem_cons_zero, List.setIfInBounds_toArray, List.set_cons_zero, List.set_cons_succ]
      first | (refine wpT_takeB (i := 10) (v := ?_) HOPS rfl (by kernel_rfl) (fun _ _ _ h => h) (Or.inl ⟨by rfl, ?hy⟩) (by assumption) ?_; case hy => (intro w hSw; (try dsimp only at hSw); go_simp; (try with_reducible rfl))) | (refine wpT_takeB (i := 10) (v := _) HOPS rfl (by kernel_rfl) (fun _ _ _ h => h) (Or.inr ⟨by rfl, rfl⟩) (by assumption) ?_)
      try simp only [Act.put, List.getElem_toArray, List.getElem_cons_succ, List.getElem_cons_zero, List.setIfInBounds_toArray, List.set_cons_zero, List.set_cons_succ]
      first | (refine wpT_takeB (i := 11) (v := ?_) HOPS rfl (by kernel_rfl) (fun _ _ _ h => h) (Or.inl ⟨by rfl, ?hy⟩) (by assumption) ?_; case hy => (intro w hSw; (try dsimp only at hSw); go_simp; (try with_reducible rfl))) | (refine wpT_takeB (i := 11) (v := _) HOPS rfl (by kernel_rfl) (fun _ _ _ h => h) (Or.inr ⟨by rfl, rfl⟩) (by assumption) ?_)
      try simp only [Act.put, List.getElem_toArray, List.getElem_cons_succ, List.getElem_cons_zero, List.setIfInBounds_toArray, List.set_cons_zero, List.set_cons_succ]
      first | (refine wpT_takeB (i := 12) (v := ?_) HOPS rfl (by kernel_rfl) (fun _ _ _ h => h) (Or.inl ⟨by rfl, ?hy⟩) (by assumption) ?_; case hy => (intro w hSw; (try dsimp only at hSw); go_simp; (try with_reducible rfl))) | (refine wpT_takeB (i := 12) (v := _) HOPS rfl (by kernel_rfl) (fun _ _ _ h => h) (Or.inr ⟨by rfl, rfl⟩) (by assumption) ?_)
      try simp only [Act.put, List.getElem_toArray, List.getElem_cons_succ, List.getElem_cons_zero, List.setIfInBounds_toArray, List.set_cons_zero, List.set_cons_succ]
      first | (refine wpT_takeB (i := 13) (v := ?_) HOPS rfl (by kernel_rfl) (fun _ _ _ h => h) (Or.inl ⟨by rfl, ?hy⟩) (by assumption) ?_; case hy => (intro w hSw; (try dsimp only at hSw); go_simp; (try with_reducible rfl))) | (refine wpT_takeB (i := 13) (v := _) HOPS rfl (by kernel_rfl) (fun _ _ _ h => h) (Or.inr ⟨by rfl, rfl⟩) (by assumption) ?_)
      try simp only [Act.put, List.getElem_toArray, List.getElem_cons_succ, List.getElem_cons_zero, List.setIfInBounds_toArray, List.set_cons_zero, List.set_cons_succ]
      first | (refine wpT_takeB (i := 14) (v := ?_) HOPS rfl (by kernel_rfl) (fun _ _ _ h => h) (Or.inl ⟨by rfl, ?hy⟩) (by assumption) ?_; case hy => (intro w hSw; (try dsimp only at hSw); go_simp; (try with_reducible rfl))) | (refine wpT_takeB (i := 14) (v := _) HOPS rfl (by kernel_rfl) (fun _ _ _ h => h) (Or.inr ⟨by rfl, rfl⟩) (by assumption) ?_)
      try simp only [Act.put, List.getElem_toArray, List.getElem_cons_succ, List.getElem_cons_zero, List.setIfInBounds_toArray, List.set_cons_zero, List.set_cons_succ]
      first | (refine wpT_takeB (i := 15) (v := ?_) HOPS rfl (by kernel_rfl) (fun _ _ _ h => h) (Or.inl ⟨by rfl, ?hy⟩) (by assumption) ?_; case hy => (intro w hSw; (try dsimp only at hSw); go_simp; (try with_reducible rfl))) | (refine wpT_takeB (i := 15) (v := _) HOPS rfl (by kernel_rfl) (fun _ _ _ h => h) (Or.inr ⟨by rfl, rfl⟩) (by assumption) ?_)
      try simp only [Act.put, List.getElem_toArray, List.getElem_cons_succ, List.getElem_cons_zero, List.setIfInBounds_toArray, List.set_cons_zero, List.set_cons_succ]
      first | (refine wpT_takeB (i := 16) (v := ?_) HOPS rfl (by kernel_rfl) (fun _ _ _ h => h) (Or.inl ⟨by rfl, ?hy⟩) (by assumption) ?_; case hy => (intro w hSw; (try dsimp only at hSw); go_simp; (try with_reducible rfl))) | (refine wpT_takeB (i := 16) (v := _) HOPS rfl (by kernel_rfl) (fun _ _ _ h => h) (Or.inr ⟨by rfl, rfl⟩) (by assumption) ?_)
      try simp only [Act.put, List.getElem_toArray, List.getElem_cons_succ, List.getElem_cons_zero, List.setIfInBounds_toArray, List.set_cons_zero, List.set_cons_succ]
      first | (refine wpT_takeB (i := 17) (v := ?_) HOPS rfl (by kernel_rfl) (fun _ _ _ h => h) (Or.inl ⟨by rfl, ?hy⟩) (by assumption) ?_; case hy => (intro w hSw; (try dsimp only at hSw); go_simp; (try with_reducible rfl))) | (refine wpT_takeB (i := 17) (v := _) HOPS rfl (by kernel_rfl) (fun _ _ _ h => h) (Or.inr ⟨by rfl, rfl⟩) (by assumption) ?_)
      try simp only [Act.put, List.getElem_toArray, List.getElem_cons_succ, List.getElem_cons_zero, List.setIfInBounds_toArray, List.set_cons_zero, List.set_cons_succ]
      first | (refine wpT_takeB (i := 18) (v := ?_) HOPS rfl (by kernel_rfl) (fun _ _ _ h => h) (Or.inl ⟨by rfl, ?hy⟩) (by assumption) ?_; case hy => (intro w hSw; (try dsimp only at hSw); go_simp; (try with_reducible rfl))) | (refine wpT_takeB (i := 18) (v := _) HOPS rfl (by kernel_rfl) (fun _ _ _ h => h) (Or.inr ⟨by rfl, rfl⟩) (by assumption) ?_)
      try simp only [Act.put, List.getElem_toArray, List.getElem_cons_succ, List.getElem_cons_zero, List.setIfInBounds_toArray, List.set_cons_zero, List.set_cons_succ]
      first | (refine wpT_takeB (i := 19) (v := ?_) HOPS rfl (by kernel_rfl) (fun _ _ _ h => h) (Or.inl ⟨by rfl, ?hy⟩) (by assumption) ?_; case hy => (intro w hSw; (try dsimp only at hSw); go_simp; (try with_reducible rfl))) | (refine wpT_takeB (i := 19) (v := _) HOPS rfl (by kernel_rfl) (fun _ _ _ h => h) (Or.inr ⟨by rfl, rfl⟩) (by assumption) ?_)
      try simp only [Act.put, List.getElem_toArray, List.getElem_cons_succ, List.getElem_cons_zero, List.setIfInBounds_toArray, List.set_cons_zero, List.set_cons_succ]
      first | (refine wpT_takeB (i := 20) (v := ?_) HOPS rfl (by kernel_rfl) (fun _ _ _ h => h) (Or.inl ⟨by rfl, ?hy⟩) (by assumption) ?_; case hy => (intro w hSw; (try dsimp only at hSw); go_simp; (try with_reducible rfl))) | (refine wpT_takeB (i := 20) (v := _) HOPS rfl (by kernel_rfl) (fun _ _ _ h => h) (Or.inr ⟨by rfl, rfl⟩) (by assumption) ?_)
      try simp only [Act.put, List.getElem_toArray, List.getElem_cons_succ, List.getElem_cons_zero, List.setIfInBounds_toArray, List.set_cons_zero, List.set_cons_succ]
      first | (refine wpT_takeB (i := 21) (v := ?_) HOPS rfl (by kernel_rfl) (fun _ _ _ h => h) (Or.inl ⟨by rfl, ?hy⟩) (by assumption) ?_; case hy => (intro w hSw; (try dsimp only at hSw); go_simp; (try with_reducible rfl))) | (refine wpT_takeB (i := 21) (v := _) HOPS rfl (by kernel_rfl) (fun _ _ _ h => h) (Or.inr ⟨by rfl, rfl⟩) (by assumption) ?_)
      try simp only [Act.put, List.getElem_toArray, List.getElem_cons_succ, List.getElem_cons_zero, List.setIfInBounds_toArray, List.set_cons_zero, List.set_cons_succ]
      first | (refine wpT_takeB (i := 22) (v := ?_) HOPS rfl (by kernel_rfl) (fun _ _ _ h => h) (Or.inl ⟨by rfl, ?hy⟩) (by assumption) ?_; case hy => (intro w hSw; (try dsimp only at hSw); go_simp; (try with_reducible rfl))) | (refine wpT_takeB (i := 22) (v := _) HOPS rfl (by kernel_rfl) (fun _ _ _ h => h) (Or.inr ⟨by rfl, rfl⟩) (by assumption) ?_)
      try simp only [Act.put, List.getElem_toArray, List.getElem_cons_succ, List.getElem_cons_zero, List.setIfInBounds_toArray, List.set_cons_zero, List.set_cons_succ]
      first | (refine wpT_takeB (i := 23) (v := ?_) HOPS rfl (by kernel_rfl) (fun _ _ _ h => h) (Or.inl ⟨by rfl, ?hy⟩) (by assumption) ?_; case hy => (intro w hSw; (try dsimp only at hSw); go_simp; (try with_reducible rfl))) | (refine wpT_takeB (i := 23) (v := _) HOPS rfl (by kernel_rfl) (fun _ _ _ h => h) (Or.inr ⟨by rfl, rfl⟩) (by assumption) ?_)
      try simp only [Act.put, List.getElem_toArray, List.getElem_cons_succ, List.getElem_cons_zero, List.setIfInBounds_toArray, List.set_cons_zero, List.set_cons_succ]
      first | (refine wpT_takeB (i := 24) (v := ?_) HOPS rfl (by kernel_rfl) (fun _ _ _ h => h) (Or.inl ⟨by rfl, ?hy⟩) (by assumption) ?_; case hy => (intro w hSw; (try dsimp only at hSw); go_simp; (try with_reducible rfl))) | (refine wpT_takeB (i := 24) (v := _) HOPS rfl (by kernel_rfl) (fun _ _ _ h => h) (Or.inr ⟨by rfl, rfl⟩) (by assumption) ?_)
      try simp only [Act.put, List.getElem_toArray, List.getElem_cons_succ, List.getElem_cons_zero, List.setIfInBounds_toArray, List.set_cons_zero, List.set_cons_succ]
      first | (refine wpT_takeB (i := 25) (v := ?_) HOPS rfl (by kernel_rfl) (fun _ _ _ h => h) (Or.inl ⟨by rfl, ?hy⟩) (by assumption) ?_; case hy => (intro w hSw; (try dsimp only at hSw); go_simp; (try with_reducible rfl))) | (refine wpT_takeB (i := 25) (v := _) HOPS rfl (by kernel_rfl) (fun _ _ _ h => h) (Or.inr ⟨by rfl, rfl⟩) (by assumption) ?_)
      try simp only [Act.put, List.getElem_toArray, List.getElem_cons_succ, List.getElem_cons_zero, List.setIfInBounds_toArray, List.set_cons_zero, List.set_cons_succ]
      first | (refine wpT_takeB (i := 26) (v := ?_) HOPS rfl (by kernel_rfl) (fun _ _ _ h => h) (Or.inl ⟨by rfl, ?hy⟩) (by assumption) ?_; case hy => (intro w hSw; (try dsimp only at hSw); go_simp; (try with_reducible rfl))) | (refine wpT_takeB (i := 26) (v := _) HOPS rfl (by kernel_rfl) (fun _ _ _ h => h) (Or.inr ⟨by rfl, rfl⟩) (by assumption) ?_)
      try simp only [Act.put, List.getElem_toArray, List.getElem_cons_succ, List.getElem_cons_zero, List.setIfInBounds_toArray, List.set_cons_zero, List.set_cons_succ]
      first | (refine wpT_takeB (i := 27) (v := ?_) HOPS rfl (by kernel_rfl) (fun _ _ _ h => h) (Or.inl ⟨by rfl, ?hy⟩) (by assumption) ?_; case hy => (intro w hSw; (try dsimp only at hSw); go_simp; (try with_reducible rfl))) | (refine wpT_takeB (i := 27) (v := _) HOPS rfl (by kernel_rfl) (fun _ _ _ h => h) (Or.inr ⟨by rfl, rfl⟩) (by assumption) ?_)
      try simp only [Act.put, List.getElem_toArray, List.getElem_cons_succ, List.getElem_cons_zero, List.setIfInBounds_toArray, List.set_cons_zero, List.set_cons_succ]
      first | (refine wpT_takeB (i := 28) (v := ?_) HOPS rfl (by kernel_rfl) (fun _ _ _ h => h) (Or.inl ⟨by rfl, ?hy⟩) (by assumption) ?_; case hy => (intro w hSw; (try dsimp only at hSw); go_simp; (try with_reducible rfl))) | (refine wpT_takeB (i := 28) (v := _) HOPS rfl (by kernel_rfl) (fun _ _ _ h => h) (Or.inr ⟨by rfl, rfl⟩) (by assumption) ?_)
      try simp only [Act.put, List.getElem_toArray, List.getElem_cons_succ, List.getElem_cons_zero, List.setIfInBounds_toArray, List.set_cons_zero, List.set_cons_succ]
      first | (refine wpT_takeB (i := 29) (v := ?_) HOPS rfl (by kernel_rfl) (fun _ _ _ h => h) (Or.inl ⟨by rfl, ?hy⟩) (by assumption) ?_; case hy => (intro w hSw; (try dsimp only at hSw); go_simp; (try with_reducible rfl))) | (refine wpT_takeB (i := 29) (v := _) HOPS rfl (by kernel_rfl) (fun _ _ _ h => h) (Or.inr ⟨by rfl, rfl⟩) (by assumption) ?_)
      try simp only [Act.put, List.getElem_toArray, List.getElem_cons_succ, List.getElem_cons_zero, List.setIfInBounds_toArray, List.set_cons_zero, List.set_cons_succ]
      first | (refine wpT_takeB (i := 30) (v := ?_) HOPS rfl (by kernel_rfl) (fun _ _ _ h => h) (Or.inl ⟨by rfl, ?hy⟩) (by assumption) ?_; case hy => (intro w hSw; (try dsimp only at hSw); go_simp; (try with_reducible rfl))) | (refine wpT_takeB (i := 30) (v := _) HOPS rfl (by kernel_rfl) (fun _ _ _ h => h) (Or.inr ⟨by rfl, rfl⟩) (by assumption) ?_)
      try simp only [Act.put, List.getElem_toArray, List.getElem_cons_succ, List.getElem_cons_zero, List.setIfInBounds_toArray, List.set_cons_zero, List.set_cons_succ]
      first | (refine wpT_takeB (i := 31) (v := ?_) HOPS rfl (by kernel_rfl) (fun _ _ _ h => h) (Or.inl ⟨by rfl, ?hy⟩) (by assumption) ?_; case hy => (intro w hSw; (try dsimp only at hSw); go_simp; (try with_reducible rfl))) | (refine wpT_takeB (i := 31) (v := _) HOPS rfl (by kernel_rfl) (fun _ _ _ h => h) (Or.inr ⟨by rfl, rfl⟩) (by assumption) ?_)
      try simp only [Act.put, List.getElem_toArray, List.getElem_cons_succ, List.getElem_cons_zero, List.setIfInBounds_toArray, List.set_cons_zero, List.set_cons_succ]
      first | (refine wpT_takeB (i := 32) (v := ?_) HOPS rfl (by kernel_rfl) (fun _ _ _ h => h) (Or.inl ⟨by rfl, ?hy⟩) (by assumption) ?_; case hy => (intro w hSw; (try dsimp only at hSw); go_simp; (try with_reducible rfl))) | (refine wpT_takeB (i := 32) (v := _) HOPS rfl (by kernel_rfl) (fun _ _ _ h => h) (Or.inr ⟨by rfl, rfl⟩) (by assumption) ?_)
      try simp only [Act.put, List.getElem_toArray, List.getElem_cons_succ, List.getElem_cons_zero, List.setIfInBounds_toArray, List.set_cons_zero, List.set_cons_succ]
      first | (refine wpT_takeB (i := 33) (v := ?_) HOPS rfl (by kernel_rfl) (fun _ _ _ h => h) (Or.inl ⟨by rfl, ?hy⟩) (by assumption) ?_; case hy => (intro w hSw; (try dsimp only at hSw); go_simp; (try with_reducible rfl))) | (refine wpT_takeB (i := 33) (v := _) HOPS rfl (by kernel_rfl) (fun _ _ _ h => h) (Or.inr ⟨by rfl, rfl⟩) (by assumption) ?_)
      try simp only [Act.put, List.getElem_toArray, List.getElem_cons_succ, List.getElem_cons_zero, List.setIfInBounds_toArray, List.set_cons_zero, List.set_cons_succ]
      first | (refine wpT_takeB (i := 34) (v := ?_) HOPS rfl (by kernel_rfl) (fun _ _ _ h => h) (Or.inl ⟨by rfl, ?hy⟩) (by assumption) ?_; case hy => (intro w hSw; (try dsimp only at hSw); go_simp; (try with_reducible rfl))) | (refine wpT_takeB (i := 34) (v := _) HOPS rfl (by kernel_rfl) (fun _ _ _ h => h) (Or.inr ⟨by rfl, rfl⟩) (by assumption) ?_)
      try simp only [Act.put, List.getElem_toArray, List.getElem_cons_succ, List.getElem_cons_zero, List.setIfInBounds_toArray, List.set_cons_zero, List.set_cons_succ]
      first | (refine wpT_takeB (i := 35) (v := ?_) HOPS rfl (by kernel_rfl) (fun _ _ _ h => h) (Or.inl ⟨by rfl, ?hy⟩) (by assumption) ?_; case hy => (intro w hSw; (try dsimp only at hSw); go_simp; (try with_reducible rfl))) | (refine wpT_takeB (i := 35) (v := _) HOPS rfl (by kernel_rfl) (fun _ _ _ h => h) (Or.inr ⟨by rfl, rfl⟩) (by assumption) ?_)
      try simp only [Act.put, List.getElem_toArray, List.getElem_cons_succ, List.getElem_cons_zero, List.setIfInBounds_toArray, List.set_cons_zero, List.set_cons_succ]
      first | (refine wpT_takeB (i := 37) (v := ?_) HOPS rfl (by kernel_rfl) (fun _ _ _ h => h) (Or.inl ⟨by rfl, ?hy⟩) (by assumption) ?_; case hy => (intro w hSw; (try dsimp only at hSw); go_simp; (try with_reducible rfl))) | (refine wpT_takeB (i := 37) (v := _) HOPS rfl (by kernel_rfl) (fun _ _ _ h => h) (Or.inr ⟨by rfl, rfl⟩) (by assumption) ?_)
      try simp only [Act.put, List.getElem_toArray, List.getElem_cons_succ, List.getElem_cons_zero, List.setIfInBounds_toArray, List.set_cons_zero, List.set_cons_succ]
      first | (refine wpT_takeB (i := 38) (v := ?_) HOPS rfl (by kernel_rfl) (fun _ _ _ h => h) (Or.inl ⟨by rfl, ?hy⟩) (by assumption) ?_; case hy => (intro w hSw; (try dsimp only at hSw); go_simp; (try with_reducible rfl))) | (refine wpT_takeB (i := 38) (v := _) HOPS rfl (by kernel_rfl) (fun _ _ _ h => h) (Or.inr ⟨by rfl, rfl⟩) (by assumption) ?_)
      try simp only [Act.put, List.getElem_toArray, List.getElem_cons_succ, List.getElem_cons_zero, List.setIfInBounds_toArray, List.set_cons_zero, List.set_cons_succ]
      first | (refine wpT_takeB (i := 39) (v := ?_) HOPS rfl (by kernel_rfl) (fun _ _ _ h => h) (Or.inl ⟨by rfl, ?hy⟩) (by assumption) ?_; case hy => (intro w hSw; (try dsimp only at hSw); go_simp; (try with_reducible rfl))) | (refine wpT_takeB (i := 39) (v := _) HOPS rfl (by kernel_rfl) (fun _ _ _ h => h) (Or.inr ⟨by rfl, rfl⟩) (by assumption) ?_)
      try simp only [Act.put, List.getElem_toArray, List.getElem_cons_succ, List.getElem_cons_zero, List.setIfInBounds_toArray, List.set_cons_zero, List.set_cons_succ]
      refine wpT_ready (rs := [36]) (by kernel_rfl) (by simp) ?_
      refine ReadyT.consB HOPS rfl (by rfl) (fun K hK => ?_) ReadyT.nil
      go_simp
      go_at_call 24
      refine imKnown_any w9.heap.size _ (bw + 4, bh + 4, px0) _ _ HIX.out ?_
      rw [HKN.out]
      intro w10 n
      replace NX := Lib.hid (NX.out.trans n)
      replace RN := Lib.hid (RN.out.kept n id)
      replace MX := Lib.hid (MX.out.kept n id)
      replace HLA := Lib.hid (HLA.out.kept n nof)
      replace SZ := Nat.lt_of_lt_of_le SZ n.size
      replace HBM := Lib.hid ((HBM.out.kept n nof).hi n.size)
      replace HB8 := Lib.hid (n.heap HB8.out id)
      replace HB1 := Lib.hid (n.heap HB1.out id)
      replace HIX := Lib.hid ((HIX.out.kept n nof).hi n.size)
      replace HB9 := Lib.hid (n.heap HB9.out id)
      clear n
      refine hK.out _ _ ⟨by show w10.cell? _ = _; rw [cell_of HB9.out]; rfl, by show w10.cell? _ = _; rw [cell_of HB9.out]; rfl, by show w10.cell? _ = _; rw [cell_of HB9.out]; rfl, by show w10.cell? _ = _; rw [cell_of HB8.out]; rfl, by show w10.cell? _ = _; rw [cell_of HB8.out]; rfl, by show w10.cell? _ = _; rw [cell_of HB8.out]; rfl⟩ (fun hHeld => ?_)
      clear hK K
      try simp only [Act.put, List.getElem_toArray, List.getElem_cons_succ, List.getElem_cons_zero, List.setIfInBounds_toArray, List.set_cons_zero, List.set_cons_succ]
      first | (refine wpT_takeB (i := 40) (v := ?_) HOPS rfl (by kernel_rfl) (fun _ _ _ h => h) (Or.inl ⟨by rfl, ?hy⟩) (by assumption) ?_; case hy => (intro w hSw; (try dsimp only at hSw); go_simp; (try with_reducible rfl))) | (refine wpT_takeB (i := 40) (v := _) HOPS rfl (by kernel_rfl) (fun _ _ _ h => h) (Or.inr ⟨by rfl, rfl⟩) (by assumption) ?_)
      try simp only [Act.put, List.getElem_toArray, List.getElem_cons_succ, List.getElem_cons_zero, List.setIfInBounds_toArray, List.set_cons_zero, List.set_cons_succ]
      first | (refine wpT_takeB (i := 41) (v := ?_) HOPS rfl (by kernel_rfl) (fun _ _ _ h => h) (Or.inl ⟨by rfl, ?hy⟩) (by assumption) ?_; case hy => (intro w hSw; (try dsimp only at hSw); go_simp; (try with_reducible rfl))) | (refine wpT_takeB (i := 41) (v := _) HOPS rfl (by kernel_rfl) (fun _ _ _ h => h) (Or.inr ⟨by rfl, rfl⟩) (by assumption) ?_)
      try simp only [Act.put, List.getElem_toArray, List.getElem_cons_succ, List.getElem_cons_zero, List.setIfInBounds_toArray, List.set_cons_zero, List.set_cons_succ]
      refine wpT_done (by kernel_rfl) ?_ _
      clear HOPS
      repeat clear hHeld
      clear eM eW eA eB
      have kHB90 : w10.cell? ⟨w6.heap.size, 0, none⟩ = some (.int .i64 (bw + 4)) := by rw [cell_of HB9.out]; rfl
      have kHB91 : w10.cell? ⟨w6.heap.size, 1, none⟩ = some (.int .i64 (bh + 4)) := by rw [cell_of HB9.out]; rfl
      have kHB92 : w10.cell? ⟨w6.heap.size, 2, none⟩ = some (.slice (some ⟨g9, o9, none⟩) fn c9) := by rw [cell_of HB9.out]; rfl
      go_wp2_with (fail)
      clear kHB90 kHB91 kHB92
      refine wp_named ?_
      intro W11 hW
      have n : Nw w10 W11 := by rw [hW]; first | exact Ch.refl _ _ | exact (Ch.refl _ _).alloc _ | exact ((Ch.refl _ _).alloc _).alloc _
      replace NX := Lib.hid (NX.out.trans n)
      replace RN := Lib.hid (RN.out.kept n id)
      replace MX := Lib.hid (MX.out.kept n id)
      replace HLA := Lib.hid (HLA.out.kept n nof)
      replace SZ := Nat.lt_of_lt_of_le SZ n.size
      replace HBM := Lib.hid ((HBM.out.kept n nof).hi n.size)
      replace HB8 := Lib.hid (n.heap HB8.out id)
      replace HB1 := Lib.hid (n.heap HB1.out id)
      replace HIX := Lib.hid ((HIX.out.kept n nof).hi n.size)
      replace HB9 := Lib.hid (n.heap HB9.out id)
      clear hW n
      go_loopw [10, 11, 83] (fun _ _ s83 wr => ∃ (k : Nat), s83 = .int .i64 k ∧ k ≤ fn ∧ Hid (Nw W11 wr)) (fun _ _ s83 _ => fn - (intOf s83).toNat)
      case atStart => exact ⟨0, rfl, Nat.zero_le _, Lib.hid (Ch.refl _ _)⟩
      case round =>
        obtain ⟨k, rfl, hk, HC⟩ := hrel
        have k0 : (0 : Int) ≤ (k : Int) := by omega
        obtain ⟨wr0, hwr0⟩ : ∃ W : World, W = wr := ⟨_, rfl⟩
        subst hwr0
        replace NX := Lib.hid (NX.out.trans HC.out)
        replace RN := Lib.hid (RN.out.kept HC.out id)
        replace MX := Lib.hid (MX.out.kept HC.out id)
        replace HLA := Lib.hid (HLA.out.kept HC.out nof)
        replace SZ := Nat.lt_of_lt_of_le SZ HC.out.size
        replace HBM := Lib.hid ((HBM.out.kept HC.out nof).hi HC.out.size)
        replace HB8 := Lib.hid (HC.out.heap HB8.out id)
        replace HB1 := Lib.hid (HC.out.heap HB1.out id)
        replace HIX := Lib.hid ((HIX.out.kept HC.out nof).hi HC.out.size)
        replace HB9 := Lib.hid (HC.out.heap HB9.out id)
        by_cases hlt : k < fn
        · have hxk := HGT.out k hlt
          have k1 : (k : Int) < (fn : Int) := by omega
          obtain ⟨r, hr⟩ : ∃ r, (k : Int) % (bw + 4) = r := ⟨_, rfl⟩
          obtain ⟨qd, hqd⟩ : ∃ q, (k : Int) / (bw + 4) = q := ⟨_, rfl⟩
          have wz : ¬ bw + 4 = 0 := by omega
          have r0 : 0 ≤ r := by rw [← hr]; exact Int.emod_nonneg _ (by omega)
          have r1 : r < bw + 4 := by rw [← hr]; exact Int.emod_lt_of_pos _ (by omega)
          have d0 : 0 ≤ qd := by rw [← hqd]; exact Int.ediv_nonneg k0 (by omega)
          have d1 : qd ≤ (k : Int) := by rw [← hqd]; exact Int.ediv_le_self _ k0
          have hr2 : (k : Int).tmod (bw + 4) = r := by rw [Int.tmod_eq_emod_of_nonneg k0, hr]
          have hq2 : (k : Int).tdiv (bw + 4) = qd := by rw [Int.tdiv_eq_ediv_of_nonneg k0, hqd]
          have w1' : IntKind.i64.wrap r = r := by rw [IntKind.wrap_i64]; omega
          have w2' : IntKind.i64.wrap (r - 2) = r - 2 := by rw [IntKind.wrap_i64]; omega
          have w3' : IntKind.i64.wrap (r - 2 - t0) = r - 2 - t0 := by rw [IntKind.wrap_i64]; omega
          have w4' : IntKind.i64.wrap qd = qd := by rw [IntKind.wrap_i64]; omega
          have w5' : IntKind.i64.wrap (qd - 2) = qd - 2 := by rw [IntKind.wrap_i64]; omega
          have w6' : IntKind.i64.wrap (qd - 2 - t1) = qd - 2 - t1 := by rw [IntKind.wrap_i64]; omega
          obtain ⟨gb, hgb⟩ : ∃ g, getB b (r - 2 - t0) (qd - 2 - t1) = g := ⟨_, rfl⟩
          have hx : px0[k]? = some (if gb = true then 1 else 0) := by
            rw [hxk]
            unfold putP
            rw [HBW.out, hr, hqd, hgb]
          have kx := isIm_cell' HIX.out hx
          have HGB := Lib.hid hgb
          clear hxk hx hgb hr hqd
          cases gb with
          | true => as_aux_lemma =>
            have kx : wr0.cell? ⟨g9, o9 + k, none⟩ = some (.int .i64 1) := kx
            have NW0 := Lib.hid (Ch.refl (fun _ => False) wr0)
            go_upto_region 14 with (fail)
            refine wp_named ?_
            intro W12 hW
            have n : Nw wr0 W12 := by rw [hW]; first | exact Ch.refl _ _ | exact (Ch.refl _ _).alloc _
            replace NX := Lib.hid (NX.out.trans n)
            replace RN := Lib.hid (RN.out.kept n id)
            replace MX := Lib.hid (MX.out.kept n id)
            replace HLA := Lib.hid (HLA.out.kept n nof)
            replace SZ := Nat.lt_of_lt_of_le SZ n.size
            replace HBM := Lib.hid ((HBM.out.kept n nof).hi n.size)
            replace HB8 := Lib.hid (n.heap HB8.out id)
            replace HB1 := Lib.hid (n.heap HB1.out id)
            replace HIX := Lib.hid ((HIX.out.kept n nof).hi n.size)
            replace HB9 := Lib.hid (n.heap HB9.out id)
            replace NW0 := Lib.hid (NW0.out.trans n)
            clear hW n
            refine wp_region_U (F := fun w' => w'.cell? ⟨w6.heap.size, 0, none⟩ = some (.int .i64 (bw + 4)) ∧ w'.cell? ⟨w4.heap.size, 0, none⟩ = some (.int .i64 bw) ∧ w'.cell? ⟨w4.heap.size, 1, none⟩ = some (.int .i64 bh) ∧ w'.cell? ⟨w4.heap.size, 2, none⟩ = some (.slice (some A8) n8 n8) ∧ w'.cell? ⟨w.heap.size, 0, none⟩ = some (.int .i64 t0) ∧ w'.cell? ⟨w.heap.size, 1, none⟩ = some (.int .i64 t1)) (opsOf Tryd.f6 14) 21 21 (by kernel_rfl) (by kernel_rfl) (by kernel_rfl) ⟨by show W12.cell? _ = _; rw [cell_of HB9.out]; rfl, by show W12.cell? _ = _; rw [cell_of HB8.out]; rfl, by show W12.cell? _ = _; rw [cell_of HB8.out]; rfl, by show W12.cell? _ = _; rw [cell_of HB8.out]; rfl, by show W12.cell? _ = _; rw [cell_of HB1.out]; rfl, by show W12.cell? _ = _; rw [cell_of HB1.out]; rfl⟩ (fun HOPS hHeld => ?_)
            refine wpT_named ?_
            intro W13 hW
            rw [← hW] at hHeld
            have n : Nw W12 W13 := by rw [hW]; exact (Ch.refl _ _).drew
            replace NX := Lib.hid (NX.out.trans n)
            replace RN := Lib.hid (RN.out.kept n id)
            replace MX := Lib.hid (MX.out.kept n id)
            replace HLA := Lib.hid (HLA.out.kept n nof)
            replace SZ := Nat.lt_of_lt_of_le SZ n.size
            replace HBM := Lib.hid ((HBM.out.kept n nof).hi n.size)
            replace HB8 := Lib.hid (n.heap HB8.out id)
            replace HB1 := Lib.hid (n.heap HB1.out id)
            replace HIX := Lib.hid ((HIX.out.kept n nof).hi n.size)
            replace HB9 := Lib.hid (n.heap HB9.out id)
            replace NW0 := Lib.hid (NW0.out.trans n)
            clear hW n
            first | (refine wpT_takeB (i := 0) (v := ?_) HOPS rfl (by kernel_rfl) (fun _ _ _ h => h) (Or.inl ⟨by rfl, ?hy⟩) (by assumption) ?_; case hy => (intro w hSw; (try dsimp only at hSw); go_simp; (try with_reducible rfl))) | (refine wpT_takeB (i := 0) (v := _) HOPS rfl (by kernel_rfl) (fun _ _ _ h => h) (Or.inr ⟨by rfl, rfl⟩) (by assumption) ?_)
            try simp only [Act.put, List.getElem_toArray, List.getElem_cons_succ, List.getElem_cons_zero, List.setIfInBounds_toArray, List.set_cons_zero, List.set_cons_succ]
            first | (refine wpT_takeB (i := 1) (v := ?_) HOPS rfl (by kernel_rfl) (fun _ _ _ h => h) (Or.inl ⟨by rfl, ?hy⟩) (by assumption) ?_; case hy => (intro w hSw; (try dsimp only at hSw); go_simp; (try with_reducible rfl))) | (refine wpT_takeB (i := 1) (v := _) HOPS rfl (by kernel_rfl) (fun _ _ _ h => h) (Or.inr ⟨by rfl, rfl⟩) (by assumption) ?_)
            try simp only [Act.put, List.getElem_toArray, List.getElem_cons_succ, List.getElem_cons_zero, List.setIfInBounds_toArray, List.set_cons_zero, List.set_cons_succ]
            first | (refine wpT_takeB (i := 2) (v := ?_) HOPS rfl (by kernel_rfl) (fun _ _ _ h => h) (Or.inl ⟨by rfl, ?hy⟩) (by assumption) ?_; case hy => (intro w hSw; (try dsimp only at hSw); go_simp; (try with_reducible rfl))) | (refine wpT_takeB (i := 2) (v := _) HOPS rfl (by kernel_rfl) (fun _ _ _ h => h) (Or.inr ⟨by rfl, rfl⟩) (by assumption) ?_)
            try simp only [Act.put, List.getElem_toArray, List.getElem_cons_succ, List.getElem_cons_zero, List.setIfInBounds_toArray, List.set_cons_zero, List.set_cons_succ]
            first | (refine wpT_takeB (i := 3) (v := ?_) HOPS rfl (by kernel_rfl) (fun _ _ _ h => h) (Or.inl ⟨by rfl, ?hy⟩) (by assumption) ?_; case hy => (intro w hSw; (try dsimp only at hSw); go_simp; (try with_reducible rfl))) | (refine wpT_takeB (i := 3) (v := _) HOPS rfl (by kernel_rfl) (fun _ _ _ h => h) (Or.inr ⟨by rfl, rfl⟩) (by assumption) ?_)
            try simp only [Act.put, List.getElem_toArray, List.getElem_cons_succ, List.getElem_cons_zero, List.setIfInBounds_toArray, List.set_cons_zero, List.set_cons_succ]
            first | (refine wpT_takeB (i := 4) (v := ?_) HOPS rfl (by kernel_rfl) (fun _ _ _ h => h) (Or.inl ⟨by rfl, ?hy⟩) (by assumption) ?_; case hy => (intro w hSw; (try dsimp only at hSw); go_simp; (try with_reducible rfl))) | (refine wpT_takeB (i := 4) (v := _) HOPS rfl (by kernel_rfl) (fun _ _ _ h => h) (Or.inr ⟨by rfl, rfl⟩) (by assumption) ?_)
            try simp only [Act.put, List.getElem_toArray, List.getElem_cons_succ, List.getElem_cons_zero, List.setIfInBounds_toArray, List.set_cons_zero, List.set_cons_succ]
            first | (refine wpT_takeB (i := 5) (v := ?_) HOPS rfl (by kernel_rfl) (fun _ _ _ h => h) (Or.inl ⟨by rfl, ?hy⟩) (by assumption) ?_; case hy => (intro w hSw; (try dsimp only at hSw); go_simp; (try with_reducible rfl))) | (refine wpT_takeB (i := 5) (v := _) HOPS rfl (by kernel_rfl) (fun _ _ _ h => h) (Or.inr ⟨by rfl, rfl⟩) (by assumption) ?_)
            try simp only [Act.put, List.getElem_toArray, List.getElem_cons_succ, List.getElem_cons_zero, List.setIfInBounds_toArray, List.set_cons_zero, List.set_cons_succ]
            first | (refine wpT_takeB (i := 6) (v := ?_) HOPS rfl (by kernel_rfl) (fun _ _ _ h => h) (Or.inl ⟨by rfl, ?hy⟩) (by assumption) ?_; case hy => (intro w hSw; (try dsimp only at hSw); go_simp; (try with_reducible rfl))) | (refine wpT_takeB (i := 6) (v := _) HOPS rfl (by kernel_rfl) (fun _ _ _ h => h) (Or.inr ⟨by rfl, rfl⟩) (by assumption) ?_)
            try simp only [Act.put, List.getElem_toArray, List.getElem_cons_succ, List.getElem_cons_zero, List.setIfInBounds_toArray, List.set_cons_zero, List.set_cons_succ]
            first | (refine wpT_takeB (i := 7) (v := ?_) HOPS rfl (by kernel_rfl) (fun _ _ _ h => h) (Or.inl ⟨by rfl, ?hy⟩) (by assumption) ?_; case hy => (intro w hSw; (try dsimp only at hSw); go_simp; (try with_reducible rfl))) | (refine wpT_takeB (i := 7) (v := _) HOPS rfl (by kernel_rfl) (fun _ _ _ h => h) (Or.inr ⟨by rfl, rfl⟩) (by assumption) ?_)
            try simp only [Act.put, List.getElem_toArray, List.getElem_cons_succ, List.getElem_cons_zero, List.setIfInBounds_toArray, List.set_cons_zero, List.set_cons_succ]
            first | (refine wpT_takeB (i := 8) (v := ?_) HOPS rfl (by kernel_rfl) (fun _ _ _ h => h) (Or.inl ⟨by rfl, ?hy⟩) (by assumption) ?_; case hy => (intro w hSw; (try dsimp only at hSw); go_simp; (try with_reducible rfl))) | (refine wpT_takeB (i := 8) (v := _) HOPS rfl (by kernel_rfl) (fun _ _ _ h => h) (Or.inr ⟨by rfl, rfl⟩) (by assumption) ?_)
            try simp only [Act.put, List.getElem_toArray, List.getElem_cons_succ, List.getElem_cons_zero, List.setIfInBounds_toArray, List.set_cons_zero, List.set_cons_succ]
            first | (refine wpT_takeB (i := 9) (v := ?_) HOPS rfl (by kernel_rfl) (fun _ _ _ h => h) (Or.inl ⟨by rfl, ?hy⟩) (by assumption) ?_; case hy => (intro w hSw; (try dsimp only at hSw); go_simp; (try with_reducible rfl))) | (refine wpT_takeB (i := 9) (v := _) HOPS rfl (by kernel_rfl) (fun _ _ _ h => h) (Or.inr ⟨by rfl, rfl⟩) (by assumption) ?_)
            try simp only [Act.put, List.getElem_toArray, List.getElem_cons_succ, List.getElem_cons_zero, List.setIfInBounds_toArray, List.set_cons_zero, List.set_cons_succ]
            first | (refine wpT_takeB (i := 10) (v := ?_) HOPS rfl (by kernel_rfl) (fun _ _ _ h => h) (Or.inl ⟨by rfl, ?hy⟩) (by assumption) ?_; case hy => (intro w hSw; (try dsimp only at hSw); go_simp; (try with_reducible rfl))) | (refine wpT_takeB (i := 10) (v := _) HOPS rfl (by kernel_rfl) (fun _ _ _ h => h) (Or.inr ⟨by rfl, rfl⟩) (by assumption) ?_)
            try simp only [Act.put, List.getElem_toArray, List.getElem_cons_succ, List.getElem_cons_zero, List.setIfInBounds_toArray, List.set_cons_zero, List.set_cons_succ]
            first | (refine wpT_takeB (i := 11) (v := ?_) HOPS rfl (by kernel_rfl) (fun _ _ _ h => h) (Or.inl ⟨by rfl, ?hy⟩) (by assumption) ?_; case hy => (intro w hSw; (try dsimp only at hSw); go_simp; (try with_reducible rfl))) | (refine wpT_takeB (i := 11) (v := _) HOPS rfl (by kernel_rfl) (fun _ _ _ h => h) (Or.inr ⟨by rfl, rfl⟩) (by assumption) ?_)
            try simp only [Act.put, List.getElem_toArray, List.getElem_cons_succ, List.getElem_cons_zero, List.setIfInBounds_toArray, List.set_cons_zero, List.set_cons_succ]
            first | (refine wpT_takeB (i := 12) (v := ?_) HOPS rfl (by kernel_rfl) (fun _ _ _ h => h) (Or.inl ⟨by rfl, ?hy⟩) (by assumption) ?_; case hy => (intro w hSw; (try dsimp only at hSw); go_simp; (try with_reducible rfl))) | (refine wpT_takeB (i := 12) (v := _) HOPS rfl (by kernel_rfl) (fun _ _ _ h => h) (Or.inr ⟨by rfl, rfl⟩) (by assumption) ?_)
            try simp only [Act.put, List.getElem_toArray, List.getElem_cons_succ, List.getElem_cons_zero, List.setIfInBounds_toArray, List.set_cons_zero, List.set_cons_succ]
            first | (refine wpT_takeB (i := 13) (v := ?_) HOPS rfl (by kernel_rfl) (fun _ _ _ h => h) (Or.inl ⟨by rfl, ?hy⟩) (by assumption) ?_; case hy => (intro w hSw; (try dsimp only at hSw); go_simp; (try with_reducible rfl))) | (refine wpT_takeB (i := 13) (v := _) HOPS rfl (by kernel_rfl) (fun _ _ _ h => h) (Or.inr ⟨by rfl, rfl⟩) (by assumption) ?_)
            try simp only [Act.put, List.getElem_toArray, List.getElem_cons_succ, List.getElem_cons_zero, List.setIfInBounds_toArray, List.set_cons_zero, List.set_cons_succ]
            first | (refine wpT_takeB (i := 14) (v := ?_) HOPS rfl (by kernel_rfl) (fun _ _ _ h => h) (Or.inl ⟨by rfl, ?hy⟩) (by assumption) ?_; case hy => (intro w hSw; (try dsimp only at hSw); go_simp; (try with_reducible rfl))) | (refine wpT_takeB (i := 14) (v := _) HOPS rfl (by kernel_rfl) (fun _ _ _ h => h) (Or.inr ⟨by rfl, rfl⟩) (by assumption) ?_)
            try simp only [Act.put, List.getElem_toArray, List.getElem_cons_succ, List.getElem_cons_zero, List.setIfInBounds_toArray, List.set_cons_zero, List.set_cons_succ]
            first | (refine wpT_takeB (i := 15) (v := ?_) HOPS rfl (by kernel_rfl) (fun _ _ _ h => h) (Or.inl ⟨by rfl, ?hy⟩) (by assumption) ?_; case hy => (intro w hSw; (try dsimp only at hSw); go_simp; (try with_reducible rfl))) | (refine wpT_takeB (i := 15) (v := _) HOPS rfl (by kernel_rfl) (fun _ _ _ h => h) (Or.inr ⟨by rfl, rfl⟩) (by assumption) ?_)
            try simp only [Act.put, List.getElem_toArray, List.getElem_cons_succ, List.getElem_cons_zero, List.setIfInBounds_toArray, List.set_cons_zero, List.set_cons_succ]
            first | (refine wpT_takeB (i := 16) (v := ?_) HOPS rfl (by kernel_rfl) (fun _ _ _ h => h) (Or.inl ⟨by rfl, ?hy⟩) (by assumption) ?_; case hy => (intro w hSw; (try dsimp only at hSw); go_simp; (try with_reducible rfl))) | (refine wpT_takeB (i := 16) (v := _) HOPS rfl (by kernel_rfl) (fun _ _ _ h => h) (Or.inr ⟨by rfl, rfl⟩) (by assumption) ?_)
            try simp only [Act.put, List.getElem_toArray, List.getElem_cons_succ, List.getElem_cons_zero, List.setIfInBounds_toArray, List.set_cons_zero, List.set_cons_succ]
            first | (refine wpT_takeB (i := 17) (v := ?_) HOPS rfl (by kernel_rfl) (fun _ _ _ h => h) (Or.inl ⟨by rfl, ?hy⟩) (by assumption) ?_; case hy => (intro w hSw; (try dsimp only at hSw); go_simp; (try with_reducible rfl))) | (refine wpT_takeB (i := 17) (v := _) HOPS rfl (by kernel_rfl) (fun _ _ _ h => h) (Or.inr ⟨by rfl, rfl⟩) (by assumption) ?_)
            try simp only [Act.put, List.getElem_toArray, List.getElem_cons_succ, List.getElem_cons_zero, List.setIfInBounds_toArray, List.set_cons_zero, List.set_cons_succ]
            first | (refine wpT_takeB (i := 18) (v := ?_) HOPS rfl (by kernel_rfl) (fun _ _ _ h => h) (Or.inl ⟨by rfl, ?hy⟩) (by assumption) ?_; case hy => (intro w hSw; (try dsimp only at hSw); go_simp; (try with_reducible rfl))) | (refine wpT_takeB (i := 18) (v := _) HOPS rfl (by kernel_rfl) (fun _ _ _ h => h) (Or.inr ⟨by rfl, rfl⟩) (by assumption) ?_)
            try simp only [Act.put, List.getElem_toArray, List.getElem_cons_succ, List.getElem_cons_zero, List.setIfInBounds_toArray, List.set_cons_zero, List.set_cons_succ]
            refine wpT_ready (rs := [19]) (by kernel_rfl) (by simp) ?_
            refine ReadyT.consB HOPS rfl (by rfl) (fun K hK => ?_) ReadyT.nil
            go_simp
            go_at_call 31
            refine Get_any W13.heap.size _ b _ _ _ _ HBM.out ?_
            rw [HGB.out]
            intro w14 n
            replace NX := Lib.hid (NX.out.trans n)
            replace RN := Lib.hid (RN.out.kept n id)
            replace MX := Lib.hid (MX.out.kept n id)
            replace HLA := Lib.hid (HLA.out.kept n nof)
            replace SZ := Nat.lt_of_lt_of_le SZ n.size
            replace HBM := Lib.hid ((HBM.out.kept n nof).hi n.size)
            replace HB8 := Lib.hid (n.heap HB8.out id)
            replace HB1 := Lib.hid (n.heap HB1.out id)
            replace HIX := Lib.hid ((HIX.out.kept n nof).hi n.size)
            replace HB9 := Lib.hid (n.heap HB9.out id)
            replace NW0 := Lib.hid (NW0.out.trans n)
            clear n
            refine hK.out _ _ ⟨by show w14.cell? _ = _; rw [cell_of HB9.out]; rfl, by show w14.cell? _ = _; rw [cell_of HB8.out]; rfl, by show w14.cell? _ = _; rw [cell_of HB8.out]; rfl, by show w14.cell? _ = _; rw [cell_of HB8.out]; rfl, by show w14.cell? _ = _; rw [cell_of HB1.out]; rfl, by show w14.cell? _ = _; rw [cell_of HB1.out]; rfl⟩ (fun hHeld => ?_)
            clear hK K
            try simp only [Act.put, List.getElem_toArray, List.getElem_cons_succ, List.getElem_cons_zero, List.setIfInBounds_toArray, List.set_cons_zero, List.set_cons_succ]
            first | (refine wpT_takeB (i := 20) (v := ?_) HOPS rfl (by kernel_rfl) (fun _ _ _ h => h) (Or.inl ⟨by rfl, ?hy⟩) (by assumption) ?_; case hy => (intro w hSw; (try dsimp only at hSw); go_simp; (try with_reducible rfl))) | (refine wpT_takeB (i := 20) (v := _) HOPS rfl (by kernel_rfl) (fun _ _ _ h => h) (Or.inr ⟨by rfl, rfl⟩) (by assumption) ?_)
            try simp only [Act.put, List.getElem_toArray, List.getElem_cons_succ, List.getElem_cons_zero, List.setIfInBounds_toArray, List.set_cons_zero, List.set_cons_succ]
            refine wpT_done (by kernel_rfl) ?_ _
            clear HOPS
            repeat clear hHeld
            go_wp2_with fail
            refine ⟨⟨k + 1, by go_num, by omega, Lib.hid (HC.out.trans NW0.out)⟩, ?_⟩
            simp [intOf]; omega
          | false => as_aux_lemma =>
            have kx : wr0.cell? ⟨g9, o9 + k, none⟩ = some (.int .i64 0) := kx
            have NW0 := Lib.hid (Ch.refl (fun _ => False) wr0)
            go_upto_region 14 with (fail)
            refine wp_named ?_
            intro W15 hW
            have n : Nw wr0 W15 := by rw [hW]; first | exact Ch.refl _ _ | exact (Ch.refl _ _).alloc _
            replace NX := Lib.hid (NX.out.trans n)
            replace RN := Lib.hid (RN.out.kept n id)
            replace MX := Lib.hid (MX.out.kept n id)
            replace HLA := Lib.hid (HLA.out.kept n nof)
            replace SZ := Nat.lt_of_lt_of_le SZ n.size
            replace HBM := Lib.hid ((HBM.out.kept n nof).hi n.size)
            replace HB8 := Lib.hid (n.heap HB8.out id)
            replace HB1 := Lib.hid (n.heap HB1.out id)
            replace HIX := Lib.hid ((HIX.out.kept n nof).hi n.size)
            replace HB9 := Lib.hid (n.heap HB9.out id)
            replace NW0 := Lib.hid (NW0.out.trans n)
            clear hW n
            refine wp_region_U (F := fun w' => w'.cell? ⟨w6.heap.size, 0, none⟩ = some (.int .i64 (bw + 4)) ∧ w'.cell? ⟨w4.heap.size, 0, none⟩ = some (.int .i64 bw) ∧ w'.cell? ⟨w4.heap.size, 1, none⟩ = some (.int .i64 bh) ∧ w'.cell? ⟨w4.heap.size, 2, none⟩ = some (.slice (some A8) n8 n8) ∧ w'.cell? ⟨w.heap.size, 0, none⟩ = some (.int .i64 t0) ∧ w'.cell? ⟨w.heap.size, 1, none⟩ = some (.int .i64 t1)) (opsOf Tryd.f6 14) 21 21 (by kernel_rfl) (by kernel_rfl) (by kernel_rfl) ⟨by show W15.cell? _ = _; rw [cell_of HB9.out]; rfl, by show W15.cell? _ = _; rw [cell_of HB8.out]; rfl, by show W15.cell? _ = _; rw [cell_of HB8.out]; rfl, by show W15.cell? _ = _; rw [cell_of HB8.out]; rfl, by show W15.cell? _ = _; rw [cell_of HB1.out]; rfl, by show W15.cell? _ = _; rw [cell_of HB1.out]; rfl⟩ (fun HOPS hHeld => ?_)
            refine wpT_named ?_
            intro W16 hW
            rw [← hW] at hHeld
            have n : Nw W15 W16 := by rw [hW]; exact (Ch.refl _ _).drew
            replace NX := Lib.hid (NX.out.trans n)
            replace RN := Lib.hid (RN.out.kept n id)
            replace MX := Lib.hid (MX.out.kept n id)
            replace HLA := Lib.hid (HLA.out.kept n nof)
            replace SZ := Nat.lt_of_lt_of_le SZ n.size
            replace HBM := Lib.hid ((HBM.out.kept n nof).hi n.size)
            replace HB8 := Lib.hid (n.heap HB8.out id)
            replace HB1 := Lib.hid (n.heap HB1.out id)
            replace HIX := Lib.hid ((HIX.out.kept n nof).hi n.size)
            replace HB9 := Lib.hid (n.heap HB9.out id)
            replace NW0 := Lib.hid (NW0.out.trans n)
            clear hW n
            first | (refine wpT_takeB (i := 0) (v := ?_) HOPS rfl (by kernel_rfl) (fun _ _ _ h => h) (Or.inl ⟨by rfl, ?hy⟩) (by assumption) ?_; case hy => (intro w hSw; (try dsimp only at hSw); go_simp; (try with_reducible rfl))) | (refine wpT_takeB (i := 0) (v := _) HOPS rfl (by kernel_rfl) (fun _ _ _ h => h) (Or.inr ⟨by rfl, rfl⟩) (by assumption) ?_)
            try simp only [Act.put, List.getElem_toArray, List.getElem_cons_succ, List.getElem_cons_zero, List.setIfInBounds_toArray, List.set_cons_zero, List.set_cons_succ]
            first | (refine wpT_takeB (i := 1) (v := ?_) HOPS rfl (by kernel_rfl) (fun _ _ _ h => h) (Or.inl ⟨by rfl, ?hy⟩) (by assumption) ?_; case hy => (intro w hSw; (try dsimp only at hSw); go_simp; (try with_reducible rfl))) | (refine wpT_takeB (i := 1) (v := _) HOPS rfl (by kernel_rfl) (fun _ _ _ h => h) (Or.inr ⟨by rfl, rfl⟩) (by assumption) ?_)
            try simp only [Act.put, List.getElem_toArray, List.getElem_cons_succ, List.getElem_cons_zero, List.setIfInBounds_toArray, List.set_cons_zero, List.set_cons_succ]
            first | (refine wpT_takeB (i := 2) (v := ?_) HOPS rfl (by kernel_rfl) (fun _ _ _ h => h) (Or.inl ⟨by rfl, ?hy⟩) (by assumption) ?_; case hy => (intro w hSw; (try dsimp only at hSw); go_simp; (try with_reducible rfl))) | (refine wpT_takeB (i := 2) (v := _) HOPS rfl (by kernel_rfl) (fun _ _ _ h => h) (Or.inr ⟨by rfl, rfl⟩) (by assumption) ?_)
            try simp only [Act.put, List.getElem_toArray, List.getElem_cons_succ, List.getElem_cons_zero, List.setIfInBounds_toArray, List.set_cons_zero, List.set_cons_succ]
            first | (refine wpT_takeB (i := 3) (v := ?_) HOPS rfl (by kernel_rfl) (fun _ _ _ h => h) (Or.inl ⟨by rfl, ?hy⟩) (by assumption) ?_; case hy => (intro w hSw; (try dsimp only at hSw); go_simp; (try with_reducible rfl))) | (refine wpT_takeB (i := 3) (v := _) HOPS rfl (by kernel_rfl) (fun _ _ _ h => h) (Or.inr ⟨by rfl, rfl⟩) (by assumption) ?_)
            try simp only [Act.put, List.getElem_toArray, List.getElem_cons_succ, List.getElem_cons_zero, List.setIfInBounds_toArray, List.set_cons_zero, List.set_cons_succ]
            first | (refine wpT_takeB (i := 4) (v := ?_) HOPS rfl (by kernel_rfl) (fun _ _ _ h => h) (Or.inl ⟨by rfl, ?hy⟩) (by assumption) ?_; case hy => (intro w hSw; (try dsimp only at hSw); go_simp; (try with_reducible rfl))) | (refine wpT_takeB (i := 4) (v := _) HOPS rfl (by kernel_rfl) (fun _ _ _ h => h) (Or.inr ⟨by rfl, rfl⟩) (by assumption) ?_)
            try simp only [Act.put, List.getElem_toArray, List.getElem_cons_succ, List.getElem_cons_zero, List.setIfInBounds_toArray, List.set_cons_zero, List.set_cons_succ]
            first | (refine wpT_takeB (i := 5) (v := ?_) HOPS rfl (by kernel_rfl) (fun _ _ _ h => h) (Or.inl ⟨by rfl, ?hy⟩) (by assumption) ?_; case hy => (intro w hSw; (try dsimp only at hSw); go_simp; (try with_reducible rfl))) | (refine wpT_takeB (i := 5) (v := _) HOPS rfl (by kernel_rfl) (fun _ _ _ h => h) (Or.inr ⟨by rfl, rfl⟩) (by assumption) ?_)
            try simp only [Act.put, List.getElem_toArray, List.getElem_cons_succ, List.getElem_cons_zero, List.setIfInBounds_toArray, List.set_cons_zero, List.set_cons_succ]
            first | (refine wpT_takeB (i := 6) (v := ?_) HOPS rfl (by kernel_rfl) (fun _ _ _ h => h) (Or.inl ⟨by rfl, ?hy⟩) (by assumption) ?_; case hy => (intro w hSw; (try dsimp only at hSw); go_simp; (try with_reducible rfl))) | (refine wpT_takeB (i := 6) (v := _) HOPS rfl (by kernel_rfl) (fun _ _ _ h => h) (Or.inr ⟨by rfl, rfl⟩) (by assumption) ?_)
            try simp only [Act.put, List.getElem_toArray, List.getElem_cons_succ, List.getElem_cons_zero, List.setIfInBounds_toArray, List.set_cons_zero, List.set_cons_succ]
            first | (refine wpT_takeB (i := 7) (v := ?_) HOPS rfl (by kernel_rfl) (fun _ _ _ h => h) (Or.inl ⟨by rfl, ?hy⟩) (by assumption) ?_; case hy => (intro w hSw; (try dsimp only at hSw); go_simp; (try with_reducible rfl))) | (refine wpT_takeB (i := 7) (v := _) HOPS rfl (by kernel_rfl) (fun _ _ _ h => h) (Or.inr ⟨by rfl, rfl⟩) (by assumption) ?_)
            try simp only [Act.put, List.getElem_toArray, List.getElem_cons_succ, List.getElem_cons_zero, List.setIfInBounds_toArray, List.set_cons_zero, List.set_cons_succ]
            first | (refine wpT_takeB (i := 8) (v := ?_) HOPS rfl (by kernel_rfl) (fun _ _ _ h => h) (Or.inl ⟨by rfl, ?hy⟩) (by assumption) ?_; case hy => (intro w hSw; (try dsimp only at hSw); go_simp; (try with_reducible rfl))) | (refine wpT_takeB (i := 8) (v := _) HOPS rfl (by kernel_rfl) (fun _ _ _ h => h) (Or.inr ⟨by rfl, rfl⟩) (by assumption) ?_)
            try simp only [Act.put, List.getElem_toArray, List.getElem_cons_succ, List.getElem_cons_zero, List.setIfInBounds_toArray, List.set_cons_zero, List.set_cons_succ]
            first | (refine wpT_takeB (i := 9) (v := ?_) HOPS rfl (by kernel_rfl) (fun _ _ _ h => h) (Or.inl ⟨by rfl, ?hy⟩) (by assumption) ?_; case hy => (intro w hSw; (try dsimp only at hSw); go_simp; (try with_reducible rfl))) | (refine wpT_takeB (i := 9) (v := _) HOPS rfl (by kernel_rfl) (fun _ _ _ h => h) (Or.inr ⟨by rfl, rfl⟩) (by assumption) ?_)
            try simp only [Act.put, List.getElem_toArray, List.getElem_cons_succ, List.getElem_cons_zero, List.setIfInBounds_toArray, List.set_cons_zero, List.set_cons_succ]
            first | (refine wpT_takeB (i := 10) (v := ?_) HOPS rfl (by kernel_rfl) (fun _ _ _ h => h) (Or.inl ⟨by rfl, ?hy⟩) (by assumption) ?_; case hy => (intro w hSw; (try dsimp only at hSw); go_simp; (try with_reducible rfl))) | (refine wpT_takeB (i := 10) (v := _) HOPS rfl (by kernel_rfl) (fun _ _ _ h => h) (Or.inr ⟨by rfl, rfl⟩) (by assumption) ?_)
            try simp only [Act.put, List.getElem_toArray, List.getElem_cons_succ, List.getElem_cons_zero, List.setIfInBounds_toArray, List.set_cons_zero, List.set_cons_succ]
            first | (refine wpT_takeB (i := 11) (v := ?_) HOPS rfl (by kernel_rfl) (fun _ _ _ h => h) (Or.inl ⟨by rfl, ?hy⟩) (by assumption) ?_; case hy => (intro w hSw; (try dsimp only at hSw); go_simp; (try with_reducible rfl))) | (refine wpT_takeB (i := 11) (v := _) HOPS rfl (by kernel_rfl) (fun _ _ _ h => h) (Or.inr ⟨by rfl, rfl⟩) (by assumption) ?_)
            try simp only [Act.put, List.getElem_toArray, List.getElem_cons_succ, List.getElem_cons_zero, List.setIfInBounds_toArray, List.set_cons_zero, List.set_cons_succ]
            first | (refine wpT_takeB (i := 12) (v := ?_) HOPS rfl (by kernel_rfl) (fun _ _ _ h => h) (Or.inl ⟨by rfl, ?hy⟩) (by assumption) ?_; case hy => (intro w hSw; (try dsimp only at hSw); go_simp; (try with_reducible rfl))) | (refine wpT_takeB (i := 12) (v := _) HOPS rfl (by kernel_rfl) (fun _ _ _ h => h) (Or.inr ⟨by rfl, rfl⟩) (by assumption) ?_)
            try simp only [Act.put, List.getElem_toArray, List.getElem_cons_succ, List.getElem_cons_zero, List.setIfInBounds_toArray, List.set_cons_zero, List.set_cons_succ]
            first | (refine wpT_takeB (i := 13) (v := ?_) HOPS rfl (by kernel_rfl) (fun _ _ _ h => h) (Or.inl ⟨by rfl, ?hy⟩) (by assumption) ?_; case hy => (intro w hSw; (try dsimp only at hSw); go_simp; (try with_reducible rfl))) | (refine wpT_takeB (i := 13) (v := _) HOPS rfl (by kernel_rfl) (fun _ _ _ h => h) (Or.inr ⟨by rfl, rfl⟩) (by assumption) ?_)
            try simp only [Act.put, List.getElem_toArray, List.getElem_cons_succ, List.getElem_cons_zero, List.setIfInBounds_toArray, List.set_cons_zero, List.set_cons_succ]
            first | (refine wpT_takeB (i := 14) (v := ?_) HOPS rfl (by kernel_rfl) (fun _ _ _ h => h) (Or.inl ⟨by rfl, ?hy⟩) (by assumption) ?_; case hy => (intro w hSw; (try dsimp only at hSw); go_simp; (try with_reducible rfl))) | (refine wpT_takeB (i := 14) (v := _) HOPS rfl (by kernel_rfl) (fun _ _ _ h => h) (Or.inr ⟨by rfl, rfl⟩) (by assumption) ?_)
            try simp only [Act.put, List.getElem_toArray, List.getElem_cons_succ, List.getElem_cons_zero, List.setIfInBounds_toArray, List.set_cons_zero, List.set_cons_succ]
            first | (refine wpT_takeB (i := 15) (v := ?_) HOPS rfl (by kernel_rfl) (fun _ _ _ h => h) (Or.inl ⟨by rfl, ?hy⟩) (by assumption) ?_; case hy => (intro w hSw; (try dsimp only at hSw); go_simp; (try with_reducible rfl))) | (refine wpT_takeB (i := 15) (v := _) HOPS rfl (by kernel_rfl) (fun _ _ _ h => h) (Or.inr ⟨by rfl, rfl⟩) (by assumption) ?_)
            try simp only [Act.put, List.getElem_toArray, List.getElem_cons_succ, List.getElem_cons_zero, List.setIfInBounds_toArray, List.set_cons_zero, List.set_cons_succ]
            first | (refine wpT_takeB (i := 16) (v := ?_) HOPS rfl (by kernel_rfl) (fun _ _ _ h => h) (Or.inl ⟨by rfl, ?hy⟩) (by assumption) ?_; case hy => (intro w hSw; (try dsimp only at hSw); go_simp; (try with_reducible rfl))) | (refine wpT_takeB (i := 16) (v := _) HOPS rfl (by kernel_rfl) (fun _ _ _ h => h) (Or.inr ⟨by rfl, rfl⟩) (by assumption) ?_)
            try simp only [Act.put, List.getElem_toArray, List.getElem_cons_succ, List.getElem_cons_zero, List.setIfInBounds_toArray, List.set_cons_zero, List.set_cons_succ]
            first | (refine wpT_takeB (i := 17) (v := ?_) HOPS rfl (by kernel_rfl) (fun _ _ _ h => h) (Or.inl ⟨by rfl, ?hy⟩) (by assumption) ?_; case hy => (intro w hSw; (try dsimp only at hSw); go_simp; (try with_reducible rfl))) | (refine wpT_takeB (i := 17) (v := _) HOPS rfl (by kernel_rfl) (fun _ _ _ h => h) (Or.inr ⟨by rfl, rfl⟩) (by assumption) ?_)
            try simp only [Act.put, List.getElem_toArray, List.getElem_cons_succ, List.getElem_cons_zero, List.setIfInBounds_toArray, List.set_cons_zero, List.set_cons_succ]
            first | (refine wpT_takeB (i := 18) (v := ?_) HOPS rfl (by kernel_rfl) (fun _ _ _ h => h) (Or.inl ⟨by rfl, ?hy⟩) (by assumption) ?_; case hy => (intro w hSw; (try dsimp only at hSw); go_simp; (try with_reducible rfl))) | (refine wpT_takeB (i := 18) (v := _) HOPS rfl (by kernel_rfl) (fun _ _ _ h => h) (Or.inr ⟨by rfl, rfl⟩) (by assumption) ?_)
            try simp only [Act.put, List.getElem_toArray, List.getElem_cons_succ, List.getElem_cons_zero, List.setIfInBounds_toArray, List.set_cons_zero, List.set_cons_succ]
            refine wpT_ready (rs := [19]) (by kernel_rfl) (by simp) ?_
            refine ReadyT.consB HOPS rfl (by rfl) (fun K hK => ?_) ReadyT.nil
            go_simp
            go_at_call 31
            refine Get_any W16.heap.size _ b _ _ _ _ HBM.out ?_
            rw [HGB.out]
            intro w17 n
            replace NX := Lib.hid (NX.out.trans n)
            replace RN := Lib.hid (RN.out.kept n id)
            replace MX := Lib.hid (MX.out.kept n id)
            replace HLA := Lib.hid (HLA.out.kept n nof)
            replace SZ := Nat.lt_of_lt_of_le SZ n.size
            replace HBM := Lib.hid ((HBM.out.kept n nof).hi n.size)
            replace HB8 := Lib.hid (n.heap HB8.out id)
            replace HB1 := Lib.hid (n.heap HB1.out id)
            replace HIX := Lib.hid ((HIX.out.kept n nof).hi n.size)
            replace HB9 := Lib.hid (n.heap HB9.out id)
            replace NW0 := Lib.hid (NW0.out.trans n)
            clear n
            refine hK.out _ _ ⟨by show w17.cell? _ = _; rw [cell_of HB9.out]; rfl, by show w17.cell? _ = _; rw [cell_of HB8.out]; rfl, by show w17.cell? _ = _; rw [cell_of HB8.out]; rfl, by show w17.cell? _ = _; rw [cell_of HB8.out]; rfl, by show w17.cell? _ = _; rw [cell_of HB1.out]; rfl, by show w17.cell? _ = _; rw [cell_of HB1.out]; rfl⟩ (fun hHeld => ?_)
            clear hK K
            try simp only [Act.put, List.getElem_toArray, List.getElem_cons_succ, List.getElem_cons_zero, List.setIfInBounds_toArray, List.set_cons_zero, List.set_cons_succ]
            first | (refine wpT_takeB (i := 20) (v := ?_) HOPS rfl (by kernel_rfl) (fun _ _ _ h => h) (Or.inl ⟨by rfl, ?hy⟩) (by assumption) ?_; case hy => (intro w hSw; (try dsimp only at hSw); go_simp; (try with_reducible rfl))) | (refine wpT_takeB (i := 20) (v := _) HOPS rfl (by kernel_rfl) (fun _ _ _ h => h) (Or.inr ⟨by rfl, rfl⟩) (by assumption) ?_)
            try simp only [Act.put, List.getElem_toArray, List.getElem_cons_succ, List.getElem_cons_zero, List.setIfInBounds_toArray, List.set_cons_zero, List.set_cons_succ]
            refine wpT_done (by kernel_rfl) ?_ _
            clear HOPS
            repeat clear hHeld
            go_wp2_with fail
            refine ⟨⟨k + 1, by go_num, by omega, Lib.hid (HC.out.trans NW0.out)⟩, ?_⟩
            simp [intOf]; omega
        · as_aux_lemma =>
          obtain rfl : fn = k := by omega
          obtain ⟨cN, hcN⟩ : ∃ c : Nat, cntD b (onlyP (validB b) (t0 - t2) (t1 - t3) 0 0) = c := ⟨_, rfl⟩
          have hfp := HFP.out
          rw [hcN] at hfp
          have HFP := Lib.hid hfp
          have HCN := Lib.hid hcN
          clear hfp hcN
          have hbl : b.2.2.length ≤ 1000000000 := by
            obtain ⟨x1, x2, x3⟩ := bmE_ok HBE.out
            have := (mul96 (a := b.1) (b := b.2.1) ⟨x1.1, by omega⟩ ⟨x2.1, by omega⟩).2
            omega
          have kHB90 : wr0.cell? ⟨w6.heap.size, 0, none⟩ = some (.int .i64 (bw + 4)) := by rw [cell_of HB9.out]; rfl
          have jHB90 : ∀ o, (wr0.alloc o).cell? ⟨w6.heap.size, 0, none⟩ = some (.int .i64 (bw + 4)) := fun o => cell_alloc_old o kHB90
          have kHB91 : wr0.cell? ⟨w6.heap.size, 1, none⟩ = some (.int .i64 (bh + 4)) := by rw [cell_of HB9.out]; rfl
          have jHB91 : ∀ o, (wr0.alloc o).cell? ⟨w6.heap.size, 1, none⟩ = some (.int .i64 (bh + 4)) := fun o => cell_alloc_old o kHB91
          have kHB92 : wr0.cell? ⟨w6.heap.size, 2, none⟩ = some (.slice (some ⟨g9, o9, none⟩) fn c9) := by rw [cell_of HB9.out]; rfl
          have jHB92 : ∀ o, (wr0.alloc o).cell? ⟨w6.heap.size, 2, none⟩ = some (.slice (some ⟨g9, o9, none⟩) fn c9) := fun o => cell_alloc_old o kHB92
          have kHB80 : wr0.cell? ⟨w4.heap.size, 0, none⟩ = some (.int .i64 bw) := by rw [cell_of HB8.out]; rfl
          have jHB80 : ∀ o, (wr0.alloc o).cell? ⟨w4.heap.size, 0, none⟩ = some (.int .i64 bw) := fun o => cell_alloc_old o kHB80
          have kHB81 : wr0.cell? ⟨w4.heap.size, 1, none⟩ = some (.int .i64 bh) := by rw [cell_of HB8.out]; rfl
          have jHB81 : ∀ o, (wr0.alloc o).cell? ⟨w4.heap.size, 1, none⟩ = some (.int .i64 bh) := fun o => cell_alloc_old o kHB81
          have kHB82 : wr0.cell? ⟨w4.heap.size, 2, none⟩ = some (.slice (some A8) n8 n8) := by rw [cell_of HB8.out]; rfl
          have jHB82 : ∀ o, (wr0.alloc o).cell? ⟨w4.heap.size, 2, none⟩ = some (.slice (some A8) n8 n8) := fun o => cell_alloc_old o kHB82
          have kHB10 : wr0.cell? ⟨w.heap.size, 0, none⟩ = some (.int .i64 t0) := by rw [cell_of HB1.out]; rfl
          have jHB10 : ∀ o, (wr0.alloc o).cell? ⟨w.heap.size, 0, none⟩ = some (.int .i64 t0) := fun o => cell_alloc_old o kHB10
          have kHB11 : wr0.cell? ⟨w.heap.size, 1, none⟩ = some (.int .i64 t1) := by rw [cell_of HB1.out]; rfl
          have jHB11 : ∀ o, (wr0.alloc o).cell? ⟨w.heap.size, 1, none⟩ = some (.int .i64 t1) := fun o => cell_alloc_old o kHB11
          have kHB12 : wr0.cell? ⟨w.heap.size, 2, none⟩ = some (.int .i64 t2) := by rw [cell_of HB1.out]; rfl
          have jHB12 : ∀ o, (wr0.alloc o).cell? ⟨w.heap.size, 2, none⟩ = some (.int .i64 t2) := fun o => cell_alloc_old o kHB12
          have kHB13 : wr0.cell? ⟨w.heap.size, 3, none⟩ = some (.int .i64 t3) := by rw [cell_of HB1.out]; rfl
          have jHB13 : ∀ o, (wr0.alloc o).cell? ⟨w.heap.size, 3, none⟩ = some (.int .i64 t3) := fun o => cell_alloc_old o kHB13
          go_wp2_with (go_at_call 7; fail)
          clear kHB90 jHB90 kHB91 jHB91 kHB92 jHB92 kHB80 jHB80 kHB81 jHB81 kHB82 jHB82 kHB10 jHB10 kHB11 jHB11 kHB12 jHB12 kHB13 jHB13
          refine imFits_any wr0.heap.size _ (bw + 4, bh + 4, px0) _ b t2 t3 _ _ HIX.out HBM.out (by unfold wfI; omega) (by unfold wfI; omega) (Nat.le_refl _) ?_
          rw [HFP.out]
          intro w18 n
          replace NX := Lib.hid (NX.out.trans n)
          replace RN := Lib.hid (RN.out.kept n id)
          replace MX := Lib.hid (MX.out.kept n id)
          replace HLA := Lib.hid (HLA.out.kept n nof)
          replace SZ := Nat.lt_of_lt_of_le SZ n.size
          replace HBM := Lib.hid ((HBM.out.kept n nof).hi n.size)
          replace HB8 := Lib.hid (n.heap HB8.out id)
          replace HB1 := Lib.hid (n.heap HB1.out id)
          replace HIX := Lib.hid ((HIX.out.kept n nof).hi n.size)
          replace HB9 := Lib.hid (n.heap HB9.out id)
          clear n
          have kHB90 : w18.cell? ⟨w6.heap.size, 0, none⟩ = some (.int .i64 (bw + 4)) := by rw [cell_of HB9.out]; rfl
          have jHB90 : ∀ o, (w18.alloc o).cell? ⟨w6.heap.size, 0, none⟩ = some (.int .i64 (bw + 4)) := fun o => cell_alloc_old o kHB90
          have kHB91 : w18.cell? ⟨w6.heap.size, 1, none⟩ = some (.int .i64 (bh + 4)) := by rw [cell_of HB9.out]; rfl
          have jHB91 : ∀ o, (w18.alloc o).cell? ⟨w6.heap.size, 1, none⟩ = some (.int .i64 (bh + 4)) := fun o => cell_alloc_old o kHB91
          have kHB92 : w18.cell? ⟨w6.heap.size, 2, none⟩ = some (.slice (some ⟨g9, o9, none⟩) fn c9) := by rw [cell_of HB9.out]; rfl
          have jHB92 : ∀ o, (w18.alloc o).cell? ⟨w6.heap.size, 2, none⟩ = some (.slice (some ⟨g9, o9, none⟩) fn c9) := fun o => cell_alloc_old o kHB92
          have kHB80 : w18.cell? ⟨w4.heap.size, 0, none⟩ = some (.int .i64 bw) := by rw [cell_of HB8.out]; rfl
          have jHB80 : ∀ o, (w18.alloc o).cell? ⟨w4.heap.size, 0, none⟩ = some (.int .i64 bw) := fun o => cell_alloc_old o kHB80
          have kHB81 : w18.cell? ⟨w4.heap.size, 1, none⟩ = some (.int .i64 bh) := by rw [cell_of HB8.out]; rfl
          have jHB81 : ∀ o, (w18.alloc o).cell? ⟨w4.heap.size, 1, none⟩ = some (.int .i64 bh) := fun o => cell_alloc_old o kHB81
          have kHB82 : w18.cell? ⟨w4.heap.size, 2, none⟩ = some (.slice (some A8) n8 n8) := by rw [cell_of HB8.out]; rfl
          have jHB82 : ∀ o, (w18.alloc o).cell? ⟨w4.heap.size, 2, none⟩ = some (.slice (some A8) n8 n8) := fun o => cell_alloc_old o kHB82
          have kHB10 : w18.cell? ⟨w.heap.size, 0, none⟩ = some (.int .i64 t0) := by rw [cell_of HB1.out]; rfl
          have jHB10 : ∀ o, (w18.alloc o).cell? ⟨w.heap.size, 0, none⟩ = some (.int .i64 t0) := fun o => cell_alloc_old o kHB10
          have kHB11 : w18.cell? ⟨w.heap.size, 1, none⟩ = some (.int .i64 t1) := by rw [cell_of HB1.out]; rfl
          have jHB11 : ∀ o, (w18.alloc o).cell? ⟨w.heap.size, 1, none⟩ = some (.int .i64 t1) := fun o => cell_alloc_old o kHB11
          have kHB12 : w18.cell? ⟨w.heap.size, 2, none⟩ = some (.int .i64 t2) := by rw [cell_of HB1.out]; rfl
          have jHB12 : ∀ o, (w18.alloc o).cell? ⟨w.heap.size, 2, none⟩ = some (.int .i64 t2) := fun o => cell_alloc_old o kHB12
          have kHB13 : w18.cell? ⟨w.heap.size, 3, none⟩ = some (.int .i64 t3) := by rw [cell_of HB1.out]; rfl
          have jHB13 : ∀ o, (w18.alloc o).cell? ⟨w.heap.size, 3, none⟩ = some (.int .i64 t3) := fun o => cell_alloc_old o kHB13
          go_wp2_with (go_at_call 7; fail)
          clear kHB90 jHB90 kHB91 jHB91 kHB92 jHB92 kHB80 jHB80 kHB81 jHB81 kHB82 jHB82 kHB10 jHB10 kHB11 jHB11 kHB12 jHB12 kHB13 jHB13
          refine fits_any w18.heap.size _ (bw + 4, bh + 4, px0) _ b t0 t1 0 0 _ _ HIX.out HBM.out (by unfold wfI; omega) (by unfold wfI; omega) (Nat.le_refl _) ?_
          rw [HFS.out]
          intro w19 n
          replace NX := Lib.hid (NX.out.trans n)
          replace RN := Lib.hid (RN.out.kept n id)
          replace MX := Lib.hid (MX.out.kept n id)
          replace HLA := Lib.hid (HLA.out.kept n nof)
          replace SZ := Nat.lt_of_lt_of_le SZ n.size
          replace HBM := Lib.hid ((HBM.out.kept n nof).hi n.size)
          replace HB8 := Lib.hid (n.heap HB8.out id)
          replace HB1 := Lib.hid (n.heap HB1.out id)
          replace HIX := Lib.hid ((HIX.out.kept n nof).hi n.size)
          replace HB9 := Lib.hid (n.heap HB9.out id)
          clear n
          have kHB80 : w19.cell? ⟨w4.heap.size, 0, none⟩ = some (.int .i64 bw) := by rw [cell_of HB8.out]; rfl
          have jHB80 : ∀ o, (w19.alloc o).cell? ⟨w4.heap.size, 0, none⟩ = some (.int .i64 bw) := fun o => cell_alloc_old o kHB80
          have kHB81 : w19.cell? ⟨w4.heap.size, 1, none⟩ = some (.int .i64 bh) := by rw [cell_of HB8.out]; rfl
          have jHB81 : ∀ o, (w19.alloc o).cell? ⟨w4.heap.size, 1, none⟩ = some (.int .i64 bh) := fun o => cell_alloc_old o kHB81
          have kHB82 : w19.cell? ⟨w4.heap.size, 2, none⟩ = some (.slice (some A8) n8 n8) := by rw [cell_of HB8.out]; rfl
          have jHB82 : ∀ o, (w19.alloc o).cell? ⟨w4.heap.size, 2, none⟩ = some (.slice (some A8) n8 n8) := fun o => cell_alloc_old o kHB82
          have kHB10 : w19.cell? ⟨w.heap.size, 0, none⟩ = some (.int .i64 t0) := by rw [cell_of HB1.out]; rfl
          have jHB10 : ∀ o, (w19.alloc o).cell? ⟨w.heap.size, 0, none⟩ = some (.int .i64 t0) := fun o => cell_alloc_old o kHB10
          have kHB11 : w19.cell? ⟨w.heap.size, 1, none⟩ = some (.int .i64 t1) := by rw [cell_of HB1.out]; rfl
          have jHB11 : ∀ o, (w19.alloc o).cell? ⟨w.heap.size, 1, none⟩ = some (.int .i64 t1) := fun o => cell_alloc_old o kHB11
          have kHB12 : w19.cell? ⟨w.heap.size, 2, none⟩ = some (.int .i64 t2) := by rw [cell_of HB1.out]; rfl
          have jHB12 : ∀ o, (w19.alloc o).cell? ⟨w.heap.size, 2, none⟩ = some (.int .i64 t2) := fun o => cell_alloc_old o kHB12
          have kHB13 : w19.cell? ⟨w.heap.size, 3, none⟩ = some (.int .i64 t3) := by rw [cell_of HB1.out]; rfl
          have jHB13 : ∀ o, (w19.alloc o).cell? ⟨w.heap.size, 3, none⟩ = some (.int .i64 t3) := fun o => cell_alloc_old o kHB13
          go_wp2_with (go_at_call 7; fail)
          clear kHB80 jHB80 kHB81 jHB81 kHB82 jHB82 kHB10 jHB10 kHB11 jHB11 kHB12 jHB12 kHB13 jHB13
          refine Only_any w19.heap.size _ _ b b (t0 - t2) (t1 - t3) 0 0 _ _ HBM.out HBM.out (Nat.le_refl _) hbl ?_
          rw [HCN.out]
          intro w20 n
          replace NX := Lib.hid (NX.out.trans n)
          replace RN := Lib.hid (RN.out.kept n id)
          replace MX := Lib.hid (MX.out.kept n id)
          replace HLA := Lib.hid (HLA.out.kept n nof)
          replace SZ := Nat.lt_of_lt_of_le SZ n.size
          replace HBM := Lib.hid ((HBM.out.kept n nof).hi n.size)
          replace HB8 := Lib.hid (n.heap HB8.out id)
          replace HB1 := Lib.hid (n.heap HB1.out id)
          replace HIX := Lib.hid ((HIX.out.kept n nof).hi n.size)
          replace HB9 := Lib.hid (n.heap HB9.out id)
          clear n
          go_wp2_with fail
          exact ret_b (HR.out _ NX.out) (by simp)
end Go.Proofs.YtnhdnjhhjmgmnaaDoor
