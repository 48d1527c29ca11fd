/-
  The law VerifyPoints: contract.
-/
import Derived.Test.YtdpbdcaefdcooaaDoorVlw
namespace Go.Proofs.YtdpbdcaefdcooaaDoor
open Go.RowKit
set_option linter.unusedVariables false
set_option linter.unusedSimpArgs false
set_option maxRecDepth 100000

set_option maxHeartbeats 8000000 in
theorem law_points (lo : Nat) (v : Value) (l : List Int) (b1 b2 : UInt8) (w : World) (R : Ending → World → Prop) (hlo : lo ≤ w.heap.size) (hl : IsInts w lo v l) (hk : WOk w)
    (hR : ∀ w', Nw w w' → R (.returned (.bool true)) w') : Calls Tryd.prog 6 #[v, .int .u8 (b1.toNat : Nat), .int .u8 (b2.toNat : Nat)] w R := by
  have HR := Lib.hid hR
  clear hR
  have HKW := Lib.hid hk
  clear hk
  have NX := Lib.hid (Ch.refl (fun _ => False) w)
  have hz5 := HKW.out.sz
  have HIl := Lib.hid (hl.hi hlo)
  obtain ⟨Al, cl, rfl, ⟨hcl, -⟩, -⟩ := hl
  obtain ⟨ml, eml⟩ : ∃ k : Nat, min (l.length : Int) 60 = (k : Int) := ⟨(min (l.length : Int) 60).toNat, by omega⟩
  have mal : (0 : Int) ≤ (ml : Int) := by omega
  have mbl : (ml : Int) ≤ (cl : Int) := by omega
  replace HIl := Lib.hid (HIl.out.takeN ml (by omega))
  obtain ⟨tl, htl⟩ : ∃ t, l.take ml = t := ⟨_, rfl⟩
  rw [htl] at HIl
  have hll : tl.length = ml := by rw [← htl, List.length_take]; omega
  clear htl
  rw [← hll] at eml mal mbl HIl
  clear hll
  have hb1 := UInt8.toNat_lt b1
  have hb2 := UInt8.toNat_lt b2
  obtain ⟨B1, hB1⟩ : ∃ n, b1.toNat = n := ⟨_, rfl⟩
  obtain ⟨B2, hB2⟩ : ∃ n, b2.toNat = n := ⟨_, rfl⟩
  rw [hB1] at hb1 ⊢
  rw [hB2] at hb2 ⊢
  clear hB1 hB2
  go_enter Tryd.func6, Tryd.ntmps6
  go_wp2_with (go_at_call 18; fail)
  refine Calls_nm ?_
  intro W1 hW
  have n : Nw w W1 := by rw [hW]; first | exact Ch.refl _ _ | exact (Ch.refl _ _).alloc _ | exact ((Ch.refl _ _).alloc _).alloc _
  replace HKW := Lib.hid (HKW.out.kept n (fun _ _ e => e))
  replace NX := Lib.hid (NX.out.trans n)
  replace HIl := Lib.hid ((HIl.out.kept n nof).hi n.size)
  clear hW n
  refine sanity_any _ _ HKW.out ?_
  intro w2 n
  replace HKW := Lib.hid (HKW.out.kept n (fun _ _ e => e))
  replace NX := Lib.hid (NX.out.trans n)
  replace HIl := Lib.hid ((HIl.out.kept n nof).hi n.size)
  clear n
  obtain ⟨n1, hn1⟩ : ∃ n : Nat, ((B1 : Nat) : Int) % 9 = (n : Int) := ⟨B1 % 9, by omega⟩
  obtain ⟨n2, hn2⟩ : ∃ n : Nat, ((B2 : Nat) : Int) % 9 = (n : Int) := ⟨B2 % 9, by omega⟩
  have n19 : n1 < 9 := by omega
  have n29 : n2 < 9 := by omega
  go_wp2_with (go_at_call 18; fail)
  refine Calls_nm ?_
  intro W3 hW
  have n : Nw w2 W3 := by rw [hW]; first | exact Ch.refl _ _ | exact (Ch.refl _ _).alloc _ | exact ((Ch.refl _ _).alloc _).alloc _
  replace HKW := Lib.hid (HKW.out.kept n (fun _ _ e => e))
  replace NX := Lib.hid (NX.out.trans n)
  replace HIl := Lib.hid ((HIl.out.kept n nof).hi n.size)
  clear hW n
  refine made_any (n1 : Int) _ tl _ _ HIl.out (by omega) ?_
  intro w4 xp p hrow hnil hmade n
  replace HKW := Lib.hid (HKW.out.kept n (fun _ _ e => e))
  replace NX := Lib.hid (NX.out.trans n)
  replace HIl := Lib.hid ((HIl.out.kept n nof).hi n.size)
  clear n
  have HOp := Lib.hid (show ORow w4 W3.heap.size xp p from hrow)
  have HMp := Lib.hid hmade
  have hpp := made_len hmade
  have HEp := Lib.hid hnil
  obtain ⟨kp, dp, rp, hf⟩ := facts_of hmade
  have kap := hf.k0
  have kbp := hf.k1
  have dbp := hf.d8
  have rbp := hf.r64
  have HFp := Lib.hid hf
  clear hf hmade hnil
  obtain ⟨Ap, cp, ep⟩ := hrow.form
  subst ep
  clear hrow
  clear hn1 hn2
  obtain ⟨S, hS⟩ : ∃ S, sortedP rp = S := ⟨_, rfl⟩
  have HS := Lib.hid hS
  rw [hS] at rbp
  clear hS
  have h1 := HFp.out.check
  have h2 : checkM ((n1 : Int) + (n2 : Int)) p = _ := points_more hpp HFp.out (uses_mono (uses_own HFp.out) (by omega))
  have H1 := Lib.hid h1
  have H2 := Lib.hid h2
  clear h1 h2
  go_wp2_with (go_at_call 18; fail)
  refine Calls_nm ?_
  intro W5 hW
  have n : Nw w4 W5 := by rw [hW]; first | exact Ch.refl _ _ | exact (Ch.refl _ _).alloc _ | exact ((Ch.refl _ _).alloc _).alloc _
  replace HKW := Lib.hid (HKW.out.kept n (fun _ _ e => e))
  replace NX := Lib.hid (NX.out.trans n)
  replace HIl := Lib.hid ((HIl.out.kept n nof).hi n.size)
  replace HOp := Lib.hid (HOp.out.ch' n (fun _ _ e => e))
  clear hW n
  refine check_ok (H1.out) W5.heap.size _ _ _ (ORow.prog (L := p) HOp.out) (Nat.le_refl _) (by have := HKW.out.sz; omega) HKW.out ?_
  intro w6 Aa ca hc n
  replace HKW := Lib.hid (HKW.out.kept n (fun _ _ e => e))
  replace NX := Lib.hid (NX.out.trans n)
  replace HIl := Lib.hid ((HIl.out.kept n nof).hi n.size)
  replace HOp := Lib.hid (HOp.out.ch' n (fun _ _ e => e))
  have HCa := Lib.hid hc
  clear n hc
  rw [HS.out] at HCa ⊢
  go_wp2_with (go_at_call 18; fail)
  refine Calls_nm ?_
  intro W7 hW
  have n : Nw w6 W7 := by rw [hW]; first | exact Ch.refl _ _ | exact (Ch.refl _ _).alloc _ | exact ((Ch.refl _ _).alloc _).alloc _
  replace HKW := Lib.hid (HKW.out.kept n (fun _ _ e => e))
  replace NX := Lib.hid (NX.out.trans n)
  replace HIl := Lib.hid ((HIl.out.kept n nof).hi n.size)
  replace HOp := Lib.hid (HOp.out.ch' n (fun _ _ e => e))
  replace HCa := Lib.hid ((HCa.out.kept n nof))
  have HBa := Lib.hid (show W7.heap[w6.heap.size]? = some (.cells #[.int .i64 kp, .int .i64 dp, .slice Aa S.length ca] 35 (0, 0)) from by rw [hW]; exact heap_alloc_eq _ rfl)
  clear hW n
  refine check_ok (H2.out) W7.heap.size _ _ _ (ORow.prog (L := p) HOp.out) (Nat.le_refl _) (by have := HKW.out.sz; omega) HKW.out ?_
  intro w8 Ab cb hc n
  replace HKW := Lib.hid (HKW.out.kept n (fun _ _ e => e))
  replace NX := Lib.hid (NX.out.trans n)
  replace HIl := Lib.hid ((HIl.out.kept n nof).hi n.size)
  replace HOp := Lib.hid (HOp.out.ch' n (fun _ _ e => e))
  replace HCa := Lib.hid ((HCa.out.kept n nof))
  replace HBa := Lib.hid (n.heap HBa.out id)
  have HCb := Lib.hid hc
  clear n hc
  rw [HS.out] at HCb ⊢
  rcases Classical.em (usesOk (n2 : Int) p) with hu | hu
  · as_aux_lemma =>
    have H3 := Lib.hid (points_more hpp HFp.out hu)
    have HU := Lib.hid (show usedM p ≤ (n2 : Int) from (used_iff (by omega)).2 hu)
    clear hu
    go_wp2_with (go_at_call 18; fail)
    refine Calls_nm ?_
    intro W9 hW
    have n : Nw w8 W9 := by rw [hW]; first | exact Ch.refl _ _ | exact (Ch.refl _ _).alloc _ | exact ((Ch.refl _ _).alloc _).alloc _
    replace HKW := Lib.hid (HKW.out.kept n (fun _ _ e => e))
    replace NX := Lib.hid (NX.out.trans n)
    replace HIl := Lib.hid ((HIl.out.kept n nof).hi n.size)
    replace HOp := Lib.hid (HOp.out.ch' n (fun _ _ e => e))
    replace HCa := Lib.hid ((HCa.out.kept n nof))
    replace HBa := Lib.hid (n.heap HBa.out id)
    replace HCb := Lib.hid ((HCb.out.kept n nof))
    have HBb := Lib.hid (show W9.heap[w8.heap.size]? = some (.cells #[.int .i64 kp, .int .i64 dp, .slice Ab S.length cb] 35 (0, 0)) from by rw [hW]; exact heap_alloc_eq _ rfl)
    clear hW n
    refine check_ok (H3.out) W9.heap.size _ _ _ (ORow.prog (L := p) HOp.out) (Nat.le_refl _) (by have := HKW.out.sz; omega) HKW.out ?_
    intro w10 Ac cc hc n
    replace HKW := Lib.hid (HKW.out.kept n (fun _ _ e => e))
    replace NX := Lib.hid (NX.out.trans n)
    replace HIl := Lib.hid ((HIl.out.kept n nof).hi n.size)
    replace HOp := Lib.hid (HOp.out.ch' n (fun _ _ e => e))
    replace HCa := Lib.hid ((HCa.out.kept n nof))
    replace HBa := Lib.hid (n.heap HBa.out id)
    replace HCb := Lib.hid ((HCb.out.kept n nof))
    replace HBb := Lib.hid (n.heap HBb.out id)
    have HCc := Lib.hid hc
    clear n hc
    rw [HS.out] at HCc ⊢
    go_wp2_with (go_at_call 18; fail)
    refine wp_named ?_
    intro W11 hW
    have n : Nw w10 W11 := by rw [hW]; first | exact Ch.refl _ _ | exact (Ch.refl _ _).alloc _ | exact ((Ch.refl _ _).alloc _).alloc _
    replace HKW := Lib.hid (HKW.out.kept n (fun _ _ e => e))
    replace NX := Lib.hid (NX.out.trans n)
    replace HIl := Lib.hid ((HIl.out.kept n nof).hi n.size)
    replace HOp := Lib.hid (HOp.out.ch' n (fun _ _ e => e))
    replace HCa := Lib.hid ((HCa.out.kept n nof))
    replace HBa := Lib.hid (n.heap HBa.out id)
    replace HCb := Lib.hid ((HCb.out.kept n nof))
    replace HBb := Lib.hid (n.heap HBb.out id)
    replace HCc := Lib.hid ((HCc.out.kept n nof))
    have HBc := Lib.hid (show W11.heap[w10.heap.size]? = some (.cells #[.int .i64 kp, .int .i64 dp, .slice Ac S.length cc] 35 (0, 0)) from by rw [hW]; exact heap_alloc_eq _ rfl)
    clear hW n
    go_loopw [17, 58] (fun s17 s58 wr => ∃ (i : Nat) (u : Int), s58 = .int .i64 i ∧ s17 = .int .i64 u ∧ i ≤ p.length ∧ (0 ≤ u ∧ u ≤ 1000001) ∧ Hid (u = usedM (p.take i)) ∧ Hid (Nw W11 wr)) (fun _ s58 _ => p.length - (intOf s58).toNat)
    case atStart => exact ⟨0, 0, rfl, rfl, Nat.zero_le _, by omega, Lib.hid rfl, Lib.hid (Ch.refl _ _)⟩
    case round =>
      obtain ⟨i, u, rfl, rfl, hi, hub, HUI, HWN⟩ := hrel
      have n := HWN.out
      replace HKW := Lib.hid (HKW.out.kept n (fun _ _ e => e))
      replace NX := Lib.hid (NX.out.trans n)
      replace HIl := Lib.hid ((HIl.out.kept n nof).hi n.size)
      replace HOp := Lib.hid (HOp.out.ch' n (fun _ _ e => e))
      replace HCa := Lib.hid ((HCa.out.kept n nof))
      replace HBa := Lib.hid (n.heap HBa.out id)
      replace HCb := Lib.hid ((HCb.out.kept n nof))
      replace HBb := Lib.hid (n.heap HBb.out id)
      replace HCc := Lib.hid ((HCc.out.kept n nof))
      replace HBc := Lib.hid (n.heap HBc.out id)
      clear n
      have i0 : (0 : Int) ≤ (i : Int) := by omega
      by_cases hlt : i < p.length
      · as_aux_lemma =>
        have i1 : (i : Int) < (p.length : Int) := by omega
        obtain ⟨⟨c, x, y⟩, hq⟩ : ∃ q, p[i]? = some q := ⟨_, List.getElem?_eq_getElem hlt⟩
        obtain ⟨⟨x0, x1⟩, -⟩ := made_small HMp.out (by omega) _ (List.mem_of_getElem? hq)
        simp only at x0 x1
        obtain ⟨A', cap', e1, -, -, hel⟩ := ORow.prog (L := p) HOp.out
        cases e1
        obtain ⟨pk, po, hpk, rfl, q0, q1, q2⟩ := hel i c x y hq
        have hsn := usedM_snoc (p.take i) (c, x, y)
        rw [← HUI.out] at hsn
        have htk : p.take (i + 1) = p.take i ++ [(c, x, y)] := by rw [List.take_add_one, hq]; rfl
        rw [← htk] at hsn
        have HSN := Lib.hid hsn
        clear hel hq hsn htk
        have hc : (c < 10) ∨ (10 ≤ c ∧ c ≤ 13) ∨ (10 ≤ c ∧ 13 < c) := by omega
        rcases hc with hc | ⟨hc, hc2⟩ | ⟨hc, hc2⟩
        · as_aux_lemma =>
          have g1 : ¬ c ≥ 10 := by omega
          have hs := HSN.out
          rw [if_neg (by simp only; omega)] at hs
          have HSS := Lib.hid hs
          clear HSN hs
          go_wp2_with (fail)
          exact ⟨⟨i + 1, u, by go_num, by first | rfl | (try simp only [hu2]; rfl), by omega, by omega, Lib.hid (by rw [HSS.out]), Lib.hid (HWN.out.alloc _)⟩, by simp [intOf]; omega⟩
        · as_aux_lemma =>
          have g1 : c ≥ 10 := hc
          have hs := HSN.out
          rw [if_pos (by simp only; omega)] at hs
          have HSS := Lib.hid hs
          clear HSN hs
          obtain ⟨u2, hu2⟩ : ∃ z, max u (x + 1) = z := ⟨_, rfl⟩
          have u21 : 0 ≤ u2 ∧ u2 ≤ 1000001 := by omega
          go_wp2_with (fail)
          exact ⟨⟨i + 1, u2, by go_num, by first | rfl | (try simp only [hu2]; rfl), by omega, by omega, Lib.hid (by rw [HSS.out]; exact hu2.symm), Lib.hid (HWN.out.alloc _)⟩, by simp [intOf]; omega⟩
        · as_aux_lemma =>
          have g1 : c ≥ 10 := hc
          have g2 : ¬ c ≤ 13 := by omega
          have hs := HSN.out
          rw [if_neg (by simp only; omega)] at hs
          have HSS := Lib.hid hs
          clear HSN hs
          go_wp2_with (fail)
          exact ⟨⟨i + 1, u, by go_num, by first | rfl | (try simp only [hu2]; rfl), by omega, by omega, Lib.hid (by rw [HSS.out]), Lib.hid (HWN.out.alloc _)⟩, by simp [intOf]; omega⟩
      · as_aux_lemma =>
        have i1 : ¬ (i : Int) < (p.length : Int) := by omega
        have hui := HUI.out
        rw [show i = p.length by omega, List.take_length] at hui
        have hu := HU.out
        rw [← hui] at hu
        clear hui
        have g3 : (n2 : Int) ≥ u := hu
        clear hu
        have kHBa0 : wr.cell? ⟨w6.heap.size, 0, none⟩ = some (.int .i64 kp) := by rw [cell_of HBa.out]; rfl
        have kHBa1 : wr.cell? ⟨w6.heap.size, 1, none⟩ = some (.int .i64 dp) := by rw [cell_of HBa.out]; rfl
        have kHBa2 : wr.cell? ⟨w6.heap.size, 2, none⟩ = some (.slice Aa S.length ca) := by rw [cell_of HBa.out]; rfl
        have kHBb0 : wr.cell? ⟨w8.heap.size, 0, none⟩ = some (.int .i64 kp) := by rw [cell_of HBb.out]; rfl
        have kHBb1 : wr.cell? ⟨w8.heap.size, 1, none⟩ = some (.int .i64 dp) := by rw [cell_of HBb.out]; rfl
        have kHBb2 : wr.cell? ⟨w8.heap.size, 2, none⟩ = some (.slice Ab S.length cb) := by rw [cell_of HBb.out]; rfl
        have kHBc0 : wr.cell? ⟨w10.heap.size, 0, none⟩ = some (.int .i64 kp) := by rw [cell_of HBc.out]; rfl
        have kHBc1 : wr.cell? ⟨w10.heap.size, 1, none⟩ = some (.int .i64 dp) := by rw [cell_of HBc.out]; rfl
        have kHBc2 : wr.cell? ⟨w10.heap.size, 2, none⟩ = some (.slice Ac S.length cc) := by rw [cell_of HBc.out]; rfl
        go_wp2_with (go_at_call 18; fail)
        clear kHBa0 kHBa1 kHBa2 kHBb0 kHBb1 kHBb2 kHBc0 kHBc1 kHBc2
        refine Calls_nm ?_
        intro W12 hW
        have n : Nw wr W12 := by rw [hW]; first | exact Ch.refl _ _ | exact (Ch.refl _ _).alloc _ | exact ((Ch.refl _ _).alloc _).alloc _
        replace HKW := Lib.hid (HKW.out.kept n (fun _ _ e => e))
        replace NX := Lib.hid (NX.out.trans n)
        replace HIl := Lib.hid ((HIl.out.kept n nof).hi n.size)
        replace HOp := Lib.hid (HOp.out.ch' n (fun _ _ e => e))
        replace HCa := Lib.hid ((HCa.out.kept n nof))
        replace HBa := Lib.hid (n.heap HBa.out id)
        replace HCb := Lib.hid ((HCb.out.kept n nof))
        replace HBb := Lib.hid (n.heap HBb.out id)
        replace HCc := Lib.hid ((HCc.out.kept n nof))
        replace HBc := Lib.hid (n.heap HBc.out id)
        replace HWN := Lib.hid (HWN.out.trans n)
        clear hW n
        refine sameF_any kp kp dp dp S S _ _ _ _ _ _ HCa.out HCb.out (by omega) (by omega) ?_
        intro w13 n
        replace HKW := Lib.hid (HKW.out.kept n (fun _ _ e => e))
        replace NX := Lib.hid (NX.out.trans n)
        replace HIl := Lib.hid ((HIl.out.kept n nof).hi n.size)
        replace HOp := Lib.hid (HOp.out.ch' n (fun _ _ e => e))
        replace HCa := Lib.hid ((HCa.out.kept n nof))
        replace HBa := Lib.hid (n.heap HBa.out id)
        replace HCb := Lib.hid ((HCb.out.kept n nof))
        replace HBb := Lib.hid (n.heap HBb.out id)
        replace HCc := Lib.hid ((HCc.out.kept n nof))
        replace HBc := Lib.hid (n.heap HBc.out id)
        replace HWN := Lib.hid (HWN.out.trans n)
        clear n
        rw [decide_eq_true rfl]
        have kHBa0 : w13.cell? ⟨w6.heap.size, 0, none⟩ = some (.int .i64 kp) := by rw [cell_of HBa.out]; rfl
        have kHBa1 : w13.cell? ⟨w6.heap.size, 1, none⟩ = some (.int .i64 dp) := by rw [cell_of HBa.out]; rfl
        have kHBa2 : w13.cell? ⟨w6.heap.size, 2, none⟩ = some (.slice Aa S.length ca) := by rw [cell_of HBa.out]; rfl
        have kHBb0 : w13.cell? ⟨w8.heap.size, 0, none⟩ = some (.int .i64 kp) := by rw [cell_of HBb.out]; rfl
        have kHBb1 : w13.cell? ⟨w8.heap.size, 1, none⟩ = some (.int .i64 dp) := by rw [cell_of HBb.out]; rfl
        have kHBb2 : w13.cell? ⟨w8.heap.size, 2, none⟩ = some (.slice Ab S.length cb) := by rw [cell_of HBb.out]; rfl
        have kHBc0 : w13.cell? ⟨w10.heap.size, 0, none⟩ = some (.int .i64 kp) := by rw [cell_of HBc.out]; rfl
        have kHBc1 : w13.cell? ⟨w10.heap.size, 1, none⟩ = some (.int .i64 dp) := by rw [cell_of HBc.out]; rfl
        have kHBc2 : w13.cell? ⟨w10.heap.size, 2, none⟩ = some (.slice Ac S.length cc) := by rw [cell_of HBc.out]; rfl
        go_wp2_with (fail)
        clear kHBa0 kHBa1 kHBa2 kHBb0 kHBb1 kHBb2 kHBc0 kHBc1 kHBc2
        have HRG := Lib.hid (show ∀ x ∈ S, 0 ≤ x ∧ x < (n1 : Int) from fun x hx => made_reach HFp.out x ((sortedP_mem _ _).1 (by rw [HS.out]; exact hx)))
        go_loopw [107] (fun s107 wr => ∃ i : Nat, s107 = .int .i64 i ∧ i ≤ S.length ∧ Hid (Nw w13 wr)) (fun s107 _ => S.length - (intOf s107).toNat)
        case atStart => exact ⟨0, rfl, Nat.zero_le _, Lib.hid (Ch.refl _ _)⟩
        case round =>
          obtain ⟨j, rfl, hj, HWJ⟩ := hrel
          skip
          have n := HWJ.out
          skip
          replace HKW := Lib.hid (HKW.out.kept n (fun _ _ e => e))
          replace NX := Lib.hid (NX.out.trans n)
          replace HIl := Lib.hid ((HIl.out.kept n nof).hi n.size)
          replace HOp := Lib.hid (HOp.out.ch' n (fun _ _ e => e))
          replace HCa := Lib.hid ((HCa.out.kept n nof))
          replace HBa := Lib.hid (n.heap HBa.out id)
          replace HCb := Lib.hid ((HCb.out.kept n nof))
          replace HBb := Lib.hid (n.heap HBb.out id)
          replace HCc := Lib.hid ((HCc.out.kept n nof))
          replace HBc := Lib.hid (n.heap HBc.out id)
          replace HWN := Lib.hid (HWN.out.trans n)
          clear n
          have j0 : (0 : Int) ≤ (j : Int) := by omega
          by_cases hlt : j < S.length
          · as_aux_lemma =>
            have j1 : (j : Int) < (S.length : Int) := by omega
            obtain ⟨x, hx⟩ : ∃ x, S[j]? = some x := ⟨_, List.getElem?_eq_getElem hlt⟩
            obtain ⟨x0, x1⟩ := HRG.out x (List.mem_of_getElem? hx)
            obtain ⟨g9, cx, rfl⟩ := isC_int HCa.out hx
            clear hx
            have g4 : ¬ x < 0 := by omega
            have g5 : ¬ x ≥ (n1 : Int) := by omega
            go_wp2_with (fail)
            exact ⟨⟨j + 1, by go_num, by omega, HWJ⟩, by simp [intOf]; omega⟩
          · as_aux_lemma =>
            have j1 : ¬ (j : Int) < (S.length : Int) := by omega
            have kHBa0 : wr.cell? ⟨w6.heap.size, 0, none⟩ = some (.int .i64 kp) := by rw [cell_of HBa.out]; rfl
            have kHBa1 : wr.cell? ⟨w6.heap.size, 1, none⟩ = some (.int .i64 dp) := by rw [cell_of HBa.out]; rfl
            have kHBa2 : wr.cell? ⟨w6.heap.size, 2, none⟩ = some (.slice Aa S.length ca) := by rw [cell_of HBa.out]; rfl
            have kHBc0 : wr.cell? ⟨w10.heap.size, 0, none⟩ = some (.int .i64 kp) := by rw [cell_of HBc.out]; rfl
            have kHBc1 : wr.cell? ⟨w10.heap.size, 1, none⟩ = some (.int .i64 dp) := by rw [cell_of HBc.out]; rfl
            have kHBc2 : wr.cell? ⟨w10.heap.size, 2, none⟩ = some (.slice Ac S.length cc) := by rw [cell_of HBc.out]; rfl
            go_wp2_with (go_at_call 18; fail)
            clear kHBa0 kHBa1 kHBa2 kHBc0 kHBc1 kHBc2
            refine Calls_nm ?_
            intro W14 hW
            have n : Nw wr W14 := by rw [hW]; first | exact Ch.refl _ _ | exact (Ch.refl _ _).alloc _ | exact ((Ch.refl _ _).alloc _).alloc _
            replace HKW := Lib.hid (HKW.out.kept n (fun _ _ e => e))
            replace NX := Lib.hid (NX.out.trans n)
            replace HIl := Lib.hid ((HIl.out.kept n nof).hi n.size)
            replace HOp := Lib.hid (HOp.out.ch' n (fun _ _ e => e))
            replace HCa := Lib.hid ((HCa.out.kept n nof))
            replace HBa := Lib.hid (n.heap HBa.out id)
            replace HCb := Lib.hid ((HCb.out.kept n nof))
            replace HBb := Lib.hid (n.heap HBb.out id)
            replace HCc := Lib.hid ((HCc.out.kept n nof))
            replace HBc := Lib.hid (n.heap HBc.out id)
            replace HWN := Lib.hid (HWN.out.trans n)
            clear hW n
            refine sameF_any kp kp dp dp S S _ _ _ _ _ _ HCa.out HCc.out (by omega) (by omega) ?_
            intro w15 n
            replace HKW := Lib.hid (HKW.out.kept n (fun _ _ e => e))
            replace NX := Lib.hid (NX.out.trans n)
            replace HIl := Lib.hid ((HIl.out.kept n nof).hi n.size)
            replace HOp := Lib.hid (HOp.out.ch' n (fun _ _ e => e))
            replace HCa := Lib.hid ((HCa.out.kept n nof))
            replace HBa := Lib.hid (n.heap HBa.out id)
            replace HCb := Lib.hid ((HCb.out.kept n nof))
            replace HBb := Lib.hid (n.heap HBb.out id)
            replace HCc := Lib.hid ((HCc.out.kept n nof))
            replace HBc := Lib.hid (n.heap HBc.out id)
            replace HWN := Lib.hid (HWN.out.trans n)
            clear n
            rw [decide_eq_true rfl]
            go_wp2
            exact HR.out _ NX.out
  · as_aux_lemma =>
    have H3 := Lib.hid (points_less hpp HFp.out hu)
    have HU := Lib.hid (show ¬ usedM p ≤ (n2 : Int) from fun h => hu ((used_iff (by omega)).1 h))
    clear hu
    go_wp2_with (go_at_call 18; fail)
    refine Calls_nm ?_
    intro W16 hW
    have n : Nw w8 W16 := by rw [hW]; first | exact Ch.refl _ _ | exact (Ch.refl _ _).alloc _ | exact ((Ch.refl _ _).alloc _).alloc _
    replace HKW := Lib.hid (HKW.out.kept n (fun _ _ e => e))
    replace NX := Lib.hid (NX.out.trans n)
    replace HIl := Lib.hid ((HIl.out.kept n nof).hi n.size)
    replace HOp := Lib.hid (HOp.out.ch' n (fun _ _ e => e))
    replace HCa := Lib.hid ((HCa.out.kept n nof))
    replace HBa := Lib.hid (n.heap HBa.out id)
    replace HCb := Lib.hid ((HCb.out.kept n nof))
    have HBb := Lib.hid (show W16.heap[w8.heap.size]? = some (.cells #[.int .i64 kp, .int .i64 dp, .slice Ab S.length cb] 35 (0, 0)) from by rw [hW]; exact heap_alloc_eq _ rfl)
    clear hW n
    refine check_err (H3.out) W16.heap.size _ _ _ (ORow.prog (L := p) HOp.out) (Nat.le_refl _) (by have := HKW.out.sz; omega) HKW.out ?_
    intro w17 n
    replace HKW := Lib.hid (HKW.out.kept n (fun _ _ e => e))
    replace NX := Lib.hid (NX.out.trans n)
    replace HIl := Lib.hid ((HIl.out.kept n nof).hi n.size)
    replace HOp := Lib.hid (HOp.out.ch' n (fun _ _ e => e))
    replace HCa := Lib.hid ((HCa.out.kept n nof))
    replace HBa := Lib.hid (n.heap HBa.out id)
    replace HCb := Lib.hid ((HCb.out.kept n nof))
    replace HBb := Lib.hid (n.heap HBb.out id)
    clear n
    go_wp2_with (go_at_call 18; fail)
    refine wp_named ?_
    intro W18 hW
    have n : Nw w17 W18 := by rw [hW]; first | exact Ch.refl _ _ | exact (Ch.refl _ _).alloc _ | exact ((Ch.refl _ _).alloc _).alloc _
    replace HKW := Lib.hid (HKW.out.kept n (fun _ _ e => e))
    replace NX := Lib.hid (NX.out.trans n)
    replace HIl := Lib.hid ((HIl.out.kept n nof).hi n.size)
    replace HOp := Lib.hid (HOp.out.ch' n (fun _ _ e => e))
    replace HCa := Lib.hid ((HCa.out.kept n nof))
    replace HBa := Lib.hid (n.heap HBa.out id)
    replace HCb := Lib.hid ((HCb.out.kept n nof))
    replace HBb := Lib.hid (n.heap HBb.out id)
    have HBc := Lib.hid (show W18.heap[w17.heap.size]? = some (.cells #[.int .i64 0, .int .i64 0, .slice none 0 0] 35 (0, 0)) from by rw [hW]; exact heap_alloc_eq _ rfl)
    clear hW n
    go_loopw [17, 58] (fun s17 s58 wr => ∃ (i : Nat) (u : Int), s58 = .int .i64 i ∧ s17 = .int .i64 u ∧ i ≤ p.length ∧ (0 ≤ u ∧ u ≤ 1000001) ∧ Hid (u = usedM (p.take i)) ∧ Hid (Nw W18 wr)) (fun _ s58 _ => p.length - (intOf s58).toNat)
    case atStart => exact ⟨0, 0, rfl, rfl, Nat.zero_le _, by omega, Lib.hid rfl, Lib.hid (Ch.refl _ _)⟩
    case round =>
      obtain ⟨i, u, rfl, rfl, hi, hub, HUI, HWN⟩ := hrel
      have n := HWN.out
      replace HKW := Lib.hid (HKW.out.kept n (fun _ _ e => e))
      replace NX := Lib.hid (NX.out.trans n)
      replace HIl := Lib.hid ((HIl.out.kept n nof).hi n.size)
      replace HOp := Lib.hid (HOp.out.ch' n (fun _ _ e => e))
      replace HCa := Lib.hid ((HCa.out.kept n nof))
      replace HBa := Lib.hid (n.heap HBa.out id)
      replace HCb := Lib.hid ((HCb.out.kept n nof))
      replace HBb := Lib.hid (n.heap HBb.out id)
      replace HBc := Lib.hid (n.heap HBc.out id)
      clear n
      have i0 : (0 : Int) ≤ (i : Int) := by omega
      by_cases hlt : i < p.length
      · as_aux_lemma =>
        have i1 : (i : Int) < (p.length : Int) := by omega
        obtain ⟨⟨c, x, y⟩, hq⟩ : ∃ q, p[i]? = some q := ⟨_, List.getElem?_eq_getElem hlt⟩
        obtain ⟨⟨x0, x1⟩, -⟩ := made_small HMp.out (by omega) _ (List.mem_of_getElem? hq)
        simp only at x0 x1
        obtain ⟨A', cap', e1, -, -, hel⟩ := ORow.prog (L := p) HOp.out
        cases e1
        obtain ⟨pk, po, hpk, rfl, q0, q1, q2⟩ := hel i c x y hq
        have hsn := usedM_snoc (p.take i) (c, x, y)
        rw [← HUI.out] at hsn
        have htk : p.take (i + 1) = p.take i ++ [(c, x, y)] := by rw [List.take_add_one, hq]; rfl
        rw [← htk] at hsn
        have HSN := Lib.hid hsn
        clear hel hq hsn htk
        have hc : (c < 10) ∨ (10 ≤ c ∧ c ≤ 13) ∨ (10 ≤ c ∧ 13 < c) := by omega
        rcases hc with hc | ⟨hc, hc2⟩ | ⟨hc, hc2⟩
        · as_aux_lemma =>
          have g1 : ¬ c ≥ 10 := by omega
          have hs := HSN.out
          rw [if_neg (by simp only; omega)] at hs
          have HSS := Lib.hid hs
          clear HSN hs
          go_wp2_with (fail)
          exact ⟨⟨i + 1, u, by go_num, by first | rfl | (try simp only [hu2]; rfl), by omega, by omega, Lib.hid (by rw [HSS.out]), Lib.hid (HWN.out.alloc _)⟩, by simp [intOf]; omega⟩
        · as_aux_lemma =>
          have g1 : c ≥ 10 := hc
          have hs := HSN.out
          rw [if_pos (by simp only; omega)] at hs
          have HSS := Lib.hid hs
          clear HSN hs
          obtain ⟨u2, hu2⟩ : ∃ z, max u (x + 1) = z := ⟨_, rfl⟩
          have u21 : 0 ≤ u2 ∧ u2 ≤ 1000001 := by omega
          go_wp2_with (fail)
          exact ⟨⟨i + 1, u2, by go_num, by first | rfl | (try simp only [hu2]; rfl), by omega, by omega, Lib.hid (by rw [HSS.out]; exact hu2.symm), Lib.hid (HWN.out.alloc _)⟩, by simp [intOf]; omega⟩
        · as_aux_lemma =>
          have g1 : c ≥ 10 := hc
          have g2 : ¬ c ≤ 13 := by omega
          have hs := HSN.out
          rw [if_neg (by simp only; omega)] at hs
          have HSS := Lib.hid hs
          clear HSN hs
          go_wp2_with (fail)
          exact ⟨⟨i + 1, u, by go_num, by first | rfl | (try simp only [hu2]; rfl), by omega, by omega, Lib.hid (by rw [HSS.out]), Lib.hid (HWN.out.alloc _)⟩, by simp [intOf]; omega⟩
      · as_aux_lemma =>
        have i1 : ¬ (i : Int) < (p.length : Int) := by omega
        have hui := HUI.out
        rw [show i = p.length by omega, List.take_length] at hui
        have hu := HU.out
        rw [← hui] at hu
        clear hui
        have g3 : ¬ (n2 : Int) ≥ u := by omega
        clear hu
        have kHBa0 : wr.cell? ⟨w6.heap.size, 0, none⟩ = some (.int .i64 kp) := by rw [cell_of HBa.out]; rfl
        have kHBa1 : wr.cell? ⟨w6.heap.size, 1, none⟩ = some (.int .i64 dp) := by rw [cell_of HBa.out]; rfl
        have kHBa2 : wr.cell? ⟨w6.heap.size, 2, none⟩ = some (.slice Aa S.length ca) := by rw [cell_of HBa.out]; rfl
        have kHBb0 : wr.cell? ⟨w8.heap.size, 0, none⟩ = some (.int .i64 kp) := by rw [cell_of HBb.out]; rfl
        have kHBb1 : wr.cell? ⟨w8.heap.size, 1, none⟩ = some (.int .i64 dp) := by rw [cell_of HBb.out]; rfl
        have kHBb2 : wr.cell? ⟨w8.heap.size, 2, none⟩ = some (.slice Ab S.length cb) := by rw [cell_of HBb.out]; rfl
        have kHBc0 : wr.cell? ⟨w17.heap.size, 0, none⟩ = some (.int .i64 0) := by rw [cell_of HBc.out]; rfl
        have kHBc1 : wr.cell? ⟨w17.heap.size, 1, none⟩ = some (.int .i64 0) := by rw [cell_of HBc.out]; rfl
        have kHBc2 : wr.cell? ⟨w17.heap.size, 2, none⟩ = some (.slice none 0 0) := by rw [cell_of HBc.out]; rfl
        go_wp2_with (go_at_call 18; fail)
        clear kHBa0 kHBa1 kHBa2 kHBb0 kHBb1 kHBb2 kHBc0 kHBc1 kHBc2
        refine Calls_nm ?_
        intro W19 hW
        have n : Nw wr W19 := by rw [hW]; first | exact Ch.refl _ _ | exact (Ch.refl _ _).alloc _ | exact ((Ch.refl _ _).alloc _).alloc _
        replace HKW := Lib.hid (HKW.out.kept n (fun _ _ e => e))
        replace NX := Lib.hid (NX.out.trans n)
        replace HIl := Lib.hid ((HIl.out.kept n nof).hi n.size)
        replace HOp := Lib.hid (HOp.out.ch' n (fun _ _ e => e))
        replace HCa := Lib.hid ((HCa.out.kept n nof))
        replace HBa := Lib.hid (n.heap HBa.out id)
        replace HCb := Lib.hid ((HCb.out.kept n nof))
        replace HBb := Lib.hid (n.heap HBb.out id)
        replace HBc := Lib.hid (n.heap HBc.out id)
        replace HWN := Lib.hid (HWN.out.trans n)
        clear hW n
        refine sameF_any kp kp dp dp S S _ _ _ _ _ _ HCa.out HCb.out (by omega) (by omega) ?_
        intro w20 n
        replace HKW := Lib.hid (HKW.out.kept n (fun _ _ e => e))
        replace NX := Lib.hid (NX.out.trans n)
        replace HIl := Lib.hid ((HIl.out.kept n nof).hi n.size)
        replace HOp := Lib.hid (HOp.out.ch' n (fun _ _ e => e))
        replace HCa := Lib.hid ((HCa.out.kept n nof))
        replace HBa := Lib.hid (n.heap HBa.out id)
        replace HCb := Lib.hid ((HCb.out.kept n nof))
        replace HBb := Lib.hid (n.heap HBb.out id)
        replace HBc := Lib.hid (n.heap HBc.out id)
        replace HWN := Lib.hid (HWN.out.trans n)
        clear n
        rw [decide_eq_true rfl]
        have kHBa0 : w20.cell? ⟨w6.heap.size, 0, none⟩ = some (.int .i64 kp) := by rw [cell_of HBa.out]; rfl
        have kHBa1 : w20.cell? ⟨w6.heap.size, 1, none⟩ = some (.int .i64 dp) := by rw [cell_of HBa.out]; rfl
        have kHBa2 : w20.cell? ⟨w6.heap.size, 2, none⟩ = some (.slice Aa S.length ca) := by rw [cell_of HBa.out]; rfl
        have kHBb0 : w20.cell? ⟨w8.heap.size, 0, none⟩ = some (.int .i64 kp) := by rw [cell_of HBb.out]; rfl
        have kHBb1 : w20.cell? ⟨w8.heap.size, 1, none⟩ = some (.int .i64 dp) := by rw [cell_of HBb.out]; rfl
        have kHBb2 : w20.cell? ⟨w8.heap.size, 2, none⟩ = some (.slice Ab S.length cb) := by rw [cell_of HBb.out]; rfl
        have kHBc0 : w20.cell? ⟨w17.heap.size, 0, none⟩ = some (.int .i64 0) := by rw [cell_of HBc.out]; rfl
        have kHBc1 : w20.cell? ⟨w17.heap.size, 1, none⟩ = some (.int .i64 0) := by rw [cell_of HBc.out]; rfl
        have kHBc2 : w20.cell? ⟨w17.heap.size, 2, none⟩ = some (.slice none 0 0) := by rw [cell_of HBc.out]; rfl
        go_wp2_with (fail)
        clear kHBa0 kHBa1 kHBa2 kHBb0 kHBb1 kHBb2 kHBc0 kHBc1 kHBc2
        have HRG := Lib.hid (show ∀ x ∈ S, 0 ≤ x ∧ x < (n1 : Int) from fun x hx => made_reach HFp.out x ((sortedP_mem _ _).1 (by rw [HS.out]; exact hx)))
        go_loopw [107] (fun s107 wr => ∃ i : Nat, s107 = .int .i64 i ∧ i ≤ S.length ∧ Hid (Nw w20 wr)) (fun s107 _ => S.length - (intOf s107).toNat)
        case atStart => exact ⟨0, rfl, Nat.zero_le _, Lib.hid (Ch.refl _ _)⟩
        case round =>
          obtain ⟨j, rfl, hj, HWJ⟩ := hrel
          skip
          have n := HWJ.out
          skip
          replace HKW := Lib.hid (HKW.out.kept n (fun _ _ e => e))
          replace NX := Lib.hid (NX.out.trans n)
          replace HIl := Lib.hid ((HIl.out.kept n nof).hi n.size)
          replace HOp := Lib.hid (HOp.out.ch' n (fun _ _ e => e))
          replace HCa := Lib.hid ((HCa.out.kept n nof))
          replace HBa := Lib.hid (n.heap HBa.out id)
          replace HCb := Lib.hid ((HCb.out.kept n nof))
          replace HBb := Lib.hid (n.heap HBb.out id)
          replace HBc := Lib.hid (n.heap HBc.out id)
          replace HWN := Lib.hid (HWN.out.trans n)
          clear n
          have j0 : (0 : Int) ≤ (j : Int) := by omega
          by_cases hlt : j < S.length
          · as_aux_lemma =>
            have j1 : (j : Int) < (S.length : Int) := by omega
            obtain ⟨x, hx⟩ : ∃ x, S[j]? = some x := ⟨_, List.getElem?_eq_getElem hlt⟩
            obtain ⟨x0, x1⟩ := HRG.out x (List.mem_of_getElem? hx)
            obtain ⟨g9, cx, rfl⟩ := isC_int HCa.out hx
            clear hx
            have g4 : ¬ x < 0 := by omega
            have g5 : ¬ x ≥ (n1 : Int) := by omega
            go_wp2_with (fail)
            exact ⟨⟨j + 1, by go_num, by omega, HWJ⟩, by simp [intOf]; omega⟩
          · as_aux_lemma =>
            have j1 : ¬ (j : Int) < (S.length : Int) := by omega
            go_wp2
            exact HR.out _ NX.out

end Go.Proofs.YtdpbdcaefdcooaaDoor
