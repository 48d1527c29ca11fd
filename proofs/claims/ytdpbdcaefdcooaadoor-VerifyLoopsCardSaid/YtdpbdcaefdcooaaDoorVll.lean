/-
  The law VerifyLoops: contract.
-/
import Derived.Test.YtdpbdcaefdcooaaDoorVlw
namespace Go.Proofs.YtdpbdcaefdcooaaDoor
open Go.RowKit
set_option linter.unusedVariables false
set_option linter.unusedSimpArgs false
set_option maxRecDepth 100000

set_option maxHeartbeats 8000000 in
theorem law_loops (lo : Nat) (v : Value) (l : List Int) (b1 : UInt8) (w : World) (R : Ending → World → Prop) (hlo : lo ≤ w.heap.size) (hl : IsInts w lo v l) (hk : WOk w)
    (hR : ∀ w', Nw w w' → R (.returned (.bool true)) w') : Calls Tryd.prog 5 #[v, .int .u8 (b1.toNat : Nat)] w R := by
  have HR := Lib.hid hR
  clear hR
  have HKW := Lib.hid hk
  clear hk
  have NX := Lib.hid (Ch.refl (fun _ => False) w)
  have hz5 := HKW.out.sz
  have HIl := Lib.hid (hl.hi hlo)
  obtain ⟨Al, cl, rfl, ⟨hcl, -⟩, -⟩ := hl
  obtain ⟨ml, eml⟩ : ∃ k : Nat, min (l.length : Int) 60 = (k : Int) := ⟨(min (l.length : Int) 60).toNat, by omega⟩
  have mal : (0 : Int) ≤ (ml : Int) := by omega
  have mbl : (ml : Int) ≤ (cl : Int) := by omega
  replace HIl := Lib.hid (HIl.out.takeN ml (by omega))
  obtain ⟨tl, htl⟩ : ∃ t, l.take ml = t := ⟨_, rfl⟩
  rw [htl] at HIl
  have hll : tl.length = ml := by rw [← htl, List.length_take]; omega
  clear htl
  rw [← hll] at eml mal mbl HIl
  clear hll
  have hb1 := UInt8.toNat_lt b1
  obtain ⟨B1, hB1⟩ : ∃ n, b1.toNat = n := ⟨_, rfl⟩
  rw [hB1] at hb1 ⊢
  clear hB1
  go_enter Tryd.func5, Tryd.ntmps5
  go_wp2_with (go_at_call 18; fail)
  refine Calls_nm ?_
  intro W1 hW
  have n : Nw w W1 := by rw [hW]; first | exact Ch.refl _ _ | exact (Ch.refl _ _).alloc _ | exact ((Ch.refl _ _).alloc _).alloc _
  replace HKW := Lib.hid (HKW.out.kept n (fun _ _ e => e))
  replace NX := Lib.hid (NX.out.trans n)
  replace HIl := Lib.hid ((HIl.out.kept n nof).hi n.size)
  clear hW n
  refine sanity_any _ _ HKW.out ?_
  intro w2 n
  replace HKW := Lib.hid (HKW.out.kept n (fun _ _ e => e))
  replace NX := Lib.hid (NX.out.trans n)
  replace HIl := Lib.hid ((HIl.out.kept n nof).hi n.size)
  clear n
  obtain ⟨n1, hn1⟩ : ∃ n : Nat, ((B1 : Nat) : Int) % 18 = (n : Int) := ⟨B1 % 18, by omega⟩
  have n19 : n1 < 18 := by omega
  go_wp2_with (go_at_call 18; fail)
  refine Calls_nm ?_
  intro W3 hW
  have n : Nw w2 W3 := by rw [hW]; first | exact Ch.refl _ _ | exact (Ch.refl _ _).alloc _ | exact ((Ch.refl _ _).alloc _).alloc _
  replace HKW := Lib.hid (HKW.out.kept n (fun _ _ e => e))
  replace NX := Lib.hid (NX.out.trans n)
  replace HIl := Lib.hid ((HIl.out.kept n nof).hi n.size)
  clear hW n
  refine made_any 7 _ tl _ _ HIl.out (by omega) ?_
  intro w4 xp p hrow hnil hmade n
  replace HKW := Lib.hid (HKW.out.kept n (fun _ _ e => e))
  replace NX := Lib.hid (NX.out.trans n)
  replace HIl := Lib.hid ((HIl.out.kept n nof).hi n.size)
  clear n
  have HOp := Lib.hid (show ORow w4 W3.heap.size xp p from hrow)
  have HMp := Lib.hid hmade
  have hpp := made_len hmade
  have HEp := Lib.hid hnil
  obtain ⟨kp, dp, rp, hf⟩ := facts_of hmade
  have kap := hf.k0
  have kbp := hf.k1
  have dbp := hf.d8
  have rbp := hf.r64
  have HFp := Lib.hid hf
  clear hf hmade hnil
  obtain ⟨Ap, cp, ep⟩ := hrow.form
  subst ep
  clear hrow
  have H1 := Lib.hid HFp.out.check
  obtain ⟨S, hS⟩ : ∃ S, sortedP rp = S := ⟨_, rfl⟩
  have HS := Lib.hid hS
  rw [hS] at rbp
  clear hS
  go_wp2_with (go_at_call 18; fail)
  refine Calls_nm ?_
  intro W5 hW
  have n : Nw w4 W5 := by rw [hW]; first | exact Ch.refl _ _ | exact (Ch.refl _ _).alloc _ | exact ((Ch.refl _ _).alloc _).alloc _
  replace HKW := Lib.hid (HKW.out.kept n (fun _ _ e => e))
  replace NX := Lib.hid (NX.out.trans n)
  replace HIl := Lib.hid ((HIl.out.kept n nof).hi n.size)
  replace HOp := Lib.hid (HOp.out.ch' n (fun _ _ e => e))
  clear hW n
  refine check_ok (H1.out) W5.heap.size _ _ _ (ORow.prog (L := p) HOp.out) (Nat.le_refl _) (by have := HKW.out.sz; omega) HKW.out ?_
  intro w6 Aa ca hc n
  replace HKW := Lib.hid (HKW.out.kept n (fun _ _ e => e))
  replace NX := Lib.hid (NX.out.trans n)
  replace HIl := Lib.hid ((HIl.out.kept n nof).hi n.size)
  replace HOp := Lib.hid (HOp.out.ch' n (fun _ _ e => e))
  have HCa := Lib.hid hc
  clear n hc
  rw [HS.out] at HCa ⊢
  clear hn1
  have hcase : p = [] ∨ (p ≠ [] ∧ n1 = 0) ∨ (p ≠ [] ∧ 16 < n1) ∨ (p ≠ [] ∧ (1 ≤ n1 ∧ n1 ≤ 16) ∧ 2000 < 1 + (n1 : Int) * kp) ∨ (p ≠ [] ∧ (1 ≤ n1 ∧ n1 ≤ 16) ∧ 1 + (n1 : Int) * kp ≤ 2000) := by
    by_cases h : p = []
    · exact Or.inl h
    · have : n1 = 0 ∨ 16 < n1 ∨ (1 ≤ n1 ∧ n1 ≤ 16) := by omega
      rcases this with h1 | h1 | h1
      · exact Or.inr (Or.inl ⟨h, h1⟩)
      · exact Or.inr (Or.inr (Or.inl ⟨h, h1⟩))
      · rcases Int.lt_or_le 2000 (1 + (n1 : Int) * kp) with h2 | h2
        · exact Or.inr (Or.inr (Or.inr (Or.inl ⟨h, h1, h2⟩)))
        · exact Or.inr (Or.inr (Or.inr (Or.inr ⟨h, h1, h2⟩)))
  have hpos : p ≠ [] → 0 < p.length := fun h => List.length_pos_iff.2 h
  have HPOS := Lib.hid hpos
  clear hpos
  obtain ⟨d2, hd2⟩ : ∃ d2 : Nat, max dp 1 = d2 := ⟨_, rfl⟩
  have d21 : max (dp : Int) 1 = (d2 : Int) := by omega
  have HD2 := Lib.hid hd2
  have d29 : d2 ≤ 8 := by omega
  clear hd2
  rcases hcase with hp0 | ⟨hp0, hn⟩ | ⟨hp0, hn⟩ | ⟨hp0, hn, hq⟩ | ⟨hp0, hn, hq⟩
  · as_aux_lemma =>
    have H2 := Lib.hid (loop_bad (np := 7) (n := (n1 : Int)) hpp (Or.inl hp0))
    have H3 := Lib.hid (show checkM 7 ([(1, 5, 0), (14, (p.length : Int), 0)] ++ p) = .error 5 from by rw [hp0]; exact cond_bad)
    have HL0 := Lib.hid (show p.length = 0 from by rw [hp0]; rfl)
    clear hp0 d21
    go_upto_region 5 with (fail)
    refine wp_named ?_
    intro W7 hW
    have n : Nw w6 W7 := by rw [hW]; first | exact Ch.refl _ _ | exact (Ch.refl _ _).alloc _
    replace HKW := Lib.hid (HKW.out.kept n (fun _ _ e => e))
    replace NX := Lib.hid (NX.out.trans n)
    replace HIl := Lib.hid ((HIl.out.kept n nof).hi n.size)
    replace HOp := Lib.hid (HOp.out.ch' n (fun _ _ e => e))
    replace HCa := Lib.hid ((HCa.out.kept n nof))
    have HBa := Lib.hid (show W7.heap[w6.heap.size]? = some (.cells #[.int .i64 kp, .int .i64 dp, .slice Aa S.length ca] 35 (0, 0)) from by rw [hW]; exact heap_alloc_eq _ rfl)
    clear hW n
    refine wp_region_lit ?_
    refine wpList_plain rfl fun K hK => ?_
    go_simp
    refine hK _ _ ?_
    clear hK K
    try simp only [Act.put, List.getElem_toArray, List.getElem_cons_succ, List.getElem_cons_zero, List.setIfInBounds_toArray, List.set_cons_zero, List.set_cons_succ]
    refine wpList_plain rfl fun K hK => ?_
    go_simp
    refine hK _ _ ?_
    clear hK K
    try simp only [Act.put, List.getElem_toArray, List.getElem_cons_succ, List.getElem_cons_zero, List.setIfInBounds_toArray, List.set_cons_zero, List.set_cons_succ]
    refine wpList_plain rfl fun K hK => ?_
    go_simp
    refine hK _ _ ?_
    clear hK K
    try simp only [Act.put, List.getElem_toArray, List.getElem_cons_succ, List.getElem_cons_zero, List.setIfInBounds_toArray, List.set_cons_zero, List.set_cons_succ]
    refine wpList_plain rfl fun K hK => ?_
    go_simp
    refine hK _ _ ?_
    clear hK K
    try simp only [Act.put, List.getElem_toArray, List.getElem_cons_succ, List.getElem_cons_zero, List.setIfInBounds_toArray, List.set_cons_zero, List.set_cons_succ]
    refine wpList_plain rfl fun K hK => ?_
    refine wp_lit1x3 25 28 _ rfl Tryd.underlying25 (by kernel_rfl) (by rfl) ?_
    refine hK _ _ ?_
    clear hK K
    try simp only [Act.put, List.getElem_toArray, List.getElem_cons_succ, List.getElem_cons_zero, List.setIfInBounds_toArray, List.set_cons_zero, List.set_cons_succ]
    refine wpList_plain rfl fun K hK => ?_
    go_simp
    refine hK _ _ ?_
    clear hK K
    try simp only [Act.put, List.getElem_toArray, List.getElem_cons_succ, List.getElem_cons_zero, List.setIfInBounds_toArray, List.set_cons_zero, List.set_cons_succ]
    refine wpList_plain rfl fun K hK => ?_
    refine wp_appOps _ (.tmp 34) (.tmp 35) rfl W7.heap.size _ [((15 : Int), (n1 : Int), (p.length : Int))] (by rfl) (row_lit (n := 1) (Nat.le_refl _) rfl (by omega)) W3.heap.size _ p (by rfl) (CRow.ch' (HOp.out) ((Ch.refl (fun _ => False) _).alloc _) (fun _ _ e => e)) HEp.out (by simp only [List.length_cons, List.length_nil]; omega) (by rw [alloc_size]; omega) ?_
    intro v9 w9 hrow9 hgr9 hnil9
    have n : Nw W7 w9 := ((Ch.refl _ _).alloc _).grown hgr9 (fun k e hk => by have e' : W7.heap.size = k := Option.some.inj e; omega)
    refine hK _ _ ?_
    clear hK K
    try simp only [Act.put, List.getElem_toArray, List.getElem_cons_succ, List.getElem_cons_zero, List.setIfInBounds_toArray, List.set_cons_zero, List.set_cons_succ]
    obtain ⟨w8, hwq⟩ : ∃ W : World, W = w9 := ⟨_, rfl⟩
    subst hwq
    replace HKW := Lib.hid (HKW.out.kept n (fun _ _ e => e))
    replace NX := Lib.hid (NX.out.trans n)
    replace HIl := Lib.hid ((HIl.out.kept n nof).hi n.size)
    replace HOp := Lib.hid (HOp.out.ch' n (fun _ _ e => e))
    replace HCa := Lib.hid ((HCa.out.kept n nof))
    replace HBa := Lib.hid (n.heap HBa.out id)
    have HOb := Lib.hid (show ORow w8 W7.heap.size v9 ([((15 : Int), (n1 : Int), (p.length : Int))] ++ p) from hrow9)
    obtain ⟨Ab, cb, eb⟩ := hrow9.form
    subst eb
    clear hrow9 hgr9 hnil9 n
    go_wp2_with (go_at_call 18; fail)
    refine Calls_nm ?_
    intro W9 hW
    have n : Nw w8 W9 := by rw [hW]; first | exact Ch.refl _ _ | exact (Ch.refl _ _).alloc _ | exact ((Ch.refl _ _).alloc _).alloc _
    replace HKW := Lib.hid (HKW.out.kept n (fun _ _ e => e))
    replace NX := Lib.hid (NX.out.trans n)
    replace HIl := Lib.hid ((HIl.out.kept n nof).hi n.size)
    replace HOp := Lib.hid (HOp.out.ch' n (fun _ _ e => e))
    replace HCa := Lib.hid ((HCa.out.kept n nof))
    replace HBa := Lib.hid (n.heap HBa.out id)
    replace HOb := Lib.hid (HOb.out.ch' n (fun _ _ e => e))
    clear hW n
    refine check_err ((show checkM 7 ([((15 : Int), (n1 : Int), (p.length : Int))] ++ p) = _ from H2.out)) W9.heap.size _ _ _ (ORow.prog (L := _) HOb.out) (Nat.le_refl _) (by have := HKW.out.sz; omega) HKW.out ?_
    intro w10 n
    replace HKW := Lib.hid (HKW.out.kept n (fun _ _ e => e))
    replace NX := Lib.hid (NX.out.trans n)
    replace HIl := Lib.hid ((HIl.out.kept n nof).hi n.size)
    replace HOp := Lib.hid (HOp.out.ch' n (fun _ _ e => e))
    replace HCa := Lib.hid ((HCa.out.kept n nof))
    replace HBa := Lib.hid (n.heap HBa.out id)
    replace HOb := Lib.hid (HOb.out.ch' n (fun _ _ e => e))
    clear n
    go_upto_region 6 with (fail)
    refine wp_named ?_
    intro W11 hW
    have n : Nw w10 W11 := by rw [hW]; first | exact Ch.refl _ _ | exact (Ch.refl _ _).alloc _
    replace HKW := Lib.hid (HKW.out.kept n (fun _ _ e => e))
    replace NX := Lib.hid (NX.out.trans n)
    replace HIl := Lib.hid ((HIl.out.kept n nof).hi n.size)
    replace HOp := Lib.hid (HOp.out.ch' n (fun _ _ e => e))
    replace HCa := Lib.hid ((HCa.out.kept n nof))
    replace HBa := Lib.hid (n.heap HBa.out id)
    replace HOb := Lib.hid (HOb.out.ch' n (fun _ _ e => e))
    have HBb := Lib.hid (show W11.heap[w10.heap.size]? = some (.cells #[.int .i64 0, .int .i64 0, .slice none 0 0] 35 (0, 0)) from by rw [hW]; exact heap_alloc_eq _ rfl)
    clear hW n
    refine wp_region_lit ?_
    refine wpList_plain rfl fun K hK => ?_
    go_simp
    refine hK _ _ ?_
    clear hK K
    try simp only [Act.put, List.getElem_toArray, List.getElem_cons_succ, List.getElem_cons_zero, List.setIfInBounds_toArray, List.set_cons_zero, List.set_cons_succ]
    refine wpList_plain rfl fun K hK => ?_
    go_simp
    refine hK _ _ ?_
    clear hK K
    try simp only [Act.put, List.getElem_toArray, List.getElem_cons_succ, List.getElem_cons_zero, List.setIfInBounds_toArray, List.set_cons_zero, List.set_cons_succ]
    refine wpList_plain rfl fun K hK => ?_
    go_simp
    refine hK _ _ ?_
    clear hK K
    try simp only [Act.put, List.getElem_toArray, List.getElem_cons_succ, List.getElem_cons_zero, List.setIfInBounds_toArray, List.set_cons_zero, List.set_cons_succ]
    refine wpList_plain rfl fun K hK => ?_
    go_simp
    refine hK _ _ ?_
    clear hK K
    try simp only [Act.put, List.getElem_toArray, List.getElem_cons_succ, List.getElem_cons_zero, List.setIfInBounds_toArray, List.set_cons_zero, List.set_cons_succ]
    refine wpList_plain rfl fun K hK => ?_
    refine wp_lit2x3 25 28 _ _ rfl Tryd.underlying25 (by kernel_rfl) (by rfl) (by rfl) ?_
    refine hK _ _ ?_
    clear hK K
    try simp only [Act.put, List.getElem_toArray, List.getElem_cons_succ, List.getElem_cons_zero, List.setIfInBounds_toArray, List.set_cons_zero, List.set_cons_succ]
    refine wpList_plain rfl fun K hK => ?_
    go_simp
    refine hK _ _ ?_
    clear hK K
    try simp only [Act.put, List.getElem_toArray, List.getElem_cons_succ, List.getElem_cons_zero, List.setIfInBounds_toArray, List.set_cons_zero, List.set_cons_succ]
    refine wpList_plain rfl fun K hK => ?_
    refine wp_appOps _ (.tmp 45) (.tmp 46) rfl W11.heap.size _ [((1 : Int), (5 : Int), (0 : Int)), (14, (p.length : Int), 0)] (by rfl) (row_lit (n := 2) (Nat.le_refl _) rfl (by omega)) W3.heap.size _ p (by rfl) (CRow.ch' (HOp.out) ((Ch.refl (fun _ => False) _).alloc _) (fun _ _ e => e)) HEp.out (by simp only [List.length_cons, List.length_nil]; omega) (by rw [alloc_size]; omega) ?_
    intro v9 w9 hrow9 hgr9 hnil9
    have n : Nw W11 w9 := ((Ch.refl _ _).alloc _).grown hgr9 (fun k e hk => by have e' : W11.heap.size = k := Option.some.inj e; omega)
    refine hK _ _ ?_
    clear hK K
    try simp only [Act.put, List.getElem_toArray, List.getElem_cons_succ, List.getElem_cons_zero, List.setIfInBounds_toArray, List.set_cons_zero, List.set_cons_succ]
    obtain ⟨w12, hwq⟩ : ∃ W : World, W = w9 := ⟨_, rfl⟩
    subst hwq
    replace HKW := Lib.hid (HKW.out.kept n (fun _ _ e => e))
    replace NX := Lib.hid (NX.out.trans n)
    replace HIl := Lib.hid ((HIl.out.kept n nof).hi n.size)
    replace HOp := Lib.hid (HOp.out.ch' n (fun _ _ e => e))
    replace HCa := Lib.hid ((HCa.out.kept n nof))
    replace HBa := Lib.hid (n.heap HBa.out id)
    replace HOb := Lib.hid (HOb.out.ch' n (fun _ _ e => e))
    replace HBb := Lib.hid (n.heap HBb.out id)
    have HOc := Lib.hid (show ORow w12 W11.heap.size v9 ([((1 : Int), (5 : Int), (0 : Int)), (14, (p.length : Int), 0)] ++ p) from hrow9)
    obtain ⟨Ac, cc, ec⟩ := hrow9.form
    subst ec
    clear hrow9 hgr9 hnil9 n
    go_wp2_with (go_at_call 18; fail)
    refine Calls_nm ?_
    intro W13 hW
    have n : Nw w12 W13 := by rw [hW]; first | exact Ch.refl _ _ | exact (Ch.refl _ _).alloc _ | exact ((Ch.refl _ _).alloc _).alloc _
    replace HKW := Lib.hid (HKW.out.kept n (fun _ _ e => e))
    replace NX := Lib.hid (NX.out.trans n)
    replace HIl := Lib.hid ((HIl.out.kept n nof).hi n.size)
    replace HOp := Lib.hid (HOp.out.ch' n (fun _ _ e => e))
    replace HCa := Lib.hid ((HCa.out.kept n nof))
    replace HBa := Lib.hid (n.heap HBa.out id)
    replace HOb := Lib.hid (HOb.out.ch' n (fun _ _ e => e))
    replace HBb := Lib.hid (n.heap HBb.out id)
    replace HOc := Lib.hid (HOc.out.ch' n (fun _ _ e => e))
    clear hW n
    refine check_err (H3.out) W13.heap.size _ _ _ (ORow.prog (L := _) HOc.out) (Nat.le_refl _) (by have := HKW.out.sz; omega) HKW.out ?_
    intro w14 n
    replace HKW := Lib.hid (HKW.out.kept n (fun _ _ e => e))
    replace NX := Lib.hid (NX.out.trans n)
    replace HIl := Lib.hid ((HIl.out.kept n nof).hi n.size)
    replace HOp := Lib.hid (HOp.out.ch' n (fun _ _ e => e))
    replace HCa := Lib.hid ((HCa.out.kept n nof))
    replace HBa := Lib.hid (n.heap HBa.out id)
    replace HOb := Lib.hid (HOb.out.ch' n (fun _ _ e => e))
    replace HBb := Lib.hid (n.heap HBb.out id)
    replace HOc := Lib.hid (HOc.out.ch' n (fun _ _ e => e))
    clear n
    have hl0 := HL0.out
    go_wp2
    exact HR.out _ (NX.out.alloc _)
  · as_aux_lemma =>
    have H2 := Lib.hid (loop_bad (np := 7) (n := (n1 : Int)) hpp (Or.inr (by omega)))
    have H3 := Lib.hid (show checkM 7 ([(1, 5, 0), (14, (p.length : Int), 0)] ++ p) = _ from cond_good hpp HFp.out hp0)
    have hl0 := HPOS.out hp0
    have hl1 : ((p.length : Int) == 0) = false := by simp; omega
    rw [HD2.out] at H3
    clear hp0 d21
    subst hn
    have H2 := Lib.hid (show checkM 7 ([((15 : Int), (0 : Int), (p.length : Int))] ++ p) = _ from H2.out)
    go_upto_region 5 with (fail)
    refine wp_named ?_
    intro W15 hW
    have n : Nw w6 W15 := by rw [hW]; first | exact Ch.refl _ _ | exact (Ch.refl _ _).alloc _
    replace HKW := Lib.hid (HKW.out.kept n (fun _ _ e => e))
    replace NX := Lib.hid (NX.out.trans n)
    replace HIl := Lib.hid ((HIl.out.kept n nof).hi n.size)
    replace HOp := Lib.hid (HOp.out.ch' n (fun _ _ e => e))
    replace HCa := Lib.hid ((HCa.out.kept n nof))
    have HBa := Lib.hid (show W15.heap[w6.heap.size]? = some (.cells #[.int .i64 kp, .int .i64 dp, .slice Aa S.length ca] 35 (0, 0)) from by rw [hW]; exact heap_alloc_eq _ rfl)
    clear hW n
    refine wp_region_lit ?_
    refine wpList_plain rfl fun K hK => ?_
    go_simp
    refine hK _ _ ?_
    clear hK K
    try simp only [Act.put, List.getElem_toArray, List.getElem_cons_succ, List.getElem_cons_zero, List.setIfInBounds_toArray, List.set_cons_zero, List.set_cons_succ]
    refine wpList_plain rfl fun K hK => ?_
    go_simp
    refine hK _ _ ?_
    clear hK K
    try simp only [Act.put, List.getElem_toArray, List.getElem_cons_succ, List.getElem_cons_zero, List.setIfInBounds_toArray, List.set_cons_zero, List.set_cons_succ]
    refine wpList_plain rfl fun K hK => ?_
    go_simp
    refine hK _ _ ?_
    clear hK K
    try simp only [Act.put, List.getElem_toArray, List.getElem_cons_succ, List.getElem_cons_zero, List.setIfInBounds_toArray, List.set_cons_zero, List.set_cons_succ]
    refine wpList_plain rfl fun K hK => ?_
    go_simp
    refine hK _ _ ?_
    clear hK K
    try simp only [Act.put, List.getElem_toArray, List.getElem_cons_succ, List.getElem_cons_zero, List.setIfInBounds_toArray, List.set_cons_zero, List.set_cons_succ]
    refine wpList_plain rfl fun K hK => ?_
    refine wp_lit1x3 25 28 _ rfl Tryd.underlying25 (by kernel_rfl) (by rfl) ?_
    refine hK _ _ ?_
    clear hK K
    try simp only [Act.put, List.getElem_toArray, List.getElem_cons_succ, List.getElem_cons_zero, List.setIfInBounds_toArray, List.set_cons_zero, List.set_cons_succ]
    refine wpList_plain rfl fun K hK => ?_
    go_simp
    refine hK _ _ ?_
    clear hK K
    try simp only [Act.put, List.getElem_toArray, List.getElem_cons_succ, List.getElem_cons_zero, List.setIfInBounds_toArray, List.set_cons_zero, List.set_cons_succ]
    refine wpList_plain rfl fun K hK => ?_
    refine wp_appOps _ (.tmp 34) (.tmp 35) rfl W15.heap.size _ [((15 : Int), (0 : Int), (p.length : Int))] (by rfl) (row_lit (n := 1) (Nat.le_refl _) rfl (by omega)) W3.heap.size _ p (by rfl) (CRow.ch' (HOp.out) ((Ch.refl (fun _ => False) _).alloc _) (fun _ _ e => e)) HEp.out (by simp only [List.length_cons, List.length_nil]; omega) (by rw [alloc_size]; omega) ?_
    intro v9 w9 hrow9 hgr9 hnil9
    have n : Nw W15 w9 := ((Ch.refl _ _).alloc _).grown hgr9 (fun k e hk => by have e' : W15.heap.size = k := Option.some.inj e; omega)
    refine hK _ _ ?_
    clear hK K
    try simp only [Act.put, List.getElem_toArray, List.getElem_cons_succ, List.getElem_cons_zero, List.setIfInBounds_toArray, List.set_cons_zero, List.set_cons_succ]
    obtain ⟨w16, hwq⟩ : ∃ W : World, W = w9 := ⟨_, rfl⟩
    subst hwq
    replace HKW := Lib.hid (HKW.out.kept n (fun _ _ e => e))
    replace NX := Lib.hid (NX.out.trans n)
    replace HIl := Lib.hid ((HIl.out.kept n nof).hi n.size)
    replace HOp := Lib.hid (HOp.out.ch' n (fun _ _ e => e))
    replace HCa := Lib.hid ((HCa.out.kept n nof))
    replace HBa := Lib.hid (n.heap HBa.out id)
    have HOb := Lib.hid (show ORow w16 W15.heap.size v9 ([((15 : Int), (0 : Int), (p.length : Int))] ++ p) from hrow9)
    obtain ⟨Ab, cb, eb⟩ := hrow9.form
    subst eb
    clear hrow9 hgr9 hnil9 n
    go_wp2_with (go_at_call 18; fail)
    refine Calls_nm ?_
    intro W17 hW
    have n : Nw w16 W17 := by rw [hW]; first | exact Ch.refl _ _ | exact (Ch.refl _ _).alloc _ | exact ((Ch.refl _ _).alloc _).alloc _
    replace HKW := Lib.hid (HKW.out.kept n (fun _ _ e => e))
    replace NX := Lib.hid (NX.out.trans n)
    replace HIl := Lib.hid ((HIl.out.kept n nof).hi n.size)
    replace HOp := Lib.hid (HOp.out.ch' n (fun _ _ e => e))
    replace HCa := Lib.hid ((HCa.out.kept n nof))
    replace HBa := Lib.hid (n.heap HBa.out id)
    replace HOb := Lib.hid (HOb.out.ch' n (fun _ _ e => e))
    clear hW n
    refine check_err ((show checkM 7 ([((15 : Int), (0 : Int), (p.length : Int))] ++ p) = _ from H2.out)) W17.heap.size _ _ _ (ORow.prog (L := _) HOb.out) (Nat.le_refl _) (by have := HKW.out.sz; omega) HKW.out ?_
    intro w18 n
    replace HKW := Lib.hid (HKW.out.kept n (fun _ _ e => e))
    replace NX := Lib.hid (NX.out.trans n)
    replace HIl := Lib.hid ((HIl.out.kept n nof).hi n.size)
    replace HOp := Lib.hid (HOp.out.ch' n (fun _ _ e => e))
    replace HCa := Lib.hid ((HCa.out.kept n nof))
    replace HBa := Lib.hid (n.heap HBa.out id)
    replace HOb := Lib.hid (HOb.out.ch' n (fun _ _ e => e))
    clear n
    go_upto_region 6 with (fail)
    refine wp_named ?_
    intro W19 hW
    have n : Nw w18 W19 := by rw [hW]; first | exact Ch.refl _ _ | exact (Ch.refl _ _).alloc _
    replace HKW := Lib.hid (HKW.out.kept n (fun _ _ e => e))
    replace NX := Lib.hid (NX.out.trans n)
    replace HIl := Lib.hid ((HIl.out.kept n nof).hi n.size)
    replace HOp := Lib.hid (HOp.out.ch' n (fun _ _ e => e))
    replace HCa := Lib.hid ((HCa.out.kept n nof))
    replace HBa := Lib.hid (n.heap HBa.out id)
    replace HOb := Lib.hid (HOb.out.ch' n (fun _ _ e => e))
    have HBb := Lib.hid (show W19.heap[w18.heap.size]? = some (.cells #[.int .i64 0, .int .i64 0, .slice none 0 0] 35 (0, 0)) from by rw [hW]; exact heap_alloc_eq _ rfl)
    clear hW n
    refine wp_region_lit ?_
    refine wpList_plain rfl fun K hK => ?_
    go_simp
    refine hK _ _ ?_
    clear hK K
    try simp only [Act.put, List.getElem_toArray, List.getElem_cons_succ, List.getElem_cons_zero, List.setIfInBounds_toArray, List.set_cons_zero, List.set_cons_succ]
    refine wpList_plain rfl fun K hK => ?_
    go_simp
    refine hK _ _ ?_
    clear hK K
    try simp only [Act.put, List.getElem_toArray, List.getElem_cons_succ, List.getElem_cons_zero, List.setIfInBounds_toArray, List.set_cons_zero, List.set_cons_succ]
    refine wpList_plain rfl fun K hK => ?_
    go_simp
    refine hK _ _ ?_
    clear hK K
    try simp only [Act.put, List.getElem_toArray, List.getElem_cons_succ, List.getElem_cons_zero, List.setIfInBounds_toArray, List.set_cons_zero, List.set_cons_succ]
    refine wpList_plain rfl fun K hK => ?_
    go_simp
    refine hK _ _ ?_
    clear hK K
    try simp only [Act.put, List.getElem_toArray, List.getElem_cons_succ, List.getElem_cons_zero, List.setIfInBounds_toArray, List.set_cons_zero, List.set_cons_succ]
    refine wpList_plain rfl fun K hK => ?_
    refine wp_lit2x3 25 28 _ _ rfl Tryd.underlying25 (by kernel_rfl) (by rfl) (by rfl) ?_
    refine hK _ _ ?_
    clear hK K
    try simp only [Act.put, List.getElem_toArray, List.getElem_cons_succ, List.getElem_cons_zero, List.setIfInBounds_toArray, List.set_cons_zero, List.set_cons_succ]
    refine wpList_plain rfl fun K hK => ?_
    go_simp
    refine hK _ _ ?_
    clear hK K
    try simp only [Act.put, List.getElem_toArray, List.getElem_cons_succ, List.getElem_cons_zero, List.setIfInBounds_toArray, List.set_cons_zero, List.set_cons_succ]
    refine wpList_plain rfl fun K hK => ?_
    refine wp_appOps _ (.tmp 45) (.tmp 46) rfl W19.heap.size _ [((1 : Int), (5 : Int), (0 : Int)), (14, (p.length : Int), 0)] (by rfl) (row_lit (n := 2) (Nat.le_refl _) rfl (by omega)) W3.heap.size _ p (by rfl) (CRow.ch' (HOp.out) ((Ch.refl (fun _ => False) _).alloc _) (fun _ _ e => e)) HEp.out (by simp only [List.length_cons, List.length_nil]; omega) (by rw [alloc_size]; omega) ?_
    intro v9 w9 hrow9 hgr9 hnil9
    have n : Nw W19 w9 := ((Ch.refl _ _).alloc _).grown hgr9 (fun k e hk => by have e' : W19.heap.size = k := Option.some.inj e; omega)
    refine hK _ _ ?_
    clear hK K
    try simp only [Act.put, List.getElem_toArray, List.getElem_cons_succ, List.getElem_cons_zero, List.setIfInBounds_toArray, List.set_cons_zero, List.set_cons_succ]
    obtain ⟨w20, hwq⟩ : ∃ W : World, W = w9 := ⟨_, rfl⟩
    subst hwq
    replace HKW := Lib.hid (HKW.out.kept n (fun _ _ e => e))
    replace NX := Lib.hid (NX.out.trans n)
    replace HIl := Lib.hid ((HIl.out.kept n nof).hi n.size)
    replace HOp := Lib.hid (HOp.out.ch' n (fun _ _ e => e))
    replace HCa := Lib.hid ((HCa.out.kept n nof))
    replace HBa := Lib.hid (n.heap HBa.out id)
    replace HOb := Lib.hid (HOb.out.ch' n (fun _ _ e => e))
    replace HBb := Lib.hid (n.heap HBb.out id)
    have HOc := Lib.hid (show ORow w20 W19.heap.size v9 ([((1 : Int), (5 : Int), (0 : Int)), (14, (p.length : Int), 0)] ++ p) from hrow9)
    obtain ⟨Ac, cc, ec⟩ := hrow9.form
    subst ec
    clear hrow9 hgr9 hnil9 n
    go_wp2_with (go_at_call 18; fail)
    refine Calls_nm ?_
    intro W21 hW
    have n : Nw w20 W21 := by rw [hW]; first | exact Ch.refl _ _ | exact (Ch.refl _ _).alloc _ | exact ((Ch.refl _ _).alloc _).alloc _
    replace HKW := Lib.hid (HKW.out.kept n (fun _ _ e => e))
    replace NX := Lib.hid (NX.out.trans n)
    replace HIl := Lib.hid ((HIl.out.kept n nof).hi n.size)
    replace HOp := Lib.hid (HOp.out.ch' n (fun _ _ e => e))
    replace HCa := Lib.hid ((HCa.out.kept n nof))
    replace HBa := Lib.hid (n.heap HBa.out id)
    replace HOb := Lib.hid (HOb.out.ch' n (fun _ _ e => e))
    replace HBb := Lib.hid (n.heap HBb.out id)
    replace HOc := Lib.hid (HOc.out.ch' n (fun _ _ e => e))
    clear hW n
    refine check_ok (H3.out) W21.heap.size _ _ _ (ORow.prog (L := _) HOc.out) (Nat.le_refl _) (by have := HKW.out.sz; omega) HKW.out ?_
    intro w22 Ac cc hc n
    replace HKW := Lib.hid (HKW.out.kept n (fun _ _ e => e))
    replace NX := Lib.hid (NX.out.trans n)
    replace HIl := Lib.hid ((HIl.out.kept n nof).hi n.size)
    replace HOp := Lib.hid (HOp.out.ch' n (fun _ _ e => e))
    replace HCa := Lib.hid ((HCa.out.kept n nof))
    replace HBa := Lib.hid (n.heap HBa.out id)
    replace HOb := Lib.hid (HOb.out.ch' n (fun _ _ e => e))
    replace HBb := Lib.hid (n.heap HBb.out id)
    replace HOc := Lib.hid (HOc.out.ch' n (fun _ _ e => e))
    have HCc := Lib.hid hc
    clear n hc
    rw [HS.out] at HCc ⊢
    go_wp2
    exact HR.out _ (NX.out.alloc _)
  · as_aux_lemma =>
    have H2 := Lib.hid (loop_bad (np := 7) (n := (n1 : Int)) hpp (Or.inr (by omega)))
    have H3 := Lib.hid (show checkM 7 ([(1, 5, 0), (14, (p.length : Int), 0)] ++ p) = _ from cond_good hpp HFp.out hp0)
    have hl0 := HPOS.out hp0
    have hl1 : ((p.length : Int) == 0) = false := by simp; omega
    rw [HD2.out] at H3
    clear hp0 d21
    go_upto_region 5 with (fail)
    refine wp_named ?_
    intro W23 hW
    have n : Nw w6 W23 := by rw [hW]; first | exact Ch.refl _ _ | exact (Ch.refl _ _).alloc _
    replace HKW := Lib.hid (HKW.out.kept n (fun _ _ e => e))
    replace NX := Lib.hid (NX.out.trans n)
    replace HIl := Lib.hid ((HIl.out.kept n nof).hi n.size)
    replace HOp := Lib.hid (HOp.out.ch' n (fun _ _ e => e))
    replace HCa := Lib.hid ((HCa.out.kept n nof))
    have HBa := Lib.hid (show W23.heap[w6.heap.size]? = some (.cells #[.int .i64 kp, .int .i64 dp, .slice Aa S.length ca] 35 (0, 0)) from by rw [hW]; exact heap_alloc_eq _ rfl)
    clear hW n
    refine wp_region_lit ?_
    refine wpList_plain rfl fun K hK => ?_
    go_simp
    refine hK _ _ ?_
    clear hK K
    try simp only [Act.put, List.getElem_toArray, List.getElem_cons_succ, List.getElem_cons_zero, List.setIfInBounds_toArray, List.set_cons_zero, List.set_cons_succ]
    refine wpList_plain rfl fun K hK => ?_
    go_simp
    refine hK _ _ ?_
    clear hK K
    try simp only [Act.put, List.getElem_toArray, List.getElem_cons_succ, List.getElem_cons_zero, List.setIfInBounds_toArray, List.set_cons_zero, List.set_cons_succ]
    refine wpList_plain rfl fun K hK => ?_
    go_simp
    refine hK _ _ ?_
    clear hK K
    try simp only [Act.put, List.getElem_toArray, List.getElem_cons_succ, List.getElem_cons_zero, List.setIfInBounds_toArray, List.set_cons_zero, List.set_cons_succ]
    refine wpList_plain rfl fun K hK => ?_
    go_simp
    refine hK _ _ ?_
    clear hK K
    try simp only [Act.put, List.getElem_toArray, List.getElem_cons_succ, List.getElem_cons_zero, List.setIfInBounds_toArray, List.set_cons_zero, List.set_cons_succ]
    refine wpList_plain rfl fun K hK => ?_
    refine wp_lit1x3 25 28 _ rfl Tryd.underlying25 (by kernel_rfl) (by rfl) ?_
    refine hK _ _ ?_
    clear hK K
    try simp only [Act.put, List.getElem_toArray, List.getElem_cons_succ, List.getElem_cons_zero, List.setIfInBounds_toArray, List.set_cons_zero, List.set_cons_succ]
    refine wpList_plain rfl fun K hK => ?_
    go_simp
    refine hK _ _ ?_
    clear hK K
    try simp only [Act.put, List.getElem_toArray, List.getElem_cons_succ, List.getElem_cons_zero, List.setIfInBounds_toArray, List.set_cons_zero, List.set_cons_succ]
    refine wpList_plain rfl fun K hK => ?_
    refine wp_appOps _ (.tmp 34) (.tmp 35) rfl W23.heap.size _ [((15 : Int), (n1 : Int), (p.length : Int))] (by rfl) (row_lit (n := 1) (Nat.le_refl _) rfl (by omega)) W3.heap.size _ p (by rfl) (CRow.ch' (HOp.out) ((Ch.refl (fun _ => False) _).alloc _) (fun _ _ e => e)) HEp.out (by simp only [List.length_cons, List.length_nil]; omega) (by rw [alloc_size]; omega) ?_
    intro v9 w9 hrow9 hgr9 hnil9
    have n : Nw W23 w9 := ((Ch.refl _ _).alloc _).grown hgr9 (fun k e hk => by have e' : W23.heap.size = k := Option.some.inj e; omega)
    refine hK _ _ ?_
    clear hK K
    try simp only [Act.put, List.getElem_toArray, List.getElem_cons_succ, List.getElem_cons_zero, List.setIfInBounds_toArray, List.set_cons_zero, List.set_cons_succ]
    obtain ⟨w24, hwq⟩ : ∃ W : World, W = w9 := ⟨_, rfl⟩
    subst hwq
    replace HKW := Lib.hid (HKW.out.kept n (fun _ _ e => e))
    replace NX := Lib.hid (NX.out.trans n)
    replace HIl := Lib.hid ((HIl.out.kept n nof).hi n.size)
    replace HOp := Lib.hid (HOp.out.ch' n (fun _ _ e => e))
    replace HCa := Lib.hid ((HCa.out.kept n nof))
    replace HBa := Lib.hid (n.heap HBa.out id)
    have HOb := Lib.hid (show ORow w24 W23.heap.size v9 ([((15 : Int), (n1 : Int), (p.length : Int))] ++ p) from hrow9)
    obtain ⟨Ab, cb, eb⟩ := hrow9.form
    subst eb
    clear hrow9 hgr9 hnil9 n
    go_wp2_with (go_at_call 18; fail)
    refine Calls_nm ?_
    intro W25 hW
    have n : Nw w24 W25 := by rw [hW]; first | exact Ch.refl _ _ | exact (Ch.refl _ _).alloc _ | exact ((Ch.refl _ _).alloc _).alloc _
    replace HKW := Lib.hid (HKW.out.kept n (fun _ _ e => e))
    replace NX := Lib.hid (NX.out.trans n)
    replace HIl := Lib.hid ((HIl.out.kept n nof).hi n.size)
    replace HOp := Lib.hid (HOp.out.ch' n (fun _ _ e => e))
    replace HCa := Lib.hid ((HCa.out.kept n nof))
    replace HBa := Lib.hid (n.heap HBa.out id)
    replace HOb := Lib.hid (HOb.out.ch' n (fun _ _ e => e))
    clear hW n
    refine check_err ((show checkM 7 ([((15 : Int), (n1 : Int), (p.length : Int))] ++ p) = _ from H2.out)) W25.heap.size _ _ _ (ORow.prog (L := _) HOb.out) (Nat.le_refl _) (by have := HKW.out.sz; omega) HKW.out ?_
    intro w26 n
    replace HKW := Lib.hid (HKW.out.kept n (fun _ _ e => e))
    replace NX := Lib.hid (NX.out.trans n)
    replace HIl := Lib.hid ((HIl.out.kept n nof).hi n.size)
    replace HOp := Lib.hid (HOp.out.ch' n (fun _ _ e => e))
    replace HCa := Lib.hid ((HCa.out.kept n nof))
    replace HBa := Lib.hid (n.heap HBa.out id)
    replace HOb := Lib.hid (HOb.out.ch' n (fun _ _ e => e))
    clear n
    go_upto_region 6 with (fail)
    refine wp_named ?_
    intro W27 hW
    have n : Nw w26 W27 := by rw [hW]; first | exact Ch.refl _ _ | exact (Ch.refl _ _).alloc _
    replace HKW := Lib.hid (HKW.out.kept n (fun _ _ e => e))
    replace NX := Lib.hid (NX.out.trans n)
    replace HIl := Lib.hid ((HIl.out.kept n nof).hi n.size)
    replace HOp := Lib.hid (HOp.out.ch' n (fun _ _ e => e))
    replace HCa := Lib.hid ((HCa.out.kept n nof))
    replace HBa := Lib.hid (n.heap HBa.out id)
    replace HOb := Lib.hid (HOb.out.ch' n (fun _ _ e => e))
    have HBb := Lib.hid (show W27.heap[w26.heap.size]? = some (.cells #[.int .i64 0, .int .i64 0, .slice none 0 0] 35 (0, 0)) from by rw [hW]; exact heap_alloc_eq _ rfl)
    clear hW n
    refine wp_region_lit ?_
    refine wpList_plain rfl fun K hK => ?_
    go_simp
    refine hK _ _ ?_
    clear hK K
    try simp only [Act.put, List.getElem_toArray, List.getElem_cons_succ, List.getElem_cons_zero, List.setIfInBounds_toArray, List.set_cons_zero, List.set_cons_succ]
    refine wpList_plain rfl fun K hK => ?_
    go_simp
    refine hK _ _ ?_
    clear hK K
    try simp only [Act.put, List.getElem_toArray, List.getElem_cons_succ, List.getElem_cons_zero, List.setIfInBounds_toArray, List.set_cons_zero, List.set_cons_succ]
    refine wpList_plain rfl fun K hK => ?_
    go_simp
    refine hK _ _ ?_
    clear hK K
    try simp only [Act.put, List.getElem_toArray, List.getElem_cons_succ, List.getElem_cons_zero, List.setIfInBounds_toArray, List.set_cons_zero, List.set_cons_succ]
    refine wpList_plain rfl fun K hK => ?_
    go_simp
    refine hK _ _ ?_
    clear hK K
    try simp only [Act.put, List.getElem_toArray, List.getElem_cons_succ, List.getElem_cons_zero, List.setIfInBounds_toArray, List.set_cons_zero, List.set_cons_succ]
    refine wpList_plain rfl fun K hK => ?_
    refine wp_lit2x3 25 28 _ _ rfl Tryd.underlying25 (by kernel_rfl) (by rfl) (by rfl) ?_
    refine hK _ _ ?_
    clear hK K
    try simp only [Act.put, List.getElem_toArray, List.getElem_cons_succ, List.getElem_cons_zero, List.setIfInBounds_toArray, List.set_cons_zero, List.set_cons_succ]
    refine wpList_plain rfl fun K hK => ?_
    go_simp
    refine hK _ _ ?_
    clear hK K
    try simp only [Act.put, List.getElem_toArray, List.getElem_cons_succ, List.getElem_cons_zero, List.setIfInBounds_toArray, List.set_cons_zero, List.set_cons_succ]
    refine wpList_plain rfl fun K hK => ?_
    refine wp_appOps _ (.tmp 45) (.tmp 46) rfl W27.heap.size _ [((1 : Int), (5 : Int), (0 : Int)), (14, (p.length : Int), 0)] (by rfl) (row_lit (n := 2) (Nat.le_refl _) rfl (by omega)) W3.heap.size _ p (by rfl) (CRow.ch' (HOp.out) ((Ch.refl (fun _ => False) _).alloc _) (fun _ _ e => e)) HEp.out (by simp only [List.length_cons, List.length_nil]; omega) (by rw [alloc_size]; omega) ?_
    intro v9 w9 hrow9 hgr9 hnil9
    have n : Nw W27 w9 := ((Ch.refl _ _).alloc _).grown hgr9 (fun k e hk => by have e' : W27.heap.size = k := Option.some.inj e; omega)
    refine hK _ _ ?_
    clear hK K
    try simp only [Act.put, List.getElem_toArray, List.getElem_cons_succ, List.getElem_cons_zero, List.setIfInBounds_toArray, List.set_cons_zero, List.set_cons_succ]
    obtain ⟨w28, hwq⟩ : ∃ W : World, W = w9 := ⟨_, rfl⟩
    subst hwq
    replace HKW := Lib.hid (HKW.out.kept n (fun _ _ e => e))
    replace NX := Lib.hid (NX.out.trans n)
    replace HIl := Lib.hid ((HIl.out.kept n nof).hi n.size)
    replace HOp := Lib.hid (HOp.out.ch' n (fun _ _ e => e))
    replace HCa := Lib.hid ((HCa.out.kept n nof))
    replace HBa := Lib.hid (n.heap HBa.out id)
    replace HOb := Lib.hid (HOb.out.ch' n (fun _ _ e => e))
    replace HBb := Lib.hid (n.heap HBb.out id)
    have HOc := Lib.hid (show ORow w28 W27.heap.size v9 ([((1 : Int), (5 : Int), (0 : Int)), (14, (p.length : Int), 0)] ++ p) from hrow9)
    obtain ⟨Ac, cc, ec⟩ := hrow9.form
    subst ec
    clear hrow9 hgr9 hnil9 n
    go_wp2_with (go_at_call 18; fail)
    refine Calls_nm ?_
    intro W29 hW
    have n : Nw w28 W29 := by rw [hW]; first | exact Ch.refl _ _ | exact (Ch.refl _ _).alloc _ | exact ((Ch.refl _ _).alloc _).alloc _
    replace HKW := Lib.hid (HKW.out.kept n (fun _ _ e => e))
    replace NX := Lib.hid (NX.out.trans n)
    replace HIl := Lib.hid ((HIl.out.kept n nof).hi n.size)
    replace HOp := Lib.hid (HOp.out.ch' n (fun _ _ e => e))
    replace HCa := Lib.hid ((HCa.out.kept n nof))
    replace HBa := Lib.hid (n.heap HBa.out id)
    replace HOb := Lib.hid (HOb.out.ch' n (fun _ _ e => e))
    replace HBb := Lib.hid (n.heap HBb.out id)
    replace HOc := Lib.hid (HOc.out.ch' n (fun _ _ e => e))
    clear hW n
    refine check_ok (H3.out) W29.heap.size _ _ _ (ORow.prog (L := _) HOc.out) (Nat.le_refl _) (by have := HKW.out.sz; omega) HKW.out ?_
    intro w30 Ac cc hc n
    replace HKW := Lib.hid (HKW.out.kept n (fun _ _ e => e))
    replace NX := Lib.hid (NX.out.trans n)
    replace HIl := Lib.hid ((HIl.out.kept n nof).hi n.size)
    replace HOp := Lib.hid (HOp.out.ch' n (fun _ _ e => e))
    replace HCa := Lib.hid ((HCa.out.kept n nof))
    replace HBa := Lib.hid (n.heap HBa.out id)
    replace HOb := Lib.hid (HOb.out.ch' n (fun _ _ e => e))
    replace HBb := Lib.hid (n.heap HBb.out id)
    replace HOc := Lib.hid (HOc.out.ch' n (fun _ _ e => e))
    have HCc := Lib.hid hc
    clear n hc
    rw [HS.out] at HCc ⊢
    go_wp2
    exact HR.out _ (NX.out.alloc _)
  · as_aux_lemma =>
    have hlp := loop_good (np := 7) (n := (n1 : Int)) hpp HFp.out hp0 (by omega) (by omega)
    have H2 := Lib.hid (hlp.1 hq)
    have H3 := Lib.hid (show checkM 7 ([(1, 5, 0), (14, (p.length : Int), 0)] ++ p) = _ from cond_good hpp HFp.out hp0)
    have hl0 := HPOS.out hp0
    have hl1 : ((p.length : Int) == 0) = false := by simp; omega
    rw [HD2.out] at H3
    have hm1 : 0 ≤ (n1 : Int) * kp := Int.mul_nonneg (by omega) kap
    have hm2 : (n1 : Int) * kp ≤ 16 * kp := Int.mul_le_mul_of_nonneg_right (by omega) kap
    obtain ⟨q, hqq⟩ : ∃ q, (n1 : Int) * kp = q := ⟨_, rfl⟩
    rw [hqq] at hm1 hm2 hq
    have hm3 : q ≤ 20000 := by omega
    clear hp0 hlp hm2
    go_upto_region 5 with (fail)
    refine wp_named ?_
    intro W31 hW
    have n : Nw w6 W31 := by rw [hW]; first | exact Ch.refl _ _ | exact (Ch.refl _ _).alloc _
    replace HKW := Lib.hid (HKW.out.kept n (fun _ _ e => e))
    replace NX := Lib.hid (NX.out.trans n)
    replace HIl := Lib.hid ((HIl.out.kept n nof).hi n.size)
    replace HOp := Lib.hid (HOp.out.ch' n (fun _ _ e => e))
    replace HCa := Lib.hid ((HCa.out.kept n nof))
    have HBa := Lib.hid (show W31.heap[w6.heap.size]? = some (.cells #[.int .i64 kp, .int .i64 dp, .slice Aa S.length ca] 35 (0, 0)) from by rw [hW]; exact heap_alloc_eq _ rfl)
    clear hW n
    refine wp_region_lit ?_
    refine wpList_plain rfl fun K hK => ?_
    go_simp
    refine hK _ _ ?_
    clear hK K
    try simp only [Act.put, List.getElem_toArray, List.getElem_cons_succ, List.getElem_cons_zero, List.setIfInBounds_toArray, List.set_cons_zero, List.set_cons_succ]
    refine wpList_plain rfl fun K hK => ?_
    go_simp
    refine hK _ _ ?_
    clear hK K
    try simp only [Act.put, List.getElem_toArray, List.getElem_cons_succ, List.getElem_cons_zero, List.setIfInBounds_toArray, List.set_cons_zero, List.set_cons_succ]
    refine wpList_plain rfl fun K hK => ?_
    go_simp
    refine hK _ _ ?_
    clear hK K
    try simp only [Act.put, List.getElem_toArray, List.getElem_cons_succ, List.getElem_cons_zero, List.setIfInBounds_toArray, List.set_cons_zero, List.set_cons_succ]
    refine wpList_plain rfl fun K hK => ?_
    go_simp
    refine hK _ _ ?_
    clear hK K
    try simp only [Act.put, List.getElem_toArray, List.getElem_cons_succ, List.getElem_cons_zero, List.setIfInBounds_toArray, List.set_cons_zero, List.set_cons_succ]
    refine wpList_plain rfl fun K hK => ?_
    refine wp_lit1x3 25 28 _ rfl Tryd.underlying25 (by kernel_rfl) (by rfl) ?_
    refine hK _ _ ?_
    clear hK K
    try simp only [Act.put, List.getElem_toArray, List.getElem_cons_succ, List.getElem_cons_zero, List.setIfInBounds_toArray, List.set_cons_zero, List.set_cons_succ]
    refine wpList_plain rfl fun K hK => ?_
    go_simp
    refine hK _ _ ?_
    clear hK K
    try simp only [Act.put, List.getElem_toArray, List.getElem_cons_succ, List.getElem_cons_zero, List.setIfInBounds_toArray, List.set_cons_zero, List.set_cons_succ]
    refine wpList_plain rfl fun K hK => ?_
    refine wp_appOps _ (.tmp 34) (.tmp 35) rfl W31.heap.size _ [((15 : Int), (n1 : Int), (p.length : Int))] (by rfl) (row_lit (n := 1) (Nat.le_refl _) rfl (by omega)) W3.heap.size _ p (by rfl) (CRow.ch' (HOp.out) ((Ch.refl (fun _ => False) _).alloc _) (fun _ _ e => e)) HEp.out (by simp only [List.length_cons, List.length_nil]; omega) (by rw [alloc_size]; omega) ?_
    intro v9 w9 hrow9 hgr9 hnil9
    have n : Nw W31 w9 := ((Ch.refl _ _).alloc _).grown hgr9 (fun k e hk => by have e' : W31.heap.size = k := Option.some.inj e; omega)
    refine hK _ _ ?_
    clear hK K
    try simp only [Act.put, List.getElem_toArray, List.getElem_cons_succ, List.getElem_cons_zero, List.setIfInBounds_toArray, List.set_cons_zero, List.set_cons_succ]
    obtain ⟨w32, hwq⟩ : ∃ W : World, W = w9 := ⟨_, rfl⟩
    subst hwq
    replace HKW := Lib.hid (HKW.out.kept n (fun _ _ e => e))
    replace NX := Lib.hid (NX.out.trans n)
    replace HIl := Lib.hid ((HIl.out.kept n nof).hi n.size)
    replace HOp := Lib.hid (HOp.out.ch' n (fun _ _ e => e))
    replace HCa := Lib.hid ((HCa.out.kept n nof))
    replace HBa := Lib.hid (n.heap HBa.out id)
    have HOb := Lib.hid (show ORow w32 W31.heap.size v9 ([((15 : Int), (n1 : Int), (p.length : Int))] ++ p) from hrow9)
    obtain ⟨Ab, cb, eb⟩ := hrow9.form
    subst eb
    clear hrow9 hgr9 hnil9 n
    go_wp2_with (go_at_call 18; fail)
    refine Calls_nm ?_
    intro W33 hW
    have n : Nw w32 W33 := by rw [hW]; first | exact Ch.refl _ _ | exact (Ch.refl _ _).alloc _ | exact ((Ch.refl _ _).alloc _).alloc _
    replace HKW := Lib.hid (HKW.out.kept n (fun _ _ e => e))
    replace NX := Lib.hid (NX.out.trans n)
    replace HIl := Lib.hid ((HIl.out.kept n nof).hi n.size)
    replace HOp := Lib.hid (HOp.out.ch' n (fun _ _ e => e))
    replace HCa := Lib.hid ((HCa.out.kept n nof))
    replace HBa := Lib.hid (n.heap HBa.out id)
    replace HOb := Lib.hid (HOb.out.ch' n (fun _ _ e => e))
    clear hW n
    refine check_err ((show checkM 7 ([((15 : Int), (n1 : Int), (p.length : Int))] ++ p) = _ from H2.out)) W33.heap.size _ _ _ (ORow.prog (L := _) HOb.out) (Nat.le_refl _) (by have := HKW.out.sz; omega) HKW.out ?_
    intro w34 n
    replace HKW := Lib.hid (HKW.out.kept n (fun _ _ e => e))
    replace NX := Lib.hid (NX.out.trans n)
    replace HIl := Lib.hid ((HIl.out.kept n nof).hi n.size)
    replace HOp := Lib.hid (HOp.out.ch' n (fun _ _ e => e))
    replace HCa := Lib.hid ((HCa.out.kept n nof))
    replace HBa := Lib.hid (n.heap HBa.out id)
    replace HOb := Lib.hid (HOb.out.ch' n (fun _ _ e => e))
    clear n
    go_upto_region 6 with (fail)
    refine wp_named ?_
    intro W35 hW
    have n : Nw w34 W35 := by rw [hW]; first | exact Ch.refl _ _ | exact (Ch.refl _ _).alloc _
    replace HKW := Lib.hid (HKW.out.kept n (fun _ _ e => e))
    replace NX := Lib.hid (NX.out.trans n)
    replace HIl := Lib.hid ((HIl.out.kept n nof).hi n.size)
    replace HOp := Lib.hid (HOp.out.ch' n (fun _ _ e => e))
    replace HCa := Lib.hid ((HCa.out.kept n nof))
    replace HBa := Lib.hid (n.heap HBa.out id)
    replace HOb := Lib.hid (HOb.out.ch' n (fun _ _ e => e))
    have HBb := Lib.hid (show W35.heap[w34.heap.size]? = some (.cells #[.int .i64 0, .int .i64 0, .slice none 0 0] 35 (0, 0)) from by rw [hW]; exact heap_alloc_eq _ rfl)
    clear hW n
    refine wp_region_lit ?_
    refine wpList_plain rfl fun K hK => ?_
    go_simp
    refine hK _ _ ?_
    clear hK K
    try simp only [Act.put, List.getElem_toArray, List.getElem_cons_succ, List.getElem_cons_zero, List.setIfInBounds_toArray, List.set_cons_zero, List.set_cons_succ]
    refine wpList_plain rfl fun K hK => ?_
    go_simp
    refine hK _ _ ?_
    clear hK K
    try simp only [Act.put, List.getElem_toArray, List.getElem_cons_succ, List.getElem_cons_zero, List.setIfInBounds_toArray, List.set_cons_zero, List.set_cons_succ]
    refine wpList_plain rfl fun K hK => ?_
    go_simp
    refine hK _ _ ?_
    clear hK K
    try simp only [Act.put, List.getElem_toArray, List.getElem_cons_succ, List.getElem_cons_zero, List.setIfInBounds_toArray, List.set_cons_zero, List.set_cons_succ]
    refine wpList_plain rfl fun K hK => ?_
    go_simp
    refine hK _ _ ?_
    clear hK K
    try simp only [Act.put, List.getElem_toArray, List.getElem_cons_succ, List.getElem_cons_zero, List.setIfInBounds_toArray, List.set_cons_zero, List.set_cons_succ]
    refine wpList_plain rfl fun K hK => ?_
    refine wp_lit2x3 25 28 _ _ rfl Tryd.underlying25 (by kernel_rfl) (by rfl) (by rfl) ?_
    refine hK _ _ ?_
    clear hK K
    try simp only [Act.put, List.getElem_toArray, List.getElem_cons_succ, List.getElem_cons_zero, List.setIfInBounds_toArray, List.set_cons_zero, List.set_cons_succ]
    refine wpList_plain rfl fun K hK => ?_
    go_simp
    refine hK _ _ ?_
    clear hK K
    try simp only [Act.put, List.getElem_toArray, List.getElem_cons_succ, List.getElem_cons_zero, List.setIfInBounds_toArray, List.set_cons_zero, List.set_cons_succ]
    refine wpList_plain rfl fun K hK => ?_
    refine wp_appOps _ (.tmp 45) (.tmp 46) rfl W35.heap.size _ [((1 : Int), (5 : Int), (0 : Int)), (14, (p.length : Int), 0)] (by rfl) (row_lit (n := 2) (Nat.le_refl _) rfl (by omega)) W3.heap.size _ p (by rfl) (CRow.ch' (HOp.out) ((Ch.refl (fun _ => False) _).alloc _) (fun _ _ e => e)) HEp.out (by simp only [List.length_cons, List.length_nil]; omega) (by rw [alloc_size]; omega) ?_
    intro v9 w9 hrow9 hgr9 hnil9
    have n : Nw W35 w9 := ((Ch.refl _ _).alloc _).grown hgr9 (fun k e hk => by have e' : W35.heap.size = k := Option.some.inj e; omega)
    refine hK _ _ ?_
    clear hK K
    try simp only [Act.put, List.getElem_toArray, List.getElem_cons_succ, List.getElem_cons_zero, List.setIfInBounds_toArray, List.set_cons_zero, List.set_cons_succ]
    obtain ⟨w36, hwq⟩ : ∃ W : World, W = w9 := ⟨_, rfl⟩
    subst hwq
    replace HKW := Lib.hid (HKW.out.kept n (fun _ _ e => e))
    replace NX := Lib.hid (NX.out.trans n)
    replace HIl := Lib.hid ((HIl.out.kept n nof).hi n.size)
    replace HOp := Lib.hid (HOp.out.ch' n (fun _ _ e => e))
    replace HCa := Lib.hid ((HCa.out.kept n nof))
    replace HBa := Lib.hid (n.heap HBa.out id)
    replace HOb := Lib.hid (HOb.out.ch' n (fun _ _ e => e))
    replace HBb := Lib.hid (n.heap HBb.out id)
    have HOc := Lib.hid (show ORow w36 W35.heap.size v9 ([((1 : Int), (5 : Int), (0 : Int)), (14, (p.length : Int), 0)] ++ p) from hrow9)
    obtain ⟨Ac, cc, ec⟩ := hrow9.form
    subst ec
    clear hrow9 hgr9 hnil9 n
    go_wp2_with (go_at_call 18; fail)
    refine Calls_nm ?_
    intro W37 hW
    have n : Nw w36 W37 := by rw [hW]; first | exact Ch.refl _ _ | exact (Ch.refl _ _).alloc _ | exact ((Ch.refl _ _).alloc _).alloc _
    replace HKW := Lib.hid (HKW.out.kept n (fun _ _ e => e))
    replace NX := Lib.hid (NX.out.trans n)
    replace HIl := Lib.hid ((HIl.out.kept n nof).hi n.size)
    replace HOp := Lib.hid (HOp.out.ch' n (fun _ _ e => e))
    replace HCa := Lib.hid ((HCa.out.kept n nof))
    replace HBa := Lib.hid (n.heap HBa.out id)
    replace HOb := Lib.hid (HOb.out.ch' n (fun _ _ e => e))
    replace HBb := Lib.hid (n.heap HBb.out id)
    replace HOc := Lib.hid (HOc.out.ch' n (fun _ _ e => e))
    clear hW n
    refine check_ok (H3.out) W37.heap.size _ _ _ (ORow.prog (L := _) HOc.out) (Nat.le_refl _) (by have := HKW.out.sz; omega) HKW.out ?_
    intro w38 Ac cc hc n
    replace HKW := Lib.hid (HKW.out.kept n (fun _ _ e => e))
    replace NX := Lib.hid (NX.out.trans n)
    replace HIl := Lib.hid ((HIl.out.kept n nof).hi n.size)
    replace HOp := Lib.hid (HOp.out.ch' n (fun _ _ e => e))
    replace HCa := Lib.hid ((HCa.out.kept n nof))
    replace HBa := Lib.hid (n.heap HBa.out id)
    replace HOb := Lib.hid (HOb.out.ch' n (fun _ _ e => e))
    replace HBb := Lib.hid (n.heap HBb.out id)
    replace HOc := Lib.hid (HOc.out.ch' n (fun _ _ e => e))
    have HCc := Lib.hid hc
    clear n hc
    rw [HS.out] at HCc ⊢
    have kHBa0 : w38.cell? ⟨w6.heap.size, 0, none⟩ = some (.int .i64 kp) := by rw [cell_of HBa.out]; rfl
    have jHBa0 : ∀ o, (w38.alloc o).cell? ⟨w6.heap.size, 0, none⟩ = some (.int .i64 kp) := fun o => cell_alloc_old o kHBa0
    have kHBa1 : w38.cell? ⟨w6.heap.size, 1, none⟩ = some (.int .i64 dp) := by rw [cell_of HBa.out]; rfl
    have jHBa1 : ∀ o, (w38.alloc o).cell? ⟨w6.heap.size, 1, none⟩ = some (.int .i64 dp) := fun o => cell_alloc_old o kHBa1
    have kHBa2 : w38.cell? ⟨w6.heap.size, 2, none⟩ = some (.slice Aa S.length ca) := by rw [cell_of HBa.out]; rfl
    have jHBa2 : ∀ o, (w38.alloc o).cell? ⟨w6.heap.size, 2, none⟩ = some (.slice Aa S.length ca) := fun o => cell_alloc_old o kHBa2
    have kHBb0 : w38.cell? ⟨w34.heap.size, 0, none⟩ = some (.int .i64 0) := by rw [cell_of HBb.out]; rfl
    have jHBb0 : ∀ o, (w38.alloc o).cell? ⟨w34.heap.size, 0, none⟩ = some (.int .i64 0) := fun o => cell_alloc_old o kHBb0
    have kHBb1 : w38.cell? ⟨w34.heap.size, 1, none⟩ = some (.int .i64 0) := by rw [cell_of HBb.out]; rfl
    have jHBb1 : ∀ o, (w38.alloc o).cell? ⟨w34.heap.size, 1, none⟩ = some (.int .i64 0) := fun o => cell_alloc_old o kHBb1
    have kHBb2 : w38.cell? ⟨w34.heap.size, 2, none⟩ = some (.slice none 0 0) := by rw [cell_of HBb.out]; rfl
    have jHBb2 : ∀ o, (w38.alloc o).cell? ⟨w34.heap.size, 2, none⟩ = some (.slice none 0 0) := fun o => cell_alloc_old o kHBb2
    go_wp2_with (go_at_call 18; fail)
    clear kHBa0 jHBa0 kHBa1 jHBa1 kHBa2 jHBa2 kHBb0 jHBb0 kHBb1 jHBb1 kHBb2 jHBb2
    refine Calls_nm ?_
    intro W39 hW
    have n : Nw w38 W39 := by rw [hW]; first | exact Ch.refl _ _ | exact (Ch.refl _ _).alloc _ | exact ((Ch.refl _ _).alloc _).alloc _
    replace HKW := Lib.hid (HKW.out.kept n (fun _ _ e => e))
    replace NX := Lib.hid (NX.out.trans n)
    replace HIl := Lib.hid ((HIl.out.kept n nof).hi n.size)
    replace HOp := Lib.hid (HOp.out.ch' n (fun _ _ e => e))
    replace HCa := Lib.hid ((HCa.out.kept n nof))
    replace HBa := Lib.hid (n.heap HBa.out id)
    replace HOb := Lib.hid (HOb.out.ch' n (fun _ _ e => e))
    replace HBb := Lib.hid (n.heap HBb.out id)
    replace HOc := Lib.hid (HOc.out.ch' n (fun _ _ e => e))
    replace HCc := Lib.hid ((HCc.out.kept n nof))
    have HBc := Lib.hid (show W39.heap[w38.heap.size]? = some (.cells #[.int .i64 (kp + 2), .int .i64 d2, .slice Ac S.length cc] 35 (0, 0)) from by rw [hW]; exact heap_alloc_eq _ rfl)
    clear hW n
    refine sameF_any (kp + 2) (kp + 2) d2 d2 S S _ _ _ _ _ _ HCc.out HCa.out (by omega) (by omega) ?_
    intro w40 n
    replace HKW := Lib.hid (HKW.out.kept n (fun _ _ e => e))
    replace NX := Lib.hid (NX.out.trans n)
    replace HIl := Lib.hid ((HIl.out.kept n nof).hi n.size)
    replace HOp := Lib.hid (HOp.out.ch' n (fun _ _ e => e))
    replace HCa := Lib.hid ((HCa.out.kept n nof))
    replace HBa := Lib.hid (n.heap HBa.out id)
    replace HOb := Lib.hid (HOb.out.ch' n (fun _ _ e => e))
    replace HBb := Lib.hid (n.heap HBb.out id)
    replace HOc := Lib.hid (HOc.out.ch' n (fun _ _ e => e))
    replace HCc := Lib.hid ((HCc.out.kept n nof))
    replace HBc := Lib.hid (n.heap HBc.out id)
    clear n
    rw [decide_eq_true rfl]
    have kHBa0 : w40.cell? ⟨w6.heap.size, 0, none⟩ = some (.int .i64 kp) := by rw [cell_of HBa.out]; rfl
    have kHBa1 : w40.cell? ⟨w6.heap.size, 1, none⟩ = some (.int .i64 dp) := by rw [cell_of HBa.out]; rfl
    have kHBa2 : w40.cell? ⟨w6.heap.size, 2, none⟩ = some (.slice Aa S.length ca) := by rw [cell_of HBa.out]; rfl
    have kHBb0 : w40.cell? ⟨w34.heap.size, 0, none⟩ = some (.int .i64 0) := by rw [cell_of HBb.out]; rfl
    have kHBb1 : w40.cell? ⟨w34.heap.size, 1, none⟩ = some (.int .i64 0) := by rw [cell_of HBb.out]; rfl
    have kHBb2 : w40.cell? ⟨w34.heap.size, 2, none⟩ = some (.slice none 0 0) := by rw [cell_of HBb.out]; rfl
    go_wp2
    exact HR.out _ NX.out
  · as_aux_lemma =>
    have hlp := loop_good (np := 7) (n := (n1 : Int)) hpp HFp.out hp0 (by omega) (by omega)
    have H2 := Lib.hid (hlp.2 hq)
    have H3 := Lib.hid (show checkM 7 ([(1, 5, 0), (14, (p.length : Int), 0)] ++ p) = _ from cond_good hpp HFp.out hp0)
    have hl0 := HPOS.out hp0
    have hl1 : ((p.length : Int) == 0) = false := by simp; omega
    rw [HD2.out] at H3
    have hm1 : 0 ≤ (n1 : Int) * kp := Int.mul_nonneg (by omega) kap
    have hm2 : (n1 : Int) * kp ≤ 16 * kp := Int.mul_le_mul_of_nonneg_right (by omega) kap
    obtain ⟨q, hqq⟩ : ∃ q, (n1 : Int) * kp = q := ⟨_, rfl⟩
    rw [hqq] at hm1 hm2 hq H2
    have hm3 : q ≤ 20000 := by omega
    clear hp0 hlp hm2
    go_upto_region 5 with (fail)
    refine wp_named ?_
    intro W41 hW
    have n : Nw w6 W41 := by rw [hW]; first | exact Ch.refl _ _ | exact (Ch.refl _ _).alloc _
    replace HKW := Lib.hid (HKW.out.kept n (fun _ _ e => e))
    replace NX := Lib.hid (NX.out.trans n)
    replace HIl := Lib.hid ((HIl.out.kept n nof).hi n.size)
    replace HOp := Lib.hid (HOp.out.ch' n (fun _ _ e => e))
    replace HCa := Lib.hid ((HCa.out.kept n nof))
    have HBa := Lib.hid (show W41.heap[w6.heap.size]? = some (.cells #[.int .i64 kp, .int .i64 dp, .slice Aa S.length ca] 35 (0, 0)) from by rw [hW]; exact heap_alloc_eq _ rfl)
    clear hW n
    refine wp_region_lit ?_
    refine wpList_plain rfl fun K hK => ?_
    go_simp
    refine hK _ _ ?_
    clear hK K
    try simp only [Act.put, List.getElem_toArray, List.getElem_cons_succ, List.getElem_cons_zero, List.setIfInBounds_toArray, List.set_cons_zero, List.set_cons_succ]
    refine wpList_plain rfl fun K hK => ?_
    go_simp
    refine hK _ _ ?_
    clear hK K
    try simp only [Act.put, List.getElem_toArray, List.getElem_cons_succ, List.getElem_cons_zero, List.setIfInBounds_toArray, List.set_cons_zero, List.set_cons_succ]
    refine wpList_plain rfl fun K hK => ?_
    go_simp
    refine hK _ _ ?_
    clear hK K
    try simp only [Act.put, List.getElem_toArray, List.getElem_cons_succ, List.getElem_cons_zero, List.setIfInBounds_toArray, List.set_cons_zero, List.set_cons_succ]
    refine wpList_plain rfl fun K hK => ?_
    go_simp
    refine hK _ _ ?_
    clear hK K
    try simp only [Act.put, List.getElem_toArray, List.getElem_cons_succ, List.getElem_cons_zero, List.setIfInBounds_toArray, List.set_cons_zero, List.set_cons_succ]
    refine wpList_plain rfl fun K hK => ?_
    refine wp_lit1x3 25 28 _ rfl Tryd.underlying25 (by kernel_rfl) (by rfl) ?_
    refine hK _ _ ?_
    clear hK K
    try simp only [Act.put, List.getElem_toArray, List.getElem_cons_succ, List.getElem_cons_zero, List.setIfInBounds_toArray, List.set_cons_zero, List.set_cons_succ]
    refine wpList_plain rfl fun K hK => ?_
    go_simp
    refine hK _ _ ?_
    clear hK K
    try simp only [Act.put, List.getElem_toArray, List.getElem_cons_succ, List.getElem_cons_zero, List.setIfInBounds_toArray, List.set_cons_zero, List.set_cons_succ]
    refine wpList_plain rfl fun K hK => ?_
    refine wp_appOps _ (.tmp 34) (.tmp 35) rfl W41.heap.size _ [((15 : Int), (n1 : Int), (p.length : Int))] (by rfl) (row_lit (n := 1) (Nat.le_refl _) rfl (by omega)) W3.heap.size _ p (by rfl) (CRow.ch' (HOp.out) ((Ch.refl (fun _ => False) _).alloc _) (fun _ _ e => e)) HEp.out (by simp only [List.length_cons, List.length_nil]; omega) (by rw [alloc_size]; omega) ?_
    intro v9 w9 hrow9 hgr9 hnil9
    have n : Nw W41 w9 := ((Ch.refl _ _).alloc _).grown hgr9 (fun k e hk => by have e' : W41.heap.size = k := Option.some.inj e; omega)
    refine hK _ _ ?_
    clear hK K
    try simp only [Act.put, List.getElem_toArray, List.getElem_cons_succ, List.getElem_cons_zero, List.setIfInBounds_toArray, List.set_cons_zero, List.set_cons_succ]
    obtain ⟨w42, hwq⟩ : ∃ W : World, W = w9 := ⟨_, rfl⟩
    subst hwq
    replace HKW := Lib.hid (HKW.out.kept n (fun _ _ e => e))
    replace NX := Lib.hid (NX.out.trans n)
    replace HIl := Lib.hid ((HIl.out.kept n nof).hi n.size)
    replace HOp := Lib.hid (HOp.out.ch' n (fun _ _ e => e))
    replace HCa := Lib.hid ((HCa.out.kept n nof))
    replace HBa := Lib.hid (n.heap HBa.out id)
    have HOb := Lib.hid (show ORow w42 W41.heap.size v9 ([((15 : Int), (n1 : Int), (p.length : Int))] ++ p) from hrow9)
    obtain ⟨Ab, cb, eb⟩ := hrow9.form
    subst eb
    clear hrow9 hgr9 hnil9 n
    go_wp2_with (go_at_call 18; fail)
    refine Calls_nm ?_
    intro W43 hW
    have n : Nw w42 W43 := by rw [hW]; first | exact Ch.refl _ _ | exact (Ch.refl _ _).alloc _ | exact ((Ch.refl _ _).alloc _).alloc _
    replace HKW := Lib.hid (HKW.out.kept n (fun _ _ e => e))
    replace NX := Lib.hid (NX.out.trans n)
    replace HIl := Lib.hid ((HIl.out.kept n nof).hi n.size)
    replace HOp := Lib.hid (HOp.out.ch' n (fun _ _ e => e))
    replace HCa := Lib.hid ((HCa.out.kept n nof))
    replace HBa := Lib.hid (n.heap HBa.out id)
    replace HOb := Lib.hid (HOb.out.ch' n (fun _ _ e => e))
    clear hW n
    refine check_ok ((show checkM 7 ([((15 : Int), (n1 : Int), (p.length : Int))] ++ p) = _ from H2.out)) W43.heap.size _ _ _ (ORow.prog (L := _) HOb.out) (Nat.le_refl _) (by have := HKW.out.sz; omega) HKW.out ?_
    intro w44 Ab cb hc n
    replace HKW := Lib.hid (HKW.out.kept n (fun _ _ e => e))
    replace NX := Lib.hid (NX.out.trans n)
    replace HIl := Lib.hid ((HIl.out.kept n nof).hi n.size)
    replace HOp := Lib.hid (HOp.out.ch' n (fun _ _ e => e))
    replace HCa := Lib.hid ((HCa.out.kept n nof))
    replace HBa := Lib.hid (n.heap HBa.out id)
    replace HOb := Lib.hid (HOb.out.ch' n (fun _ _ e => e))
    have HCb := Lib.hid hc
    clear n hc
    rw [HS.out] at HCb ⊢
    
    go_upto_region 6 with (fail)
    refine wp_named ?_
    intro W45 hW
    have n : Nw w44 W45 := by rw [hW]; first | exact Ch.refl _ _ | exact (Ch.refl _ _).alloc _
    replace HKW := Lib.hid (HKW.out.kept n (fun _ _ e => e))
    replace NX := Lib.hid (NX.out.trans n)
    replace HIl := Lib.hid ((HIl.out.kept n nof).hi n.size)
    replace HOp := Lib.hid (HOp.out.ch' n (fun _ _ e => e))
    replace HCa := Lib.hid ((HCa.out.kept n nof))
    replace HBa := Lib.hid (n.heap HBa.out id)
    replace HOb := Lib.hid (HOb.out.ch' n (fun _ _ e => e))
    replace HCb := Lib.hid ((HCb.out.kept n nof))
    have HBb := Lib.hid (show W45.heap[w44.heap.size]? = some (.cells #[.int .i64 (1 + q), .int .i64 dp, .slice Ab S.length cb] 35 (0, 0)) from by rw [hW]; exact heap_alloc_eq _ rfl)
    clear hW n
    refine wp_region_lit ?_
    refine wpList_plain rfl fun K hK => ?_
    go_simp
    refine hK _ _ ?_
    clear hK K
    try simp only [Act.put, List.getElem_toArray, List.getElem_cons_succ, List.getElem_cons_zero, List.setIfInBounds_toArray, List.set_cons_zero, List.set_cons_succ]
    refine wpList_plain rfl fun K hK => ?_
    go_simp
    refine hK _ _ ?_
    clear hK K
    try simp only [Act.put, List.getElem_toArray, List.getElem_cons_succ, List.getElem_cons_zero, List.setIfInBounds_toArray, List.set_cons_zero, List.set_cons_succ]
    refine wpList_plain rfl fun K hK => ?_
    go_simp
    refine hK _ _ ?_
    clear hK K
    try simp only [Act.put, List.getElem_toArray, List.getElem_cons_succ, List.getElem_cons_zero, List.setIfInBounds_toArray, List.set_cons_zero, List.set_cons_succ]
    refine wpList_plain rfl fun K hK => ?_
    go_simp
    refine hK _ _ ?_
    clear hK K
    try simp only [Act.put, List.getElem_toArray, List.getElem_cons_succ, List.getElem_cons_zero, List.setIfInBounds_toArray, List.set_cons_zero, List.set_cons_succ]
    refine wpList_plain rfl fun K hK => ?_
    refine wp_lit2x3 25 28 _ _ rfl Tryd.underlying25 (by kernel_rfl) (by rfl) (by rfl) ?_
    refine hK _ _ ?_
    clear hK K
    try simp only [Act.put, List.getElem_toArray, List.getElem_cons_succ, List.getElem_cons_zero, List.setIfInBounds_toArray, List.set_cons_zero, List.set_cons_succ]
    refine wpList_plain rfl fun K hK => ?_
    go_simp
    refine hK _ _ ?_
    clear hK K
    try simp only [Act.put, List.getElem_toArray, List.getElem_cons_succ, List.getElem_cons_zero, List.setIfInBounds_toArray, List.set_cons_zero, List.set_cons_succ]
    refine wpList_plain rfl fun K hK => ?_
    refine wp_appOps _ (.tmp 45) (.tmp 46) rfl W45.heap.size _ [((1 : Int), (5 : Int), (0 : Int)), (14, (p.length : Int), 0)] (by rfl) (row_lit (n := 2) (Nat.le_refl _) rfl (by omega)) W3.heap.size _ p (by rfl) (CRow.ch' (HOp.out) ((Ch.refl (fun _ => False) _).alloc _) (fun _ _ e => e)) HEp.out (by simp only [List.length_cons, List.length_nil]; omega) (by rw [alloc_size]; omega) ?_
    intro v9 w9 hrow9 hgr9 hnil9
    have n : Nw W45 w9 := ((Ch.refl _ _).alloc _).grown hgr9 (fun k e hk => by have e' : W45.heap.size = k := Option.some.inj e; omega)
    refine hK _ _ ?_
    clear hK K
    try simp only [Act.put, List.getElem_toArray, List.getElem_cons_succ, List.getElem_cons_zero, List.setIfInBounds_toArray, List.set_cons_zero, List.set_cons_succ]
    obtain ⟨w46, hwq⟩ : ∃ W : World, W = w9 := ⟨_, rfl⟩
    subst hwq
    replace HKW := Lib.hid (HKW.out.kept n (fun _ _ e => e))
    replace NX := Lib.hid (NX.out.trans n)
    replace HIl := Lib.hid ((HIl.out.kept n nof).hi n.size)
    replace HOp := Lib.hid (HOp.out.ch' n (fun _ _ e => e))
    replace HCa := Lib.hid ((HCa.out.kept n nof))
    replace HBa := Lib.hid (n.heap HBa.out id)
    replace HOb := Lib.hid (HOb.out.ch' n (fun _ _ e => e))
    replace HCb := Lib.hid ((HCb.out.kept n nof))
    replace HBb := Lib.hid (n.heap HBb.out id)
    have HOc := Lib.hid (show ORow w46 W45.heap.size v9 ([((1 : Int), (5 : Int), (0 : Int)), (14, (p.length : Int), 0)] ++ p) from hrow9)
    obtain ⟨Ac, cc, ec⟩ := hrow9.form
    subst ec
    clear hrow9 hgr9 hnil9 n
    go_wp2_with (go_at_call 18; fail)
    refine Calls_nm ?_
    intro W47 hW
    have n : Nw w46 W47 := by rw [hW]; first | exact Ch.refl _ _ | exact (Ch.refl _ _).alloc _ | exact ((Ch.refl _ _).alloc _).alloc _
    replace HKW := Lib.hid (HKW.out.kept n (fun _ _ e => e))
    replace NX := Lib.hid (NX.out.trans n)
    replace HIl := Lib.hid ((HIl.out.kept n nof).hi n.size)
    replace HOp := Lib.hid (HOp.out.ch' n (fun _ _ e => e))
    replace HCa := Lib.hid ((HCa.out.kept n nof))
    replace HBa := Lib.hid (n.heap HBa.out id)
    replace HOb := Lib.hid (HOb.out.ch' n (fun _ _ e => e))
    replace HCb := Lib.hid ((HCb.out.kept n nof))
    replace HBb := Lib.hid (n.heap HBb.out id)
    replace HOc := Lib.hid (HOc.out.ch' n (fun _ _ e => e))
    clear hW n
    refine check_ok (H3.out) W47.heap.size _ _ _ (ORow.prog (L := _) HOc.out) (Nat.le_refl _) (by have := HKW.out.sz; omega) HKW.out ?_
    intro w48 Ac cc hc n
    replace HKW := Lib.hid (HKW.out.kept n (fun _ _ e => e))
    replace NX := Lib.hid (NX.out.trans n)
    replace HIl := Lib.hid ((HIl.out.kept n nof).hi n.size)
    replace HOp := Lib.hid (HOp.out.ch' n (fun _ _ e => e))
    replace HCa := Lib.hid ((HCa.out.kept n nof))
    replace HBa := Lib.hid (n.heap HBa.out id)
    replace HOb := Lib.hid (HOb.out.ch' n (fun _ _ e => e))
    replace HCb := Lib.hid ((HCb.out.kept n nof))
    replace HBb := Lib.hid (n.heap HBb.out id)
    replace HOc := Lib.hid (HOc.out.ch' n (fun _ _ e => e))
    have HCc := Lib.hid hc
    clear n hc
    rw [HS.out] at HCc ⊢
    have kHBa0 : w48.cell? ⟨w6.heap.size, 0, none⟩ = some (.int .i64 kp) := by rw [cell_of HBa.out]; rfl
    have jHBa0 : ∀ o, (w48.alloc o).cell? ⟨w6.heap.size, 0, none⟩ = some (.int .i64 kp) := fun o => cell_alloc_old o kHBa0
    have kHBa1 : w48.cell? ⟨w6.heap.size, 1, none⟩ = some (.int .i64 dp) := by rw [cell_of HBa.out]; rfl
    have jHBa1 : ∀ o, (w48.alloc o).cell? ⟨w6.heap.size, 1, none⟩ = some (.int .i64 dp) := fun o => cell_alloc_old o kHBa1
    have kHBa2 : w48.cell? ⟨w6.heap.size, 2, none⟩ = some (.slice Aa S.length ca) := by rw [cell_of HBa.out]; rfl
    have jHBa2 : ∀ o, (w48.alloc o).cell? ⟨w6.heap.size, 2, none⟩ = some (.slice Aa S.length ca) := fun o => cell_alloc_old o kHBa2
    have kHBb0 : w48.cell? ⟨w44.heap.size, 0, none⟩ = some (.int .i64 (1 + q)) := by rw [cell_of HBb.out]; rfl
    have jHBb0 : ∀ o, (w48.alloc o).cell? ⟨w44.heap.size, 0, none⟩ = some (.int .i64 (1 + q)) := fun o => cell_alloc_old o kHBb0
    have kHBb1 : w48.cell? ⟨w44.heap.size, 1, none⟩ = some (.int .i64 dp) := by rw [cell_of HBb.out]; rfl
    have jHBb1 : ∀ o, (w48.alloc o).cell? ⟨w44.heap.size, 1, none⟩ = some (.int .i64 dp) := fun o => cell_alloc_old o kHBb1
    have kHBb2 : w48.cell? ⟨w44.heap.size, 2, none⟩ = some (.slice Ab S.length cb) := by rw [cell_of HBb.out]; rfl
    have jHBb2 : ∀ o, (w48.alloc o).cell? ⟨w44.heap.size, 2, none⟩ = some (.slice Ab S.length cb) := fun o => cell_alloc_old o kHBb2
    go_wp2_with (go_at_call 18; fail)
    clear kHBa0 jHBa0 kHBa1 jHBa1 kHBa2 jHBa2 kHBb0 jHBb0 kHBb1 jHBb1 kHBb2 jHBb2
    refine Calls_nm ?_
    intro W49 hW
    have n : Nw w48 W49 := by rw [hW]; first | exact Ch.refl _ _ | exact (Ch.refl _ _).alloc _ | exact ((Ch.refl _ _).alloc _).alloc _
    replace HKW := Lib.hid (HKW.out.kept n (fun _ _ e => e))
    replace NX := Lib.hid (NX.out.trans n)
    replace HIl := Lib.hid ((HIl.out.kept n nof).hi n.size)
    replace HOp := Lib.hid (HOp.out.ch' n (fun _ _ e => e))
    replace HCa := Lib.hid ((HCa.out.kept n nof))
    replace HBa := Lib.hid (n.heap HBa.out id)
    replace HOb := Lib.hid (HOb.out.ch' n (fun _ _ e => e))
    replace HCb := Lib.hid ((HCb.out.kept n nof))
    replace HBb := Lib.hid (n.heap HBb.out id)
    replace HOc := Lib.hid (HOc.out.ch' n (fun _ _ e => e))
    replace HCc := Lib.hid ((HCc.out.kept n nof))
    have HBc := Lib.hid (show W49.heap[w48.heap.size]? = some (.cells #[.int .i64 (kp + 2), .int .i64 d2, .slice Ac S.length cc] 35 (0, 0)) from by rw [hW]; exact heap_alloc_eq _ rfl)
    clear hW n
    refine sameF_any (kp + 2) (kp + 2) d2 d2 S S _ _ _ _ _ _ HCc.out HCa.out (by omega) (by omega) ?_
    intro w50 n
    replace HKW := Lib.hid (HKW.out.kept n (fun _ _ e => e))
    replace NX := Lib.hid (NX.out.trans n)
    replace HIl := Lib.hid ((HIl.out.kept n nof).hi n.size)
    replace HOp := Lib.hid (HOp.out.ch' n (fun _ _ e => e))
    replace HCa := Lib.hid ((HCa.out.kept n nof))
    replace HBa := Lib.hid (n.heap HBa.out id)
    replace HOb := Lib.hid (HOb.out.ch' n (fun _ _ e => e))
    replace HCb := Lib.hid ((HCb.out.kept n nof))
    replace HBb := Lib.hid (n.heap HBb.out id)
    replace HOc := Lib.hid (HOc.out.ch' n (fun _ _ e => e))
    replace HCc := Lib.hid ((HCc.out.kept n nof))
    replace HBc := Lib.hid (n.heap HBc.out id)
    clear n
    rw [decide_eq_true rfl]
    have kHBa0 : w50.cell? ⟨w6.heap.size, 0, none⟩ = some (.int .i64 kp) := by rw [cell_of HBa.out]; rfl
    have kHBa1 : w50.cell? ⟨w6.heap.size, 1, none⟩ = some (.int .i64 dp) := by rw [cell_of HBa.out]; rfl
    have kHBa2 : w50.cell? ⟨w6.heap.size, 2, none⟩ = some (.slice Aa S.length ca) := by rw [cell_of HBa.out]; rfl
    have kHBb0 : w50.cell? ⟨w44.heap.size, 0, none⟩ = some (.int .i64 (1 + q)) := by rw [cell_of HBb.out]; rfl
    have kHBb1 : w50.cell? ⟨w44.heap.size, 1, none⟩ = some (.int .i64 dp) := by rw [cell_of HBb.out]; rfl
    have kHBb2 : w50.cell? ⟨w44.heap.size, 2, none⟩ = some (.slice Ab S.length cb) := by rw [cell_of HBb.out]; rfl
    go_wp2_with (go_at_call 18; fail)
    clear kHBa0 kHBa1 kHBa2 kHBb0 kHBb1 kHBb2
    refine Calls_nm ?_
    intro W51 hW
    have n : Nw w50 W51 := by rw [hW]; first | exact Ch.refl _ _ | exact (Ch.refl _ _).alloc _ | exact ((Ch.refl _ _).alloc _).alloc _
    replace HKW := Lib.hid (HKW.out.kept n (fun _ _ e => e))
    replace NX := Lib.hid (NX.out.trans n)
    replace HIl := Lib.hid ((HIl.out.kept n nof).hi n.size)
    replace HOp := Lib.hid (HOp.out.ch' n (fun _ _ e => e))
    replace HCa := Lib.hid ((HCa.out.kept n nof))
    replace HBa := Lib.hid (n.heap HBa.out id)
    replace HOb := Lib.hid (HOb.out.ch' n (fun _ _ e => e))
    replace HCb := Lib.hid ((HCb.out.kept n nof))
    replace HBb := Lib.hid (n.heap HBb.out id)
    replace HOc := Lib.hid (HOc.out.ch' n (fun _ _ e => e))
    replace HCc := Lib.hid ((HCc.out.kept n nof))
    replace HBc := Lib.hid (n.heap HBc.out id)
    clear hW n
    refine sameF_any (1 + q) (1 + q) dp dp S S _ _ _ _ _ _ HCb.out HCa.out (by omega) (by omega) ?_
    intro w52 n
    replace HKW := Lib.hid (HKW.out.kept n (fun _ _ e => e))
    replace NX := Lib.hid (NX.out.trans n)
    replace HIl := Lib.hid ((HIl.out.kept n nof).hi n.size)
    replace HOp := Lib.hid (HOp.out.ch' n (fun _ _ e => e))
    replace HCa := Lib.hid ((HCa.out.kept n nof))
    replace HBa := Lib.hid (n.heap HBa.out id)
    replace HOb := Lib.hid (HOb.out.ch' n (fun _ _ e => e))
    replace HCb := Lib.hid ((HCb.out.kept n nof))
    replace HBb := Lib.hid (n.heap HBb.out id)
    replace HOc := Lib.hid (HOc.out.ch' n (fun _ _ e => e))
    replace HCc := Lib.hid ((HCc.out.kept n nof))
    replace HBc := Lib.hid (n.heap HBc.out id)
    clear n
    rw [decide_eq_true rfl]
    go_wp2
    exact HR.out _ NX.out

end Go.Proofs.YtdpbdcaefdcooaaDoor
