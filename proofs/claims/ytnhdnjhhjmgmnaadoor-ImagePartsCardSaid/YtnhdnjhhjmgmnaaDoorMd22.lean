/-
  indelibleref22.Made: an image of a bitmap that has no error: some image of the right size.
-/
import Derived.Test.YtnhdnjhhjmgmnaaDoorImI
import Derived.Test.YtnhdnjhhjmgmnaaDoorImF
import Derived.Test.YtnhdnjhhjmgmnaaDoorRegT
import Derived.Deep.RegionHeld3
namespace Go.Proofs.YtnhdnjhhjmgmnaaDoor
theorem wpAnyH_named {P : Program} {md : Region.Mode} {ops : Array Oper} {Q : Exit → Act → World → Prop} {S : World → Prop} {fuel : Nat} {listed : Array Bool} {a : Act} {w : World} (h : ∀ W, W = w → wpAnyH P md ops Q S fuel listed a W) : wpAnyH P md ops Q S fuel listed a w := h _ rfl
/-- A list longer than a block lies elsewhere. -/
theorem isInts_far {w w' : World} {lo ob : Nat} {v : Value} {l : List Int} {c : Array Value} {T : TypeId} {f : Nat × Nat} (h : IsInts w lo v l) (hb : w.heap[ob]? = some (.cells c T f)) (hc : c.size < l.length) (hch : Ch (· = ob) w w') : IsInts w' lo v l := by
  obtain ⟨A, cap, e, hl, h⟩ := h
  obtain ⟨x, hx⟩ : ∃ x, l[c.size]? = some x := ⟨_, List.getElem?_eq_getElem hc⟩
  obtain ⟨-, pk, po, -, rfl, h1⟩ := h _ _ hx
  have hne : pk ≠ ob := by
    rintro rfl
    rw [cell_of hb, Array.getElem?_eq_none (by omega)] at h1
    cases h1
  refine ⟨_, cap, e, hl, fun i y hi => ?_⟩
  obtain ⟨hw, pk', po', hk, ea, h0⟩ := h i y hi
  injection ea with ea
  injection ea with e1 e2
  subst e1 e2
  exact ⟨hw, pk, po, hk, rfl, hch.cell h0 hne⟩
theorem frame_ge {b : Bm} (h : bmE b = 0) : 16 ≤ frameN b := by
  have h1 := frame_len h
  obtain ⟨h2, h3, -⟩ := bmE_ok h
  have h4 : (4 : Int) * 4 ≤ (b.1 + 4) * (b.2.1 + 4) := Int.mul_le_mul (by omega) (by omega) (by omega) (by omega)
  omega
theorem imOk_ge {a b : Int} {px : List Int} (h : imOk (a + 4, b + 4, px)) (ha : 0 ≤ a) (hb : 0 ≤ b) : 16 ≤ px.length := by
  have h1 := h.2.2.1
  have h4 : (4 : Int) * 4 ≤ (a + 4) * (b + 4) := Int.mul_le_mul (by omega) (by omega) (by omega) (by omega)
  simp only at h1
  omega
theorem IRow.sm {w : World} {B : Nat} {v : Value} {n : Nat} {l : List Int} (h : IRow w B v n l) (hn : 0 < n) : ∃ g c, v = .slice (some ⟨g, 0, none⟩) n c ∧ B ≤ g ∧ n ≤ c ∧ c ≤ maxLen := by
  rcases h.2 with ⟨h1, h2⟩ | ⟨g, cap, cur, rfl, hb, -, hnc, hcm, -⟩
  · have := h.len
    omega
  · exact ⟨g, cap, rfl, hb, hnc, hcm⟩
theorem imOk_set {a b : Int} {px : List Int} (h : imOk (a, b, px)) (m : Nat) {z : Int} (z0 : 0 ≤ z) (z2 : z ≤ 2) : imOk (a, b, px.set m z) := by
  refine ⟨h.1, h.2.1, by simp only [List.length_set]; exact h.2.2.1, fun p hp => ?_⟩
  rcases List.mem_or_eq_of_mem_set hp with hp | rfl
  · exact h.2.2.2 p hp
  · exact ⟨z0, z2⟩
theorem Calls_named {P : Program} {f : FuncId} {args : Array Value} {w : World} {R : Ending → World → Prop} (h : ∀ W, W = w → Calls P f args W R) : Calls P f args w R := h _ rfl
open Go.RowKit
set_option linter.unusedVariables false
set_option linter.unusedSimpArgs false
set_option maxRecDepth 100000

set_option maxHeartbeats 8000000 in
theorem rMade22_any (lo : Nat) (vb : Value) (b : Bm) (vl : Value) (l : List Int) (w : World) (R : Ending → World → Prop) (hb : IsBm w lo vb b) (hE : bmE b = 0) (h : IsInts w lo vl l) (hlo : lo ≤ w.heap.size)
    (hR : ∀ w' v' x, IsIm w' w'.heap.size v' x → imOk x → x.1 = b.1 + 4 → x.2.1 = b.2.1 + 4 → Nw w w' → (∃ g n c, v' = .agg #[.int .i64 x.1, .int .i64 x.2.1, .slice (some ⟨g, 0, none⟩) n c]) → R (.returned v') w') : Calls Tryd.prog 11 #[vb, vl] w R := by
  have HR := Lib.hid hR
  clear hR
  have HB := Lib.hid hb
  have HL := Lib.hid h
  have HE := Lib.hid hE
  obtain ⟨⟨e1, e2⟩, ⟨e3, e4⟩, -⟩ := bmE_ok hE
  clear hE
  obtain ⟨s, e, -, -, -⟩ := hb
  subst e
  obtain ⟨A0, cap0, rfl, ⟨hlc, hl⟩, -⟩ := h
  go_enter Tryd.func11, Tryd.ntmps11
  generalize hW : b.1 = bw at *
  generalize hH : b.2.1 = bh at *
  have HW := Lib.hid hW
  have HH := Lib.hid hH
  clear hW hH
  go_upto_region 2 with (fail)
  go_cut [6, 7] (fun s6 s7 wx => s7 = .int .i64 0 ∧ ∃ (ob : Nat) (x : Im) (A : Option Addr) (cap kk : Nat), s6 = .pointer (some ⟨ob, 0, none⟩) ∧ w.heap.size + 3 ≤ ob ∧ x.1 = bw + 4 ∧ x.2.1 = bh + 4 ∧ imOk x ∧ Hid (wx.heap[ob]? = some (.cells #[.int .i64 (bw + 4), .int .i64 (bh + 4), .slice A x.2.2.length cap] 25 (0, 0))) ∧ Hid (IsInts wx wx.heap.size (.slice A x.2.2.length cap) x.2.2) ∧ Hid (DS wx lo (w.heap.size + 2) (.slice A0 l.length cap0) l kk) ∧ Hid (wx.heap[w.heap.size + 1]? = some (.cells #[.int .i64 0, .int .i64 0, .slice none 0 0] 25 (0, 0))) ∧ Hid (Nw w wx))
  case first => as_aux_lemma =>
    go_wp2_with fail
    refine wp_named ?_
    intro P hP
    have SB := Lib.hid (show P.drew.heap[w.heap.size]? = some (.cells #[.int .i64 bw, .int .i64 bh, s] 31 (0, 0)) from by show P.heap[_]? = _; rw [hP]; exact heap_alloc_old' _ (heap_alloc_old' _ (heap_alloc_eq _ rfl)))
    have RB := Lib.hid (show P.drew.heap[w.heap.size + 1]? = some (.cells #[.int .i64 0, .int .i64 0, .slice none 0 0] 25 (0, 0)) from by show P.heap[_]? = _; rw [hP]; exact heap_alloc_old' _ (heap_alloc_eq _ (by simp only [alloc_size])))
    have NX := Lib.hid (show Nw w P.drew from by rw [hP]; exact ((((Ch.refl _ _).alloc _).alloc _).alloc _).drew)
    have DD := Lib.hid (show DS P.drew lo (w.heap.size + 2) (.slice A0 l.length cap0) l 0 from ⟨by show P.heap[_]? = _; rw [hP]; exact heap_alloc_eq _ (by simp only [alloc_size]), HL.out.kept NX.out nof, Nat.zero_le _, by omega⟩)
    have SZ0 : w.heap.size + 2 < P.drew.heap.size := lt_of_heap DD.out.blk
    clear hP
    refine wp_region_held_drew (S := fun w' => w'.cell? ⟨w.heap.size, 0, none⟩ = some (.int .i64 bw) ∧ w'.cell? ⟨w.heap.size, 1, none⟩ = some (.int .i64 bh) ∧ w'.cell? ⟨w.heap.size, 2, none⟩ = some s) (by kernel_rfl) ⟨by rw [cell_of SB.out]; rfl, by rw [cell_of SB.out]; rfl, by rw [cell_of SB.out]; rfl⟩ (fun hHeld => ?_)
    refine wpAnyH_named ?_
    intro w0 hw0
    rw [← hw0] at SB RB NX DD SZ0 hHeld
    have SZw0 := SZ0
    clear hw0 SZ0 P
    first | (refine wpAnyH_take (i := 0) (v := ?_) rfl (by kernel_rfl) (by kernel_rfl) (by kernel_rfl) (fun _ _ _ h => h) (Or.inl ⟨by rfl, ?hy⟩) (by assumption) ?_; case hy => (intro w hSw; (try dsimp only at hSw); go_simp; (try with_reducible rfl))) | (refine wpAnyH_take (i := 0) (v := _) rfl (by kernel_rfl) (by kernel_rfl) (by kernel_rfl) (fun _ _ _ h => h) (Or.inr ⟨by rfl, rfl⟩) (by assumption) ?_)
    try simp only [Act.put, List.getElem_toArray, List.getElem_cons_succ, List.getElem_cons_zero, List.setIfInBounds_toArray, List.set_cons_zero, List.set_cons_succ]
    first | (refine wpAnyH_take (i := 1) (v := ?_) rfl (by kernel_rfl) (by kernel_rfl) (by kernel_rfl) (fun _ _ _ h => h) (Or.inl ⟨by rfl, ?hy⟩) (by assumption) ?_; case hy => (intro w hSw; (try dsimp only at hSw); go_simp; (try with_reducible rfl))) | (refine wpAnyH_take (i := 1) (v := _) rfl (by kernel_rfl) (by kernel_rfl) (by kernel_rfl) (fun _ _ _ h => h) (Or.inr ⟨by rfl, rfl⟩) (by assumption) ?_)
    try simp only [Act.put, List.getElem_toArray, List.getElem_cons_succ, List.getElem_cons_zero, List.setIfInBounds_toArray, List.set_cons_zero, List.set_cons_succ]
    first | (refine wpAnyH_take (i := 4) (v := ?_) rfl (by kernel_rfl) (by kernel_rfl) (by kernel_rfl) (fun _ _ _ h => h) (Or.inl ⟨by rfl, ?hy⟩) (by assumption) ?_; case hy => (intro w hSw; (try dsimp only at hSw); go_simp; (try with_reducible rfl))) | (refine wpAnyH_take (i := 4) (v := _) rfl (by kernel_rfl) (by kernel_rfl) (by kernel_rfl) (fun _ _ _ h => h) (Or.inr ⟨by rfl, rfl⟩) (by assumption) ?_)
    try simp only [Act.put, List.getElem_toArray, List.getElem_cons_succ, List.getElem_cons_zero, List.setIfInBounds_toArray, List.set_cons_zero, List.set_cons_succ]
    refine wpAnyH_ready (rs := [2, 11]) (by kernel_rfl) (by simp) ?_
    refine AllReadyH.cons rfl (fun K hK => ?_) (AllReadyH.cons rfl (fun K hK => ?_) AllReadyH.nil)
    · go_simp
      go_at_call 36
      refine Next_any lo (w.heap.size + 2) _ l (0) 5 _ _ DD.out (by omega) (by omega) ?_
      intro w1 d1 c1
      have DD := Lib.hid d1
      have SZw1 := Nat.lt_of_lt_of_le SZw0 c1.size
      have SB := Lib.hid (c1.heap SB.out (by show w.heap.size ≠ _; omega))
      have RB := Lib.hid (c1.heap RB.out (by show w.heap.size + 1 ≠ _; omega))
      have NX := Lib.hid (NX.out.trans' c1 (fun j hj e => by have e' : j = w.heap.size + 2 := e; omega))
      obtain ⟨ln1, un1⟩ := nx_in l (0) 5 (by omega)
      generalize nx l (0) 5 = n1 at ln1 un1 ⊢
      have en1 : IntKind.i64.wrap (n1 - 2) = n1 - 2 := by rw [IntKind.wrap_i64]; omega
      refine hK.out _ _ ⟨by rw [cell_of SB.out]; rfl, by rw [cell_of SB.out]; rfl, by rw [cell_of SB.out]; rfl⟩ (fun hHeld => ?_)
      clear hK K d1 c1
      try simp only [Act.put, List.getElem_toArray, List.getElem_cons_succ, List.getElem_cons_zero, List.setIfInBounds_toArray, List.set_cons_zero, List.set_cons_succ]
      first | (refine wpAnyH_take (i := 3) (v := ?_) rfl (by kernel_rfl) (by kernel_rfl) (by kernel_rfl) (fun _ _ _ h => h) (Or.inl ⟨by rfl, ?hy⟩) (by assumption) ?_; case hy => (intro w hSw; (try dsimp only at hSw); go_simp; (try with_reducible rfl))) | (refine wpAnyH_take (i := 3) (v := _) rfl (by kernel_rfl) (by kernel_rfl) (by kernel_rfl) (fun _ _ _ h => h) (Or.inr ⟨by rfl, rfl⟩) (by assumption) ?_)
      try simp only [Act.put, List.getElem_toArray, List.getElem_cons_succ, List.getElem_cons_zero, List.setIfInBounds_toArray, List.set_cons_zero, List.set_cons_succ]
      refine wpAnyH_ready (rs := [5, 11]) (by kernel_rfl) (by simp) ?_
      refine AllReadyH.cons rfl (fun K hK => ?_) (AllReadyH.cons rfl (fun K hK => ?_) AllReadyH.nil)
      · go_simp
        go_at_call 36
        refine Next_any lo (w.heap.size + 2) _ l (nk l 0) 5 _ _ DD.out (by omega) (by omega) ?_
        intro w2 d1 c1
        have DD := Lib.hid d1
        have SZw2 := Nat.lt_of_lt_of_le SZw1 c1.size
        have SB := Lib.hid (c1.heap SB.out (by show w.heap.size ≠ _; omega))
        have RB := Lib.hid (c1.heap RB.out (by show w.heap.size + 1 ≠ _; omega))
        have NX := Lib.hid (NX.out.trans' c1 (fun j hj e => by have e' : j = w.heap.size + 2 := e; omega))
        obtain ⟨ln2, un2⟩ := nx_in l (nk l 0) 5 (by omega)
        generalize nx l (nk l 0) 5 = n2 at ln2 un2 ⊢
        have en2 : IntKind.i64.wrap (n2 - 2) = n2 - 2 := by rw [IntKind.wrap_i64]; omega
        refine hK.out _ _ ⟨by rw [cell_of SB.out]; rfl, by rw [cell_of SB.out]; rfl, by rw [cell_of SB.out]; rfl⟩ (fun hHeld => ?_)
        clear hK K d1 c1
        try simp only [Act.put, List.getElem_toArray, List.getElem_cons_succ, List.getElem_cons_zero, List.setIfInBounds_toArray, List.set_cons_zero, List.set_cons_succ]
        first | (refine wpAnyH_take (i := 6) (v := ?_) rfl (by kernel_rfl) (by kernel_rfl) (by kernel_rfl) (fun _ _ _ h => h) (Or.inl ⟨by rfl, ?hy⟩) (by assumption) ?_; case hy => (intro w hSw; (try dsimp only at hSw); go_simp; (try with_reducible rfl))) | (refine wpAnyH_take (i := 6) (v := _) rfl (by kernel_rfl) (by kernel_rfl) (by kernel_rfl) (fun _ _ _ h => h) (Or.inr ⟨by rfl, rfl⟩) (by assumption) ?_)
        try simp only [Act.put, List.getElem_toArray, List.getElem_cons_succ, List.getElem_cons_zero, List.setIfInBounds_toArray, List.set_cons_zero, List.set_cons_succ]
        refine wpAnyH_ready (rs := [7, 11]) (by kernel_rfl) (by simp) ?_
        refine AllReadyH.cons rfl (fun K hK => ?_) (AllReadyH.cons rfl (fun K hK => ?_) AllReadyH.nil)
        · go_simp
          go_at_call 15
          refine riPut_ok (b := b) (HB.out.kept NX.out nof) (by unfold wfI; omega) (by unfold wfI; omega) (by have := NX.out.size; omega) HE.out (by unfold shiftOk; omega) ?_
          intro w3 A cap im c1
          have SZw3 := Nat.lt_of_lt_of_le SZw2 c1.size
          have SB := Lib.hid (c1.heap SB.out id)
          have RB := Lib.hid (c1.heap RB.out id)
          have NX := Lib.hid (NX.out.trans c1)
          have DD := Lib.hid (DD.out.kept c1 (fun _ _ e => e))
          have OKX := putL_ok (b := b) (dx := n1 - 2) (dy := n2 - 2) HE.out
          have LN := putL_len b (n1 - 2) (n2 - 2)
          have FR := frame_ge HE.out
          rw [HW.out, HH.out] at OKX
          generalize putL b (n1 - 2) (n2 - 2) = px at im OKX LN
          rw [← LN] at im FR ⊢
          clear LN
          have OKX := Lib.hid OKX
          have IM := Lib.hid im
          refine hK.out _ _ ⟨by rw [cell_of SB.out]; rfl, by rw [cell_of SB.out]; rfl, by rw [cell_of SB.out]; rfl⟩ (fun hHeld => ?_)
          clear hK K im c1
          rw [HW.out, HH.out]
          try simp only [Act.put, List.getElem_toArray, List.getElem_cons_succ, List.getElem_cons_zero, List.setIfInBounds_toArray, List.set_cons_zero, List.set_cons_succ]
          first | (refine wpAnyH_take (i := 8) (v := ?_) rfl (by kernel_rfl) (by kernel_rfl) (by kernel_rfl) (fun _ _ _ h => h) (Or.inl ⟨by rfl, ?hy⟩) (by assumption) ?_; case hy => (intro w hSw; (try dsimp only at hSw); go_simp; (try with_reducible rfl))) | (refine wpAnyH_take (i := 8) (v := _) rfl (by kernel_rfl) (by kernel_rfl) (by kernel_rfl) (fun _ _ _ h => h) (Or.inr ⟨by rfl, rfl⟩) (by assumption) ?_)
          try simp only [Act.put, List.getElem_toArray, List.getElem_cons_succ, List.getElem_cons_zero, List.setIfInBounds_toArray, List.set_cons_zero, List.set_cons_succ]
          first | (refine wpAnyH_take (i := 9) (v := ?_) rfl (by kernel_rfl) (by kernel_rfl) (by kernel_rfl) (fun _ _ _ h => h) (Or.inl ⟨by rfl, ?hy⟩) (by assumption) ?_; case hy => (intro w hSw; (try dsimp only at hSw); go_simp; (try with_reducible rfl))) | (refine wpAnyH_take (i := 9) (v := _) rfl (by kernel_rfl) (by kernel_rfl) (by kernel_rfl) (fun _ _ _ h => h) (Or.inr ⟨by rfl, rfl⟩) (by assumption) ?_)
          try simp only [Act.put, List.getElem_toArray, List.getElem_cons_succ, List.getElem_cons_zero, List.setIfInBounds_toArray, List.set_cons_zero, List.set_cons_succ]
          first | (refine wpAnyH_take (i := 10) (v := ?_) rfl (by kernel_rfl) (by kernel_rfl) (by kernel_rfl) (fun _ _ _ h => h) (Or.inl ⟨by rfl, ?hy⟩) (by assumption) ?_; case hy => (intro w hSw; (try dsimp only at hSw); go_simp; (try with_reducible rfl))) | (refine wpAnyH_take (i := 10) (v := _) rfl (by kernel_rfl) (by kernel_rfl) (by kernel_rfl) (fun _ _ _ h => h) (Or.inr ⟨by rfl, rfl⟩) (by assumption) ?_)
          try simp only [Act.put, List.getElem_toArray, List.getElem_cons_succ, List.getElem_cons_zero, List.setIfInBounds_toArray, List.set_cons_zero, List.set_cons_succ]
          refine wpAnyH_ready (rs := [11]) (by kernel_rfl) (by simp) ?_
          refine AllReadyH.cons rfl (fun K hK => ?_) AllReadyH.nil
          go_simp
          refine hK.out _ _ ⟨cell_alloc_old _ (by rw [cell_of SB.out]; rfl), cell_alloc_old _ (by rw [cell_of SB.out]; rfl), cell_alloc_old _ (by rw [cell_of SB.out]; rfl)⟩ (fun hHeld => ?_)
          clear hK K
          try simp only [Act.put, List.getElem_toArray, List.getElem_cons_succ, List.getElem_cons_zero, List.setIfInBounds_toArray, List.set_cons_zero, List.set_cons_succ]
          refine wpAnyH_named ?_
          intro w4 hw3
          rw [← hw3] at hHeld
          have c1 := (show Nw w3 w4 from by rw [hw3]; exact (Ch.refl _ _).alloc _)
          have SZw4 := Nat.lt_of_lt_of_le SZw3 c1.size
          have SB := Lib.hid (c1.heap SB.out id)
          have RB := Lib.hid (c1.heap RB.out id)
          have NX := Lib.hid (NX.out.trans c1)
          have DD := Lib.hid (DD.out.kept c1 (fun _ _ e => e))
          have IM := Lib.hid ((IM.out.kept c1 nof).hi c1.size)
          have OB := Lib.hid (show w4.heap[w3.heap.size]? = some (.cells #[.int .i64 0, .int .i64 0, .slice none 0 0] 25 (0, 0)) from by rw [hw3]; exact heap_alloc_eq _ rfl)
          have NEw4 : w3.heap.size < w4.heap.size := by rw [hw3, alloc_size]; omega
          clear c1 hw3
          refine wpAnyH_ready (rs := [12]) (by kernel_rfl) (by simp) ?_
          refine AllReadyH.cons rfl (fun K hK => ?_) AllReadyH.nil
          have o0 : w4.cell? ⟨w3.heap.size, 0, none⟩ = some (.int .i64 0) := by rw [cell_of OB.out]; rfl
          have o1 : w4.cell? ⟨w3.heap.size, 1, none⟩ = some (.int .i64 0) := by rw [cell_of OB.out]; rfl
          have o2 : w4.cell? ⟨w3.heap.size, 2, none⟩ = some (.slice none 0 0) := by rw [cell_of OB.out]; rfl
          have f0 : w4.frozen? ⟨w3.heap.size, 0, none⟩ = false := frozen_of OB.out
          have f1 : w4.frozen? ⟨w3.heap.size, 1, none⟩ = false := frozen_of OB.out
          have f2 : w4.frozen? ⟨w3.heap.size, 2, none⟩ = false := frozen_of OB.out
          go_simp
          refine hK.out _ _ ⟨cell_store3 _ _ _ (by rw [cell_of SB.out]; rfl) (by show w.heap.size ≠ _; omega), cell_store3 _ _ _ (by rw [cell_of SB.out]; rfl) (by show w.heap.size ≠ _; omega), cell_store3 _ _ _ (by rw [cell_of SB.out]; rfl) (by show w.heap.size ≠ _; omega)⟩ (fun hHeld => ?_)
          clear hK K
          try simp only [Act.put, List.getElem_toArray, List.getElem_cons_succ, List.getElem_cons_zero, List.setIfInBounds_toArray, List.set_cons_zero, List.set_cons_succ]
          first | (refine wpAnyH_take (i := 13) (v := ?_) rfl (by kernel_rfl) (by kernel_rfl) (by kernel_rfl) (fun _ _ _ h => h) (Or.inl ⟨by rfl, ?hy⟩) (by assumption) ?_; case hy => (intro w hSw; (try dsimp only at hSw); go_simp; (try with_reducible rfl))) | (refine wpAnyH_take (i := 13) (v := _) rfl (by kernel_rfl) (by kernel_rfl) (by kernel_rfl) (fun _ _ _ h => h) (Or.inr ⟨by rfl, rfl⟩) (by assumption) ?_)
          try simp only [Act.put, List.getElem_toArray, List.getElem_cons_succ, List.getElem_cons_zero, List.setIfInBounds_toArray, List.set_cons_zero, List.set_cons_succ]
          refine wpAnyH_done (by kernel_rfl) ?_ _
          go_wp2_with fail
          go_meet
          have cc := ((((Ch.refl (· = w3.heap.size) w4).setb (b := w3.heap.size) (o := 0) (fun _ => rfl) (.int .i64 (bw + 4))).setb (b := w3.heap.size) (o := 1) (fun _ => rfl) (.int .i64 (bh + 4))).setb (b := w3.heap.size) (o := 2) (fun _ => rfl) (.slice A px.length cap))
          exact ⟨rfl, _, (bw + 4, bh + 4, px), A, cap, _, rfl, by omega, rfl, rfl, OKX.out, Lib.hid (heap_setCell_eq _ (heap_setCell_eq _ (heap_setCell_eq _ OB.out))), Lib.hid ((isInts_far IM.out OB.out (by show 3 < _; omega) cc).hi cc.size), Lib.hid (DD.out.kept cc (fun j hj e => by have e' : j = w3.heap.size := e; omega)), Lib.hid (cc.heap RB.out (by show w.heap.size + 1 ≠ _; omega)), Lib.hid (NX.out.trans' cc (fun j hj e => by have e' : j = w3.heap.size := e; omega))⟩
        · go_simp
          refine hK.out _ _ ⟨cell_alloc_old _ (by rw [cell_of SB.out]; rfl), cell_alloc_old _ (by rw [cell_of SB.out]; rfl), cell_alloc_old _ (by rw [cell_of SB.out]; rfl)⟩ (fun hHeld => ?_)
          clear hK K
          try simp only [Act.put, List.getElem_toArray, List.getElem_cons_succ, List.getElem_cons_zero, List.setIfInBounds_toArray, List.set_cons_zero, List.set_cons_succ]
          refine wpAnyH_named ?_
          intro w5 hw3
          rw [← hw3] at hHeld
          have c1 := (show Nw w2 w5 from by rw [hw3]; exact (Ch.refl _ _).alloc _)
          have SZw5 := Nat.lt_of_lt_of_le SZw2 c1.size
          have SB := Lib.hid (c1.heap SB.out id)
          have RB := Lib.hid (c1.heap RB.out id)
          have NX := Lib.hid (NX.out.trans c1)
          have DD := Lib.hid (DD.out.kept c1 (fun _ _ e => e))
          have OB := Lib.hid (show w5.heap[w2.heap.size]? = some (.cells #[.int .i64 0, .int .i64 0, .slice none 0 0] 25 (0, 0)) from by rw [hw3]; exact heap_alloc_eq _ rfl)
          have NEw5 : w2.heap.size < w5.heap.size := by rw [hw3, alloc_size]; omega
          clear c1 hw3
          refine wpAnyH_ready (rs := [7]) (by kernel_rfl) (by simp) ?_
          refine AllReadyH.cons rfl (fun K hK => ?_) AllReadyH.nil
          go_simp
          go_at_call 15
          refine riPut_ok (b := b) (HB.out.kept NX.out nof) (by unfold wfI; omega) (by unfold wfI; omega) (by have := NX.out.size; omega) HE.out (by unfold shiftOk; omega) ?_
          intro w6 A cap im c1
          have SZw6 := Nat.lt_of_lt_of_le SZw5 c1.size
          have SB := Lib.hid (c1.heap SB.out id)
          have RB := Lib.hid (c1.heap RB.out id)
          have NX := Lib.hid (NX.out.trans c1)
          have DD := Lib.hid (DD.out.kept c1 (fun _ _ e => e))
          have OB := Lib.hid (c1.heap OB.out id)
          have OKX := putL_ok (b := b) (dx := n1 - 2) (dy := n2 - 2) HE.out
          have LN := putL_len b (n1 - 2) (n2 - 2)
          have FR := frame_ge HE.out
          rw [HW.out, HH.out] at OKX
          generalize putL b (n1 - 2) (n2 - 2) = px at im OKX LN
          rw [← LN] at im FR ⊢
          clear LN
          have OKX := Lib.hid OKX
          have IM := Lib.hid im
          refine hK.out _ _ ⟨by rw [cell_of SB.out]; rfl, by rw [cell_of SB.out]; rfl, by rw [cell_of SB.out]; rfl⟩ (fun hHeld => ?_)
          clear hK K im c1
          rw [HW.out, HH.out]
          try simp only [Act.put, List.getElem_toArray, List.getElem_cons_succ, List.getElem_cons_zero, List.setIfInBounds_toArray, List.set_cons_zero, List.set_cons_succ]
          first | (refine wpAnyH_take (i := 8) (v := ?_) rfl (by kernel_rfl) (by kernel_rfl) (by kernel_rfl) (fun _ _ _ h => h) (Or.inl ⟨by rfl, ?hy⟩) (by assumption) ?_; case hy => (intro w hSw; (try dsimp only at hSw); go_simp; (try with_reducible rfl))) | (refine wpAnyH_take (i := 8) (v := _) rfl (by kernel_rfl) (by kernel_rfl) (by kernel_rfl) (fun _ _ _ h => h) (Or.inr ⟨by rfl, rfl⟩) (by assumption) ?_)
          try simp only [Act.put, List.getElem_toArray, List.getElem_cons_succ, List.getElem_cons_zero, List.setIfInBounds_toArray, List.set_cons_zero, List.set_cons_succ]
          first | (refine wpAnyH_take (i := 9) (v := ?_) rfl (by kernel_rfl) (by kernel_rfl) (by kernel_rfl) (fun _ _ _ h => h) (Or.inl ⟨by rfl, ?hy⟩) (by assumption) ?_; case hy => (intro w hSw; (try dsimp only at hSw); go_simp; (try with_reducible rfl))) | (refine wpAnyH_take (i := 9) (v := _) rfl (by kernel_rfl) (by kernel_rfl) (by kernel_rfl) (fun _ _ _ h => h) (Or.inr ⟨by rfl, rfl⟩) (by assumption) ?_)
          try simp only [Act.put, List.getElem_toArray, List.getElem_cons_succ, List.getElem_cons_zero, List.setIfInBounds_toArray, List.set_cons_zero, List.set_cons_succ]
          first | (refine wpAnyH_take (i := 10) (v := ?_) rfl (by kernel_rfl) (by kernel_rfl) (by kernel_rfl) (fun _ _ _ h => h) (Or.inl ⟨by rfl, ?hy⟩) (by assumption) ?_; case hy => (intro w hSw; (try dsimp only at hSw); go_simp; (try with_reducible rfl))) | (refine wpAnyH_take (i := 10) (v := _) rfl (by kernel_rfl) (by kernel_rfl) (by kernel_rfl) (fun _ _ _ h => h) (Or.inr ⟨by rfl, rfl⟩) (by assumption) ?_)
          try simp only [Act.put, List.getElem_toArray, List.getElem_cons_succ, List.getElem_cons_zero, List.setIfInBounds_toArray, List.set_cons_zero, List.set_cons_succ]
          refine wpAnyH_ready (rs := [12]) (by kernel_rfl) (by simp) ?_
          refine AllReadyH.cons rfl (fun K hK => ?_) AllReadyH.nil
          have o0 : w6.cell? ⟨w2.heap.size, 0, none⟩ = some (.int .i64 0) := by rw [cell_of OB.out]; rfl
          have o1 : w6.cell? ⟨w2.heap.size, 1, none⟩ = some (.int .i64 0) := by rw [cell_of OB.out]; rfl
          have o2 : w6.cell? ⟨w2.heap.size, 2, none⟩ = some (.slice none 0 0) := by rw [cell_of OB.out]; rfl
          have f0 : w6.frozen? ⟨w2.heap.size, 0, none⟩ = false := frozen_of OB.out
          have f1 : w6.frozen? ⟨w2.heap.size, 1, none⟩ = false := frozen_of OB.out
          have f2 : w6.frozen? ⟨w2.heap.size, 2, none⟩ = false := frozen_of OB.out
          go_simp
          refine hK.out _ _ ⟨cell_store3 _ _ _ (by rw [cell_of SB.out]; rfl) (by show w.heap.size ≠ _; omega), cell_store3 _ _ _ (by rw [cell_of SB.out]; rfl) (by show w.heap.size ≠ _; omega), cell_store3 _ _ _ (by rw [cell_of SB.out]; rfl) (by show w.heap.size ≠ _; omega)⟩ (fun hHeld => ?_)
          clear hK K
          try simp only [Act.put, List.getElem_toArray, List.getElem_cons_succ, List.getElem_cons_zero, List.setIfInBounds_toArray, List.set_cons_zero, List.set_cons_succ]
          first | (refine wpAnyH_take (i := 13) (v := ?_) rfl (by kernel_rfl) (by kernel_rfl) (by kernel_rfl) (fun _ _ _ h => h) (Or.inl ⟨by rfl, ?hy⟩) (by assumption) ?_; case hy => (intro w hSw; (try dsimp only at hSw); go_simp; (try with_reducible rfl))) | (refine wpAnyH_take (i := 13) (v := _) rfl (by kernel_rfl) (by kernel_rfl) (by kernel_rfl) (fun _ _ _ h => h) (Or.inr ⟨by rfl, rfl⟩) (by assumption) ?_)
          try simp only [Act.put, List.getElem_toArray, List.getElem_cons_succ, List.getElem_cons_zero, List.setIfInBounds_toArray, List.set_cons_zero, List.set_cons_succ]
          refine wpAnyH_done (by kernel_rfl) ?_ _
          go_wp2_with fail
          go_meet
          have cc := ((((Ch.refl (· = w2.heap.size) w6).setb (b := w2.heap.size) (o := 0) (fun _ => rfl) (.int .i64 (bw + 4))).setb (b := w2.heap.size) (o := 1) (fun _ => rfl) (.int .i64 (bh + 4))).setb (b := w2.heap.size) (o := 2) (fun _ => rfl) (.slice A px.length cap))
          exact ⟨rfl, _, (bw + 4, bh + 4, px), A, cap, _, rfl, by omega, rfl, rfl, OKX.out, Lib.hid (heap_setCell_eq _ (heap_setCell_eq _ (heap_setCell_eq _ OB.out))), Lib.hid ((isInts_far IM.out OB.out (by show 3 < _; omega) cc).hi cc.size), Lib.hid (DD.out.kept cc (fun j hj e => by have e' : j = w2.heap.size := e; omega)), Lib.hid (cc.heap RB.out (by show w.heap.size + 1 ≠ _; omega)), Lib.hid (NX.out.trans' cc (fun j hj e => by have e' : j = w2.heap.size := e; omega))⟩
      · go_simp
        refine hK.out _ _ ⟨cell_alloc_old _ (by rw [cell_of SB.out]; rfl), cell_alloc_old _ (by rw [cell_of SB.out]; rfl), cell_alloc_old _ (by rw [cell_of SB.out]; rfl)⟩ (fun hHeld => ?_)
        clear hK K
        try simp only [Act.put, List.getElem_toArray, List.getElem_cons_succ, List.getElem_cons_zero, List.setIfInBounds_toArray, List.set_cons_zero, List.set_cons_succ]
        refine wpAnyH_named ?_
        intro w7 hw3
        rw [← hw3] at hHeld
        have c1 := (show Nw w1 w7 from by rw [hw3]; exact (Ch.refl _ _).alloc _)
        have SZw7 := Nat.lt_of_lt_of_le SZw1 c1.size
        have SB := Lib.hid (c1.heap SB.out id)
        have RB := Lib.hid (c1.heap RB.out id)
        have NX := Lib.hid (NX.out.trans c1)
        have DD := Lib.hid (DD.out.kept c1 (fun _ _ e => e))
        have OB := Lib.hid (show w7.heap[w1.heap.size]? = some (.cells #[.int .i64 0, .int .i64 0, .slice none 0 0] 25 (0, 0)) from by rw [hw3]; exact heap_alloc_eq _ rfl)
        have NEw7 : w1.heap.size < w7.heap.size := by rw [hw3, alloc_size]; omega
        clear c1 hw3
        refine wpAnyH_ready (rs := [5]) (by kernel_rfl) (by simp) ?_
        refine AllReadyH.cons rfl (fun K hK => ?_) AllReadyH.nil
        go_simp
        go_at_call 36
        refine Next_any lo (w.heap.size + 2) _ l (nk l 0) 5 _ _ DD.out (by omega) (by omega) ?_
        intro w8 d1 c1
        have DD := Lib.hid d1
        have SZw8 := Nat.lt_of_lt_of_le SZw7 c1.size
        have SB := Lib.hid (c1.heap SB.out (by show w.heap.size ≠ _; omega))
        have RB := Lib.hid (c1.heap RB.out (by show w.heap.size + 1 ≠ _; omega))
        have NX := Lib.hid (NX.out.trans' c1 (fun j hj e => by have e' : j = w.heap.size + 2 := e; omega))
        have OB := Lib.hid (c1.heap OB.out (by show w1.heap.size ≠ _; omega))
        obtain ⟨ln2, un2⟩ := nx_in l (nk l 0) 5 (by omega)
        generalize nx l (nk l 0) 5 = n2 at ln2 un2 ⊢
        have en2 : IntKind.i64.wrap (n2 - 2) = n2 - 2 := by rw [IntKind.wrap_i64]; omega
        refine hK.out _ _ ⟨by rw [cell_of SB.out]; rfl, by rw [cell_of SB.out]; rfl, by rw [cell_of SB.out]; rfl⟩ (fun hHeld => ?_)
        clear hK K d1 c1
        try simp only [Act.put, List.getElem_toArray, List.getElem_cons_succ, List.getElem_cons_zero, List.setIfInBounds_toArray, List.set_cons_zero, List.set_cons_succ]
        first | (refine wpAnyH_take (i := 6) (v := ?_) rfl (by kernel_rfl) (by kernel_rfl) (by kernel_rfl) (fun _ _ _ h => h) (Or.inl ⟨by rfl, ?hy⟩) (by assumption) ?_; case hy => (intro w hSw; (try dsimp only at hSw); go_simp; (try with_reducible rfl))) | (refine wpAnyH_take (i := 6) (v := _) rfl (by kernel_rfl) (by kernel_rfl) (by kernel_rfl) (fun _ _ _ h => h) (Or.inr ⟨by rfl, rfl⟩) (by assumption) ?_)
        try simp only [Act.put, List.getElem_toArray, List.getElem_cons_succ, List.getElem_cons_zero, List.setIfInBounds_toArray, List.set_cons_zero, List.set_cons_succ]
        refine wpAnyH_ready (rs := [7]) (by kernel_rfl) (by simp) ?_
        refine AllReadyH.cons rfl (fun K hK => ?_) AllReadyH.nil
        go_simp
        go_at_call 15
        refine riPut_ok (b := b) (HB.out.kept NX.out nof) (by unfold wfI; omega) (by unfold wfI; omega) (by have := NX.out.size; omega) HE.out (by unfold shiftOk; omega) ?_
        intro w9 A cap im c1
        have SZw9 := Nat.lt_of_lt_of_le SZw8 c1.size
        have SB := Lib.hid (c1.heap SB.out id)
        have RB := Lib.hid (c1.heap RB.out id)
        have NX := Lib.hid (NX.out.trans c1)
        have DD := Lib.hid (DD.out.kept c1 (fun _ _ e => e))
        have OB := Lib.hid (c1.heap OB.out id)
        have OKX := putL_ok (b := b) (dx := n1 - 2) (dy := n2 - 2) HE.out
        have LN := putL_len b (n1 - 2) (n2 - 2)
        have FR := frame_ge HE.out
        rw [HW.out, HH.out] at OKX
        generalize putL b (n1 - 2) (n2 - 2) = px at im OKX LN
        rw [← LN] at im FR ⊢
        clear LN
        have OKX := Lib.hid OKX
        have IM := Lib.hid im
        refine hK.out _ _ ⟨by rw [cell_of SB.out]; rfl, by rw [cell_of SB.out]; rfl, by rw [cell_of SB.out]; rfl⟩ (fun hHeld => ?_)
        clear hK K im c1
        rw [HW.out, HH.out]
        try simp only [Act.put, List.getElem_toArray, List.getElem_cons_succ, List.getElem_cons_zero, List.setIfInBounds_toArray, List.set_cons_zero, List.set_cons_succ]
        first | (refine wpAnyH_take (i := 8) (v := ?_) rfl (by kernel_rfl) (by kernel_rfl) (by kernel_rfl) (fun _ _ _ h => h) (Or.inl ⟨by rfl, ?hy⟩) (by assumption) ?_; case hy => (intro w hSw; (try dsimp only at hSw); go_simp; (try with_reducible rfl))) | (refine wpAnyH_take (i := 8) (v := _) rfl (by kernel_rfl) (by kernel_rfl) (by kernel_rfl) (fun _ _ _ h => h) (Or.inr ⟨by rfl, rfl⟩) (by assumption) ?_)
        try simp only [Act.put, List.getElem_toArray, List.getElem_cons_succ, List.getElem_cons_zero, List.setIfInBounds_toArray, List.set_cons_zero, List.set_cons_succ]
        first | (refine wpAnyH_take (i := 9) (v := ?_) rfl (by kernel_rfl) (by kernel_rfl) (by kernel_rfl) (fun _ _ _ h => h) (Or.inl ⟨by rfl, ?hy⟩) (by assumption) ?_; case hy => (intro w hSw; (try dsimp only at hSw); go_simp; (try with_reducible rfl))) | (refine wpAnyH_take (i := 9) (v := _) rfl (by kernel_rfl) (by kernel_rfl) (by kernel_rfl) (fun _ _ _ h => h) (Or.inr ⟨by rfl, rfl⟩) (by assumption) ?_)
        try simp only [Act.put, List.getElem_toArray, List.getElem_cons_succ, List.getElem_cons_zero, List.setIfInBounds_toArray, List.set_cons_zero, List.set_cons_succ]
        first | (refine wpAnyH_take (i := 10) (v := ?_) rfl (by kernel_rfl) (by kernel_rfl) (by kernel_rfl) (fun _ _ _ h => h) (Or.inl ⟨by rfl, ?hy⟩) (by assumption) ?_; case hy => (intro w hSw; (try dsimp only at hSw); go_simp; (try with_reducible rfl))) | (refine wpAnyH_take (i := 10) (v := _) rfl (by kernel_rfl) (by kernel_rfl) (by kernel_rfl) (fun _ _ _ h => h) (Or.inr ⟨by rfl, rfl⟩) (by assumption) ?_)
        try simp only [Act.put, List.getElem_toArray, List.getElem_cons_succ, List.getElem_cons_zero, List.setIfInBounds_toArray, List.set_cons_zero, List.set_cons_succ]
        refine wpAnyH_ready (rs := [12]) (by kernel_rfl) (by simp) ?_
        refine AllReadyH.cons rfl (fun K hK => ?_) AllReadyH.nil
        have o0 : w9.cell? ⟨w1.heap.size, 0, none⟩ = some (.int .i64 0) := by rw [cell_of OB.out]; rfl
        have o1 : w9.cell? ⟨w1.heap.size, 1, none⟩ = some (.int .i64 0) := by rw [cell_of OB.out]; rfl
        have o2 : w9.cell? ⟨w1.heap.size, 2, none⟩ = some (.slice none 0 0) := by rw [cell_of OB.out]; rfl
        have f0 : w9.frozen? ⟨w1.heap.size, 0, none⟩ = false := frozen_of OB.out
        have f1 : w9.frozen? ⟨w1.heap.size, 1, none⟩ = false := frozen_of OB.out
        have f2 : w9.frozen? ⟨w1.heap.size, 2, none⟩ = false := frozen_of OB.out
        go_simp
        refine hK.out _ _ ⟨cell_store3 _ _ _ (by rw [cell_of SB.out]; rfl) (by show w.heap.size ≠ _; omega), cell_store3 _ _ _ (by rw [cell_of SB.out]; rfl) (by show w.heap.size ≠ _; omega), cell_store3 _ _ _ (by rw [cell_of SB.out]; rfl) (by show w.heap.size ≠ _; omega)⟩ (fun hHeld => ?_)
        clear hK K
        try simp only [Act.put, List.getElem_toArray, List.getElem_cons_succ, List.getElem_cons_zero, List.setIfInBounds_toArray, List.set_cons_zero, List.set_cons_succ]
        first | (refine wpAnyH_take (i := 13) (v := ?_) rfl (by kernel_rfl) (by kernel_rfl) (by kernel_rfl) (fun _ _ _ h => h) (Or.inl ⟨by rfl, ?hy⟩) (by assumption) ?_; case hy => (intro w hSw; (try dsimp only at hSw); go_simp; (try with_reducible rfl))) | (refine wpAnyH_take (i := 13) (v := _) rfl (by kernel_rfl) (by kernel_rfl) (by kernel_rfl) (fun _ _ _ h => h) (Or.inr ⟨by rfl, rfl⟩) (by assumption) ?_)
        try simp only [Act.put, List.getElem_toArray, List.getElem_cons_succ, List.getElem_cons_zero, List.setIfInBounds_toArray, List.set_cons_zero, List.set_cons_succ]
        refine wpAnyH_done (by kernel_rfl) ?_ _
        go_wp2_with fail
        go_meet
        have cc := ((((Ch.refl (· = w1.heap.size) w9).setb (b := w1.heap.size) (o := 0) (fun _ => rfl) (.int .i64 (bw + 4))).setb (b := w1.heap.size) (o := 1) (fun _ => rfl) (.int .i64 (bh + 4))).setb (b := w1.heap.size) (o := 2) (fun _ => rfl) (.slice A px.length cap))
        exact ⟨rfl, _, (bw + 4, bh + 4, px), A, cap, _, rfl, by omega, rfl, rfl, OKX.out, Lib.hid (heap_setCell_eq _ (heap_setCell_eq _ (heap_setCell_eq _ OB.out))), Lib.hid ((isInts_far IM.out OB.out (by show 3 < _; omega) cc).hi cc.size), Lib.hid (DD.out.kept cc (fun j hj e => by have e' : j = w1.heap.size := e; omega)), Lib.hid (cc.heap RB.out (by show w.heap.size + 1 ≠ _; omega)), Lib.hid (NX.out.trans' cc (fun j hj e => by have e' : j = w1.heap.size := e; omega))⟩
    · go_simp
      refine hK.out _ _ ⟨cell_alloc_old _ (by rw [cell_of SB.out]; rfl), cell_alloc_old _ (by rw [cell_of SB.out]; rfl), cell_alloc_old _ (by rw [cell_of SB.out]; rfl)⟩ (fun hHeld => ?_)
      clear hK K
      try simp only [Act.put, List.getElem_toArray, List.getElem_cons_succ, List.getElem_cons_zero, List.setIfInBounds_toArray, List.set_cons_zero, List.set_cons_succ]
      refine wpAnyH_named ?_
      intro w10 hw3
      rw [← hw3] at hHeld
      have c1 := (show Nw w0 w10 from by rw [hw3]; exact (Ch.refl _ _).alloc _)
      have SZw10 := Nat.lt_of_lt_of_le SZw0 c1.size
      have SB := Lib.hid (c1.heap SB.out id)
      have RB := Lib.hid (c1.heap RB.out id)
      have NX := Lib.hid (NX.out.trans c1)
      have DD := Lib.hid (DD.out.kept c1 (fun _ _ e => e))
      have OB := Lib.hid (show w10.heap[w0.heap.size]? = some (.cells #[.int .i64 0, .int .i64 0, .slice none 0 0] 25 (0, 0)) from by rw [hw3]; exact heap_alloc_eq _ rfl)
      have NEw10 : w0.heap.size < w10.heap.size := by rw [hw3, alloc_size]; omega
      clear c1 hw3
      refine wpAnyH_ready (rs := [2]) (by kernel_rfl) (by simp) ?_
      refine AllReadyH.cons rfl (fun K hK => ?_) AllReadyH.nil
      go_simp
      go_at_call 36
      refine Next_any lo (w.heap.size + 2) _ l (0) 5 _ _ DD.out (by omega) (by omega) ?_
      intro w11 d1 c1
      have DD := Lib.hid d1
      have SZw11 := Nat.lt_of_lt_of_le SZw10 c1.size
      have SB := Lib.hid (c1.heap SB.out (by show w.heap.size ≠ _; omega))
      have RB := Lib.hid (c1.heap RB.out (by show w.heap.size + 1 ≠ _; omega))
      have NX := Lib.hid (NX.out.trans' c1 (fun j hj e => by have e' : j = w.heap.size + 2 := e; omega))
      have OB := Lib.hid (c1.heap OB.out (by show w0.heap.size ≠ _; omega))
      obtain ⟨ln1, un1⟩ := nx_in l (0) 5 (by omega)
      generalize nx l (0) 5 = n1 at ln1 un1 ⊢
      have en1 : IntKind.i64.wrap (n1 - 2) = n1 - 2 := by rw [IntKind.wrap_i64]; omega
      refine hK.out _ _ ⟨by rw [cell_of SB.out]; rfl, by rw [cell_of SB.out]; rfl, by rw [cell_of SB.out]; rfl⟩ (fun hHeld => ?_)
      clear hK K d1 c1
      try simp only [Act.put, List.getElem_toArray, List.getElem_cons_succ, List.getElem_cons_zero, List.setIfInBounds_toArray, List.set_cons_zero, List.set_cons_succ]
      first | (refine wpAnyH_take (i := 3) (v := ?_) rfl (by kernel_rfl) (by kernel_rfl) (by kernel_rfl) (fun _ _ _ h => h) (Or.inl ⟨by rfl, ?hy⟩) (by assumption) ?_; case hy => (intro w hSw; (try dsimp only at hSw); go_simp; (try with_reducible rfl))) | (refine wpAnyH_take (i := 3) (v := _) rfl (by kernel_rfl) (by kernel_rfl) (by kernel_rfl) (fun _ _ _ h => h) (Or.inr ⟨by rfl, rfl⟩) (by assumption) ?_)
      try simp only [Act.put, List.getElem_toArray, List.getElem_cons_succ, List.getElem_cons_zero, List.setIfInBounds_toArray, List.set_cons_zero, List.set_cons_succ]
      refine wpAnyH_ready (rs := [5]) (by kernel_rfl) (by simp) ?_
      refine AllReadyH.cons rfl (fun K hK => ?_) AllReadyH.nil
      go_simp
      go_at_call 36
      refine Next_any lo (w.heap.size + 2) _ l (nk l 0) 5 _ _ DD.out (by omega) (by omega) ?_
      intro w12 d1 c1
      have DD := Lib.hid d1
      have SZw12 := Nat.lt_of_lt_of_le SZw11 c1.size
      have SB := Lib.hid (c1.heap SB.out (by show w.heap.size ≠ _; omega))
      have RB := Lib.hid (c1.heap RB.out (by show w.heap.size + 1 ≠ _; omega))
      have NX := Lib.hid (NX.out.trans' c1 (fun j hj e => by have e' : j = w.heap.size + 2 := e; omega))
      have OB := Lib.hid (c1.heap OB.out (by show w0.heap.size ≠ _; omega))
      obtain ⟨ln2, un2⟩ := nx_in l (nk l 0) 5 (by omega)
      generalize nx l (nk l 0) 5 = n2 at ln2 un2 ⊢
      have en2 : IntKind.i64.wrap (n2 - 2) = n2 - 2 := by rw [IntKind.wrap_i64]; omega
      refine hK.out _ _ ⟨by rw [cell_of SB.out]; rfl, by rw [cell_of SB.out]; rfl, by rw [cell_of SB.out]; rfl⟩ (fun hHeld => ?_)
      clear hK K d1 c1
      try simp only [Act.put, List.getElem_toArray, List.getElem_cons_succ, List.getElem_cons_zero, List.setIfInBounds_toArray, List.set_cons_zero, List.set_cons_succ]
      first | (refine wpAnyH_take (i := 6) (v := ?_) rfl (by kernel_rfl) (by kernel_rfl) (by kernel_rfl) (fun _ _ _ h => h) (Or.inl ⟨by rfl, ?hy⟩) (by assumption) ?_; case hy => (intro w hSw; (try dsimp only at hSw); go_simp; (try with_reducible rfl))) | (refine wpAnyH_take (i := 6) (v := _) rfl (by kernel_rfl) (by kernel_rfl) (by kernel_rfl) (fun _ _ _ h => h) (Or.inr ⟨by rfl, rfl⟩) (by assumption) ?_)
      try simp only [Act.put, List.getElem_toArray, List.getElem_cons_succ, List.getElem_cons_zero, List.setIfInBounds_toArray, List.set_cons_zero, List.set_cons_succ]
      refine wpAnyH_ready (rs := [7]) (by kernel_rfl) (by simp) ?_
      refine AllReadyH.cons rfl (fun K hK => ?_) AllReadyH.nil
      go_simp
      go_at_call 15
      refine riPut_ok (b := b) (HB.out.kept NX.out nof) (by unfold wfI; omega) (by unfold wfI; omega) (by have := NX.out.size; omega) HE.out (by unfold shiftOk; omega) ?_
      intro w13 A cap im c1
      have SZw13 := Nat.lt_of_lt_of_le SZw12 c1.size
      have SB := Lib.hid (c1.heap SB.out id)
      have RB := Lib.hid (c1.heap RB.out id)
      have NX := Lib.hid (NX.out.trans c1)
      have DD := Lib.hid (DD.out.kept c1 (fun _ _ e => e))
      have OB := Lib.hid (c1.heap OB.out id)
      have OKX := putL_ok (b := b) (dx := n1 - 2) (dy := n2 - 2) HE.out
      have LN := putL_len b (n1 - 2) (n2 - 2)
      have FR := frame_ge HE.out
      rw [HW.out, HH.out] at OKX
      generalize putL b (n1 - 2) (n2 - 2) = px at im OKX LN
      rw [← LN] at im FR ⊢
      clear LN
      have OKX := Lib.hid OKX
      have IM := Lib.hid im
      refine hK.out _ _ ⟨by rw [cell_of SB.out]; rfl, by rw [cell_of SB.out]; rfl, by rw [cell_of SB.out]; rfl⟩ (fun hHeld => ?_)
      clear hK K im c1
      rw [HW.out, HH.out]
      try simp only [Act.put, List.getElem_toArray, List.getElem_cons_succ, List.getElem_cons_zero, List.setIfInBounds_toArray, List.set_cons_zero, List.set_cons_succ]
      first | (refine wpAnyH_take (i := 8) (v := ?_) rfl (by kernel_rfl) (by kernel_rfl) (by kernel_rfl) (fun _ _ _ h => h) (Or.inl ⟨by rfl, ?hy⟩) (by assumption) ?_; case hy => (intro w hSw; (try dsimp only at hSw); go_simp; (try with_reducible rfl))) | (refine wpAnyH_take (i := 8) (v := _) rfl (by kernel_rfl) (by kernel_rfl) (by kernel_rfl) (fun _ _ _ h => h) (Or.inr ⟨by rfl, rfl⟩) (by assumption) ?_)
      try simp only [Act.put, List.getElem_toArray, List.getElem_cons_succ, List.getElem_cons_zero, List.setIfInBounds_toArray, List.set_cons_zero, List.set_cons_succ]
      first | (refine wpAnyH_take (i := 9) (v := ?_) rfl (by kernel_rfl) (by kernel_rfl) (by kernel_rfl) (fun _ _ _ h => h) (Or.inl ⟨by rfl, ?hy⟩) (by assumption) ?_; case hy => (intro w hSw; (try dsimp only at hSw); go_simp; (try with_reducible rfl))) | (refine wpAnyH_take (i := 9) (v := _) rfl (by kernel_rfl) (by kernel_rfl) (by kernel_rfl) (fun _ _ _ h => h) (Or.inr ⟨by rfl, rfl⟩) (by assumption) ?_)
      try simp only [Act.put, List.getElem_toArray, List.getElem_cons_succ, List.getElem_cons_zero, List.setIfInBounds_toArray, List.set_cons_zero, List.set_cons_succ]
      first | (refine wpAnyH_take (i := 10) (v := ?_) rfl (by kernel_rfl) (by kernel_rfl) (by kernel_rfl) (fun _ _ _ h => h) (Or.inl ⟨by rfl, ?hy⟩) (by assumption) ?_; case hy => (intro w hSw; (try dsimp only at hSw); go_simp; (try with_reducible rfl))) | (refine wpAnyH_take (i := 10) (v := _) rfl (by kernel_rfl) (by kernel_rfl) (by kernel_rfl) (fun _ _ _ h => h) (Or.inr ⟨by rfl, rfl⟩) (by assumption) ?_)
      try simp only [Act.put, List.getElem_toArray, List.getElem_cons_succ, List.getElem_cons_zero, List.setIfInBounds_toArray, List.set_cons_zero, List.set_cons_succ]
      refine wpAnyH_ready (rs := [12]) (by kernel_rfl) (by simp) ?_
      refine AllReadyH.cons rfl (fun K hK => ?_) AllReadyH.nil
      have o0 : w13.cell? ⟨w0.heap.size, 0, none⟩ = some (.int .i64 0) := by rw [cell_of OB.out]; rfl
      have o1 : w13.cell? ⟨w0.heap.size, 1, none⟩ = some (.int .i64 0) := by rw [cell_of OB.out]; rfl
      have o2 : w13.cell? ⟨w0.heap.size, 2, none⟩ = some (.slice none 0 0) := by rw [cell_of OB.out]; rfl
      have f0 : w13.frozen? ⟨w0.heap.size, 0, none⟩ = false := frozen_of OB.out
      have f1 : w13.frozen? ⟨w0.heap.size, 1, none⟩ = false := frozen_of OB.out
      have f2 : w13.frozen? ⟨w0.heap.size, 2, none⟩ = false := frozen_of OB.out
      go_simp
      refine hK.out _ _ ⟨cell_store3 _ _ _ (by rw [cell_of SB.out]; rfl) (by show w.heap.size ≠ _; omega), cell_store3 _ _ _ (by rw [cell_of SB.out]; rfl) (by show w.heap.size ≠ _; omega), cell_store3 _ _ _ (by rw [cell_of SB.out]; rfl) (by show w.heap.size ≠ _; omega)⟩ (fun hHeld => ?_)
      clear hK K
      try simp only [Act.put, List.getElem_toArray, List.getElem_cons_succ, List.getElem_cons_zero, List.setIfInBounds_toArray, List.set_cons_zero, List.set_cons_succ]
      first | (refine wpAnyH_take (i := 13) (v := ?_) rfl (by kernel_rfl) (by kernel_rfl) (by kernel_rfl) (fun _ _ _ h => h) (Or.inl ⟨by rfl, ?hy⟩) (by assumption) ?_; case hy => (intro w hSw; (try dsimp only at hSw); go_simp; (try with_reducible rfl))) | (refine wpAnyH_take (i := 13) (v := _) rfl (by kernel_rfl) (by kernel_rfl) (by kernel_rfl) (fun _ _ _ h => h) (Or.inr ⟨by rfl, rfl⟩) (by assumption) ?_)
      try simp only [Act.put, List.getElem_toArray, List.getElem_cons_succ, List.getElem_cons_zero, List.setIfInBounds_toArray, List.set_cons_zero, List.set_cons_succ]
      refine wpAnyH_done (by kernel_rfl) ?_ _
      go_wp2_with fail
      go_meet
      have cc := ((((Ch.refl (· = w0.heap.size) w13).setb (b := w0.heap.size) (o := 0) (fun _ => rfl) (.int .i64 (bw + 4))).setb (b := w0.heap.size) (o := 1) (fun _ => rfl) (.int .i64 (bh + 4))).setb (b := w0.heap.size) (o := 2) (fun _ => rfl) (.slice A px.length cap))
      exact ⟨rfl, _, (bw + 4, bh + 4, px), A, cap, _, rfl, by omega, rfl, rfl, OKX.out, Lib.hid (heap_setCell_eq _ (heap_setCell_eq _ (heap_setCell_eq _ OB.out))), Lib.hid ((isInts_far IM.out OB.out (by show 3 < _; omega) cc).hi cc.size), Lib.hid (DD.out.kept cc (fun j hj e => by have e' : j = w0.heap.size := e; omega)), Lib.hid (cc.heap RB.out (by show w.heap.size + 1 ≠ _; omega)), Lib.hid (NX.out.trans' cc (fun j hj e => by have e' : j = w0.heap.size := e; omega))⟩
  case rest => as_aux_lemma =>
    obtain ⟨rfl, ob, x, A, cap, kk, rfl, hob, hx1, hx2, hok, OB, IM, DD, RB, NX⟩ := hcut
    obtain ⟨W1, rfl⟩ : ∃ W : World, W = wc := ⟨_, rfl⟩
    obtain ⟨xw, xh, px⟩ := x
    simp only at hx1 hx2 hok OB IM
    subst hx1 hx2
    have HOK := Lib.hid hok
    have LP := imOk_len hok
    have LG := imOk_ge hok e1 e3
    clear hok
    have o0 : W1.cell? ⟨ob, 0, none⟩ = some (.int .i64 (bw + 4)) := by rw [cell_of OB.out]; rfl
    go_wp2_with (go_at_call 36; fail)
    refine Next_any lo (w.heap.size + 2) _ l kk (2 * (bw + 4)) _ _ DD.out (by omega) (by omega) ?_
    intro w1 d1 c1
    obtain ⟨fr0, fr1⟩ := nx_in l kk (2 * (bw + 4)) (by omega)
    generalize nx l kk (2 * (bw + 4)) = fr at fr0 fr1 ⊢
    have IM := Lib.hid ((isInts_far IM.out DD.out.blk (by show 2 < _; omega) c1).hi c1.size)
    have DD := Lib.hid d1
    have OB := Lib.hid (c1.heap OB.out (by show ob ≠ _; omega))
    have RB := Lib.hid (c1.heap RB.out (by show w.heap.size + 1 ≠ _; omega))
    have NX := Lib.hid (NX.out.trans' c1 (fun j hj e => by have e' : j = w.heap.size + 2 := e; omega))
    clear d1 c1 o0
    go_wp2_with fail
    have SZ : ob < w1.heap.size := lt_of_heap OB.out
    have DZ : w.heap.size + 2 < w1.heap.size := lt_of_heap DD.out.blk
    refine wp_named ?_
    intro P hP
    rw [← hP] at OB IM DD RB NX SZ DZ
    clear hP
    refine wp_region_T 7 (F := fun w' => w'.cell? ⟨ob, 0, none⟩ = some (.int .i64 (bw + 4)) ∧ w'.cell? ⟨ob, 1, none⟩ = some (.int .i64 (bh + 4)) ∧ w'.cell? ⟨ob, 2, none⟩ = some (.slice A px.length cap)) (by kernel_rfl) ⟨by show P.cell? _ = _; rw [cell_of OB.out]; rfl, by show P.cell? _ = _; rw [cell_of OB.out]; rfl, by show P.cell? _ = _; rw [cell_of OB.out]; rfl⟩ (fun hHeld => ?_)
    have NX := Lib.hid NX.out.drew
    have DD := Lib.hid (DD.out.kept ((Ch.refl (fun _ => False) P).drew) (fun _ _ e => e))
    have IM := Lib.hid (show IsInts P.drew P.drew.heap.size (.slice A px.length cap) px from IM.out.kept ((Ch.refl (fun _ => False) P).drew) nof)
    have OB := Lib.hid (show P.drew.heap[ob]? = _ from OB.out)
    have RB := Lib.hid (show P.drew.heap[w.heap.size + 1]? = _ from RB.out)
    have SZ : ob < P.drew.heap.size := SZ
    have DZ : w.heap.size + 2 < P.drew.heap.size := DZ
    generalize P.drew = w2 at *
    first | (refine wpT_take (i := 0) (v := ?_) rfl (by kernel_rfl) (by kernel_rfl) (by kernel_rfl) (by kernel_rfl) (fun _ _ _ h => h) (Or.inl ⟨by rfl, ?hy⟩) (by assumption) ?_; case hy => (intro w hSw; (try dsimp only at hSw); go_simp; (try with_reducible rfl))) | (refine wpT_take (i := 0) (v := _) rfl (by kernel_rfl) (by kernel_rfl) (by kernel_rfl) (by kernel_rfl) (fun _ _ _ h => h) (Or.inr ⟨by rfl, rfl⟩) (by assumption) ?_)
    try simp only [Act.put, List.getElem_toArray, List.getElem_cons_succ, List.getElem_cons_zero, List.setIfInBounds_toArray, List.set_cons_zero, List.set_cons_succ]
    first | (refine wpT_take (i := 1) (v := ?_) rfl (by kernel_rfl) (by kernel_rfl) (by kernel_rfl) (by kernel_rfl) (fun _ _ _ h => h) (Or.inl ⟨by rfl, ?hy⟩) (by assumption) ?_; case hy => (intro w hSw; (try dsimp only at hSw); go_simp; (try with_reducible rfl))) | (refine wpT_take (i := 1) (v := _) rfl (by kernel_rfl) (by kernel_rfl) (by kernel_rfl) (by kernel_rfl) (fun _ _ _ h => h) (Or.inr ⟨by rfl, rfl⟩) (by assumption) ?_)
    try simp only [Act.put, List.getElem_toArray, List.getElem_cons_succ, List.getElem_cons_zero, List.setIfInBounds_toArray, List.set_cons_zero, List.set_cons_succ]
    first | (refine wpT_take (i := 2) (v := ?_) rfl (by kernel_rfl) (by kernel_rfl) (by kernel_rfl) (by kernel_rfl) (fun _ _ _ h => h) (Or.inl ⟨by rfl, ?hy⟩) (by assumption) ?_; case hy => (intro w hSw; (try dsimp only at hSw); go_simp; (try with_reducible rfl))) | (refine wpT_take (i := 2) (v := _) rfl (by kernel_rfl) (by kernel_rfl) (by kernel_rfl) (by kernel_rfl) (fun _ _ _ h => h) (Or.inr ⟨by rfl, rfl⟩) (by assumption) ?_)
    try simp only [Act.put, List.getElem_toArray, List.getElem_cons_succ, List.getElem_cons_zero, List.setIfInBounds_toArray, List.set_cons_zero, List.set_cons_succ]
    first | (refine wpT_take (i := 3) (v := ?_) rfl (by kernel_rfl) (by kernel_rfl) (by kernel_rfl) (by kernel_rfl) (fun _ _ _ h => h) (Or.inl ⟨by rfl, ?hy⟩) (by assumption) ?_; case hy => (intro w hSw; (try dsimp only at hSw); go_simp; (try with_reducible rfl))) | (refine wpT_take (i := 3) (v := _) rfl (by kernel_rfl) (by kernel_rfl) (by kernel_rfl) (by kernel_rfl) (fun _ _ _ h => h) (Or.inr ⟨by rfl, rfl⟩) (by assumption) ?_)
    try simp only [Act.put, List.getElem_toArray, List.getElem_cons_succ, List.getElem_cons_zero, List.setIfInBounds_toArray, List.set_cons_zero, List.set_cons_succ]
    refine wpT_ready (rs := [4]) (by kernel_rfl) (by simp) ?_
    refine ReadyT.cons rfl (fun K hK => ?_) ReadyT.nil
    go_simp
    go_at_call 36
    refine Next_any lo (w.heap.size + 2) _ l (nk l kk) 4 _ _ DD.out (by omega) (by omega) ?_
    intro w3 d1 c1
    obtain ⟨t0, t3⟩ := nx_in l (nk l kk) 4 (by omega)
    generalize nx l (nk l kk) 4 = tl at t0 t3 ⊢
    have et : IntKind.i64.wrap (fr + tl) = fr + tl := by rw [IntKind.wrap_i64]; omega
    have IM := Lib.hid ((isInts_far IM.out DD.out.blk (by show 2 < _; omega) c1).hi c1.size)
    have DD := Lib.hid d1
    have OB := Lib.hid (c1.heap OB.out (by show ob ≠ _; omega))
    have RB := Lib.hid (c1.heap RB.out (by show w.heap.size + 1 ≠ _; omega))
    have NX := Lib.hid (NX.out.trans' c1 (fun j hj e => by have e' : j = w.heap.size + 2 := e; omega))
    have SZ := Nat.lt_of_lt_of_le SZ c1.size
    have DZ := Nat.lt_of_lt_of_le DZ c1.size
    refine hK.out _ _ ⟨by rw [cell_of OB.out]; rfl, by rw [cell_of OB.out]; rfl, by rw [cell_of OB.out]; rfl⟩ (fun hHeld => ?_)
    clear hK K d1 c1
    try simp only [Act.put, List.getElem_toArray, List.getElem_cons_succ, List.getElem_cons_zero, List.setIfInBounds_toArray, List.set_cons_zero, List.set_cons_succ]
    first | (refine wpT_take (i := 5) (v := ?_) rfl (by kernel_rfl) (by kernel_rfl) (by kernel_rfl) (by kernel_rfl) (fun _ _ _ h => h) (Or.inl ⟨by rfl, ?hy⟩) (by assumption) ?_; case hy => (intro w hSw; (try dsimp only at hSw); go_simp; (try with_reducible rfl))) | (refine wpT_take (i := 5) (v := _) rfl (by kernel_rfl) (by kernel_rfl) (by kernel_rfl) (by kernel_rfl) (fun _ _ _ h => h) (Or.inr ⟨by rfl, rfl⟩) (by assumption) ?_)
    try simp only [Act.put, List.getElem_toArray, List.getElem_cons_succ, List.getElem_cons_zero, List.setIfInBounds_toArray, List.set_cons_zero, List.set_cons_succ]
    refine wpT_ready (rs := [6]) (by kernel_rfl) (by simp) ?_
    refine ReadyT.cons rfl (fun K hK => ?_) ReadyT.nil
    go_simp
    go_at_call 21
    refine riHide_row w3.heap.size _ (bw + 4, bh + 4, px) fr (fr + tl) _ _ ⟨_, rfl, IM.out, by unfold wfI; simp only; omega, by unfold wfI; simp only; omega⟩ (Nat.le_refl _) (by unfold wfI; omega) (by unfold wfI; omega) ?_
    intro w4 v4 _ c1 hrow
    obtain ⟨s4, rfl, HRW⟩ := hrow HOK.out
    obtain ⟨g, c4, rfl, hg, hgc, hgm⟩ := HRW.sm (by simp only; omega)
    have OK4 := hideL_ok (f := fr) (t := fr + tl) HOK.out
    have L4 := hideL_len (bw + 4) fr (fr + tl) px
    simp only at HRW OK4
    generalize hideL (bw + 4) fr (fr + tl) px = px4 at HRW OK4 L4
    have HOK := Lib.hid OK4
    have HRW := Lib.hid HRW
    have DD := Lib.hid (DD.out.kept c1 (fun _ _ e => e))
    have OB := Lib.hid (c1.heap OB.out id)
    have RB := Lib.hid (c1.heap RB.out id)
    have NX := Lib.hid (NX.out.trans c1)
    have SZ4 := Nat.lt_of_lt_of_le SZ c1.size
    refine hK.out _ _ ⟨by rw [cell_of OB.out]; rfl, by rw [cell_of OB.out]; rfl, by rw [cell_of OB.out]; rfl⟩ (fun hHeld => ?_)
    clear hK K OK4 c1 hrow
    have o0 : w4.cell? ⟨ob, 0, none⟩ = some (.int .i64 (bw + 4)) := by rw [cell_of OB.out]; rfl
    have o1 : w4.cell? ⟨ob, 1, none⟩ = some (.int .i64 (bh + 4)) := by rw [cell_of OB.out]; rfl
    have o2 : w4.cell? ⟨ob, 2, none⟩ = some (.slice A px.length cap) := by rw [cell_of OB.out]; rfl
    have f0 : w4.frozen? ⟨ob, 0, none⟩ = false := frozen_of OB.out
    have f1 : w4.frozen? ⟨ob, 1, none⟩ = false := frozen_of OB.out
    have f2 : w4.frozen? ⟨ob, 2, none⟩ = false := frozen_of OB.out
    try simp only [Act.put, List.getElem_toArray, List.getElem_cons_succ, List.getElem_cons_zero, List.setIfInBounds_toArray, List.set_cons_zero, List.set_cons_succ]
    refine wpT_ready (rs := [7]) (by kernel_rfl) (by simp) ?_
    refine ReadyT.last rfl (by kernel_rfl) (fun K hK => ?_) ReadyT.nil
    go_simp
    refine hK.out _ _ ?_
    clear hK K
    try simp only [Act.put, List.getElem_toArray, List.getElem_cons_succ, List.getElem_cons_zero, List.setIfInBounds_toArray, List.set_cons_zero, List.set_cons_succ]
    refine wpT_done (by kernel_rfl) ?_ _
    refine post_named ?_
    intro W5 hW5
    have OB := Lib.hid (show W5.heap[ob]? = some (.cells #[.int .i64 (bw + 4), .int .i64 (bh + 4), .slice (some ⟨g, 0, none⟩) px.length c4] 25 (0, 0)) from by rw [hW5]; exact heap_setCell_eq _ (heap_setCell_eq _ (heap_setCell_eq _ OB.out)))
    have cc : Ch (· = ob) w4 W5 := by rw [hW5]; exact ((((Ch.refl (· = ob) w4).setb (fun _ => rfl) _).setb (fun _ => rfl) _).setb (fun _ => rfl) _)
    clear hW5 o0 o1 o2 f0 f1 f2
    repeat clear hHeld
    have RB := Lib.hid (cc.heap RB.out (by show w.heap.size + 1 ≠ _; omega))
    have DD := Lib.hid (DD.out.kept cc (fun j hj e => by have e' : j = ob := e; omega))
    have NX := Lib.hid (NX.out.trans' cc (fun j hj e => by have e' : j = ob := e; omega))
    have HRW := Lib.hid (HRW.out.ch' cc (fun j hj e => by have e' : j = ob := e; injection hj with hj; have hj : g = j := hj; omega))
    clear cc IM
    have n0 : (0 : Int) < (px.length : Int) := by omega
    go_wp2_with fail
    go_loopw [9, 10] (fun s9 _ wr => ∃ (k kr : Nat) (pz : List Int), s9 = .int .i64 k ∧ k ≤ 12 ∧ Hid (imOk (bw + 4, bh + 4, pz)) ∧ Hid (pz.length = px.length) ∧ Hid (DS wr lo (w.heap.size + 2) (.slice A0 l.length cap0) l kr) ∧ Hid (IRow wr w3.heap.size (.slice (some ⟨g, 0, none⟩) px.length c4) px.length pz) ∧ Hid (Ch (fun j => j = w.heap.size + 2 ∨ j = g) W5 wr)) (fun s9 _ _ => 12 - (intOf s9).toNat)
    case atStart => exact ⟨0, _, px4, rfl, by omega, HOK, Lib.hid L4, DD, HRW, Lib.hid (Ch.refl _ _)⟩
    case round =>
      obtain ⟨k, kr, pz, rfl, hk, HOK, LZ, DD, HRW, HC⟩ := hrel
      have k0 : (0 : Int) ≤ (k : Int) := by omega
      have OB := Lib.hid (HC.out.heap OB.out (by rintro (e | e) <;> omega))
      have b2 : wr.cell? ⟨ob, 2, none⟩ = some (.slice (some ⟨g, 0, none⟩) px.length c4) := by rw [cell_of OB.out]; rfl
      have dc : wr.cell? ⟨w.heap.size + 2, 1, none⟩ = some (.int .i64 (kr : Int)) := by rw [cell_of DD.out.blk]; rfl
      by_cases hgo : k < 12 ∧ kr < l.length
      · obtain ⟨x1, x2⟩ := hgo
        have z1 : (k : Int) < 12 := by omega
        have z2 : (kr : Int) < (l.length : Int) := by omega
        have z3 : (0 : Int) ≤ (kr : Int) := by omega
        go_wp2_with (go_at_call 36; fail)
        refine Next_any lo (w.heap.size + 2) _ l kr px.length _ _ DD.out (by omega) (by omega) ?_
        intro w6 d1 c1
        obtain ⟨a0, a1⟩ := nx_in l kr px.length (by omega)
        obtain ⟨m, hm⟩ : ∃ m : Nat, (m : Int) = nx l kr px.length := ⟨(nx l kr px.length).toNat, by omega⟩
        rw [← hm] at a0 a1 ⊢
        clear hm z1 z2 z3 dc b2
        have DD := Lib.hid d1
        have OB := Lib.hid (c1.heap OB.out (by show ob ≠ _; omega))
        have HRW := Lib.hid (HRW.out.ch c1 (fun j hj e => by have e' : j = w.heap.size + 2 := e; omega))
        have HC := Lib.hid (HC.out.trans' c1 (fun j hj e => Or.inl e))
        have G6 : w3.heap.size ≤ w6.heap.size := by have := (HRW.out.lt g rfl).2; omega
        clear d1 c1
        go_wp2_with fail
        obtain ⟨y, hy⟩ : ∃ y, pz[m]? = some y := ⟨_, List.getElem?_eq_getElem (by have := LZ.out; omega)⟩
        obtain ⟨y0, y2⟩ := HOK.out.2.2.2 y (List.mem_of_getElem? hy)
        have HY := Lib.hid hy
        obtain ⟨r, hr⟩ : ∃ r, y.tmod 2 = r := ⟨_, rfl⟩
        have r01 : 0 ≤ r ∧ r ≤ 1 := by rw [← hr, Int.tmod_eq_emod_of_nonneg y0]; omega
        obtain ⟨r0, r1⟩ := r01
        have er : IntKind.i64.wrap r = r := by rw [IntKind.wrap_i64]; omega
        have er2 : IntKind.i64.wrap (1 - r) = 1 - r := by rw [IntKind.wrap_i64]; omega
        clear hy
        refine wp_named ?_
        intro P hP
        rw [← hP] at DD OB HRW HC G6
        clear hP
        refine wp_region_T 23 (F := fun w' => w'.cell? ⟨ob, 2, none⟩ = some (.slice (some ⟨g, 0, none⟩) px.length c4) ∧ w'.cell? ⟨g, m, none⟩ = some (.int .i64 y)) (by kernel_rfl) ⟨by show P.cell? _ = _; rw [cell_of OB.out]; rfl, HRW.out.cell HY.out⟩ (fun hHeld => ?_)
        have DD := Lib.hid (DD.out.kept ((Ch.refl (fun _ => False) P).drew) (fun _ _ e => e))
        have OB := Lib.hid (show P.drew.heap[ob]? = _ from OB.out)
        have HRW := Lib.hid (HRW.out.ch ((Ch.refl (fun _ => False) P).drew) (fun _ _ e => e))
        have HC := Lib.hid HC.out.drew
        have G6 : w3.heap.size ≤ P.drew.heap.size := G6
        generalize P.drew = wd at *
        have Gwd := G6
        first | (refine wpT_take (i := 0) (v := ?_) rfl (by kernel_rfl) (by kernel_rfl) (by kernel_rfl) (by kernel_rfl) (fun _ _ _ h => h) (Or.inl ⟨by rfl, ?hy⟩) (by assumption) ?_; case hy => (intro w hSw; (try dsimp only at hSw); go_simp; (try with_reducible rfl))) | (refine wpT_take (i := 0) (v := _) rfl (by kernel_rfl) (by kernel_rfl) (by kernel_rfl) (by kernel_rfl) (fun _ _ _ h => h) (Or.inr ⟨by rfl, rfl⟩) (by assumption) ?_)
        try simp only [Act.put, List.getElem_toArray, List.getElem_cons_succ, List.getElem_cons_zero, List.setIfInBounds_toArray, List.set_cons_zero, List.set_cons_succ]
        first | (refine wpT_take (i := 1) (v := ?_) rfl (by kernel_rfl) (by kernel_rfl) (by kernel_rfl) (by kernel_rfl) (fun _ _ _ h => h) (Or.inl ⟨by rfl, ?hy⟩) (by assumption) ?_; case hy => (intro w hSw; (try dsimp only at hSw); go_simp; (try with_reducible rfl))) | (refine wpT_take (i := 1) (v := _) rfl (by kernel_rfl) (by kernel_rfl) (by kernel_rfl) (by kernel_rfl) (fun _ _ _ h => h) (Or.inr ⟨by rfl, rfl⟩) (by assumption) ?_)
        try simp only [Act.put, List.getElem_toArray, List.getElem_cons_succ, List.getElem_cons_zero, List.setIfInBounds_toArray, List.set_cons_zero, List.set_cons_succ]
        first | (refine wpT_take (i := 2) (v := ?_) rfl (by kernel_rfl) (by kernel_rfl) (by kernel_rfl) (by kernel_rfl) (fun _ _ _ h => h) (Or.inl ⟨by rfl, ?hy⟩) (by assumption) ?_; case hy => (intro w hSw; (try dsimp only at hSw); go_simp; (try with_reducible rfl))) | (refine wpT_take (i := 2) (v := _) rfl (by kernel_rfl) (by kernel_rfl) (by kernel_rfl) (by kernel_rfl) (fun _ _ _ h => h) (Or.inr ⟨by rfl, rfl⟩) (by assumption) ?_)
        try simp only [Act.put, List.getElem_toArray, List.getElem_cons_succ, List.getElem_cons_zero, List.setIfInBounds_toArray, List.set_cons_zero, List.set_cons_succ]
        first | (refine wpT_take (i := 3) (v := ?_) rfl (by kernel_rfl) (by kernel_rfl) (by kernel_rfl) (by kernel_rfl) (fun _ _ _ h => h) (Or.inl ⟨by rfl, ?hy⟩) (by assumption) ?_; case hy => (intro w hSw; (try dsimp only at hSw); go_simp; (try with_reducible rfl))) | (refine wpT_take (i := 3) (v := _) rfl (by kernel_rfl) (by kernel_rfl) (by kernel_rfl) (by kernel_rfl) (fun _ _ _ h => h) (Or.inr ⟨by rfl, rfl⟩) (by assumption) ?_)
        try simp only [Act.put, List.getElem_toArray, List.getElem_cons_succ, List.getElem_cons_zero, List.setIfInBounds_toArray, List.set_cons_zero, List.set_cons_succ]
        first | (refine wpT_take (i := 4) (v := ?_) rfl (by kernel_rfl) (by kernel_rfl) (by kernel_rfl) (by kernel_rfl) (fun _ _ _ h => h) (Or.inl ⟨by rfl, ?hy⟩) (by assumption) ?_; case hy => (intro w hSw; (try dsimp only at hSw); go_simp; (try with_reducible rfl))) | (refine wpT_take (i := 4) (v := _) rfl (by kernel_rfl) (by kernel_rfl) (by kernel_rfl) (by kernel_rfl) (fun _ _ _ h => h) (Or.inr ⟨by rfl, rfl⟩) (by assumption) ?_)
        try simp only [Act.put, List.getElem_toArray, List.getElem_cons_succ, List.getElem_cons_zero, List.setIfInBounds_toArray, List.set_cons_zero, List.set_cons_succ]
        first | (refine wpT_take (i := 5) (v := ?_) rfl (by kernel_rfl) (by kernel_rfl) (by kernel_rfl) (by kernel_rfl) (fun _ _ _ h => h) (Or.inl ⟨by rfl, ?hy⟩) (by assumption) ?_; case hy => (intro w hSw; (try dsimp only at hSw); go_simp; (try with_reducible rfl))) | (refine wpT_take (i := 5) (v := _) rfl (by kernel_rfl) (by kernel_rfl) (by kernel_rfl) (by kernel_rfl) (fun _ _ _ h => h) (Or.inr ⟨by rfl, rfl⟩) (by assumption) ?_)
        try simp only [Act.put, List.getElem_toArray, List.getElem_cons_succ, List.getElem_cons_zero, List.setIfInBounds_toArray, List.set_cons_zero, List.set_cons_succ]
        first | (refine wpT_take (i := 6) (v := ?_) rfl (by kernel_rfl) (by kernel_rfl) (by kernel_rfl) (by kernel_rfl) (fun _ _ _ h => h) (Or.inl ⟨by rfl, ?hy⟩) (by assumption) ?_; case hy => (intro w hSw; (try dsimp only at hSw); go_simp; (try with_reducible rfl))) | (refine wpT_take (i := 6) (v := _) rfl (by kernel_rfl) (by kernel_rfl) (by kernel_rfl) (by kernel_rfl) (fun _ _ _ h => h) (Or.inr ⟨by rfl, rfl⟩) (by assumption) ?_)
        try simp only [Act.put, List.getElem_toArray, List.getElem_cons_succ, List.getElem_cons_zero, List.setIfInBounds_toArray, List.set_cons_zero, List.set_cons_succ]
        first | (refine wpT_take (i := 7) (v := ?_) rfl (by kernel_rfl) (by kernel_rfl) (by kernel_rfl) (by kernel_rfl) (fun _ _ _ h => h) (Or.inl ⟨by rfl, ?hy⟩) (by assumption) ?_; case hy => (intro w hSw; (try dsimp only at hSw); go_simp; (try with_reducible rfl))) | (refine wpT_take (i := 7) (v := _) rfl (by kernel_rfl) (by kernel_rfl) (by kernel_rfl) (by kernel_rfl) (fun _ _ _ h => h) (Or.inr ⟨by rfl, rfl⟩) (by assumption) ?_)
        try simp only [Act.put, List.getElem_toArray, List.getElem_cons_succ, List.getElem_cons_zero, List.setIfInBounds_toArray, List.set_cons_zero, List.set_cons_succ]
        first | (refine wpT_take (i := 8) (v := ?_) rfl (by kernel_rfl) (by kernel_rfl) (by kernel_rfl) (by kernel_rfl) (fun _ _ _ h => h) (Or.inl ⟨by rfl, ?hy⟩) (by assumption) ?_; case hy => (intro w hSw; (try dsimp only at hSw); go_simp; (try with_reducible rfl))) | (refine wpT_take (i := 8) (v := _) rfl (by kernel_rfl) (by kernel_rfl) (by kernel_rfl) (by kernel_rfl) (fun _ _ _ h => h) (Or.inr ⟨by rfl, rfl⟩) (by assumption) ?_)
        try simp only [Act.put, List.getElem_toArray, List.getElem_cons_succ, List.getElem_cons_zero, List.setIfInBounds_toArray, List.set_cons_zero, List.set_cons_succ]
        first | (refine wpT_take (i := 9) (v := ?_) rfl (by kernel_rfl) (by kernel_rfl) (by kernel_rfl) (by kernel_rfl) (fun _ _ _ h => h) (Or.inl ⟨by rfl, ?hy⟩) (by assumption) ?_; case hy => (intro w hSw; (try dsimp only at hSw); go_simp; (try with_reducible rfl))) | (refine wpT_take (i := 9) (v := _) rfl (by kernel_rfl) (by kernel_rfl) (by kernel_rfl) (by kernel_rfl) (fun _ _ _ h => h) (Or.inr ⟨by rfl, rfl⟩) (by assumption) ?_)
        try simp only [Act.put, List.getElem_toArray, List.getElem_cons_succ, List.getElem_cons_zero, List.setIfInBounds_toArray, List.set_cons_zero, List.set_cons_succ]
        first | (refine wpT_take (i := 10) (v := ?_) rfl (by kernel_rfl) (by kernel_rfl) (by kernel_rfl) (by kernel_rfl) (fun _ _ _ h => h) (Or.inl ⟨by rfl, ?hy⟩) (by assumption) ?_; case hy => (intro w hSw; (try dsimp only at hSw); go_simp; (try with_reducible rfl))) | (refine wpT_take (i := 10) (v := _) rfl (by kernel_rfl) (by kernel_rfl) (by kernel_rfl) (by kernel_rfl) (fun _ _ _ h => h) (Or.inr ⟨by rfl, rfl⟩) (by assumption) ?_)
        try simp only [Act.put, List.getElem_toArray, List.getElem_cons_succ, List.getElem_cons_zero, List.setIfInBounds_toArray, List.set_cons_zero, List.set_cons_succ]
        first | (refine wpT_take (i := 11) (v := ?_) rfl (by kernel_rfl) (by kernel_rfl) (by kernel_rfl) (by kernel_rfl) (fun _ _ _ h => h) (Or.inl ⟨by rfl, ?hy⟩) (by assumption) ?_; case hy => (intro w hSw; (try dsimp only at hSw); go_simp; (try with_reducible rfl))) | (refine wpT_take (i := 11) (v := _) rfl (by kernel_rfl) (by kernel_rfl) (by kernel_rfl) (by kernel_rfl) (fun _ _ _ h => h) (Or.inr ⟨by rfl, rfl⟩) (by assumption) ?_)
        try simp only [Act.put, List.getElem_toArray, List.getElem_cons_succ, List.getElem_cons_zero, List.setIfInBounds_toArray, List.set_cons_zero, List.set_cons_succ]
        first | (refine wpT_take (i := 12) (v := ?_) rfl (by kernel_rfl) (by kernel_rfl) (by kernel_rfl) (by kernel_rfl) (fun _ _ _ h => h) (Or.inl ⟨by rfl, ?hy⟩) (by assumption) ?_; case hy => (intro w hSw; (try dsimp only at hSw); go_simp; (try with_reducible rfl))) | (refine wpT_take (i := 12) (v := _) rfl (by kernel_rfl) (by kernel_rfl) (by kernel_rfl) (by kernel_rfl) (fun _ _ _ h => h) (Or.inr ⟨by rfl, rfl⟩) (by assumption) ?_)
        try simp only [Act.put, List.getElem_toArray, List.getElem_cons_succ, List.getElem_cons_zero, List.setIfInBounds_toArray, List.set_cons_zero, List.set_cons_succ]
        first | (refine wpT_take (i := 13) (v := ?_) rfl (by kernel_rfl) (by kernel_rfl) (by kernel_rfl) (by kernel_rfl) (fun _ _ _ h => h) (Or.inl ⟨by rfl, ?hy⟩) (by assumption) ?_; case hy => (intro w hSw; (try dsimp only at hSw); go_simp; (try with_reducible rfl))) | (refine wpT_take (i := 13) (v := _) rfl (by kernel_rfl) (by kernel_rfl) (by kernel_rfl) (by kernel_rfl) (fun _ _ _ h => h) (Or.inr ⟨by rfl, rfl⟩) (by assumption) ?_)
        try simp only [Act.put, List.getElem_toArray, List.getElem_cons_succ, List.getElem_cons_zero, List.setIfInBounds_toArray, List.set_cons_zero, List.set_cons_succ]
        first | (refine wpT_take (i := 14) (v := ?_) rfl (by kernel_rfl) (by kernel_rfl) (by kernel_rfl) (by kernel_rfl) (fun _ _ _ h => h) (Or.inl ⟨by rfl, ?hy⟩) (by assumption) ?_; case hy => (intro w hSw; (try dsimp only at hSw); go_simp; (try with_reducible rfl))) | (refine wpT_take (i := 14) (v := _) rfl (by kernel_rfl) (by kernel_rfl) (by kernel_rfl) (by kernel_rfl) (fun _ _ _ h => h) (Or.inr ⟨by rfl, rfl⟩) (by assumption) ?_)
        try simp only [Act.put, List.getElem_toArray, List.getElem_cons_succ, List.getElem_cons_zero, List.setIfInBounds_toArray, List.set_cons_zero, List.set_cons_succ]
        first | (refine wpT_take (i := 15) (v := ?_) rfl (by kernel_rfl) (by kernel_rfl) (by kernel_rfl) (by kernel_rfl) (fun _ _ _ h => h) (Or.inl ⟨by rfl, ?hy⟩) (by assumption) ?_; case hy => (intro w hSw; (try dsimp only at hSw); go_simp; (try with_reducible rfl))) | (refine wpT_take (i := 15) (v := _) rfl (by kernel_rfl) (by kernel_rfl) (by kernel_rfl) (by kernel_rfl) (fun _ _ _ h => h) (Or.inr ⟨by rfl, rfl⟩) (by assumption) ?_)
        try simp only [Act.put, List.getElem_toArray, List.getElem_cons_succ, List.getElem_cons_zero, List.setIfInBounds_toArray, List.set_cons_zero, List.set_cons_succ]
        first | (refine wpT_take (i := 16) (v := ?_) rfl (by kernel_rfl) (by kernel_rfl) (by kernel_rfl) (by kernel_rfl) (fun _ _ _ h => h) (Or.inl ⟨by rfl, ?hy⟩) (by assumption) ?_; case hy => (intro w hSw; (try dsimp only at hSw); go_simp; (try with_reducible rfl))) | (refine wpT_take (i := 16) (v := _) rfl (by kernel_rfl) (by kernel_rfl) (by kernel_rfl) (by kernel_rfl) (fun _ _ _ h => h) (Or.inr ⟨by rfl, rfl⟩) (by assumption) ?_)
        try simp only [Act.put, List.getElem_toArray, List.getElem_cons_succ, List.getElem_cons_zero, List.setIfInBounds_toArray, List.set_cons_zero, List.set_cons_succ]
        first | (refine wpT_take (i := 18) (v := ?_) rfl (by kernel_rfl) (by kernel_rfl) (by kernel_rfl) (by kernel_rfl) (fun _ _ _ h => h) (Or.inl ⟨by rfl, ?hy⟩) (by assumption) ?_; case hy => (intro w hSw; (try dsimp only at hSw); go_simp; (try with_reducible rfl))) | (refine wpT_take (i := 18) (v := _) rfl (by kernel_rfl) (by kernel_rfl) (by kernel_rfl) (by kernel_rfl) (fun _ _ _ h => h) (Or.inr ⟨by rfl, rfl⟩) (by assumption) ?_)
        try simp only [Act.put, List.getElem_toArray, List.getElem_cons_succ, List.getElem_cons_zero, List.setIfInBounds_toArray, List.set_cons_zero, List.set_cons_succ]
        refine wpT_ready (rs := [17, 19]) (by kernel_rfl) (by simp) ?_
        refine ReadyT.cons rfl (fun K hK => ?_) (ReadyT.cons rfl (fun K hK => ?_) ReadyT.nil)
        · go_simp
          refine hK.out _ _ ⟨cell_alloc_old _ (by rw [cell_of OB.out]; rfl), cell_alloc_old _ (HRW.out.cell HY.out)⟩ (fun hHeld => ?_)
          clear hK K
          try simp only [Act.put, List.getElem_toArray, List.getElem_cons_succ, List.getElem_cons_zero, List.setIfInBounds_toArray, List.set_cons_zero, List.set_cons_succ]
          refine wpT_named ?_
          intro w14 hW
          rw [← hW] at hHeld
          have c1 : Nw wd w14 := by rw [hW]; exact (Ch.refl _ _).alloc _
          have BS := Lib.hid (show w14.heap[wd.heap.size]? = some (.cells #[.int .i64 (1 - r), .int .i64 2, .int .i64 (1 - r), .int .i64 0] 3 (0, 0)) from by rw [hW]; exact heap_alloc_eq _ rfl)
          clear hW
          have OB := Lib.hid (c1.heap OB.out id)
          have DD := Lib.hid (DD.out.kept c1 (fun _ _ e => e))
          have HC := Lib.hid (HC.out.trans' c1 (fun j hj e => e.elim))
          have HRW := Lib.hid (HRW.out.ch c1 (fun _ _ e => e))
          have Gw14 := Nat.le_trans Gwd c1.size
          clear c1
          refine wpT_ready (rs := [19]) (by kernel_rfl) (by simp) ?_
          refine ReadyT.cons rfl (fun K hK => ?_) ReadyT.nil
          go_simp
          go_at_call 36
          refine Next_any lo (w.heap.size + 2) _ l (nk l kr) 4 _ _ DD.out (by omega) (by omega) ?_
          intro w15 d1 c1
          obtain ⟨j0, j3⟩ := nx_in l (nk l kr) 4 (by omega)
          obtain ⟨j, hj⟩ : ∃ j : Nat, (j : Int) = nx l (nk l kr) 4 := ⟨(nx l (nk l kr) 4).toNat, by omega⟩
          rw [← hj] at j0 j3 ⊢
          clear hj
          have DD := Lib.hid d1
          have OB := Lib.hid (c1.heap OB.out (by show ob ≠ _; omega))
          have HC := Lib.hid (HC.out.trans' c1 (fun j hj e => Or.inl e))
          have HRW := Lib.hid (HRW.out.ch c1 (fun j hj e => by have e' : j = w.heap.size + 2 := e; omega))
          have Gw15 := Nat.le_trans Gw14 c1.size
          have BS := Lib.hid (c1.heap BS.out (by show wd.heap.size ≠ _; omega))
          refine hK.out _ _ ⟨by rw [cell_of OB.out]; rfl, HRW.out.cell HY.out⟩ (fun hHeld => ?_)
          clear hK K d1 c1
          try simp only [Act.put, List.getElem_toArray, List.getElem_cons_succ, List.getElem_cons_zero, List.setIfInBounds_toArray, List.set_cons_zero, List.set_cons_succ]
          first | (refine wpT_take (i := 20) (v := ?_) rfl (by kernel_rfl) (by kernel_rfl) (by kernel_rfl) (by kernel_rfl) (fun _ _ _ h => h) (Or.inl ⟨by rfl, ?hy⟩) (by assumption) ?_; case hy => (intro w hSw; (try dsimp only at hSw); go_simp; (try with_reducible rfl))) | (refine wpT_take (i := 20) (v := _) rfl (by kernel_rfl) (by kernel_rfl) (by kernel_rfl) (by kernel_rfl) (fun _ _ _ h => h) (Or.inr ⟨by rfl, rfl⟩) (by assumption) ?_)
          try simp only [Act.put, List.getElem_toArray, List.getElem_cons_succ, List.getElem_cons_zero, List.setIfInBounds_toArray, List.set_cons_zero, List.set_cons_succ]
          refine wpT_ready (rs := [21]) (by kernel_rfl) (by simp) ?_
          refine ReadyT.cons rfl (fun K hK => ?_) ReadyT.nil
          obtain ⟨z, hz, hz0, hz2⟩ : ∃ z, w15.cell? ⟨wd.heap.size, j, none⟩ = some (.int .i64 z) ∧ 0 ≤ z ∧ z ≤ 2 := by
            rw [cell_of BS.out]
            have hj : j = 0 ∨ j = 1 ∨ j = 2 ∨ j = 3 := by omega
            rcases hj with rfl | rfl | rfl | rfl
            · exact ⟨1 - r, rfl, by omega, by omega⟩
            · exact ⟨2, rfl, by omega, by omega⟩
            · exact ⟨1 - r, rfl, by omega, by omega⟩
            · exact ⟨0, rfl, by omega, by omega⟩
          go_simp
          refine hK.out _ _ ⟨by rw [cell_of OB.out]; rfl, HRW.out.cell HY.out⟩ (fun hHeld => ?_)
          clear hK K hz
          try simp only [Act.put, List.getElem_toArray, List.getElem_cons_succ, List.getElem_cons_zero, List.setIfInBounds_toArray, List.set_cons_zero, List.set_cons_succ]
          first | (refine wpT_take (i := 22) (v := ?_) rfl (by kernel_rfl) (by kernel_rfl) (by kernel_rfl) (by kernel_rfl) (fun _ _ _ h => h) (Or.inl ⟨by rfl, ?hy⟩) (by assumption) ?_; case hy => (intro w hSw; (try dsimp only at hSw); go_simp; (try with_reducible rfl))) | (refine wpT_take (i := 22) (v := _) rfl (by kernel_rfl) (by kernel_rfl) (by kernel_rfl) (by kernel_rfl) (fun _ _ _ h => h) (Or.inr ⟨by rfl, rfl⟩) (by assumption) ?_)
          try simp only [Act.put, List.getElem_toArray, List.getElem_cons_succ, List.getElem_cons_zero, List.setIfInBounds_toArray, List.set_cons_zero, List.set_cons_succ]
          refine wpT_ready (rs := [23]) (by kernel_rfl) (by simp) ?_
          refine ReadyT.last rfl (by kernel_rfl) (fun K hK => ?_) ReadyT.nil
          have sc := HRW.out.cell HY.out
          have sf : w15.frozen? ⟨g, m, none⟩ = false := HRW.out.frozen m
          go_simp
          refine hK.out _ _ ?_
          clear hK K
          try simp only [Act.put, List.getElem_toArray, List.getElem_cons_succ, List.getElem_cons_zero, List.setIfInBounds_toArray, List.set_cons_zero, List.set_cons_succ]
          refine wpT_done (by kernel_rfl) ?_ _
          go_wp2_with fail
          have cc := (Ch.refl (· = g) w15).setb (b := g) (o := m) (fun _ => rfl) (.int .i64 z)
          refine ⟨⟨k + 1, _, pz.set m z, by go_num, by omega, Lib.hid (imOk_set HOK.out m hz0 hz2), Lib.hid (by rw [List.length_set]; exact LZ.out), Lib.hid (DD.out.kept cc (fun j hj e => by have e' : j = g := e; omega)), Lib.hid (HRW.out.store m z), Lib.hid (HC.out.trans' cc (fun j hj e => Or.inr e))⟩, ?_⟩
          simp [intOf]; omega
        · go_simp
          go_at_call 36
          refine Next_any lo (w.heap.size + 2) _ l (nk l kr) 4 _ _ DD.out (by omega) (by omega) ?_
          intro w16 d1 c1
          obtain ⟨j0, j3⟩ := nx_in l (nk l kr) 4 (by omega)
          obtain ⟨j, hj⟩ : ∃ j : Nat, (j : Int) = nx l (nk l kr) 4 := ⟨(nx l (nk l kr) 4).toNat, by omega⟩
          rw [← hj] at j0 j3 ⊢
          clear hj
          have DD := Lib.hid d1
          have OB := Lib.hid (c1.heap OB.out (by show ob ≠ _; omega))
          have HC := Lib.hid (HC.out.trans' c1 (fun j hj e => Or.inl e))
          have HRW := Lib.hid (HRW.out.ch c1 (fun j hj e => by have e' : j = w.heap.size + 2 := e; omega))
          have Gw16 := Nat.le_trans Gwd c1.size
          refine hK.out _ _ ⟨by rw [cell_of OB.out]; rfl, HRW.out.cell HY.out⟩ (fun hHeld => ?_)
          clear hK K d1 c1
          try simp only [Act.put, List.getElem_toArray, List.getElem_cons_succ, List.getElem_cons_zero, List.setIfInBounds_toArray, List.set_cons_zero, List.set_cons_succ]
          refine wpT_ready (rs := [17]) (by kernel_rfl) (by simp) ?_
          refine ReadyT.cons rfl (fun K hK => ?_) ReadyT.nil
          go_simp
          refine hK.out _ _ ⟨cell_alloc_old _ (by rw [cell_of OB.out]; rfl), cell_alloc_old _ (HRW.out.cell HY.out)⟩ (fun hHeld => ?_)
          clear hK K
          try simp only [Act.put, List.getElem_toArray, List.getElem_cons_succ, List.getElem_cons_zero, List.setIfInBounds_toArray, List.set_cons_zero, List.set_cons_succ]
          refine wpT_named ?_
          intro w17 hW
          rw [← hW] at hHeld
          have c1 : Nw w16 w17 := by rw [hW]; exact (Ch.refl _ _).alloc _
          have BS := Lib.hid (show w17.heap[w16.heap.size]? = some (.cells #[.int .i64 (1 - r), .int .i64 2, .int .i64 (1 - r), .int .i64 0] 3 (0, 0)) from by rw [hW]; exact heap_alloc_eq _ rfl)
          clear hW
          have OB := Lib.hid (c1.heap OB.out id)
          have DD := Lib.hid (DD.out.kept c1 (fun _ _ e => e))
          have HC := Lib.hid (HC.out.trans' c1 (fun j hj e => e.elim))
          have HRW := Lib.hid (HRW.out.ch c1 (fun _ _ e => e))
          have Gw17 := Nat.le_trans Gw16 c1.size
          clear c1
          first | (refine wpT_take (i := 20) (v := ?_) rfl (by kernel_rfl) (by kernel_rfl) (by kernel_rfl) (by kernel_rfl) (fun _ _ _ h => h) (Or.inl ⟨by rfl, ?hy⟩) (by assumption) ?_; case hy => (intro w hSw; (try dsimp only at hSw); go_simp; (try with_reducible rfl))) | (refine wpT_take (i := 20) (v := _) rfl (by kernel_rfl) (by kernel_rfl) (by kernel_rfl) (by kernel_rfl) (fun _ _ _ h => h) (Or.inr ⟨by rfl, rfl⟩) (by assumption) ?_)
          try simp only [Act.put, List.getElem_toArray, List.getElem_cons_succ, List.getElem_cons_zero, List.setIfInBounds_toArray, List.set_cons_zero, List.set_cons_succ]
          refine wpT_ready (rs := [21]) (by kernel_rfl) (by simp) ?_
          refine ReadyT.cons rfl (fun K hK => ?_) ReadyT.nil
          obtain ⟨z, hz, hz0, hz2⟩ : ∃ z, w17.cell? ⟨w16.heap.size, j, none⟩ = some (.int .i64 z) ∧ 0 ≤ z ∧ z ≤ 2 := by
            rw [cell_of BS.out]
            have hj : j = 0 ∨ j = 1 ∨ j = 2 ∨ j = 3 := by omega
            rcases hj with rfl | rfl | rfl | rfl
            · exact ⟨1 - r, rfl, by omega, by omega⟩
            · exact ⟨2, rfl, by omega, by omega⟩
            · exact ⟨1 - r, rfl, by omega, by omega⟩
            · exact ⟨0, rfl, by omega, by omega⟩
          go_simp
          refine hK.out _ _ ⟨by rw [cell_of OB.out]; rfl, HRW.out.cell HY.out⟩ (fun hHeld => ?_)
          clear hK K hz
          try simp only [Act.put, List.getElem_toArray, List.getElem_cons_succ, List.getElem_cons_zero, List.setIfInBounds_toArray, List.set_cons_zero, List.set_cons_succ]
          first | (refine wpT_take (i := 22) (v := ?_) rfl (by kernel_rfl) (by kernel_rfl) (by kernel_rfl) (by kernel_rfl) (fun _ _ _ h => h) (Or.inl ⟨by rfl, ?hy⟩) (by assumption) ?_; case hy => (intro w hSw; (try dsimp only at hSw); go_simp; (try with_reducible rfl))) | (refine wpT_take (i := 22) (v := _) rfl (by kernel_rfl) (by kernel_rfl) (by kernel_rfl) (by kernel_rfl) (fun _ _ _ h => h) (Or.inr ⟨by rfl, rfl⟩) (by assumption) ?_)
          try simp only [Act.put, List.getElem_toArray, List.getElem_cons_succ, List.getElem_cons_zero, List.setIfInBounds_toArray, List.set_cons_zero, List.set_cons_succ]
          refine wpT_ready (rs := [23]) (by kernel_rfl) (by simp) ?_
          refine ReadyT.last rfl (by kernel_rfl) (fun K hK => ?_) ReadyT.nil
          have sc := HRW.out.cell HY.out
          have sf : w17.frozen? ⟨g, m, none⟩ = false := HRW.out.frozen m
          go_simp
          refine hK.out _ _ ?_
          clear hK K
          try simp only [Act.put, List.getElem_toArray, List.getElem_cons_succ, List.getElem_cons_zero, List.setIfInBounds_toArray, List.set_cons_zero, List.set_cons_succ]
          refine wpT_done (by kernel_rfl) ?_ _
          go_wp2_with fail
          have cc := (Ch.refl (· = g) w17).setb (b := g) (o := m) (fun _ => rfl) (.int .i64 z)
          refine ⟨⟨k + 1, _, pz.set m z, by go_num, by omega, Lib.hid (imOk_set HOK.out m hz0 hz2), Lib.hid (by rw [List.length_set]; exact LZ.out), Lib.hid (DD.out.kept cc (fun j hj e => by have e' : j = g := e; omega)), Lib.hid (HRW.out.store m z), Lib.hid (HC.out.trans' cc (fun j hj e => Or.inr e))⟩, ?_⟩
          simp [intOf]; omega
      · have RB := Lib.hid (HC.out.heap RB.out (by rintro (e | e) <;> omega))
        have r0 : wr.cell? ⟨w.heap.size + 1, 0, none⟩ = some (.int .i64 0) := by rw [cell_of RB.out]; rfl
        have r1 : wr.cell? ⟨w.heap.size + 1, 1, none⟩ = some (.int .i64 0) := by rw [cell_of RB.out]; rfl
        have r2 : wr.cell? ⟨w.heap.size + 1, 2, none⟩ = some (.slice none 0 0) := by rw [cell_of RB.out]; rfl
        have q0 : wr.frozen? ⟨w.heap.size + 1, 0, none⟩ = false := frozen_of RB.out
        have q1 : wr.frozen? ⟨w.heap.size + 1, 1, none⟩ = false := frozen_of RB.out
        have q2 : wr.frozen? ⟨w.heap.size + 1, 2, none⟩ = false := frozen_of RB.out
        have b0 : wr.cell? ⟨ob, 0, none⟩ = some (.int .i64 (bw + 4)) := by rw [cell_of OB.out]; rfl
        have b1 : wr.cell? ⟨ob, 1, none⟩ = some (.int .i64 (bh + 4)) := by rw [cell_of OB.out]; rfl
        have NX := Lib.hid (NX.out.trans' HC.out (fun j hj e => by omega))
        have hex : ¬ k < 12 ∨ (k < 12 ∧ ¬ kr < l.length) := by omega
        have fin : Hid (R (.returned (.agg #[.int .i64 (bw + 4), .int .i64 (bh + 4), .slice (some ⟨g, 0, none⟩) px.length c4])) (((wr.setCell ⟨w.heap.size + 1, 0, none⟩ (.int .i64 (bw + 4))).setCell ⟨w.heap.size + 1, 1, none⟩ (.int .i64 (bh + 4))).setCell ⟨w.heap.size + 1, 2, none⟩ (.slice (some ⟨g, 0, none⟩) px.length c4))) := by
          have cc := ((((Ch.refl (· = w.heap.size + 1) wr).setb (b := w.heap.size + 1) (o := 0) (fun _ => rfl) (.int .i64 (bw + 4))).setb (b := w.heap.size + 1) (o := 1) (fun _ => rfl) (.int .i64 (bh + 4))).setb (b := w.heap.size + 1) (o := 2) (fun _ => rfl) (.slice (some ⟨g, 0, none⟩) px.length c4))
          have h8 := (HRW.out.ch' cc (fun j hj e => by have e' : j = w.heap.size + 1 := e; injection hj with hj; have hj : g = j := hj; omega)).isInts (fun x hx => by have := HOK.out.2.2.2 x hx; unfold wfI; omega) (by omega)
          refine Lib.hid (HR.out _ _ (bw + 4, bh + 4, pz) ⟨_, rfl, ?_, by unfold wfI; simp only; omega, by unfold wfI; simp only; omega⟩ HOK.out rfl rfl (NX.out.trans' cc (fun j hj e => by have e' : j = w.heap.size + 1 := e; omega)) ⟨g, px.length, c4, rfl⟩)
          exact h8
        have f0 : ((bw + 4).toNat : Int) = bw + 4 := by omega
        clear HR HL
        rcases hex with x1 | ⟨x1, x2⟩
        · have z1 : ¬ (k : Int) < 12 := by omega
          go_wp2
          exact bodyPost_ret (by simp [results, Tryd.results11, go_sem, r0, r1, r2]) rfl fin.out
        · have z1 : (k : Int) < 12 := by omega
          have z2 : ¬ (kr : Int) < (l.length : Int) := by omega
          go_wp2
          exact bodyPost_ret (by simp [results, Tryd.results11, go_sem, r0, r1, r2]) rfl fin.out
end Go.Proofs.YtnhdnjhhjmgmnaaDoor
