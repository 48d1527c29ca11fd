/-
  ref08: piece: some operations that leave the stack as it is, with blocks up to a nesting.
-/
import Derived.Test.YtdpbdcaefdcooaaGreatDoorMo8
namespace Go.Proofs.YtdpbdcaefdcooaaGreatDoor
open Go.RowKit
set_option linter.unusedVariables false
set_option linter.unusedSimpArgs false
set_option maxRecDepth 100000


/-- What a call of piece leaves. -/
def PieceR (e : Nat) (lo b : Nat) (v : Value) (l : List Int) (np : Int) (w : World) (R : Ending → World → Prop) : Prop :=
  ∀ w' x L k', DS w' lo b v l k' → ORow w' w.heap.size x L → 1 ≤ L.length → L.length ≤ 5 + 9 * e → Runs np e L 0 0 → Ch (· = b) w w' → R (.returned x) w'

set_option maxHeartbeats 8000000 in
theorem piece_any (lo b : Nat) (v : Value) (l : List Int) (np : Int) (h0 : 0 < np) (h1 : np ≤ 1000000) : ∀ (e : Nat) (z : Int), z = (e : Int) → e ≤ 2 → ∀ (k : Nat) (w : World) (R : Ending → World → Prop), DS w lo b v l k → b < w.heap.size →
    PieceR e lo b v l np w R → Calls Tryz.prog 19 #[.pointer (some ⟨b, 0, none⟩), .int .i64 np, .int .i64 z] w R := by
  intro e
  induction e with
  | zero =>
    intro z hz he k w R h hb hR
    obtain rfl : z = 0 := by omega
    clear hz he
    have HR := Lib.hid hR
    clear hR
    have HD := Lib.hid h
    have HN := Lib.hid (Ch.refl (· = b) w)
    clear h
    go_enter Tryz.func19, Tryz.ntmps19
    go_wp2_with (go_at_call 38; fail)
    refine Next_any lo b _ l k 5 _ _ HD.out (by omega) (by omega) ?_
    intro w1 d1 c1
    obtain ⟨kq, hkq⟩ : ∃ kk, nk l k = kk := ⟨_, rfl⟩
    rw [hkq] at d1
    clear hkq
    replace HD := Lib.hid d1
    replace HN := Lib.hid (HN.out.trans c1)
    obtain ⟨lq, uq⟩ := nx_in l k 5 (by omega)
    obtain ⟨q, hq⟩ : ∃ xx, nx l k 5 = xx := ⟨_, rfl⟩
    rw [hq] at lq uq ⊢
    clear hq d1 c1
    go_wp2_with (go_at_call 38; fail)
    refine plain_any lo b _ l kq np _ _ HD.out h0 h1 ?_
    intro w2 x L k' d2 hrow hl1 hl2 hrun c2
    have sz := HN.out.size
    go_wp2_with (fail)
    exact HR.out _ _ L _ d2 (hrow.lo sz) (by omega) (by omega) hrun (HN.out.trans c2)
  | succ e ih =>
    intro z hz he k w R h hb hR
    have HR := Lib.hid hR
    have IH := Lib.hid ih
    clear hR ih
    have HD := Lib.hid h
    have HN := Lib.hid (Ch.refl (· = b) w)
    have SZ : w.heap.size ≤ w.heap.size := Nat.le_refl _
    clear h
    have ez : (z == 0) = false := by simp; omega
    have z0 : 0 < z := by omega
    have z3 : z < 3 := by omega
    have HZ := Lib.hid hz
    clear hz
    go_enter Tryz.func19, Tryz.ntmps19
    go_wp2_with (go_at_call 38; fail)
    refine Next_any lo b _ l k 5 _ _ HD.out (by omega) (by omega) ?_
    intro w1 d1 c1
    obtain ⟨kq, hkq⟩ : ∃ kk, nk l k = kk := ⟨_, rfl⟩
    rw [hkq] at d1
    clear hkq
    replace SZ := Nat.le_trans SZ c1.size
    replace HD := Lib.hid d1
    replace HN := Lib.hid (HN.out.trans c1)
    obtain ⟨lq, uq⟩ := nx_in l k 5 (by omega)
    obtain ⟨q, hq⟩ : ∃ xx, nx l k 5 = xx := ⟨_, rfl⟩
    rw [hq] at lq uq ⊢
    clear hq d1 c1
    by_cases q3 : q < 3
    · as_aux_lemma =>
      go_wp2_with (go_at_call 38; fail)
      refine plain_any lo b _ l kq np _ _ HD.out h0 h1 ?_
      intro w2 x L k' d2 hrow hl1 hl2 hrun c2
      go_wp2_with (fail)
      exact HR.out _ _ L _ d2 (hrow.lo SZ) (by omega) (by omega) (hrun.more (Nat.zero_le _)) (HN.out.trans c2)
    · as_aux_lemma =>
      go_wp2_with (go_at_call 38; fail)
      refine IH.out (z - 1) (by have := HZ.out; omega) (by omega) kq _ _ HD.out (by omega) ?_
      intro w2 x L k' d2 hrow hl1 hl2 hrun c2
      have HO := Lib.hid (hrow.lo SZ)
      replace HD := Lib.hid d2
      replace HN := Lib.hid (HN.out.trans c2)
      replace SZ := Nat.le_trans SZ c2.size
      obtain ⟨A8, c8, rfl⟩ := hrow.form
      clear hrow d2 c2 IH
      go_wp2_with (go_at_call 38; fail)
      refine Next_any lo b _ l k' 3 _ _ HD.out (by omega) (by omega) ?_
      intro w2 d1 c1
      obtain ⟨kt, hkt⟩ : ∃ kk, nk l k' = kk := ⟨_, rfl⟩
      rw [hkt] at d1
      clear hkt
      replace SZ := Nat.le_trans SZ c1.size
      replace HO := Lib.hid (HO.out.ch' c1 (fun k hk e => by have e' : k = b := e; have := (HO.out.lt k hk).1; omega))
      replace HD := Lib.hid d1
      replace HN := Lib.hid (HN.out.trans c1)
      obtain ⟨lt, ut⟩ := nx_in l k' 3 (by omega)
      obtain ⟨t, ht⟩ : ∃ xx, nx l k' 3 = xx := ⟨_, rfl⟩
      rw [ht] at lt ut ⊢
      clear ht d1 c1
      by_cases t3 : t = 0
      · as_aux_lemma =>
        have et : (t == 0) = true := by simp [t3]
        clear t3
        go_upto_region 6 with (fail)
        refine wp_region_lit ?_
        refine wpList_plain rfl fun K hK => ?_
        go_simp
        refine hK _ _ ?_
        clear hK K
        try simp only [Act.put, List.getElem_toArray, List.getElem_cons_succ, List.getElem_cons_zero, List.setIfInBounds_toArray, List.set_cons_zero, List.set_cons_succ]
        refine wpList_plain rfl fun K hK => ?_
        go_simp
        refine hK _ _ ?_
        clear hK K
        try simp only [Act.put, List.getElem_toArray, List.getElem_cons_succ, List.getElem_cons_zero, List.setIfInBounds_toArray, List.set_cons_zero, List.set_cons_succ]
        refine wpList_plain rfl fun K hK => ?_
        go_simp
        refine hK _ _ ?_
        clear hK K
        try simp only [Act.put, List.getElem_toArray, List.getElem_cons_succ, List.getElem_cons_zero, List.setIfInBounds_toArray, List.set_cons_zero, List.set_cons_succ]
        refine wpList_plain rfl fun K hK => ?_
        go_simp
        go_at_call 37
        refine plain_any lo b _ l kt np _ _ HD.out h0 h1 ?_
        intro w5 x5 L5 k5 d5 hrow5 hl5 hm5 hrun5 c5
        replace HO := Lib.hid (HO.out.ch' c5 (fun k hk e => by have e' : k = b := e; have := (HO.out.lt k hk).1; omega))
        replace HD := Lib.hid d5
        replace HN := Lib.hid (HN.out.trans c5)
        replace SZ := Nat.le_trans SZ c5.size
        have HP := Lib.hid hrow5
        clear d5 hrow5 c5
        refine hK _ _ ?_
        clear hK K
        try simp only [Act.put, List.getElem_toArray, List.getElem_cons_succ, List.getElem_cons_zero, List.setIfInBounds_toArray, List.set_cons_zero, List.set_cons_succ]
        refine wpList_plain rfl fun K hK => ?_
        refine wp_appOps _ (.tmp 29) (.tmp 32) rfl w.heap.size _ L (by rfl) HO.out _ _ L5 (by rfl) HP.out (fun h => by rw [h] at hl5; simp at hl5) (by omega) (by omega) ?_
        intro v9 w9 hrow9 hgr9 hnil9
        have hob : ∀ j, (Value.slice A8 L.length c8).ownBlock = some j → w.heap.size ≤ j := fun j hj => (HO.out.lt j hj).1
        have cg : Ch (fun j => (Value.slice A8 L.length c8).ownBlock = some j) w5 w9 := (Ch.refl _ _).grown hgr9 (fun k e _ => e)
        replace HD := Lib.hid (HD.out.kept cg (fun k hk e => by have := hob k e; have := HD.out.far; omega))
        replace HN := Lib.hid (HN.out.grown hgr9 (fun k e hk => by have := hob k e; omega))
        obtain ⟨M, hM⟩ : ∃ M, L ++ L5 = M := ⟨_, rfl⟩
        rw [hM] at hrow9
        have hpos : 1 ≤ M.length := by rw [← hM, List.length_append]; omega
        have hmax : M.length ≤ 5 + 9 * e + 5 := by rw [← hM, List.length_append]; omega
        have hrunO : Runs np e M 0 0 := by rw [← hM]; exact hrun.append (hrun5.more (Nat.zero_le _))
        replace HO := Lib.hid hrow9
        replace SZ := Nat.le_trans SZ cg.size
        obtain ⟨A9, c9, rfl⟩ := hrow9.form
        clear hrow9 hgr9 cg hob HP hnil9 hM
        refine hK _ _ ?_
        clear hK K
        try simp only [Act.put, List.getElem_toArray, List.getElem_cons_succ, List.getElem_cons_zero, List.setIfInBounds_toArray, List.set_cons_zero, List.set_cons_succ]
        refine wpList_plain rfl fun K hK => ?_
        go_simp
        refine hK _ _ ?_
        clear hK K
        try simp only [Act.put, List.getElem_toArray, List.getElem_cons_succ, List.getElem_cons_zero, List.setIfInBounds_toArray, List.set_cons_zero, List.set_cons_succ]
        by_cases q4 : q = 3
        · as_aux_lemma =>
          have e3 : (q == 3) = true := by simp [q4]
          clear q4
          go_upto_region 8 with (fail)
          refine wp_region_lit ?_
          refine wpList_plain rfl fun K hK => ?_
          go_simp
          refine hK _ _ ?_
          clear hK K
          try simp only [Act.put, List.getElem_toArray, List.getElem_cons_succ, List.getElem_cons_zero, List.setIfInBounds_toArray, List.set_cons_zero, List.set_cons_succ]
          refine wpList_plain rfl fun K hK => ?_
          go_simp
          go_at_call 18
          refine Next_any lo b _ l k5 4 _ _ HD.out (by omega) (by omega) ?_
          intro w3 d1 c1
          obtain ⟨ky, hky⟩ : ∃ kk, nk l k5 = kk := ⟨_, rfl⟩
          rw [hky] at d1
          clear hky
          replace SZ := Nat.le_trans SZ c1.size
          replace HO := Lib.hid (HO.out.ch' c1 (fun k hk e => by have e' : k = b := e; have := (HO.out.lt k hk).1; omega))
          replace HD := Lib.hid d1
          replace HN := Lib.hid (HN.out.trans c1)
          obtain ⟨ly, uy⟩ := nx_in l k5 4 (by omega)
          obtain ⟨y, hy⟩ : ∃ xx, nx l k5 4 = xx := ⟨_, rfl⟩
          rw [hy] at ly uy ⊢
          clear hy d1 c1
          have wy : IntKind.i64.wrap (1 + y) = 1 + y := by rw [IntKind.wrap_i64]; omega
          refine hK _ _ ?_
          clear hK K
          try simp only [Act.put, List.getElem_toArray, List.getElem_cons_succ, List.getElem_cons_zero, List.setIfInBounds_toArray, List.set_cons_zero, List.set_cons_succ]
          refine wpList_plain rfl fun K hK => ?_
          go_simp
          refine hK _ _ ?_
          clear hK K
          try simp only [Act.put, List.getElem_toArray, List.getElem_cons_succ, List.getElem_cons_zero, List.setIfInBounds_toArray, List.set_cons_zero, List.set_cons_succ]
          refine wpList_plain rfl fun K hK => ?_
          go_simp
          refine hK _ _ ?_
          clear hK K
          try simp only [Act.put, List.getElem_toArray, List.getElem_cons_succ, List.getElem_cons_zero, List.setIfInBounds_toArray, List.set_cons_zero, List.set_cons_succ]
          refine wpList_plain rfl fun K hK => ?_
          go_simp
          refine hK _ _ ?_
          clear hK K
          try simp only [Act.put, List.getElem_toArray, List.getElem_cons_succ, List.getElem_cons_zero, List.setIfInBounds_toArray, List.set_cons_zero, List.set_cons_succ]
          refine wpList_plain rfl fun K hK => ?_
          go_simp
          go_at_call 38
          refine op_any 15 (1 + y) (M.length : Int) _ _ ?_
          intro w4 n
          replace HD := Lib.hid (HD.out.kept n (fun _ _ e => e))
          replace HN := Lib.hid (HN.out.trans' n (fun _ _ e => e.elim))
          replace SZ := Nat.le_trans SZ n.size
          replace HO := Lib.hid (HO.out.ch' n (fun _ _ e => e))
          clear n
          refine hK _ _ ?_
          clear hK K
          try simp only [Act.put, List.getElem_toArray, List.getElem_cons_succ, List.getElem_cons_zero, List.setIfInBounds_toArray, List.set_cons_zero, List.set_cons_succ]
          refine wpList_plain rfl fun K hK => ?_
          refine wp_lit1x3 24 49 _ rfl Tryz.underlying24 (by kernel_rfl) (by rfl) ?_
          refine hK _ _ ?_
          clear hK K
          try simp only [Act.put, List.getElem_toArray, List.getElem_cons_succ, List.getElem_cons_zero, List.setIfInBounds_toArray, List.set_cons_zero, List.set_cons_succ]
          refine wpList_nm ?_
          intro W5 hW
          have HL := Lib.hid (show ORow W5 w.heap.size (.slice (some ⟨w4.heap.size, 0, none⟩) 1 1) [(15, 1 + y, (M.length : Int))] from by rw [hW]; exact row_lit SZ rfl (by omega))
          have n : Nw w4 W5 := by rw [hW]; exact (Ch.refl _ _).alloc _
          replace HD := Lib.hid (HD.out.kept n (fun _ _ e => e))
          replace HN := Lib.hid (HN.out.trans' n (fun _ _ e => e.elim))
          replace SZ := Nat.le_trans SZ n.size
          replace HO := Lib.hid (HO.out.ch' n (fun _ _ e => e))
          clear hW n
          refine wpList_plain rfl fun K hK => ?_
          go_simp
          refine hK _ _ ?_
          clear hK K
          try simp only [Act.put, List.getElem_toArray, List.getElem_cons_succ, List.getElem_cons_zero, List.setIfInBounds_toArray, List.set_cons_zero, List.set_cons_succ]
          refine wpList_plain rfl fun K hK => ?_
          refine wp_appOps _ (.tmp 42) (.tmp 43) rfl w.heap.size _ _ (by rfl) HL.out w.heap.size _ M (by rfl) HO.out (fun h => by rw [h] at hpos; simp at hpos) (by simp only [List.length_cons, List.length_nil]; omega) (by omega) ?_
          intro v9 w9 hrow9 hgr9 hnil9
          have hlb : w.heap.size ≤ w4.heap.size := (HL.out.lt w4.heap.size rfl).1
          have cg : Ch (fun j => j = w4.heap.size) W5 w9 := (Ch.refl _ _).grown hgr9 (fun k e _ => (Option.some.inj e).symm)
          replace HD := Lib.hid (HD.out.kept cg (fun k hk e => by have e' : k = w4.heap.size := e; have := HD.out.far; omega))
          replace HN := Lib.hid (HN.out.grown hgr9 (fun k e hk => by have e' : w4.heap.size = k := Option.some.inj e; omega))
          refine hK _ _ ?_
          clear hK K
          try simp only [Act.put, List.getElem_toArray, List.getElem_cons_succ, List.getElem_cons_zero, List.setIfInBounds_toArray, List.set_cons_zero, List.set_cons_succ]
          refine wpList_plain rfl fun K hK => ?_
          go_simp
          refine hK _ _ ?_
          clear hK K
          try simp only [Act.put, List.getElem_toArray, List.getElem_cons_succ, List.getElem_cons_zero, List.setIfInBounds_toArray, List.set_cons_zero, List.set_cons_succ]
          go_wp2_with (fail)
          refine HR.out _ _ _ _ HD.out hrow9 (by rw [List.length_append, List.length_cons]; omega) (by simp only [List.length_append, List.length_cons, List.length_nil]; omega) ?_ HN.out
          exact Runs.loop hrunO (by omega) hpos (by omega) (by omega) (by omega)
        · as_aux_lemma =>
          have e3 : (q == 3) = false := by simp [q4]
          clear q4
          go_upto_region 9 with (fail)
          refine wp_region_lit ?_
          refine wpList_plain rfl fun K hK => ?_
          go_simp
          refine hK _ _ ?_
          clear hK K
          try simp only [Act.put, List.getElem_toArray, List.getElem_cons_succ, List.getElem_cons_zero, List.setIfInBounds_toArray, List.set_cons_zero, List.set_cons_succ]
          refine wpList_plain rfl fun K hK => ?_
          go_simp
          go_at_call 18
          refine Next_any lo b _ l k5 2 _ _ HD.out (by omega) (by omega) ?_
          intro w6 d1 c1
          obtain ⟨ky, hky⟩ : ∃ kk, nk l k5 = kk := ⟨_, rfl⟩
          rw [hky] at d1
          clear hky
          replace SZ := Nat.le_trans SZ c1.size
          replace HO := Lib.hid (HO.out.ch' c1 (fun k hk e => by have e' : k = b := e; have := (HO.out.lt k hk).1; omega))
          replace HD := Lib.hid d1
          replace HN := Lib.hid (HN.out.trans c1)
          obtain ⟨ly, uy⟩ := nx_in l k5 2 (by omega)
          obtain ⟨y, hy⟩ : ∃ xx, nx l k5 2 = xx := ⟨_, rfl⟩
          rw [hy] at ly uy ⊢
          clear hy d1 c1
          have wy : IntKind.i64.wrap (10 + y) = 10 + y := by rw [IntKind.wrap_i64]; omega
          refine hK _ _ ?_
          clear hK K
          try simp only [Act.put, List.getElem_toArray, List.getElem_cons_succ, List.getElem_cons_zero, List.setIfInBounds_toArray, List.set_cons_zero, List.set_cons_succ]
          refine wpList_plain rfl fun K hK => ?_
          go_simp
          refine hK _ _ ?_
          clear hK K
          try simp only [Act.put, List.getElem_toArray, List.getElem_cons_succ, List.getElem_cons_zero, List.setIfInBounds_toArray, List.set_cons_zero, List.set_cons_succ]
          refine wpList_plain rfl fun K hK => ?_
          go_simp
          refine hK _ _ ?_
          clear hK K
          try simp only [Act.put, List.getElem_toArray, List.getElem_cons_succ, List.getElem_cons_zero, List.setIfInBounds_toArray, List.set_cons_zero, List.set_cons_succ]
          refine wpList_plain rfl fun K hK => ?_
          go_simp
          refine hK _ _ ?_
          clear hK K
          try simp only [Act.put, List.getElem_toArray, List.getElem_cons_succ, List.getElem_cons_zero, List.setIfInBounds_toArray, List.set_cons_zero, List.set_cons_succ]
          refine wpList_plain rfl fun K hK => ?_
          go_simp
          go_at_call 18
          refine Next_any lo b _ l ky np _ _ HD.out (by omega) (by omega) ?_
          intro w7 d1 c1
          obtain ⟨kg, hkg⟩ : ∃ kk, nk l ky = kk := ⟨_, rfl⟩
          rw [hkg] at d1
          clear hkg
          replace SZ := Nat.le_trans SZ c1.size
          replace HO := Lib.hid (HO.out.ch' c1 (fun k hk e => by have e' : k = b := e; have := (HO.out.lt k hk).1; omega))
          replace HD := Lib.hid d1
          replace HN := Lib.hid (HN.out.trans c1)
          obtain ⟨lg, ug⟩ := nx_in l ky np (by omega)
          obtain ⟨g, hg⟩ : ∃ xx, nx l ky np = xx := ⟨_, rfl⟩
          rw [hg] at lg ug ⊢
          clear hg d1 c1
          refine hK _ _ ?_
          clear hK K
          try simp only [Act.put, List.getElem_toArray, List.getElem_cons_succ, List.getElem_cons_zero, List.setIfInBounds_toArray, List.set_cons_zero, List.set_cons_succ]
          refine wpList_plain rfl fun K hK => ?_
          go_simp
          go_at_call 38
          refine op_any (10 + y) g 0 _ _ ?_
          intro w8 n
          replace HD := Lib.hid (HD.out.kept n (fun _ _ e => e))
          replace HN := Lib.hid (HN.out.trans' n (fun _ _ e => e.elim))
          replace SZ := Nat.le_trans SZ n.size
          replace HO := Lib.hid (HO.out.ch' n (fun _ _ e => e))
          clear n
          refine hK _ _ ?_
          clear hK K
          try simp only [Act.put, List.getElem_toArray, List.getElem_cons_succ, List.getElem_cons_zero, List.setIfInBounds_toArray, List.set_cons_zero, List.set_cons_succ]
          refine wpList_plain rfl fun K hK => ?_
          go_simp
          refine hK _ _ ?_
          clear hK K
          try simp only [Act.put, List.getElem_toArray, List.getElem_cons_succ, List.getElem_cons_zero, List.setIfInBounds_toArray, List.set_cons_zero, List.set_cons_succ]
          refine wpList_plain rfl fun K hK => ?_
          go_simp
          go_at_call 18
          refine Next_any lo b _ l kg 300 _ _ HD.out (by omega) (by omega) ?_
          intro w9 d1 c1
          obtain ⟨kh, hkh⟩ : ∃ kk, nk l kg = kk := ⟨_, rfl⟩
          rw [hkh] at d1
          clear hkh
          replace SZ := Nat.le_trans SZ c1.size
          replace HO := Lib.hid (HO.out.ch' c1 (fun k hk e => by have e' : k = b := e; have := (HO.out.lt k hk).1; omega))
          replace HD := Lib.hid d1
          replace HN := Lib.hid (HN.out.trans c1)
          obtain ⟨lh, uh⟩ := nx_in l kg 300 (by omega)
          obtain ⟨h, hh⟩ : ∃ xx, nx l kg 300 = xx := ⟨_, rfl⟩
          rw [hh] at lh uh ⊢
          clear hh d1 c1
          have wh : IntKind.i64.wrap (h - 100) = h - 100 := by rw [IntKind.wrap_i64]; omega
          refine hK _ _ ?_
          clear hK K
          try simp only [Act.put, List.getElem_toArray, List.getElem_cons_succ, List.getElem_cons_zero, List.setIfInBounds_toArray, List.set_cons_zero, List.set_cons_succ]
          refine wpList_plain rfl fun K hK => ?_
          go_simp
          refine hK _ _ ?_
          clear hK K
          try simp only [Act.put, List.getElem_toArray, List.getElem_cons_succ, List.getElem_cons_zero, List.setIfInBounds_toArray, List.set_cons_zero, List.set_cons_succ]
          refine wpList_plain rfl fun K hK => ?_
          go_simp
          go_at_call 38
          refine op_any 1 (h - 100) 0 _ _ ?_
          intro w10 n
          replace HD := Lib.hid (HD.out.kept n (fun _ _ e => e))
          replace HN := Lib.hid (HN.out.trans' n (fun _ _ e => e.elim))
          replace SZ := Nat.le_trans SZ n.size
          replace HO := Lib.hid (HO.out.ch' n (fun _ _ e => e))
          clear n
          refine hK _ _ ?_
          clear hK K
          try simp only [Act.put, List.getElem_toArray, List.getElem_cons_succ, List.getElem_cons_zero, List.setIfInBounds_toArray, List.set_cons_zero, List.set_cons_succ]
          refine wpList_plain rfl fun K hK => ?_
          go_simp
          go_at_call 38
          refine op_any 3 0 0 _ _ ?_
          intro w11 n
          replace HD := Lib.hid (HD.out.kept n (fun _ _ e => e))
          replace HN := Lib.hid (HN.out.trans' n (fun _ _ e => e.elim))
          replace SZ := Nat.le_trans SZ n.size
          replace HO := Lib.hid (HO.out.ch' n (fun _ _ e => e))
          clear n
          refine hK _ _ ?_
          clear hK K
          try simp only [Act.put, List.getElem_toArray, List.getElem_cons_succ, List.getElem_cons_zero, List.setIfInBounds_toArray, List.set_cons_zero, List.set_cons_succ]
          refine wpList_plain rfl fun K hK => ?_
          go_simp
          refine hK _ _ ?_
          clear hK K
          try simp only [Act.put, List.getElem_toArray, List.getElem_cons_succ, List.getElem_cons_zero, List.setIfInBounds_toArray, List.set_cons_zero, List.set_cons_succ]
          refine wpList_plain rfl fun K hK => ?_
          go_simp
          refine hK _ _ ?_
          clear hK K
          try simp only [Act.put, List.getElem_toArray, List.getElem_cons_succ, List.getElem_cons_zero, List.setIfInBounds_toArray, List.set_cons_zero, List.set_cons_succ]
          refine wpList_plain rfl fun K hK => ?_
          go_simp
          go_at_call 38
          refine op_any 14 (M.length : Int) 0 _ _ ?_
          intro w12 n
          replace HD := Lib.hid (HD.out.kept n (fun _ _ e => e))
          replace HN := Lib.hid (HN.out.trans' n (fun _ _ e => e.elim))
          replace SZ := Nat.le_trans SZ n.size
          replace HO := Lib.hid (HO.out.ch' n (fun _ _ e => e))
          clear n
          refine hK _ _ ?_
          clear hK K
          try simp only [Act.put, List.getElem_toArray, List.getElem_cons_succ, List.getElem_cons_zero, List.setIfInBounds_toArray, List.set_cons_zero, List.set_cons_succ]
          refine wpList_plain rfl fun K hK => ?_
          refine wp_lit4x3 24 49 _ _ _ _ rfl Tryz.underlying24 (by kernel_rfl) (by rfl) (by rfl) (by rfl) (by rfl) ?_
          refine hK _ _ ?_
          clear hK K
          try simp only [Act.put, List.getElem_toArray, List.getElem_cons_succ, List.getElem_cons_zero, List.setIfInBounds_toArray, List.set_cons_zero, List.set_cons_succ]
          refine wpList_nm ?_
          intro W13 hW
          have HL := Lib.hid (show ORow W13 w.heap.size (.slice (some ⟨w12.heap.size, 0, none⟩) 4 4) [(10 + y, g, 0), (1, h - 100, 0), (3, 0, 0), (14, (M.length : Int), 0)] from by rw [hW]; exact row_lit SZ rfl (by omega))
          have n : Nw w12 W13 := by rw [hW]; exact (Ch.refl _ _).alloc _
          replace HD := Lib.hid (HD.out.kept n (fun _ _ e => e))
          replace HN := Lib.hid (HN.out.trans' n (fun _ _ e => e.elim))
          replace SZ := Nat.le_trans SZ n.size
          replace HO := Lib.hid (HO.out.ch' n (fun _ _ e => e))
          clear hW n
          refine wpList_plain rfl fun K hK => ?_
          go_simp
          refine hK _ _ ?_
          clear hK K
          try simp only [Act.put, List.getElem_toArray, List.getElem_cons_succ, List.getElem_cons_zero, List.setIfInBounds_toArray, List.set_cons_zero, List.set_cons_succ]
          go_upto_region 10 with (fail)
          refine wp_region_lit ?_
          refine wpList_plain rfl fun K hK => ?_
          go_simp
          refine hK _ _ ?_
          clear hK K
          try simp only [Act.put, List.getElem_toArray, List.getElem_cons_succ, List.getElem_cons_zero, List.setIfInBounds_toArray, List.set_cons_zero, List.set_cons_succ]
          refine wpList_plain rfl fun K hK => ?_
          go_simp
          refine hK _ _ ?_
          clear hK K
          try simp only [Act.put, List.getElem_toArray, List.getElem_cons_succ, List.getElem_cons_zero, List.setIfInBounds_toArray, List.set_cons_zero, List.set_cons_succ]
          refine wpList_plain rfl fun K hK => ?_
          refine wp_appOps _ (.tmp 61) (.tmp 62) rfl w.heap.size _ _ (by rfl) HL.out w.heap.size _ M (by rfl) HO.out (fun h => by rw [h] at hpos; simp at hpos) (by simp only [List.length_cons, List.length_nil]; omega) (by omega) ?_
          intro v9 w9 hrow9 hgr9 hnil9
          have hlb : w.heap.size ≤ w12.heap.size := (HL.out.lt w12.heap.size rfl).1
          have cg : Ch (fun j => j = w12.heap.size) W13 w9 := (Ch.refl _ _).grown hgr9 (fun k e _ => (Option.some.inj e).symm)
          replace HD := Lib.hid (HD.out.kept cg (fun k hk e => by have e' : k = w12.heap.size := e; have := HD.out.far; omega))
          replace HN := Lib.hid (HN.out.grown hgr9 (fun k e hk => by have e' : w12.heap.size = k := Option.some.inj e; omega))
          refine hK _ _ ?_
          clear hK K
          try simp only [Act.put, List.getElem_toArray, List.getElem_cons_succ, List.getElem_cons_zero, List.setIfInBounds_toArray, List.set_cons_zero, List.set_cons_succ]
          refine wpList_plain rfl fun K hK => ?_
          go_simp
          refine hK _ _ ?_
          clear hK K
          try simp only [Act.put, List.getElem_toArray, List.getElem_cons_succ, List.getElem_cons_zero, List.setIfInBounds_toArray, List.set_cons_zero, List.set_cons_succ]
          go_wp2_with (fail)
          refine HR.out _ _ _ _ HD.out hrow9 (by rw [List.length_append, List.length_cons]; omega) (by simp only [List.length_append, List.length_cons, List.length_nil]; omega) ?_ HN.out
          exact runs_head ⟨lg, ug⟩ ⟨ly, uy⟩ hrunO hpos (by omega)
      · as_aux_lemma =>
        have et : (t == 0) = false := by simp [t3]
        clear t3
        have hpos := hl1
        have hmax : L.length ≤ 5 + 9 * e + 5 := by omega
        have hrunO := hrun
        by_cases q4 : q = 3
        · as_aux_lemma =>
          have e3 : (q == 3) = true := by simp [q4]
          clear q4
          go_upto_region 8 with (fail)
          refine wp_region_lit ?_
          refine wpList_plain rfl fun K hK => ?_
          go_simp
          refine hK _ _ ?_
          clear hK K
          try simp only [Act.put, List.getElem_toArray, List.getElem_cons_succ, List.getElem_cons_zero, List.setIfInBounds_toArray, List.set_cons_zero, List.set_cons_succ]
          refine wpList_plain rfl fun K hK => ?_
          go_simp
          go_at_call 18
          refine Next_any lo b _ l kt 4 _ _ HD.out (by omega) (by omega) ?_
          intro w14 d1 c1
          obtain ⟨ky, hky⟩ : ∃ kk, nk l kt = kk := ⟨_, rfl⟩
          rw [hky] at d1
          clear hky
          replace SZ := Nat.le_trans SZ c1.size
          replace HO := Lib.hid (HO.out.ch' c1 (fun k hk e => by have e' : k = b := e; have := (HO.out.lt k hk).1; omega))
          replace HD := Lib.hid d1
          replace HN := Lib.hid (HN.out.trans c1)
          obtain ⟨ly, uy⟩ := nx_in l kt 4 (by omega)
          obtain ⟨y, hy⟩ : ∃ xx, nx l kt 4 = xx := ⟨_, rfl⟩
          rw [hy] at ly uy ⊢
          clear hy d1 c1
          have wy : IntKind.i64.wrap (1 + y) = 1 + y := by rw [IntKind.wrap_i64]; omega
          refine hK _ _ ?_
          clear hK K
          try simp only [Act.put, List.getElem_toArray, List.getElem_cons_succ, List.getElem_cons_zero, List.setIfInBounds_toArray, List.set_cons_zero, List.set_cons_succ]
          refine wpList_plain rfl fun K hK => ?_
          go_simp
          refine hK _ _ ?_
          clear hK K
          try simp only [Act.put, List.getElem_toArray, List.getElem_cons_succ, List.getElem_cons_zero, List.setIfInBounds_toArray, List.set_cons_zero, List.set_cons_succ]
          refine wpList_plain rfl fun K hK => ?_
          go_simp
          refine hK _ _ ?_
          clear hK K
          try simp only [Act.put, List.getElem_toArray, List.getElem_cons_succ, List.getElem_cons_zero, List.setIfInBounds_toArray, List.set_cons_zero, List.set_cons_succ]
          refine wpList_plain rfl fun K hK => ?_
          go_simp
          refine hK _ _ ?_
          clear hK K
          try simp only [Act.put, List.getElem_toArray, List.getElem_cons_succ, List.getElem_cons_zero, List.setIfInBounds_toArray, List.set_cons_zero, List.set_cons_succ]
          refine wpList_plain rfl fun K hK => ?_
          go_simp
          go_at_call 38
          refine op_any 15 (1 + y) (L.length : Int) _ _ ?_
          intro w15 n
          replace HD := Lib.hid (HD.out.kept n (fun _ _ e => e))
          replace HN := Lib.hid (HN.out.trans' n (fun _ _ e => e.elim))
          replace SZ := Nat.le_trans SZ n.size
          replace HO := Lib.hid (HO.out.ch' n (fun _ _ e => e))
          clear n
          refine hK _ _ ?_
          clear hK K
          try simp only [Act.put, List.getElem_toArray, List.getElem_cons_succ, List.getElem_cons_zero, List.setIfInBounds_toArray, List.set_cons_zero, List.set_cons_succ]
          refine wpList_plain rfl fun K hK => ?_
          refine wp_lit1x3 24 49 _ rfl Tryz.underlying24 (by kernel_rfl) (by rfl) ?_
          refine hK _ _ ?_
          clear hK K
          try simp only [Act.put, List.getElem_toArray, List.getElem_cons_succ, List.getElem_cons_zero, List.setIfInBounds_toArray, List.set_cons_zero, List.set_cons_succ]
          refine wpList_nm ?_
          intro W16 hW
          have HL := Lib.hid (show ORow W16 w.heap.size (.slice (some ⟨w15.heap.size, 0, none⟩) 1 1) [(15, 1 + y, (L.length : Int))] from by rw [hW]; exact row_lit SZ rfl (by omega))
          have n : Nw w15 W16 := by rw [hW]; exact (Ch.refl _ _).alloc _
          replace HD := Lib.hid (HD.out.kept n (fun _ _ e => e))
          replace HN := Lib.hid (HN.out.trans' n (fun _ _ e => e.elim))
          replace SZ := Nat.le_trans SZ n.size
          replace HO := Lib.hid (HO.out.ch' n (fun _ _ e => e))
          clear hW n
          refine wpList_plain rfl fun K hK => ?_
          go_simp
          refine hK _ _ ?_
          clear hK K
          try simp only [Act.put, List.getElem_toArray, List.getElem_cons_succ, List.getElem_cons_zero, List.setIfInBounds_toArray, List.set_cons_zero, List.set_cons_succ]
          refine wpList_plain rfl fun K hK => ?_
          refine wp_appOps _ (.tmp 42) (.tmp 43) rfl w.heap.size _ _ (by rfl) HL.out w.heap.size _ L (by rfl) HO.out (fun h => by rw [h] at hpos; simp at hpos) (by simp only [List.length_cons, List.length_nil]; omega) (by omega) ?_
          intro v9 w9 hrow9 hgr9 hnil9
          have hlb : w.heap.size ≤ w15.heap.size := (HL.out.lt w15.heap.size rfl).1
          have cg : Ch (fun j => j = w15.heap.size) W16 w9 := (Ch.refl _ _).grown hgr9 (fun k e _ => (Option.some.inj e).symm)
          replace HD := Lib.hid (HD.out.kept cg (fun k hk e => by have e' : k = w15.heap.size := e; have := HD.out.far; omega))
          replace HN := Lib.hid (HN.out.grown hgr9 (fun k e hk => by have e' : w15.heap.size = k := Option.some.inj e; omega))
          refine hK _ _ ?_
          clear hK K
          try simp only [Act.put, List.getElem_toArray, List.getElem_cons_succ, List.getElem_cons_zero, List.setIfInBounds_toArray, List.set_cons_zero, List.set_cons_succ]
          refine wpList_plain rfl fun K hK => ?_
          go_simp
          refine hK _ _ ?_
          clear hK K
          try simp only [Act.put, List.getElem_toArray, List.getElem_cons_succ, List.getElem_cons_zero, List.setIfInBounds_toArray, List.set_cons_zero, List.set_cons_succ]
          go_wp2_with (fail)
          refine HR.out _ _ _ _ HD.out hrow9 (by rw [List.length_append, List.length_cons]; omega) (by simp only [List.length_append, List.length_cons, List.length_nil]; omega) ?_ HN.out
          exact Runs.loop hrunO (by omega) hpos (by omega) (by omega) (by omega)
        · as_aux_lemma =>
          have e3 : (q == 3) = false := by simp [q4]
          clear q4
          go_upto_region 9 with (fail)
          refine wp_region_lit ?_
          refine wpList_plain rfl fun K hK => ?_
          go_simp
          refine hK _ _ ?_
          clear hK K
          try simp only [Act.put, List.getElem_toArray, List.getElem_cons_succ, List.getElem_cons_zero, List.setIfInBounds_toArray, List.set_cons_zero, List.set_cons_succ]
          refine wpList_plain rfl fun K hK => ?_
          go_simp
          go_at_call 18
          refine Next_any lo b _ l kt 2 _ _ HD.out (by omega) (by omega) ?_
          intro w17 d1 c1
          obtain ⟨ky, hky⟩ : ∃ kk, nk l kt = kk := ⟨_, rfl⟩
          rw [hky] at d1
          clear hky
          replace SZ := Nat.le_trans SZ c1.size
          replace HO := Lib.hid (HO.out.ch' c1 (fun k hk e => by have e' : k = b := e; have := (HO.out.lt k hk).1; omega))
          replace HD := Lib.hid d1
          replace HN := Lib.hid (HN.out.trans c1)
          obtain ⟨ly, uy⟩ := nx_in l kt 2 (by omega)
          obtain ⟨y, hy⟩ : ∃ xx, nx l kt 2 = xx := ⟨_, rfl⟩
          rw [hy] at ly uy ⊢
          clear hy d1 c1
          have wy : IntKind.i64.wrap (10 + y) = 10 + y := by rw [IntKind.wrap_i64]; omega
          refine hK _ _ ?_
          clear hK K
          try simp only [Act.put, List.getElem_toArray, List.getElem_cons_succ, List.getElem_cons_zero, List.setIfInBounds_toArray, List.set_cons_zero, List.set_cons_succ]
          refine wpList_plain rfl fun K hK => ?_
          go_simp
          refine hK _ _ ?_
          clear hK K
          try simp only [Act.put, List.getElem_toArray, List.getElem_cons_succ, List.getElem_cons_zero, List.setIfInBounds_toArray, List.set_cons_zero, List.set_cons_succ]
          refine wpList_plain rfl fun K hK => ?_
          go_simp
          refine hK _ _ ?_
          clear hK K
          try simp only [Act.put, List.getElem_toArray, List.getElem_cons_succ, List.getElem_cons_zero, List.setIfInBounds_toArray, List.set_cons_zero, List.set_cons_succ]
          refine wpList_plain rfl fun K hK => ?_
          go_simp
          refine hK _ _ ?_
          clear hK K
          try simp only [Act.put, List.getElem_toArray, List.getElem_cons_succ, List.getElem_cons_zero, List.setIfInBounds_toArray, List.set_cons_zero, List.set_cons_succ]
          refine wpList_plain rfl fun K hK => ?_
          go_simp
          go_at_call 18
          refine Next_any lo b _ l ky np _ _ HD.out (by omega) (by omega) ?_
          intro w18 d1 c1
          obtain ⟨kg, hkg⟩ : ∃ kk, nk l ky = kk := ⟨_, rfl⟩
          rw [hkg] at d1
          clear hkg
          replace SZ := Nat.le_trans SZ c1.size
          replace HO := Lib.hid (HO.out.ch' c1 (fun k hk e => by have e' : k = b := e; have := (HO.out.lt k hk).1; omega))
          replace HD := Lib.hid d1
          replace HN := Lib.hid (HN.out.trans c1)
          obtain ⟨lg, ug⟩ := nx_in l ky np (by omega)
          obtain ⟨g, hg⟩ : ∃ xx, nx l ky np = xx := ⟨_, rfl⟩
          rw [hg] at lg ug ⊢
          clear hg d1 c1
          refine hK _ _ ?_
          clear hK K
          try simp only [Act.put, List.getElem_toArray, List.getElem_cons_succ, List.getElem_cons_zero, List.setIfInBounds_toArray, List.set_cons_zero, List.set_cons_succ]
          refine wpList_plain rfl fun K hK => ?_
          go_simp
          go_at_call 38
          refine op_any (10 + y) g 0 _ _ ?_
          intro w19 n
          replace HD := Lib.hid (HD.out.kept n (fun _ _ e => e))
          replace HN := Lib.hid (HN.out.trans' n (fun _ _ e => e.elim))
          replace SZ := Nat.le_trans SZ n.size
          replace HO := Lib.hid (HO.out.ch' n (fun _ _ e => e))
          clear n
          refine hK _ _ ?_
          clear hK K
          try simp only [Act.put, List.getElem_toArray, List.getElem_cons_succ, List.getElem_cons_zero, List.setIfInBounds_toArray, List.set_cons_zero, List.set_cons_succ]
          refine wpList_plain rfl fun K hK => ?_
          go_simp
          refine hK _ _ ?_
          clear hK K
          try simp only [Act.put, List.getElem_toArray, List.getElem_cons_succ, List.getElem_cons_zero, List.setIfInBounds_toArray, List.set_cons_zero, List.set_cons_succ]
          refine wpList_plain rfl fun K hK => ?_
          go_simp
          go_at_call 18
          refine Next_any lo b _ l kg 300 _ _ HD.out (by omega) (by omega) ?_
          intro w20 d1 c1
          obtain ⟨kh, hkh⟩ : ∃ kk, nk l kg = kk := ⟨_, rfl⟩
          rw [hkh] at d1
          clear hkh
          replace SZ := Nat.le_trans SZ c1.size
          replace HO := Lib.hid (HO.out.ch' c1 (fun k hk e => by have e' : k = b := e; have := (HO.out.lt k hk).1; omega))
          replace HD := Lib.hid d1
          replace HN := Lib.hid (HN.out.trans c1)
          obtain ⟨lh, uh⟩ := nx_in l kg 300 (by omega)
          obtain ⟨h, hh⟩ : ∃ xx, nx l kg 300 = xx := ⟨_, rfl⟩
          rw [hh] at lh uh ⊢
          clear hh d1 c1
          have wh : IntKind.i64.wrap (h - 100) = h - 100 := by rw [IntKind.wrap_i64]; omega
          refine hK _ _ ?_
          clear hK K
          try simp only [Act.put, List.getElem_toArray, List.getElem_cons_succ, List.getElem_cons_zero, List.setIfInBounds_toArray, List.set_cons_zero, List.set_cons_succ]
          refine wpList_plain rfl fun K hK => ?_
          go_simp
          refine hK _ _ ?_
          clear hK K
          try simp only [Act.put, List.getElem_toArray, List.getElem_cons_succ, List.getElem_cons_zero, List.setIfInBounds_toArray, List.set_cons_zero, List.set_cons_succ]
          refine wpList_plain rfl fun K hK => ?_
          go_simp
          go_at_call 38
          refine op_any 1 (h - 100) 0 _ _ ?_
          intro w21 n
          replace HD := Lib.hid (HD.out.kept n (fun _ _ e => e))
          replace HN := Lib.hid (HN.out.trans' n (fun _ _ e => e.elim))
          replace SZ := Nat.le_trans SZ n.size
          replace HO := Lib.hid (HO.out.ch' n (fun _ _ e => e))
          clear n
          refine hK _ _ ?_
          clear hK K
          try simp only [Act.put, List.getElem_toArray, List.getElem_cons_succ, List.getElem_cons_zero, List.setIfInBounds_toArray, List.set_cons_zero, List.set_cons_succ]
          refine wpList_plain rfl fun K hK => ?_
          go_simp
          go_at_call 38
          refine op_any 3 0 0 _ _ ?_
          intro w22 n
          replace HD := Lib.hid (HD.out.kept n (fun _ _ e => e))
          replace HN := Lib.hid (HN.out.trans' n (fun _ _ e => e.elim))
          replace SZ := Nat.le_trans SZ n.size
          replace HO := Lib.hid (HO.out.ch' n (fun _ _ e => e))
          clear n
          refine hK _ _ ?_
          clear hK K
          try simp only [Act.put, List.getElem_toArray, List.getElem_cons_succ, List.getElem_cons_zero, List.setIfInBounds_toArray, List.set_cons_zero, List.set_cons_succ]
          refine wpList_plain rfl fun K hK => ?_
          go_simp
          refine hK _ _ ?_
          clear hK K
          try simp only [Act.put, List.getElem_toArray, List.getElem_cons_succ, List.getElem_cons_zero, List.setIfInBounds_toArray, List.set_cons_zero, List.set_cons_succ]
          refine wpList_plain rfl fun K hK => ?_
          go_simp
          refine hK _ _ ?_
          clear hK K
          try simp only [Act.put, List.getElem_toArray, List.getElem_cons_succ, List.getElem_cons_zero, List.setIfInBounds_toArray, List.set_cons_zero, List.set_cons_succ]
          refine wpList_plain rfl fun K hK => ?_
          go_simp
          go_at_call 38
          refine op_any 14 (L.length : Int) 0 _ _ ?_
          intro w23 n
          replace HD := Lib.hid (HD.out.kept n (fun _ _ e => e))
          replace HN := Lib.hid (HN.out.trans' n (fun _ _ e => e.elim))
          replace SZ := Nat.le_trans SZ n.size
          replace HO := Lib.hid (HO.out.ch' n (fun _ _ e => e))
          clear n
          refine hK _ _ ?_
          clear hK K
          try simp only [Act.put, List.getElem_toArray, List.getElem_cons_succ, List.getElem_cons_zero, List.setIfInBounds_toArray, List.set_cons_zero, List.set_cons_succ]
          refine wpList_plain rfl fun K hK => ?_
          refine wp_lit4x3 24 49 _ _ _ _ rfl Tryz.underlying24 (by kernel_rfl) (by rfl) (by rfl) (by rfl) (by rfl) ?_
          refine hK _ _ ?_
          clear hK K
          try simp only [Act.put, List.getElem_toArray, List.getElem_cons_succ, List.getElem_cons_zero, List.setIfInBounds_toArray, List.set_cons_zero, List.set_cons_succ]
          refine wpList_nm ?_
          intro W24 hW
          have HL := Lib.hid (show ORow W24 w.heap.size (.slice (some ⟨w23.heap.size, 0, none⟩) 4 4) [(10 + y, g, 0), (1, h - 100, 0), (3, 0, 0), (14, (L.length : Int), 0)] from by rw [hW]; exact row_lit SZ rfl (by omega))
          have n : Nw w23 W24 := by rw [hW]; exact (Ch.refl _ _).alloc _
          replace HD := Lib.hid (HD.out.kept n (fun _ _ e => e))
          replace HN := Lib.hid (HN.out.trans' n (fun _ _ e => e.elim))
          replace SZ := Nat.le_trans SZ n.size
          replace HO := Lib.hid (HO.out.ch' n (fun _ _ e => e))
          clear hW n
          refine wpList_plain rfl fun K hK => ?_
          go_simp
          refine hK _ _ ?_
          clear hK K
          try simp only [Act.put, List.getElem_toArray, List.getElem_cons_succ, List.getElem_cons_zero, List.setIfInBounds_toArray, List.set_cons_zero, List.set_cons_succ]
          go_upto_region 10 with (fail)
          refine wp_region_lit ?_
          refine wpList_plain rfl fun K hK => ?_
          go_simp
          refine hK _ _ ?_
          clear hK K
          try simp only [Act.put, List.getElem_toArray, List.getElem_cons_succ, List.getElem_cons_zero, List.setIfInBounds_toArray, List.set_cons_zero, List.set_cons_succ]
          refine wpList_plain rfl fun K hK => ?_
          go_simp
          refine hK _ _ ?_
          clear hK K
          try simp only [Act.put, List.getElem_toArray, List.getElem_cons_succ, List.getElem_cons_zero, List.setIfInBounds_toArray, List.set_cons_zero, List.set_cons_succ]
          refine wpList_plain rfl fun K hK => ?_
          refine wp_appOps _ (.tmp 61) (.tmp 62) rfl w.heap.size _ _ (by rfl) HL.out w.heap.size _ L (by rfl) HO.out (fun h => by rw [h] at hpos; simp at hpos) (by simp only [List.length_cons, List.length_nil]; omega) (by omega) ?_
          intro v9 w9 hrow9 hgr9 hnil9
          have hlb : w.heap.size ≤ w23.heap.size := (HL.out.lt w23.heap.size rfl).1
          have cg : Ch (fun j => j = w23.heap.size) W24 w9 := (Ch.refl _ _).grown hgr9 (fun k e _ => (Option.some.inj e).symm)
          replace HD := Lib.hid (HD.out.kept cg (fun k hk e => by have e' : k = w23.heap.size := e; have := HD.out.far; omega))
          replace HN := Lib.hid (HN.out.grown hgr9 (fun k e hk => by have e' : w23.heap.size = k := Option.some.inj e; omega))
          refine hK _ _ ?_
          clear hK K
          try simp only [Act.put, List.getElem_toArray, List.getElem_cons_succ, List.getElem_cons_zero, List.setIfInBounds_toArray, List.set_cons_zero, List.set_cons_succ]
          refine wpList_plain rfl fun K hK => ?_
          go_simp
          refine hK _ _ ?_
          clear hK K
          try simp only [Act.put, List.getElem_toArray, List.getElem_cons_succ, List.getElem_cons_zero, List.setIfInBounds_toArray, List.set_cons_zero, List.set_cons_succ]
          go_wp2_with (fail)
          refine HR.out _ _ _ _ HD.out hrow9 (by rw [List.length_append, List.length_cons]; omega) (by simp only [List.length_append, List.length_cons, List.length_nil]; omega) ?_ HN.out
          exact runs_head ⟨lg, ug⟩ ⟨ly, uy⟩ hrunO hpos (by omega)

end Go.Proofs.YtdpbdcaefdcooaaGreatDoor
