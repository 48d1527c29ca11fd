/-
  ref08: op, plain, piece, Made: programs that numbers make, verified ones.
-/
import Derived.Test.YtdpbdcaefdcooaaGreatDoorDrw
import Derived.Test.YtdpbdcaefdcooaaGreatDoorVq
import Derived.Test.YtdpbdcaefdcooaaGreatDoorCRow
import Derived.Test.YtdpbdcaefdcooaaGreatDoorSlr
import Derived.Deep.Cut
namespace Go.Proofs.YtdpbdcaefdcooaaGreatDoor
open Go.RowKit
set_option linter.unusedVariables false
set_option linter.unusedSimpArgs false
set_option maxRecDepth 100000

/-- The cells of operations. -/
def opC (L : List VOp) : List Value := L.flatMap fun o => [.int .i64 o.1, .int .i64 o.2.1, .int .i64 o.2.2]
theorem opC_len : ∀ L : List VOp, (opC L).length = L.length * 3
  | [] => rfl
  | o :: L => by
    have := opC_len L
    unfold opC at this ⊢
    rw [List.flatMap_cons, List.length_append, this]
    simp only [List.length_cons, List.length_nil]
    omega
theorem opC_append (L M : List VOp) : opC (L ++ M) = opC L ++ opC M := by simp [opC]
theorem opC_one {L : List VOp} : ∀ u ∈ opC L, u.oneCell' = true := by
  intro u hu
  unfold opC at hu
  obtain ⟨o, -, ho⟩ := List.mem_flatMap.1 hu
  simp at ho
  rcases ho with rfl | rfl | rfl <;> rfl
theorem opC_at : ∀ (X : List VOp) (k : Nat) (p : VOp), X[k]? = some p → (opC X)[k * 3]? = some (.int .i64 p.1) ∧ (opC X)[k * 3 + 1]? = some (.int .i64 p.2.1) ∧ (opC X)[k * 3 + 2]? = some (.int .i64 p.2.2)
  | x :: X, 0, p, h => by
    simp only [List.getElem?_cons_zero, Option.some.injEq] at h
    subst h
    exact ⟨rfl, rfl, rfl⟩
  | x :: X, k + 1, p, h => by
    have := opC_at X k p (by simpa using h)
    rw [show (k + 1) * 3 = k * 3 + 3 by omega]
    exact this
  | [], _, _, h => by cases h
/-- The slice v has a block of its own, at or beyond B, and holds the program L. -/
abbrev ORow (w : World) (B : Nat) (v : Value) (L : List VOp) : Prop := CRow w 49 3 B v L.length (opC L)
theorem info_op : (Tryz.prog.info? 49).map (fun i => (i.zero, i.size, i.bytes)) = some (some (.agg #[.int .i64 0, .int .i64 0, .int .i64 0]), 3, 24) := by kernel_rfl
theorem wpList_nm {P : Program} {ops : Array Oper} {Q : Exit → Act → World → Prop} {rest : List Oper} {a : Act} {w : World} (h : ∀ W, W = w → wpList P ops Q rest a W) : wpList P ops Q rest a w := h _ rfl
theorem row_lit {W : World} {B n : Nat} {T : TypeId} {cs : List Value} (hB : B ≤ W.heap.size) (hl : cs.length = n * 3) (hn : n ≤ 1000000) : CRow (W.alloc (.cells cs.toArray T)) T 3 B (.slice (some ⟨W.heap.size, 0, none⟩) n n) n cs :=
  ⟨hl, Or.inr ⟨W.heap.size, n, cs.toArray, rfl, hB, heap_alloc_eq _ rfl, Nat.le_refl _, by unfold maxLen; omega, by simp [hl], by simp [← hl]⟩⟩
/-- A program is appended to a program, in one step. -/
theorem wp_appOps {o : Oper} {a : Act} {K : Act → World → Prop} {Q : Exit → Act → World → Prop} (w : World) (s x : Operand)
    (ho : o.op = .call { callee := .builtin .append, args := #[s, x], argTypes := #[24, 24] }) (B : Nat) (v : Value) (L : List VOp) (hs : a.eval s = v) (hown : ORow w B v L)
    (B' : Nat) (y : Value) (M : List VOp) (hx : a.eval x = y) (hM : ORow w B' y M) (hnil : M = [] → y = .slice none 0 0) (hn : L.length + M.length ≤ 1000000) (hB : B ≤ w.heap.size)
    (h : ∀ v' w', ORow w' B v' (L ++ M) → w.grownBy w' v.ownBlock → (M = [] → v' = v) → K (a.put o.dst v') w') : o.wp Tryz.prog a w K Q := by
  have hinfo := info_op
  cases hinf : Tryz.prog.info? 49 with
  | none => rw [hinf] at hinfo; cases hinfo
  | some i =>
    rw [hinf] at hinfo
    simp only [Option.map_some, Option.some.injEq, Prod.mk.injEq] at hinfo
    obtain ⟨e1, e2, e3⟩ := hinfo
    by_cases hm : M = []
    · subst hm
      have hy := hnil rfl
      subst hy
      have hrun := run_append_owned_none (P := Tryz.prog) w B 24 o.type 49 i 3 Tryz.underlying24 hinf _ _ _ hown
      have hk := h v w (by rw [List.append_nil]; exact hown) (World.grownBy.refl _ _) (fun _ => rfl)
      unfold Oper.wp
      simp [execOp, ho, resolve, invoke, builtin, hs, hx, hrun, Result.andThen]
      exact hk
    · have hpos : 0 < M.length := List.length_pos_iff.2 hm
      obtain ⟨ga, ca, ea⟩ := hM.form
      have hMC := hM
      rcases hM.2 with ⟨-, h0⟩ | ⟨g, cap, cur, hv, hb, hgg, hnc, hcm, hcs, ht⟩
      · omega
      · rw [hv] at hx
        refine wp_append_lies w s x 24 ho B 49 i _ 3 24 Tryz.underlying24 hinf e1 e2 e3 rfl (by omega) v L.length (opC L) hs hown ⟨g, 0, none⟩ M.length cap (opC M) hx (opC_len M) ?_ opC_one hpos (by unfold maxLen; omega) (by omega) hB _ rfl ?_
        · intro j u hj
          have hadd : (⟨g, 0, none⟩ : Addr).add j = ⟨g, j, none⟩ := by unfold Addr.add; split <;> simp_all
          rw [hadd, cell_of hgg, ← Array.getElem?_toList]
          rw [← ht, List.getElem?_take] at hj
          split at hj
          · exact hj
          · cases hj
        · intro g' cap' w' h2 h3 h4 _
          refine h _ w' ?_ h3 (fun e => absurd e hm)
          have e0 : (L ++ M).length = L.length + M.length := List.length_append
          show CRow w' 49 3 B _ (L ++ M).length (opC (L ++ M))
          rw [e0, opC_append]
          exact h2

set_option maxHeartbeats 1000000 in
theorem op_any (c n m : Int) (w : World) (R : Ending → World → Prop) (hR : ∀ w', Nw w w' → R (.returned (.agg #[.int .i64 c, .int .i64 n, .int .i64 m])) w') : Calls Tryz.prog 38 #[.int .i64 c, .int .i64 n, .int .i64 m] w R := by
  have HR := Lib.hid hR
  clear hR
  go_enter Tryz.func38, Tryz.ntmps38
  go_wp2_with (fail)
  refine post_named ?_
  intro W hW
  have hb : W.heap[w.heap.size]? = some (.cells #[.int .i64 c, .int .i64 n, .int .i64 m] 49 (0, 0)) := by rw [hW]; first | exact heap_alloc_eq _ rfl | exact heap_setCell_eq _ (heap_setCell_eq _ (heap_setCell_eq _ (heap_alloc_eq _ rfl)))
  have nn : Nw w W := by rw [hW]; first | exact (Ch.refl _ _).alloc _ | exact ((((Ch.refl (fun _ => False) w).alloc _).setb (fun h => by omega) _).setb (fun h => by omega) _).setb (fun h => by omega) _
  have z0 : W.cell? ⟨w.heap.size, 0, none⟩ = some (.int .i64 c) := by rw [cell_of hb]; rfl
  have z1 : W.cell? ⟨w.heap.size, 1, none⟩ = some (.int .i64 n) := by rw [cell_of hb]; rfl
  have z2 : W.cell? ⟨w.heap.size, 2, none⟩ = some (.int .i64 m) := by rw [cell_of hb]; rfl
  clear hW
  go_wp2
  exact bodyPost_ret (by simp [results, Tryz.results38, go_sem, *]) rfl (HR.out _ nn)


set_option maxHeartbeats 8000000 in
theorem plain_any (lo b : Nat) (v : Value) (l : List Int) (k : Nat) (np : Int) (w : World) (R : Ending → World → Prop) (h : DS w lo b v l k) (h0 : 0 < np) (h1 : np ≤ 1000000)
    (hR : ∀ w' x L k', DS w' lo b v l k' → ORow w' w.heap.size x L → 3 ≤ L.length → L.length ≤ 5 → Runs np 0 L 0 0 → Ch (· = b) w w' → R (.returned x) w') : Calls Tryz.prog 37 #[.pointer (some ⟨b, 0, none⟩), .int .i64 np] w R := by
  have HR := Lib.hid hR
  clear hR
  have HD := Lib.hid h
  have HN := Lib.hid (Ch.refl (· = b) w)
  have SZ : w.heap.size ≤ w.heap.size := Nat.le_refl _
  clear h
  go_enter Tryz.func37, Tryz.ntmps37
  go_wp2_with (go_at_call 38; fail)
  refine Next_any lo b _ l k np _ _ HD.out (by omega) (by omega) ?_
  intro w1 d1 c1
  obtain ⟨ki, hki⟩ : ∃ kk, nk l k = kk := ⟨_, rfl⟩
  rw [hki] at d1
  clear hki
  replace SZ := Nat.le_trans SZ c1.size
  replace HD := Lib.hid d1
  replace HN := Lib.hid (HN.out.trans c1)
  obtain ⟨li, ui⟩ := nx_in l k np (by omega)
  obtain ⟨i, hi⟩ : ∃ xx, nx l k np = xx := ⟨_, rfl⟩
  rw [hi] at li ui ⊢
  clear hi d1 c1
  go_wp2_with (go_at_call 38; fail)
  refine Next_any lo b _ l ki np _ _ HD.out (by omega) (by omega) ?_
  intro w2 d1 c1
  obtain ⟨kj, hkj⟩ : ∃ kk, nk l ki = kk := ⟨_, rfl⟩
  rw [hkj] at d1
  clear hkj
  replace SZ := Nat.le_trans SZ c1.size
  replace HD := Lib.hid d1
  replace HN := Lib.hid (HN.out.trans c1)
  obtain ⟨lj, uj⟩ := nx_in l ki np (by omega)
  obtain ⟨j, hj⟩ : ∃ xx, nx l ki np = xx := ⟨_, rfl⟩
  rw [hj] at lj uj ⊢
  clear hj d1 c1
  go_wp2_with (go_at_call 38; fail)
  refine Next_any lo b _ l kj 4 _ _ HD.out (by omega) (by omega) ?_
  intro w3 d1 c1
  obtain ⟨kq, hkq⟩ : ∃ kk, nk l kj = kk := ⟨_, rfl⟩
  rw [hkq] at d1
  clear hkq
  replace SZ := Nat.le_trans SZ c1.size
  replace HD := Lib.hid d1
  replace HN := Lib.hid (HN.out.trans c1)
  obtain ⟨lq, uq⟩ := nx_in l kj 4 (by omega)
  obtain ⟨q, hq⟩ : ∃ xx, nx l kj 4 = xx := ⟨_, rfl⟩
  rw [hq] at lq uq ⊢
  clear hq d1 c1
  have hq : q = 0 ∨ q = 1 ∨ q = 2 ∨ q = 3 := by omega
  clear lq uq
  rcases hq with rfl | rfl | rfl | rfl
  · as_aux_lemma =>
    go_upto_region 4 with (fail)
    refine wp_region_lit ?_
    refine wpList_plain rfl fun K hK => ?_
    go_simp
    refine hK _ _ ?_
    clear hK K
    try simp only [Act.put, List.getElem_toArray, List.getElem_cons_succ, List.getElem_cons_zero, List.setIfInBounds_toArray, List.set_cons_zero, List.set_cons_succ]
    refine wpList_plain rfl fun K hK => ?_
    go_simp
    go_at_call 18
    refine Next_any lo b _ l kq 2 _ _ HD.out (by omega) (by omega) ?_
    intro w4 d1 c1
    obtain ⟨ka, hka⟩ : ∃ kk, nk l kq = kk := ⟨_, rfl⟩
    rw [hka] at d1
    clear hka
    replace SZ := Nat.le_trans SZ c1.size
    replace HD := Lib.hid d1
    replace HN := Lib.hid (HN.out.trans c1)
    obtain ⟨la, ua⟩ := nx_in l kq 2 (by omega)
    obtain ⟨a, ha⟩ : ∃ xx, nx l kq 2 = xx := ⟨_, rfl⟩
    rw [ha] at la ua ⊢
    clear ha d1 c1
    have wa : IntKind.i64.wrap (10 + a) = 10 + a := by rw [IntKind.wrap_i64]; omega
    refine hK _ _ ?_
    clear hK K
    try simp only [Act.put, List.getElem_toArray, List.getElem_cons_succ, List.getElem_cons_zero, List.setIfInBounds_toArray, List.set_cons_zero, List.set_cons_succ]
    refine wpList_plain rfl fun K hK => ?_
    go_simp
    refine hK _ _ ?_
    clear hK K
    try simp only [Act.put, List.getElem_toArray, List.getElem_cons_succ, List.getElem_cons_zero, List.setIfInBounds_toArray, List.set_cons_zero, List.set_cons_succ]
    refine wpList_plain rfl fun K hK => ?_
    go_simp
    refine hK _ _ ?_
    clear hK K
    try simp only [Act.put, List.getElem_toArray, List.getElem_cons_succ, List.getElem_cons_zero, List.setIfInBounds_toArray, List.set_cons_zero, List.set_cons_succ]
    refine wpList_plain rfl fun K hK => ?_
    go_simp
    go_at_call 38
    refine op_any (10 + a) i 0 _ _ ?_
    intro w5 n
    replace HD := Lib.hid (HD.out.kept n (fun _ _ e => e))
    replace HN := Lib.hid (HN.out.trans' n (fun _ _ e => e.elim))
    replace SZ := Nat.le_trans SZ n.size
    clear n
    refine hK _ _ ?_
    clear hK K
    try simp only [Act.put, List.getElem_toArray, List.getElem_cons_succ, List.getElem_cons_zero, List.setIfInBounds_toArray, List.set_cons_zero, List.set_cons_succ]
    refine wpList_plain rfl fun K hK => ?_
    go_simp
    go_at_call 38
    refine op_any 8 0 0 _ _ ?_
    intro w6 n
    replace HD := Lib.hid (HD.out.kept n (fun _ _ e => e))
    replace HN := Lib.hid (HN.out.trans' n (fun _ _ e => e.elim))
    replace SZ := Nat.le_trans SZ n.size
    clear n
    refine hK _ _ ?_
    clear hK K
    try simp only [Act.put, List.getElem_toArray, List.getElem_cons_succ, List.getElem_cons_zero, List.setIfInBounds_toArray, List.set_cons_zero, List.set_cons_succ]
    refine wpList_plain rfl fun K hK => ?_
    go_simp
    refine hK _ _ ?_
    clear hK K
    try simp only [Act.put, List.getElem_toArray, List.getElem_cons_succ, List.getElem_cons_zero, List.setIfInBounds_toArray, List.set_cons_zero, List.set_cons_succ]
    refine wpList_plain rfl fun K hK => ?_
    go_simp
    go_at_call 18
    refine Next_any lo b _ l ka 2 _ _ HD.out (by omega) (by omega) ?_
    intro w7 d1 c1
    obtain ⟨kc, hkc⟩ : ∃ kk, nk l ka = kk := ⟨_, rfl⟩
    rw [hkc] at d1
    clear hkc
    replace SZ := Nat.le_trans SZ c1.size
    replace HD := Lib.hid d1
    replace HN := Lib.hid (HN.out.trans c1)
    obtain ⟨lc, uc⟩ := nx_in l ka 2 (by omega)
    obtain ⟨c, hc⟩ : ∃ xx, nx l ka 2 = xx := ⟨_, rfl⟩
    rw [hc] at lc uc ⊢
    clear hc d1 c1
    have wc : IntKind.i64.wrap (12 + c) = 12 + c := by rw [IntKind.wrap_i64]; omega
    refine hK _ _ ?_
    clear hK K
    try simp only [Act.put, List.getElem_toArray, List.getElem_cons_succ, List.getElem_cons_zero, List.setIfInBounds_toArray, List.set_cons_zero, List.set_cons_succ]
    refine wpList_plain rfl fun K hK => ?_
    go_simp
    refine hK _ _ ?_
    clear hK K
    try simp only [Act.put, List.getElem_toArray, List.getElem_cons_succ, List.getElem_cons_zero, List.setIfInBounds_toArray, List.set_cons_zero, List.set_cons_succ]
    refine wpList_plain rfl fun K hK => ?_
    go_simp
    refine hK _ _ ?_
    clear hK K
    try simp only [Act.put, List.getElem_toArray, List.getElem_cons_succ, List.getElem_cons_zero, List.setIfInBounds_toArray, List.set_cons_zero, List.set_cons_succ]
    refine wpList_plain rfl fun K hK => ?_
    go_simp
    go_at_call 38
    refine op_any (12 + c) i 0 _ _ ?_
    intro w8 n
    replace HD := Lib.hid (HD.out.kept n (fun _ _ e => e))
    replace HN := Lib.hid (HN.out.trans' n (fun _ _ e => e.elim))
    replace SZ := Nat.le_trans SZ n.size
    clear n
    refine hK _ _ ?_
    clear hK K
    try simp only [Act.put, List.getElem_toArray, List.getElem_cons_succ, List.getElem_cons_zero, List.setIfInBounds_toArray, List.set_cons_zero, List.set_cons_succ]
    refine wpList_plain rfl fun K hK => ?_
    refine wp_lit3 24 49 _ _ _ rfl Tryz.underlying24 (by kernel_rfl) (by rfl) (by rfl) (by rfl) ?_
    refine hK _ _ ?_
    clear hK K
    try simp only [Act.put, List.getElem_toArray, List.getElem_cons_succ, List.getElem_cons_zero, List.setIfInBounds_toArray, List.set_cons_zero, List.set_cons_succ]
    refine wpList_plain rfl fun K hK => ?_
    go_simp
    refine hK _ _ ?_
    clear hK K
    try simp only [Act.put, List.getElem_toArray, List.getElem_cons_succ, List.getElem_cons_zero, List.setIfInBounds_toArray, List.set_cons_zero, List.set_cons_succ]
    go_wp2_with (fail)
    have hrow := row_lit (W := w8) (B := w.heap.size) (n := 3) (T := 49) (cs := opC [(10 + a, i, 0), (8, 0, 0), (12 + c, i, 0)]) SZ rfl (by omega)
    have ch := (Ch.refl (fun _ => False) w8).alloc (.cells (opC [(10 + a, i, 0), (8, 0, 0), (12 + c, i, 0)]).toArray 49)
    exact HR.out _ _ [(10 + a, i, 0), (8, 0, 0), (12 + c, i, 0)] _ (HD.out.kept ch (fun _ _ e => e)) hrow (by simp only [List.length_cons, List.length_nil]; omega) (by simp only [List.length_cons, List.length_nil]; omega) (runs_p0 ⟨li, ui⟩ ⟨la, ua⟩ ⟨lc, uc⟩) (HN.out.trans' ch (fun _ _ e => e.elim))
  · as_aux_lemma =>
    go_upto_region 6 with (fail)
    refine wp_region_lit ?_
    refine wpList_plain rfl fun K hK => ?_
    go_simp
    refine hK _ _ ?_
    clear hK K
    try simp only [Act.put, List.getElem_toArray, List.getElem_cons_succ, List.getElem_cons_zero, List.setIfInBounds_toArray, List.set_cons_zero, List.set_cons_succ]
    refine wpList_plain rfl fun K hK => ?_
    go_simp
    go_at_call 38
    refine op_any 11 i 0 _ _ ?_
    intro w9 n
    replace HD := Lib.hid (HD.out.kept n (fun _ _ e => e))
    replace HN := Lib.hid (HN.out.trans' n (fun _ _ e => e.elim))
    replace SZ := Nat.le_trans SZ n.size
    clear n
    refine hK _ _ ?_
    clear hK K
    try simp only [Act.put, List.getElem_toArray, List.getElem_cons_succ, List.getElem_cons_zero, List.setIfInBounds_toArray, List.set_cons_zero, List.set_cons_succ]
    refine wpList_plain rfl fun K hK => ?_
    go_simp
    refine hK _ _ ?_
    clear hK K
    try simp only [Act.put, List.getElem_toArray, List.getElem_cons_succ, List.getElem_cons_zero, List.setIfInBounds_toArray, List.set_cons_zero, List.set_cons_succ]
    refine wpList_plain rfl fun K hK => ?_
    go_simp
    go_at_call 18
    refine Next_any lo b _ l kq 129 _ _ HD.out (by omega) (by omega) ?_
    intro w10 d1 c1
    obtain ⟨kx, hkx⟩ : ∃ kk, nk l kq = kk := ⟨_, rfl⟩
    rw [hkx] at d1
    clear hkx
    replace SZ := Nat.le_trans SZ c1.size
    replace HD := Lib.hid d1
    replace HN := Lib.hid (HN.out.trans c1)
    obtain ⟨lx, ux⟩ := nx_in l kq 129 (by omega)
    obtain ⟨x, hx⟩ : ∃ xx, nx l kq 129 = xx := ⟨_, rfl⟩
    rw [hx] at lx ux ⊢
    clear hx d1 c1
    have wx : IntKind.i64.wrap (x - 64) = x - 64 := by rw [IntKind.wrap_i64]; omega
    refine hK _ _ ?_
    clear hK K
    try simp only [Act.put, List.getElem_toArray, List.getElem_cons_succ, List.getElem_cons_zero, List.setIfInBounds_toArray, List.set_cons_zero, List.set_cons_succ]
    refine wpList_plain rfl fun K hK => ?_
    go_simp
    refine hK _ _ ?_
    clear hK K
    try simp only [Act.put, List.getElem_toArray, List.getElem_cons_succ, List.getElem_cons_zero, List.setIfInBounds_toArray, List.set_cons_zero, List.set_cons_succ]
    refine wpList_plain rfl fun K hK => ?_
    go_simp
    go_at_call 38
    refine op_any 1 (x - 64) 0 _ _ ?_
    intro w11 n
    replace HD := Lib.hid (HD.out.kept n (fun _ _ e => e))
    replace HN := Lib.hid (HN.out.trans' n (fun _ _ e => e.elim))
    replace SZ := Nat.le_trans SZ n.size
    clear n
    refine hK _ _ ?_
    clear hK K
    try simp only [Act.put, List.getElem_toArray, List.getElem_cons_succ, List.getElem_cons_zero, List.setIfInBounds_toArray, List.set_cons_zero, List.set_cons_succ]
    refine wpList_plain rfl fun K hK => ?_
    go_simp
    go_at_call 38
    refine op_any 2 0 0 _ _ ?_
    intro w12 n
    replace HD := Lib.hid (HD.out.kept n (fun _ _ e => e))
    replace HN := Lib.hid (HN.out.trans' n (fun _ _ e => e.elim))
    replace SZ := Nat.le_trans SZ n.size
    clear n
    refine hK _ _ ?_
    clear hK K
    try simp only [Act.put, List.getElem_toArray, List.getElem_cons_succ, List.getElem_cons_zero, List.setIfInBounds_toArray, List.set_cons_zero, List.set_cons_succ]
    refine wpList_plain rfl fun K hK => ?_
    go_simp
    refine hK _ _ ?_
    clear hK K
    try simp only [Act.put, List.getElem_toArray, List.getElem_cons_succ, List.getElem_cons_zero, List.setIfInBounds_toArray, List.set_cons_zero, List.set_cons_succ]
    refine wpList_plain rfl fun K hK => ?_
    go_simp
    go_at_call 38
    refine op_any 13 j 0 _ _ ?_
    intro w13 n
    replace HD := Lib.hid (HD.out.kept n (fun _ _ e => e))
    replace HN := Lib.hid (HN.out.trans' n (fun _ _ e => e.elim))
    replace SZ := Nat.le_trans SZ n.size
    clear n
    refine hK _ _ ?_
    clear hK K
    try simp only [Act.put, List.getElem_toArray, List.getElem_cons_succ, List.getElem_cons_zero, List.setIfInBounds_toArray, List.set_cons_zero, List.set_cons_succ]
    refine wpList_plain rfl fun K hK => ?_
    refine wp_lit4x3 24 49 _ _ _ _ rfl Tryz.underlying24 (by kernel_rfl) (by rfl) (by rfl) (by rfl) (by rfl) ?_
    refine hK _ _ ?_
    clear hK K
    try simp only [Act.put, List.getElem_toArray, List.getElem_cons_succ, List.getElem_cons_zero, List.setIfInBounds_toArray, List.set_cons_zero, List.set_cons_succ]
    refine wpList_plain rfl fun K hK => ?_
    go_simp
    refine hK _ _ ?_
    clear hK K
    try simp only [Act.put, List.getElem_toArray, List.getElem_cons_succ, List.getElem_cons_zero, List.setIfInBounds_toArray, List.set_cons_zero, List.set_cons_succ]
    go_wp2_with (fail)
    have hrow := row_lit (W := w13) (B := w.heap.size) (n := 4) (T := 49) (cs := opC [(11, i, 0), (1, x - 64, 0), (2, 0, 0), (13, j, 0)]) SZ rfl (by omega)
    have ch := (Ch.refl (fun _ => False) w13).alloc (.cells (opC [(11, i, 0), (1, x - 64, 0), (2, 0, 0), (13, j, 0)]).toArray 49)
    exact HR.out _ _ [(11, i, 0), (1, x - 64, 0), (2, 0, 0), (13, j, 0)] _ (HD.out.kept ch (fun _ _ e => e)) hrow (by simp only [List.length_cons, List.length_nil]; omega) (by simp only [List.length_cons, List.length_nil]; omega) (runs_p1 ⟨li, ui⟩ ⟨lj, uj⟩) (HN.out.trans' ch (fun _ _ e => e.elim))
  · as_aux_lemma =>
    go_upto_region 8 with (fail)
    refine wp_region_lit ?_
    refine wpList_plain rfl fun K hK => ?_
    go_simp
    refine hK _ _ ?_
    clear hK K
    try simp only [Act.put, List.getElem_toArray, List.getElem_cons_succ, List.getElem_cons_zero, List.setIfInBounds_toArray, List.set_cons_zero, List.set_cons_succ]
    refine wpList_plain rfl fun K hK => ?_
    go_simp
    go_at_call 38
    refine op_any 10 i 0 _ _ ?_
    intro w14 n
    replace HD := Lib.hid (HD.out.kept n (fun _ _ e => e))
    replace HN := Lib.hid (HN.out.trans' n (fun _ _ e => e.elim))
    replace SZ := Nat.le_trans SZ n.size
    clear n
    refine hK _ _ ?_
    clear hK K
    try simp only [Act.put, List.getElem_toArray, List.getElem_cons_succ, List.getElem_cons_zero, List.setIfInBounds_toArray, List.set_cons_zero, List.set_cons_succ]
    refine wpList_plain rfl fun K hK => ?_
    go_simp
    refine hK _ _ ?_
    clear hK K
    try simp only [Act.put, List.getElem_toArray, List.getElem_cons_succ, List.getElem_cons_zero, List.setIfInBounds_toArray, List.set_cons_zero, List.set_cons_succ]
    refine wpList_plain rfl fun K hK => ?_
    go_simp
    go_at_call 38
    refine op_any 11 j 0 _ _ ?_
    intro w15 n
    replace HD := Lib.hid (HD.out.kept n (fun _ _ e => e))
    replace HN := Lib.hid (HN.out.trans' n (fun _ _ e => e.elim))
    replace SZ := Nat.le_trans SZ n.size
    clear n
    refine hK _ _ ?_
    clear hK K
    try simp only [Act.put, List.getElem_toArray, List.getElem_cons_succ, List.getElem_cons_zero, List.setIfInBounds_toArray, List.set_cons_zero, List.set_cons_succ]
    refine wpList_plain rfl fun K hK => ?_
    go_simp
    refine hK _ _ ?_
    clear hK K
    try simp only [Act.put, List.getElem_toArray, List.getElem_cons_succ, List.getElem_cons_zero, List.setIfInBounds_toArray, List.set_cons_zero, List.set_cons_succ]
    refine wpList_plain rfl fun K hK => ?_
    go_simp
    go_at_call 18
    refine Next_any lo b _ l kq 4 _ _ HD.out (by omega) (by omega) ?_
    intro w16 d1 c1
    obtain ⟨ka, hka⟩ : ∃ kk, nk l kq = kk := ⟨_, rfl⟩
    rw [hka] at d1
    clear hka
    replace SZ := Nat.le_trans SZ c1.size
    replace HD := Lib.hid d1
    replace HN := Lib.hid (HN.out.trans c1)
    obtain ⟨la, ua⟩ := nx_in l kq 4 (by omega)
    obtain ⟨a, ha⟩ : ∃ xx, nx l kq 4 = xx := ⟨_, rfl⟩
    rw [ha] at la ua ⊢
    clear ha d1 c1
    have wa : IntKind.i64.wrap (2 + a) = 2 + a := by rw [IntKind.wrap_i64]; omega
    refine hK _ _ ?_
    clear hK K
    try simp only [Act.put, List.getElem_toArray, List.getElem_cons_succ, List.getElem_cons_zero, List.setIfInBounds_toArray, List.set_cons_zero, List.set_cons_succ]
    refine wpList_plain rfl fun K hK => ?_
    go_simp
    refine hK _ _ ?_
    clear hK K
    try simp only [Act.put, List.getElem_toArray, List.getElem_cons_succ, List.getElem_cons_zero, List.setIfInBounds_toArray, List.set_cons_zero, List.set_cons_succ]
    refine wpList_plain rfl fun K hK => ?_
    go_simp
    go_at_call 38
    refine op_any (2 + a) 0 0 _ _ ?_
    intro w17 n
    replace HD := Lib.hid (HD.out.kept n (fun _ _ e => e))
    replace HN := Lib.hid (HN.out.trans' n (fun _ _ e => e.elim))
    replace SZ := Nat.le_trans SZ n.size
    clear n
    refine hK _ _ ?_
    clear hK K
    try simp only [Act.put, List.getElem_toArray, List.getElem_cons_succ, List.getElem_cons_zero, List.setIfInBounds_toArray, List.set_cons_zero, List.set_cons_succ]
    refine wpList_plain rfl fun K hK => ?_
    go_simp
    refine hK _ _ ?_
    clear hK K
    try simp only [Act.put, List.getElem_toArray, List.getElem_cons_succ, List.getElem_cons_zero, List.setIfInBounds_toArray, List.set_cons_zero, List.set_cons_succ]
    refine wpList_plain rfl fun K hK => ?_
    go_simp
    go_at_call 18
    refine Next_any lo b _ l ka 3 _ _ HD.out (by omega) (by omega) ?_
    intro w18 d1 c1
    obtain ⟨kc, hkc⟩ : ∃ kk, nk l ka = kk := ⟨_, rfl⟩
    rw [hkc] at d1
    clear hkc
    replace SZ := Nat.le_trans SZ c1.size
    replace HD := Lib.hid d1
    replace HN := Lib.hid (HN.out.trans c1)
    obtain ⟨lc, uc⟩ := nx_in l ka 3 (by omega)
    obtain ⟨c, hc⟩ : ∃ xx, nx l ka 3 = xx := ⟨_, rfl⟩
    rw [hc] at lc uc ⊢
    clear hc d1 c1
    have wc : IntKind.i64.wrap (6 + c) = 6 + c := by rw [IntKind.wrap_i64]; omega
    refine hK _ _ ?_
    clear hK K
    try simp only [Act.put, List.getElem_toArray, List.getElem_cons_succ, List.getElem_cons_zero, List.setIfInBounds_toArray, List.set_cons_zero, List.set_cons_succ]
    refine wpList_plain rfl fun K hK => ?_
    go_simp
    refine hK _ _ ?_
    clear hK K
    try simp only [Act.put, List.getElem_toArray, List.getElem_cons_succ, List.getElem_cons_zero, List.setIfInBounds_toArray, List.set_cons_zero, List.set_cons_succ]
    refine wpList_plain rfl fun K hK => ?_
    go_simp
    go_at_call 38
    refine op_any (6 + c) 0 0 _ _ ?_
    intro w19 n
    replace HD := Lib.hid (HD.out.kept n (fun _ _ e => e))
    replace HN := Lib.hid (HN.out.trans' n (fun _ _ e => e.elim))
    replace SZ := Nat.le_trans SZ n.size
    clear n
    refine hK _ _ ?_
    clear hK K
    try simp only [Act.put, List.getElem_toArray, List.getElem_cons_succ, List.getElem_cons_zero, List.setIfInBounds_toArray, List.set_cons_zero, List.set_cons_succ]
    refine wpList_plain rfl fun K hK => ?_
    go_simp
    refine hK _ _ ?_
    clear hK K
    try simp only [Act.put, List.getElem_toArray, List.getElem_cons_succ, List.getElem_cons_zero, List.setIfInBounds_toArray, List.set_cons_zero, List.set_cons_succ]
    refine wpList_plain rfl fun K hK => ?_
    go_simp
    go_at_call 18
    refine Next_any lo b _ l kc 2 _ _ HD.out (by omega) (by omega) ?_
    intro w20 d1 c1
    obtain ⟨kd, hkd⟩ : ∃ kk, nk l kc = kk := ⟨_, rfl⟩
    rw [hkd] at d1
    clear hkd
    replace SZ := Nat.le_trans SZ c1.size
    replace HD := Lib.hid d1
    replace HN := Lib.hid (HN.out.trans c1)
    obtain ⟨ld, ud⟩ := nx_in l kc 2 (by omega)
    obtain ⟨d, hd⟩ : ∃ xx, nx l kc 2 = xx := ⟨_, rfl⟩
    rw [hd] at ld ud ⊢
    clear hd d1 c1
    have wd : IntKind.i64.wrap (12 + d) = 12 + d := by rw [IntKind.wrap_i64]; omega
    refine hK _ _ ?_
    clear hK K
    try simp only [Act.put, List.getElem_toArray, List.getElem_cons_succ, List.getElem_cons_zero, List.setIfInBounds_toArray, List.set_cons_zero, List.set_cons_succ]
    refine wpList_plain rfl fun K hK => ?_
    go_simp
    refine hK _ _ ?_
    clear hK K
    try simp only [Act.put, List.getElem_toArray, List.getElem_cons_succ, List.getElem_cons_zero, List.setIfInBounds_toArray, List.set_cons_zero, List.set_cons_succ]
    refine wpList_plain rfl fun K hK => ?_
    go_simp
    refine hK _ _ ?_
    clear hK K
    try simp only [Act.put, List.getElem_toArray, List.getElem_cons_succ, List.getElem_cons_zero, List.setIfInBounds_toArray, List.set_cons_zero, List.set_cons_succ]
    refine wpList_plain rfl fun K hK => ?_
    go_simp
    go_at_call 38
    refine op_any (12 + d) j 0 _ _ ?_
    intro w21 n
    replace HD := Lib.hid (HD.out.kept n (fun _ _ e => e))
    replace HN := Lib.hid (HN.out.trans' n (fun _ _ e => e.elim))
    replace SZ := Nat.le_trans SZ n.size
    clear n
    refine hK _ _ ?_
    clear hK K
    try simp only [Act.put, List.getElem_toArray, List.getElem_cons_succ, List.getElem_cons_zero, List.setIfInBounds_toArray, List.set_cons_zero, List.set_cons_succ]
    refine wpList_plain rfl fun K hK => ?_
    refine wp_lit5x3 24 49 _ _ _ _ _ rfl Tryz.underlying24 (by kernel_rfl) (by rfl) (by rfl) (by rfl) (by rfl) (by rfl) ?_
    refine hK _ _ ?_
    clear hK K
    try simp only [Act.put, List.getElem_toArray, List.getElem_cons_succ, List.getElem_cons_zero, List.setIfInBounds_toArray, List.set_cons_zero, List.set_cons_succ]
    refine wpList_plain rfl fun K hK => ?_
    go_simp
    refine hK _ _ ?_
    clear hK K
    try simp only [Act.put, List.getElem_toArray, List.getElem_cons_succ, List.getElem_cons_zero, List.setIfInBounds_toArray, List.set_cons_zero, List.set_cons_succ]
    go_wp2_with (fail)
    have hrow := row_lit (W := w21) (B := w.heap.size) (n := 5) (T := 49) (cs := opC [(10, i, 0), (11, j, 0), (2 + a, 0, 0), (6 + c, 0, 0), (12 + d, j, 0)]) SZ rfl (by omega)
    have ch := (Ch.refl (fun _ => False) w21).alloc (.cells (opC [(10, i, 0), (11, j, 0), (2 + a, 0, 0), (6 + c, 0, 0), (12 + d, j, 0)]).toArray 49)
    exact HR.out _ _ [(10, i, 0), (11, j, 0), (2 + a, 0, 0), (6 + c, 0, 0), (12 + d, j, 0)] _ (HD.out.kept ch (fun _ _ e => e)) hrow (by simp only [List.length_cons, List.length_nil]; omega) (by simp only [List.length_cons, List.length_nil]; omega) (runs_p2 ⟨li, ui⟩ ⟨lj, uj⟩ ⟨la, ua⟩ ⟨lc, uc⟩ ⟨ld, ud⟩) (HN.out.trans' ch (fun _ _ e => e.elim))
  · as_aux_lemma =>
    go_upto_region 9 with (fail)
    refine wp_region_lit ?_
    refine wpList_plain rfl fun K hK => ?_
    go_simp
    go_at_call 38
    refine op_any 9 0 0 _ _ ?_
    intro w22 n
    replace HD := Lib.hid (HD.out.kept n (fun _ _ e => e))
    replace HN := Lib.hid (HN.out.trans' n (fun _ _ e => e.elim))
    replace SZ := Nat.le_trans SZ n.size
    clear n
    refine hK _ _ ?_
    clear hK K
    try simp only [Act.put, List.getElem_toArray, List.getElem_cons_succ, List.getElem_cons_zero, List.setIfInBounds_toArray, List.set_cons_zero, List.set_cons_succ]
    refine wpList_plain rfl fun K hK => ?_
    go_simp
    refine hK _ _ ?_
    clear hK K
    try simp only [Act.put, List.getElem_toArray, List.getElem_cons_succ, List.getElem_cons_zero, List.setIfInBounds_toArray, List.set_cons_zero, List.set_cons_succ]
    refine wpList_plain rfl fun K hK => ?_
    go_simp
    go_at_call 18
    refine Next_any lo b _ l kq 2 _ _ HD.out (by omega) (by omega) ?_
    intro w23 d1 c1
    obtain ⟨ka, hka⟩ : ∃ kk, nk l kq = kk := ⟨_, rfl⟩
    rw [hka] at d1
    clear hka
    replace SZ := Nat.le_trans SZ c1.size
    replace HD := Lib.hid d1
    replace HN := Lib.hid (HN.out.trans c1)
    obtain ⟨la, ua⟩ := nx_in l kq 2 (by omega)
    obtain ⟨a, ha⟩ : ∃ xx, nx l kq 2 = xx := ⟨_, rfl⟩
    rw [ha] at la ua ⊢
    clear ha d1 c1
    have wa : IntKind.i64.wrap (10 + a) = 10 + a := by rw [IntKind.wrap_i64]; omega
    refine hK _ _ ?_
    clear hK K
    try simp only [Act.put, List.getElem_toArray, List.getElem_cons_succ, List.getElem_cons_zero, List.setIfInBounds_toArray, List.set_cons_zero, List.set_cons_succ]
    refine wpList_plain rfl fun K hK => ?_
    go_simp
    refine hK _ _ ?_
    clear hK K
    try simp only [Act.put, List.getElem_toArray, List.getElem_cons_succ, List.getElem_cons_zero, List.setIfInBounds_toArray, List.set_cons_zero, List.set_cons_succ]
    refine wpList_plain rfl fun K hK => ?_
    go_simp
    refine hK _ _ ?_
    clear hK K
    try simp only [Act.put, List.getElem_toArray, List.getElem_cons_succ, List.getElem_cons_zero, List.setIfInBounds_toArray, List.set_cons_zero, List.set_cons_succ]
    refine wpList_plain rfl fun K hK => ?_
    go_simp
    go_at_call 38
    refine op_any (10 + a) i 0 _ _ ?_
    intro w24 n
    replace HD := Lib.hid (HD.out.kept n (fun _ _ e => e))
    replace HN := Lib.hid (HN.out.trans' n (fun _ _ e => e.elim))
    replace SZ := Nat.le_trans SZ n.size
    clear n
    refine hK _ _ ?_
    clear hK K
    try simp only [Act.put, List.getElem_toArray, List.getElem_cons_succ, List.getElem_cons_zero, List.setIfInBounds_toArray, List.set_cons_zero, List.set_cons_succ]
    refine wpList_plain rfl fun K hK => ?_
    go_simp
    refine hK _ _ ?_
    clear hK K
    try simp only [Act.put, List.getElem_toArray, List.getElem_cons_succ, List.getElem_cons_zero, List.setIfInBounds_toArray, List.set_cons_zero, List.set_cons_succ]
    refine wpList_plain rfl fun K hK => ?_
    go_simp
    go_at_call 18
    refine Next_any lo b _ l ka 2 _ _ HD.out (by omega) (by omega) ?_
    intro w25 d1 c1
    obtain ⟨kc, hkc⟩ : ∃ kk, nk l ka = kk := ⟨_, rfl⟩
    rw [hkc] at d1
    clear hkc
    replace SZ := Nat.le_trans SZ c1.size
    replace HD := Lib.hid d1
    replace HN := Lib.hid (HN.out.trans c1)
    obtain ⟨lc, uc⟩ := nx_in l ka 2 (by omega)
    obtain ⟨c, hc⟩ : ∃ xx, nx l ka 2 = xx := ⟨_, rfl⟩
    rw [hc] at lc uc ⊢
    clear hc d1 c1
    have wc : IntKind.i64.wrap (4 + c) = 4 + c := by rw [IntKind.wrap_i64]; omega
    refine hK _ _ ?_
    clear hK K
    try simp only [Act.put, List.getElem_toArray, List.getElem_cons_succ, List.getElem_cons_zero, List.setIfInBounds_toArray, List.set_cons_zero, List.set_cons_succ]
    refine wpList_plain rfl fun K hK => ?_
    go_simp
    refine hK _ _ ?_
    clear hK K
    try simp only [Act.put, List.getElem_toArray, List.getElem_cons_succ, List.getElem_cons_zero, List.setIfInBounds_toArray, List.set_cons_zero, List.set_cons_succ]
    refine wpList_plain rfl fun K hK => ?_
    go_simp
    go_at_call 38
    refine op_any (4 + c) 0 0 _ _ ?_
    intro w26 n
    replace HD := Lib.hid (HD.out.kept n (fun _ _ e => e))
    replace HN := Lib.hid (HN.out.trans' n (fun _ _ e => e.elim))
    replace SZ := Nat.le_trans SZ n.size
    clear n
    refine hK _ _ ?_
    clear hK K
    try simp only [Act.put, List.getElem_toArray, List.getElem_cons_succ, List.getElem_cons_zero, List.setIfInBounds_toArray, List.set_cons_zero, List.set_cons_succ]
    refine wpList_plain rfl fun K hK => ?_
    go_simp
    refine hK _ _ ?_
    clear hK K
    try simp only [Act.put, List.getElem_toArray, List.getElem_cons_succ, List.getElem_cons_zero, List.setIfInBounds_toArray, List.set_cons_zero, List.set_cons_succ]
    refine wpList_plain rfl fun K hK => ?_
    go_simp
    go_at_call 38
    refine op_any 12 j 0 _ _ ?_
    intro w27 n
    replace HD := Lib.hid (HD.out.kept n (fun _ _ e => e))
    replace HN := Lib.hid (HN.out.trans' n (fun _ _ e => e.elim))
    replace SZ := Nat.le_trans SZ n.size
    clear n
    refine hK _ _ ?_
    clear hK K
    try simp only [Act.put, List.getElem_toArray, List.getElem_cons_succ, List.getElem_cons_zero, List.setIfInBounds_toArray, List.set_cons_zero, List.set_cons_succ]
    refine wpList_plain rfl fun K hK => ?_
    refine wp_lit4x3 24 49 _ _ _ _ rfl Tryz.underlying24 (by kernel_rfl) (by rfl) (by rfl) (by rfl) (by rfl) ?_
    refine hK _ _ ?_
    clear hK K
    try simp only [Act.put, List.getElem_toArray, List.getElem_cons_succ, List.getElem_cons_zero, List.setIfInBounds_toArray, List.set_cons_zero, List.set_cons_succ]
    refine wpList_plain rfl fun K hK => ?_
    go_simp
    refine hK _ _ ?_
    clear hK K
    try simp only [Act.put, List.getElem_toArray, List.getElem_cons_succ, List.getElem_cons_zero, List.setIfInBounds_toArray, List.set_cons_zero, List.set_cons_succ]
    go_wp2_with (fail)
    have hrow := row_lit (W := w27) (B := w.heap.size) (n := 4) (T := 49) (cs := opC [(9, 0, 0), (10 + a, i, 0), (4 + c, 0, 0), (12, j, 0)]) SZ rfl (by omega)
    have ch := (Ch.refl (fun _ => False) w27).alloc (.cells (opC [(9, 0, 0), (10 + a, i, 0), (4 + c, 0, 0), (12, j, 0)]).toArray 49)
    exact HR.out _ _ [(9, 0, 0), (10 + a, i, 0), (4 + c, 0, 0), (12, j, 0)] _ (HD.out.kept ch (fun _ _ e => e)) hrow (by simp only [List.length_cons, List.length_nil]; omega) (by simp only [List.length_cons, List.length_nil]; omega) (runs_p3 ⟨li, ui⟩ ⟨lj, uj⟩ ⟨la, ua⟩ ⟨lc, uc⟩) (HN.out.trans' ch (fun _ _ e => e.elim))

end Go.Proofs.YtdpbdcaefdcooaaGreatDoor
