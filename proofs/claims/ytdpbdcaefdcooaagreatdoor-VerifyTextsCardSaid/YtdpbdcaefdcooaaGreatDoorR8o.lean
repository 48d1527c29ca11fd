/-
  ref08.Odd: a program that is changed in one place.
-/
import Derived.Test.YtdpbdcaefdcooaaGreatDoorMo8
import Derived.Test.YtdpbdcaefdcooaaGreatDoorVBlock
import Derived.Test.YtdpbdcaefdcooaaGreatDoorRegI
import Derived.Test.YtdpbdcaefdcooaaGreatDoorWn
import Derived.Test.YtdpbdcaefdcooaaGreatDoorVpi
import Derived.Deep.Cut
import Derived.Deep.Upon
namespace Go.Proofs.YtdpbdcaefdcooaaGreatDoor
open Go.RowKit
set_option linter.unusedVariables false
set_option linter.unusedSimpArgs false
set_option maxRecDepth 100000

/-- A program as an argument, in blocks below lo, or a row of one's own. -/
def OddR (w : World) (B : Nat) (v : Value) (L : List VOp) : Prop := ORow w B v L

/-- A program is appended to a row, from wherever it lies. -/
theorem wp_appProg {o : Oper} {a : Act} {K : Act → World → Prop} {Q : Exit → Act → World → Prop} (w : World) (s x : Operand)
    (ho : o.op = .call { callee := .builtin .append, args := #[s, x], argTypes := #[24, 24] }) (B : Nat) (v : Value) (L : List VOp) (hs : a.eval s = v) (hown : ORow w B v L)
    (lo : Nat) (A : Option Addr) (m c : Nat) (M : List VOp) (hm : m = M.length) (hx : a.eval x = .slice A m c) (hM : IsProg w lo (.slice A m c) M) (hn : L.length + m ≤ 1000000) (hB : B ≤ w.heap.size)
    (h : ∀ v' w', ORow w' B v' (L ++ M) → w.grownBy w' v.ownBlock → K (a.put o.dst v') w') : o.wp Tryz.prog a w K Q := by
  subst hm
  have hinfo := info_op
  cases hinf : Tryz.prog.info? 49 with
  | none => rw [hinf] at hinfo; cases hinfo
  | some i =>
    rw [hinf] at hinfo
    simp only [Option.map_some, Option.some.injEq, Prod.mk.injEq] at hinfo
    obtain ⟨e1, e2, e3⟩ := hinfo
    by_cases hys : M = []
    · subst hys
      have hf : ∃ base cap, v = .slice base L.length cap ∧ L.length ≤ cap := by
        rcases hown.2 with ⟨h1, h2⟩ | ⟨g, cap, cur, hv, hb, hgg, hnc, rest⟩
        · exact ⟨none, 0, by rw [h2]; exact h1, by omega⟩
        · exact ⟨_, cap, hv, hnc⟩
      obtain ⟨base, cap, rfl, hle⟩ := hf
      have hsrc : Src Tryz.prog i.size 24 (.slice A 0 c) 0 [] w := by
        rw [e2]
        cases A with
        | none => exact Src.ofNil w Tryz.underlying24 c
        | some ad => exact Src.ofSlice w Tryz.underlying24 ad 0 c [] rfl (fun j u h => by cases h) (fun u h => by cases h)
      have hr := run_append_nothing (P := Tryz.prog) w 24 24 o.type 49 i Tryz.underlying24 hinf base L.length cap hle _ hsrc
      have hk := h (.slice base L.length cap) w (by simpa using hown) (World.grownBy.refl _ _)
      unfold Oper.wp execOp
      simp only [List.length_nil] at hx
      simp only [ho, resolve, invoke, builtin, Sem.run_bind, Sem.run_pure, Result.andThen_ok, List.map_toArray, List.map_cons, List.map_nil, hs, hx, hr]
      exact hk
    · have hpos : 0 < M.length := List.length_pos_iff.2 hys
      obtain ⟨A', c', e, -, -, hel⟩ := hM
      cases e
      obtain ⟨⟨a0, a1, a2⟩, hy0⟩ : ∃ y, M[0]? = some y := ⟨_, List.getElem?_eq_getElem hpos⟩
      obtain ⟨pk, po, -, rfl, -⟩ := hel 0 a0 a1 a2 hy0
      refine wp_append_lies w s x 24 ho B 49 i _ 3 24 Tryz.underlying24 hinf e1 e2 e3 rfl (by omega) v L.length (opC L) hs hown ⟨pk, po, none⟩ M.length c (opC M) hx (opC_len M) ?_ opC_one hpos (by unfold maxLen; omega) (by omega) hB _ rfl ?_
      · intro j u hj
        have hadd : (⟨pk, po, none⟩ : Addr).add j = ⟨pk, po + j, none⟩ := by unfold Addr.add; split <;> simp_all
        rw [hadd]
        have hjl : j < M.length * 3 := by have := (List.getElem?_eq_some_iff.1 hj).1; rw [opC_len] at this; exact this
        obtain ⟨q, r, rfl, hr⟩ : ∃ q r, j = q * 3 + r ∧ r < 3 := ⟨j / 3, j % 3, by omega, by omega⟩
        obtain ⟨⟨b0, b1, b2⟩, hq⟩ : ∃ z, M[q]? = some z := ⟨_, List.getElem?_eq_getElem (by omega)⟩
        obtain ⟨d0, d1, d2⟩ := opC_at M q (b0, b1, b2) hq
        obtain ⟨pk', po', -, e', g0, g1, g2⟩ := hel q b0 b1 b2 hq
        cases e'
        match r, hr with
        | 0, _ => rw [Nat.add_zero] at hj ⊢; rw [d0] at hj; cases hj; exact g0
        | 1, _ => rw [d1] at hj; cases hj; exact g1
        | 2, _ => rw [d2] at hj; cases hj; exact g2
      · intro g' cap' w' h2 h3 _ _
        refine h _ w' ?_ h3
        have e0 : (L ++ M).length = L.length + M.length := List.length_append
        show CRow w' 49 3 B _ (L ++ M).length (opC (L ++ M))
        rw [e0, opC_append]
        exact h2

theorem CRow.someG {w : World} {T : TypeId} {z B n : Nat} {v : Value} {xs : List Value} (h : CRow w T z B v n xs) (hn : 0 < n) : ∃ g cap, v = .slice (some ⟨g, 0, none⟩) n cap ∧ B ≤ g ∧ n ≤ cap ∧ cap ≤ maxLen := by
  rcases h.2 with ⟨h1, h2⟩ | ⟨g, cap, cur, hv, hb, hgg, hnc, hcm, -⟩
  · omega
  · exact ⟨g, cap, hv, hb, hnc, hcm⟩
theorem CRow.shorter {w : World} {T : TypeId} {z B n g cap : Nat} {xs : List Value} (h : CRow w T z B (.slice (some ⟨g, 0, none⟩) n cap) n xs) (m : Nat) (hm : m ≤ n) : CRow w T z B (.slice (some ⟨g, 0, none⟩) m cap) m (xs.take (m * z)) := by
  have hl := h.len
  rcases h.2 with ⟨h1, h2⟩ | ⟨g', cap', cur, hv, hb, hgg, hnc, hcm, hcs, ht⟩
  · cases h1
  · cases hv
    have hmz : m * z ≤ n * z := Nat.mul_le_mul_right z hm
    refine ⟨by rw [List.length_take, hl]; omega, Or.inr ⟨g, cap, cur, rfl, hb, hgg, by omega, hcm, hcs, ?_⟩⟩
    rw [← ht, List.take_take, Nat.min_eq_left hmz]
theorem CRow.store {w : World} {T : TypeId} {z B n g cap : Nat} {xs : List Value} (h : CRow w T z B (.slice (some ⟨g, 0, none⟩) n cap) n xs) (i : Nat) (u : Value) : CRow (w.setCell ⟨g, i, none⟩ u) T z B (.slice (some ⟨g, 0, none⟩) n cap) n (xs.set i u) := by
  have hl := h.len
  rcases h.2 with ⟨h1, h2⟩ | ⟨g', cap', cur, hv, hb, hgg, hnc, hcm, hcs, ht⟩
  · cases h1
  · cases hv
    refine ⟨by rw [List.length_set]; exact hl, Or.inr ⟨g, cap, cur.setIfInBounds i u, rfl, hb, heap_setCell_eq u hgg, hnc, hcm, by simpa using hcs, ?_⟩⟩
    rw [Array.toList_setIfInBounds, List.take_set, ht]
theorem CRow.cellAt {w : World} {T : TypeId} {z B n g cap : Nat} {xs : List Value} (h : CRow w T z B (.slice (some ⟨g, 0, none⟩) n cap) n xs) {i : Nat} {u : Value} (hi : xs[i]? = some u) : w.cell? ⟨g, i, none⟩ = some u ∧ w.frozen? ⟨g, i, none⟩ = false := by
  rcases h.2 with ⟨h1, h2⟩ | ⟨g', cap', cur, hv, hb, hgg, hnc, hcm, hcs, ht⟩
  · cases h1
  · cases hv
    refine ⟨?_, frozen_of hgg⟩
    rw [cell_of hgg, ← Array.getElem?_toList]
    rw [← ht, List.getElem?_take] at hi
    split at hi
    · exact hi
    · cases hi
theorem opC_take (L : List VOp) : ∀ m : Nat, (opC L).take (m * 3) = opC (L.take m) := by
  induction L with
  | nil => intro m; simp [opC]
  | cons o L ih =>
    intro m
    cases m with
    | zero => simp [opC]
    | succ m =>
      have e : opC (o :: L) = .int .i64 o.1 :: .int .i64 o.2.1 :: .int .i64 o.2.2 :: opC L := rfl
      have e2 : opC (o :: L.take m) = .int .i64 o.1 :: .int .i64 o.2.1 :: .int .i64 o.2.2 :: opC (L.take m) := rfl
      rw [List.take_succ_cons, e, e2, show (m + 1) * 3 = m * 3 + 1 + 1 + 1 by omega, List.take_succ_cons, List.take_succ_cons, List.take_succ_cons, ih]
theorem opC_set {L : List VOp} : ∀ {k : Nat} {c x y : Int} (v : Int), L[k]? = some (c, x, y) → (opC L).set (k * 3) (.int .i64 v) = opC (L.set k (v, x, y)) ∧ (opC L).set (k * 3 + 1) (.int .i64 v) = opC (L.set k (c, v, y)) ∧ (opC L).set (k * 3 + 2) (.int .i64 v) = opC (L.set k (c, x, v)) := by
  induction L with
  | nil => intro k c x y v h; cases h
  | cons o L ih =>
    intro k c x y v h
    cases k with
    | zero =>
      simp only [List.getElem?_cons_zero, Option.some.injEq] at h
      subst h
      exact ⟨rfl, rfl, rfl⟩
    | succ k =>
      obtain ⟨h0, h1, h2⟩ := ih v (by simpa using h)
      have e : ∀ X : List VOp, opC (o :: X) = .int .i64 o.1 :: .int .i64 o.2.1 :: .int .i64 o.2.2 :: opC X := fun X => rfl
      refine ⟨?_, ?_, ?_⟩
      · rw [List.set_cons_succ, e, e, show (k + 1) * 3 = k * 3 + 1 + 1 + 1 by omega, List.set_cons_succ, List.set_cons_succ, List.set_cons_succ, h0]
      · rw [List.set_cons_succ, e, e, show (k + 1) * 3 + 1 = (k * 3 + 1) + 1 + 1 + 1 by omega, List.set_cons_succ, List.set_cons_succ, List.set_cons_succ, h1]
      · rw [List.set_cons_succ, e, e, show (k + 1) * 3 + 2 = (k * 3 + 2) + 1 + 1 + 1 by omega, List.set_cons_succ, List.set_cons_succ, List.set_cons_succ, h2]
theorem prog_or {w : World} {lo pk po q n cap k : Nat} {X : Option Addr} {M : List VOp} (h : IsProg w lo (.slice (some ⟨pk, po + q, none⟩) n (cap - k)) M) (hX : (if cap = k then some (⟨pk, po, none⟩ : Addr) else some ⟨pk, po + q, none⟩) = X) (hM : M.length = n) (hn : n ≤ cap - k) (hc : cap ≤ 9223372036854775807) : IsProg w lo (.slice X n (cap - k)) M := by
  split at hX
  · subst hX
    have h0 : n = 0 := by omega
    have hM0 : M = [] := List.eq_nil_of_length_eq_zero (by omega)
    subst hM0
    exact ⟨_, _, by rw [h0]; rfl, by simp, by omega, fun i c n m hi => by cases hi⟩
  · subst hX; exact h
theorem num_set {L : List VOp} {k : Nat} {o : VOp} (h : ∀ q ∈ L, numOk q.2.1 ∧ numOk q.2.2) (ho : numOk o.2.1 ∧ numOk o.2.2) : ∀ q ∈ L.set k o, numOk q.2.1 ∧ numOk q.2.2 := fun q hq => by
  rcases List.mem_or_eq_of_mem_set hq with h1 | h1
  · exact h q h1
  · rw [h1]; exact ho

set_option maxHeartbeats 8000000 in
theorem oddP_any (L : List VOp) (v : Value) (B : Nat) (q0 q1 q2 q3 : Int) (w : World) (R : Ending → World → Prop) (h : ORow w B v L) (hnil : L = [] → v = .slice none 0 0) (hl : L.length ≤ 1000) (hq : wfI q0 ∧ wfI q1 ∧ wfI q2 ∧ wfI q3) (hn : ∀ o ∈ L, numOk o.2.1 ∧ numOk o.2.2)
    (hR : ∀ w' x L', ORow w' w.heap.size x L' → L'.length ≤ L.length + 1 → (∀ o ∈ L', numOk o.2.1 ∧ numOk o.2.2) → Nw w w' → R (.returned x) w') : Calls Tryz.prog 7 #[v, .agg #[.int .i64 q0, .int .i64 q1, .int .i64 q2, .int .i64 q3]] w R := by
  have HR := Lib.hid hR
  have HO := Lib.hid h
  have HNL := Lib.hid hnil
  have HNM := Lib.hid hn
  have HQ := Lib.hid hq
  have NX := Lib.hid (Ch.refl (fun _ => False) w)
  have N1 : numOk q1 := by have := hq.2.1; unfold wfI at this; unfold numOk; omega
  have N2 : numOk q2 := by have := hq.2.2.1; unfold wfI at this; unfold numOk; omega
  obtain ⟨A, cap, rfl⟩ := h.form
  clear hR h hnil hn hq
  go_enter Tryz.func7, Tryz.ntmps7
  go_upto_region 1 with (fail)
  refine wp_named ?_
  intro W1 hW
  have n : Nw w W1 := by rw [hW]; exact (Ch.refl _ _).alloc _
  replace HO := Lib.hid (HO.out.ch' n (fun _ _ e => e))
  replace NX := Lib.hid (NX.out.trans n)
  have HBX := Lib.hid (show W1.heap[w.heap.size]? = some (.cells #[.int .i64 q0, .int .i64 q1, .int .i64 q2, .int .i64 q3] 23 (0, 0)) from by rw [hW]; exact heap_alloc_eq _ rfl)
  clear hW n
  by_cases hl0 : L.length = 0
  · as_aux_lemma =>
    have kHBX0 : W1.cell? ⟨w.heap.size, 0, none⟩ = some (.int .i64 q0) := by rw [cell_of HBX.out]; rfl
    have jHBX0 : ∀ o, (W1.alloc o).cell? ⟨w.heap.size, 0, none⟩ = some (.int .i64 q0) := fun o => cell_alloc_old o kHBX0
    have kHBX1 : W1.cell? ⟨w.heap.size, 1, none⟩ = some (.int .i64 q1) := by rw [cell_of HBX.out]; rfl
    have jHBX1 : ∀ o, (W1.alloc o).cell? ⟨w.heap.size, 1, none⟩ = some (.int .i64 q1) := fun o => cell_alloc_old o kHBX1
    have kHBX2 : W1.cell? ⟨w.heap.size, 2, none⟩ = some (.int .i64 q2) := by rw [cell_of HBX.out]; rfl
    have jHBX2 : ∀ o, (W1.alloc o).cell? ⟨w.heap.size, 2, none⟩ = some (.int .i64 q2) := fun o => cell_alloc_old o kHBX2
    have kHBX3 : W1.cell? ⟨w.heap.size, 3, none⟩ = some (.int .i64 q3) := by rw [cell_of HBX.out]; rfl
    have jHBX3 : ∀ o, (W1.alloc o).cell? ⟨w.heap.size, 3, none⟩ = some (.int .i64 q3) := fun o => cell_alloc_old o kHBX3
    go_upto_region 2 with (fail)
    refine wp_region_lit ?_
    refine wpList_plain rfl fun K hK => ?_
    go_simp
    refine hK _ _ ?_
    clear hK K
    try simp only [Act.put, List.getElem_toArray, List.getElem_cons_succ, List.getElem_cons_zero, List.setIfInBounds_toArray, List.set_cons_zero, List.set_cons_succ]
    refine wpList_plain rfl fun K hK => ?_
    go_simp
    refine hK _ _ ?_
    clear hK K
    try simp only [Act.put, List.getElem_toArray, List.getElem_cons_succ, List.getElem_cons_zero, List.setIfInBounds_toArray, List.set_cons_zero, List.set_cons_succ]
    refine wpList_plain rfl fun K hK => ?_
    go_simp
    refine hK _ _ ?_
    clear hK K
    try simp only [Act.put, List.getElem_toArray, List.getElem_cons_succ, List.getElem_cons_zero, List.setIfInBounds_toArray, List.set_cons_zero, List.set_cons_succ]
    refine wpList_plain rfl fun K hK => ?_
    go_simp
    refine hK _ _ ?_
    clear hK K
    try simp only [Act.put, List.getElem_toArray, List.getElem_cons_succ, List.getElem_cons_zero, List.setIfInBounds_toArray, List.set_cons_zero, List.set_cons_succ]
    refine wpList_plain rfl fun K hK => ?_
    go_simp
    refine hK _ _ ?_
    clear hK K
    try simp only [Act.put, List.getElem_toArray, List.getElem_cons_succ, List.getElem_cons_zero, List.setIfInBounds_toArray, List.set_cons_zero, List.set_cons_succ]
    refine wpList_plain rfl fun K hK => ?_
    go_simp
    refine hK _ _ ?_
    clear hK K
    try simp only [Act.put, List.getElem_toArray, List.getElem_cons_succ, List.getElem_cons_zero, List.setIfInBounds_toArray, List.set_cons_zero, List.set_cons_succ]
    refine wpList_plain rfl fun K hK => ?_
    go_simp
    refine hK _ _ ?_
    clear hK K
    try simp only [Act.put, List.getElem_toArray, List.getElem_cons_succ, List.getElem_cons_zero, List.setIfInBounds_toArray, List.set_cons_zero, List.set_cons_succ]
    refine wpList_plain rfl fun K hK => ?_
    refine wp_lit1x3 24 49 _ rfl Tryz.underlying24 (by kernel_rfl) (by rfl) ?_
    refine hK _ _ ?_
    clear hK K
    try simp only [Act.put, List.getElem_toArray, List.getElem_cons_succ, List.getElem_cons_zero, List.setIfInBounds_toArray, List.set_cons_zero, List.set_cons_succ]
    clear kHBX0 jHBX0 kHBX1 jHBX1 kHBX2 jHBX2 kHBX3 jHBX3
    go_wp2
    exact HR.out _ _ [(q0, q1, q2)] (row_lit (n := 1) NX.out.size rfl (by omega)) (by simp) (fun z hz => by simp at hz; subst hz; exact ⟨N1, N2⟩) (NX.out.alloc _)
  · as_aux_lemma =>
    have lp : 0 < L.length := by omega
    have le : ((L.length : Int) == 0) = false := by simp only [beq_eq_false_iff_ne]; omega
    have kHBX0 : W1.cell? ⟨w.heap.size, 0, none⟩ = some (.int .i64 q0) := by rw [cell_of HBX.out]; rfl
    have jHBX0 : ∀ o, (W1.alloc o).cell? ⟨w.heap.size, 0, none⟩ = some (.int .i64 q0) := fun o => cell_alloc_old o kHBX0
    have kHBX1 : W1.cell? ⟨w.heap.size, 1, none⟩ = some (.int .i64 q1) := by rw [cell_of HBX.out]; rfl
    have jHBX1 : ∀ o, (W1.alloc o).cell? ⟨w.heap.size, 1, none⟩ = some (.int .i64 q1) := fun o => cell_alloc_old o kHBX1
    have kHBX2 : W1.cell? ⟨w.heap.size, 2, none⟩ = some (.int .i64 q2) := by rw [cell_of HBX.out]; rfl
    have jHBX2 : ∀ o, (W1.alloc o).cell? ⟨w.heap.size, 2, none⟩ = some (.int .i64 q2) := fun o => cell_alloc_old o kHBX2
    have kHBX3 : W1.cell? ⟨w.heap.size, 3, none⟩ = some (.int .i64 q3) := by rw [cell_of HBX.out]; rfl
    have jHBX3 : ∀ o, (W1.alloc o).cell? ⟨w.heap.size, 3, none⟩ = some (.int .i64 q3) := fun o => cell_alloc_old o kHBX3
    go_upto_region 3 with (fail)
    clear kHBX0 jHBX0 kHBX1 jHBX1 kHBX2 jHBX2 kHBX3 jHBX3
    refine wp_named ?_
    intro W2 hW
    have n : Nw W1 W2 := by rw [hW]; first | exact Ch.refl _ _ | exact (Ch.refl _ _).alloc _ | exact ((Ch.refl _ _).alloc _).alloc _
    replace HO := Lib.hid (HO.out.ch' n (fun _ _ e => e))
    replace NX := Lib.hid (NX.out.trans n)
    replace HBX := Lib.hid (n.heap HBX.out id)
    clear hW n
    have zA : w.heap.size < W2.heap.size := lt_of_heap HBX.out
    refine wp_region_lit ?_
    refine wpList_plain rfl fun K hK => ?_
    go_simp
    refine hK _ _ ?_
    clear hK K
    try simp only [Act.put, List.getElem_toArray, List.getElem_cons_succ, List.getElem_cons_zero, List.setIfInBounds_toArray, List.set_cons_zero, List.set_cons_succ]
    refine wpList_plain rfl fun K hK => ?_
    go_simp
    refine hK _ _ ?_
    clear hK K
    try simp only [Act.put, List.getElem_toArray, List.getElem_cons_succ, List.getElem_cons_zero, List.setIfInBounds_toArray, List.set_cons_zero, List.set_cons_succ]
    refine wpList_plain rfl fun K hK => ?_
    refine wp_appOps _ (.tmp 18) (.tmp 19) rfl W2.heap.size _ [] (by rfl) (row_lit (n := 0) (Nat.le_refl _) rfl (by omega)) _ _ L (by rfl) (CRow.ch' (HO.out) ((Ch.refl (fun _ => False) _).alloc _) (fun _ _ e => e)) HNL.out (by simp only [List.length_nil]; omega) (by rw [alloc_size]; omega) ?_
    intro v8 w8 hrow8 hgr8 hnil8
    rw [List.nil_append] at hrow8
    have n : Nw W2 w8 := ((Ch.refl _ _).alloc _).grown hgr8 (fun k e hk => by have e' : W2.heap.size = k := Option.some.inj e; omega)
    refine hK _ _ ?_
    clear hK K
    try simp only [Act.put, List.getElem_toArray, List.getElem_cons_succ, List.getElem_cons_zero, List.setIfInBounds_toArray, List.set_cons_zero, List.set_cons_succ]
    clear hgr8 hnil8
    replace HO := Lib.hid (HO.out.ch' n (fun _ _ e => e))
    replace NX := Lib.hid (NX.out.trans n)
    replace HBX := Lib.hid (n.heap HBX.out id)
    obtain ⟨g, cp, rfl, hgB, hncp, hcpm⟩ := CRow.someG hrow8 lp
    have HI := Lib.hid (show ORow w8 W2.heap.size (.slice (some ⟨g, 0, none⟩) L.length cp) L from hrow8)
    clear n
    clear hrow8
    have kHBX0 : w8.cell? ⟨w.heap.size, 0, none⟩ = some (.int .i64 q0) := by rw [cell_of HBX.out]; rfl
    have kHBX1 : w8.cell? ⟨w.heap.size, 1, none⟩ = some (.int .i64 q1) := by rw [cell_of HBX.out]; rfl
    have kHBX2 : w8.cell? ⟨w.heap.size, 2, none⟩ = some (.int .i64 q2) := by rw [cell_of HBX.out]; rfl
    have kHBX3 : w8.cell? ⟨w.heap.size, 3, none⟩ = some (.int .i64 q3) := by rw [cell_of HBX.out]; rfl
    go_wp2_with (go_at_call 19; fail)
    clear kHBX0 kHBX1 kHBX2 kHBX3
    refine Calls_nm ?_
    intro W3 hW
    have n : Nw w8 W3 := by rw [hW]; first | exact Ch.refl _ _ | exact (Ch.refl _ _).alloc _ | exact ((Ch.refl _ _).alloc _).alloc _
    replace HO := Lib.hid (HO.out.ch' n (fun _ _ e => e))
    replace NX := Lib.hid (NX.out.trans n)
    replace HBX := Lib.hid (n.heap HBX.out id)
    replace HI := Lib.hid (HI.out.ch n (fun _ _ e => e))
    clear hW n
    refine Mod_any q0 (L.length : Int) _ _ HQ.out.1 (by omega) (by omega) ?_
    obtain ⟨k, hk⟩ : ∃ k : Nat, q0 % (L.length : Int) = (k : Int) := ⟨(q0 % (L.length : Int)).toNat, by have := Int.emod_nonneg q0 (show (L.length : Int) ≠ 0 by omega); omega⟩
    have hkl : k < L.length := by have := Int.emod_lt_of_pos q0 (show (0 : Int) < (L.length : Int) by omega); omega
    rw [hk]
    clear hk
    have kHBX0 : W3.cell? ⟨w.heap.size, 0, none⟩ = some (.int .i64 q0) := by rw [cell_of HBX.out]; rfl
    have kHBX1 : W3.cell? ⟨w.heap.size, 1, none⟩ = some (.int .i64 q1) := by rw [cell_of HBX.out]; rfl
    have kHBX2 : W3.cell? ⟨w.heap.size, 2, none⟩ = some (.int .i64 q2) := by rw [cell_of HBX.out]; rfl
    have kHBX3 : W3.cell? ⟨w.heap.size, 3, none⟩ = some (.int .i64 q3) := by rw [cell_of HBX.out]; rfl
    go_wp2_with (go_at_call 19; fail)
    clear kHBX0 kHBX1 kHBX2 kHBX3
    refine Calls_nm ?_
    intro W4 hW
    have n : Nw W3 W4 := by rw [hW]; first | exact Ch.refl _ _ | exact (Ch.refl _ _).alloc _ | exact ((Ch.refl _ _).alloc _).alloc _
    replace HO := Lib.hid (HO.out.ch' n (fun _ _ e => e))
    replace NX := Lib.hid (NX.out.trans n)
    replace HBX := Lib.hid (n.heap HBX.out id)
    replace HI := Lib.hid (HI.out.ch n (fun _ _ e => e))
    clear hW n
    refine Mod_any q1 5 _ _ HQ.out.2.1 (by omega) (by omega) ?_
    obtain ⟨j, hj⟩ : ∃ j : Nat, q1 % 5 = (j : Int) := ⟨(q1 % 5).toNat, by omega⟩
    have hj5 : j < 5 := by omega
    rw [hj]
    clear hj
    have k0 : (0 : Int) ≤ (k : Int) := by omega
    have k1 : (k : Int) < (L.length : Int) := by omega
    obtain ⟨⟨c, x, y⟩, hq⟩ : ∃ z, L[k]? = some z := ⟨_, List.getElem?_eq_getElem hkl⟩
    have HQK := Lib.hid hq
    obtain ⟨nx, ny⟩ := HNM.out _ (List.mem_of_getElem? hq)
    simp only at nx ny
    obtain ⟨⟨nx, ny⟩, -⟩ : (numOk x ∧ numOk y) ∧ True := ⟨HNM.out _ (List.mem_of_getElem? hq), trivial⟩
    clear hq
    have hjj : j = 0 ∨ j = 1 ∨ j = 2 ∨ j = 3 ∨ j = 4 := by omega
    rcases hjj with rfl | rfl | rfl | rfl | rfl
    · as_aux_lemma =>
      have kHBX0 : W4.cell? ⟨w.heap.size, 0, none⟩ = some (.int .i64 q0) := by rw [cell_of HBX.out]; rfl
      have kHBX1 : W4.cell? ⟨w.heap.size, 1, none⟩ = some (.int .i64 q1) := by rw [cell_of HBX.out]; rfl
      have kHBX2 : W4.cell? ⟨w.heap.size, 2, none⟩ = some (.int .i64 q2) := by rw [cell_of HBX.out]; rfl
      have kHBX3 : W4.cell? ⟨w.heap.size, 3, none⟩ = some (.int .i64 q3) := by rw [cell_of HBX.out]; rfl
      obtain ⟨z0, z1, z2⟩ := opC_at L k (c, x, y) HQK.out
      obtain ⟨cc, cf⟩ := CRow.cellAt HI.out z0
      simp only at cc
      go_wp2
      have hset := (opC_set (L := L) q2 HQK.out)
      refine HR.out _ _ (L.set k (q2, x, y)) ?_ (by rw [List.length_set]; omega) (num_set HNM.out ⟨nx, ny⟩) (NX.out.setb (fun hb => by omega) _)
      show CRow _ _ _ _ _ (L.set k (q2, x, y)).length (opC (L.set k (q2, x, y)))
      rw [List.length_set, ← hset.1]
      exact (CRow.store HI.out (k * 3) _).lo (by omega)
    · as_aux_lemma =>
      have kHBX0 : W4.cell? ⟨w.heap.size, 0, none⟩ = some (.int .i64 q0) := by rw [cell_of HBX.out]; rfl
      have kHBX1 : W4.cell? ⟨w.heap.size, 1, none⟩ = some (.int .i64 q1) := by rw [cell_of HBX.out]; rfl
      have kHBX2 : W4.cell? ⟨w.heap.size, 2, none⟩ = some (.int .i64 q2) := by rw [cell_of HBX.out]; rfl
      have kHBX3 : W4.cell? ⟨w.heap.size, 3, none⟩ = some (.int .i64 q3) := by rw [cell_of HBX.out]; rfl
      obtain ⟨z0, z1, z2⟩ := opC_at L k (c, x, y) HQK.out
      obtain ⟨cc, cf⟩ := CRow.cellAt HI.out z1
      simp only at cc
      go_wp2
      have hset := (opC_set (L := L) q2 HQK.out)
      refine HR.out _ _ (L.set k (c, q2, y)) ?_ (by rw [List.length_set]; omega) (num_set HNM.out ⟨N2, ny⟩) (NX.out.setb (fun hb => by omega) _)
      show CRow _ _ _ _ _ (L.set k (c, q2, y)).length (opC (L.set k (c, q2, y)))
      rw [List.length_set, ← hset.2.1]
      exact (CRow.store HI.out (k * 3 + 1) _).lo (by omega)
    · as_aux_lemma =>
      have kHBX0 : W4.cell? ⟨w.heap.size, 0, none⟩ = some (.int .i64 q0) := by rw [cell_of HBX.out]; rfl
      have kHBX1 : W4.cell? ⟨w.heap.size, 1, none⟩ = some (.int .i64 q1) := by rw [cell_of HBX.out]; rfl
      have kHBX2 : W4.cell? ⟨w.heap.size, 2, none⟩ = some (.int .i64 q2) := by rw [cell_of HBX.out]; rfl
      have kHBX3 : W4.cell? ⟨w.heap.size, 3, none⟩ = some (.int .i64 q3) := by rw [cell_of HBX.out]; rfl
      obtain ⟨z0, z1, z2⟩ := opC_at L k (c, x, y) HQK.out
      obtain ⟨cc, cf⟩ := CRow.cellAt HI.out z2
      simp only at cc
      go_wp2
      have hset := (opC_set (L := L) q2 HQK.out)
      refine HR.out _ _ (L.set k (c, x, q2)) ?_ (by rw [List.length_set]; omega) (num_set HNM.out ⟨nx, N2⟩) (NX.out.setb (fun hb => by omega) _)
      show CRow _ _ _ _ _ (L.set k (c, x, q2)).length (opC (L.set k (c, x, q2)))
      rw [List.length_set, ← hset.2.2]
      exact (CRow.store HI.out (k * 3 + 2) _).lo (by omega)
    · as_aux_lemma =>
      obtain ⟨A', cap', e9, hlc9, hcap9, hel⟩ := ORow.prog (L := L) HO.out
      cases e9
      obtain ⟨pk, po, hpk, rfl, -, -, -⟩ := hel k c x y HQK.out
      clear hel
      have kHBX0 : W4.cell? ⟨w.heap.size, 0, none⟩ = some (.int .i64 q0) := by rw [cell_of HBX.out]; rfl
      have kHBX1 : W4.cell? ⟨w.heap.size, 1, none⟩ = some (.int .i64 q1) := by rw [cell_of HBX.out]; rfl
      have kHBX2 : W4.cell? ⟨w.heap.size, 2, none⟩ = some (.int .i64 q2) := by rw [cell_of HBX.out]; rfl
      have kHBX3 : W4.cell? ⟨w.heap.size, 3, none⟩ = some (.int .i64 q3) := by rw [cell_of HBX.out]; rfl
      go_upto_region 13 with (fail)
      clear kHBX0 kHBX1 kHBX2 kHBX3
      have ek : IntKind.i64.wrap ((k : Int) + 1) = (k : Int) + 1 := by rw [IntKind.wrap_i64]; omega
      have k2 : (k : Int) + 1 ≤ (L.length : Int) := by omega
      have k3 : (k : Int) ≤ (cp : Int) := by omega
      have k4 : (0 : Int) ≤ (k : Int) + 1 := by omega
      have k5 : (L.length : Int) ≤ (cap : Int) := by omega
      have kt : ((k : Int) + 1).toNat = k + 1 := by omega
      have hsub := IsProg.sub (i := k + 1) (ln := L.length - (k + 1)) (ORow.prog (L := L) HO.out) (by omega)
      obtain ⟨X, hX⟩ : ∃ X : Option Addr, (if cap = k + 1 then some ⟨pk, po, none⟩ else some ⟨pk, po + (k + 1) * 3, none⟩) = X := ⟨_, rfl⟩
      have HSUB := Lib.hid (show IsProg W4 W4.heap.size (.slice X (L.length - (k + 1)) (cap - (k + 1))) ((L.drop (k + 1)).take (L.length - (k + 1))) from prog_or hsub hX (by rw [List.length_take, List.length_drop]; omega) (by omega) hcap9)
      clear hsub
      have HSH := Lib.hid (show ORow W4 W2.heap.size (.slice (some ⟨g, 0, none⟩) k cp) (L.take k) from by have h9 := CRow.shorter HI.out k (by omega); rw [opC_take] at h9; show CRow _ _ _ _ _ (L.take k).length _; rw [List.length_take, Nat.min_eq_left (by omega)]; exact h9)
      have zg := (HI.out.lt g rfl).2
      refine wp_named ?_
      intro W5 hW
      have n : Nw W4 W5 := by rw [hW]; first | exact Ch.refl _ _ | exact (Ch.refl _ _).alloc _
      replace HO := Lib.hid (HO.out.ch' n (fun _ _ e => e))
      replace NX := Lib.hid (NX.out.trans n)
      replace HBX := Lib.hid (n.heap HBX.out id)
      replace HI := Lib.hid (HI.out.ch n (fun _ _ e => e))
      replace HSUB := Lib.hid (HSUB.out.kept n nof)
      replace HSH := Lib.hid (HSH.out.ch n (fun _ _ e => e))
      replace zg := Nat.lt_of_lt_of_le zg n.size
      clear hW n
      refine wp_region_V (F := fun w' => True) (opsOf Tryz.f7 13) 7 9 (by kernel_rfl) (by kernel_rfl) (by kernel_rfl) (fun w w' h n => True.intro) True.intro (fun HOPS HCL hHeld => ?_)
      refine wpU_named ?_
      intro W6 hW
      try rw [← hW] at hHeld
      have n : Nw W5 W6 := by rw [hW]; exact (Ch.refl _ _).drew
      replace HO := Lib.hid (HO.out.ch' n (fun _ _ e => e))
      replace NX := Lib.hid (NX.out.trans n)
      replace HBX := Lib.hid (n.heap HBX.out id)
      replace HI := Lib.hid (HI.out.ch n (fun _ _ e => e))
      replace HSUB := Lib.hid (HSUB.out.kept n nof)
      replace HSH := Lib.hid (HSH.out.ch n (fun _ _ e => e))
      replace zg := Nat.lt_of_lt_of_le zg n.size
      clear hW n
      first | (refine wpU_takeA (i := 0) (v := ?_) HOPS rfl (by kernel_rfl) (fun _ _ _ h => h) HCL (goes_read (by rfl) ?hy) ?_; case hy => (intro w hSw; (try dsimp only at hSw); go_simp; (try with_reducible rfl))) | (refine wpU_takeA (i := 0) (v := _) HOPS rfl (by kernel_rfl) (fun _ _ _ h => h) HCL (goes_not (by rfl)) ?_)
      try simp only [Act.put, List.getElem_toArray, List.getElem_cons_succ, List.getElem_cons_zero, List.setIfInBounds_toArray, List.set_cons_zero, List.set_cons_succ]
      first | (refine wpU_takeA (i := 1) (v := ?_) HOPS rfl (by kernel_rfl) (fun _ _ _ h => h) HCL (goes_read (by rfl) ?hy) ?_; case hy => (intro w hSw; (try dsimp only at hSw); go_simp; (try with_reducible rfl))) | (refine wpU_takeA (i := 1) (v := _) HOPS rfl (by kernel_rfl) (fun _ _ _ h => h) HCL (goes_not (by rfl)) ?_)
      try simp only [Act.put, List.getElem_toArray, List.getElem_cons_succ, List.getElem_cons_zero, List.setIfInBounds_toArray, List.set_cons_zero, List.set_cons_succ]
      first | (refine wpU_takeA (i := 2) (v := ?_) HOPS rfl (by kernel_rfl) (fun _ _ _ h => h) HCL (goes_read (by rfl) ?hy) ?_; case hy => (intro w hSw; (try dsimp only at hSw); go_simp; (try with_reducible rfl))) | (refine wpU_takeA (i := 2) (v := _) HOPS rfl (by kernel_rfl) (fun _ _ _ h => h) HCL (goes_not (by rfl)) ?_)
      try simp only [Act.put, List.getElem_toArray, List.getElem_cons_succ, List.getElem_cons_zero, List.setIfInBounds_toArray, List.set_cons_zero, List.set_cons_succ]
      first | (refine wpU_takeA (i := 3) (v := ?_) HOPS rfl (by kernel_rfl) (fun _ _ _ h => h) HCL (goes_read (by rfl) ?hy) ?_; case hy => (intro w hSw; (try dsimp only at hSw); go_simp; (try with_reducible rfl))) | (refine wpU_takeA (i := 3) (v := _) HOPS rfl (by kernel_rfl) (fun _ _ _ h => h) HCL (goes_not (by rfl)) ?_)
      try simp only [Act.put, List.getElem_toArray, List.getElem_cons_succ, List.getElem_cons_zero, List.setIfInBounds_toArray, List.set_cons_zero, List.set_cons_succ]
      first | (refine wpU_takeA (i := 4) (v := ?_) HOPS rfl (by kernel_rfl) (fun _ _ _ h => h) HCL (goes_read (by rfl) ?hy) ?_; case hy => (intro w hSw; (try dsimp only at hSw); go_simp; (try with_reducible rfl))) | (refine wpU_takeA (i := 4) (v := _) HOPS rfl (by kernel_rfl) (fun _ _ _ h => h) HCL (goes_not (by rfl)) ?_)
      try simp only [Act.put, List.getElem_toArray, List.getElem_cons_succ, List.getElem_cons_zero, List.setIfInBounds_toArray, List.set_cons_zero, List.set_cons_succ]
      first | (refine wpU_takeA (i := 5) (v := ?_) HOPS rfl (by kernel_rfl) (fun _ _ _ h => h) HCL (goes_read (by rfl) ?hy) ?_; case hy => (intro w hSw; (try dsimp only at hSw); go_simp; (try with_reducible rfl))) | (refine wpU_takeA (i := 5) (v := _) HOPS rfl (by kernel_rfl) (fun _ _ _ h => h) HCL (goes_not (by rfl)) ?_)
      try simp only [Act.put, List.getElem_toArray, List.getElem_cons_succ, List.getElem_cons_zero, List.setIfInBounds_toArray, List.set_cons_zero, List.set_cons_succ]
      first | (refine wpU_takeA (i := 6) (v := ?_) HOPS rfl (by kernel_rfl) (fun _ _ _ h => h) HCL (goes_read (by rfl) ?hy) ?_; case hy => (intro w hSw; (try dsimp only at hSw); go_simp; (try with_reducible rfl))) | (refine wpU_takeA (i := 6) (v := _) HOPS rfl (by kernel_rfl) (fun _ _ _ h => h) HCL (goes_not (by rfl)) ?_)
      try simp only [Act.put, List.getElem_toArray, List.getElem_cons_succ, List.getElem_cons_zero, List.setIfInBounds_toArray, List.set_cons_zero, List.set_cons_succ]
      refine wpU_ready (rs := [7]) (by kernel_rfl) (by simp) ?_
      intro w7 hle
      obtain ⟨n, hHeld⟩ := hle.ahead (by kernel_rfl)
      clear hle
      replace HO := Lib.hid (HO.out.ch' n (fun _ _ e => e))
      replace NX := Lib.hid (NX.out.trans n)
      replace HBX := Lib.hid (n.heap HBX.out id)
      replace HI := Lib.hid (HI.out.ch n (fun _ _ e => e))
      replace HSUB := Lib.hid (HSUB.out.kept n nof)
      replace HSH := Lib.hid (HSH.out.ch n (fun _ _ e => e))
      replace zg := Nat.lt_of_lt_of_le zg n.size
      clear n
      refine ReadyU.last HOPS rfl (by rfl) (by kernel_rfl) (fun K hK => ?_) ReadyU.nil
      refine wp_appProg _ (.tmp 57) (.tmp 61) rfl W2.heap.size _ (L.take k) (by rfl) HSH.out _ _ (L.length - (k + 1)) _ _ (by rw [List.length_take, List.length_drop]; omega) (by rfl) HSUB.out (by rw [List.length_take]; omega) (by omega) ?_
      intro v9 w9 hrow9 hgr9
      refine hK.out _ _ ?_
      clear hK K
      try simp only [Act.put, List.getElem_toArray, List.getElem_cons_succ, List.getElem_cons_zero, List.setIfInBounds_toArray, List.set_cons_zero, List.set_cons_succ]
      refine wpU_ready (rs := [8]) (by kernel_rfl) (by simp) ?_
      intro wq hle
      rw [hle.behind (by kernel_rfl)]
      clear hle wq
      refine ReadyU.last HOPS rfl (by rfl) (by kernel_rfl) (fun K hK => ?_) ReadyU.nil
      go_simp
      refine hK.out _ _ ?_
      clear hK K
      try simp only [Act.put, List.getElem_toArray, List.getElem_cons_succ, List.getElem_cons_zero, List.setIfInBounds_toArray, List.set_cons_zero, List.set_cons_succ]
      refine wpU_done (by kernel_rfl) (fun w8 hle => ?_) _
      rw [hle.behind (by kernel_rfl)]
      clear HOPS HCL hle
      repeat clear hHeld
      have n9 : Nw w w9 := NX.out.grown hgr9 (fun z e hz => by have e' : g = z := Option.some.inj e; omega)
      go_wp2
      exact HR.out _ _ _ (hrow9.lo (by omega)) (by rw [List.length_append, List.length_take, List.length_take, List.length_drop]; omega) (fun z hz => by rcases List.mem_append.1 hz with h | h; exact HNM.out z (List.mem_of_mem_take h); exact HNM.out z (List.mem_of_mem_drop (List.mem_of_mem_take h))) n9
    · as_aux_lemma =>
      have zg := (HI.out.lt g rfl).2
      obtain ⟨A', cap', e9, -, hcap9, hel⟩ := ORow.prog (L := L) HO.out
      cases e9
      obtain ⟨pk, po, hpk, rfl, c0, c1, c2⟩ := hel k c x y HQK.out
      clear hel
      have kHBX0 : W4.cell? ⟨w.heap.size, 0, none⟩ = some (.int .i64 q0) := by rw [cell_of HBX.out]; rfl
      have kHBX1 : W4.cell? ⟨w.heap.size, 1, none⟩ = some (.int .i64 q1) := by rw [cell_of HBX.out]; rfl
      have kHBX2 : W4.cell? ⟨w.heap.size, 2, none⟩ = some (.int .i64 q2) := by rw [cell_of HBX.out]; rfl
      have kHBX3 : W4.cell? ⟨w.heap.size, 3, none⟩ = some (.int .i64 q3) := by rw [cell_of HBX.out]; rfl
      go_upto_region 15 with (fail)
      clear kHBX0 kHBX1 kHBX2 kHBX3
      refine wp_region_lit ?_
      refine wpList_plain rfl fun K hK => ?_
      go_simp
      refine hK _ _ ?_
      clear hK K
      try simp only [Act.put, List.getElem_toArray, List.getElem_cons_succ, List.getElem_cons_zero, List.setIfInBounds_toArray, List.set_cons_zero, List.set_cons_succ]
      refine wpList_plain rfl fun K hK => ?_
      go_simp
      refine hK _ _ ?_
      clear hK K
      try simp only [Act.put, List.getElem_toArray, List.getElem_cons_succ, List.getElem_cons_zero, List.setIfInBounds_toArray, List.set_cons_zero, List.set_cons_succ]
      refine wpList_plain rfl fun K hK => ?_
      go_simp
      refine hK _ _ ?_
      clear hK K
      try simp only [Act.put, List.getElem_toArray, List.getElem_cons_succ, List.getElem_cons_zero, List.setIfInBounds_toArray, List.set_cons_zero, List.set_cons_succ]
      refine wpList_plain rfl fun K hK => ?_
      go_simp
      refine hK _ _ ?_
      clear hK K
      try simp only [Act.put, List.getElem_toArray, List.getElem_cons_succ, List.getElem_cons_zero, List.setIfInBounds_toArray, List.set_cons_zero, List.set_cons_succ]
      refine wpList_plain rfl fun K hK => ?_
      go_simp
      refine hK _ _ ?_
      clear hK K
      try simp only [Act.put, List.getElem_toArray, List.getElem_cons_succ, List.getElem_cons_zero, List.setIfInBounds_toArray, List.set_cons_zero, List.set_cons_succ]
      clear c0 c1 c2
      refine wpList_plain rfl fun K hK => ?_
      refine wp_lit1x3 24 49 _ rfl Tryz.underlying24 (by kernel_rfl) (by rfl) ?_
      refine hK _ _ ?_
      clear hK K
      try simp only [Act.put, List.getElem_toArray, List.getElem_cons_succ, List.getElem_cons_zero, List.setIfInBounds_toArray, List.set_cons_zero, List.set_cons_succ]
      refine wpList_plain rfl fun K hK => ?_
      refine wp_appOps _ (.tmp 65) (.tmp 70) rfl W2.heap.size _ L (by rfl) (HI.out.ch ((Ch.refl (fun _ => False) _).alloc _) (fun _ _ e => e)) W4.heap.size _ [(c, x, y)] (by rfl) (row_lit (n := 1) (Nat.le_refl _) rfl (by omega)) (fun h => by cases h) (by simp only [List.length_cons, List.length_nil]; omega) (by rw [alloc_size]; omega) ?_
      intro v9 w9 hrow9 hgr9 hnil9
      have n9 : Nw w w9 := (NX.out.alloc _).grown hgr9 (fun z e hz => by have := (HI.out.lt z e).1; omega)
      refine hK _ _ ?_
      clear hK K
      try simp only [Act.put, List.getElem_toArray, List.getElem_cons_succ, List.getElem_cons_zero, List.setIfInBounds_toArray, List.set_cons_zero, List.set_cons_succ]
      go_wp2
      exact HR.out _ _ (L ++ [(c, x, y)]) (hrow9.lo (by omega)) (by simp) (fun z hz => by rcases List.mem_append.1 hz with h | h; exact HNM.out z h; simp at h; subst h; exact ⟨nx, ny⟩) n9

end Go.Proofs.YtdpbdcaefdcooaaGreatDoor
