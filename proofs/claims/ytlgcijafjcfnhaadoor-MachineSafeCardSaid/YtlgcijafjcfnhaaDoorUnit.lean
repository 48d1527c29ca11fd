/-
  indelibleref09.unit: a short part of a program; and what 'append' does to a program in memory of the call's own.
-/
import Derived.Test.YtlgcijafjcfnhaaDoorDraw
import Derived.Test.YtlgcijafjcfnhaaDoorSan
import Derived.Test.YtlgcijafjcfnhaaDoorGood
import Derived.Test.YtlgcijafjcfnhaaDoorCopy
namespace Go.Proofs.YtlgcijafjcfnhaaDoor
open Go.RowKit
set_option linter.unusedVariables false
set_option linter.unusedSimpArgs false

theorem opCells_length (l : List Op3) : (opCells l).length = l.length * 3 := by
  induction l with
  | nil => rfl
  | cons q l ih => simp [opCells, ih]; omega
theorem opCells_append (a b : List Op3) : opCells (a ++ b) = opCells a ++ opCells b := by
  induction a with
  | nil => rfl
  | cons q a ih => simp [opCells, ih]
theorem opCells_one (l : List Op3) : ∀ u ∈ opCells l, u.oneCell' = true := by
  induction l with
  | nil => intro u h; cases h
  | cons q l ih =>
    intro u h
    simp only [opCells, List.mem_cons] at h
    rcases h with rfl | rfl | rfl | h
    · rfl
    · rfl
    · rfl
    · exact ih u h

/-- The program l in memory of the call's own, from block B on. -/
def OwnOps (w : World) (B : Nat) (v : Value) (l : List Op3) : Prop := w.ownsRow B 46 3 v l.length (opCells l)
theorem OwnOps.ch {w w' : World} {F : Nat → Prop} {B : Nat} {v : Value} {l : List Op3} (h : OwnOps w B v l) (hc : Ch F w w') (hF : ∀ k, v.ownBlock = some k → ¬ F k) : OwnOps w' B v l := by
  refine ⟨h.1, ?_⟩
  rcases h.2 with hn | ⟨g, cap, cur, rfl, hb, hgg, rest⟩
  · exact .inl hn
  · exact .inr ⟨g, cap, cur, rfl, hb, hc.heap hgg (hF g rfl), rest⟩
theorem OwnOps.lo {w : World} {B B' : Nat} {v : Value} {l : List Op3} (h : OwnOps w B v l) (hb : B' ≤ B) : OwnOps w B' v l := by
  refine ⟨h.1, ?_⟩
  rcases h.2 with hn | ⟨g, cap, cur, rfl, h1, rest⟩
  · exact .inl hn
  · exact .inr ⟨g, cap, cur, rfl, by omega, rest⟩
theorem own_lit {w : World} {B : Nat} (l : List Op3) (hB : B ≤ w.heap.size) (hl : l.length ≤ 1000000) : OwnOps (w.alloc (.cells (opCells l).toArray 46)) B (.slice (some ⟨w.heap.size, 0, none⟩) l.length l.length) l :=
  ⟨opCells_length l, .inr ⟨w.heap.size, l.length, _, rfl, hB, heap_alloc_eq _ rfl, Nat.le_refl _, by unfold maxLen; omega, by simp [opCells_length], by rw [← opCells_length]; simp⟩⟩
/-- A slice value is no longer than its room. -/
def CapOk (v : Value) : Prop := ∃ A n cap, v = .slice A n cap ∧ n ≤ cap ∧ cap ≤ 9223372036854775807
theorem OwnOps.capOk {w : World} {B : Nat} {v : Value} {l : List Op3} (h : OwnOps w B v l) : CapOk v := by
  rcases h.2 with ⟨h1, h2⟩ | ⟨g, cap, cur, rfl, hb, hgg, hnc, hcm, hcs, ht⟩
  · exact ⟨none, _, 0, h1, by omega, by omega⟩
  · exact ⟨_, _, cap, rfl, hnc, by unfold maxLen at hcm; omega⟩
theorem OwnOps.isOps {w : World} {B : Nat} {v : Value} {l : List Op3} (h : OwnOps w B v l) (hl : l.length ≤ 1000000) : IsOps w w.heap.size v l := by
  rcases h.2 with ⟨h1, h2⟩ | ⟨g, cap, cur, rfl, hb, hgg, hnc, hcm, hcs, ht⟩
  · refine ⟨none, 0, by rw [h2]; exact h1, by omega, fun i c n m hi => ?_⟩
    have := (List.getElem?_eq_some_iff.1 hi).1
    omega
  · refine ⟨_, cap, rfl, by omega, fun i c n m hi => ⟨g, 0, lt_of_heap hgg, rfl, ?_⟩⟩
    have hf := opCells_get hi
    have hil := (List.getElem?_eq_some_iff.1 hi).1
    have hg : ∀ j, j < l.length * 3 → cur[j]? = (opCells l)[j]? := by
      intro j hj
      rw [← Array.getElem?_toList, ← ht, List.getElem?_take, if_pos hj]
    rw [cell_of hgg, cell_of hgg, cell_of hgg, Nat.zero_add, hg _ (by omega), hg _ (by omega), hg _ (by omega)]
    exact hf

theorem info_op : (Tryd.prog.info? 46).map (fun i => (i.zero, i.size, i.bytes)) = some (some (.agg #[.int .i64 0, .int .i64 0, .int .i64 0]), 3, 24) := by kernel_rfl

set_option maxRecDepth 100000 in
/-- 'append' of a program to one in memory of the call's own. -/
theorem wpList_append_ops {ops : Array Oper} {rest : List Oper} {oo : Oper} {a : Act} {Q : Exit → Act → World → Prop} (w : World) (hgd : oo.guard = none) (s x : Operand)
    (ho : oo.op = .call { callee := .builtin .append, args := #[s, x], argTypes := #[27, 27] })
    (B : Nat) (vs vx : Value) (p u : List Op3) (hs : a.eval s = vs) (hx : a.eval x = vx) (Hp : OwnOps w B vs p) {lo : Nat} (Hu : IsOps w lo vx u) (hn : 0 < u.length) (hlen : p.length + u.length ≤ 1000000) (hB : B ≤ w.heap.size)
    (h : ∀ g cap w', OwnOps w' B (.slice (some ⟨g, 0, none⟩) (p ++ u).length cap) (p ++ u) → w.grownBy w' vs.ownBlock → (vs.ownBlock = some g ∨ g = w.heap.size) → wpList Tryd.prog ops Q rest (a.put oo.dst (.slice (some ⟨g, 0, none⟩) (p ++ u).length cap)) w') :
    wpList Tryd.prog ops Q (oo :: rest) a w := by
  obtain ⟨ti, hi1, hz1, hs1, hb1⟩ := info_parts info_op
  obtain ⟨Ax, cx, rfl, hul, hel⟩ := Hu
  obtain ⟨⟨c0, n0, m0⟩, hq0⟩ : ∃ q, u[0]? = some q := ⟨_, List.getElem?_eq_getElem hn⟩
  obtain ⟨pk, po, -, rfl, -⟩ := hel 0 c0 n0 m0 hq0
  refine wpList_append_lies w hgd s x 27 ho B 46 ti _ 3 24 Tryd.underlying27 hi1 hz1 hs1 hb1 rfl (by omega) vs p.length (opCells p) hs Hp ⟨pk, po, none⟩ u.length cx (opCells u) hx (opCells_length u) ?_ (opCells_one u) hn (by unfold maxLen; omega) (by omega) hB _ rfl ?_
  · intro j y hj
    have hjl : j < u.length * 3 := by rw [← opCells_length]; exact (List.getElem?_eq_some_iff.1 hj).1
    obtain ⟨i, r, hr, rfl⟩ : ∃ i r, r < 3 ∧ j = i * 3 + r := ⟨j / 3, j % 3, Nat.mod_lt _ (by omega), by omega⟩
    obtain ⟨⟨c, n, m⟩, hi⟩ : ∃ q, u[i]? = some q := ⟨_, List.getElem?_eq_getElem (by omega)⟩
    obtain ⟨pk', po', -, e, h0, h1, h2⟩ := hel i c n m hi
    injection e with e
    injection e with e1 e2
    subst e1 e2
    have hf := opCells_get hi
    have hadd : (⟨pk, po, none⟩ : Addr).add (i * 3 + r) = ⟨pk, po + i * 3 + r, none⟩ := by unfold Addr.add; split <;> simp_all <;> omega
    rw [hadd]
    obtain rfl | rfl | rfl : r = 0 ∨ r = 1 ∨ r = 2 := by omega
    · rw [Nat.add_zero] at hj ⊢; rw [hf.1] at hj; injection hj with hj; subst hj; exact h0
    · rw [hf.2.1] at hj; injection hj with hj; subst hj; exact h1
    · rw [hf.2.2] at hj; injection hj with hj; subst hj; exact h2
  · intro g cap w' h1 h2 h3 _
    have e : (p ++ u).length = p.length + u.length := List.length_append
    have h1' : OwnOps w' B (.slice (some ⟨g, 0, none⟩) (p ++ u).length cap) (p ++ u) := by unfold OwnOps; rw [opCells_append, e]; exact h1
    have := h g cap w' h1' h2 h3
    rw [e] at this
    exact this

set_option maxRecDepth 100000 in
/-- 'append' of any program, an empty one too, to one in memory of the call's own that is not nil. -/
theorem wpList_append_any {ops : Array Oper} {rest : List Oper} {oo : Oper} {a : Act} {Q : Exit → Act → World → Prop} (w : World) (hgd : oo.guard = none) (s x : Operand)
    (ho : oo.op = .call { callee := .builtin .append, args := #[s, x], argTypes := #[27, 27] })
    (B g0 cap0 : Nat) (vx : Value) (p u : List Op3) (hs : a.eval s = .slice (some ⟨g0, 0, none⟩) p.length cap0) (hx : a.eval x = vx) (Hp : OwnOps w B (.slice (some ⟨g0, 0, none⟩) p.length cap0) p) {lo : Nat} (Hu : IsOps w lo vx u)
    (hnil : ∀ n c, vx = .slice none n c → n = 0 ∧ c = 0) (hlen : p.length + u.length ≤ 1000000) (hB : B ≤ w.heap.size)
    (h : ∀ g cap w', OwnOps w' B (.slice (some ⟨g, 0, none⟩) (p ++ u).length cap) (p ++ u) → w.grownBy w' (some g0) → (g0 = g ∨ g = w.heap.size) → wpList Tryd.prog ops Q rest (a.put oo.dst (.slice (some ⟨g, 0, none⟩) (p ++ u).length cap)) w') :
    wpList Tryd.prog ops Q (oo :: rest) a w := by
  by_cases hu : u.length = 0
  · have hu0 := List.eq_nil_of_length_eq_zero hu
    subst hu0
    obtain ⟨ti, hi1, hz1, hs1, hb1⟩ := info_parts info_op
    obtain ⟨Ax, cx, rfl, hul, hel⟩ := Hu
    refine wpList_append_fits_any w hgd s x 27 ho B 46 ti 3 Tryd.underlying27 hi1 hs1 g0 p.length cap0 (opCells p) hs Hp Ax 0 cx [] hx rfl (fun e => hnil _ _ (by rw [e]; rfl)) (fun ad e j y hj => by cases hj) (fun y hy => by cases hy) ?_ ?_
    · rcases Hp.2 with ⟨h1, -⟩ | ⟨g, cap, cur, h1, -, -, hnc, -⟩
      · cases h1
      · cases h1; omega
    · intro w' h1 h2
      have e : p ++ ([] : List Op3) = p := List.append_nil p
      have := h g0 cap0 w' (by rw [e]; have h3 := h1; simp only [List.append_nil, Nat.add_zero] at h3; exact h3) h2 (.inl rfl)
      rw [e] at this
      exact this
  · exact wpList_append_ops w hgd s x ho B _ vx p u hs hx Hp Hu (by omega) hlen hB fun g cap w' h1 h2 h3 => h g cap w' h1 h2 (by
      rcases h3 with h3 | h3
      · injection h3 with h3; exact .inl h3
      · exact .inr h3)
theorem OwnOps.nil_of {w : World} {B : Nat} {v : Value} {l : List Op3} (h : OwnOps w B v l) : ∀ n c, v = .slice none n c → n = 0 ∧ c = 0 := by
  intro n c e
  rcases h.2 with ⟨h1, -⟩ | ⟨g, cap, cur, h1, -⟩
  · rw [h1] at e; injection e with e1 e2 e3; omega
  · rw [h1] at e; cases e

theorem nof' {v : Value} : ∀ k : Nat, v.ownBlock = some k → ¬ (fun _ : Nat => False) k := fun _ _ h => h
theorem Next_ex (lo b : Nat) (v : Value) (l : List Int) (k : Nat) (n : Int) (w : World) (R : Ending → World → Prop) (h : DS w lo b v l k) (hn : 0 < n) (hn' : n ≤ 1000000)
    (hR : ∀ w' x k', 0 ≤ x → x < n → DS w' lo b v l k' → Ch (· = b) w w' → R (.returned (.int .i64 x)) w') : Calls Tryd.prog 27 #[.pointer (some ⟨b, 0, none⟩), .int .i64 n] w R :=
  Next_any lo b v l k n w R h hn hn' fun w' d c => hR w' _ _ (nx_in l k n hn).1 (nx_in l k n hn).2 d c

set_option maxRecDepth 100000 in
set_option maxHeartbeats 2000000 in
theorem unit_any (lo b : Nat) (v : Value) (l : List Int) (k np : Nat) (w : World) (R : Ending → World → Prop) (h : DS w lo b v l k) (hn : 0 < np) (hn' : np ≤ 1000000)
    (hR : ∀ w' u vu k', IsUnit np u → OwnOps w' w.heap.size vu u → DS w' lo b v l k' → Ch (· = b) w w' → R (.returned vu) w') : Calls Tryd.prog 28 #[.pointer (some ⟨b, 0, none⟩), .int .i64 np] w R := by
  have HR := Lib.hid hR
  have H := Lib.hid h
  clear hR h
  go_enter Tryd.func28, Tryd.ntmps28
  go_wp2_with (go_at_call 27; fail)
  refine Next_ex lo b v l _ np _ _ H.out (by omega) (by omega) ?_
  intro w1 a k1 a1 a2 d1 c1
  have D1 := Lib.hid d1
  have C1 := Lib.hid c1
  clear d1 c1
  go_wp2_with (go_at_call 27; fail)
  refine Next_ex lo b v l _ np _ _ D1.out (by omega) (by omega) ?_
  intro w2 bb k2 b1 b2 d2 c2
  have D2 := Lib.hid d2
  have C2 := Lib.hid (C1.out.trans c2)
  clear d2 c2
  go_wp2_with (go_at_call 27; fail)
  refine Next_ex lo b v l _ 2 _ _ D2.out (by omega) (by omega) ?_
  intro w3 g k3 g1 g2 d3 c3
  have D3 := Lib.hid d3
  have C3 := Lib.hid (C2.out.trans c3)
  clear d3 c3
  go_wp2_with (go_at_call 27; fail)
  refine Next_ex lo b v l _ 4 _ _ D3.out (by omega) (by omega) ?_
  intro w4 s k4 s1 s2 d4 c4
  have D4 := Lib.hid d4
  have C4 := Lib.hid (C3.out.trans c4)
  clear d4 c4
  obtain rfl | rfl | rfl | rfl : s = 0 ∨ s = 1 ∨ s = 2 ∨ s = 3 := by omega
  · go_wp2
    refine HR.out _ [(10 + g, a, 0), (8, 0, 0), (10 + g + 12 - 10, a, 0)] _ _ ⟨a, bb, 10 + g, ⟨a1, a2⟩, ⟨b1, b2⟩, by omega, .inl (by rw [show 10 + g + 12 - 10 = 10 + g + 2 from by omega])⟩ (own_lit _ C4.out.size (by simp)) (D4.out.kept ((Ch.refl (fun _ => False) w4).alloc _) (fun _ _ x => x)) (C4.out.alloc _)
  · go_wp2_with (go_at_call 27; fail)
    refine Next_ex lo b v l _ 4 _ _ D4.out (by omega) (by omega) ?_
    intro w5 j k5 j1 j2 d5 c5
    have D5 := Lib.hid d5
    have C5 := Lib.hid (C4.out.trans c5)
    clear d5 c5
    go_wp2
    refine HR.out _ [(10 + g, a, 0), (10 + g, bb, 0), (2 + j, 0, 0), (10 + g + 12 - 10, a, 0)] _ _ ⟨a, bb, 10 + g, ⟨a1, a2⟩, ⟨b1, b2⟩, by omega, .inr (.inl ⟨j, by omega, by rw [show 10 + g + 12 - 10 = 10 + g + 2 from by omega]⟩)⟩ (own_lit _ C5.out.size (by simp)) (D5.out.kept ((Ch.refl (fun _ => False) w5).alloc _) (fun _ _ x => x)) (C5.out.alloc _)
  · go_wp2_with (go_at_call 27; fail)
    refine Next_ex lo b v l _ 2 _ _ D4.out (by omega) (by omega) ?_
    intro w5 j k5 j1 j2 d5 c5
    have D5 := Lib.hid d5
    have C5 := Lib.hid (C4.out.trans c5)
    clear d5 c5
    go_wp2_with (go_at_call 27; fail)
    refine Next_ex lo b v l _ 129 _ _ D5.out (by omega) (by omega) ?_
    intro w6 z k6 z1 z2 d6 c6
    have D6 := Lib.hid d6
    have C6 := Lib.hid (C5.out.trans c6)
    clear d6 c6
    go_wp2
    refine HR.out _ [(10 + g, a, 0), (6 + j, 0, 0), (1, z - 64, 0), (3, 0, 0), (10 + g + 12 - 10, bb, 0)] _ _ ⟨a, bb, 10 + g, ⟨a1, a2⟩, ⟨b1, b2⟩, by omega, .inr (.inr (.inl ⟨j, z - 64, by omega, by rw [show 10 + g + 12 - 10 = 10 + g + 2 from by omega]⟩))⟩ (own_lit _ C6.out.size (by simp)) (D6.out.kept ((Ch.refl (fun _ => False) w6).alloc _) (fun _ _ x => x)) (C6.out.alloc _)
  · go_wp2
    refine HR.out _ [(9, 0, 0), (9, 0, 0), (2, 0, 0), (10 + g, a, 0), (5, 0, 0), (10 + g + 12 - 10, bb, 0)] _ _ ⟨a, bb, 10 + g, ⟨a1, a2⟩, ⟨b1, b2⟩, by omega, .inr (.inr (.inr (by rw [show 10 + g + 12 - 10 = 10 + g + 2 from by omega])))⟩ (own_lit _ C4.out.size (by simp)) (D4.out.kept ((Ch.refl (fun _ => False) w4).alloc _) (fun _ _ x => x)) (C4.out.alloc _)
end Go.Proofs.YtlgcijafjcfnhaaDoor
