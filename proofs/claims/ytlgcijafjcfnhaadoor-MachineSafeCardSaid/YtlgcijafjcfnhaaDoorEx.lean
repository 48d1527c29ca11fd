/-
  indeliblelaw09.example, with, limited.
-/
import Derived.Test.YtlgcijafjcfnhaaDoorCopy
import Derived.Test.YtlgcijafjcfnhaaDoorFn
namespace Go.Proofs.YtlgcijafjcfnhaaDoor
open Go.RowKit
set_option linter.unusedVariables false

/-- The outline of the chapter's examples. -/
def ex : List Pt := [(10, 0, true), (100, 50, true), (-31, 7, true)]
theorem ex_wf : ∀ q ∈ ex, wfP q := by
  intro q hq
  simp only [ex, List.mem_cons, List.not_mem_nil, or_false] at hq
  rcases hq with rfl | rfl | rfl <;> (unfold wfP wfI; decide)

/-- An outline of one contour, from cells. -/
theorem isOut_one {w : World} {b1 b2 n1 n2 : Nat} {c : List Pt} (hn : c.length = n2) (h64 : c.length ≤ 64) (hw : ∀ q ∈ c, wfP q) (h1 : w.cell? ⟨b1, 0, none⟩ = some (.slice (some ⟨b2, 0, none⟩) n2 n1))
    {cap : Nat} (hf : ∀ i u, (flat c)[i]? = some u → w.cell? ⟨b2, i, none⟩ = some u) (hb2 : b2 < w.heap.size) : IsOut w w.heap.size (.slice (some ⟨b1, 0, none⟩) 1 cap) [c] := by
  refine ⟨_, _, rfl, by simp, fun k d hk => ?_⟩
  have h0 : k = 0 := by
    have := (List.getElem?_eq_some_iff.1 hk).1
    simp at this
    exact this
  subst h0
  simp at hk
  subst hk
  subst hn
  refine ⟨h64, hw, b1, 0, _, World.block_lt_of_cell? w ⟨b1, _, none⟩ h1, rfl, h1, _, _, rfl, (fun h => by cases h), fun i q hi => ⟨b2, 0, hb2, rfl, ?_⟩⟩
  have := flat_get hi
  rw [Nat.zero_add]
  exact ⟨hf _ _ this.1, hf _ _ this.2.1, hf _ _ this.2.2⟩

/-- A copy of one contour. -/
theorem CopyOk.one {w : World} {B : Nat} {v : Value} {bs : List (Nat × Nat)} {c : List Pt} (h : CopyOk w B v bs [c]) (hc : 0 < c.length) :
    ∃ g' cap' g cap, v = .slice (some ⟨g', 0, none⟩) 1 cap' ∧ g' ≠ g ∧ B ≤ g' ∧ B ≤ g ∧ g < w.heap.size ∧ w.cell? ⟨g', 0, none⟩ = some (.slice (some ⟨g, 0, none⟩) c.length cap) ∧
      (∀ j, w.frozen? ⟨g, j, none⟩ = false) ∧ ∀ j u, (flat c)[j]? = some u → w.cell? ⟨g, j, none⟩ = some u := by
  obtain ⟨hl, -, ho, hin⟩ := h
  obtain ⟨b, rfl⟩ : ∃ b, bs = [b] := by
    match bs, hl with
    | [b], _ => exact ⟨b, rfl⟩
  obtain ⟨hne, hi⟩ := hin 0 b c rfl rfl
  obtain ⟨g', cap', rfl, -⟩ := ho.form (by simp)
  have hlt := hi.lt _ rfl
  have hlt' := ho.lt _ rfl
  obtain ⟨-, h1 | ⟨x1, x2, cur, e1, -, hh, -, -, hs, ht⟩⟩ := ho
  · cases h1.1
  obtain ⟨-, h1 | ⟨y1, y2, cur2, f1, -, hh2, hnc, -, hs2, ht2⟩⟩ := hi
  · cases h1.1
  cases e1
  cases f1
  refine ⟨g', cap', b.1, b.2, rfl, fun e => hne (congrArg some e), hlt'.1, hlt.1, hlt.2, ?_, fun j => frozen_of hh2, ?_⟩
  · rw [cell_of hh, ← Array.getElem?_toList]
    have : (cur.toList.take (1 * 1))[0]? = (slc [b] [c])[0]? := by rw [show (1 * 1) = [c].length * 1 from rfl, ht]
    rw [List.getElem?_take, if_pos (by omega)] at this
    rw [this]; rfl
  · intro j u hj
    rw [cell_of hh2, ← Array.getElem?_toList]
    rw [← ht2, List.getElem?_take] at hj
    split at hj
    · exact hj
    · cases hj

set_option maxRecDepth 100000 in
set_option maxHeartbeats 1000000 in
theorem example_any (w : World) (R : Ending → World → Prop) (hR : ∀ w' v', IsOut w' w'.heap.size v' [ex] → Nw w w' → R (.returned v') w') : Calls Tryd.prog 11 #[] w R := by
  have HR := Lib.hid hR
  clear hR
  go_enter Tryd.func11, Tryd.ntmps11
  go_wp2
  refine HR.out _ _ (isOut_one (n2 := 3) (n1 := 3) (b1 := w.heap.size + 1) (b2 := w.heap.size) (c := ex) rfl (by decide) ex_wf (cell_alloc_new (by rw [alloc_size]) rfl) ?_ (by rw [alloc_size, alloc_size]; omega)) (((Ch.refl _ _).alloc _).alloc _)
  intro i u hi
  exact cell_alloc_old _ (cell_alloc_new rfl (by rw [← List.getElem?_toArray] at hi; exact hi))

set_option maxRecDepth 100000 in
set_option maxHeartbeats 1000000 in
theorem with_any (v : Value) (c : List Pt) (i : Nat) (q : Pt) (x y : Int) (w : World) (R : Ending → World → Prop) (ho : IsOut w w.heap.size v [c]) (hq : c[i]? = some q) (hxy : wfI x ∧ wfI y)
    (hR : ∀ w' v', IsOut w' w'.heap.size v' [c.set i (x, y, q.2.2)] → Nw w w' → R (.returned v') w') : Calls Tryd.prog 13 #[v, .int .i64 i, .int .i64 x, .int .i64 y] w R := by
  have HR := Lib.hid hR
  have HQ := Lib.hid hq
  have HO := Lib.hid ho
  clear hR hq ho
  go_enter Tryd.func13, Tryd.ntmps13
  have hil := (List.getElem?_eq_some_iff.1 HQ.out).1
  have k0 : (0 : Int) ≤ (i : Int) := by omega
  have k1 : (i : Int) < (c.length : Int) := by omega
  have f0 := Lib.hid (flat_get HQ.out)
  go_wp2_with (go_at_call 26; (refine Copy_any _ _ _ _ _ HO.out (Nat.le_refl _) ?_; intro w1 v1 bs hc1 hn1; obtain ⟨g', cap', g, cap, rfl, hne, hB', hB, hgl, hcg, hfz, hfl⟩ := hc1.one (Nat.lt_of_le_of_lt (Nat.zero_le _) hil); have f2 := hfl _ _ f0.out.1; have f3 := hfl _ _ f0.out.2.1; have z2 := hfz (i * 3); have z3 := hfz (i * 3 + 1); have HFL := Lib.hid hfl; have HFZ := Lib.hid hfz; clear hfl hfz hc1))
  obtain ⟨A0, cap0, -, -, hel⟩ := HO.out
  obtain ⟨h64, hwf, -⟩ := hel 0 c rfl
  have e2 : ∀ (W : World) (a b : Nat) (u : Value), a ≠ b → (W.setCell ⟨g, a, none⟩ u).cell? ⟨g, b, none⟩ = W.cell? ⟨g, b, none⟩ := fun W a b u hab => World.cell?_setCell_other _ _ _ _ (by intro e; injection e with e1 e2; exact hab e2)
  have hg' : ∀ (W : World) (a : Nat) (u : Value), (W.setCell ⟨g, a, none⟩ u).cell? ⟨g', 0, none⟩ = W.cell? ⟨g', 0, none⟩ := fun W a u => World.cell?_setCell_other _ _ _ _ (by intro e; injection e with e1 e2; exact hne e1.symm)
  refine HR.out _ _ (isOut_one (b2 := g) (n2 := c.length) (c := c.set i (x, y, q.2.2)) (by simp) (by simpa using h64) ?_ (by rw [hg', hg']; exact hcg) ?_ (by simpa using hgl)) ((hn1.setb (fun h => by omega) _).setb (fun h => by omega) _)
  · intro r hr
    rcases List.mem_or_eq_of_mem_set hr with h | rfl
    · exact hwf r h
    · exact hxy
  · intro j u hj
    rw [← flat_set _ hil, List.getElem?_set, List.getElem?_set, List.getElem?_set] at hj
    by_cases j2 : i * 3 + 2 = j
    · subst j2
      rw [if_pos rfl, if_pos (by simp [flat_length]; omega)] at hj
      injection hj with hj
      subst hj
      rw [e2 _ _ _ _ (by omega), e2 _ _ _ _ (by omega)]
      exact HFL.out _ _ f0.out.2.2
    · rw [if_neg j2] at hj
      by_cases j1 : i * 3 + 1 = j
      · subst j1
        rw [if_pos rfl, if_pos (by simp [flat_length]; omega)] at hj
        injection hj with hj
        subst hj
        exact World.cell?_setCell_same _ _ _ (by rw [e2 _ _ _ _ (by omega)]; exact f3)
      · rw [if_neg j1] at hj
        by_cases j0 : i * 3 = j
        · subst j0
          rw [if_pos rfl, if_pos (by simp [flat_length]; omega)] at hj
          injection hj with hj
          subst hj
          rw [e2 _ _ _ _ (by omega)]
          exact World.cell?_setCell_same _ _ _ f2
        · rw [if_neg j0] at hj
          rw [e2 _ _ _ _ j1, e2 _ _ _ _ j0]
          exact HFL.out _ _ hj

end Go.Proofs.YtlgcijafjcfnhaaDoor
