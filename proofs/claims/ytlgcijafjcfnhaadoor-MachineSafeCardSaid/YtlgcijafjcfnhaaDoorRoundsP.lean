/-
  indeliblelaw09.MachineRounds: the rounded point lies on the grid, and no other point is moved.
-/
import Derived.Test.YtlgcijafjcfnhaaDoorStill
import Derived.Test.YtlgcijafjcfnhaaDoorSan
import Derived.Test.YtlgcijafjcfnhaaDoorGood
namespace Go.Proofs.YtlgcijafjcfnhaaDoor
open Go.RowKit
set_option linter.unusedVariables false
set_option linter.unusedSimpArgs false

/-! ### Where the points of an outline lie -/
theorem flatten_at {o : List (List Pt)} {k i : Nat} {c : List Pt} (hc : o[k]? = some c) (hi : i < c.length) : o.flatten[(o.take k).flatten.length + i]? = c[i]? := by
  induction o generalizing k with
  | nil => cases hc
  | cons d o ih =>
    cases k with
    | zero =>
      simp at hc
      subst hc
      simp only [List.take_zero, List.flatten_nil, List.length_nil, Nat.zero_add, List.flatten_cons]
      rw [List.getElem?_append_left hi]
    | succ k =>
      simp only [List.take_succ_cons, List.flatten_cons, List.length_append]
      rw [List.getElem?_append_right (by omega), show d.length + (o.take k).flatten.length + i - d.length = (o.take k).flatten.length + i from by omega]
      exact ih (by simpa using hc)
theorem refill_at {o : List (List Pt)} {k : Nat} {c : List Pt} (hc : o[k]? = some c) : ∀ l : List Pt, l.length = o.flatten.length →
    ∃ d, (refill o l)[k]? = some d ∧ d.length = c.length ∧ ∀ i, i < c.length → d[i]? = l[(o.take k).flatten.length + i]? := by
  induction o generalizing k with
  | nil => cases hc
  | cons e o ih =>
    intro l hl
    simp only [List.flatten_cons, List.length_append] at hl
    cases k with
    | zero =>
      simp at hc
      subst hc
      refine ⟨_, rfl, by simp; omega, fun i hi => ?_⟩
      simp only [List.take_zero, List.flatten_nil, List.length_nil, Nat.zero_add]
      rw [List.getElem?_take, if_pos hi]
    | succ k =>
      obtain ⟨d, h1, h2, h3⟩ := ih (k := k) (by simpa using hc) (l.drop e.length) (by rw [List.length_drop]; omega)
      refine ⟨d, h1, h2, fun i hi => ?_⟩
      rw [h3 i hi, List.getElem?_drop]
      simp only [List.take_succ_cons, List.flatten_cons, List.length_append]
      rw [Nat.add_assoc]
theorem refill_self (o : List (List Pt)) : refill o o.flatten = o := by
  induction o with
  | nil => rfl
  | cons c o ih => simp [refill, ih]
theorem at_lt {o : List (List Pt)} {k i : Nat} {c : List Pt} (hc : o[k]? = some c) (hi : i < c.length) : (o.take k).flatten.length + i < o.flatten.length := by
  have h := flatten_at hc hi
  rw [List.getElem?_eq_getElem hi] at h
  exact (List.getElem?_eq_some_iff.1 h).1

/-! ### The program -/
def pRnd (t : Int) : List Op3 := [(10, t, 0), (8, 0, 0), (12, t, 0)]
theorem rnd64_fact (x : Int) : -32 ≤ rnd64 x - x ∧ rnd64 x - x ≤ 32 ∧ (rnd64 x).tmod 64 = 0 ∧ rnd64 (rnd64 x) = rnd64 x := by
  unfold rnd64 near
  refine ⟨by omega, by omega, Int.mul_tmod_right .., by omega⟩

theorem run_rnd {o : List (List Pt)} {t : Int} {q : Pt} (h0 : 0 ≤ t) (hq : o.flatten[t.toNat]? = some q) (hb : -2000000 ≤ q.1 ∧ q.1 ≤ 2000000) :
    runM (pRnd t) 12 o = .ok (refill o (o.flatten.set t.toNat (rnd64 q.1, q.2.1, q.2.2)), 3) := by
  have hlt := (List.getElem?_eq_some_iff.1 hq).1
  have hlt' : t < (o.flatten.length : Int) := by omega
  have hok : LineOk o.flatten.length 0 (pRnd t) 0 := by
    generalize o.flatten.length = n at hlt' ⊢
    simp [pRnd, LineOk, pops, pushes]
    omega
  have hg : Good 12 o.flatten.length (pRnd t) 0 (pRnd t).length _ _ := Good.line (size := 12) (np := o.flatten.length) (u := pRnd t) hok (by simp [pRnd])
  rw [hg.run (by omega) (by simp [pRnd])]
  have hr := rnd64_fact q.1
  have l1 : lim q.1 = q.1 := by unfold lim; omega
  have l2 : lim (rnd64 q.1) = rnd64 q.1 := by unfold lim; omega
  have hd : o.flatten.getD t.toNat default = q := by rw [List.getD_eq_getElem?_getD, hq]; rfl
  have hline : line 12 (pRnd t) (o.flatten, []) = (o.flatten.set t.toNat (rnd64 q.1, q.2.1, q.2.2), []) := by
    simp only [pRnd, line, doOp, reduceIte, Int.reduceEq, hd, l1]
    simp only [rest, top, List.nil_append, List.dropLast_singleton, List.getLastD_cons, List.getLastD_nil, l2, updX]
  rw [hline]
  rfl

/-- What the rounded outline is. -/
theorem rnd_at {o : List (List Pt)} {t : Int} {q : Pt} (h0 : 0 ≤ t) (hq : o.flatten[t.toNat]? = some q) {k i : Nat} {c d : List Pt} {p r : Pt} (hc : o[k]? = some c) (hd : (refill o (o.flatten.set t.toNat (rnd64 q.1, q.2.1, q.2.2)))[k]? = some d)
    (hp : c[i]? = some p) (hr : d[i]? = some r) : (r = p ∧ (((o.take k).flatten.length + i : Nat) : Int) ≠ t) ∨ (p = q ∧ r = (rnd64 q.1, q.2.1, q.2.2) ∧ (((o.take k).flatten.length + i : Nat) : Int) = t) := by
  obtain ⟨d', h1, h2, h3⟩ := refill_at hc (o.flatten.set t.toNat (rnd64 q.1, q.2.1, q.2.2)) (by simp)
  rw [hd] at h1
  cases h1
  have hi := (List.getElem?_eq_some_iff.1 hp).1
  rw [h3 i hi] at hr
  have hf := flatten_at hc hi
  have hlt := (List.getElem?_eq_some_iff.1 hq).1
  by_cases e : t.toNat = (o.take k).flatten.length + i
  · right
    rw [← e, List.getElem?_set_self hlt] at hr
    rw [← e, hq, hp] at hf
    cases hf
    cases hr
    exact ⟨rfl, rfl, by omega⟩
  · left
    rw [List.getElem?_set_ne e, hf, hp] at hr
    cases hr
    exact ⟨rfl, by omega⟩

theorem rnd_twice {o : List (List Pt)} {t : Int} {q : Pt} (h0 : 0 ≤ t) (hq : o.flatten[t.toNat]? = some q) (hb : -1000000 ≤ q.1 ∧ q.1 ≤ 1000000) :
    runM (pRnd t) 12 (refill o (o.flatten.set t.toNat (rnd64 q.1, q.2.1, q.2.2))) = .ok (refill o (o.flatten.set t.toNat (rnd64 q.1, q.2.1, q.2.2)), 3) := by
  have hr := rnd64_fact q.1
  have hlt := (List.getElem?_eq_some_iff.1 hq).1
  have hf : (refill o (o.flatten.set t.toNat (rnd64 q.1, q.2.1, q.2.2))).flatten = o.flatten.set t.toNat (rnd64 q.1, q.2.1, q.2.2) := refill_flatten _ _ (by simp)
  have hq2 : (refill o (o.flatten.set t.toNat (rnd64 q.1, q.2.1, q.2.2))).flatten[t.toNat]? = some (rnd64 q.1, q.2.1, q.2.2) := by rw [hf]; exact List.getElem?_set_self hlt
  rw [run_rnd h0 hq2 (show -2000000 ≤ rnd64 q.1 ∧ rnd64 q.1 ≤ 2000000 from by omega)]
  simp only [hr.2.2.2]
  rw [set_self hq2, refill_self]

theorem rnd_all {o : List (List Pt)} {t : Int} {q : Pt} (h0 : 0 ≤ t) (hq : o.flatten[t.toNat]? = some q) :
    Still o (refill o (o.flatten.set t.toNat (rnd64 q.1, q.2.1, q.2.2))) [t] ∧
    ∀ (k i : Nat) (c d : List Pt) (p r : Pt), o[k]? = some c → (refill o (o.flatten.set t.toNat (rnd64 q.1, q.2.1, q.2.2)))[k]? = some d → c[i]? = some p → d[i]? = some r →
      r.2.1 = p.2.1 ∧ (-32 ≤ r.1 - p.1 ∧ r.1 - p.1 ≤ 32) ∧ (r.1 = p.1 ∨ r.1.tmod 64 = 0) := by
  have hr := rnd64_fact q.1
  refine ⟨⟨(refill_length _ _).symm, fun k c d hc hd => ?_⟩, fun k i c d p r hc hd hp hr' => ?_⟩
  · obtain ⟨d', h1, h2, h3⟩ := refill_at hc (o.flatten.set t.toNat (rnd64 q.1, q.2.1, q.2.2)) (by simp)
    have hd' := hd
    rw [hd] at h1
    cases h1
    refine ⟨h2.symm, fun i p r hp hr' => ?_⟩
    rcases rnd_at h0 hq hc hd hp hr' with ⟨rfl, h⟩ | ⟨rfl, rfl, h⟩
    · exact ⟨rfl, .inl rfl⟩
    · exact ⟨rfl, .inr (by rw [h]; simp)⟩
  · rcases rnd_at h0 hq hc hd hp hr' with ⟨rfl, h⟩ | ⟨rfl, rfl, h⟩
    · exact ⟨rfl, by omega, .inl rfl⟩
    · exact ⟨rfl, by simp only; omega, .inr hr.2.2.1⟩

/-- The bounds of a scaled made outline. -/
theorem sc_made (L : List (List Int)) (n : Int) (hn : -30 ≤ n ∧ n ≤ 30) : (scO n (madeO L)).length ≤ 2 ∧ ∀ c ∈ scO n (madeO L), (c.length ≤ 6) ∧ ∀ q ∈ c, (-1440 ≤ q.1 ∧ q.1 ≤ 1440) ∧ -1440 ≤ q.2.1 ∧ q.2.1 ≤ 1440 := by
  refine ⟨by simp [scO, madeO]; omega, fun c hc => ?_⟩
  obtain ⟨c0, h0, rfl⟩ := List.mem_map.1 hc
  obtain ⟨l, -, rfl⟩ := List.mem_map.1 (List.mem_of_mem_take h0)
  have hl := madeC_len l
  refine ⟨by rw [List.length_map]; exact hl.2.1, fun q hq => ?_⟩
  obtain ⟨q0, h1, rfl⟩ := List.mem_map.1 hq
  have h2 := hl.2.2 q0 h1
  have a := mul_bd (A := 30) (B := 48) hn (show -48 ≤ q0.1 ∧ q0.1 ≤ 48 from by omega) (by omega) (by omega)
  have b := mul_bd (A := 30) (B := 48) hn (show -48 ≤ q0.2.1 ∧ q0.2.1 ≤ 48 from by omega) (by omega) (by omega)
  exact ⟨a, b⟩
theorem made_wf (L : List (List Int)) : ∀ c ∈ madeO L, ∀ q ∈ c, wfS q := by
  intro c hc q hq
  obtain ⟨l, -, rfl⟩ := List.mem_map.1 (List.mem_of_mem_take hc)
  have h := (madeC_len l).2.2 q hq
  unfold wfS
  omega
theorem made_isOut {w : World} {B : Nat} {v : Value} {bs : List (Nat × Nat)} {L : List (List Int)} (h : CopyOk w B v bs (madeO L)) : IsOut w w.heap.size v (madeO L) :=
  h.isOut (by simp [madeO]; omega) fun c hc => by
    refine ⟨?_, fun q hq => ?_⟩
    · obtain ⟨l, -, rfl⟩ := List.mem_map.1 (List.mem_of_mem_take hc)
      have := (madeC_len l).2.1
      omega
    · have := made_wf L c hc q hq
      unfold wfS at this
      unfold wfP wfI
      omega
theorem sc_isOut {w : World} {B : Nat} {v : Value} {bs : List (Nat × Nat)} {L : List (List Int)} {n : Int} (hn : -30 ≤ n ∧ n ≤ 30) (h : CopyOk w B v bs (scO n (madeO L))) : IsOut w w.heap.size v (scO n (madeO L)) := by
  obtain ⟨h1, h2⟩ := sc_made L n hn
  refine h.isOut (by omega) fun c hc => ?_
  obtain ⟨h3, h4⟩ := h2 c hc
  refine ⟨by omega, fun q hq => ?_⟩
  have := h4 q hq
  unfold wfP wfI
  omega
theorem isInts_one {w : World} {b lo : Nat} {T : TypeId} {fz : Nat × Nat} {x : Int} (hb : w.heap[b]? = some (.cells #[.int .i64 x] T fz)) (hlo : b < lo) (hx : wfI x) : IsInts w lo (.slice (some ⟨b, 0, none⟩) 1 1) [x] := by
  refine ⟨_, _, rfl, by simp, fun i y hi => ?_⟩
  have h0 : i = 0 := by
    have := (List.getElem?_eq_some_iff.1 hi).1
    simp at this
    exact this
  subst h0
  simp at hi
  subst hi
  refine ⟨hx, b, 0, hlo, rfl, ?_⟩
  rw [cell_of hb]
  rfl

end Go.Proofs.YtlgcijafjcfnhaaDoor
