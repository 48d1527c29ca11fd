/-
  machine.Run.
-/
import Derived.Test.YtlgcijafjcfnhaaDoorRun
import Derived.Test.YtlgcijafjcfnhaaDoorShift
import Derived.Deep.RegionHeld3
import Derived.Deep.AppendLies
import Derived.Deep.RegionLaw
import Derived.Defers
import Derived.Recover
import Derived.StillTailTactics
namespace Go.Proofs.YtlgcijafjcfnhaaDoor
open Go.RowKit
attribute [local go_sem ↓] Go.wp_at_zero Go.wp_at_succ
set_option linter.unusedVariables false

set_option maxRecDepth 100000 in
theorem catch_panicking (r0 r1 r2 : Nat) (y0 y1 y2 : Value) (x : Int) (older : List PanicEntry) (w : World) (h01 : r0 ≠ r1) (h02 : r0 ≠ r2) (h12 : r1 ≠ r2)
    (c0 : w.cell? ⟨r0, 0, none⟩ = some y0) (c1 : w.cell? ⟨r1, 0, none⟩ = some y1) (c2 : w.cell? ⟨r2, 0, none⟩ = some y2)
    (f0 : w.frozen? ⟨r0, 0, none⟩ = false) (f1 : w.frozen? ⟨r1, 0, none⟩ = false) (f2 : w.frozen? ⟨r2, 0, none⟩ = false)
    (R : Ending → FrameMode → World → Prop)
    (hR : ∀ d, R (.returned (.tuple #[])) (.panicking ({ v := .iface 36 (.int .i64 x), recovered := true } :: older)) ((((w.setCell ⟨r0, 0, none⟩ (.slice none 0 0)).setCell ⟨r1, 0, none⟩ (.int .i64 0)).setCell ⟨r2, 0, none⟩ (.int .i64 x)).drewN d)) :
    CallsD Tryd.prog 23 #[.pointer (some ⟨r0, 0, none⟩), .pointer (some ⟨r1, 0, none⟩), .pointer (some ⟨r2, 0, none⟩)] (.panicking ({ v := .iface 36 (.int .i64 x), recovered := false } :: older)) w R := by
  have HR := Lib.hid hR
  clear hR
  refine callsD_of_wpS Tryd.func23 rfl fun c₀ cs hu => ?_
  apply wpS_seq
  apply wpS_region
  simp [wpOpsS, go_sem, recoverD, hu, Tryd.ntmps23, Exit.thenS]
  simp only [Array.replicate_succ, Array.replicate_zero, List.push_toArray, List.append_toArray, List.nil_append, List.cons_append, List.setIfInBounds_toArray, List.set_cons_zero, List.set_cons_succ]
  apply wpS_seq
  apply wpS_region
  simp [wpOpsS, go_sem, Exit.thenS]
  refine wpS_cond (t := true) (by simp [Act.eval]) ?_
  simp only [if_true]
  refine wpS_of_wp ?_
  have hta : ∀ (x : Int) (w : World), (Instr.typeAssert (.iface 36 (.int .i64 x)) 20 36 false).run Tryd.prog w = .ok (.int .i64 x) w := fun _ _ => by kernel_rfl
  go_region
  exact ⟨rfl, _, rfl, _, by simp [results, Tryd.results23], HR.out 1⟩

theorem catch_idle (r0 r1 r2 : Nat) (w : World) (R : Ending → FrameMode → World → Prop) (hR : R (.returned (.tuple #[])) .returning w) :
    CallsD Tryd.prog 23 #[.pointer (some ⟨r0, 0, none⟩), .pointer (some ⟨r1, 0, none⟩), .pointer (some ⟨r2, 0, none⟩)] .returning w R := by
  have HR := Lib.hid hR
  clear hR
  refine callsD_of_wpS Tryd.func23 rfl fun c₀ cs hu => ?_
  apply wpS_seq
  apply wpS_region
  simp [wpOpsS, go_sem, recoverD, hu, Tryd.ntmps23, Exit.thenS]
  simp only [Array.replicate_succ, Array.replicate_zero, List.push_toArray, List.append_toArray, List.nil_append, List.cons_append, List.setIfInBounds_toArray, List.set_cons_zero, List.set_cons_succ]
  apply wpS_seq
  apply wpS_region
  simp [wpOpsS, go_sem, Exit.thenS]
  refine wpS_cond (t := false) (by simp [Act.eval]) ?_
  simp only [Bool.false_eq_true, if_false]
  refine wpS_of_wp (wp_skip ?_)
  refine ⟨rfl, .returning, by cases c₀; simp_all, _, by simp [results, Tryd.results23], HR.out⟩

/-- The addresses of the points. -/
def row (b n : Nat) : List (Nat × Nat) := (List.range n).map fun i => (b, i * 3)
def adrs : List Nat → List (List Pt) → List (Nat × Nat)
  | b :: bs, c :: o => row b c.length ++ adrs bs o
  | _, _ => []
def ptrV (a : Nat × Nat) : Value := .pointer (some ⟨a.1, a.2, none⟩)

theorem row_succ (b i : Nat) : row b (i + 1) = row b i ++ [(b, i * 3)] := by simp [row, List.range_succ]
theorem row_length (b n : Nat) : (row b n).length = n := by simp [row]
theorem adrs_snoc {bs : List Nat} {o : List (List Pt)} {b : Nat} {c : List Pt} (h : bs.length = o.length) : adrs (bs ++ [b]) (o ++ [c]) = adrs bs o ++ row b c.length := by
  induction bs generalizing o with
  | nil => cases o with
    | nil => simp [adrs]
    | cons y o => cases h
  | cons x bs ih =>
    cases o with
    | nil => cases h
    | cons y o => simp [adrs]; exact ih (by simpa using h)

theorem MS.grown {w w' : World} {M : Nat} {p v : Value} {size : Int} {stk : List Int} {steps : Int} {e n : Nat} {xs : List Value} {X : Obj} (h : MS w M p v size stk steps) (ho : w.ownsRow (M + 1) e 1 v n xs) (hg : (w.alloc X).drew.grownBy w' v.ownBlock) : MS w' M p v size stk steps := by
  have hc : Ch (fun k => M + 1 ≤ k) w w' := ((Ch.refl (fun k => M + 1 ≤ k) w).alloc X).drew.grown hg (fun k hk _ => (ho.lt k hk).1)
  exact h.kept hc (by omega)

theorem adrs_length {bs : List Nat} {o : List (List Pt)} (h : bs.length = o.length) : (adrs bs o).length = o.flatten.length := by
  induction bs generalizing o with
  | nil => cases o with
    | nil => rfl
    | cons y o => cases h
  | cons x bs ih =>
    cases o with
    | nil => cases h
    | cons y o => simp [adrs, row_length]; have := ih (o := o) (by simpa using h); simpa using this
theorem adrs_mem {bs : List Nat} {o : List (List Pt)} (h : bs.length = o.length) {j : Nat} {a : Nat × Nat} {q : Pt} (ha : (adrs bs o)[j]? = some a) (hq : o.flatten[j]? = some q) :
    ∃ (k b : Nat) (c : List Pt) (i : Nat), bs[k]? = some b ∧ o[k]? = some c ∧ c[i]? = some q ∧ a = (b, i * 3) := by
  induction bs generalizing o j with
  | nil => cases o with
    | nil => cases ha
    | cons y o => cases h
  | cons x bs ih =>
    cases o with
    | nil => cases h
    | cons c o =>
      simp only [adrs, List.flatten_cons] at ha hq
      by_cases hj : j < c.length
      · rw [List.getElem?_append_left (by rw [row_length]; exact hj)] at ha
        rw [List.getElem?_append_left hj] at hq
        refine ⟨0, x, c, j, rfl, rfl, hq, ?_⟩
        simp [row, hj] at ha
        exact ha.symm
      · rw [List.getElem?_append_right (by rw [row_length]; omega), row_length] at ha
        rw [List.getElem?_append_right (by omega)] at hq
        obtain ⟨k, b, c', i, h1, h2, h3, h4⟩ := ih (o := o) (by simpa using h) ha hq
        exact ⟨k + 1, b, c', i, h1, h2, h3, h4⟩
theorem adrs_block {bs : List Nat} {o : List (List Pt)} {a : Nat × Nat} (ha : a ∈ adrs bs o) : a.1 ∈ bs := by
  induction bs generalizing o with
  | nil => cases o <;> cases ha
  | cons x bs ih =>
    cases o with
    | nil => cases ha
    | cons c o =>
      simp only [adrs, List.mem_append] at ha
      rcases ha with ha | ha
      · simp [row] at ha; obtain ⟨i, _, rfl⟩ := ha; simp
      · exact List.mem_cons_of_mem _ (ih ha)
theorem adrs_apart {bs : List Nat} {o : List (List Pt)} (hn : bs.Nodup) {i j : Nat} {a a' : Nat × Nat} (hij : i ≠ j) (hi : (adrs bs o)[i]? = some a) (hj : (adrs bs o)[j]? = some a') :
    a.1 ≠ a'.1 ∨ a.2 + 3 ≤ a'.2 ∨ a'.2 + 3 ≤ a.2 := by
  induction bs generalizing o i j with
  | nil => cases o <;> cases hi
  | cons x bs ih =>
    cases o with
    | nil => cases hi
    | cons c o =>
      obtain ⟨hx, hn'⟩ := List.nodup_cons.1 hn
      simp only [adrs] at hi hj
      by_cases h1 : i < c.length
      · rw [List.getElem?_append_left (by rw [row_length]; exact h1)] at hi
        simp [row, h1] at hi
        subst hi
        by_cases h2 : j < c.length
        · rw [List.getElem?_append_left (by rw [row_length]; exact h2)] at hj
          simp [row, h2] at hj
          subst hj
          right; simp only; omega
        · rw [List.getElem?_append_right (by rw [row_length]; omega)] at hj
          left; intro e
          exact hx (by have := adrs_block (List.mem_of_getElem? hj); simp only at e; rw [e]; exact this)
      · rw [List.getElem?_append_right (by rw [row_length]; omega), row_length] at hi
        by_cases h2 : j < c.length
        · rw [List.getElem?_append_left (by rw [row_length]; exact h2)] at hj
          simp [row, h2] at hj
          subst hj
          left; intro e
          exact hx (by have := adrs_block (List.mem_of_getElem? hi); simp only at e; rw [← e]; exact this)
        · rw [List.getElem?_append_right (by rw [row_length]; omega), row_length] at hj
          exact ih hn' (i := i - c.length) (j := j - c.length) (by omega) hi hj

theorem FlS.make {w : World} {M B n : Nat} {p v : Value} {size : Int} {bs : List Nat} {o : List (List Pt)} (hm : MS w M p v size [] 0) (ho : w.ownsRow (M + 1) 70 1 v n ((adrs bs o).map ptrV)) (hh : Hold w B bs o) (hb : ∀ b ∈ bs, b < M) :
    ∃ g : Cfg, g.b = M ∧ g.p = p ∧ g.size = size ∧ v = .slice g.pa n g.cap ∧ g.adr = adrs bs o ∧ FlS w g o.flatten [] 0 ∧ M ≤ g.bp ∧ g.bp < w.heap.size ∧ n = o.flatten.length := by
  obtain ⟨h1, h2⟩ := ho
  have hlen := adrs_length hh.1
  have hn : n = o.flatten.length := by rw [← hlen]; simpa using h1.symm
  have cells : ∀ (i : Nat) (a : Nat × Nat) (q : Pt), (adrs bs o)[i]? = some a → o.flatten[i]? = some q → a.1 < M ∧ (∀ j, w.frozen? ⟨a.1, j, none⟩ = false) ∧ w.cell? ⟨a.1, a.2 + 0, none⟩ = some (.int .i64 q.1) ∧ w.cell? ⟨a.1, a.2 + 1, none⟩ = some (.int .i64 q.2.1) ∧ w.cell? ⟨a.1, a.2 + 2, none⟩ = some (.bool q.2.2) := by
    intro i a q ha hq
    obtain ⟨k, b, c, j, hk, hc, hj, rfl⟩ := adrs_mem hh.1 ha hq
    have hp := (hh.2.2 k b c hk hc).2
    have := flat_get hj
    refine ⟨hb b (List.mem_of_getElem? hk), fun _ => frozen_of hp, ?_, ?_, ?_⟩
    · rw [cell_of hp]; simpa using this.1
    · rw [cell_of hp]; simpa using this.2.1
    · rw [cell_of hp]; simpa using this.2.2
  have mem : ∀ a ∈ adrs bs o, a.1 < M ∧ ∀ j, w.frozen? ⟨a.1, j, none⟩ = false := by
    intro a ha
    obtain ⟨i, hi, rfl⟩ := List.getElem_of_mem ha
    have hq : i < o.flatten.length := by rw [← hlen]; exact hi
    have := cells i _ _ (List.getElem?_eq_getElem hi) (List.getElem?_eq_getElem hq)
    exact ⟨this.1, this.2.1⟩
  rcases h2 with ⟨rfl, hn0⟩ | ⟨g, cap, cur, rfl, hg, hgg, hc1, hc2, hcs, htake⟩
  · have e0 : o.flatten = [] := List.eq_nil_of_length_eq_zero (by omega)
    have a0 : adrs bs o = [] := List.eq_nil_of_length_eq_zero (by rw [hlen, e0]; rfl)
    refine ⟨⟨M, p, M, none, 0, size, adrs bs o⟩, rfl, rfl, rfl, by rw [hn0], rfl, ?_, Nat.le_refl _, hm.lt, hn⟩
    rw [a0, e0]
    exact { ms := hm, pa := fun h => absurd rfl h, lm := by simp, len := rfl, ptr := (fun i a h => by cases h), cx := (fun i a q h => by cases h), cy := (fun i a q h => by cases h), con := (fun i a q h => by cases h), fr := by simp, ne := by simp, apart := (fun i j a a' _ h => by cases h) }
  · refine ⟨⟨M, p, g, some ⟨g, 0, none⟩, cap, size, adrs bs o⟩, rfl, rfl, rfl, rfl, rfl, ?_, by simp only; omega, lt_of_heap hgg, hn⟩
    refine { ms := by rw [← hn]; exact hm, pa := fun _ => rfl, lm := by simp, len := hlen, ptr := ?_, cx := fun i a q ha hq => (cells i a q ha hq).2.2.1, cy := fun i a q ha hq => (cells i a q ha hq).2.2.2.1, con := fun i a q ha hq => (cells i a q ha hq).2.2.2.2, fr := fun a ha => (mem a ha).2, ne := ?_, apart := fun i j a a' h1 h2 h3 => adrs_apart hh.2.1 h1 h2 h3 }
    · intro i a ha
      simp only
      rw [cell_of hgg]
      have hi := (List.getElem?_eq_some_iff.1 ha).1
      have e : cur.toList[i]? = (cur.toList.take (n * 1))[i]? := by
        rw [List.getElem?_take, if_pos (by simp only at hi; omega)]
      rw [← Array.getElem?_toList, e, htake]
      simp only at ha
      simp [ha, ptrV]
    · intro a ha
      have := (mem a ha).1
      simp only
      omega

/-- The contours of the shape of o, with the points l. -/
def refill : List (List Pt) → List Pt → List (List Pt)
  | [], _ => []
  | c :: o, l => l.take c.length :: refill o (l.drop c.length)

theorem refill_length (o : List (List Pt)) (l : List Pt) : (refill o l).length = o.length := by
  induction o generalizing l with
  | nil => rfl
  | cons c o ih => simp [refill, ih]
theorem refill_get {bs : List Nat} {o : List (List Pt)} {l : List Pt} (hb : bs.length = o.length) (hl : l.length = o.flatten.length) {k : Nat} {c' : List Pt} (hk : (refill o l)[k]? = some c') :
    ∃ (b : Nat) (c : List Pt), bs[k]? = some b ∧ o[k]? = some c ∧ c'.length = c.length ∧ (∀ q ∈ c', q ∈ l) ∧ ∀ (i : Nat) (q : Pt), c'[i]? = some q → ∃ j : Nat, l[j]? = some q ∧ (adrs bs o)[j]? = some (b, i * 3) := by
  induction bs generalizing o l k with
  | nil => cases o with
    | nil => cases hk
    | cons y o => cases hb
  | cons x bs ih =>
    cases o with
    | nil => cases hb
    | cons c o =>
      simp only [List.flatten_cons, List.length_append] at hl
      cases k with
      | zero =>
        simp only [refill, List.getElem?_cons_zero, Option.some.injEq] at hk
        subst hk
        refine ⟨x, c, rfl, rfl, by simp; omega, fun q hq => List.mem_of_mem_take hq, fun i q hi => ?_⟩
        rw [List.getElem?_take] at hi
        split at hi
        · rename_i hic
          refine ⟨i, hi, ?_⟩
          simp only [adrs]
          rw [List.getElem?_append_left (by rw [row_length]; exact hic)]
          simp [row, hic]
        · cases hi
      | succ k =>
        simp only [refill, List.getElem?_cons_succ] at hk
        obtain ⟨b, c1, h1, h2, h3, h5, h4⟩ := ih (o := o) (l := l.drop c.length) (by simpa using hb) (by rw [List.length_drop]; omega) hk
        refine ⟨b, c1, h1, h2, h3, fun q hq => List.mem_of_mem_drop (h5 q hq), fun i q hi => ?_⟩
        obtain ⟨j, hj, ha⟩ := h4 i q hi
        refine ⟨c.length + j, by rw [List.getElem?_drop] at hj; exact hj, ?_⟩
        simp only [adrs]
        rw [List.getElem?_append_right (by rw [row_length]; omega), row_length, Nat.add_sub_cancel_left]
        exact ha

def limS (s : List Int) : Prop := ∀ x ∈ s, -1073741824 ≤ x ∧ x ≤ 1073741824
def WfR (n : Nat) (r : List Pt × List Int) : Prop := (∀ q ∈ r.1, wfP q) ∧ limS r.2 ∧ r.1.length = n
theorem wf_ite {n : Nat} {c : Prop} [Decidable c] {a b : List Pt × List Int} (ha : WfR n a) (hb : WfR n b) : WfR n (if c then a else b) := by split <;> assumption
theorem doOp_wf {size c n : Int} {o : List Pt} {s : List Int} (ho : ∀ q ∈ o, wfP q) (hs : limS s) :
    (∀ q ∈ (doOp size c n o s).1, wfP q) ∧ limS (doOp size c n o s).2 ∧ (doOp size c n o s).1.length = o.length := by
  have hr : limS (rest s) := fun x hx => hs x (List.dropLast_subset _ hx)
  have hrr : limS (rest (rest s)) := fun x hx => hr x (List.dropLast_subset _ hx)
  have ht : -1073741824 ≤ top s ∧ top s ≤ 1073741824 := by
    unfold top
    rw [List.getLastD_eq_getLast?]
    cases h : s.getLast? with
    | none => simp
    | some x => exact hs x (List.mem_of_getLast? h)
  have sn : ∀ (s' : List Int) (x : Int), limS s' → limS (s' ++ [lim x]) := fun s' x h => snoc_lim h (lim_in x)
  have hq : ∀ q : Pt, q ∈ o ∨ q = default → wfP q := by
    rintro q (h | rfl)
    · exact ho q h
    · exact ⟨⟨by decide, by decide⟩, by decide, by decide⟩
  have hg : ∀ m, o.getD m default ∈ o ∨ o.getD m default = default := by
    intro m
    rw [List.getD_eq_getElem?_getD]
    cases h : o[m]? with
    | none => right; rfl
    | some q => left; exact List.mem_of_getElem? h
  have hst : ∀ m (q : Pt), wfP q → ∀ q' ∈ o.set m q, wfP q' := fun m q h q' h' => by
    rcases List.mem_or_eq_of_mem_set h' with h' | rfl
    · exact ho q' h'
    · exact h
  show WfR o.length (doOp size c n o s)
  have up : ∀ m, wfP (updX (top s) (o.getD m default)) ∧ wfP (updY (top s) (o.getD m default)) := fun m => by
    have h := hq _ (hg m)
    refine ⟨⟨?_, h.2⟩, h.1, ?_⟩
    · show -9223372036854775808 ≤ top s ∧ top s ≤ 9223372036854775807
      omega
    · show -9223372036854775808 ≤ top s ∧ top s ≤ 9223372036854775807
      omega
  unfold doOp
  refine wf_ite ⟨ho, sn _ _ hs, rfl⟩ ?_
  iterate 4 refine wf_ite ⟨ho, sn _ _ hrr, rfl⟩ ?_
  iterate 3 refine wf_ite ⟨ho, sn _ _ hr, rfl⟩ ?_
  iterate 3 refine wf_ite ⟨ho, sn _ _ hs, rfl⟩ ?_
  refine wf_ite ⟨hst _ _ (up _).1, hr, by simp⟩ ?_
  exact wf_ite ⟨hst _ _ (up _).2, hr, by simp⟩ ⟨ho, hs, rfl⟩
theorem exec_wf (l : List Op3) (size : Int) (fuel : Nat) : ∀ i e nest st st', exec l size fuel i e nest st = .ok st' → (∀ q ∈ st.1, wfP q) → limS st.2.1 → (∀ q ∈ st'.1, wfP q) ∧ limS st'.2.1 ∧ st'.1.length = st.1.length := by
  induction fuel with
  | zero => intro i e nest st st' h; cases h
  | succ fuel ih =>
    intro i e nest st st' h h1 h2
    unfold exec at h
    split at h
    · generalize l.getD i default = op at h
      obtain ⟨c, n, m⟩ := op
      simp only at h
      split at h
      · cases h
      · have ho : (∀ q ∈ (own size c n st).1, wfP q) ∧ limS (own size c n st).2.1 ∧ (own size c n st).1.length = st.1.length := by
          unfold own
          split
          · exact ⟨h1, fun x hx => h2 x (List.dropLast_subset _ hx), rfl⟩
          · split
            · exact ⟨h1, h2, rfl⟩
            · exact doOp_wf h1 h2
        have hit : ∀ r s2, iter (exec l size fuel (i + 1) (i + 1 + (blen c n m).toNat) (nest + 1)) r (own size c n st) = .ok s2 → (∀ q ∈ s2.1, wfP q) ∧ limS s2.2.1 ∧ s2.1.length = st.1.length := by
          intro r
          induction r with
          | zero => intro s2 h2; unfold iter at h2; injection h2 with h2; subst h2; exact ho
          | succ r ihr =>
            intro s2 h2
            unfold iter at h2
            split at h2
            · cases h2
            · rename_i s3 h3
              have a := ihr s3 h3
              have b := ih _ _ _ _ _ h2 a.1 a.2.1
              exact ⟨b.1, b.2.1, b.2.2.trans a.2.2⟩
        split at h
        · cases h
        · rename_i s2 h2
          have a := hit _ _ h2
          have b := ih _ _ _ _ _ h a.1 a.2.1
          exact ⟨b.1, b.2.1, b.2.2.trans a.2.2⟩
    · injection h with h; subst h; exact ⟨h1, h2, rfl⟩

theorem FlS.other {w w' : World} {c : Cfg} {o : List Pt} {stk : List Int} {steps : Int} {F : Nat → Prop} (h : FlS w c o stk steps) (hc : Ch F w w') (hF : ∀ k, c.own k ∨ k = c.bp → ¬ F k) : FlS w' c o stk steps where
  ms := h.ms.kept hc (hF _ (.inl (.inl rfl)))
  pa := h.pa
  lm := h.lm
  len := h.len
  ptr i a ha := hc.cell (h.ptr i a ha) (hF _ (.inr rfl))
  cx i a q ha hq := hc.cell (h.cx i a q ha hq) (hF _ (.inl (.inr ⟨a, List.mem_of_getElem? ha, rfl⟩)))
  cy i a q ha hq := hc.cell (h.cy i a q ha hq) (hF _ (.inl (.inr ⟨a, List.mem_of_getElem? ha, rfl⟩)))
  con i a q ha hq := hc.cell (h.con i a q ha hq) (hF _ (.inl (.inr ⟨a, List.mem_of_getElem? ha, rfl⟩)))
  fr a ha j := (hc.frozen (a := ⟨a.1, j, none⟩) (h.own_lt (.inr ⟨a, ha, rfl⟩) : a.1 < w.heap.size) (hF _ (.inl (.inr ⟨a, ha, rfl⟩)))).trans (h.fr a ha j)
  ne := h.ne
  apart := h.apart

/-- The outline in memory behind a run. -/
theorem FlS.isOut {w : World} {g : Cfg} {bs : List Nat} {B : Nat} {o : List (List Pt)} {l : List Pt} {stk : List Int} {steps : Int} (h : FlS w g l stk steps) (ha : g.adr = adrs bs o) (hb : bs.length = o.length)
    (hB : w.heap[B]? = some (.cells (sls bs o).toArray 69 (0, 0))) (hl : l.length = o.flatten.length) (h64 : o.length ≤ 64) (hc : ∀ c ∈ o, c.length ≤ 64) (hw : ∀ q ∈ l, wfP q) :
    IsOut w w.heap.size (.slice (some ⟨B, 0, none⟩) o.length o.length) (refill o l) := by
  refine ⟨_, _, by rw [refill_length], by rw [refill_length]; exact h64, fun k c' hk => ?_⟩
  obtain ⟨b, c, h1, h2, h3, h5, h4⟩ := refill_get hb hl hk
  refine ⟨by rw [h3]; exact hc c (List.mem_of_getElem? h2), fun q hq => hw q (h5 q hq), B, 0, .slice (some ⟨b, 0, none⟩) c.length c.length, lt_of_heap hB, rfl, ?_, ?_⟩
  · rw [cell_of hB]
    have := sls_get h1 h2
    simpa using this
  · refine ⟨_, _, by rw [h3], (fun h => by cases h), fun i q hi => ?_⟩
    obtain ⟨j, hj, hadr⟩ := h4 i q hi
    rw [← ha] at hadr
    have e0 := h.cx j _ q hadr hj
    have e1 := h.cy j _ q hadr hj
    have e2 := h.con j _ q hadr hj
    refine ⟨b, 0, World.block_lt_of_cell? w ⟨_, _, none⟩ e0, rfl, ?_, ?_, ?_⟩
    · simpa using e0
    · simpa using e1
    · simpa using e2

/-- What Run returns: an error, or the outline and the steps. -/
def runM (l : List Op3) (size : Int) (o : List (List Pt)) : Except Int (List (List Pt) × Int) :=
  match exec l size 2001 0 l.length 0 (o.flatten, [], 0) with
  | .error x => .error x
  | .ok st => .ok (refill o st.1, st.2.2)

set_option maxRecDepth 100000 in
set_option maxHeartbeats 2000000 in
theorem Run_any (lo : Nat) (p v : Value) (l : List Op3) (o : List (List Pt)) (size : Int) (w : World) (R : Ending → World → Prop) (hp : IsOps w lo p l) (ho : IsOut w lo v o) (hlo : lo ≤ w.heap.size)
    (hE : ∀ w' x, runM l size o = .error x → Nw w w' → R (.returned (.tuple #[.slice none 0 0, .int .i64 0, .int .i64 x])) w')
    (hK : ∀ w' v' o' steps, runM l size o = .ok (o', steps) → IsOut w' w'.heap.size v' o' → Nw w w' → R (.returned (.tuple #[v', .int .i64 steps, .int .i64 0])) w') :
    Calls Tryd.prog 9 #[p, v, .int .i64 size] w R := by
  have HE := Lib.hid hE
  have HK := Lib.hid hK
  have HO := Lib.hid ho
  have HP := Lib.hid hp
  obtain ⟨Ap, capp, rfl, hll, -⟩ := hp
  clear hE hK ho
  have hmf : ∀ (fn : Fn) (first cap : Array Value) (w : World), (Instr.makeFunc fn first cap).run Tryd.prog w = .ok (.func fn first cap) w := fun _ _ _ _ => rfl
  go_enter_defers Tryd.func9, Tryd.ntmps9
  go_wp2_with (go_at_call 24; refine shift_any lo _ o _ _ (by exact HO.out.kept ((((Ch.refl (fun _ => False) w).alloc _).alloc _).alloc _) (fun _ _ x => x)) (by simp; omega) ?_; intro w1 bs B lB e1 c1; (have E1 := Lib.hid e1); (have C1 := Lib.hid c1); (have q0 : w1.heap[w.heap.size]? = some (.cells #[.slice none 0 0] 29 (0, 0)) := c1.heap (heap_alloc_old' _ (heap_alloc_old' _ (heap_alloc_eq _ rfl))) id); (have q1 : w1.heap[w.heap.size + 1]? = some (.cells #[.int .i64 0] 3 (0, 0)) := c1.heap (heap_alloc_old' _ (heap_alloc_eq _ (by simp))) id); (have q2 : w1.heap[w.heap.size + 2]? = some (.cells #[.int .i64 0] 36 (0, 0)) := c1.heap (heap_alloc_eq _ (by simp)) id); (have r0 : w1.cell? ⟨w.heap.size, 0, none⟩ = some (.slice none 0 0) := cell_of q0); (have r0f : w1.frozen? ⟨w.heap.size, 0, none⟩ = false := frozen_of q0); (have Q0 := Lib.hid q0); (have Q1 := Lib.hid q1); (have Q2 := Lib.hid q2); (have l0 := lt_of_heap q0); clear e1 c1 q0 q1 q2)
  have lM : ∀ x, x ∈ bs → x < w1.heap.size := fun x hx => (E1.out.2.lt hx).2
  have LM := Lib.hid lM
  have lBM : B < w1.heap.size := lt_of_heap E1.out.1
  simp only [World.size_alloc] at lB
  have g1 : Ch (· = w.heap.size) w1 ((w1.setCell ⟨w.heap.size, 0, none⟩ (.slice (some ⟨B, 0, none⟩) o.length o.length)).alloc (.cells #[.slice Ap l.length capp, .slice none 0 0, .int .i64 size, .int .i64 0, .int .i64 0, .int .i64 0, .int .i64 0, .int .i64 0, .int .i64 0, .int .i64 0, .int .i64 0, .int .i64 0, .int .i64 0] 68)) :=
    ((Ch.refl (· = w.heap.size) w1).setb (fun _ => rfl) _).alloc _
  have gR : ((w1.setCell ⟨w.heap.size, 0, none⟩ (.slice (some ⟨B, 0, none⟩) o.length o.length)).alloc (.cells #[.slice Ap l.length capp, .slice none 0 0, .int .i64 size, .int .i64 0, .int .i64 0, .int .i64 0, .int .i64 0, .int .i64 0, .int .i64 0, .int .i64 0, .int .i64 0, .int .i64 0, .int .i64 0] 68)).heap[w.heap.size]? = some (.cells #[.slice (some ⟨B, 0, none⟩) o.length o.length] 29 (0, 0)) :=
    heap_alloc_old' _ (heap_setCell_eq _ Q0.out)
  have gM : MS ((w1.setCell ⟨w.heap.size, 0, none⟩ (.slice (some ⟨B, 0, none⟩) o.length o.length)).alloc (.cells #[.slice Ap l.length capp, .slice none 0 0, .int .i64 size, .int .i64 0, .int .i64 0, .int .i64 0, .int .i64 0, .int .i64 0, .int .i64 0, .int .i64 0, .int .i64 0, .int .i64 0, .int .i64 0] 68)) w1.heap.size (.slice Ap l.length capp) (.slice none 0 0) size [] 0 :=
    ⟨[0, 0, 0, 0, 0, 0, 0, 0], rfl, heap_alloc_eq _ (by simp)⟩
  have gS : ((w1.setCell ⟨w.heap.size, 0, none⟩ (.slice (some ⟨B, 0, none⟩) o.length o.length)).alloc (.cells #[.slice Ap l.length capp, .slice none 0 0, .int .i64 size, .int .i64 0, .int .i64 0, .int .i64 0, .int .i64 0, .int .i64 0, .int .i64 0, .int .i64 0, .int .i64 0, .int .i64 0, .int .i64 0] 68)).heap.size = w1.heap.size + 1 := by simp
  have G1 := Lib.hid g1
  have GR := Lib.hid gR
  have GM := Lib.hid gM
  have GS := Lib.hid gS
  clear g1 gR gM gS lM r0 r0f
  generalize ((w1.setCell ⟨w.heap.size, 0, none⟩ (.slice (some ⟨B, 0, none⟩) o.length o.length)).alloc (.cells #[.slice Ap l.length capp, .slice none 0 0, .int .i64 size, .int .i64 0, .int .i64 0, .int .i64 0, .int .i64 0, .int .i64 0, .int .i64 0, .int .i64 0, .int .i64 0, .int .i64 0, .int .i64 0] 68)) = w2 at G1 GR GM GS ⊢
  generalize hM : w1.heap.size = M at *
  have HM := Lib.hid hM
  clear hM
  have E2 := Lib.hid (E1.out.kept G1.out (fun b hb e => by have := (E1.out.2.lt hb).1; omega) (by omega))
  have hl64 : o.length ≤ 64 := by obtain ⟨A, cap, e, h, -⟩ := HO.out; exact h
  obtain ⟨tin, hi0, hz0, hz1, hz2⟩ := info_parts (show (Tryd.prog.info? 70).map (fun i => (i.zero, i.size, i.bytes)) = some (some (.pointer none), 1, 8) by kernel_rfl)
  have c64 : ∀ (k : Nat) (c : List Pt), o[k]? = some c → c.length ≤ 64 := by obtain ⟨A, cap, e, h, h2⟩ := HO.out; exact fun k c hk => (h2 k c hk).1
  have C64 := Lib.hid c64
  clear c64
  go_loopw [22] (fun s22 wr => ∃ (k n : Nat) (v : Value), s22 = .int .i64 k ∧ k ≤ o.length ∧ n ≤ 64 * k ∧ MS wr M (.slice Ap l.length capp) v size [] 0 ∧ wr.ownsRow (M + 1) 70 1 v n ((adrs (bs.take k) (o.take k)).map ptrV) ∧ Ch (· = M) w2 wr)
    (fun s22 _ => o.length - (intOf s22).toNat)
  case atStart => exact ⟨0, 0, _, rfl, Nat.zero_le _, Nat.le_refl _, GM.out, World.ownsRow_nil _ _ _ _, Ch.refl _ _⟩
  case round =>
    obtain ⟨k, n, v, rfl, hk, hn, hms, hown, hch⟩ := hrel
    have HMS := Lib.hid hms
    have HOWN := Lib.hid hown
    have HCH := Lib.hid hch
    clear hms hown hch
    by_cases hlt : k < o.length
    · have hck : o[k]? = some o[k] := List.getElem?_eq_getElem hlt
      generalize o[k] = c at hck
      have hc64 := C64.out k c hck
      have hkb : k < bs.length := by rw [E2.out.2.1]; exact hlt
      have hb : bs[k]? = some bs[k] := List.getElem?_eq_getElem hkb
      generalize bs[k] = b at hb
      have lb : b < M := LM.out b (List.mem_of_getElem? hb)
      have HCK := Lib.hid hck
      have HBk := Lib.hid hb
      have g0 : wr.cell? ⟨B, k, none⟩ = some (.slice (some ⟨b, 0, none⟩) c.length c.length) := by
        refine HCH.out.cell ?_ (by show B ≠ M; omega)
        rw [cell_of E2.out.1]
        have := sls_get hb hck
        simpa using this
      have b1 : (0 : Int) ≤ (k : Int) := by omega
      have b2 : (k : Int) < (o.length : Int) := by omega
      clear hck hb
      obtain ⟨wo, rfl⟩ : ∃ wo : World, wo = wr := ⟨_, rfl⟩
      go_wp2
      go_loopw [28] (fun s28 wr => ∃ (i n' : Nat) (v' : Value), s28 = .int .i64 i ∧ i ≤ c.length ∧ n' ≤ 64 * k + i ∧ MS wr M (.slice Ap l.length capp) v' size [] 0 ∧ wr.ownsRow (M + 1) 70 1 v' n' ((adrs (bs.take k) (o.take k) ++ row b i).map ptrV) ∧ Ch (· = M) w2 wr)
        (fun s28 _ => c.length - (intOf s28).toNat)
      case atStart => exact ⟨0, n, v, rfl, Nat.zero_le _, by omega, HMS.out, by simpa [row] using HOWN.out, HCH.out⟩
      case round =>
        obtain ⟨i, n', v', rfl, hi, hn', hms, hown, hch⟩ := hrel
        have HMS := Lib.hid hms
        have HOWN := Lib.hid hown
        have HCH := Lib.hid hch
        have q1 := hms.c1
        have qf := hms.fr 1
        have lMr : M < wr.heap.size := hms.lt
        have s1 : M + 1 ≤ wr.heap.size := by have := hch.size; have := GS.out; omega
        clear hms hown hch
        by_cases hil : i < c.length
        · have i0 : (0 : Int) ≤ (i : Int) := by omega
          have i1 : (i : Int) < (c.length : Int) := by omega
          go_wp2_with fail
          refine wp_region_noPanic ?_
          go_region_law ((refine step_append_lies _ (by rfl) _ _ _ (by rfl) (M + 1) 70 tin _ 1 8 Tryd.underlying65 hi0 hz0 hz1 hz2 rfl (by omega) v' n' _ (by rfl) (by exact (HOWN.out.alloc _).drew) ⟨wr.heap.size, 0, none⟩ 1 1 [.pointer (some ⟨b, i * 3, none⟩)] (by rfl) (by rfl) (by exact World.news_of_block (cs := #[.pointer (some ⟨b, i * 3, none⟩)]) (t := 70) (fr := (0, 0)) (heap_alloc_new wr _)) (by simp [Value.oneCell']) (by omega) (by unfold maxLen; omega) (by omega) (by simp; omega) (wr.heap.size + 1) (by simp) ?_; intro gg cap w3 hown1 hgrow hat hlt3; (have qn := MS.grown HMS.out HOWN.out hgrow); (have qn1 := qn.c1); (have qnf := qn.fr 1)))
          all_goals
            have r1 : MS (w3.setCell ⟨M, 1, none⟩ (.slice (some ⟨gg, 0, none⟩) (n' + 1) cap)) M (.slice Ap l.length capp) (.slice (some ⟨gg, 0, none⟩) (n' + 1) cap) size [] 0 := qn.setPts
            have r2 : (w3.setCell ⟨M, 1, none⟩ (.slice (some ⟨gg, 0, none⟩) (n' + 1) cap)).ownsRow (M + 1) 70 1 (.slice (some ⟨gg, 0, none⟩) (n' + 1) cap) (n' + 1) ((adrs (bs.take k) (o.take k) ++ row b (i + 1)).map ptrV) := by
              refine ownsRow_setCell_below ?_ (by show M < M + 1; omega) _
              rw [row_succ, ← List.append_assoc, List.map_append]
              exact hown1
            have r3 : Ch (· = M) w2 (w3.setCell ⟨M, 1, none⟩ (.slice (some ⟨gg, 0, none⟩) (n' + 1) cap)) :=
              ((HCH.out.alloc _).drew.grown hgrow (fun j hj hl => by have := (HOWN.out.lt j hj).1; have := GS.out; omega)).setb (fun _ => rfl) _
            have R1 := Lib.hid r1
            have R2 := Lib.hid r2
            have R3 := Lib.hid r3
            clear r1 r2 r3 qn qn1 qnf hown1 hgrow hat
            refine NoPanic.normal ?_
            go_wp2
            go_roundw
            case rel => exact ⟨i + 1, n' + 1, _, by go_num, by omega, by omega, R1.out, R2.out, R3.out⟩
            case measure => simp [intOf]; omega
        · obtain rfl : i = c.length := by omega
          go_wp2
          go_roundw
          case rel =>
            refine ⟨k + 1, n', v', by go_num, by omega, by omega, HMS.out, ?_, HCH.out⟩
            have t1 : o.take (k + 1) = o.take k ++ [c] := by rw [List.take_add_one, HCK.out]; rfl
            have t2 : bs.take (k + 1) = bs.take k ++ [b] := by rw [List.take_add_one, HBk.out]; rfl
            rw [t1, t2, adrs_snoc (by simp [E2.out.2.1])]
            exact HOWN.out
          case measure => simp [intOf]; omega
    · obtain rfl : k = o.length := by omega
      have hown := HOWN.out
      rw [List.take_length, show bs.take o.length = bs from by rw [← E2.out.2.1, List.take_length]] at hown
      have HOWN := Lib.hid hown
      clear hown
      obtain ⟨g, gb, gp, gs, gv, ga, gf, gbp, gbl, gn⟩ := FlS.make HMS.out HOWN.out (E2.out.2.kept HCH.out (fun b hb e => by have := LM.out b hb; omega)) LM.out
      have GF := Lib.hid gf
      have GA := Lib.hid ga
      have GB := Lib.hid gb
      have GP := Lib.hid gp
      have GSZ := Lib.hid gs
      have c1r : Ch (fun j => j = w.heap.size ∨ j = M) w1 wr := (G1.out.mono fun _ _ x => .inl x).trans (HCH.out.mono fun _ _ x => .inr x)
      have C1R := Lib.hid c1r
      have NWr : Nw w wr := ((((Ch.refl (fun _ => False) w).alloc _).alloc _).alloc _).trans (C1.out) |>.trans' c1r (fun j hj hx => by rcases hx with rfl | rfl <;> omega)
      have own1 : ∀ j, g.own j → B < j ∧ j ≤ M := by
        intro j hj
        rcases hj with rfl | ⟨a, ha, rfl⟩
        · rw [GB.out]; omega
        · rw [GA.out] at ha
          have h1 := adrs_block ha
          have := (E1.out.2.lt h1).1
          have := LM.out _ h1
          omega
      have OWN := Lib.hid own1
      have NWR := Lib.hid NWr
      have szr : M < wr.heap.size := HMS.out.lt
      clear own1 NWr c1r
      clear gf ga gb gp gs gv
      go_wp2_with (go_at_call 25; rw [← GB.out]; refine run_any lo g l (fun j hj => by rcases hj with hj | rfl; (have := (OWN.out j hj).1; omega); omega) 2001 0 l.length 0 (o.flatten, [], 0) _ _ (by simp) (by simp) (by simp) (by omega) (by exact GF.out) (by rw [GP.out]; exact HP.out.kept NWR.out (fun _ _ x => x)) (by omega) (by omega) (by omega) gbl ?_ ?_)
      · intro x w4 hx c4
        have hz : exec l size 2001 0 l.length 0 (o.flatten, [], 0) = .error x := by rw [← GSZ.out]; exact hx
        have HX := Lib.hid (show runM l size o = .error x by unfold runM; rw [hz])
        have nown : ∀ j, j ≤ B → ¬ g.own j := fun j hj ho => by have := (OWN.out j ho).1; omega
        have d0 := c4.heap (HCH.out.heap GR.out (by omega)) (nown _ (by omega))
        have d1 := c4.heap (HCH.out.heap (G1.out.heap Q1.out (by omega)) (by omega)) (nown _ (by omega))
        have d2 := c4.heap (HCH.out.heap (G1.out.heap Q2.out (by omega)) (by omega)) (nown _ (by omega))
        show Leaves _ _ _ _ _ _ _
        refine leaves_cons (f := 23) (args := #[.pointer (some ⟨w.heap.size, 0, none⟩), .pointer (some ⟨w.heap.size + 1, 0, none⟩), .pointer (some ⟨w.heap.size + 2, 0, none⟩)]) (by simp) (by simp [go_sem]) ?_
        refine catch_panicking _ _ _ _ _ _ x [] w4 (by omega) (by omega) (by omega) (cell_of d0) (cell_of d1) (cell_of d2) (frozen_of d0) (frozen_of d1) (frozen_of d2) _ fun d => ?_
        have z0 : (((w4.setCell ⟨w.heap.size, 0, none⟩ (.slice none 0 0)).setCell ⟨w.heap.size + 1, 0, none⟩ (.int .i64 0)).setCell ⟨w.heap.size + 2, 0, none⟩ (.int .i64 x)).cell? ⟨w.heap.size, 0, none⟩ = some (.slice none 0 0) :=
          cell_setCell_ne _ (cell_setCell_ne _ (World.cell?_setCell_same _ _ _ (cell_of d0)) (by simp)) (by simp)
        have z1 : (((w4.setCell ⟨w.heap.size, 0, none⟩ (.slice none 0 0)).setCell ⟨w.heap.size + 1, 0, none⟩ (.int .i64 0)).setCell ⟨w.heap.size + 2, 0, none⟩ (.int .i64 x)).cell? ⟨w.heap.size + 1, 0, none⟩ = some (.int .i64 0) :=
          cell_setCell_ne _ (World.cell?_setCell_same _ _ _ (cell_setCell_ne _ (cell_of d1) (by simp))) (by simp)
        have z2 : (((w4.setCell ⟨w.heap.size, 0, none⟩ (.slice none 0 0)).setCell ⟨w.heap.size + 1, 0, none⟩ (.int .i64 0)).setCell ⟨w.heap.size + 2, 0, none⟩ (.int .i64 x)).cell? ⟨w.heap.size + 2, 0, none⟩ = some (.int .i64 x) :=
          World.cell?_setCell_same _ _ _ (cell_setCell_ne _ (cell_setCell_ne _ (cell_of d2) (by simp)) (by simp))
        have nwf : Nw w ((((w4.setCell ⟨w.heap.size, 0, none⟩ (.slice none 0 0)).setCell ⟨w.heap.size + 1, 0, none⟩ (.int .i64 0)).setCell ⟨w.heap.size + 2, 0, none⟩ (.int .i64 x)).drewN d) :=
          ((((NWR.out.trans' c4 (fun j hj ho => by have := (OWN.out j ho).1; omega)).setb (fun h => absurd h (by omega)) _).setb (fun h => absurd h (by omega)) _).setb (fun h => absurd h (by omega)) _).drewN _
        refine ⟨.tuple #[.slice none 0 0, .int .i64 0, .int .i64 x], ?_, HE.out _ x HX.out nwf⟩
        generalize (((w4.setCell ⟨w.heap.size, 0, none⟩ (.slice none 0 0)).setCell ⟨w.heap.size + 1, 0, none⟩ (.int .i64 0)).setCell ⟨w.heap.size + 2, 0, none⟩ (.int .i64 x)) = w5 at z0 z1 z2 ⊢
        simp [results, Tryd.results9, go_sem, z0, z1, z2]
      · intro w4 o4 s4 n4 hx f4 c4
        have hz : exec l size 2001 0 l.length 0 (o.flatten, [], 0) = .ok (o4, s4, n4) := by rw [← GSZ.out]; exact hx
        have HX := Lib.hid (show runM l size o = .ok (refill o o4, n4) by unfold runM; rw [hz])
        have HZ := Lib.hid hz
        have nown : ∀ j, j ≤ B → ¬ g.own j := fun j hj ho => by have := (OWN.out j ho).1; omega
        have d0 := c4.heap (HCH.out.heap GR.out (by omega)) (nown _ (by omega))
        have d1 := c4.heap (HCH.out.heap (G1.out.heap Q1.out (by omega)) (by omega)) (nown _ (by omega))
        have d2 := c4.heap (HCH.out.heap (G1.out.heap Q2.out (by omega)) (by omega)) (nown _ (by omega))
        have D1 := Lib.hid d1
        have D2 := Lib.hid d2
        have NW4 := Lib.hid (NWR.out.trans' c4 (fun j hj ho => by have := (OWN.out j ho).1; omega))
        have hBB := c4.heap (HCH.out.heap E2.out.1 (by omega)) (nown _ (Nat.le_refl _))
        have IOH := Lib.hid (fun hw (w5 : World) (f5 : FlS w5 g o4 s4 n4) (h5 : w5.heap[B]? = some (.cells (sls bs o).toArray 69 (0, 0))) => f5.isOut GA.out E2.out.2.1 h5 (exec_wf l size 2001 0 l.length 0 (o.flatten, [], 0) (o4, s4, n4) hz hw (by simp [limS])).2.2 hl64 (fun c hc => by obtain ⟨k, hk, rfl⟩ := List.getElem_of_mem hc; exact C64.out k _ (List.getElem?_eq_getElem hk)) (exec_wf l size 2001 0 l.length 0 (o.flatten, [], 0) (o4, s4, n4) hz hw (by simp [limS])).1)
        have e0 : w4.cell? ⟨w.heap.size, 0, none⟩ = some (.slice (some ⟨B, 0, none⟩) o.length o.length) := cell_of d0
        have e1 : w4.cell? ⟨w.heap.size + 1, 0, none⟩ = some (.int .i64 0) := cell_of d1
        have e2 : w4.cell? ⟨w.heap.size + 1 + 1, 0, none⟩ = some (.int .i64 0) := cell_of d2
        have k0 : w4.frozen? ⟨w.heap.size, 0, none⟩ = false := frozen_of d0
        have k1 : w4.frozen? ⟨w.heap.size + 1, 0, none⟩ = false := frozen_of d1
        have k2 : w4.frozen? ⟨w.heap.size + 1 + 1, 0, none⟩ = false := frozen_of d2
        have m12 := f4.ms.c12
        have gM0 : w.heap.size ≠ g.b := by rw [GB.out]; omega
        have gM1 : w.heap.size + 1 ≠ g.b := by rw [GB.out]; omega
        have gM2 : w.heap.size + 1 + 1 ≠ g.b := by rw [GB.out]; omega
        have F4 := Lib.hid f4
        have HBB := Lib.hid hBB
        clear hx c4 hz f4 hBB d0 d1 d2 nown
        go_wp2_with fail
        go_region_held3 (fun w' => w'.cell? ⟨w.heap.size, 0, none⟩ = some (.slice (some ⟨B, 0, none⟩) o.length o.length) ∧ w'.cell? ⟨g.b, 12, none⟩ = some (.int .i64 n4)) (first | (exact ⟨e0, m12⟩) | (exact ⟨World.cell?_setCell_same _ _ _ e0, cell_setCell_ne _ m12 gM0.symm⟩) | (exact ⟨cell_setCell_ne _ (World.cell?_setCell_same _ _ _ e0) (by first | omega | (dsimp only; omega)), cell_setCell_ne _ (cell_setCell_ne _ m12 gM0.symm) gM1.symm⟩) | (exact ⟨cell_setCell_ne _ (cell_setCell_ne _ (World.cell?_setCell_same _ _ _ e0) (by first | omega | (dsimp only; omega))) (by first | omega | (dsimp only; omega)), cell_setCell_ne _ (cell_setCell_ne _ (cell_setCell_ne _ m12 gM0.symm) gM1.symm) gM2.symm⟩)) (fail)
        have W : Hid (Nw w ((((w4.setCell ⟨w.heap.size, 0, none⟩ (.slice (some ⟨B, 0, none⟩) o.length o.length)).setCell ⟨w.heap.size + 1, 0, none⟩ (.int .i64 n4)).setCell ⟨w.heap.size + 1 + 1, 0, none⟩ (.int .i64 0)).drew)) :=
          (((NW4.out.setb (fun h => absurd h (by omega)) _).setb (fun h => absurd h (by omega)) _).setb (fun h => absurd h (by omega)) _).drew
        have W2 : Hid (Ch (fun j => w.heap.size ≤ j ∧ j ≤ w.heap.size + 1 + 1) w4 ((((w4.setCell ⟨w.heap.size, 0, none⟩ (.slice (some ⟨B, 0, none⟩) o.length o.length)).setCell ⟨w.heap.size + 1, 0, none⟩ (.int .i64 n4)).setCell ⟨w.heap.size + 1 + 1, 0, none⟩ (.int .i64 0)).drew)) :=
          ((((Ch.refl _ w4).setb (fun h => by omega) _).setb (fun h => by omega) _).setb (fun h => by omega) _).drew
        have z0 : (((w4.setCell ⟨w.heap.size, 0, none⟩ (.slice (some ⟨B, 0, none⟩) o.length o.length)).setCell ⟨w.heap.size + 1, 0, none⟩ (.int .i64 n4)).setCell ⟨w.heap.size + 1 + 1, 0, none⟩ (.int .i64 0)).drew.cell? ⟨w.heap.size, 0, none⟩ = some (.slice (some ⟨B, 0, none⟩) o.length o.length) :=
          cell_setCell_ne _ (cell_setCell_ne _ (World.cell?_setCell_same _ _ _ e0) (by dsimp only; omega)) (by dsimp only; omega)
        have z1 : (((w4.setCell ⟨w.heap.size, 0, none⟩ (.slice (some ⟨B, 0, none⟩) o.length o.length)).setCell ⟨w.heap.size + 1, 0, none⟩ (.int .i64 n4)).setCell ⟨w.heap.size + 1 + 1, 0, none⟩ (.int .i64 0)).drew.cell? ⟨w.heap.size + 1, 0, none⟩ = some (.int .i64 n4) :=
          cell_setCell_ne _ (World.cell?_setCell_same _ _ _ (cell_setCell_ne _ e1 (by dsimp only; omega))) (by dsimp only; omega)
        have z2 : (((w4.setCell ⟨w.heap.size, 0, none⟩ (.slice (some ⟨B, 0, none⟩) o.length o.length)).setCell ⟨w.heap.size + 1, 0, none⟩ (.int .i64 n4)).setCell ⟨w.heap.size + 1 + 1, 0, none⟩ (.int .i64 0)).drew.cell? ⟨w.heap.size + 1 + 1, 0, none⟩ = some (.int .i64 0) :=
          World.cell?_setCell_same _ _ _ (cell_setCell_ne _ (cell_setCell_ne _ e2 (by dsimp only; omega)) (by dsimp only; omega))
        have Z := Lib.hid (And.intro z0 (And.intro z1 z2))
        clear z0 z1 z2
        go_wp2_with fail
        show Leaves _ _ _ _ _ _ _
        refine leaves_cons (f := 23) (args := #[.pointer (some ⟨w.heap.size, 0, none⟩), .pointer (some ⟨w.heap.size + 1, 0, none⟩), .pointer (some ⟨w.heap.size + 1 + 1, 0, none⟩)]) (by simp) (by simp [go_sem]) ?_
        refine catch_idle _ _ _ _ _ ?_
        obtain ⟨z0, z1, z2⟩ := Z.out
        have own : ∀ j, g.own j ∨ j = g.bp → ¬ (w.heap.size ≤ j ∧ j ≤ w.heap.size + 1 + 1) := by
          intro j hj
          rcases hj with hj | rfl
          · have := (OWN.out j hj).1; omega
          · omega
        have f5 := F4.out.other W2.out own
        have h5 := W2.out.heap HBB.out (by omega)
        have wfo : ∀ q ∈ o.flatten, wfP q := by
          obtain ⟨A, cap, e, h, h2⟩ := HO.out
          intro q hq
          obtain ⟨c, hc, hqc⟩ := List.mem_flatten.1 hq
          obtain ⟨k, hk, rfl⟩ := List.getElem_of_mem hc
          exact (h2 k _ (List.getElem?_eq_getElem hk)).2.1 q hqc
        refine ⟨.tuple #[.slice (some ⟨B, 0, none⟩) o.length o.length, .int .i64 n4, .int .i64 0], ?_, HK.out _ _ _ n4 HX.out (IOH.out wfo _ f5 h5) W.out⟩
        generalize (((w4.setCell ⟨w.heap.size, 0, none⟩ (.slice (some ⟨B, 0, none⟩) o.length o.length)).setCell ⟨w.heap.size + 1, 0, none⟩ (.int .i64 n4)).setCell ⟨w.heap.size + 1 + 1, 0, none⟩ (.int .i64 0)).drew = w5 at z0 z1 z2 ⊢
        simp [results, Tryd.results9, go_sem, z0, z1, z2]
end Go.Proofs.YtlgcijafjcfnhaaDoor
