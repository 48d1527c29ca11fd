/-
  indelibleref06.Scale and Count: each coordinate times a number; how many points there are.
-/
import Derived.Test.YtlgcijafjcfnhaaDoorMade6
import Derived.StillTailTactics
import Derived.Laws.OwnMore
namespace Go.Proofs.YtlgcijafjcfnhaaDoor
open Go.RowKit
set_option linter.unusedVariables false

theorem slc_set {bs : List (Nat × Nat)} : ∀ {o : List (List Pt)} {k : Nat} {c c' : List Pt}, o[k]? = some c → c'.length = c.length → slc bs (o.set k c') = slc bs o := by
  induction bs with
  | nil => intro o k c c' h1 h2; cases o <;> cases k <;> rfl
  | cons b bs ih =>
    intro o k c c' h1 h2
    cases o with
    | nil => cases h1
    | cons d o =>
      cases k with
      | zero => simp at h1; subst h1; simp [slc, h2]
      | succ k => simp only [List.set_cons_succ, slc]; rw [ih (by simpa using h1) h2]

theorem nodup_get {α : Type} {l : List α} (h : l.Nodup) {i j : Nat} {x : α} (hi : l[i]? = some x) (hj : l[j]? = some x) : i = j := by
  induction l generalizing i j with
  | nil => cases hi
  | cons y l ih =>
    obtain ⟨h1, h2⟩ := List.nodup_cons.1 h
    cases i with
    | zero =>
      cases j with
      | zero => rfl
      | succ j => simp at hi hj; subst hi; exact absurd (List.mem_of_getElem? hj) h1
    | succ i =>
      cases j with
      | zero => simp at hi hj; subst hj; exact absurd (List.mem_of_getElem? hi) h1
      | succ j => exact congrArg (· + 1) (ih h2 (by simpa using hi) (by simpa using hj))

/-- A cell of a point is written. -/
theorem CopyOk.store {w : World} {B : Nat} {v : Value} {bs : List (Nat × Nat)} {o : List (List Pt)} {k j : Nat} {b : Nat × Nat} {c c' : List Pt} {u : Value}
    (h : CopyOk w B v bs o) (hb : bs[k]? = some b) (hc : o[k]? = some c) (hl : c'.length = c.length) (hf : flat c' = (flat c).set j u) : CopyOk (w.setCell ⟨b.1, j, none⟩ u) B v bs (o.set k c') := by
  obtain ⟨hbl, hnd, how, hin⟩ := h
  have hne := (hin k b c hb hc).1
  have ch : Ch (· = b.1) w (w.setCell ⟨b.1, j, none⟩ u) := (Ch.refl (· = b.1) w).setb (fun _ => rfl) _
  refine ⟨by simp [hbl], hnd, ?_, fun k' b' d hb' hd => ?_⟩
  · rw [slc_set hc hl, List.length_set]
    exact ownsRow_ch how ch (fun m hm e => hne (by rw [hm, e]))
  · by_cases hk : k = k'
    · subst hk
      rw [hb] at hb'
      cases hb'
      rw [List.getElem?_set_self (List.getElem?_eq_some_iff.1 hc).1] at hd
      cases hd
      refine ⟨hne, ?_⟩
      rw [hl, hf]
      exact ((hin k b c hb hc).2.stored j u).1
    · rw [List.getElem?_set_ne hk] at hd
      obtain ⟨h1, h2⟩ := hin k' b' d hb' hd
      refine ⟨h1, ownsRow_ch h2 ch (fun m hm e => ?_)⟩
      injection hm with hm
      have e2 : b'.1 = b.1 := hm.trans e
      have l1 := (List.getElem?_eq_some_iff.1 hb).1
      have l2 := (List.getElem?_eq_some_iff.1 hb').1
      have x1 : (bs.map (·.1))[k]? = some b.1 := by rw [List.getElem?_map, hb]; rfl
      have x2 : (bs.map (·.1))[k']? = some b'.1 := by rw [List.getElem?_map, hb']; rfl
      rw [e2] at x2
      exact hk (nodup_get hnd x1 x2)

/-- What the walk reads: the k-th slice, and the cells of its points. -/
theorem CopyOk.slice {w : World} {B : Nat} {v : Value} {bs : List (Nat × Nat)} {o : List (List Pt)} {k : Nat} {c : List Pt} (h : CopyOk w B v bs o) (hc : o[k]? = some c) :
    ∃ g cap b, v = .slice (some ⟨g, 0, none⟩) o.length cap ∧ bs[k]? = some b ∧ g ≠ b.1 ∧ B ≤ g ∧ B ≤ b.1 ∧ b.1 < w.heap.size ∧ w.cell? ⟨g, k, none⟩ = some (.slice (some ⟨b.1, 0, none⟩) c.length b.2) ∧ (∀ j, w.frozen? ⟨b.1, j, none⟩ = false) ∧
      ∀ i q, c[i]? = some q → w.cell? ⟨b.1, i * 3, none⟩ = some (.int .i64 q.1) ∧ w.cell? ⟨b.1, i * 3 + 1, none⟩ = some (.int .i64 q.2.1) ∧ w.cell? ⟨b.1, i * 3 + 2, none⟩ = some (.bool q.2.2) := by
  obtain ⟨hbl, hnd, how, hin⟩ := h
  have hkl := (List.getElem?_eq_some_iff.1 hc).1
  have hkb : k < bs.length := by rw [hbl]; exact hkl
  have hb := List.getElem?_eq_getElem hkb
  obtain ⟨hne, hi⟩ := hin k _ c hb hc
  obtain ⟨g, cap', rfl, -⟩ := how.form (by omega)
  have hadd : ∀ (g j : Nat), (⟨g, 0, none⟩ : Addr).add j = ⟨g, j, none⟩ := by intro g j; unfold Addr.add; split <;> simp_all
  have hcell := how.cells (g := g) rfl k _ (slc_get hb hc)
  rw [hadd] at hcell
  refine ⟨g, cap', bs[k], rfl, hb, fun e => hne (congrArg some e), (how.lt g rfl).1, (hi.lt _ rfl).1, (hi.lt _ rfl).2, hcell, fun j => hi.frozenAt j, fun i q hq => ?_⟩
  have hf := flat_get hq
  have hc2 := hi.cells (g := bs[k].1) rfl
  have f0 := hc2 _ _ hf.1
  have f1 := hc2 _ _ hf.2.1
  have f2 := hc2 _ _ hf.2.2
  rw [hadd] at f0 f1 f2
  exact ⟨f0, f1, f2⟩

theorem mul_bd {a b A B : Int} (ha : -A ≤ a ∧ a ≤ A) (hb : -B ≤ b ∧ b ≤ B) (hA : 0 ≤ A) (hB : 0 ≤ B) : -(A * B) ≤ a * b ∧ a * b ≤ A * B := by
  have h3 := Nat.mul_le_mul (show a.natAbs ≤ A.natAbs from by omega) (show b.natAbs ≤ B.natAbs from by omega)
  rw [← Int.natAbs_mul, ← Int.natAbs_mul] at h3
  have h4 := Int.mul_nonneg hA hB
  generalize a * b = p at h3 ⊢
  generalize A * B = q at h3 h4 ⊢
  omega
def scP (n : Int) (q : Pt) : Pt := (n * q.1, n * q.2.1, q.2.2)
def scO (n : Int) (o : List (List Pt)) : List (List Pt) := o.map (List.map (scP n))
/-- The contours below k, and the points below i of contour k, are scaled. -/
def Part (n : Int) (o o' : List (List Pt)) (k i : Nat) : Prop :=
  o'.length = o.length ∧ ∀ (k' : Nat) (c : List Pt), o[k']? = some c → ∃ c', o'[k']? = some c' ∧ c'.length = c.length ∧ ∀ (i' : Nat) (q : Pt), c[i']? = some q → c'[i']? = some (if k' < k ∨ k' = k ∧ i' < i then scP n q else q)
theorem Part.start (n : Int) (o : List (List Pt)) : Part n o o 0 0 := ⟨rfl, fun k' c h => ⟨c, h, rfl, fun i' q hq => by rw [if_neg (by omega)]; exact hq⟩⟩
theorem Part.next {n : Int} {o o' : List (List Pt)} {k : Nat} {c : List Pt} (h : Part n o o' k c.length) (hc : o[k]? = some c) : Part n o o' (k + 1) 0 := by
  refine ⟨h.1, fun k' d hd => ?_⟩
  obtain ⟨c', h1, h2, h3⟩ := h.2 k' d hd
  refine ⟨c', h1, h2, fun i' q hq => ?_⟩
  rw [h3 i' q hq]
  have hi := (List.getElem?_eq_some_iff.1 hq).1
  by_cases hk : k' < k
  · rw [if_pos (.inl hk), if_pos (by omega)]
  · by_cases hk2 : k' = k
    · subst hk2
      rw [hc] at hd
      cases hd
      rw [if_pos (.inr ⟨rfl, hi⟩), if_pos (by omega)]
    · rw [if_neg (by omega), if_neg (by omega)]
theorem Part.step {n : Int} {o o' : List (List Pt)} {k i : Nat} {c' : List Pt} {q : Pt} (h : Part n o o' k i) (hc : o'[k]? = some c') (hq : c'[i]? = some q) : Part n o (o'.set k (c'.set i (scP n q))) k (i + 1) := by
  refine ⟨by rw [List.length_set]; exact h.1, fun k' d hd => ?_⟩
  obtain ⟨c2, h1, h2, h3⟩ := h.2 k' d hd
  by_cases hk : k' = k
  · subst hk
    rw [hc] at h1
    cases h1
    refine ⟨_, List.getElem?_set_self (List.getElem?_eq_some_iff.1 hc).1, by simpa using h2, fun i' r hr => ?_⟩
    have := h3 i' r hr
    by_cases hi : i = i'
    · subst hi
      rw [if_neg (by omega), hq] at this
      injection this with this
      rw [List.getElem?_set_self (List.getElem?_eq_some_iff.1 hq).1, if_pos (by omega), this]
    · rw [List.getElem?_set_ne hi, this]
      by_cases hlt : i' < i
      · rw [if_pos (by omega), if_pos (by omega)]
      · rw [if_neg (by omega), if_neg (by omega)]
  · refine ⟨c2, by rw [List.getElem?_set_ne (by omega)]; exact h1, h2, fun i' r hr => ?_⟩
    rw [h3 i' r hr]
    by_cases hlt : k' < k
    · rw [if_pos (by omega), if_pos (by omega)]
    · rw [if_neg (by omega), if_neg (by omega)]
theorem Part.done {n : Int} {o o' : List (List Pt)} (h : Part n o o' o.length 0) : o' = scO n o := by
  apply List.ext_getElem?
  intro k
  unfold scO
  rw [List.getElem?_map]
  by_cases hk : k < o.length
  · obtain ⟨c', h1, h2, h3⟩ := h.2 k _ (List.getElem?_eq_getElem hk)
    rw [h1, List.getElem?_eq_getElem hk]
    simp only [Option.map_some]
    congr 1
    apply List.ext_getElem?
    intro i
    rw [List.getElem?_map]
    by_cases hi : i < o[k].length
    · have := h3 i _ (List.getElem?_eq_getElem hi)
      rw [if_pos (.inl hk)] at this
      rw [this, List.getElem?_eq_getElem hi]
      rfl
    · rw [List.getElem?_eq_none (by omega), List.getElem?_eq_none (by omega)]; rfl
  · rw [List.getElem?_eq_none (by have := h.1; omega), List.getElem?_eq_none (by omega)]; rfl

theorem set_self {α : Type} {l : List α} {i : Nat} {x : α} (h : l[i]? = some x) : l.set i x = l := by
  apply List.ext_getElem?
  intro j
  by_cases hj : i = j
  · subst hj; rw [List.getElem?_set_self (List.getElem?_eq_some_iff.1 h).1, h]
  · rw [List.getElem?_set_ne hj]
theorem flat_setx (c : List Pt) (i : Nat) (q : Pt) (x : Int) (hq : c[i]? = some q) : flat (c.set i (x, q.2.1, q.2.2)) = (flat c).set (i * 3) (.int .i64 x) := by
  have hil := (List.getElem?_eq_some_iff.1 hq).1
  rw [← flat_set _ hil]
  obtain ⟨f0, f1, f2⟩ := flat_get hq
  rw [set_self (by rw [List.getElem?_set_ne (by omega), List.getElem?_set_ne (by omega)]; exact f2), set_self (by rw [List.getElem?_set_ne (by omega)]; exact f1)]
theorem flat_sety (c : List Pt) (i : Nat) (q : Pt) (y : Int) (hq : c[i]? = some q) : flat (c.set i (q.1, y, q.2.2)) = (flat c).set (i * 3 + 1) (.int .i64 y) := by
  have hil := (List.getElem?_eq_some_iff.1 hq).1
  rw [← flat_set _ hil]
  obtain ⟨f0, f1, f2⟩ := flat_get hq
  rw [set_self f0, set_self (by rw [List.getElem?_set_ne (by omega)]; exact f2)]

theorem wp_named {P : Program} {c : Code} {Q : Exit → Act → World → Prop} {a : Act} {w : World} (h : ∀ W, W = w → Code.wp P c Q a W) : Code.wp P c Q a w := h _ rfl
def wfS (q : Pt) : Prop := (-1000000 ≤ q.1 ∧ q.1 ≤ 1000000) ∧ -1000000 ≤ q.2.1 ∧ q.2.1 ≤ 1000000

set_option maxRecDepth 100000 in
set_option maxHeartbeats 1000000 in
theorem Scale_any (lo : Nat) (v : Value) (o : List (List Pt)) (n : Int) (w : World) (R : Ending → World → Prop) (ho : IsOut w lo v o) (hlo : lo ≤ w.heap.size) (hn : -1000 ≤ n ∧ n ≤ 1000) (hw : ∀ c ∈ o, ∀ q ∈ c, wfS q)
    (hR : ∀ w' v' bs, CopyOk w' w.heap.size v' bs (scO n o) → Nw w w' → R (.returned v') w') : Calls Tryd.prog 14 #[v, .int .i64 n] w R := by
  have HR := Lib.hid hR
  have HW := Lib.hid hw
  have HO := Lib.hid ho
  clear hR hw
  obtain ⟨A, cap, rfl, ho64, -⟩ := ho
  go_enter Tryd.func14, Tryd.ntmps14
  go_wp2_with (go_at_call 26; fail)
  refine Copy_any lo _ o _ _ HO.out hlo ?_
  intro w1 v1 bs hc1 hn1
  have HC1 := Lib.hid hc1
  have HN1 := Lib.hid hn1
  have hv : ∃ A1 cap1, v1 = .slice A1 o.length cap1 := by
    rcases hc1.2.2.1.2 with ⟨h1, h2⟩ | ⟨g, cap, cur, h1, -⟩
    · exact ⟨none, 0, by rw [h2]; exact h1⟩
    · exact ⟨_, cap, h1⟩
  obtain ⟨A1, cap1, rfl⟩ := hv
  clear hc1 hn1
  go_wp2
  go_loopw [6] (fun s6 wr => ∃ (k : Nat) (o' : List (List Pt)), s6 = .int .i64 k ∧ k ≤ o.length ∧ CopyOk wr w.heap.size (.slice A1 o.length cap1) bs o' ∧ Part n o o' k 0 ∧ Nw w wr)
    (fun s6 _ => o.length - (intOf s6).toNat)
  case atStart => exact ⟨0, o, rfl, Nat.zero_le _, HC1.out, Part.start n o, HN1.out⟩
  case round =>
    obtain ⟨k, o', rfl, hk, hcopy, hpart, hnw⟩ := hrel
    have HC := Lib.hid hcopy
    have HP := Lib.hid hpart
    have HNW := Lib.hid hnw
    clear hcopy hpart hnw
    have k0 : (0 : Int) ≤ (k : Int) := by omega
    by_cases hlt : k < o.length
    · obtain ⟨c, hck⟩ : ∃ c, o[k]? = some c := ⟨_, List.getElem?_eq_getElem hlt⟩
      have k1 : (k : Int) < (o.length : Int) := by omega
      have HCK := Lib.hid hck
      have c64 : c.length ≤ 64 := by
        obtain ⟨_, _, _, _, hel⟩ := HO.out
        exact (hel k c hck).1
      obtain ⟨wo, rfl⟩ : ∃ wo : World, wo = wr := ⟨_, rfl⟩
      clear hck
      go_wp2
      go_loopw [7] (fun s7 wr => ∃ (i : Nat) (o' : List (List Pt)), s7 = .int .i64 i ∧ i ≤ c.length ∧ CopyOk wr w.heap.size (.slice A1 o.length cap1) bs o' ∧ Part n o o' k i ∧ Nw w wr)
        (fun s7 _ => c.length - (intOf s7).toNat)
      case atStart => exact ⟨0, o', rfl, Nat.zero_le _, HC.out, HP.out, HNW.out⟩
      case round =>
        obtain ⟨i, o2, rfl, hi, hcopy, hpart, hnw⟩ := hrel
        obtain ⟨c', hc', hcl, hpt⟩ := hpart.2 k c HCK.out
        obtain ⟨g, cap2, ⟨b, cb⟩, hv1, hbk, hgb, hgB, hbB, hbl, hcell, hfz, hpts⟩ := hcopy.slice hc'
        have hol := hpart.1
        have HPT := Lib.hid hpt
        have HC2 := Lib.hid hcopy
        have HP2 := Lib.hid hpart
        have HNW2 := Lib.hid hnw
        have HPTS := Lib.hid hpts
        have HCL := Lib.hid hcl
        have HC' := Lib.hid hc'
        have HBK := Lib.hid hbk
        injection hv1 with e1 e2 e3
        subst e1 e3
        rw [hcl] at hcell
        simp only at hgb hbB hbl hcell hfz hpts
        clear hcopy hpart hnw hpts hcl hc' hbk hpt e2
        have i0 : (0 : Int) ≤ (i : Int) := by omega
        by_cases hil : i < c.length
        · have i1 : (i : Int) < (c.length : Int) := by omega
          obtain ⟨q, hq⟩ : ∃ q, c[i]? = some q := ⟨_, List.getElem?_eq_getElem hil⟩
          have hq' := HPT.out i q hq
          rw [if_neg (by omega)] at hq'
          obtain ⟨p0, p1, p2⟩ := HPTS.out i q hq'
          obtain ⟨⟨x1, x2⟩, y1, y2⟩ := HW.out c (List.mem_of_getElem? HCK.out) q (List.mem_of_getElem? hq)
          have mx1 : -1000000000 ≤ n * q.1 := (mul_bd hn ⟨x1, x2⟩ (by omega) (by omega)).1
          have mx2 : n * q.1 ≤ 1000000000 := (mul_bd hn ⟨x1, x2⟩ (by omega) (by omega)).2
          have my1 : -1000000000 ≤ n * q.2.1 := (mul_bd hn ⟨y1, y2⟩ (by omega) (by omega)).1
          have my2 : n * q.2.1 ≤ 1000000000 := (mul_bd hn ⟨y1, y2⟩ (by omega) (by omega)).2
          have z0 := hfz (i * 3)
          have z1 := hfz (i * 3 + 1)
          have HQ' := Lib.hid hq'
          clear hq hq' hfz
          go_wp2
          go_still_tail 15, (by kernel_rfl)
          go_wp2
          refine wp_named ?_
          intro W1 hW
          have f1 : W1.cell? ⟨g, k, none⟩ = some (.slice (some ⟨b, 0, none⟩) c.length cb) := by rw [hW]; exact cell_setCell_ne _ hcell hgb
          have f2 : W1.cell? ⟨b, i * 3 + 1, none⟩ = some (.int .i64 q.2.1) := by rw [hW]; exact (World.cell?_setCell_other _ _ _ _ (by intro e; injection e with e1 e2; omega)).trans p1
          have f3 : W1.frozen? ⟨b, i * 3 + 1, none⟩ = false := by rw [hW]; exact (World.frozen?_setCell _ _ _ _).trans z1
          have f4 := Lib.hid hW
          clear hcell p1 z1 hW
          go_still_tail 15, (by kernel_rfl)
          go_wp2
          have hkl := (List.getElem?_eq_some_iff.1 HC'.out).1
          have hil' := (List.getElem?_eq_some_iff.1 HQ'.out).1
          have s1 : CopyOk W1 w.heap.size (.slice (some ⟨g, 0, none⟩) o.length cap1) bs (o2.set k (c'.set i (n * q.1, q.2.1, q.2.2))) := by
            rw [f4.out]
            exact HC2.out.store HBK.out HC'.out (c' := c'.set i (n * q.1, q.2.1, q.2.2)) (by simp) (flat_setx c' i q (n * q.1) HQ'.out)
          have s2 := s1.store HBK.out (List.getElem?_set_self hkl) (c' := (c'.set i (n * q.1, q.2.1, q.2.2)).set i (n * q.1, n * q.2.1, q.2.2)) (by simp) (flat_sety _ i (n * q.1, q.2.1, q.2.2) (n * q.2.1) (List.getElem?_set_self hil'))
          rw [List.set_set, List.set_set] at s2
          have s3 : Nw w W1 := by rw [f4.out]; exact (HNW2.out.setb (fun h => by omega) _).drew
          refine ⟨⟨i + 1, _, rfl, by omega, s2, HP2.out.step HC'.out HQ'.out, (s3.setb (fun h => by omega) _).drew⟩, ?_⟩
          simp [intOf]; omega
        · have i1 : ¬ (i : Int) < (c.length : Int) := by omega
          obtain rfl : i = c.length := by omega
          go_wp2
          refine ⟨⟨k + 1, o2, rfl, by omega, HC2.out, HP2.out.next HCK.out, HNW2.out⟩, ?_⟩
          simp [intOf]; omega
    · have k1 : ¬ (k : Int) < (o.length : Int) := by omega
      obtain rfl : k = o.length := by omega
      go_wp2
      have h0 := HC.out
      rw [HP.out.done] at h0
      exact HR.out _ _ bs h0 HNW.out

theorem flat_le {o : List (List Pt)} (h : ∀ c ∈ o, c.length ≤ 64) : o.flatten.length ≤ 64 * o.length := by
  induction o with
  | nil => simp
  | cons c o ih =>
    have h1 := h c (List.mem_cons_self ..)
    have h2 := ih fun d hd => h d (List.mem_cons_of_mem _ hd)
    simp only [List.flatten_cons, List.length_append, List.length_cons]
    omega
theorem flat_take {o : List (List Pt)} {k : Nat} {c : List Pt} (hc : o[k]? = some c) : (o.take (k + 1)).flatten.length = (o.take k).flatten.length + c.length := by
  rw [List.take_add_one, hc]
  simp

set_option maxRecDepth 100000 in
theorem Count_any (lo : Nat) (v : Value) (o : List (List Pt)) (w : World) (R : Ending → World → Prop) (ho : IsOut w lo v o) (hR : R (.returned (.int .i64 o.flatten.length)) w) : Calls Tryd.prog 17 #[v] w R := by
  have HR := Lib.hid hR
  clear hR
  obtain ⟨A, cap, rfl, ho64, hel⟩ := ho
  have HEL := Lib.hid hel
  have h64 : ∀ k : Nat, (o.take k).flatten.length ≤ 4096 := by
    intro k
    have := flat_le (o := o.take k) (fun c hc => by
      obtain ⟨j, hj⟩ := List.mem_iff_getElem?.1 (List.mem_of_mem_take hc)
      exact (hel j c hj).1)
    simp only [List.length_take] at this
    omega
  have H64 := Lib.hid h64
  clear hel h64
  go_enter Tryd.func17, Tryd.ntmps17
  go_wp2
  go_loopw [3, 4] (fun s3 s4 wr => ∃ (k n : Nat), s4 = .int .i64 k ∧ s3 = .int .i64 n ∧ n = (o.take k).flatten.length ∧ k ≤ o.length ∧ wr = w) (fun _ s4 _ => o.length - (intOf s4).toNat)
  case atStart => exact ⟨0, 0, rfl, rfl, by simp, Nat.zero_le _, rfl⟩
  case round =>
    obtain ⟨k, n, rfl, rfl, hn, hk, rfl⟩ := hrel
    have HN := Lib.hid hn
    have n64 := H64.out k
    rw [← hn] at n64
    clear hn
    have k0 : (0 : Int) ≤ (k : Int) := by omega
    by_cases hlt : k < o.length
    · obtain ⟨c, hck⟩ : ∃ c, o[k]? = some c := ⟨_, List.getElem?_eq_getElem hlt⟩
      obtain ⟨c64, -, bk, bo, vi, -, rfl, hcell, A2, cap2, rfl, -, -⟩ := HEL.out k c hck
      have HCK := Lib.hid hck
      have k1 : (k : Int) < (o.length : Int) := by omega
      clear hck
      go_wp2
      refine ⟨⟨k + 1, n + c.length, rfl, rfl, ?_, by omega, trivial⟩, ?_⟩
      · rw [flat_take HCK.out, HN.out]
      · simp [intOf]; omega
    · have k1 : ¬ (k : Int) < (o.length : Int) := by omega
      obtain rfl : k = o.length := by omega
      go_wp2
      refine ret_i HR.out ?_
      rw [HN.out, List.take_length]
end Go.Proofs.YtlgcijafjcfnhaaDoor
