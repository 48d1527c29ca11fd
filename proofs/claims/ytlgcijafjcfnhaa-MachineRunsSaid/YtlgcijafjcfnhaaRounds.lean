/-
  indeliblelaw09.MachineRounds: the rounded point lies on the grid, and no other point is moved.
-/
import Derived.Test.YtlgcijafjcfnhaaStill
import Derived.Test.YtlgcijafjcfnhaaSan
import Derived.Test.YtlgcijafjcfnhaaGood
namespace Go.Proofs.Ytlgcijafjcfnhaa
open Go.RowKit
set_option linter.unusedVariables false
set_option linter.unusedSimpArgs false

/-! ### Where the points of an outline lie -/
theorem flatten_at {o : List (List Pt)} {k i : Nat} {c : List Pt} (hc : o[k]? = some c) (hi : i < c.length) : o.flatten[(o.take k).flatten.length + i]? = c[i]? := by
  induction o generalizing k with
  | nil => cases hc
  | cons d o ih =>
    cases k with
    | zero =>
      simp at hc
      subst hc
      simp only [List.take_zero, List.flatten_nil, List.length_nil, Nat.zero_add, List.flatten_cons]
      rw [List.getElem?_append_left hi]
    | succ k =>
      simp only [List.take_succ_cons, List.flatten_cons, List.length_append]
      rw [List.getElem?_append_right (by omega), show d.length + (o.take k).flatten.length + i - d.length = (o.take k).flatten.length + i from by omega]
      exact ih (by simpa using hc)
theorem refill_at {o : List (List Pt)} {k : Nat} {c : List Pt} (hc : o[k]? = some c) : ∀ l : List Pt, l.length = o.flatten.length →
    ∃ d, (refill o l)[k]? = some d ∧ d.length = c.length ∧ ∀ i, i < c.length → d[i]? = l[(o.take k).flatten.length + i]? := by
  induction o generalizing k with
  | nil => cases hc
  | cons e o ih =>
    intro l hl
    simp only [List.flatten_cons, List.length_append] at hl
    cases k with
    | zero =>
      simp at hc
      subst hc
      refine ⟨_, rfl, by simp; omega, fun i hi => ?_⟩
      simp only [List.take_zero, List.flatten_nil, List.length_nil, Nat.zero_add]
      rw [List.getElem?_take, if_pos hi]
    | succ k =>
      obtain ⟨d, h1, h2, h3⟩ := ih (k := k) (by simpa using hc) (l.drop e.length) (by rw [List.length_drop]; omega)
      refine ⟨d, h1, h2, fun i hi => ?_⟩
      rw [h3 i hi, List.getElem?_drop]
      simp only [List.take_succ_cons, List.flatten_cons, List.length_append]
      rw [Nat.add_assoc]
theorem refill_self (o : List (List Pt)) : refill o o.flatten = o := by
  induction o with
  | nil => rfl
  | cons c o ih => simp [refill, ih]
theorem at_lt {o : List (List Pt)} {k i : Nat} {c : List Pt} (hc : o[k]? = some c) (hi : i < c.length) : (o.take k).flatten.length + i < o.flatten.length := by
  have h := flatten_at hc hi
  rw [List.getElem?_eq_getElem hi] at h
  exact (List.getElem?_eq_some_iff.1 h).1

/-! ### The program -/
def pRnd (t : Int) : List Op3 := [(10, t, 0), (8, 0, 0), (12, t, 0)]
theorem rnd64_fact (x : Int) : -32 ≤ rnd64 x - x ∧ rnd64 x - x ≤ 32 ∧ (rnd64 x).tmod 64 = 0 ∧ rnd64 (rnd64 x) = rnd64 x := by
  unfold rnd64 near
  refine ⟨by omega, by omega, Int.mul_tmod_right .., by omega⟩

theorem run_rnd {o : List (List Pt)} {t : Int} {q : Pt} (h0 : 0 ≤ t) (hq : o.flatten[t.toNat]? = some q) (hb : -2000000 ≤ q.1 ∧ q.1 ≤ 2000000) :
    runM (pRnd t) 12 o = .ok (refill o (o.flatten.set t.toNat (rnd64 q.1, q.2.1, q.2.2)), 3) := by
  have hlt := (List.getElem?_eq_some_iff.1 hq).1
  have hlt' : t < (o.flatten.length : Int) := by omega
  have hok : LineOk o.flatten.length 0 (pRnd t) 0 := by
    generalize o.flatten.length = n at hlt' ⊢
    simp [pRnd, LineOk, pops, pushes]
    omega
  have hg : Good 12 o.flatten.length (pRnd t) 0 (pRnd t).length _ _ := Good.line (size := 12) (np := o.flatten.length) (u := pRnd t) hok (by simp [pRnd])
  rw [hg.run (by omega) (by simp [pRnd])]
  have hr := rnd64_fact q.1
  have l1 : lim q.1 = q.1 := by unfold lim; omega
  have l2 : lim (rnd64 q.1) = rnd64 q.1 := by unfold lim; omega
  have hd : o.flatten.getD t.toNat default = q := by rw [List.getD_eq_getElem?_getD, hq]; rfl
  have hline : line 12 (pRnd t) (o.flatten, []) = (o.flatten.set t.toNat (rnd64 q.1, q.2.1, q.2.2), []) := by
    simp only [pRnd, line, doOp, reduceIte, Int.reduceEq, hd, l1]
    simp only [rest, top, List.nil_append, List.dropLast_singleton, List.getLastD_cons, List.getLastD_nil, l2, updX]
  rw [hline]
  rfl

/-- What the rounded outline is. -/
theorem rnd_at {o : List (List Pt)} {t : Int} {q : Pt} (h0 : 0 ≤ t) (hq : o.flatten[t.toNat]? = some q) {k i : Nat} {c d : List Pt} {p r : Pt} (hc : o[k]? = some c) (hd : (refill o (o.flatten.set t.toNat (rnd64 q.1, q.2.1, q.2.2)))[k]? = some d)
    (hp : c[i]? = some p) (hr : d[i]? = some r) : (r = p ∧ (((o.take k).flatten.length + i : Nat) : Int) ≠ t) ∨ (p = q ∧ r = (rnd64 q.1, q.2.1, q.2.2) ∧ (((o.take k).flatten.length + i : Nat) : Int) = t) := by
  obtain ⟨d', h1, h2, h3⟩ := refill_at hc (o.flatten.set t.toNat (rnd64 q.1, q.2.1, q.2.2)) (by simp)
  rw [hd] at h1
  cases h1
  have hi := (List.getElem?_eq_some_iff.1 hp).1
  rw [h3 i hi] at hr
  have hf := flatten_at hc hi
  have hlt := (List.getElem?_eq_some_iff.1 hq).1
  by_cases e : t.toNat = (o.take k).flatten.length + i
  · right
    rw [← e, List.getElem?_set_self hlt] at hr
    rw [← e, hq, hp] at hf
    cases hf
    cases hr
    exact ⟨rfl, rfl, by omega⟩
  · left
    rw [List.getElem?_set_ne e, hf, hp] at hr
    cases hr
    exact ⟨rfl, by omega⟩

theorem rnd_twice {o : List (List Pt)} {t : Int} {q : Pt} (h0 : 0 ≤ t) (hq : o.flatten[t.toNat]? = some q) (hb : -1000000 ≤ q.1 ∧ q.1 ≤ 1000000) :
    runM (pRnd t) 12 (refill o (o.flatten.set t.toNat (rnd64 q.1, q.2.1, q.2.2))) = .ok (refill o (o.flatten.set t.toNat (rnd64 q.1, q.2.1, q.2.2)), 3) := by
  have hr := rnd64_fact q.1
  have hlt := (List.getElem?_eq_some_iff.1 hq).1
  have hf : (refill o (o.flatten.set t.toNat (rnd64 q.1, q.2.1, q.2.2))).flatten = o.flatten.set t.toNat (rnd64 q.1, q.2.1, q.2.2) := refill_flatten _ _ (by simp)
  have hq2 : (refill o (o.flatten.set t.toNat (rnd64 q.1, q.2.1, q.2.2))).flatten[t.toNat]? = some (rnd64 q.1, q.2.1, q.2.2) := by rw [hf]; exact List.getElem?_set_self hlt
  rw [run_rnd h0 hq2 (show -2000000 ≤ rnd64 q.1 ∧ rnd64 q.1 ≤ 2000000 from by omega)]
  simp only [hr.2.2.2]
  rw [set_self hq2, refill_self]

theorem rnd_all {o : List (List Pt)} {t : Int} {q : Pt} (h0 : 0 ≤ t) (hq : o.flatten[t.toNat]? = some q) :
    Still o (refill o (o.flatten.set t.toNat (rnd64 q.1, q.2.1, q.2.2))) [t] ∧
    ∀ (k i : Nat) (c d : List Pt) (p r : Pt), o[k]? = some c → (refill o (o.flatten.set t.toNat (rnd64 q.1, q.2.1, q.2.2)))[k]? = some d → c[i]? = some p → d[i]? = some r →
      r.2.1 = p.2.1 ∧ (-32 ≤ r.1 - p.1 ∧ r.1 - p.1 ≤ 32) ∧ (r.1 = p.1 ∨ r.1.tmod 64 = 0) := by
  have hr := rnd64_fact q.1
  refine ⟨⟨(refill_length _ _).symm, fun k c d hc hd => ?_⟩, fun k i c d p r hc hd hp hr' => ?_⟩
  · obtain ⟨d', h1, h2, h3⟩ := refill_at hc (o.flatten.set t.toNat (rnd64 q.1, q.2.1, q.2.2)) (by simp)
    have hd' := hd
    rw [hd] at h1
    cases h1
    refine ⟨h2.symm, fun i p r hp hr' => ?_⟩
    rcases rnd_at h0 hq hc hd hp hr' with ⟨rfl, h⟩ | ⟨rfl, rfl, h⟩
    · exact ⟨rfl, .inl rfl⟩
    · exact ⟨rfl, .inr (by rw [h]; simp)⟩
  · rcases rnd_at h0 hq hc hd hp hr' with ⟨rfl, h⟩ | ⟨rfl, rfl, h⟩
    · exact ⟨rfl, by omega, .inl rfl⟩
    · exact ⟨rfl, by simp only; omega, .inr hr.2.2.1⟩

/-- The bounds of a scaled made outline. -/
theorem sc_made (L : List (List Int)) (n : Int) (hn : -30 ≤ n ∧ n ≤ 30) : (scO n (madeO L)).length ≤ 2 ∧ ∀ c ∈ scO n (madeO L), (c.length ≤ 6) ∧ ∀ q ∈ c, (-1440 ≤ q.1 ∧ q.1 ≤ 1440) ∧ -1440 ≤ q.2.1 ∧ q.2.1 ≤ 1440 := by
  refine ⟨by simp [scO, madeO]; omega, fun c hc => ?_⟩
  obtain ⟨c0, h0, rfl⟩ := List.mem_map.1 hc
  obtain ⟨l, -, rfl⟩ := List.mem_map.1 (List.mem_of_mem_take h0)
  have hl := madeC_len l
  refine ⟨by rw [List.length_map]; exact hl.2.1, fun q hq => ?_⟩
  obtain ⟨q0, h1, rfl⟩ := List.mem_map.1 hq
  have h2 := hl.2.2 q0 h1
  have a := mul_bd (A := 30) (B := 48) hn (show -48 ≤ q0.1 ∧ q0.1 ≤ 48 from by omega) (by omega) (by omega)
  have b := mul_bd (A := 30) (B := 48) hn (show -48 ≤ q0.2.1 ∧ q0.2.1 ≤ 48 from by omega) (by omega) (by omega)
  exact ⟨a, b⟩
theorem made_wf (L : List (List Int)) : ∀ c ∈ madeO L, ∀ q ∈ c, wfS q := by
  intro c hc q hq
  obtain ⟨l, -, rfl⟩ := List.mem_map.1 (List.mem_of_mem_take hc)
  have h := (madeC_len l).2.2 q hq
  unfold wfS
  omega
theorem made_isOut {w : World} {B : Nat} {v : Value} {bs : List (Nat × Nat)} {L : List (List Int)} (h : CopyOk w B v bs (madeO L)) : IsOut w w.heap.size v (madeO L) :=
  h.isOut (by simp [madeO]; omega) fun c hc => by
    refine ⟨?_, fun q hq => ?_⟩
    · obtain ⟨l, -, rfl⟩ := List.mem_map.1 (List.mem_of_mem_take hc)
      have := (madeC_len l).2.1
      omega
    · have := made_wf L c hc q hq
      unfold wfS at this
      unfold wfP wfI
      omega
theorem sc_isOut {w : World} {B : Nat} {v : Value} {bs : List (Nat × Nat)} {L : List (List Int)} {n : Int} (hn : -30 ≤ n ∧ n ≤ 30) (h : CopyOk w B v bs (scO n (madeO L))) : IsOut w w.heap.size v (scO n (madeO L)) := by
  obtain ⟨h1, h2⟩ := sc_made L n hn
  refine h.isOut (by omega) fun c hc => ?_
  obtain ⟨h3, h4⟩ := h2 c hc
  refine ⟨by omega, fun q hq => ?_⟩
  have := h4 q hq
  unfold wfP wfI
  omega
theorem isInts_one {w : World} {b lo : Nat} {T : TypeId} {fz : Nat × Nat} {x : Int} (hb : w.heap[b]? = some (.cells #[.int .i64 x] T fz)) (hlo : b < lo) (hx : wfI x) : IsInts w lo (.slice (some ⟨b, 0, none⟩) 1 1) [x] := by
  refine ⟨_, _, rfl, by simp, fun i y hi => ?_⟩
  have h0 : i = 0 := by
    have := (List.getElem?_eq_some_iff.1 hi).1
    simp at this
    exact this
  subst h0
  simp at hi
  subst hi
  refine ⟨hx, b, 0, hlo, rfl, ?_⟩
  rw [cell_of hb]
  rfl

set_option maxRecDepth 100000 in
set_option maxHeartbeats 4000000 in
theorem Rounds_any (lo : Nat) (v : Value) (L : List (List Int)) (f wh : Int) (w : World) (R : Ending → World → Prop) (hlo : lo ≤ w.heap.size) (hL : IsIntss w lo v L) (hf : -128 ≤ f ∧ f ≤ 127) (hwh : 0 ≤ wh ∧ wh ≤ 255)
    (hR : ∀ w', Nw w w' → R (.returned (.bool true)) w') : Calls Try.prog 7 #[v, .int .i8 f, .int .u8 wh] w R := by
  have HR := Lib.hid hR
  have HL := Lib.hid hL
  clear hR
  obtain ⟨A, cap, rfl, -, -⟩ := hL
  have hn0 : -30 ≤ f.tmod 31 ∧ f.tmod 31 ≤ 30 := by have := tdiv_tmod f 31 (by omega); omega
  have HN0 := Lib.hid hn0
  have hn1 := hn0.1
  have hn2 := hn0.2
  obtain ⟨hf1, hf2⟩ := hf
  obtain ⟨hw1, hw2⟩ := hwh
  clear hn0
  go_enter Try.func7, Try.ntmps7
  go_wp2_with (go_at_call 18; fail)
  refine sanity_any _ _ ?_
  intro w1 hn
  have N1 := Lib.hid hn
  clear hn
  go_wp2_with (go_at_call 12; fail)
  refine Made6_any lo _ L _ _ (HL.out.kept N1.out nof) (by have := N1.out.size; omega) ?_
  intro w2 vm bs2 hcm hn
  have IM := Lib.hid (made_isOut hcm)
  have N2 := Lib.hid hn
  clear hn hcm
  go_wp2_with (go_at_call 12; fail)
  refine Scale_any w2.heap.size _ (madeO L) (f.tmod 31) _ _ IM.out (Nat.le_refl _) (by omega) (made_wf L) ?_
  intro w3 vo bs3 hco hn
  have N3 := Lib.hid ((N1.out.trans N2.out).trans hn)
  have HBD := Lib.hid (sc_made L (f.tmod 31) HN0.out)
  have HO := Lib.hid (sc_isOut HN0.out hco)
  clear hco hn
  generalize scO (f.tmod 31) (madeO L) = o at HBD HO
  go_wp2_with (go_at_call 12; fail)
  refine Count_any w3.heap.size _ o _ _ HO.out ?_
  obtain ⟨cnt, hcnt⟩ : ∃ cnt : Nat, o.flatten.length = cnt := ⟨_, rfl⟩
  rw [hcnt]
  have hcb : cnt ≤ 128 := by
    have h1 := flat_le (o := o) (fun c hc => by have := (HBD.out.2 c hc).1; omega)
    have h2 := HBD.out.1
    omega
  have HCNT := Lib.hid hcnt
  clear hcnt
  rcases Nat.eq_zero_or_pos cnt with hz | hz
  · subst hz
    go_wp2
    exact HR.out _ N3.out
  · have hz1 : ((cnt : Int) == 0) = false := beq_eq_false_iff_ne.2 (by omega)
    have hz2 : (0 : Int) < (cnt : Int) := by omega
    have t1 : 0 ≤ wh % (cnt : Int) := Int.emod_nonneg _ (by omega)
    have t2 : wh % (cnt : Int) < cnt := Int.emod_lt_of_pos _ hz2
    obtain ⟨q, hq⟩ : ∃ q, o.flatten[(wh % (cnt : Int)).toNat]? = some q := ⟨_, List.getElem?_eq_getElem (by rw [HCNT.out]; omega)⟩
    have hqb : -1000000 ≤ q.1 ∧ q.1 ≤ 1000000 := by
      obtain ⟨c, hc, hqc⟩ := List.mem_flatten.1 (List.mem_of_getElem? hq)
      have := (HBD.out.2 c hc).2 q hqc
      omega
    have HQ := Lib.hid hq
    have E1 := Lib.hid (run_rnd t1 hq (by omega))
    have E2 := Lib.hid (rnd_twice t1 hq hqb)
    have HQB := Lib.hid hqb
    clear hq hqb
    go_wp2_with (go_at_call 21; fail)
    refine Calls_named ?_
    intro W hW
    have P := Lib.hid (show IsOps W W.heap.size (.slice (some ⟨w3.heap.size, 0, none⟩) 3 3) (pRnd (wh % (cnt : Int))) from by rw [hW]; exact isOps_lit (pRnd (wh % (cnt : Int))) (by repeat (first | exact heap_alloc_eq _ (by simp only [alloc_size]) | refine heap_alloc_old' _ ?_)) (by simp only [alloc_size]; omega) (by simp [pRnd]))
    have NW := Lib.hid (show Nw w3 W from by rw [hW]; exact (Ch.refl _ _).alloc _)
    have HOW := Lib.hid (show IsOut W W.heap.size vo o from ((HO.out.kept NW.out nof).hi NW.out.size))
    have NWw := Lib.hid (N3.out.trans NW.out)
    clear hW
    refine Run_any W.heap.size _ _ (pRnd (wh % (cnt : Int))) o 12 _ _ P.out HOW.out (Nat.le_refl _) (by intro w' x he; rw [E1.out] at he; cases he) ?_
    intro w4 va oa sa he hout hn
    rw [E1.out] at he
    injection he with he
    injection he with he1 he2
    subst he1 he2
    have HA := Lib.hid hout
    have N4 := Lib.hid hn
    clear hout hn
    go_wp2_with (go_at_call 21; fail)
    refine Run_any w4.heap.size _ _ (pRnd (wh % (cnt : Int))) _ 12 _ _ ((P.out.kept N4.out nof).hi N4.out.size) HA.out (Nat.le_refl _) (by intro w' x he; rw [E2.out] at he; cases he) ?_
    intro w5 vb ob sb he hout hn
    rw [E2.out] at he
    injection he with he
    injection he with he1 he2
    subst he1 he2
    have HB := Lib.hid hout
    have N5 := Lib.hid hn
    have HA5 := Lib.hid ((HA.out.kept N5.out nof).hi N5.out.size)
    have HO5 := Lib.hid (((HOW.out.kept N4.out nof).kept N5.out nof).hi (Nat.le_trans N4.out.size N5.out.size))
    have NW5 := Lib.hid ((NWw.out.trans N4.out).trans N5.out)
    clear hout hn
    go_wp2_with (go_at_call 21; fail)
    have hall := rnd_all t1 HQ.out
    have SA := Lib.hid hall.1
    have FA := Lib.hid hall.2
    have AL := Lib.hid (refill_length o (o.flatten.set (wh % (cnt : Int)).toNat (rnd64 q.1, q.2.1, q.2.2)))
    clear hall E1 E2 HQ
    generalize refill o (o.flatten.set (wh % (cnt : Int)).toNat (rnd64 q.1, q.2.1, q.2.2)) = a at SA FA AL HA HB HA5
    refine Calls_named ?_
    intro W6 hW
    have II := Lib.hid (show IsInts W6 W6.heap.size (.slice (some ⟨w5.heap.size, 0, none⟩) 1 1) [wh % (cnt : Int)] from by rw [hW]; exact isInts_one (heap_alloc_eq _ rfl) (by simp only [alloc_size]; omega) (by unfold wfI; omega))
    have N6 := Lib.hid (show Nw w5 W6 from by rw [hW]; exact (Ch.refl _ _).alloc _)
    have O6 := Lib.hid ((HO5.out.kept N6.out nof).hi N6.out.size)
    have A6 := Lib.hid ((HA5.out.kept N6.out nof).hi N6.out.size)
    have B6 := Lib.hid ((HB.out.kept N6.out nof).hi N6.out.size)
    have NW6 := Lib.hid (NW5.out.trans N6.out)
    clear hW HA5 HO5 NW5 HB HA
    refine still_any W6.heap.size _ _ _ o a [wh % (cnt : Int)] _ _ O6.out A6.out II.out SA.out ?_
    intro d1
    go_wp2_with (go_at_call 21; fail)
    refine Same_true W6.heap.size _ _ a _ _ (A6.out.kept ((Ch.refl (fun _ => False) W6).drewN d1) nof) (B6.out.kept ((Ch.refl (fun _ => False) W6).drewN d1) nof) ?_
    intro d2
    go_wp2_with (go_at_call 21; fail)
    obtain ⟨Ao, capo, evo, ho64, helo⟩ := O6.out
    obtain ⟨Aa, capa, eva, ha64, hela⟩ := A6.out
    subst evo eva
    have HEO := Lib.hid helo
    have HEA := Lib.hid hela
    have al1 : a.length ≤ o.length := by have := AL.out; omega
    have al2 : o.length ≤ a.length := by have := AL.out; omega
    clear helo hela
    go_loopw [18] (fun s18 wr => ∃ (k d : Nat), s18 = .int .i64 k ∧ k ≤ o.length ∧ wr = W6.drewN d) (fun s18 _ => o.length - (intOf s18).toNat)
    case atStart => exact ⟨0, _, rfl, Nat.zero_le _, rfl⟩
    case round =>
      obtain ⟨k, d3, rfl, hk, rfl⟩ := hrel
      have k0 : (0 : Int) ≤ (k : Int) := by omega
      by_cases hlt : k < o.length
      · obtain ⟨c, hck⟩ : ∃ c, o[k]? = some c := ⟨_, List.getElem?_eq_getElem hlt⟩
        obtain ⟨e, hek⟩ : ∃ e, a[k]? = some e := ⟨_, List.getElem?_eq_getElem (by omega)⟩
        obtain ⟨c64, -, bk, bo, vi, -, rfl, hcell, A2, cap2, rfl, -, hpts⟩ := HEO.out k c hck
        obtain ⟨e64, -, bk', bo', vi', -, rfl, hcell', A3, cap3, rfl, -, hpts'⟩ := HEA.out k e hek
        have hce := (SA.out.2 k c e hck hek).1
        have HP := Lib.hid hpts
        have HQ := Lib.hid hpts'
        have HCK := Lib.hid hck
        have HEK := Lib.hid hek
        have k1 : (k : Int) < (o.length : Int) := by omega
        have k2 : (k : Int) < (a.length : Int) := by omega
        have m1 : c.length ≤ e.length := by omega
        clear hpts hpts' hck hek hce
        go_wp2
        go_loopw [19] (fun s19 wr => ∃ (i d : Nat), s19 = .int .i64 i ∧ i ≤ c.length ∧ wr = W6.drewN d) (fun s19 _ => c.length - (intOf s19).toNat)
        case atStart => exact ⟨0, _, rfl, Nat.zero_le _, rfl⟩
        case round =>
          obtain ⟨i, d4, rfl, hi, rfl⟩ := hrel
          have i0 : (0 : Int) ≤ (i : Int) := by omega
          by_cases hil : i < c.length
          · obtain ⟨⟨p1, p2, p3⟩, hp⟩ : ∃ p, c[i]? = some p := ⟨_, List.getElem?_eq_getElem hil⟩
            obtain ⟨⟨r1, r2, r3⟩, hr⟩ : ∃ r, e[i]? = some r := ⟨_, List.getElem?_eq_getElem (by omega)⟩
            obtain ⟨pk, po, -, rfl, x0, x1, x2⟩ := HP.out i _ hp
            obtain ⟨pk', po', -, rfl, y0, y1, y2⟩ := HQ.out i _ hr
            obtain ⟨h1, ⟨h2, h3⟩, h4⟩ := FA.out k i c e _ _ HCK.out HEK.out hp hr
            have hb := (HBD.out.2 c (List.mem_of_getElem? HCK.out)).2 _ (List.mem_of_getElem? hp)
            obtain ⟨⟨b1, b2⟩, b3, b4⟩ := hb
            simp only at h1 h2 h3 h4 x0 x1 x2 y0 y1 y2 b1 b2 b3 b4
            subst h1
            have i1 : (i : Int) < (c.length : Int) := by omega
            have i2 : (i : Int) < (e.length : Int) := by omega
            clear hp hr
            by_cases hpr : r1 = p1
            · subst hpr
              clear h4
              go_wp2
              go_quiet (fail)
              go_wp2
              go_quiet (fail)
              go_wp2
              go_roundw
              case rel => exact ⟨i + 1, _, by go_num, by omega, rfl⟩
              case measure => simp [intOf]; omega
            · have h5 : r1.tmod 64 = 0 := by
                rcases h4 with h | h
                · exact absurd h hpr
                · exact h
              have h6 : ((r1 - p1) != 0) = true := bne_iff_ne.2 (by omega)
              clear h4
              go_wp2
              go_quiet (fail)
              go_wp2
              go_quiet (fail)
              go_wp2
              go_roundw
              case rel => exact ⟨i + 1, _, by go_num, by omega, rfl⟩
              case measure => simp [intOf]; omega
          · have i1 : ¬ (i : Int) < (c.length : Int) := by omega
            obtain rfl : i = c.length := by omega
            go_wp2
            go_roundw
            case rel => exact ⟨k + 1, _, by go_num, by omega, rfl⟩
            case measure => simp [intOf]; omega
      · have k1 : ¬ (k : Int) < (o.length : Int) := by omega
        go_wp2
        exact HR.out _ (NW6.out.drewN _)
end Go.Proofs.Ytlgcijafjcfnhaa
