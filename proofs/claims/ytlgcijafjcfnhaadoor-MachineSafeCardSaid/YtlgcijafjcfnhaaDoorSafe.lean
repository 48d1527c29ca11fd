/-
  indeliblelaw09.MachineSafe: a program that verify.Check accepts never fails, takes at most its cost, and moves only its points; made programs are accepted.
-/
import Derived.Test.YtlgcijafjcfnhaaDoorVCheck
import Derived.Test.YtlgcijafjcfnhaaDoorVCount
import Derived.Test.YtlgcijafjcfnhaaDoorVer
import Derived.Test.YtlgcijafjcfnhaaDoorFour
import Derived.Test.YtlgcijafjcfnhaaDoorStill
import Derived.Test.YtlgcijafjcfnhaaDoorSan
namespace Go.Proofs.YtlgcijafjcfnhaaDoor
open Go.RowKit
set_option linter.unusedVariables false
set_option linter.unusedSimpArgs false

theorem compact_has (d : Array Int) (m : Nat) : ∀ j, j < m → d[j]! ∈ Lib.compactUpTo d m := by
  induction m with
  | zero => intro j h; omega
  | succ m ih =>
    intro j hj
    rw [Lib.compactUpTo_succ]
    by_cases hlt : j < m
    · exact List.mem_append_left _ (ih j hlt)
    · obtain rfl : j = m := by omega
      by_cases hk : Lib.keeps d j = true
      · exact List.mem_append_right _ (by rw [if_pos hk]; simp)
      · refine List.mem_append_left _ ?_
        have h0 : j ≠ 0 ∧ d[j]! = d[j - 1]! := by
          refine ⟨fun h => hk (by simp [Lib.keeps, h]), Decidable.byContradiction fun h => hk (Lib.keeps_pos h)⟩
        rw [h0.2]
        exact ih (j - 1) (by omega)
theorem sorted_mem {r : List Int} {x : Int} (h : x ∈ r) : x ∈ sorted r := by
  have h2 : x ∈ r.mergeSort fun x y => decide (x ≤ y) := List.mem_mergeSort.2 h
  unfold sorted Lib.compact
  obtain ⟨j, hj⟩ := List.mem_iff_getElem?.1 h2
  have hlt := (List.getElem?_eq_some_iff.1 hj).1
  have := compact_has (r.mergeSort fun x y => decide (x ≤ y)).toArray (r.mergeSort fun x y => decide (x ≤ y)).length j hlt
  have e : (r.mergeSort fun x y => decide (x ≤ y)).toArray[j]! = x := by
    rw [getElem!_pos _ j (by simpa using hlt)]
    have := (List.getElem?_eq_some_iff.1 hj).2
    simpa using this
  rwa [e] at this
theorem compact_sub (d : Array Int) (m : Nat) : ∀ x, x ∈ Lib.compactUpTo d m → ∃ j, j < m ∧ x = d[j]! := by
  induction m with
  | zero => intro x h; simp [Lib.compactUpTo] at h
  | succ m ih =>
    intro x h
    rw [Lib.compactUpTo_succ] at h
    rcases List.mem_append.1 h with h | h
    · obtain ⟨j, h1, h2⟩ := ih x h
      exact ⟨j, by omega, h2⟩
    · split at h
      · exact ⟨m, by omega, by simpa using h⟩
      · cases h
theorem mem_sorted {r : List Int} {x : Int} (h : x ∈ sorted r) : x ∈ r := by
  unfold sorted Lib.compact at h
  obtain ⟨j, h1, h2⟩ := compact_sub _ _ x h
  rw [getElem!_pos _ j (by simpa using h1)] at h2
  have hm := List.mem_mergeSort.1 (List.getElem_mem h1)
  rw [h2]
  simpa using hm
theorem wf_sorted {np : Nat} {rr : List Int} (h : ∀ x ∈ rr, 0 ≤ x ∧ x < (np : Int)) (hn : np ≤ 4096) : ∀ x ∈ sorted rr, wfI x := by
  intro x hx
  have h1 := h x (mem_sorted hx)
  unfold wfI
  omega
theorem checkM_reach {np k : Int} {L : List VOp} {d : Nat} {r : List Int} (h : checkM np L = .ok (k, d, r)) : (∀ x ∈ r, 0 ≤ x ∧ x < np) ∧ r.length ≤ 64 := by
  unfold checkM at h
  split at h
  · cases h
  · cases hv : V np L 0 0 ⟨0, 0, []⟩ with
    | error x => rw [hv] at h; cases h
    | ok q =>
      obtain ⟨k', v⟩ := q
      rw [hv] at h
      simp only at h
      split at h
      · cases h
      · split at h
        · cases h
        · injection h with h
          injection h with h1 h2
          injection h2 with h2 h3
          subst h1 h2 h3
          obtain ⟨-, -, -, -, t, ht, hl, hm⟩ := V_bound hv (by omega) (by simp) (by simp)
          simp at ht
          rw [ht]
          exact ⟨hm, by omega⟩
theorem checkM_ne {np x : Int} {L : List VOp} (h : checkM np L = .error x) : x ≠ 0 := by
  unfold checkM at h
  split at h
  · cases h; decide
  · cases hv : V np L 0 0 ⟨0, 0, []⟩ with
    | error y => rw [hv] at h; cases h; exact V_err_ne hv
    | ok q =>
      rw [hv] at h
      simp only at h
      split at h
      · cases h; decide
      · split at h
        · cases h; decide
        · cases h

theorem IsInts.of_row {w : World} {B : Nat} {v : Value} {r : List Int} (h : w.ownsRow B 3 1 v r.length (r.map (Value.int .i64))) (hw : ∀ x ∈ r, wfI x) (hl : r.length ≤ 1000000) : IsInts w w.heap.size v r := by
  rcases h.2 with ⟨h1, h2⟩ | ⟨g, cap, cur, rfl, hb, hgg, hnc, hcm, hcs, ht⟩
  · refine ⟨none, 0, by rw [h2]; exact h1, by omega, fun i x hi => ?_⟩
    have := (List.getElem?_eq_some_iff.1 hi).1
    omega
  · refine ⟨_, cap, rfl, by omega, fun i x hi => ⟨hw x (List.mem_of_getElem? hi), g, 0, lt_of_heap hgg, rfl, ?_⟩⟩
    have hil := (List.getElem?_eq_some_iff.1 hi).1
    have := h.cellAt i (by simpa using hil)
    have hadd : (⟨g, 0, none⟩ : Addr).add i = ⟨g, 0 + i, none⟩ := by unfold Addr.add; split <;> simp_all
    rw [Nat.zero_add]
    rw [this]
    simp [hi]

theorem isProg_of {w : World} {lo : Nat} {v : Value} {l : List Op3} (h : IsOps w lo v l) (hc : CapOk v) : IsProg w lo v l := by
  obtain ⟨A, cap, e, hl, h⟩ := h
  obtain ⟨A', n, cap', e', h1, h2⟩ := hc
  rw [e] at e'
  injection e' with e1 e2 e3
  subst e1 e2 e3
  exact ⟨A, cap, e, h1, h2, h⟩

section
variable {np : Int} {lo : Nat} {L : List VOp} {p : Value} {w : World} {R : Ending → World → Prop}
theorem Check_error {x : Int} (hlo0 : 0 < lo) (hc : checkM np L = .error x) (hp : IsProg w lo p L) (hlo : lo ≤ w.heap.size) (hk : KindsOk w)
    (hE : ∀ w', Nw w w' → R (.returned (.tuple #[.agg #[.int .i64 0, .int .i64 0, .slice none 0 0], .int .i64 x])) w') : Calls Tryd.prog 7 #[p, .int .i64 np] w R :=
  Check_any np lo hlo0 L p w R hp hlo hk (fun w' y he hn => by rw [hc] at he; cases he; exact hE w' hn) (fun w' k d r v he => by rw [hc] at he; cases he)
theorem Check_ok {k : Int} {d : Nat} {r : List Int} (hlo0 : 0 < lo) (hc : checkM np L = .ok (k, d, r)) (hp : IsProg w lo p L) (hlo : lo ≤ w.heap.size) (hk : KindsOk w)
    (hK : ∀ w' A c, Nw w w' → w'.ownsRow w.heap.size 3 1 (.slice A (sorted r).length c) (sorted r).length ((sorted r).map (Value.int .i64)) → R (.returned (.tuple #[.agg #[.int .i64 k, .int .i64 d, .slice A (sorted r).length c], .int .i64 0])) w') :
    Calls Tryd.prog 7 #[p, .int .i64 np] w R :=
  Check_any np lo hlo0 L p w R hp hlo hk (fun w' y he hn => by rw [hc] at he; cases he) (fun w' k' d' r' v he hn ho => by
    rw [hc] at he
    injection he with he
    injection he with h1 h2
    injection h2 with h2 h3
    subst h1 h2 h3
    obtain ⟨A, c, rfl⟩ := row_form ho
    exact hK w' A c hn ho)
end

theorem ch_store3 {a w : World} {n g : Nat} {u v x : Value} (h : Ch (fun j => n ≤ j) a w) (hg : n ≤ g) : Ch (fun j => n ≤ j) a (((w.setCell ⟨g, 0, none⟩ u).setCell ⟨g, 1, none⟩ v).setCell ⟨g, 2, none⟩ x) :=
  ((h.setb (fun _ => hg) u).setb (fun _ => hg) v).setb (fun _ => hg) x
theorem Ch.nw {a w : World} (h : Ch (fun j => a.heap.size ≤ j) a w) : Nw a w := h.mono (fun n hn e => by omega)
theorem cell_store3 {w : World} {p : Addr} {y : Value} {g : Nat} (u v x : Value) (h : w.cell? p = some y) (hg : p.block ≠ g) : (((w.setCell ⟨g, 0, none⟩ u).setCell ⟨g, 1, none⟩ v).setCell ⟨g, 2, none⟩ x).cell? p = some y :=
  cell_setCell_ne _ (cell_setCell_ne _ (cell_setCell_ne _ h hg) hg) hg

/-- The four programs in the array at block g; the first one is made for np points. -/
def AllSafe (w : World) (g np : Nat) : Prop := ∀ j, j < 4 → ∃ v l, w.cell? ⟨g, j, none⟩ = some v ∧ IsOps w w.heap.size v l ∧ CapOk v ∧ (j = 0 → ∃ m, m ≤ 3 ∧ IsMade np m l)
theorem AllSafe.kept {w w' : World} {g np : Nat} (h : AllSafe w g np) (hc : Nw w w') : AllSafe w' g np := fun j hj => by
  obtain ⟨v, l, h1, h2, h3⟩ := h j hj
  exact ⟨v, l, hc.cell h1 id, (h2.kept hc nof).hi hc.size, h3⟩

set_option maxRecDepth 100000 in
set_option maxHeartbeats 24000000 in
theorem Safe_any (lo : Nat) (v : Value) (c : CaseD) (vr : Value) (raw : List Op3) (size : Int) (w : World) (R : Ending → World → Prop) (hlo : lo ≤ w.heap.size) (hc : IsCase w lo v c) (hr : IsOpsR w lo vr raw)
    (hz : -9223372036854775808 ≤ size ∧ size ≤ 9223372036854775807) (hk : KindsOk w)
    (hR : ∀ w', Nw w w' → R (.returned (.bool true)) w') : Calls Tryd.prog 3 #[v, vr, .int .i64 size] w R := by
  have HR := Lib.hid hR
  have HC := Lib.hid hc
  have HRAW := Lib.hid hr
  have HKD := Lib.hid hk
  have hpos : 0 < w.heap.size := by obtain ⟨s, h, -⟩ := hk 1 (by omega) (by omega); exact World.block_lt_of_cell? w _ h
  clear hR hz hr hk
  obtain ⟨vo, vp, rfl, -⟩ := hc
  go_enter Tryd.func3, Tryd.ntmps3
  go_wp2_with (go_at_call 4; fail)
  refine sanity_any _ _ ?_
  intro w1 hn
  obtain ⟨p0, p1, p2, p3, p4⟩ := case_alloc (lo := lo) hn
  have N1 := Lib.hid (show Nw w w1 from ((Ch.refl (fun _ => False) w).alloc _).trans hn)
  clear hn
  go_wp2_with (go_at_call 4; fail)
  refine made_any lo _ c _ _ (by have := N1.out.size; omega) (HC.out.kept N1.out nof) ?_
  intro w2 vo2 vp2 p m hm hmade hout hown hn
  have p0 := hn.cell p0 id
  have p1 := hn.cell p1 id
  have p2 := hn.cell p2 id
  have p3 := hn.cell p3 id
  have p4 := hn.cell p4 id
  have HO := Lib.hid hout
  have N2 := Lib.hid (N1.out.trans hn)
  clear hmade hout hown hn
  go_wp2_with (go_at_call 4; fail)
  refine programs_any lo _ c _ raw _ _ (by have := N2.out.size; omega) (HC.out.kept N2.out nof) (HRAW.out.kept N2.out nof) ?_
  intro w3 v0 v1 v2 v3 l0 l1 l2 l3 m' hm' hmade hlen h0 h1 h2 h3 hcaps hn
  have N3 := Lib.hid (N2.out.trans hn)
  have HO3 := Lib.hid ((HO.out.kept hn nof).hi hn.size)
  have HMD := Lib.hid hmade
  generalize outC c = o at HO3 HMD
  obtain ⟨np, hnp⟩ : ∃ np : Nat, np = o.flatten.length := ⟨_, rfl⟩
  have HMD := Lib.hid (show IsMade np m' l0 by rw [hnp]; exact HMD.out)
  have HNP := Lib.hid hnp
  have hcount : ∀ (lo : Nat) (w : World) (R : Ending → World → Prop), IsOut w lo vo2 o → lo ≤ w.heap.size → (∀ w', Nw w w' → R (.returned (.int .i64 np)) w') → Calls Tryd.prog 8 #[vo2] w R := fun lo w R h1 h2 h3 => oCount_any lo vo2 o w R h1 h2 (by rw [← HNP.out]; exact h3)
  have HCT := Lib.hid hcount
  have hnp4 : np ≤ 4096 := by
    have h1 := flat_le (o := o) (fun c hc => by obtain ⟨_, _, _, _, h⟩ := HO3.out; obtain ⟨j, hj⟩ := List.mem_iff_getElem?.1 hc; exact (h j c hj).1)
    have hl : o.length ≤ 64 := by obtain ⟨_, _, _, h, _⟩ := HO3.out; exact h
    have := Nat.mul_le_mul_left 64 hl
    omega
  clear hnp hcount
  obtain ⟨A0, c0, e0, -⟩ := id h0
  obtain ⟨A1, c1, e1, -⟩ := id h1
  obtain ⟨A2, c2, e2, -⟩ := id h2
  obtain ⟨A3, c3, e3, -⟩ := id h3
  subst e0 e1 e2 e3
  have H0 := Lib.hid h0
  have H1 := Lib.hid h1
  have H2 := Lib.hid h2
  have H3 := Lib.hid h3
  have HCP := Lib.hid hcaps
  clear hcaps p0 p1 p2 p3 p4 hmade hlen h0 h1 h2 h3 hn HO
  go_wp2
  go_loopw [11] (fun s11 wr => ∃ k : Nat, s11 = .int .i64 k ∧ k ≤ 4 ∧ AllSafe wr w3.heap.size np ∧ IsOut wr wr.heap.size vo2 o ∧ Nw w wr) (fun s11 _ => 4 - (intOf s11).toNat)
  case atStart =>
    have C : Nw w3 (w3.alloc (.cells #[.slice A0 l0.length c0, .slice A1 l1.length c1, .slice A2 l2.length c2, .slice A3 l3.length c3] 32)) := (Ch.refl (fun _ => False) w3).alloc _
    have B : (w3.alloc (.cells #[.slice A0 l0.length c0, .slice A1 l1.length c1, .slice A2 l2.length c2, .slice A3 l3.length c3] 32)).heap[w3.heap.size]? = some (.cells #[.slice A0 l0.length c0, .slice A1 l1.length c1, .slice A2 l2.length c2, .slice A3 l3.length c3] 32 (0, 0)) := heap_alloc_eq _ rfl
    have sz := C.size
    refine ⟨0, rfl, by omega, ?_, (HO3.out.kept C nof).hi sz, N3.out.trans C⟩
    intro j hj
    match j, hj with
    | 0, _ => exact ⟨_, l0, by rw [cell_of B]; rfl, (H0.out.kept C nof).hi sz, HCP.out.1, fun _ => ⟨m', hm', HMD.out⟩⟩
    | 1, _ => exact ⟨_, l1, by rw [cell_of B]; rfl, (H1.out.kept C nof).hi sz, HCP.out.2.1, fun h => by cases h⟩
    | 2, _ => exact ⟨_, l2, by rw [cell_of B]; rfl, (H2.out.kept C nof).hi sz, HCP.out.2.2.1, fun h => by cases h⟩
    | 3, _ => exact ⟨_, l3, by rw [cell_of B]; rfl, (H3.out.kept C nof).hi sz, HCP.out.2.2.2, fun h => by cases h⟩
  case round =>
    obtain ⟨k, rfl, hk, hall, hout, hnw⟩ := hrel
    have HALL := Lib.hid hall
    have HOR := Lib.hid hout
    have HNW := Lib.hid hnw
    clear hall hout hnw
    have k0 : (0 : Int) ≤ (k : Int) := by omega
    by_cases hlt : k < 4
    · have k1 : (k : Int) < 4 := by omega
      obtain ⟨vk, l, hcell, hops, hcap, hmd⟩ := HALL.out k hlt
      have HPR := Lib.hid (isProg_of hops hcap)
      have HOPS := Lib.hid hops
      have HKR := Lib.hid (HKD.out.kept HNW.out id)
      have hposr : 0 < wr.heap.size := by have := HNW.out.size; omega
      have hg3 : w3.heap.size < wr.heap.size := World.block_lt_of_cell? wr _ hcell
      have HHMD := Lib.hid hmd
      clear hops hcap hmd
      cases hck : checkM np l with
      | error x =>
        have hx := checkM_ne hck
        have tx : (x != 0) = true := by simp [hx]
        have hk0 : k ≠ 0 := by
          rintro rfl
          obtain ⟨m'', hm'', hmd⟩ := HHMD.out rfl
          obtain ⟨a, b, d, e⟩ := made_check hmd hm''
          rw [hck] at e
          cases e
        have tk : ((k : Int) == 0) = false := by simp; omega
        have HCK := Lib.hid hck
        clear hck hx hk0
        go_wp2_with fail
        go_cut [12, 13] (fun s12 s13 wx => ∃ g : Nat, s12 = .pointer (some ⟨g, 0, none⟩) ∧ s13 = .int .i64 x ∧ Nw wr wx)
        case first => as_aux_lemma =>
          go_region_held3 (fun w' => w'.cell? ⟨w3.heap.size, k, none⟩ = some vk) (first | (exact hcell) | (exact q1) | (exact q2) | (exact cell_alloc_old _ hcell) | (exact cell_alloc_old _ q1) | (exact cell_alloc_old _ q2) | (refine cell_store3 _ _ _ q2 ?_; show w3.heap.size ≠ _; omega) | (refine cell_store3 _ _ _ (cell_alloc_old _ q2) ?_; show w3.heap.size ≠ _; omega)) (first | (go_at_call 8; refine HCT.out wr.heap.size _ _ (by first | exact HOR.out | exact HOR.out.kept (((Ch.refl (fun _ => False) wr).drew).alloc _) nof) (by first | exact Nat.le_refl _ | (simp)) ?_; intro wA hA'; (have hA : Nw wr wA := by first | exact hA' | exact Ch.undrew hA' | exact (((Ch.refl (fun _ => False) wr).drew).alloc _).trans hA'); (have HP5 := Lib.hid (show IsProg wA wr.heap.size vk l from HPR.out.kept hA nof)); (have HK5 := Lib.hid (show KindsOk wA from HKR.out.kept hA id)); (have sA : wr.heap.size ≤ wA.heap.size := hA.size); (have q1 := hA.cell (a := ⟨w3.heap.size, k, none⟩) (by exact hcell) id); (first | (have fA : wA.heap[wr.heap.size]? = some (.cells #[.int .i64 0, .int .i64 0, .slice none 0 0] 35 (0, 0)) := hA'.heap (heap_alloc_eq _ rfl) id) | skip)) | (go_at_call 7; refine Check_error hposr HCK.out (by first | exact HP5.out | exact HP5.out.kept ((Ch.refl (fun _ => False) wA).alloc _) nof) (by first | exact sA | (simp only [alloc_size]; omega)) (by first | exact HK5.out | exact HK5.out.kept ((Ch.refl (fun _ => False) wA).alloc _) id) ?_; intro wB hB'; (have hB : Nw wA wB := by first | exact hB' | exact ((Ch.refl (fun _ => False) wA).alloc _).trans hB'); (have q2 := hB.cell q1 id); (have sB : wA.heap.size ≤ wB.heap.size := hB.size); (first | (have fB : wB.heap[wr.heap.size]? = some (.cells #[.int .i64 0, .int .i64 0, .slice none 0 0] 35 (0, 0)) := hB.heap fA id; have b0 : wB.cell? ⟨wr.heap.size, 0, none⟩ = some (.int .i64 0) := (by rw [cell_of fB]; rfl); have b1 : wB.cell? ⟨wr.heap.size, 1, none⟩ = some (.int .i64 0) := (by rw [cell_of fB]; rfl); have b2 : wB.cell? ⟨wr.heap.size, 2, none⟩ = some (.slice none 0 0) := (by rw [cell_of fB]; rfl); have d0 : wB.frozen? ⟨wr.heap.size, 0, none⟩ = false := frozen_of fB; have d1 : wB.frozen? ⟨wr.heap.size, 1, none⟩ = false := frozen_of fB; have d2 : wB.frozen? ⟨wr.heap.size, 2, none⟩ = false := frozen_of fB) | (have fB : wB.heap[wA.heap.size]? = some (.cells #[.int .i64 0, .int .i64 0, .slice none 0 0] 35 (0, 0)) := hB'.heap (heap_alloc_eq _ rfl) id; have b0 : wB.cell? ⟨wA.heap.size, 0, none⟩ = some (.int .i64 0) := (by rw [cell_of fB]; rfl); have b1 : wB.cell? ⟨wA.heap.size, 1, none⟩ = some (.int .i64 0) := (by rw [cell_of fB]; rfl); have b2 : wB.cell? ⟨wA.heap.size, 2, none⟩ = some (.slice none 0 0) := (by rw [cell_of fB]; rfl); have d0 : wB.frozen? ⟨wA.heap.size, 0, none⟩ = false := frozen_of fB; have d1 : wB.frozen? ⟨wA.heap.size, 1, none⟩ = false := frozen_of fB; have d2 : wB.frozen? ⟨wA.heap.size, 2, none⟩ = false := frozen_of fB) | skip)))
          all_goals
            go_wp2_with fail
            go_meet
            exact ⟨_, rfl, rfl, by
              have c0 : Ch (fun j => wr.heap.size ≤ j) wr wB := (hA.trans hB).mono (fun _ _ e => e.elim)
              first
              | exact Ch.nw (ch_store3 c0 (Nat.le_refl _))
              | exact Ch.nw (ch_store3 c0 sA)
              | exact Ch.nw (c0.alloc _)
              | exact Ch.nw (ch_store3 (c0.alloc _) (by omega))⟩
        case rest =>
          obtain ⟨g, rfl, rfl, hn⟩ := hcut
          have HN := Lib.hid hn
          clear hn
          go_wp2
          refine ⟨⟨k + 1, rfl, by omega, HALL.out.kept HN.out, (HOR.out.kept HN.out nof).hi HN.out.size, HNW.out.trans HN.out⟩, ?_⟩
          simp [intOf]; omega
      | ok q =>
        obtain ⟨kk, dd, rr⟩ := q
        obtain ⟨hrr, hrl⟩ := checkM_reach hck
        obtain ⟨o', st, hrun, hst, hstill⟩ := safe_plain (o := o) size (by rw [← HNP.out]; exact hck)
        have HRUN := Lib.hid hrun
        have HSTL := Lib.hid (hstill (sorted rr) (fun x hx => sorted_mem hx))
        have HWF := Lib.hid (wf_sorted hrr hnp4)
        have HLEN := Lib.hid (show (sorted rr).length ≤ 1000000 from by have := Lib.compact_length_le (rr.mergeSort fun x y => decide (x ≤ y)); rw [List.length_mergeSort] at this; unfold sorted; omega)
        have tgt : decide (kk < st) = false := by simp; omega
        have HCK := Lib.hid hck
        clear hck hrr hrun hstill hrl
        go_wp2_with fail
        go_cut [12, 13] (fun s12 s13 wx => ∃ (g : Nat) (fA : Option Addr) (fc : Nat), s12 = .pointer (some ⟨g, 0, none⟩) ∧ s13 = .int .i64 0 ∧ wx.heap[g]? = some (.cells #[.int .i64 kk, .int .i64 dd, .slice fA (sorted rr).length fc] 35 (0, 0)) ∧ IsInts wx wx.heap.size (.slice fA (sorted rr).length fc) (sorted rr) ∧ Nw wr wx)
        case first => as_aux_lemma =>
          go_region_held3 (fun w' => w'.cell? ⟨w3.heap.size, k, none⟩ = some vk) (first | (exact hcell) | (exact q1) | (exact q2) | (exact cell_alloc_old _ hcell) | (exact cell_alloc_old _ q1) | (exact cell_alloc_old _ q2) | (refine cell_store3 _ _ _ q2 ?_; show w3.heap.size ≠ _; omega) | (refine cell_store3 _ _ _ (cell_alloc_old _ q2) ?_; show w3.heap.size ≠ _; omega)) (first | (go_at_call 8; refine HCT.out wr.heap.size _ _ (by first | exact HOR.out | exact HOR.out.kept (((Ch.refl (fun _ => False) wr).drew).alloc _) nof) (by first | exact Nat.le_refl _ | (simp)) ?_; intro wA hA'; (have hA : Nw wr wA := by first | exact hA' | exact Ch.undrew hA' | exact (((Ch.refl (fun _ => False) wr).drew).alloc _).trans hA'); (have HP5 := Lib.hid (show IsProg wA wr.heap.size vk l from HPR.out.kept hA nof)); (have HK5 := Lib.hid (show KindsOk wA from HKR.out.kept hA id)); (have sA : wr.heap.size ≤ wA.heap.size := hA.size); (have q1 := hA.cell (a := ⟨w3.heap.size, k, none⟩) (by exact hcell) id); (first | (have fA : wA.heap[wr.heap.size]? = some (.cells #[.int .i64 0, .int .i64 0, .slice none 0 0] 35 (0, 0)) := hA'.heap (heap_alloc_eq _ rfl) id) | skip)) | (go_at_call 7; refine Check_ok hposr HCK.out (by first | exact HP5.out | exact HP5.out.kept ((Ch.refl (fun _ => False) wA).alloc _) nof) (by first | exact sA | (simp only [alloc_size]; omega)) (by first | exact HK5.out | exact HK5.out.kept ((Ch.refl (fun _ => False) wA).alloc _) id) ?_; intro wB fA2 fc2 hB' hown; (have hB : Nw wA wB := by first | exact hB' | exact ((Ch.refl (fun _ => False) wA).alloc _).trans hB'); (have q2 := hB.cell q1 id); (have sB : wA.heap.size ≤ wB.heap.size := hB.size); (first | (have fB : wB.heap[wr.heap.size]? = some (.cells #[.int .i64 0, .int .i64 0, .slice none 0 0] 35 (0, 0)) := hB.heap fA id; have b0 : wB.cell? ⟨wr.heap.size, 0, none⟩ = some (.int .i64 0) := (by rw [cell_of fB]; rfl); have b1 : wB.cell? ⟨wr.heap.size, 1, none⟩ = some (.int .i64 0) := (by rw [cell_of fB]; rfl); have b2 : wB.cell? ⟨wr.heap.size, 2, none⟩ = some (.slice none 0 0) := (by rw [cell_of fB]; rfl); have d0 : wB.frozen? ⟨wr.heap.size, 0, none⟩ = false := frozen_of fB; have d1 : wB.frozen? ⟨wr.heap.size, 1, none⟩ = false := frozen_of fB; have d2 : wB.frozen? ⟨wr.heap.size, 2, none⟩ = false := frozen_of fB) | (have fB : wB.heap[wA.heap.size]? = some (.cells #[.int .i64 0, .int .i64 0, .slice none 0 0] 35 (0, 0)) := hB'.heap (heap_alloc_eq _ rfl) id; have b0 : wB.cell? ⟨wA.heap.size, 0, none⟩ = some (.int .i64 0) := (by rw [cell_of fB]; rfl); have b1 : wB.cell? ⟨wA.heap.size, 1, none⟩ = some (.int .i64 0) := (by rw [cell_of fB]; rfl); have b2 : wB.cell? ⟨wA.heap.size, 2, none⟩ = some (.slice none 0 0) := (by rw [cell_of fB]; rfl); have d0 : wB.frozen? ⟨wA.heap.size, 0, none⟩ = false := frozen_of fB; have d1 : wB.frozen? ⟨wA.heap.size, 1, none⟩ = false := frozen_of fB; have d2 : wB.frozen? ⟨wA.heap.size, 2, none⟩ = false := frozen_of fB) | skip)))
          all_goals
            go_wp2_with fail
            go_meet
            refine ⟨_, fA2, fc2, rfl, rfl, ?_, ?_, ?_⟩
            · first | exact heap_setCell_eq _ (heap_setCell_eq _ (heap_setCell_eq _ fB)) | exact heap_alloc_eq _ rfl | exact heap_setCell_eq _ (heap_setCell_eq _ (heap_setCell_eq _ (heap_alloc_eq _ rfl)))
            · refine IsInts.of_row (B := wA.heap.size) ?_ HWF.out HLEN.out
              have hown' := row_lo hown (show wA.heap.size ≤ _ by first | exact Nat.le_refl _ | (simp only [alloc_size]; omega))
              first
              | (obtain ⟨hlt, -⟩ := Array.getElem?_eq_some_iff.1 fA; exact vrow_ch (F := fun j => j = wr.heap.size) hown' ((((Ch.refl (fun j => j = wr.heap.size) wB).setb (fun _ => rfl) _).setb (fun _ => rfl) _).setb (fun _ => rfl) _) (fun j hj e => by have h1 : wA.heap.size ≤ j := (hown'.lt j hj).1; have e' : j = wr.heap.size := e; omega))
              | exact vrow_ch hown' ((((Ch.refl (· = wr.heap.size) wB).setb (fun _ => rfl) _).setb (fun _ => rfl) _).setb (fun _ => rfl) _) (fun j hj e => by have := (hown.lt j hj).1; simp only [alloc_size] at this; omega)
              | exact vrow_ch hown' ((((Ch.refl (· = wr.heap.size) wB).setb (fun _ => rfl) _).setb (fun _ => rfl) _).setb (fun _ => rfl) _) (fun j hj e => by have := (hown.lt j hj).1; omega)
              | exact vrow_ch hown' ((((Ch.refl (· = wA.heap.size) wB).setb (fun _ => rfl) _).setb (fun _ => rfl) _).setb (fun _ => rfl) _) (fun j hj e => by have := (hown.lt j hj).1; simp only [alloc_size] at this; omega)
              | exact vrow_ch hown' ((Ch.refl (fun _ => False) wB).alloc _) (fun j hj e => e)
              | exact vrow_ch hown' (((((Ch.refl (· = wB.heap.size) wB).alloc _).setb (fun _ => rfl) _).setb (fun _ => rfl) _).setb (fun _ => rfl) _) (fun j hj e => by have := (hown.lt j hj).2; omega)
            · have c0 : Ch (fun j => wr.heap.size ≤ j) wr wB := (hA.trans hB).mono (fun _ _ e => e.elim)
              first
              | exact Ch.nw (ch_store3 c0 (Nat.le_refl _))
              | exact Ch.nw (ch_store3 c0 sA)
              | exact Ch.nw (c0.alloc _)
              | exact Ch.nw (ch_store3 (c0.alloc _) (by omega))
        case rest => as_aux_lemma =>
          obtain ⟨g, fA, fc, rfl, rfl, hb, hints, hn⟩ := hcut
          obtain ⟨W5, rfl⟩ : ∃ W : World, W = wc := ⟨_, rfl⟩
          have f0 : W5.cell? ⟨g, 0, none⟩ = some (.int .i64 kk) := by rw [cell_of hb]; rfl
          have f2 : W5.cell? ⟨g, 2, none⟩ = some (.slice fA (sorted rr).length fc) := by rw [cell_of hb]; rfl
          have hcell5 := hn.cell hcell id
          have HN5 := Lib.hid hn
          have HIN := Lib.hid hints
          clear hb hints hn hcell
          obtain ⟨bk, hbk⟩ : ∃ b : Bool, ((k : Int) == 0) = b := ⟨_, rfl⟩
          cases bk
          all_goals
            go_wp2_with fail
            refine Run_any wr.heap.size _ _ l o size _ _ (HOPS.out.kept HN5.out nof) (HOR.out.kept HN5.out nof) HN5.out.size (by intro w' x he; rw [HRUN.out] at he; cases he) ?_
            intro w6 v6 o6 st6 he hout hn6
            rw [HRUN.out] at he
            injection he with he
            injection he with he1 he2
            subst he1 he2
            have f0 := hn6.cell f0 id
            have f2 := hn6.cell f2 id
            have HOUT := Lib.hid hout
            have N6 := Lib.hid (HN5.out.trans hn6)
            have HIN6 := Lib.hid ((HIN.out.kept hn6 nof).hi hn6.size)
            have HOR6 := Lib.hid ((HOR.out.kept N6.out nof).hi N6.out.size)
            clear hout hn6
            go_wp2_with (go_at_call 10; refine still_any w6.heap.size _ _ _ o o' (sorted rr) _ _ HOR6.out HOUT.out HIN6.out HSTL.out ?_; intro d)
            refine ⟨⟨k + 1, rfl, by omega, HALL.out.kept (N6.out.drewN _), (HOR6.out.kept ((Ch.refl (fun _ => False) _).drewN _) nof), HNW.out.trans (N6.out.drewN _)⟩, ?_⟩
            simp [intOf]; omega
    · have k1 : ¬ (k : Int) < 4 := by omega
      go_wp2
      exact HR.out _ HNW.out
end Go.Proofs.YtlgcijafjcfnhaaDoor
