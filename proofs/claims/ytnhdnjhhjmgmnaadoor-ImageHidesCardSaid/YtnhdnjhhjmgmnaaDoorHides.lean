/-
  The contract of the law ImageHides: it returns true.
-/
import Derived.Test.YtnhdnjhhjmgmnaaDoorSan22
import Derived.Test.YtnhdnjhhjmgmnaaDoorMd22
import Derived.Test.YtnhdnjhhjmgmnaaDoorIh
import Derived.Test.YtnhdnjhhjmgmnaaDoorImK
namespace Go.Proofs.YtnhdnjhhjmgmnaaDoor
open Go.RowKit
set_option linter.unusedVariables false
set_option linter.unusedSimpArgs false
set_option maxRecDepth 100000

theorem isBools_far {w w' : World} {lo ob : Nat} {v : Value} {l : List Bool} {c : Array Value} {T : TypeId} {f : Nat × Nat} (h : IsBools w lo v l) (hb : w.heap[ob]? = some (.cells c T f)) (hc : ∀ (i : Nat) (x : Bool), c[i]? ≠ some (.bool x)) (hch : Ch (· = ob) w w') : IsBools w' lo v l := by
  obtain ⟨A, cap, e, hl, h⟩ := h
  refine ⟨A, cap, e, hl, fun i x hi => ?_⟩
  obtain ⟨pk, po, hk, ea, h0⟩ := h i x hi
  refine ⟨pk, po, hk, ea, hch.cell h0 ?_⟩
  rintro rfl
  rw [cell_of hb] at h0
  exact hc _ _ h0
theorem isBm_far {w w' : World} {lo ob : Nat} {v : Value} {b : Bm} {c : Array Value} {T : TypeId} {f : Nat × Nat} (h : IsBm w lo v b) (hb : w.heap[ob]? = some (.cells c T f)) (hc : ∀ (i : Nat) (x : Bool), c[i]? ≠ some (.bool x)) (hch : Ch (· = ob) w w') : IsBm w' lo v b := by
  obtain ⟨s, e, h, hw⟩ := h
  exact ⟨s, e, isBools_far h hb hc hch, hw⟩
theorem isIm_far {w w' : World} {lo ob : Nat} {v : Value} {x : Im} {c : Array Value} {T : TypeId} {f : Nat × Nat} (h : IsIm w lo v x) (hb : w.heap[ob]? = some (.cells c T f)) (hc : c.size < x.2.2.length) (hch : Ch (· = ob) w w') : IsIm w' lo v x := by
  obtain ⟨s, e, h, hw⟩ := h
  exact ⟨s, e, isInts_far h hb hc hch, hw⟩
theorem intC_not {l : List Int} (i : Nat) (x : Bool) : (intC l)[i]? ≠ some (.bool x) := by simp [intC]
theorem intC_size (l : List Int) : (intC l).size = l.length := by simp [intC]
theorem hideM_form {a b : Int} {px : List Int} (f t : Int) (h : imOk (a, b, px)) : ∃ py, hideM (a, b, px) f t = (a, b, py) ∧ py.length = px.length ∧ imOk (a, b, py) ∧ ∀ (k : Nat) (p : Int), px[k]? = some p → py[k]? = some (hideP a f t k p) :=
  ⟨_, hideM_of h, hideL_len _ _ _ _, hideL_ok h, fun k p hk => hideL_get hk⟩
theorem MaxOk.lt {w : World} (h : MaxOk w) : 1 < w.heap.size := by obtain ⟨m, h⟩ := h; exact World.block_lt_of_cell? w ⟨1, _, none⟩ h
set_option maxHeartbeats 8000000 in
theorem hides_any (lo : Nat) (va vb : Value) (la lb : List Int) (q0 q1 q2 q3 s0 s1 : Int) (w : World) (R : Ending → World → Prop) (hlo : lo ≤ w.heap.size) (hla : IsInts w lo va la) (hlb : IsInts w lo vb lb)
    (hq : ∀ x ∈ [q0, q1, q2, q3], wfI x) (hs0 : wfI s0) (hs1 : wfI s1) (hrn : RunesOk w) (hmx : MaxOk w)
    (hR : ∀ w', Nw w w' → R (.returned (.bool true)) w') : Calls Tryd.prog 5 #[.agg #[va, vb], .agg #[.int .i64 q0, .int .i64 q1, .int .i64 q2, .int .i64 q3], .agg #[.int .i64 s0, .int .i64 s1]] w R := by
  have HR := Lib.hid hR
  clear hR
  have HLA := Lib.hid (hla.hi hlo)
  have HLB := Lib.hid (hlb.hi hlo)
  obtain ⟨A0, c0, rfl, -⟩ := hla
  obtain ⟨A1, c1, rfl, -⟩ := hlb
  have HQ := Lib.hid hq
  have HS0 := Lib.hid hs0
  have HS1 := Lib.hid hs1
  clear hq hs0 hs1
  have NX := Lib.hid (Ch.refl (fun _ => False) w)
  have RN := Lib.hid hrn
  have MX := Lib.hid hmx
  have hr0 := hrn.lt
  have hm0 := hmx.lt
  clear hrn hmx
  go_enter Tryd.func5, Tryd.ntmps5
  go_wp2_with (go_at_call 7; fail)
  refine Calls_nm ?_
  intro W1 hW
  have n : Nw w W1 := by rw [hW]; exact (((Ch.refl _ _).alloc _).alloc _).alloc _
  replace NX := Lib.hid (NX.out.trans n)
  replace RN := Lib.hid (RN.out.kept n id)
  replace MX := Lib.hid (MX.out.kept n id)
  replace HLA := Lib.hid (HLA.out.kept n nof)
  replace HLB := Lib.hid (HLB.out.kept n nof)
  have HB0 := Lib.hid (show W1.heap[w.heap.size]? = some (.cells #[.slice A0 la.length c0, .slice A1 lb.length c1] 23 (0, 0)) from by rw [hW]; exact heap_alloc_old' _ (heap_alloc_old' _ (heap_alloc_eq _ rfl)))
  have HB1 := Lib.hid (show W1.heap[w.heap.size + 1]? = some (.cells (intC [q0, q1, q2, q3]) 26 (0, 0)) from by rw [hW]; exact heap_alloc_old' _ (heap_alloc_eq _ (by simp only [alloc_size])))
  have HB2 := Lib.hid (show W1.heap[w.heap.size + 2]? = some (.cells #[.int .i64 s0, .int .i64 s1] 35 (0, 0)) from by rw [hW]; exact heap_alloc_eq _ (by simp only [alloc_size]))
  clear hW n
  have SZ : w.heap.size + 2 < W1.heap.size := lt_of_heap HB2.out
  refine sanity_any _ _ RN.out MX.out ?_
  intro w2 n
  replace NX := Lib.hid (NX.out.trans n)
  replace RN := Lib.hid (RN.out.kept n id)
  replace MX := Lib.hid (MX.out.kept n id)
  replace HLA := Lib.hid (HLA.out.kept n nof)
  replace HLB := Lib.hid (HLB.out.kept n nof)
  replace HB0 := Lib.hid (n.heap HB0.out id)
  replace HB1 := Lib.hid (n.heap HB1.out id)
  replace HB2 := Lib.hid (n.heap HB2.out id)
  replace SZ := Nat.lt_of_lt_of_le SZ n.size
  have kHB00 : w2.cell? ⟨w.heap.size, 0, none⟩ = some (.slice A0 la.length c0) := by rw [cell_of HB0.out]; rfl
  have jHB00 : ∀ o, (w2.alloc o).cell? ⟨w.heap.size, 0, none⟩ = some (.slice A0 la.length c0) := fun o => cell_alloc_old o kHB00
  have kHB01 : w2.cell? ⟨w.heap.size, 1, none⟩ = some (.slice A1 lb.length c1) := by rw [cell_of HB0.out]; rfl
  have jHB01 : ∀ o, (w2.alloc o).cell? ⟨w.heap.size, 1, none⟩ = some (.slice A1 lb.length c1) := fun o => cell_alloc_old o kHB01
  go_wp2_with (go_at_call 7; fail)
  clear kHB00 jHB00 kHB01 jHB01
  refine Calls_nm ?_
  intro W3 hW
  have n : Nw w2 W3 := by rw [hW]; first | exact Ch.refl _ _ | exact (Ch.refl _ _).alloc _ | exact ((Ch.refl _ _).alloc _).alloc _
  replace NX := Lib.hid (NX.out.trans n)
  replace RN := Lib.hid (RN.out.kept n id)
  replace MX := Lib.hid (MX.out.kept n id)
  replace HLA := Lib.hid (HLA.out.kept n nof)
  replace HLB := Lib.hid (HLB.out.kept n nof)
  replace HB0 := Lib.hid (n.heap HB0.out id)
  replace HB1 := Lib.hid (n.heap HB1.out id)
  replace HB2 := Lib.hid (n.heap HB2.out id)
  replace SZ := Nat.lt_of_lt_of_le SZ n.size
  clear hW n
  refine rMade4_any w.heap.size _ la _ _ HLA.out (by omega) ?_
  intro w4 vb b hb hbE hb1 hb2 n hvb
  replace NX := Lib.hid (NX.out.trans n)
  replace RN := Lib.hid (RN.out.kept n id)
  replace MX := Lib.hid (MX.out.kept n id)
  replace HLA := Lib.hid (HLA.out.kept n nof)
  replace HLB := Lib.hid (HLB.out.kept n nof)
  replace HB0 := Lib.hid (n.heap HB0.out id)
  replace HB1 := Lib.hid (n.heap HB1.out id)
  replace HB2 := Lib.hid (n.heap HB2.out id)
  replace SZ := Nat.lt_of_lt_of_le SZ n.size
  obtain ⟨⟨e1, e2⟩, ⟨e3, e4⟩, -⟩ := bmE_ok hbE
  have HBE := Lib.hid hbE
  obtain ⟨A8, n8, rfl⟩ := hvb
  generalize hbw : b.1 = bw at *
  generalize hbh : b.2.1 = bh at *
  have HBW := Lib.hid hbw
  have HBH := Lib.hid hbh
  have HBM := Lib.hid hb
  clear hb hbw hbh hbE n
  have S8 := SZ
  have kHB00 : w4.cell? ⟨w.heap.size, 0, none⟩ = some (.slice A0 la.length c0) := by rw [cell_of HB0.out]; rfl
  have jHB00 : ∀ o, (w4.alloc o).cell? ⟨w.heap.size, 0, none⟩ = some (.slice A0 la.length c0) := fun o => cell_alloc_old o kHB00
  have kHB01 : w4.cell? ⟨w.heap.size, 1, none⟩ = some (.slice A1 lb.length c1) := by rw [cell_of HB0.out]; rfl
  have jHB01 : ∀ o, (w4.alloc o).cell? ⟨w.heap.size, 1, none⟩ = some (.slice A1 lb.length c1) := fun o => cell_alloc_old o kHB01
  go_wp2_with (go_at_call 7; fail)
  clear kHB00 jHB00 kHB01 jHB01
  refine Calls_nm ?_
  intro W5 hW
  have n : Nw w4 W5 := by rw [hW]; first | exact Ch.refl _ _ | exact (Ch.refl _ _).alloc _ | exact ((Ch.refl _ _).alloc _).alloc _
  replace NX := Lib.hid (NX.out.trans n)
  replace RN := Lib.hid (RN.out.kept n id)
  replace MX := Lib.hid (MX.out.kept n id)
  replace HLA := Lib.hid (HLA.out.kept n nof)
  replace HLB := Lib.hid (HLB.out.kept n nof)
  replace HB0 := Lib.hid (n.heap HB0.out id)
  replace HB1 := Lib.hid (n.heap HB1.out id)
  replace HB2 := Lib.hid (n.heap HB2.out id)
  replace SZ := Nat.lt_of_lt_of_le SZ n.size
  replace HBM := Lib.hid ((HBM.out.kept n nof).hi n.size)
  have HB8 := Lib.hid (show W5.heap[w4.heap.size]? = some (.cells #[.int .i64 bw, .int .i64 bh, .slice (some A8) n8 n8] 31 (0, 0)) from by rw [hW]; exact heap_alloc_eq _ rfl)
  clear hW n
  refine rMade22_any W5.heap.size _ b _ lb _ _ HBM.out HBE.out (HLB.out.hi (by omega)) (Nat.le_refl _) ?_
  intro w6 vx x hx hok hx1 hx2 n hvx
  replace NX := Lib.hid (NX.out.trans n)
  replace RN := Lib.hid (RN.out.kept n id)
  replace MX := Lib.hid (MX.out.kept n id)
  replace HLA := Lib.hid (HLA.out.kept n nof)
  replace HLB := Lib.hid (HLB.out.kept n nof)
  replace HB0 := Lib.hid (n.heap HB0.out id)
  replace HB1 := Lib.hid (n.heap HB1.out id)
  replace HB2 := Lib.hid (n.heap HB2.out id)
  replace SZ := Nat.lt_of_lt_of_le SZ n.size
  replace HBM := Lib.hid ((HBM.out.kept n nof).hi n.size)
  replace HB8 := Lib.hid (n.heap HB8.out id)
  obtain ⟨g9, n9, c9, rfl⟩ := hvx
  obtain ⟨xw, xh, px0⟩ := x
  simp only at hx1 hx2
  rw [HBW.out] at hx1
  rw [HBH.out] at hx2
  subst hx1 hx2
  have h9 : n9 = px0.length := by obtain ⟨A, cap, e, -⟩ := isIm_form hx; simp at e; omega
  subst h9
  have HIX := Lib.hid hx
  have HOK := Lib.hid hok
  have LX := imOk_len hok
  have LG := imOk_ge hok e1 e3
  clear hx hok n
  have S9 := SZ
  have S89 : w4.heap.size < w6.heap.size := lt_of_heap HB8.out
  go_wp2_with fail
  refine wp_named ?_
  intro W7 hW
  have n : Nw w6 W7 := by rw [hW]; first | exact Ch.refl _ _ | exact (Ch.refl _ _).alloc _ | exact ((Ch.refl _ _).alloc _).alloc _
  replace NX := Lib.hid (NX.out.trans n)
  replace RN := Lib.hid (RN.out.kept n id)
  replace MX := Lib.hid (MX.out.kept n id)
  replace HLA := Lib.hid (HLA.out.kept n nof)
  replace HLB := Lib.hid (HLB.out.kept n nof)
  replace HB0 := Lib.hid (n.heap HB0.out id)
  replace HB1 := Lib.hid (n.heap HB1.out id)
  replace HB2 := Lib.hid (n.heap HB2.out id)
  replace SZ := Nat.lt_of_lt_of_le SZ n.size
  replace HBM := Lib.hid ((HBM.out.kept n nof).hi n.size)
  replace HB8 := Lib.hid (n.heap HB8.out id)
  replace HIX := Lib.hid ((HIX.out.kept n nof).hi n.size)
  have HB9 := Lib.hid (show W7.heap[w6.heap.size]? = some (.cells #[.int .i64 (bw + 4), .int .i64 (bh + 4), .slice (some ⟨g9, 0, none⟩) px0.length c9] 25 (0, 0)) from by rw [hW]; exact heap_alloc_eq _ rfl)
  clear hW n
  go_loopw [10, 32] (fun _ s32 wr => ∃ (k : Nat) (qs : List Int), s32 = .int .i64 k ∧ k ≤ 4 ∧ Hid (qs.length = 4) ∧ Hid (∀ x ∈ qs, wfI x) ∧ Hid (wr.heap[w.heap.size + 1]? = some (.cells (intC qs) 26 (0, 0))) ∧ Hid (Ch (· = w.heap.size + 1) W7 wr)) (fun _ s32 _ => 4 - (intOf s32).toNat)
  case atStart => exact ⟨0, [q0, q1, q2, q3], rfl, by omega, Lib.hid rfl, HQ, HB1, Lib.hid (Ch.refl _ _)⟩
  case round =>
    obtain ⟨k, qs, rfl, hk, HL4, HQ, HB1', HC⟩ := hrel
    have k0 : (0 : Int) ≤ (k : Int) := by omega
    by_cases hk4 : k < 4
    · obtain ⟨y, hy⟩ : ∃ y, qs[k]? = some y := ⟨_, List.getElem?_eq_getElem (by have := HL4.out; omega)⟩
      have hwy := HQ.out y (List.mem_of_getElem? hy)
      have k1 : (k : Int) < 4 := by omega
      have kc : wr.cell? ⟨w.heap.size + 1, k, none⟩ = some (.int .i64 y) := by rw [cell_of HB1'.out]; exact intC_get hy
      have kf : wr.frozen? ⟨w.heap.size + 1, k, none⟩ = false := frozen_of HB1'.out
      clear hy
      go_wp2_with (go_at_call 12; refine Mod_any _ _ _ _ hwy (by omega) (by omega) ?_)
      refine ⟨⟨k + 1, qs.set k (y % 26 - 3), by go_num, by omega, Lib.hid (by rw [List.length_set]; exact HL4.out), Lib.hid ?_, Lib.hid ?_, Lib.hid (HC.out.setb (fun _ => rfl) _)⟩, ?_⟩
      · intro x hx
        rcases List.mem_or_eq_of_mem_set hx with hx | rfl
        · exact HQ.out x hx
        · unfold wfI; omega
      · rw [← intC_set]; exact heap_setCell_eq _ HB1'.out
      · simp [intOf]; omega
    · obtain rfl : k = 4 := by omega
      obtain ⟨t0, t1, t2, t3, rfl⟩ : ∃ a b c d, qs = [a, b, c, d] := by
        have h := HL4.out
        match qs, h with
        | [a, b, c, d], _ => exact ⟨a, b, c, d, rfl⟩
      replace NX := Lib.hid (NX.out.trans' HC.out (fun j hj e => by have e' : j = w.heap.size + 1 := e; omega))
      replace RN := Lib.hid (RN.out.kept HC.out (by show 0 ≠ w.heap.size + 1; omega))
      replace MX := Lib.hid (MX.out.kept HC.out (by show 1 ≠ w.heap.size + 1; omega))
      replace HLA := Lib.hid (HLA.out.kept HC.out (fun j hj e => by have e' : j = w.heap.size + 1 := e; omega))
      replace HLB := Lib.hid (HLB.out.kept HC.out (fun j hj e => by have e' : j = w.heap.size + 1 := e; omega))
      replace HB0 := Lib.hid (HC.out.heap HB0.out (by show w.heap.size ≠ w.heap.size + 1; omega))
      replace HB2 := Lib.hid (HC.out.heap HB2.out (by show w.heap.size + 2 ≠ w.heap.size + 1; omega))
      replace SZ := Nat.lt_of_lt_of_le SZ HC.out.size
      replace HBM := Lib.hid ((isBm_far HBM.out HB1.out intC_not HC.out).hi HC.out.size)
      replace HB8 := Lib.hid (HC.out.heap HB8.out (by show w4.heap.size ≠ w.heap.size + 1; omega))
      replace HIX := Lib.hid ((isIm_far HIX.out HB1.out (by simp only [intC_size, List.length]; omega) HC.out).hi HC.out.size)
      replace HB9 := Lib.hid (HC.out.heap HB9.out (by show w6.heap.size ≠ w.heap.size + 1; omega))
      replace HB1 := Lib.hid (HB1'.out)
      clear HB1' HC
      have kHB10 : wr.cell? ⟨w.heap.size + 1, 0, none⟩ = some (.int .i64 t0) := by rw [cell_of HB1.out]; rfl
      have jHB10 : ∀ o, (wr.alloc o).cell? ⟨w.heap.size + 1, 0, none⟩ = some (.int .i64 t0) := fun o => cell_alloc_old o kHB10
      have kHB11 : wr.cell? ⟨w.heap.size + 1, 1, none⟩ = some (.int .i64 t1) := by rw [cell_of HB1.out]; rfl
      have jHB11 : ∀ o, (wr.alloc o).cell? ⟨w.heap.size + 1, 1, none⟩ = some (.int .i64 t1) := fun o => cell_alloc_old o kHB11
      have kHB12 : wr.cell? ⟨w.heap.size + 1, 2, none⟩ = some (.int .i64 t2) := by rw [cell_of HB1.out]; rfl
      have jHB12 : ∀ o, (wr.alloc o).cell? ⟨w.heap.size + 1, 2, none⟩ = some (.int .i64 t2) := fun o => cell_alloc_old o kHB12
      have kHB13 : wr.cell? ⟨w.heap.size + 1, 3, none⟩ = some (.int .i64 t3) := by rw [cell_of HB1.out]; rfl
      have jHB13 : ∀ o, (wr.alloc o).cell? ⟨w.heap.size + 1, 3, none⟩ = some (.int .i64 t3) := fun o => cell_alloc_old o kHB13
      have kHB90 : wr.cell? ⟨w6.heap.size, 0, none⟩ = some (.int .i64 (bw + 4)) := by rw [cell_of HB9.out]; rfl
      have jHB90 : ∀ o, (wr.alloc o).cell? ⟨w6.heap.size, 0, none⟩ = some (.int .i64 (bw + 4)) := fun o => cell_alloc_old o kHB90
      have kHB91 : wr.cell? ⟨w6.heap.size, 1, none⟩ = some (.int .i64 (bh + 4)) := by rw [cell_of HB9.out]; rfl
      have jHB91 : ∀ o, (wr.alloc o).cell? ⟨w6.heap.size, 1, none⟩ = some (.int .i64 (bh + 4)) := fun o => cell_alloc_old o kHB91
      have kHB92 : wr.cell? ⟨w6.heap.size, 2, none⟩ = some (.slice (some ⟨g9, 0, none⟩) px0.length c9) := by rw [cell_of HB9.out]; rfl
      have jHB92 : ∀ o, (wr.alloc o).cell? ⟨w6.heap.size, 2, none⟩ = some (.slice (some ⟨g9, 0, none⟩) px0.length c9) := fun o => cell_alloc_old o kHB92
      go_wp2_with (go_at_call 7; fail)
      clear kHB10 jHB10 kHB11 jHB11 kHB12 jHB12 kHB13 jHB13 kHB90 jHB90 kHB91 jHB91 kHB92 jHB92
      have HT := Lib.hid HQ.out
      obtain ⟨w0, w1, w2, w3⟩ : wfI t0 ∧ wfI t1 ∧ wfI t2 ∧ wfI t3 := ⟨HQ.out _ (by simp), HQ.out _ (by simp), HQ.out _ (by simp), HQ.out _ (by simp)⟩
      have HT0 := Lib.hid w0
      have HT1 := Lib.hid w1
      have HT2 := Lib.hid w2
      have HT3 := Lib.hid w3
      clear w0 w1 w2 w3
      obtain ⟨pxY, heY, hlY, hokY, hgY⟩ := hideM_form t0 t1 HOK.out
      refine imHide_any wr.heap.size _ (bw + 4, bh + 4, px0) t0 t1 _ _ HIX.out (Nat.le_refl _) HT0.out HT1.out ?_
      rw [heY]
      intro w8 v hi n
      replace NX := Lib.hid (NX.out.trans n)
      replace RN := Lib.hid (RN.out.kept n id)
      replace MX := Lib.hid (MX.out.kept n id)
      replace HLA := Lib.hid (HLA.out.kept n nof)
      replace HLB := Lib.hid (HLB.out.kept n nof)
      replace HB0 := Lib.hid (n.heap HB0.out id)
      replace HB2 := Lib.hid (n.heap HB2.out id)
      replace SZ := Nat.lt_of_lt_of_le SZ n.size
      replace HBM := Lib.hid ((HBM.out.kept n nof).hi n.size)
      replace HB8 := Lib.hid (n.heap HB8.out id)
      replace HIX := Lib.hid ((HIX.out.kept n nof).hi n.size)
      replace HB9 := Lib.hid (n.heap HB9.out id)
      replace HB1 := Lib.hid (n.heap HB1.out id)
      obtain ⟨AY, cY, rfl, hI⟩ := isIm_formN (n := px0.length) hi rfl rfl (by simp only; omega)
      obtain ⟨gY, oY, rfl, -⟩ := isIm_cell hI (i := 0) (List.getElem?_eq_getElem (by simp only; omega))
      have HIY := Lib.hid hI
      have HOKY := Lib.hid hokY
      have HEY := Lib.hid heY
      have HGY := Lib.hid hgY
      have HLY := Lib.hid hlY
      clear hi hI n hokY heY hgY
      have kHB10 : w8.cell? ⟨w.heap.size + 1, 0, none⟩ = some (.int .i64 t0) := by rw [cell_of HB1.out]; rfl
      have jHB10 : ∀ o, (w8.alloc o).cell? ⟨w.heap.size + 1, 0, none⟩ = some (.int .i64 t0) := fun o => cell_alloc_old o kHB10
      have kHB11 : w8.cell? ⟨w.heap.size + 1, 1, none⟩ = some (.int .i64 t1) := by rw [cell_of HB1.out]; rfl
      have jHB11 : ∀ o, (w8.alloc o).cell? ⟨w.heap.size + 1, 1, none⟩ = some (.int .i64 t1) := fun o => cell_alloc_old o kHB11
      have kHB12 : w8.cell? ⟨w.heap.size + 1, 2, none⟩ = some (.int .i64 t2) := by rw [cell_of HB1.out]; rfl
      have jHB12 : ∀ o, (w8.alloc o).cell? ⟨w.heap.size + 1, 2, none⟩ = some (.int .i64 t2) := fun o => cell_alloc_old o kHB12
      have kHB13 : w8.cell? ⟨w.heap.size + 1, 3, none⟩ = some (.int .i64 t3) := by rw [cell_of HB1.out]; rfl
      have jHB13 : ∀ o, (w8.alloc o).cell? ⟨w.heap.size + 1, 3, none⟩ = some (.int .i64 t3) := fun o => cell_alloc_old o kHB13
      go_wp2_with (go_at_call 7; fail)
      clear kHB10 jHB10 kHB11 jHB11 kHB12 jHB12 kHB13 jHB13
      refine Calls_nm ?_
      intro W9 hW
      have n : Nw w8 W9 := by rw [hW]; first | exact Ch.refl _ _ | exact (Ch.refl _ _).alloc _ | exact ((Ch.refl _ _).alloc _).alloc _
      replace NX := Lib.hid (NX.out.trans n)
      replace RN := Lib.hid (RN.out.kept n id)
      replace MX := Lib.hid (MX.out.kept n id)
      replace HLA := Lib.hid (HLA.out.kept n nof)
      replace HLB := Lib.hid (HLB.out.kept n nof)
      replace HB0 := Lib.hid (n.heap HB0.out id)
      replace HB2 := Lib.hid (n.heap HB2.out id)
      replace SZ := Nat.lt_of_lt_of_le SZ n.size
      replace HBM := Lib.hid ((HBM.out.kept n nof).hi n.size)
      replace HB8 := Lib.hid (n.heap HB8.out id)
      replace HIX := Lib.hid ((HIX.out.kept n nof).hi n.size)
      replace HB9 := Lib.hid (n.heap HB9.out id)
      replace HB1 := Lib.hid (n.heap HB1.out id)
      replace HIY := Lib.hid ((HIY.out.kept n nof).hi n.size)
      have HBY := Lib.hid (show W9.heap[w8.heap.size]? = some (.cells #[.int .i64 (bw + 4), .int .i64 (bh + 4), .slice (some ⟨gY, oY, none⟩) px0.length cY] 25 (0, 0)) from by rw [hW]; exact heap_alloc_eq _ rfl)
      clear hW n
      obtain ⟨pxZ, heZ, hlZ, hokZ, hgZ⟩ := hideM_form t2 t3 HOKY.out
      refine imHide_any W9.heap.size _ (bw + 4, bh + 4, pxY) t2 t3 _ _ HIY.out (Nat.le_refl _) HT2.out HT3.out ?_
      rw [heZ]
      intro w10 v hi n
      replace NX := Lib.hid (NX.out.trans n)
      replace RN := Lib.hid (RN.out.kept n id)
      replace MX := Lib.hid (MX.out.kept n id)
      replace HLA := Lib.hid (HLA.out.kept n nof)
      replace HLB := Lib.hid (HLB.out.kept n nof)
      replace HB0 := Lib.hid (n.heap HB0.out id)
      replace HB2 := Lib.hid (n.heap HB2.out id)
      replace SZ := Nat.lt_of_lt_of_le SZ n.size
      replace HBM := Lib.hid ((HBM.out.kept n nof).hi n.size)
      replace HB8 := Lib.hid (n.heap HB8.out id)
      replace HIX := Lib.hid ((HIX.out.kept n nof).hi n.size)
      replace HB9 := Lib.hid (n.heap HB9.out id)
      replace HB1 := Lib.hid (n.heap HB1.out id)
      replace HIY := Lib.hid ((HIY.out.kept n nof).hi n.size)
      replace HBY := Lib.hid (n.heap HBY.out id)
      obtain ⟨AZ, cZ, rfl, hI⟩ := isIm_formN (n := px0.length) hi rfl rfl (by simp only; omega)
      obtain ⟨gZ, oZ, rfl, -⟩ := isIm_cell hI (i := 0) (List.getElem?_eq_getElem (by simp only; omega))
      have HIZ := Lib.hid hI
      have HOKZ := Lib.hid hokZ
      have HEZ := Lib.hid heZ
      have HGZ := Lib.hid hgZ
      have HLZ := Lib.hid hlZ
      clear hi hI n hokZ heZ hgZ
      have n0 : (0 : Int) ≤ (px0.length : Int) := by omega
      have kHBY0 : w10.cell? ⟨w8.heap.size, 0, none⟩ = some (.int .i64 (bw + 4)) := by rw [cell_of HBY.out]; rfl
      have jHBY0 : ∀ o, (w10.alloc o).cell? ⟨w8.heap.size, 0, none⟩ = some (.int .i64 (bw + 4)) := fun o => cell_alloc_old o kHBY0
      have kHBY1 : w10.cell? ⟨w8.heap.size, 1, none⟩ = some (.int .i64 (bh + 4)) := by rw [cell_of HBY.out]; rfl
      have jHBY1 : ∀ o, (w10.alloc o).cell? ⟨w8.heap.size, 1, none⟩ = some (.int .i64 (bh + 4)) := fun o => cell_alloc_old o kHBY1
      have kHBY2 : w10.cell? ⟨w8.heap.size, 2, none⟩ = some (.slice (some ⟨gY, oY, none⟩) px0.length cY) := by rw [cell_of HBY.out]; rfl
      have jHBY2 : ∀ o, (w10.alloc o).cell? ⟨w8.heap.size, 2, none⟩ = some (.slice (some ⟨gY, oY, none⟩) px0.length cY) := fun o => cell_alloc_old o kHBY2
      have kHB90 : w10.cell? ⟨w6.heap.size, 0, none⟩ = some (.int .i64 (bw + 4)) := by rw [cell_of HB9.out]; rfl
      have jHB90 : ∀ o, (w10.alloc o).cell? ⟨w6.heap.size, 0, none⟩ = some (.int .i64 (bw + 4)) := fun o => cell_alloc_old o kHB90
      have kHB91 : w10.cell? ⟨w6.heap.size, 1, none⟩ = some (.int .i64 (bh + 4)) := by rw [cell_of HB9.out]; rfl
      have jHB91 : ∀ o, (w10.alloc o).cell? ⟨w6.heap.size, 1, none⟩ = some (.int .i64 (bh + 4)) := fun o => cell_alloc_old o kHB91
      have kHB92 : w10.cell? ⟨w6.heap.size, 2, none⟩ = some (.slice (some ⟨g9, 0, none⟩) px0.length c9) := by rw [cell_of HB9.out]; rfl
      have jHB92 : ∀ o, (w10.alloc o).cell? ⟨w6.heap.size, 2, none⟩ = some (.slice (some ⟨g9, 0, none⟩) px0.length c9) := fun o => cell_alloc_old o kHB92
      go_wp2_with (fail)
      clear kHBY0 jHBY0 kHBY1 jHBY1 kHBY2 jHBY2 kHB90 jHB90 kHB91 jHB91 kHB92 jHB92
      refine wp_named ?_
      intro W11 hW
      have n : Nw w10 W11 := by rw [hW]; first | exact Ch.refl _ _ | exact (Ch.refl _ _).alloc _ | exact ((Ch.refl _ _).alloc _).alloc _
      replace NX := Lib.hid (NX.out.trans n)
      replace RN := Lib.hid (RN.out.kept n id)
      replace MX := Lib.hid (MX.out.kept n id)
      replace HLA := Lib.hid (HLA.out.kept n nof)
      replace HLB := Lib.hid (HLB.out.kept n nof)
      replace HB0 := Lib.hid (n.heap HB0.out id)
      replace HB2 := Lib.hid (n.heap HB2.out id)
      replace SZ := Nat.lt_of_lt_of_le SZ n.size
      replace HBM := Lib.hid ((HBM.out.kept n nof).hi n.size)
      replace HB8 := Lib.hid (n.heap HB8.out id)
      replace HIX := Lib.hid ((HIX.out.kept n nof).hi n.size)
      replace HB9 := Lib.hid (n.heap HB9.out id)
      replace HB1 := Lib.hid (n.heap HB1.out id)
      replace HIY := Lib.hid ((HIY.out.kept n nof).hi n.size)
      replace HBY := Lib.hid (n.heap HBY.out id)
      replace HIZ := Lib.hid ((HIZ.out.kept n nof).hi n.size)
      have HBZ := Lib.hid (show W11.heap[w10.heap.size]? = some (.cells #[.int .i64 (bw + 4), .int .i64 (bh + 4), .slice (some ⟨gZ, oZ, none⟩) px0.length cZ] 25 (0, 0)) from by rw [hW]; exact heap_alloc_eq _ rfl)
      clear hW n
      go_loopw [13, 14, 15, 79] (fun s13 _ _ s79 wr => ∃ (k : Nat), s79 = .int .i64 k ∧ s13 = .int .i64 (cnt (fun j => knP j (px pxY j)) k) ∧ k ≤ px0.length ∧ Hid (Nw W11 wr)) (fun _ _ _ s79 _ => px0.length - (intOf s79).toNat)
      case atStart => exact ⟨0, rfl, rfl, Nat.zero_le _, Lib.hid (Ch.refl _ _)⟩
      case round =>
        obtain ⟨k, rfl, rfl, hk, HC⟩ := hrel
        have k0 : (0 : Int) ≤ (k : Int) := by omega
        obtain ⟨wr0, hwr0⟩ : ∃ W : World, W = wr := ⟨_, rfl⟩
        subst hwr0
        replace NX := Lib.hid (NX.out.trans HC.out)
        replace RN := Lib.hid (RN.out.kept HC.out id)
        replace MX := Lib.hid (MX.out.kept HC.out id)
        replace HLA := Lib.hid (HLA.out.kept HC.out nof)
        replace HLB := Lib.hid (HLB.out.kept HC.out nof)
        replace HB0 := Lib.hid (HC.out.heap HB0.out id)
        replace HB2 := Lib.hid (HC.out.heap HB2.out id)
        replace SZ := Nat.lt_of_lt_of_le SZ HC.out.size
        replace HBM := Lib.hid ((HBM.out.kept HC.out nof).hi HC.out.size)
        replace HB8 := Lib.hid (HC.out.heap HB8.out id)
        replace HIX := Lib.hid ((HIX.out.kept HC.out nof).hi HC.out.size)
        replace HB9 := Lib.hid (HC.out.heap HB9.out id)
        replace HB1 := Lib.hid (HC.out.heap HB1.out id)
        replace HIY := Lib.hid ((HIY.out.kept HC.out nof).hi HC.out.size)
        replace HBY := Lib.hid (HC.out.heap HBY.out id)
        replace HIZ := Lib.hid ((HIZ.out.kept HC.out nof).hi HC.out.size)
        replace HBZ := Lib.hid (HC.out.heap HBZ.out id)
        by_cases hlt : k < px0.length
        · obtain ⟨xk, hxk⟩ : ∃ x, px0[k]? = some x := ⟨_, List.getElem?_eq_getElem hlt⟩
          have hyk := HGY.out k xk hxk
          have kx : wr0.cell? ⟨g9, k, none⟩ = some (.int .i64 xk) := by have := isIm_cell' HIX.out (i := k) (p := xk) hxk; rwa [Nat.zero_add] at this
          have ky := isIm_cell' HIY.out (i := k) hyk
          have k1 : (k : Int) < (px0.length : Int) := by omega
          obtain ⟨yk, hye⟩ : ∃ y, hideP (bw + 4) t0 t1 k xk = y := ⟨_, rfl⟩
          rw [hye] at hyk ky
          have HYK := Lib.hid hyk
          have HYE := Lib.hid hye
          have KX := Lib.hid kx
          have KY := Lib.hid ky
          clear hxk hyk hye kx ky
          obtain ⟨r, hr⟩ : ∃ r, (k : Int) % (bw + 4) = r := ⟨_, rfl⟩
          have hr2 : (k : Int).tmod (bw + 4) = r := by rw [Int.tmod_eq_emod_of_nonneg k0, hr]
          have r0 : 0 ≤ r := by rw [← hr]; exact Int.emod_nonneg _ (by omega)
          have r1 : r < bw + 4 := by rw [← hr]; exact Int.emod_lt_of_pos _ (by omega)
          have er : IntKind.i64.wrap r = r := by rw [IntKind.wrap_i64]; omega
          have wz : ¬ bw + 4 = 0 := by omega
          have HR2 := Lib.hid hr
          clear hr
          go_upto_region 17 with (fail)
          go_cut [15] (fun s15 wx => s15 = .bool (decide (t0 ≤ r ∧ r < t1)) ∧ Hid (Nw wr0 wx))
          case first => as_aux_lemma =>
            obtain ⟨f1, f2⟩ | ⟨f1, f2⟩ | f1 : (t0 ≤ r ∧ r < t1) ∨ (t0 ≤ r ∧ ¬ r < t1) ∨ ¬ t0 ≤ r := by omega
            · have NW0 := Lib.hid (Ch.refl (fun _ => False) wr0)
              clear KX KY
              refine wp_named ?_
              intro W12 hW
              have n : Nw wr0 W12 := by rw [hW]; first | exact Ch.refl _ _ | exact (Ch.refl _ _).alloc _
              replace NX := Lib.hid (NX.out.trans n)
              replace RN := Lib.hid (RN.out.kept n id)
              replace MX := Lib.hid (MX.out.kept n id)
              replace HLA := Lib.hid (HLA.out.kept n nof)
              replace HLB := Lib.hid (HLB.out.kept n nof)
              replace HB0 := Lib.hid (n.heap HB0.out id)
              replace HB2 := Lib.hid (n.heap HB2.out id)
              replace SZ := Nat.lt_of_lt_of_le SZ n.size
              replace HBM := Lib.hid ((HBM.out.kept n nof).hi n.size)
              replace HB8 := Lib.hid (n.heap HB8.out id)
              replace HIX := Lib.hid ((HIX.out.kept n nof).hi n.size)
              replace HB9 := Lib.hid (n.heap HB9.out id)
              replace HB1 := Lib.hid (n.heap HB1.out id)
              replace HIY := Lib.hid ((HIY.out.kept n nof).hi n.size)
              replace HBY := Lib.hid (n.heap HBY.out id)
              replace HIZ := Lib.hid ((HIZ.out.kept n nof).hi n.size)
              replace HBZ := Lib.hid (n.heap HBZ.out id)
              replace NW0 := Lib.hid (NW0.out.trans n)
              clear hW n
              refine wp_region_U (F := fun w' => w'.cell? ⟨w6.heap.size, 0, none⟩ = some (.int .i64 (bw + 4)) ∧ w'.cell? ⟨w.heap.size + 1, 0, none⟩ = some (.int .i64 t0) ∧ w'.cell? ⟨w.heap.size + 1, 1, none⟩ = some (.int .i64 t1)) (opsOf Tryd.f5 17) 16 17 (by kernel_rfl) (by kernel_rfl) (by kernel_rfl) ⟨by show W12.cell? _ = _; rw [cell_of HB9.out]; rfl, by show W12.cell? _ = _; rw [cell_of HB1.out]; rfl, by show W12.cell? _ = _; rw [cell_of HB1.out]; rfl⟩ (fun HOPS hHeld => ?_)
              refine wpT_named ?_
              intro W13 hW
              rw [← hW] at hHeld
              have n : Nw W12 W13 := by rw [hW]; exact (Ch.refl _ _).drew
              replace NX := Lib.hid (NX.out.trans n)
              replace RN := Lib.hid (RN.out.kept n id)
              replace MX := Lib.hid (MX.out.kept n id)
              replace HLA := Lib.hid (HLA.out.kept n nof)
              replace HLB := Lib.hid (HLB.out.kept n nof)
              replace HB0 := Lib.hid (n.heap HB0.out id)
              replace HB2 := Lib.hid (n.heap HB2.out id)
              replace SZ := Nat.lt_of_lt_of_le SZ n.size
              replace HBM := Lib.hid ((HBM.out.kept n nof).hi n.size)
              replace HB8 := Lib.hid (n.heap HB8.out id)
              replace HIX := Lib.hid ((HIX.out.kept n nof).hi n.size)
              replace HB9 := Lib.hid (n.heap HB9.out id)
              replace HB1 := Lib.hid (n.heap HB1.out id)
              replace HIY := Lib.hid ((HIY.out.kept n nof).hi n.size)
              replace HBY := Lib.hid (n.heap HBY.out id)
              replace HIZ := Lib.hid ((HIZ.out.kept n nof).hi n.size)
              replace HBZ := Lib.hid (n.heap HBZ.out id)
              replace NW0 := Lib.hid (NW0.out.trans n)
              clear hW n
              first | (refine wpT_takeB (i := 0) (v := ?_) HOPS rfl (by kernel_rfl) (fun _ _ _ h => h) (Or.inl ⟨by rfl, ?hy⟩) (by assumption) ?_; case hy => (intro w hSw; (try dsimp only at hSw); go_simp; (try with_reducible rfl))) | (refine wpT_takeB (i := 0) (v := _) HOPS rfl (by kernel_rfl) (fun _ _ _ h => h) (Or.inr ⟨by rfl, rfl⟩) (by assumption) ?_)
              try simp only [Act.put, List.getElem_toArray, List.getElem_cons_succ, List.getElem_cons_zero, List.setIfInBounds_toArray, List.set_cons_zero, List.set_cons_succ]
              first | (refine wpT_takeB (i := 1) (v := ?_) HOPS rfl (by kernel_rfl) (fun _ _ _ h => h) (Or.inl ⟨by rfl, ?hy⟩) (by assumption) ?_; case hy => (intro w hSw; (try dsimp only at hSw); go_simp; (try with_reducible rfl))) | (refine wpT_takeB (i := 1) (v := _) HOPS rfl (by kernel_rfl) (fun _ _ _ h => h) (Or.inr ⟨by rfl, rfl⟩) (by assumption) ?_)
              try simp only [Act.put, List.getElem_toArray, List.getElem_cons_succ, List.getElem_cons_zero, List.setIfInBounds_toArray, List.set_cons_zero, List.set_cons_succ]
              first | (refine wpT_takeB (i := 2) (v := ?_) HOPS rfl (by kernel_rfl) (fun _ _ _ h => h) (Or.inl ⟨by rfl, ?hy⟩) (by assumption) ?_; case hy => (intro w hSw; (try dsimp only at hSw); go_simp; (try with_reducible rfl))) | (refine wpT_takeB (i := 2) (v := _) HOPS rfl (by kernel_rfl) (fun _ _ _ h => h) (Or.inr ⟨by rfl, rfl⟩) (by assumption) ?_)
              try simp only [Act.put, List.getElem_toArray, List.getElem_cons_succ, List.getElem_cons_zero, List.setIfInBounds_toArray, List.set_cons_zero, List.set_cons_succ]
              first | (refine wpT_takeB (i := 3) (v := ?_) HOPS rfl (by kernel_rfl) (fun _ _ _ h => h) (Or.inl ⟨by rfl, ?hy⟩) (by assumption) ?_; case hy => (intro w hSw; (try dsimp only at hSw); go_simp; (try with_reducible rfl))) | (refine wpT_takeB (i := 3) (v := _) HOPS rfl (by kernel_rfl) (fun _ _ _ h => h) (Or.inr ⟨by rfl, rfl⟩) (by assumption) ?_)
              try simp only [Act.put, List.getElem_toArray, List.getElem_cons_succ, List.getElem_cons_zero, List.setIfInBounds_toArray, List.set_cons_zero, List.set_cons_succ]
              first | (refine wpT_takeB (i := 4) (v := ?_) HOPS rfl (by kernel_rfl) (fun _ _ _ h => h) (Or.inl ⟨by rfl, ?hy⟩) (by assumption) ?_; case hy => (intro w hSw; (try dsimp only at hSw); go_simp; (try with_reducible rfl))) | (refine wpT_takeB (i := 4) (v := _) HOPS rfl (by kernel_rfl) (fun _ _ _ h => h) (Or.inr ⟨by rfl, rfl⟩) (by assumption) ?_)
              try simp only [Act.put, List.getElem_toArray, List.getElem_cons_succ, List.getElem_cons_zero, List.setIfInBounds_toArray, List.set_cons_zero, List.set_cons_succ]
              first | (refine wpT_takeB (i := 5) (v := ?_) HOPS rfl (by kernel_rfl) (fun _ _ _ h => h) (Or.inl ⟨by rfl, ?hy⟩) (by assumption) ?_; case hy => (intro w hSw; (try dsimp only at hSw); go_simp; (try with_reducible rfl))) | (refine wpT_takeB (i := 5) (v := _) HOPS rfl (by kernel_rfl) (fun _ _ _ h => h) (Or.inr ⟨by rfl, rfl⟩) (by assumption) ?_)
              try simp only [Act.put, List.getElem_toArray, List.getElem_cons_succ, List.getElem_cons_zero, List.setIfInBounds_toArray, List.set_cons_zero, List.set_cons_succ]
              first | (refine wpT_takeB (i := 6) (v := ?_) HOPS rfl (by kernel_rfl) (fun _ _ _ h => h) (Or.inl ⟨by rfl, ?hy⟩) (by assumption) ?_; case hy => (intro w hSw; (try dsimp only at hSw); go_simp; (try with_reducible rfl))) | (refine wpT_takeB (i := 6) (v := _) HOPS rfl (by kernel_rfl) (fun _ _ _ h => h) (Or.inr ⟨by rfl, rfl⟩) (by assumption) ?_)
              try simp only [Act.put, List.getElem_toArray, List.getElem_cons_succ, List.getElem_cons_zero, List.setIfInBounds_toArray, List.set_cons_zero, List.set_cons_succ]
              first | (refine wpT_takeB (i := 7) (v := ?_) HOPS rfl (by kernel_rfl) (fun _ _ _ h => h) (Or.inl ⟨by rfl, ?hy⟩) (by assumption) ?_; case hy => (intro w hSw; (try dsimp only at hSw); go_simp; (try with_reducible rfl))) | (refine wpT_takeB (i := 7) (v := _) HOPS rfl (by kernel_rfl) (fun _ _ _ h => h) (Or.inr ⟨by rfl, rfl⟩) (by assumption) ?_)
              try simp only [Act.put, List.getElem_toArray, List.getElem_cons_succ, List.getElem_cons_zero, List.setIfInBounds_toArray, List.set_cons_zero, List.set_cons_succ]
              first | (refine wpT_takeB (i := 8) (v := ?_) HOPS rfl (by kernel_rfl) (fun _ _ _ h => h) (Or.inl ⟨by rfl, ?hy⟩) (by assumption) ?_; case hy => (intro w hSw; (try dsimp only at hSw); go_simp; (try with_reducible rfl))) | (refine wpT_takeB (i := 8) (v := _) HOPS rfl (by kernel_rfl) (fun _ _ _ h => h) (Or.inr ⟨by rfl, rfl⟩) (by assumption) ?_)
              try simp only [Act.put, List.getElem_toArray, List.getElem_cons_succ, List.getElem_cons_zero, List.setIfInBounds_toArray, List.set_cons_zero, List.set_cons_succ]
              first | (refine wpT_takeB (i := 9) (v := ?_) HOPS rfl (by kernel_rfl) (fun _ _ _ h => h) (Or.inl ⟨by rfl, ?hy⟩) (by assumption) ?_; case hy => (intro w hSw; (try dsimp only at hSw); go_simp; (try with_reducible rfl))) | (refine wpT_takeB (i := 9) (v := _) HOPS rfl (by kernel_rfl) (fun _ _ _ h => h) (Or.inr ⟨by rfl, rfl⟩) (by assumption) ?_)
              try simp only [Act.put, List.getElem_toArray, List.getElem_cons_succ, List.getElem_cons_zero, List.setIfInBounds_toArray, List.set_cons_zero, List.set_cons_succ]
              first | (refine wpT_takeB (i := 10) (v := ?_) HOPS rfl (by kernel_rfl) (fun _ _ _ h => h) (Or.inl ⟨by rfl, ?hy⟩) (by assumption) ?_; case hy => (intro w hSw; (try dsimp only at hSw); go_simp; (try with_reducible rfl))) | (refine wpT_takeB (i := 10) (v := _) HOPS rfl (by kernel_rfl) (fun _ _ _ h => h) (Or.inr ⟨by rfl, rfl⟩) (by assumption) ?_)
              try simp only [Act.put, List.getElem_toArray, List.getElem_cons_succ, List.getElem_cons_zero, List.setIfInBounds_toArray, List.set_cons_zero, List.set_cons_succ]
              first | (refine wpT_takeB (i := 11) (v := ?_) HOPS rfl (by kernel_rfl) (fun _ _ _ h => h) (Or.inl ⟨by rfl, ?hy⟩) (by assumption) ?_; case hy => (intro w hSw; (try dsimp only at hSw); go_simp; (try with_reducible rfl))) | (refine wpT_takeB (i := 11) (v := _) HOPS rfl (by kernel_rfl) (fun _ _ _ h => h) (Or.inr ⟨by rfl, rfl⟩) (by assumption) ?_)
              try simp only [Act.put, List.getElem_toArray, List.getElem_cons_succ, List.getElem_cons_zero, List.setIfInBounds_toArray, List.set_cons_zero, List.set_cons_succ]
              first | (refine wpT_takeB (i := 12) (v := ?_) HOPS rfl (by kernel_rfl) (fun _ _ _ h => h) (Or.inl ⟨by rfl, ?hy⟩) (by assumption) ?_; case hy => (intro w hSw; (try dsimp only at hSw); go_simp; (try with_reducible rfl))) | (refine wpT_takeB (i := 12) (v := _) HOPS rfl (by kernel_rfl) (fun _ _ _ h => h) (Or.inr ⟨by rfl, rfl⟩) (by assumption) ?_)
              try simp only [Act.put, List.getElem_toArray, List.getElem_cons_succ, List.getElem_cons_zero, List.setIfInBounds_toArray, List.set_cons_zero, List.set_cons_succ]
              first | (refine wpT_takeB (i := 13) (v := ?_) HOPS rfl (by kernel_rfl) (fun _ _ _ h => h) (Or.inl ⟨by rfl, ?hy⟩) (by assumption) ?_; case hy => (intro w hSw; (try dsimp only at hSw); go_simp; (try with_reducible rfl))) | (refine wpT_takeB (i := 13) (v := _) HOPS rfl (by kernel_rfl) (fun _ _ _ h => h) (Or.inr ⟨by rfl, rfl⟩) (by assumption) ?_)
              try simp only [Act.put, List.getElem_toArray, List.getElem_cons_succ, List.getElem_cons_zero, List.setIfInBounds_toArray, List.set_cons_zero, List.set_cons_succ]
              first | (refine wpT_takeB (i := 14) (v := ?_) HOPS rfl (by kernel_rfl) (fun _ _ _ h => h) (Or.inl ⟨by rfl, ?hy⟩) (by assumption) ?_; case hy => (intro w hSw; (try dsimp only at hSw); go_simp; (try with_reducible rfl))) | (refine wpT_takeB (i := 14) (v := _) HOPS rfl (by kernel_rfl) (fun _ _ _ h => h) (Or.inr ⟨by rfl, rfl⟩) (by assumption) ?_)
              try simp only [Act.put, List.getElem_toArray, List.getElem_cons_succ, List.getElem_cons_zero, List.setIfInBounds_toArray, List.set_cons_zero, List.set_cons_succ]
              first | (refine wpT_takeB (i := 15) (v := ?_) HOPS rfl (by kernel_rfl) (fun _ _ _ h => h) (Or.inl ⟨by rfl, ?hy⟩) (by assumption) ?_; case hy => (intro w hSw; (try dsimp only at hSw); go_simp; (try with_reducible rfl))) | (refine wpT_takeB (i := 15) (v := _) HOPS rfl (by kernel_rfl) (fun _ _ _ h => h) (Or.inr ⟨by rfl, rfl⟩) (by assumption) ?_)
              try simp only [Act.put, List.getElem_toArray, List.getElem_cons_succ, List.getElem_cons_zero, List.setIfInBounds_toArray, List.set_cons_zero, List.set_cons_succ]
              refine wpT_ready (rs := [16]) (by kernel_rfl) (by simp) ?_
              refine ReadyT.lastB HOPS rfl (by rfl) (by kernel_rfl) (fun K hK => ?_) ReadyT.nil
              go_simp
              refine hK.out _ _ ?_
              clear hK K
              try simp only [Act.put, List.getElem_toArray, List.getElem_cons_succ, List.getElem_cons_zero, List.setIfInBounds_toArray, List.set_cons_zero, List.set_cons_succ]
              refine wpT_done (by kernel_rfl) ?_ _
              clear HOPS
              repeat clear hHeld
              go_wp2_with fail
              go_meet
              exact ⟨by rw [decide_eq_true (show t0 ≤ r ∧ r < t1 from ⟨f1, f2⟩)], NW0⟩
            · have d2 : decide (r < t1) = false := decide_eq_false f2
              have NW0 := Lib.hid (Ch.refl (fun _ => False) wr0)
              clear KX KY
              refine wp_named ?_
              intro W14 hW
              have n : Nw wr0 W14 := by rw [hW]; first | exact Ch.refl _ _ | exact (Ch.refl _ _).alloc _
              replace NX := Lib.hid (NX.out.trans n)
              replace RN := Lib.hid (RN.out.kept n id)
              replace MX := Lib.hid (MX.out.kept n id)
              replace HLA := Lib.hid (HLA.out.kept n nof)
              replace HLB := Lib.hid (HLB.out.kept n nof)
              replace HB0 := Lib.hid (n.heap HB0.out id)
              replace HB2 := Lib.hid (n.heap HB2.out id)
              replace SZ := Nat.lt_of_lt_of_le SZ n.size
              replace HBM := Lib.hid ((HBM.out.kept n nof).hi n.size)
              replace HB8 := Lib.hid (n.heap HB8.out id)
              replace HIX := Lib.hid ((HIX.out.kept n nof).hi n.size)
              replace HB9 := Lib.hid (n.heap HB9.out id)
              replace HB1 := Lib.hid (n.heap HB1.out id)
              replace HIY := Lib.hid ((HIY.out.kept n nof).hi n.size)
              replace HBY := Lib.hid (n.heap HBY.out id)
              replace HIZ := Lib.hid ((HIZ.out.kept n nof).hi n.size)
              replace HBZ := Lib.hid (n.heap HBZ.out id)
              replace NW0 := Lib.hid (NW0.out.trans n)
              clear hW n
              refine wp_region_U (F := fun w' => w'.cell? ⟨w6.heap.size, 0, none⟩ = some (.int .i64 (bw + 4)) ∧ w'.cell? ⟨w.heap.size + 1, 0, none⟩ = some (.int .i64 t0) ∧ w'.cell? ⟨w.heap.size + 1, 1, none⟩ = some (.int .i64 t1)) (opsOf Tryd.f5 17) 16 17 (by kernel_rfl) (by kernel_rfl) (by kernel_rfl) ⟨by show W14.cell? _ = _; rw [cell_of HB9.out]; rfl, by show W14.cell? _ = _; rw [cell_of HB1.out]; rfl, by show W14.cell? _ = _; rw [cell_of HB1.out]; rfl⟩ (fun HOPS hHeld => ?_)
              refine wpT_named ?_
              intro W15 hW
              rw [← hW] at hHeld
              have n : Nw W14 W15 := by rw [hW]; exact (Ch.refl _ _).drew
              replace NX := Lib.hid (NX.out.trans n)
              replace RN := Lib.hid (RN.out.kept n id)
              replace MX := Lib.hid (MX.out.kept n id)
              replace HLA := Lib.hid (HLA.out.kept n nof)
              replace HLB := Lib.hid (HLB.out.kept n nof)
              replace HB0 := Lib.hid (n.heap HB0.out id)
              replace HB2 := Lib.hid (n.heap HB2.out id)
              replace SZ := Nat.lt_of_lt_of_le SZ n.size
              replace HBM := Lib.hid ((HBM.out.kept n nof).hi n.size)
              replace HB8 := Lib.hid (n.heap HB8.out id)
              replace HIX := Lib.hid ((HIX.out.kept n nof).hi n.size)
              replace HB9 := Lib.hid (n.heap HB9.out id)
              replace HB1 := Lib.hid (n.heap HB1.out id)
              replace HIY := Lib.hid ((HIY.out.kept n nof).hi n.size)
              replace HBY := Lib.hid (n.heap HBY.out id)
              replace HIZ := Lib.hid ((HIZ.out.kept n nof).hi n.size)
              replace HBZ := Lib.hid (n.heap HBZ.out id)
              replace NW0 := Lib.hid (NW0.out.trans n)
              clear hW n
              first | (refine wpT_takeB (i := 0) (v := ?_) HOPS rfl (by kernel_rfl) (fun _ _ _ h => h) (Or.inl ⟨by rfl, ?hy⟩) (by assumption) ?_; case hy => (intro w hSw; (try dsimp only at hSw); go_simp; (try with_reducible rfl))) | (refine wpT_takeB (i := 0) (v := _) HOPS rfl (by kernel_rfl) (fun _ _ _ h => h) (Or.inr ⟨by rfl, rfl⟩) (by assumption) ?_)
              try simp only [Act.put, List.getElem_toArray, List.getElem_cons_succ, List.getElem_cons_zero, List.setIfInBounds_toArray, List.set_cons_zero, List.set_cons_succ]
              first | (refine wpT_takeB (i := 1) (v := ?_) HOPS rfl (by kernel_rfl) (fun _ _ _ h => h) (Or.inl ⟨by rfl, ?hy⟩) (by assumption) ?_; case hy => (intro w hSw; (try dsimp only at hSw); go_simp; (try with_reducible rfl))) | (refine wpT_takeB (i := 1) (v := _) HOPS rfl (by kernel_rfl) (fun _ _ _ h => h) (Or.inr ⟨by rfl, rfl⟩) (by assumption) ?_)
              try simp only [Act.put, List.getElem_toArray, List.getElem_cons_succ, List.getElem_cons_zero, List.setIfInBounds_toArray, List.set_cons_zero, List.set_cons_succ]
              first | (refine wpT_takeB (i := 2) (v := ?_) HOPS rfl (by kernel_rfl) (fun _ _ _ h => h) (Or.inl ⟨by rfl, ?hy⟩) (by assumption) ?_; case hy => (intro w hSw; (try dsimp only at hSw); go_simp; (try with_reducible rfl))) | (refine wpT_takeB (i := 2) (v := _) HOPS rfl (by kernel_rfl) (fun _ _ _ h => h) (Or.inr ⟨by rfl, rfl⟩) (by assumption) ?_)
              try simp only [Act.put, List.getElem_toArray, List.getElem_cons_succ, List.getElem_cons_zero, List.setIfInBounds_toArray, List.set_cons_zero, List.set_cons_succ]
              first | (refine wpT_takeB (i := 3) (v := ?_) HOPS rfl (by kernel_rfl) (fun _ _ _ h => h) (Or.inl ⟨by rfl, ?hy⟩) (by assumption) ?_; case hy => (intro w hSw; (try dsimp only at hSw); go_simp; (try with_reducible rfl))) | (refine wpT_takeB (i := 3) (v := _) HOPS rfl (by kernel_rfl) (fun _ _ _ h => h) (Or.inr ⟨by rfl, rfl⟩) (by assumption) ?_)
              try simp only [Act.put, List.getElem_toArray, List.getElem_cons_succ, List.getElem_cons_zero, List.setIfInBounds_toArray, List.set_cons_zero, List.set_cons_succ]
              first | (refine wpT_takeB (i := 4) (v := ?_) HOPS rfl (by kernel_rfl) (fun _ _ _ h => h) (Or.inl ⟨by rfl, ?hy⟩) (by assumption) ?_; case hy => (intro w hSw; (try dsimp only at hSw); go_simp; (try with_reducible rfl))) | (refine wpT_takeB (i := 4) (v := _) HOPS rfl (by kernel_rfl) (fun _ _ _ h => h) (Or.inr ⟨by rfl, rfl⟩) (by assumption) ?_)
              try simp only [Act.put, List.getElem_toArray, List.getElem_cons_succ, List.getElem_cons_zero, List.setIfInBounds_toArray, List.set_cons_zero, List.set_cons_succ]
              first | (refine wpT_takeB (i := 5) (v := ?_) HOPS rfl (by kernel_rfl) (fun _ _ _ h => h) (Or.inl ⟨by rfl, ?hy⟩) (by assumption) ?_; case hy => (intro w hSw; (try dsimp only at hSw); go_simp; (try with_reducible rfl))) | (refine wpT_takeB (i := 5) (v := _) HOPS rfl (by kernel_rfl) (fun _ _ _ h => h) (Or.inr ⟨by rfl, rfl⟩) (by assumption) ?_)
              try simp only [Act.put, List.getElem_toArray, List.getElem_cons_succ, List.getElem_cons_zero, List.setIfInBounds_toArray, List.set_cons_zero, List.set_cons_succ]
              first | (refine wpT_takeB (i := 6) (v := ?_) HOPS rfl (by kernel_rfl) (fun _ _ _ h => h) (Or.inl ⟨by rfl, ?hy⟩) (by assumption) ?_; case hy => (intro w hSw; (try dsimp only at hSw); go_simp; (try with_reducible rfl))) | (refine wpT_takeB (i := 6) (v := _) HOPS rfl (by kernel_rfl) (fun _ _ _ h => h) (Or.inr ⟨by rfl, rfl⟩) (by assumption) ?_)
              try simp only [Act.put, List.getElem_toArray, List.getElem_cons_succ, List.getElem_cons_zero, List.setIfInBounds_toArray, List.set_cons_zero, List.set_cons_succ]
              first | (refine wpT_takeB (i := 7) (v := ?_) HOPS rfl (by kernel_rfl) (fun _ _ _ h => h) (Or.inl ⟨by rfl, ?hy⟩) (by assumption) ?_; case hy => (intro w hSw; (try dsimp only at hSw); go_simp; (try with_reducible rfl))) | (refine wpT_takeB (i := 7) (v := _) HOPS rfl (by kernel_rfl) (fun _ _ _ h => h) (Or.inr ⟨by rfl, rfl⟩) (by assumption) ?_)
              try simp only [Act.put, List.getElem_toArray, List.getElem_cons_succ, List.getElem_cons_zero, List.setIfInBounds_toArray, List.set_cons_zero, List.set_cons_succ]
              first | (refine wpT_takeB (i := 8) (v := ?_) HOPS rfl (by kernel_rfl) (fun _ _ _ h => h) (Or.inl ⟨by rfl, ?hy⟩) (by assumption) ?_; case hy => (intro w hSw; (try dsimp only at hSw); go_simp; (try with_reducible rfl))) | (refine wpT_takeB (i := 8) (v := _) HOPS rfl (by kernel_rfl) (fun _ _ _ h => h) (Or.inr ⟨by rfl, rfl⟩) (by assumption) ?_)
              try simp only [Act.put, List.getElem_toArray, List.getElem_cons_succ, List.getElem_cons_zero, List.setIfInBounds_toArray, List.set_cons_zero, List.set_cons_succ]
              first | (refine wpT_takeB (i := 9) (v := ?_) HOPS rfl (by kernel_rfl) (fun _ _ _ h => h) (Or.inl ⟨by rfl, ?hy⟩) (by assumption) ?_; case hy => (intro w hSw; (try dsimp only at hSw); go_simp; (try with_reducible rfl))) | (refine wpT_takeB (i := 9) (v := _) HOPS rfl (by kernel_rfl) (fun _ _ _ h => h) (Or.inr ⟨by rfl, rfl⟩) (by assumption) ?_)
              try simp only [Act.put, List.getElem_toArray, List.getElem_cons_succ, List.getElem_cons_zero, List.setIfInBounds_toArray, List.set_cons_zero, List.set_cons_succ]
              first | (refine wpT_takeB (i := 10) (v := ?_) HOPS rfl (by kernel_rfl) (fun _ _ _ h => h) (Or.inl ⟨by rfl, ?hy⟩) (by assumption) ?_; case hy => (intro w hSw; (try dsimp only at hSw); go_simp; (try with_reducible rfl))) | (refine wpT_takeB (i := 10) (v := _) HOPS rfl (by kernel_rfl) (fun _ _ _ h => h) (Or.inr ⟨by rfl, rfl⟩) (by assumption) ?_)
              try simp only [Act.put, List.getElem_toArray, List.getElem_cons_succ, List.getElem_cons_zero, List.setIfInBounds_toArray, List.set_cons_zero, List.set_cons_succ]
              first | (refine wpT_takeB (i := 11) (v := ?_) HOPS rfl (by kernel_rfl) (fun _ _ _ h => h) (Or.inl ⟨by rfl, ?hy⟩) (by assumption) ?_; case hy => (intro w hSw; (try dsimp only at hSw); go_simp; (try with_reducible rfl))) | (refine wpT_takeB (i := 11) (v := _) HOPS rfl (by kernel_rfl) (fun _ _ _ h => h) (Or.inr ⟨by rfl, rfl⟩) (by assumption) ?_)
              try simp only [Act.put, List.getElem_toArray, List.getElem_cons_succ, List.getElem_cons_zero, List.setIfInBounds_toArray, List.set_cons_zero, List.set_cons_succ]
              first | (refine wpT_takeB (i := 12) (v := ?_) HOPS rfl (by kernel_rfl) (fun _ _ _ h => h) (Or.inl ⟨by rfl, ?hy⟩) (by assumption) ?_; case hy => (intro w hSw; (try dsimp only at hSw); go_simp; (try with_reducible rfl))) | (refine wpT_takeB (i := 12) (v := _) HOPS rfl (by kernel_rfl) (fun _ _ _ h => h) (Or.inr ⟨by rfl, rfl⟩) (by assumption) ?_)
              try simp only [Act.put, List.getElem_toArray, List.getElem_cons_succ, List.getElem_cons_zero, List.setIfInBounds_toArray, List.set_cons_zero, List.set_cons_succ]
              first | (refine wpT_takeB (i := 13) (v := ?_) HOPS rfl (by kernel_rfl) (fun _ _ _ h => h) (Or.inl ⟨by rfl, ?hy⟩) (by assumption) ?_; case hy => (intro w hSw; (try dsimp only at hSw); go_simp; (try with_reducible rfl))) | (refine wpT_takeB (i := 13) (v := _) HOPS rfl (by kernel_rfl) (fun _ _ _ h => h) (Or.inr ⟨by rfl, rfl⟩) (by assumption) ?_)
              try simp only [Act.put, List.getElem_toArray, List.getElem_cons_succ, List.getElem_cons_zero, List.setIfInBounds_toArray, List.set_cons_zero, List.set_cons_succ]
              first | (refine wpT_takeB (i := 14) (v := ?_) HOPS rfl (by kernel_rfl) (fun _ _ _ h => h) (Or.inl ⟨by rfl, ?hy⟩) (by assumption) ?_; case hy => (intro w hSw; (try dsimp only at hSw); go_simp; (try with_reducible rfl))) | (refine wpT_takeB (i := 14) (v := _) HOPS rfl (by kernel_rfl) (fun _ _ _ h => h) (Or.inr ⟨by rfl, rfl⟩) (by assumption) ?_)
              try simp only [Act.put, List.getElem_toArray, List.getElem_cons_succ, List.getElem_cons_zero, List.setIfInBounds_toArray, List.set_cons_zero, List.set_cons_succ]
              first | (refine wpT_takeB (i := 15) (v := ?_) HOPS rfl (by kernel_rfl) (fun _ _ _ h => h) (Or.inl ⟨by rfl, ?hy⟩) (by assumption) ?_; case hy => (intro w hSw; (try dsimp only at hSw); go_simp; (try with_reducible rfl))) | (refine wpT_takeB (i := 15) (v := _) HOPS rfl (by kernel_rfl) (fun _ _ _ h => h) (Or.inr ⟨by rfl, rfl⟩) (by assumption) ?_)
              try simp only [Act.put, List.getElem_toArray, List.getElem_cons_succ, List.getElem_cons_zero, List.setIfInBounds_toArray, List.set_cons_zero, List.set_cons_succ]
              refine wpT_ready (rs := [16]) (by kernel_rfl) (by simp) ?_
              refine ReadyT.lastB HOPS rfl (by rfl) (by kernel_rfl) (fun K hK => ?_) ReadyT.nil
              go_simp
              refine hK.out _ _ ?_
              clear hK K
              try simp only [Act.put, List.getElem_toArray, List.getElem_cons_succ, List.getElem_cons_zero, List.setIfInBounds_toArray, List.set_cons_zero, List.set_cons_succ]
              refine wpT_done (by kernel_rfl) ?_ _
              clear HOPS
              repeat clear hHeld
              go_wp2_with fail
              go_meet
              exact ⟨by rw [decide_eq_false (show ¬ (t0 ≤ r ∧ r < t1) from by omega)], NW0⟩
            · have d1 : decide (t0 ≤ r) = false := decide_eq_false f1
              have NW0 := Lib.hid (Ch.refl (fun _ => False) wr0)
              clear KX KY
              refine wp_named ?_
              intro W16 hW
              have n : Nw wr0 W16 := by rw [hW]; first | exact Ch.refl _ _ | exact (Ch.refl _ _).alloc _
              replace NX := Lib.hid (NX.out.trans n)
              replace RN := Lib.hid (RN.out.kept n id)
              replace MX := Lib.hid (MX.out.kept n id)
              replace HLA := Lib.hid (HLA.out.kept n nof)
              replace HLB := Lib.hid (HLB.out.kept n nof)
              replace HB0 := Lib.hid (n.heap HB0.out id)
              replace HB2 := Lib.hid (n.heap HB2.out id)
              replace SZ := Nat.lt_of_lt_of_le SZ n.size
              replace HBM := Lib.hid ((HBM.out.kept n nof).hi n.size)
              replace HB8 := Lib.hid (n.heap HB8.out id)
              replace HIX := Lib.hid ((HIX.out.kept n nof).hi n.size)
              replace HB9 := Lib.hid (n.heap HB9.out id)
              replace HB1 := Lib.hid (n.heap HB1.out id)
              replace HIY := Lib.hid ((HIY.out.kept n nof).hi n.size)
              replace HBY := Lib.hid (n.heap HBY.out id)
              replace HIZ := Lib.hid ((HIZ.out.kept n nof).hi n.size)
              replace HBZ := Lib.hid (n.heap HBZ.out id)
              replace NW0 := Lib.hid (NW0.out.trans n)
              clear hW n
              refine wp_region_U (F := fun w' => w'.cell? ⟨w6.heap.size, 0, none⟩ = some (.int .i64 (bw + 4)) ∧ w'.cell? ⟨w.heap.size + 1, 0, none⟩ = some (.int .i64 t0) ∧ w'.cell? ⟨w.heap.size + 1, 1, none⟩ = some (.int .i64 t1)) (opsOf Tryd.f5 17) 16 17 (by kernel_rfl) (by kernel_rfl) (by kernel_rfl) ⟨by show W16.cell? _ = _; rw [cell_of HB9.out]; rfl, by show W16.cell? _ = _; rw [cell_of HB1.out]; rfl, by show W16.cell? _ = _; rw [cell_of HB1.out]; rfl⟩ (fun HOPS hHeld => ?_)
              refine wpT_named ?_
              intro W17 hW
              rw [← hW] at hHeld
              have n : Nw W16 W17 := by rw [hW]; exact (Ch.refl _ _).drew
              replace NX := Lib.hid (NX.out.trans n)
              replace RN := Lib.hid (RN.out.kept n id)
              replace MX := Lib.hid (MX.out.kept n id)
              replace HLA := Lib.hid (HLA.out.kept n nof)
              replace HLB := Lib.hid (HLB.out.kept n nof)
              replace HB0 := Lib.hid (n.heap HB0.out id)
              replace HB2 := Lib.hid (n.heap HB2.out id)
              replace SZ := Nat.lt_of_lt_of_le SZ n.size
              replace HBM := Lib.hid ((HBM.out.kept n nof).hi n.size)
              replace HB8 := Lib.hid (n.heap HB8.out id)
              replace HIX := Lib.hid ((HIX.out.kept n nof).hi n.size)
              replace HB9 := Lib.hid (n.heap HB9.out id)
              replace HB1 := Lib.hid (n.heap HB1.out id)
              replace HIY := Lib.hid ((HIY.out.kept n nof).hi n.size)
              replace HBY := Lib.hid (n.heap HBY.out id)
              replace HIZ := Lib.hid ((HIZ.out.kept n nof).hi n.size)
              replace HBZ := Lib.hid (n.heap HBZ.out id)
              replace NW0 := Lib.hid (NW0.out.trans n)
              clear hW n
              first | (refine wpT_takeB (i := 0) (v := ?_) HOPS rfl (by kernel_rfl) (fun _ _ _ h => h) (Or.inl ⟨by rfl, ?hy⟩) (by assumption) ?_; case hy => (intro w hSw; (try dsimp only at hSw); go_simp; (try with_reducible rfl))) | (refine wpT_takeB (i := 0) (v := _) HOPS rfl (by kernel_rfl) (fun _ _ _ h => h) (Or.inr ⟨by rfl, rfl⟩) (by assumption) ?_)
              try simp only [Act.put, List.getElem_toArray, List.getElem_cons_succ, List.getElem_cons_zero, List.setIfInBounds_toArray, List.set_cons_zero, List.set_cons_succ]
              first | (refine wpT_takeB (i := 1) (v := ?_) HOPS rfl (by kernel_rfl) (fun _ _ _ h => h) (Or.inl ⟨by rfl, ?hy⟩) (by assumption) ?_; case hy => (intro w hSw; (try dsimp only at hSw); go_simp; (try with_reducible rfl))) | (refine wpT_takeB (i := 1) (v := _) HOPS rfl (by kernel_rfl) (fun _ _ _ h => h) (Or.inr ⟨by rfl, rfl⟩) (by assumption) ?_)
              try simp only [Act.put, List.getElem_toArray, List.getElem_cons_succ, List.getElem_cons_zero, List.setIfInBounds_toArray, List.set_cons_zero, List.set_cons_succ]
              first | (refine wpT_takeB (i := 2) (v := ?_) HOPS rfl (by kernel_rfl) (fun _ _ _ h => h) (Or.inl ⟨by rfl, ?hy⟩) (by assumption) ?_; case hy => (intro w hSw; (try dsimp only at hSw); go_simp; (try with_reducible rfl))) | (refine wpT_takeB (i := 2) (v := _) HOPS rfl (by kernel_rfl) (fun _ _ _ h => h) (Or.inr ⟨by rfl, rfl⟩) (by assumption) ?_)
              try simp only [Act.put, List.getElem_toArray, List.getElem_cons_succ, List.getElem_cons_zero, List.setIfInBounds_toArray, List.set_cons_zero, List.set_cons_succ]
              first | (refine wpT_takeB (i := 3) (v := ?_) HOPS rfl (by kernel_rfl) (fun _ _ _ h => h) (Or.inl ⟨by rfl, ?hy⟩) (by assumption) ?_; case hy => (intro w hSw; (try dsimp only at hSw); go_simp; (try with_reducible rfl))) | (refine wpT_takeB (i := 3) (v := _) HOPS rfl (by kernel_rfl) (fun _ _ _ h => h) (Or.inr ⟨by rfl, rfl⟩) (by assumption) ?_)
              try simp only [Act.put, List.getElem_toArray, List.getElem_cons_succ, List.getElem_cons_zero, List.setIfInBounds_toArray, List.set_cons_zero, List.set_cons_succ]
              first | (refine wpT_takeB (i := 4) (v := ?_) HOPS rfl (by kernel_rfl) (fun _ _ _ h => h) (Or.inl ⟨by rfl, ?hy⟩) (by assumption) ?_; case hy => (intro w hSw; (try dsimp only at hSw); go_simp; (try with_reducible rfl))) | (refine wpT_takeB (i := 4) (v := _) HOPS rfl (by kernel_rfl) (fun _ _ _ h => h) (Or.inr ⟨by rfl, rfl⟩) (by assumption) ?_)
              try simp only [Act.put, List.getElem_toArray, List.getElem_cons_succ, List.getElem_cons_zero, List.setIfInBounds_toArray, List.set_cons_zero, List.set_cons_succ]
              first | (refine wpT_takeB (i := 5) (v := ?_) HOPS rfl (by kernel_rfl) (fun _ _ _ h => h) (Or.inl ⟨by rfl, ?hy⟩) (by assumption) ?_; case hy => (intro w hSw; (try dsimp only at hSw); go_simp; (try with_reducible rfl))) | (refine wpT_takeB (i := 5) (v := _) HOPS rfl (by kernel_rfl) (fun _ _ _ h => h) (Or.inr ⟨by rfl, rfl⟩) (by assumption) ?_)
              try simp only [Act.put, List.getElem_toArray, List.getElem_cons_succ, List.getElem_cons_zero, List.setIfInBounds_toArray, List.set_cons_zero, List.set_cons_succ]
              first | (refine wpT_takeB (i := 6) (v := ?_) HOPS rfl (by kernel_rfl) (fun _ _ _ h => h) (Or.inl ⟨by rfl, ?hy⟩) (by assumption) ?_; case hy => (intro w hSw; (try dsimp only at hSw); go_simp; (try with_reducible rfl))) | (refine wpT_takeB (i := 6) (v := _) HOPS rfl (by kernel_rfl) (fun _ _ _ h => h) (Or.inr ⟨by rfl, rfl⟩) (by assumption) ?_)
              try simp only [Act.put, List.getElem_toArray, List.getElem_cons_succ, List.getElem_cons_zero, List.setIfInBounds_toArray, List.set_cons_zero, List.set_cons_succ]
              first | (refine wpT_takeB (i := 7) (v := ?_) HOPS rfl (by kernel_rfl) (fun _ _ _ h => h) (Or.inl ⟨by rfl, ?hy⟩) (by assumption) ?_; case hy => (intro w hSw; (try dsimp only at hSw); go_simp; (try with_reducible rfl))) | (refine wpT_takeB (i := 7) (v := _) HOPS rfl (by kernel_rfl) (fun _ _ _ h => h) (Or.inr ⟨by rfl, rfl⟩) (by assumption) ?_)
              try simp only [Act.put, List.getElem_toArray, List.getElem_cons_succ, List.getElem_cons_zero, List.setIfInBounds_toArray, List.set_cons_zero, List.set_cons_succ]
              first | (refine wpT_takeB (i := 8) (v := ?_) HOPS rfl (by kernel_rfl) (fun _ _ _ h => h) (Or.inl ⟨by rfl, ?hy⟩) (by assumption) ?_; case hy => (intro w hSw; (try dsimp only at hSw); go_simp; (try with_reducible rfl))) | (refine wpT_takeB (i := 8) (v := _) HOPS rfl (by kernel_rfl) (fun _ _ _ h => h) (Or.inr ⟨by rfl, rfl⟩) (by assumption) ?_)
              try simp only [Act.put, List.getElem_toArray, List.getElem_cons_succ, List.getElem_cons_zero, List.setIfInBounds_toArray, List.set_cons_zero, List.set_cons_succ]
              first | (refine wpT_takeB (i := 9) (v := ?_) HOPS rfl (by kernel_rfl) (fun _ _ _ h => h) (Or.inl ⟨by rfl, ?hy⟩) (by assumption) ?_; case hy => (intro w hSw; (try dsimp only at hSw); go_simp; (try with_reducible rfl))) | (refine wpT_takeB (i := 9) (v := _) HOPS rfl (by kernel_rfl) (fun _ _ _ h => h) (Or.inr ⟨by rfl, rfl⟩) (by assumption) ?_)
              try simp only [Act.put, List.getElem_toArray, List.getElem_cons_succ, List.getElem_cons_zero, List.setIfInBounds_toArray, List.set_cons_zero, List.set_cons_succ]
              first | (refine wpT_takeB (i := 10) (v := ?_) HOPS rfl (by kernel_rfl) (fun _ _ _ h => h) (Or.inl ⟨by rfl, ?hy⟩) (by assumption) ?_; case hy => (intro w hSw; (try dsimp only at hSw); go_simp; (try with_reducible rfl))) | (refine wpT_takeB (i := 10) (v := _) HOPS rfl (by kernel_rfl) (fun _ _ _ h => h) (Or.inr ⟨by rfl, rfl⟩) (by assumption) ?_)
              try simp only [Act.put, List.getElem_toArray, List.getElem_cons_succ, List.getElem_cons_zero, List.setIfInBounds_toArray, List.set_cons_zero, List.set_cons_succ]
              first | (refine wpT_takeB (i := 11) (v := ?_) HOPS rfl (by kernel_rfl) (fun _ _ _ h => h) (Or.inl ⟨by rfl, ?hy⟩) (by assumption) ?_; case hy => (intro w hSw; (try dsimp only at hSw); go_simp; (try with_reducible rfl))) | (refine wpT_takeB (i := 11) (v := _) HOPS rfl (by kernel_rfl) (fun _ _ _ h => h) (Or.inr ⟨by rfl, rfl⟩) (by assumption) ?_)
              try simp only [Act.put, List.getElem_toArray, List.getElem_cons_succ, List.getElem_cons_zero, List.setIfInBounds_toArray, List.set_cons_zero, List.set_cons_succ]
              first | (refine wpT_takeB (i := 12) (v := ?_) HOPS rfl (by kernel_rfl) (fun _ _ _ h => h) (Or.inl ⟨by rfl, ?hy⟩) (by assumption) ?_; case hy => (intro w hSw; (try dsimp only at hSw); go_simp; (try with_reducible rfl))) | (refine wpT_takeB (i := 12) (v := _) HOPS rfl (by kernel_rfl) (fun _ _ _ h => h) (Or.inr ⟨by rfl, rfl⟩) (by assumption) ?_)
              try simp only [Act.put, List.getElem_toArray, List.getElem_cons_succ, List.getElem_cons_zero, List.setIfInBounds_toArray, List.set_cons_zero, List.set_cons_succ]
              first | (refine wpT_takeB (i := 13) (v := ?_) HOPS rfl (by kernel_rfl) (fun _ _ _ h => h) (Or.inl ⟨by rfl, ?hy⟩) (by assumption) ?_; case hy => (intro w hSw; (try dsimp only at hSw); go_simp; (try with_reducible rfl))) | (refine wpT_takeB (i := 13) (v := _) HOPS rfl (by kernel_rfl) (fun _ _ _ h => h) (Or.inr ⟨by rfl, rfl⟩) (by assumption) ?_)
              try simp only [Act.put, List.getElem_toArray, List.getElem_cons_succ, List.getElem_cons_zero, List.setIfInBounds_toArray, List.set_cons_zero, List.set_cons_succ]
              first | (refine wpT_takeB (i := 14) (v := ?_) HOPS rfl (by kernel_rfl) (fun _ _ _ h => h) (Or.inl ⟨by rfl, ?hy⟩) (by assumption) ?_; case hy => (intro w hSw; (try dsimp only at hSw); go_simp; (try with_reducible rfl))) | (refine wpT_takeB (i := 14) (v := _) HOPS rfl (by kernel_rfl) (fun _ _ _ h => h) (Or.inr ⟨by rfl, rfl⟩) (by assumption) ?_)
              try simp only [Act.put, List.getElem_toArray, List.getElem_cons_succ, List.getElem_cons_zero, List.setIfInBounds_toArray, List.set_cons_zero, List.set_cons_succ]
              first | (refine wpT_takeB (i := 15) (v := ?_) HOPS rfl (by kernel_rfl) (fun _ _ _ h => h) (Or.inl ⟨by rfl, ?hy⟩) (by assumption) ?_; case hy => (intro w hSw; (try dsimp only at hSw); go_simp; (try with_reducible rfl))) | (refine wpT_takeB (i := 15) (v := _) HOPS rfl (by kernel_rfl) (fun _ _ _ h => h) (Or.inr ⟨by rfl, rfl⟩) (by assumption) ?_)
              try simp only [Act.put, List.getElem_toArray, List.getElem_cons_succ, List.getElem_cons_zero, List.setIfInBounds_toArray, List.set_cons_zero, List.set_cons_succ]
              refine wpT_ready (rs := [16]) (by kernel_rfl) (by simp) ?_
              refine ReadyT.lastB HOPS rfl (by rfl) (by kernel_rfl) (fun K hK => ?_) ReadyT.nil
              go_simp
              refine hK.out _ _ ?_
              clear hK K
              try simp only [Act.put, List.getElem_toArray, List.getElem_cons_succ, List.getElem_cons_zero, List.setIfInBounds_toArray, List.set_cons_zero, List.set_cons_succ]
              refine wpT_done (by kernel_rfl) ?_ _
              clear HOPS
              repeat clear hHeld
              go_wp2_with fail
              go_meet
              exact ⟨by rw [decide_eq_false (show ¬ (t0 ≤ r ∧ r < t1) from by omega)], NW0⟩
          case rest => as_aux_lemma =>
            obtain ⟨rfl, HN⟩ := hcut
            obtain ⟨wc0, hwc0⟩ : ∃ W : World, W = wc := ⟨_, rfl⟩
            subst hwc0
            replace NX := Lib.hid (NX.out.trans HN.out)
            replace RN := Lib.hid (RN.out.kept HN.out id)
            replace MX := Lib.hid (MX.out.kept HN.out id)
            replace HLA := Lib.hid (HLA.out.kept HN.out nof)
            replace HLB := Lib.hid (HLB.out.kept HN.out nof)
            replace HB0 := Lib.hid (HN.out.heap HB0.out id)
            replace HB2 := Lib.hid (HN.out.heap HB2.out id)
            replace SZ := Nat.lt_of_lt_of_le SZ HN.out.size
            replace HBM := Lib.hid ((HBM.out.kept HN.out nof).hi HN.out.size)
            replace HB8 := Lib.hid (HN.out.heap HB8.out id)
            replace HIX := Lib.hid ((HIX.out.kept HN.out nof).hi HN.out.size)
            replace HB9 := Lib.hid (HN.out.heap HB9.out id)
            replace HB1 := Lib.hid (HN.out.heap HB1.out id)
            replace HIY := Lib.hid ((HIY.out.kept HN.out nof).hi HN.out.size)
            replace HBY := Lib.hid (HN.out.heap HBY.out id)
            replace HIZ := Lib.hid ((HIZ.out.kept HN.out nof).hi HN.out.size)
            replace HBZ := Lib.hid (HN.out.heap HBZ.out id)
            have KX := Lib.hid (HN.out.cell KX.out id)
            have KY := Lib.hid (HN.out.cell KY.out id)
            go_wp2_with fail
            have hcnt : (cnt (fun j => knP j (px pxY j)) (k + 1) : Int) = (cnt (fun j => knP j (px pxY j)) k : Int) + if yk = 2 then 0 else 1 := by
              show ((cnt _ k + (if knP k (px pxY k) = true then 1 else 0) : Nat) : Int) = _
              rw [px_get HYK.out]
              unfold knP
              by_cases h : yk = 2 <;> simp [h]
            have hcl := cnt_le (fun j => knP j (px pxY j)) k
            generalize hcN : cnt (fun j => knP j (px pxY j)) k = cN at hcnt hcl ⊢
            have HCN := Lib.hid hcnt
            clear hcnt hcN
            have ew : IntKind.i64.wrap ((cN : Int) + 1) = (cN : Int) + 1 := by rw [IntKind.wrap_i64]; omega
            by_cases hI : t0 ≤ r ∧ r < t1
            · obtain rfl : yk = 2 := by rw [← HYE.out]; unfold hideP; rw [HR2.out, if_pos hI]
              have hd : decide (t0 ≤ r ∧ r < t1) = true := decide_eq_true hI
              rw [hd]
              clear hd hI
              have NW0 := Lib.hid (Ch.refl (fun _ => False) wc0)
              refine wp_named ?_
              intro W18 hW
              have n : Nw wc0 W18 := by rw [hW]; first | exact Ch.refl _ _ | exact (Ch.refl _ _).alloc _
              replace NX := Lib.hid (NX.out.trans n)
              replace RN := Lib.hid (RN.out.kept n id)
              replace MX := Lib.hid (MX.out.kept n id)
              replace HLA := Lib.hid (HLA.out.kept n nof)
              replace HLB := Lib.hid (HLB.out.kept n nof)
              replace HB0 := Lib.hid (n.heap HB0.out id)
              replace HB2 := Lib.hid (n.heap HB2.out id)
              replace SZ := Nat.lt_of_lt_of_le SZ n.size
              replace HBM := Lib.hid ((HBM.out.kept n nof).hi n.size)
              replace HB8 := Lib.hid (n.heap HB8.out id)
              replace HIX := Lib.hid ((HIX.out.kept n nof).hi n.size)
              replace HB9 := Lib.hid (n.heap HB9.out id)
              replace HB1 := Lib.hid (n.heap HB1.out id)
              replace HIY := Lib.hid ((HIY.out.kept n nof).hi n.size)
              replace HBY := Lib.hid (n.heap HBY.out id)
              replace HIZ := Lib.hid ((HIZ.out.kept n nof).hi n.size)
              replace HBZ := Lib.hid (n.heap HBZ.out id)
              replace NW0 := Lib.hid (NW0.out.trans n)
              replace KX := Lib.hid (n.cell KX.out id)
              replace KY := Lib.hid (n.cell KY.out id)
              clear hW n
              refine wp_region_U (F := fun w' => w'.cell? ⟨w6.heap.size, 2, none⟩ = some (.slice (some ⟨g9, 0, none⟩) px0.length c9) ∧ w'.cell? ⟨w8.heap.size, 2, none⟩ = some (.slice (some ⟨gY, oY, none⟩) px0.length cY) ∧ w'.cell? ⟨gY, oY + k, none⟩ = some (.int .i64 2) ∧ w'.cell? ⟨g9, k, none⟩ = some (.int .i64 xk)) (opsOf Tryd.f5 18) 26 26 (by kernel_rfl) (by kernel_rfl) (by kernel_rfl) ⟨by show W18.cell? _ = _; rw [cell_of HB9.out]; rfl, by show W18.cell? _ = _; rw [cell_of HBY.out]; rfl, KY.out, KX.out⟩ (fun HOPS hHeld => ?_)
              refine wpT_named ?_
              intro W19 hW
              rw [← hW] at hHeld
              have n : Nw W18 W19 := by rw [hW]; exact (Ch.refl _ _).drew
              replace NX := Lib.hid (NX.out.trans n)
              replace RN := Lib.hid (RN.out.kept n id)
              replace MX := Lib.hid (MX.out.kept n id)
              replace HLA := Lib.hid (HLA.out.kept n nof)
              replace HLB := Lib.hid (HLB.out.kept n nof)
              replace HB0 := Lib.hid (n.heap HB0.out id)
              replace HB2 := Lib.hid (n.heap HB2.out id)
              replace SZ := Nat.lt_of_lt_of_le SZ n.size
              replace HBM := Lib.hid ((HBM.out.kept n nof).hi n.size)
              replace HB8 := Lib.hid (n.heap HB8.out id)
              replace HIX := Lib.hid ((HIX.out.kept n nof).hi n.size)
              replace HB9 := Lib.hid (n.heap HB9.out id)
              replace HB1 := Lib.hid (n.heap HB1.out id)
              replace HIY := Lib.hid ((HIY.out.kept n nof).hi n.size)
              replace HBY := Lib.hid (n.heap HBY.out id)
              replace HIZ := Lib.hid ((HIZ.out.kept n nof).hi n.size)
              replace HBZ := Lib.hid (n.heap HBZ.out id)
              replace NW0 := Lib.hid (NW0.out.trans n)
              replace KX := Lib.hid (n.cell KX.out id)
              replace KY := Lib.hid (n.cell KY.out id)
              clear hW n
              first | (refine wpT_takeB (i := 0) (v := ?_) HOPS rfl (by kernel_rfl) (fun _ _ _ h => h) (Or.inl ⟨by rfl, ?hy⟩) (by assumption) ?_; case hy => (intro w hSw; (try dsimp only at hSw); go_simp; (try with_reducible rfl))) | (refine wpT_takeB (i := 0) (v := _) HOPS rfl (by kernel_rfl) (fun _ _ _ h => h) (Or.inr ⟨by rfl, rfl⟩) (by assumption) ?_)
              try simp only [Act.put, List.getElem_toArray, List.getElem_cons_succ, List.getElem_cons_zero, List.setIfInBounds_toArray, List.set_cons_zero, List.set_cons_succ]
              first | (refine wpT_takeB (i := 1) (v := ?_) HOPS rfl (by kernel_rfl) (fun _ _ _ h => h) (Or.inl ⟨by rfl, ?hy⟩) (by assumption) ?_; case hy => (intro w hSw; (try dsimp only at hSw); go_simp; (try with_reducible rfl))) | (refine wpT_takeB (i := 1) (v := _) HOPS rfl (by kernel_rfl) (fun _ _ _ h => h) (Or.inr ⟨by rfl, rfl⟩) (by assumption) ?_)
              try simp only [Act.put, List.getElem_toArray, List.getElem_cons_succ, List.getElem_cons_zero, List.setIfInBounds_toArray, List.set_cons_zero, List.set_cons_succ]
              first | (refine wpT_takeB (i := 2) (v := ?_) HOPS rfl (by kernel_rfl) (fun _ _ _ h => h) (Or.inl ⟨by rfl, ?hy⟩) (by assumption) ?_; case hy => (intro w hSw; (try dsimp only at hSw); go_simp; (try with_reducible rfl))) | (refine wpT_takeB (i := 2) (v := _) HOPS rfl (by kernel_rfl) (fun _ _ _ h => h) (Or.inr ⟨by rfl, rfl⟩) (by assumption) ?_)
              try simp only [Act.put, List.getElem_toArray, List.getElem_cons_succ, List.getElem_cons_zero, List.setIfInBounds_toArray, List.set_cons_zero, List.set_cons_succ]
              first | (refine wpT_takeB (i := 3) (v := ?_) HOPS rfl (by kernel_rfl) (fun _ _ _ h => h) (Or.inl ⟨by rfl, ?hy⟩) (by assumption) ?_; case hy => (intro w hSw; (try dsimp only at hSw); go_simp; (try with_reducible rfl))) | (refine wpT_takeB (i := 3) (v := _) HOPS rfl (by kernel_rfl) (fun _ _ _ h => h) (Or.inr ⟨by rfl, rfl⟩) (by assumption) ?_)
              try simp only [Act.put, List.getElem_toArray, List.getElem_cons_succ, List.getElem_cons_zero, List.setIfInBounds_toArray, List.set_cons_zero, List.set_cons_succ]
              first | (refine wpT_takeB (i := 4) (v := ?_) HOPS rfl (by kernel_rfl) (fun _ _ _ h => h) (Or.inl ⟨by rfl, ?hy⟩) (by assumption) ?_; case hy => (intro w hSw; (try dsimp only at hSw); go_simp; (try with_reducible rfl))) | (refine wpT_takeB (i := 4) (v := _) HOPS rfl (by kernel_rfl) (fun _ _ _ h => h) (Or.inr ⟨by rfl, rfl⟩) (by assumption) ?_)
              try simp only [Act.put, List.getElem_toArray, List.getElem_cons_succ, List.getElem_cons_zero, List.setIfInBounds_toArray, List.set_cons_zero, List.set_cons_succ]
              first | (refine wpT_takeB (i := 5) (v := ?_) HOPS rfl (by kernel_rfl) (fun _ _ _ h => h) (Or.inl ⟨by rfl, ?hy⟩) (by assumption) ?_; case hy => (intro w hSw; (try dsimp only at hSw); go_simp; (try with_reducible rfl))) | (refine wpT_takeB (i := 5) (v := _) HOPS rfl (by kernel_rfl) (fun _ _ _ h => h) (Or.inr ⟨by rfl, rfl⟩) (by assumption) ?_)
              try simp only [Act.put, List.getElem_toArray, List.getElem_cons_succ, List.getElem_cons_zero, List.setIfInBounds_toArray, List.set_cons_zero, List.set_cons_succ]
              first | (refine wpT_takeB (i := 6) (v := ?_) HOPS rfl (by kernel_rfl) (fun _ _ _ h => h) (Or.inl ⟨by rfl, ?hy⟩) (by assumption) ?_; case hy => (intro w hSw; (try dsimp only at hSw); go_simp; (try with_reducible rfl))) | (refine wpT_takeB (i := 6) (v := _) HOPS rfl (by kernel_rfl) (fun _ _ _ h => h) (Or.inr ⟨by rfl, rfl⟩) (by assumption) ?_)
              try simp only [Act.put, List.getElem_toArray, List.getElem_cons_succ, List.getElem_cons_zero, List.setIfInBounds_toArray, List.set_cons_zero, List.set_cons_succ]
              first | (refine wpT_takeB (i := 7) (v := ?_) HOPS rfl (by kernel_rfl) (fun _ _ _ h => h) (Or.inl ⟨by rfl, ?hy⟩) (by assumption) ?_; case hy => (intro w hSw; (try dsimp only at hSw); go_simp; (try with_reducible rfl))) | (refine wpT_takeB (i := 7) (v := _) HOPS rfl (by kernel_rfl) (fun _ _ _ h => h) (Or.inr ⟨by rfl, rfl⟩) (by assumption) ?_)
              try simp only [Act.put, List.getElem_toArray, List.getElem_cons_succ, List.getElem_cons_zero, List.setIfInBounds_toArray, List.set_cons_zero, List.set_cons_succ]
              first | (refine wpT_takeB (i := 8) (v := ?_) HOPS rfl (by kernel_rfl) (fun _ _ _ h => h) (Or.inl ⟨by rfl, ?hy⟩) (by assumption) ?_; case hy => (intro w hSw; (try dsimp only at hSw); go_simp; (try with_reducible rfl))) | (refine wpT_takeB (i := 8) (v := _) HOPS rfl (by kernel_rfl) (fun _ _ _ h => h) (Or.inr ⟨by rfl, rfl⟩) (by assumption) ?_)
              try simp only [Act.put, List.getElem_toArray, List.getElem_cons_succ, List.getElem_cons_zero, List.setIfInBounds_toArray, List.set_cons_zero, List.set_cons_succ]
              first | (refine wpT_takeB (i := 9) (v := ?_) HOPS rfl (by kernel_rfl) (fun _ _ _ h => h) (Or.inl ⟨by rfl, ?hy⟩) (by assumption) ?_; case hy => (intro w hSw; (try dsimp only at hSw); go_simp; (try with_reducible rfl))) | (refine wpT_takeB (i := 9) (v := _) HOPS rfl (by kernel_rfl) (fun _ _ _ h => h) (Or.inr ⟨by rfl, rfl⟩) (by assumption) ?_)
              try simp only [Act.put, List.getElem_toArray, List.getElem_cons_succ, List.getElem_cons_zero, List.setIfInBounds_toArray, List.set_cons_zero, List.set_cons_succ]
              first | (refine wpT_takeB (i := 10) (v := ?_) HOPS rfl (by kernel_rfl) (fun _ _ _ h => h) (Or.inl ⟨by rfl, ?hy⟩) (by assumption) ?_; case hy => (intro w hSw; (try dsimp only at hSw); go_simp; (try with_reducible rfl))) | (refine wpT_takeB (i := 10) (v := _) HOPS rfl (by kernel_rfl) (fun _ _ _ h => h) (Or.inr ⟨by rfl, rfl⟩) (by assumption) ?_)
              try simp only [Act.put, List.getElem_toArray, List.getElem_cons_succ, List.getElem_cons_zero, List.setIfInBounds_toArray, List.set_cons_zero, List.set_cons_succ]
              first | (refine wpT_takeB (i := 11) (v := ?_) HOPS rfl (by kernel_rfl) (fun _ _ _ h => h) (Or.inl ⟨by rfl, ?hy⟩) (by assumption) ?_; case hy => (intro w hSw; (try dsimp only at hSw); go_simp; (try with_reducible rfl))) | (refine wpT_takeB (i := 11) (v := _) HOPS rfl (by kernel_rfl) (fun _ _ _ h => h) (Or.inr ⟨by rfl, rfl⟩) (by assumption) ?_)
              try simp only [Act.put, List.getElem_toArray, List.getElem_cons_succ, List.getElem_cons_zero, List.setIfInBounds_toArray, List.set_cons_zero, List.set_cons_succ]
              first | (refine wpT_takeB (i := 12) (v := ?_) HOPS rfl (by kernel_rfl) (fun _ _ _ h => h) (Or.inl ⟨by rfl, ?hy⟩) (by assumption) ?_; case hy => (intro w hSw; (try dsimp only at hSw); go_simp; (try with_reducible rfl))) | (refine wpT_takeB (i := 12) (v := _) HOPS rfl (by kernel_rfl) (fun _ _ _ h => h) (Or.inr ⟨by rfl, rfl⟩) (by assumption) ?_)
              try simp only [Act.put, List.getElem_toArray, List.getElem_cons_succ, List.getElem_cons_zero, List.setIfInBounds_toArray, List.set_cons_zero, List.set_cons_succ]
              first | (refine wpT_takeB (i := 13) (v := ?_) HOPS rfl (by kernel_rfl) (fun _ _ _ h => h) (Or.inl ⟨by rfl, ?hy⟩) (by assumption) ?_; case hy => (intro w hSw; (try dsimp only at hSw); go_simp; (try with_reducible rfl))) | (refine wpT_takeB (i := 13) (v := _) HOPS rfl (by kernel_rfl) (fun _ _ _ h => h) (Or.inr ⟨by rfl, rfl⟩) (by assumption) ?_)
              try simp only [Act.put, List.getElem_toArray, List.getElem_cons_succ, List.getElem_cons_zero, List.setIfInBounds_toArray, List.set_cons_zero, List.set_cons_succ]
              first | (refine wpT_takeB (i := 14) (v := ?_) HOPS rfl (by kernel_rfl) (fun _ _ _ h => h) (Or.inl ⟨by rfl, ?hy⟩) (by assumption) ?_; case hy => (intro w hSw; (try dsimp only at hSw); go_simp; (try with_reducible rfl))) | (refine wpT_takeB (i := 14) (v := _) HOPS rfl (by kernel_rfl) (fun _ _ _ h => h) (Or.inr ⟨by rfl, rfl⟩) (by assumption) ?_)
              try simp only [Act.put, List.getElem_toArray, List.getElem_cons_succ, List.getElem_cons_zero, List.setIfInBounds_toArray, List.set_cons_zero, List.set_cons_succ]
              first | (refine wpT_takeB (i := 15) (v := ?_) HOPS rfl (by kernel_rfl) (fun _ _ _ h => h) (Or.inl ⟨by rfl, ?hy⟩) (by assumption) ?_; case hy => (intro w hSw; (try dsimp only at hSw); go_simp; (try with_reducible rfl))) | (refine wpT_takeB (i := 15) (v := _) HOPS rfl (by kernel_rfl) (fun _ _ _ h => h) (Or.inr ⟨by rfl, rfl⟩) (by assumption) ?_)
              try simp only [Act.put, List.getElem_toArray, List.getElem_cons_succ, List.getElem_cons_zero, List.setIfInBounds_toArray, List.set_cons_zero, List.set_cons_succ]
              first | (refine wpT_takeB (i := 16) (v := ?_) HOPS rfl (by kernel_rfl) (fun _ _ _ h => h) (Or.inl ⟨by rfl, ?hy⟩) (by assumption) ?_; case hy => (intro w hSw; (try dsimp only at hSw); go_simp; (try with_reducible rfl))) | (refine wpT_takeB (i := 16) (v := _) HOPS rfl (by kernel_rfl) (fun _ _ _ h => h) (Or.inr ⟨by rfl, rfl⟩) (by assumption) ?_)
              try simp only [Act.put, List.getElem_toArray, List.getElem_cons_succ, List.getElem_cons_zero, List.setIfInBounds_toArray, List.set_cons_zero, List.set_cons_succ]
              first | (refine wpT_takeB (i := 17) (v := ?_) HOPS rfl (by kernel_rfl) (fun _ _ _ h => h) (Or.inl ⟨by rfl, ?hy⟩) (by assumption) ?_; case hy => (intro w hSw; (try dsimp only at hSw); go_simp; (try with_reducible rfl))) | (refine wpT_takeB (i := 17) (v := _) HOPS rfl (by kernel_rfl) (fun _ _ _ h => h) (Or.inr ⟨by rfl, rfl⟩) (by assumption) ?_)
              try simp only [Act.put, List.getElem_toArray, List.getElem_cons_succ, List.getElem_cons_zero, List.setIfInBounds_toArray, List.set_cons_zero, List.set_cons_succ]
              first | (refine wpT_takeB (i := 18) (v := ?_) HOPS rfl (by kernel_rfl) (fun _ _ _ h => h) (Or.inl ⟨by rfl, ?hy⟩) (by assumption) ?_; case hy => (intro w hSw; (try dsimp only at hSw); go_simp; (try with_reducible rfl))) | (refine wpT_takeB (i := 18) (v := _) HOPS rfl (by kernel_rfl) (fun _ _ _ h => h) (Or.inr ⟨by rfl, rfl⟩) (by assumption) ?_)
              try simp only [Act.put, List.getElem_toArray, List.getElem_cons_succ, List.getElem_cons_zero, List.setIfInBounds_toArray, List.set_cons_zero, List.set_cons_succ]
              first | (refine wpT_takeB (i := 19) (v := ?_) HOPS rfl (by kernel_rfl) (fun _ _ _ h => h) (Or.inl ⟨by rfl, ?hy⟩) (by assumption) ?_; case hy => (intro w hSw; (try dsimp only at hSw); go_simp; (try with_reducible rfl))) | (refine wpT_takeB (i := 19) (v := _) HOPS rfl (by kernel_rfl) (fun _ _ _ h => h) (Or.inr ⟨by rfl, rfl⟩) (by assumption) ?_)
              try simp only [Act.put, List.getElem_toArray, List.getElem_cons_succ, List.getElem_cons_zero, List.setIfInBounds_toArray, List.set_cons_zero, List.set_cons_succ]
              first | (refine wpT_takeB (i := 20) (v := ?_) HOPS rfl (by kernel_rfl) (fun _ _ _ h => h) (Or.inl ⟨by rfl, ?hy⟩) (by assumption) ?_; case hy => (intro w hSw; (try dsimp only at hSw); go_simp; (try with_reducible rfl))) | (refine wpT_takeB (i := 20) (v := _) HOPS rfl (by kernel_rfl) (fun _ _ _ h => h) (Or.inr ⟨by rfl, rfl⟩) (by assumption) ?_)
              try simp only [Act.put, List.getElem_toArray, List.getElem_cons_succ, List.getElem_cons_zero, List.setIfInBounds_toArray, List.set_cons_zero, List.set_cons_succ]
              first | (refine wpT_takeB (i := 21) (v := ?_) HOPS rfl (by kernel_rfl) (fun _ _ _ h => h) (Or.inl ⟨by rfl, ?hy⟩) (by assumption) ?_; case hy => (intro w hSw; (try dsimp only at hSw); go_simp; (try with_reducible rfl))) | (refine wpT_takeB (i := 21) (v := _) HOPS rfl (by kernel_rfl) (fun _ _ _ h => h) (Or.inr ⟨by rfl, rfl⟩) (by assumption) ?_)
              try simp only [Act.put, List.getElem_toArray, List.getElem_cons_succ, List.getElem_cons_zero, List.setIfInBounds_toArray, List.set_cons_zero, List.set_cons_succ]
              first | (refine wpT_takeB (i := 22) (v := ?_) HOPS rfl (by kernel_rfl) (fun _ _ _ h => h) (Or.inl ⟨by rfl, ?hy⟩) (by assumption) ?_; case hy => (intro w hSw; (try dsimp only at hSw); go_simp; (try with_reducible rfl))) | (refine wpT_takeB (i := 22) (v := _) HOPS rfl (by kernel_rfl) (fun _ _ _ h => h) (Or.inr ⟨by rfl, rfl⟩) (by assumption) ?_)
              try simp only [Act.put, List.getElem_toArray, List.getElem_cons_succ, List.getElem_cons_zero, List.setIfInBounds_toArray, List.set_cons_zero, List.set_cons_succ]
              first | (refine wpT_takeB (i := 23) (v := ?_) HOPS rfl (by kernel_rfl) (fun _ _ _ h => h) (Or.inl ⟨by rfl, ?hy⟩) (by assumption) ?_; case hy => (intro w hSw; (try dsimp only at hSw); go_simp; (try with_reducible rfl))) | (refine wpT_takeB (i := 23) (v := _) HOPS rfl (by kernel_rfl) (fun _ _ _ h => h) (Or.inr ⟨by rfl, rfl⟩) (by assumption) ?_)
              try simp only [Act.put, List.getElem_toArray, List.getElem_cons_succ, List.getElem_cons_zero, List.setIfInBounds_toArray, List.set_cons_zero, List.set_cons_succ]
              first | (refine wpT_takeB (i := 24) (v := ?_) HOPS rfl (by kernel_rfl) (fun _ _ _ h => h) (Or.inl ⟨by rfl, ?hy⟩) (by assumption) ?_; case hy => (intro w hSw; (try dsimp only at hSw); go_simp; (try with_reducible rfl))) | (refine wpT_takeB (i := 24) (v := _) HOPS rfl (by kernel_rfl) (fun _ _ _ h => h) (Or.inr ⟨by rfl, rfl⟩) (by assumption) ?_)
              try simp only [Act.put, List.getElem_toArray, List.getElem_cons_succ, List.getElem_cons_zero, List.setIfInBounds_toArray, List.set_cons_zero, List.set_cons_succ]
              first | (refine wpT_takeB (i := 25) (v := ?_) HOPS rfl (by kernel_rfl) (fun _ _ _ h => h) (Or.inl ⟨by rfl, ?hy⟩) (by assumption) ?_; case hy => (intro w hSw; (try dsimp only at hSw); go_simp; (try with_reducible rfl))) | (refine wpT_takeB (i := 25) (v := _) HOPS rfl (by kernel_rfl) (fun _ _ _ h => h) (Or.inr ⟨by rfl, rfl⟩) (by assumption) ?_)
              try simp only [Act.put, List.getElem_toArray, List.getElem_cons_succ, List.getElem_cons_zero, List.setIfInBounds_toArray, List.set_cons_zero, List.set_cons_succ]
              refine wpT_done (by kernel_rfl) ?_ _
              clear HOPS
              repeat clear hHeld
              have kHBY2 : W19.cell? ⟨w8.heap.size, 2, none⟩ = some (.slice (some ⟨gY, oY, none⟩) px0.length cY) := by rw [cell_of HBY.out]; rfl
              have ky := KY.out
              have hfin := Lib.hid (HC.out.trans (HN.out.trans NW0.out))
              have hcn := HCN.out
              clear HCN
              go_wp2_with fail
              refine ⟨⟨k + 1, by go_num, by rw [hcn]; simp, by omega, hfin⟩, ?_⟩
              simp [intOf]; omega
            · obtain rfl : yk = xk := by rw [← HYE.out]; unfold hideP; rw [HR2.out, if_neg hI]
              have hd : decide (t0 ≤ r ∧ r < t1) = false := decide_eq_false hI
              rw [hd]
              clear hd hI
              have NW0 := Lib.hid (Ch.refl (fun _ => False) wc0)
              refine wp_named ?_
              intro W20 hW
              have n : Nw wc0 W20 := by rw [hW]; first | exact Ch.refl _ _ | exact (Ch.refl _ _).alloc _
              replace NX := Lib.hid (NX.out.trans n)
              replace RN := Lib.hid (RN.out.kept n id)
              replace MX := Lib.hid (MX.out.kept n id)
              replace HLA := Lib.hid (HLA.out.kept n nof)
              replace HLB := Lib.hid (HLB.out.kept n nof)
              replace HB0 := Lib.hid (n.heap HB0.out id)
              replace HB2 := Lib.hid (n.heap HB2.out id)
              replace SZ := Nat.lt_of_lt_of_le SZ n.size
              replace HBM := Lib.hid ((HBM.out.kept n nof).hi n.size)
              replace HB8 := Lib.hid (n.heap HB8.out id)
              replace HIX := Lib.hid ((HIX.out.kept n nof).hi n.size)
              replace HB9 := Lib.hid (n.heap HB9.out id)
              replace HB1 := Lib.hid (n.heap HB1.out id)
              replace HIY := Lib.hid ((HIY.out.kept n nof).hi n.size)
              replace HBY := Lib.hid (n.heap HBY.out id)
              replace HIZ := Lib.hid ((HIZ.out.kept n nof).hi n.size)
              replace HBZ := Lib.hid (n.heap HBZ.out id)
              replace NW0 := Lib.hid (NW0.out.trans n)
              replace KX := Lib.hid (n.cell KX.out id)
              replace KY := Lib.hid (n.cell KY.out id)
              clear hW n
              refine wp_region_U (F := fun w' => w'.cell? ⟨w6.heap.size, 2, none⟩ = some (.slice (some ⟨g9, 0, none⟩) px0.length c9) ∧ w'.cell? ⟨w8.heap.size, 2, none⟩ = some (.slice (some ⟨gY, oY, none⟩) px0.length cY) ∧ w'.cell? ⟨gY, oY + k, none⟩ = some (.int .i64 yk) ∧ w'.cell? ⟨g9, k, none⟩ = some (.int .i64 yk)) (opsOf Tryd.f5 18) 26 26 (by kernel_rfl) (by kernel_rfl) (by kernel_rfl) ⟨by show W20.cell? _ = _; rw [cell_of HB9.out]; rfl, by show W20.cell? _ = _; rw [cell_of HBY.out]; rfl, KY.out, KX.out⟩ (fun HOPS hHeld => ?_)
              refine wpT_named ?_
              intro W21 hW
              rw [← hW] at hHeld
              have n : Nw W20 W21 := by rw [hW]; exact (Ch.refl _ _).drew
              replace NX := Lib.hid (NX.out.trans n)
              replace RN := Lib.hid (RN.out.kept n id)
              replace MX := Lib.hid (MX.out.kept n id)
              replace HLA := Lib.hid (HLA.out.kept n nof)
              replace HLB := Lib.hid (HLB.out.kept n nof)
              replace HB0 := Lib.hid (n.heap HB0.out id)
              replace HB2 := Lib.hid (n.heap HB2.out id)
              replace SZ := Nat.lt_of_lt_of_le SZ n.size
              replace HBM := Lib.hid ((HBM.out.kept n nof).hi n.size)
              replace HB8 := Lib.hid (n.heap HB8.out id)
              replace HIX := Lib.hid ((HIX.out.kept n nof).hi n.size)
              replace HB9 := Lib.hid (n.heap HB9.out id)
              replace HB1 := Lib.hid (n.heap HB1.out id)
              replace HIY := Lib.hid ((HIY.out.kept n nof).hi n.size)
              replace HBY := Lib.hid (n.heap HBY.out id)
              replace HIZ := Lib.hid ((HIZ.out.kept n nof).hi n.size)
              replace HBZ := Lib.hid (n.heap HBZ.out id)
              replace NW0 := Lib.hid (NW0.out.trans n)
              replace KX := Lib.hid (n.cell KX.out id)
              replace KY := Lib.hid (n.cell KY.out id)
              clear hW n
              first | (refine wpT_takeB (i := 0) (v := ?_) HOPS rfl (by kernel_rfl) (fun _ _ _ h => h) (Or.inl ⟨by rfl, ?hy⟩) (by assumption) ?_; case hy => (intro w hSw; (try dsimp only at hSw); go_simp; (try with_reducible rfl))) | (refine wpT_takeB (i := 0) (v := _) HOPS rfl (by kernel_rfl) (fun _ _ _ h => h) (Or.inr ⟨by rfl, rfl⟩) (by assumption) ?_)
              try simp only [Act.put, List.getElem_toArray, List.getElem_cons_succ, List.getElem_cons_zero, List.setIfInBounds_toArray, List.set_cons_zero, List.set_cons_succ]
              first | (refine wpT_takeB (i := 1) (v := ?_) HOPS rfl (by kernel_rfl) (fun _ _ _ h => h) (Or.inl ⟨by rfl, ?hy⟩) (by assumption) ?_; case hy => (intro w hSw; (try dsimp only at hSw); go_simp; (try with_reducible rfl))) | (refine wpT_takeB (i := 1) (v := _) HOPS rfl (by kernel_rfl) (fun _ _ _ h => h) (Or.inr ⟨by rfl, rfl⟩) (by assumption) ?_)
              try simp only [Act.put, List.getElem_toArray, List.getElem_cons_succ, List.getElem_cons_zero, List.setIfInBounds_toArray, List.set_cons_zero, List.set_cons_succ]
              first | (refine wpT_takeB (i := 2) (v := ?_) HOPS rfl (by kernel_rfl) (fun _ _ _ h => h) (Or.inl ⟨by rfl, ?hy⟩) (by assumption) ?_; case hy => (intro w hSw; (try dsimp only at hSw); go_simp; (try with_reducible rfl))) | (refine wpT_takeB (i := 2) (v := _) HOPS rfl (by kernel_rfl) (fun _ _ _ h => h) (Or.inr ⟨by rfl, rfl⟩) (by assumption) ?_)
              try simp only [Act.put, List.getElem_toArray, List.getElem_cons_succ, List.getElem_cons_zero, List.setIfInBounds_toArray, List.set_cons_zero, List.set_cons_succ]
              first | (refine wpT_takeB (i := 3) (v := ?_) HOPS rfl (by kernel_rfl) (fun _ _ _ h => h) (Or.inl ⟨by rfl, ?hy⟩) (by assumption) ?_; case hy => (intro w hSw; (try dsimp only at hSw); go_simp; (try with_reducible rfl))) | (refine wpT_takeB (i := 3) (v := _) HOPS rfl (by kernel_rfl) (fun _ _ _ h => h) (Or.inr ⟨by rfl, rfl⟩) (by assumption) ?_)
              try simp only [Act.put, List.getElem_toArray, List.getElem_cons_succ, List.getElem_cons_zero, List.setIfInBounds_toArray, List.set_cons_zero, List.set_cons_succ]
              first | (refine wpT_takeB (i := 4) (v := ?_) HOPS rfl (by kernel_rfl) (fun _ _ _ h => h) (Or.inl ⟨by rfl, ?hy⟩) (by assumption) ?_; case hy => (intro w hSw; (try dsimp only at hSw); go_simp; (try with_reducible rfl))) | (refine wpT_takeB (i := 4) (v := _) HOPS rfl (by kernel_rfl) (fun _ _ _ h => h) (Or.inr ⟨by rfl, rfl⟩) (by assumption) ?_)
              try simp only [Act.put, List.getElem_toArray, List.getElem_cons_succ, List.getElem_cons_zero, List.setIfInBounds_toArray, List.set_cons_zero, List.set_cons_succ]
              first | (refine wpT_takeB (i := 5) (v := ?_) HOPS rfl (by kernel_rfl) (fun _ _ _ h => h) (Or.inl ⟨by rfl, ?hy⟩) (by assumption) ?_; case hy => (intro w hSw; (try dsimp only at hSw); go_simp; (try with_reducible rfl))) | (refine wpT_takeB (i := 5) (v := _) HOPS rfl (by kernel_rfl) (fun _ _ _ h => h) (Or.inr ⟨by rfl, rfl⟩) (by assumption) ?_)
              try simp only [Act.put, List.getElem_toArray, List.getElem_cons_succ, List.getElem_cons_zero, List.setIfInBounds_toArray, List.set_cons_zero, List.set_cons_succ]
              first | (refine wpT_takeB (i := 6) (v := ?_) HOPS rfl (by kernel_rfl) (fun _ _ _ h => h) (Or.inl ⟨by rfl, ?hy⟩) (by assumption) ?_; case hy => (intro w hSw; (try dsimp only at hSw); go_simp; (try with_reducible rfl))) | (refine wpT_takeB (i := 6) (v := _) HOPS rfl (by kernel_rfl) (fun _ _ _ h => h) (Or.inr ⟨by rfl, rfl⟩) (by assumption) ?_)
              try simp only [Act.put, List.getElem_toArray, List.getElem_cons_succ, List.getElem_cons_zero, List.setIfInBounds_toArray, List.set_cons_zero, List.set_cons_succ]
              first | (refine wpT_takeB (i := 7) (v := ?_) HOPS rfl (by kernel_rfl) (fun _ _ _ h => h) (Or.inl ⟨by rfl, ?hy⟩) (by assumption) ?_; case hy => (intro w hSw; (try dsimp only at hSw); go_simp; (try with_reducible rfl))) | (refine wpT_takeB (i := 7) (v := _) HOPS rfl (by kernel_rfl) (fun _ _ _ h => h) (Or.inr ⟨by rfl, rfl⟩) (by assumption) ?_)
              try simp only [Act.put, List.getElem_toArray, List.getElem_cons_succ, List.getElem_cons_zero, List.setIfInBounds_toArray, List.set_cons_zero, List.set_cons_succ]
              first | (refine wpT_takeB (i := 8) (v := ?_) HOPS rfl (by kernel_rfl) (fun _ _ _ h => h) (Or.inl ⟨by rfl, ?hy⟩) (by assumption) ?_; case hy => (intro w hSw; (try dsimp only at hSw); go_simp; (try with_reducible rfl))) | (refine wpT_takeB (i := 8) (v := _) HOPS rfl (by kernel_rfl) (fun _ _ _ h => h) (Or.inr ⟨by rfl, rfl⟩) (by assumption) ?_)
              try simp only [Act.put, List.getElem_toArray, List.getElem_cons_succ, List.getElem_cons_zero, List.setIfInBounds_toArray, List.set_cons_zero, List.set_cons_succ]
              first | (refine wpT_takeB (i := 9) (v := ?_) HOPS rfl (by kernel_rfl) (fun _ _ _ h => h) (Or.inl ⟨by rfl, ?hy⟩) (by assumption) ?_; case hy => (intro w hSw; (try dsimp only at hSw); go_simp; (try with_reducible rfl))) | (refine wpT_takeB (i := 9) (v := _) HOPS rfl (by kernel_rfl) (fun _ _ _ h => h) (Or.inr ⟨by rfl, rfl⟩) (by assumption) ?_)
              try simp only [Act.put, List.getElem_toArray, List.getElem_cons_succ, List.getElem_cons_zero, List.setIfInBounds_toArray, List.set_cons_zero, List.set_cons_succ]
              first | (refine wpT_takeB (i := 10) (v := ?_) HOPS rfl (by kernel_rfl) (fun _ _ _ h => h) (Or.inl ⟨by rfl, ?hy⟩) (by assumption) ?_; case hy => (intro w hSw; (try dsimp only at hSw); go_simp; (try with_reducible rfl))) | (refine wpT_takeB (i := 10) (v := _) HOPS rfl (by kernel_rfl) (fun _ _ _ h => h) (Or.inr ⟨by rfl, rfl⟩) (by assumption) ?_)
              try simp only [Act.put, List.getElem_toArray, List.getElem_cons_succ, List.getElem_cons_zero, List.setIfInBounds_toArray, List.set_cons_zero, List.set_cons_succ]
              first | (refine wpT_takeB (i := 11) (v := ?_) HOPS rfl (by kernel_rfl) (fun _ _ _ h => h) (Or.inl ⟨by rfl, ?hy⟩) (by assumption) ?_; case hy => (intro w hSw; (try dsimp only at hSw); go_simp; (try with_reducible rfl))) | (refine wpT_takeB (i := 11) (v := _) HOPS rfl (by kernel_rfl) (fun _ _ _ h => h) (Or.inr ⟨by rfl, rfl⟩) (by assumption) ?_)
              try simp only [Act.put, List.getElem_toArray, List.getElem_cons_succ, List.getElem_cons_zero, List.setIfInBounds_toArray, List.set_cons_zero, List.set_cons_succ]
              first | (refine wpT_takeB (i := 12) (v := ?_) HOPS rfl (by kernel_rfl) (fun _ _ _ h => h) (Or.inl ⟨by rfl, ?hy⟩) (by assumption) ?_; case hy => (intro w hSw; (try dsimp only at hSw); go_simp; (try with_reducible rfl))) | (refine wpT_takeB (i := 12) (v := _) HOPS rfl (by kernel_rfl) (fun _ _ _ h => h) (Or.inr ⟨by rfl, rfl⟩) (by assumption) ?_)
              try simp only [Act.put, List.getElem_toArray, List.getElem_cons_succ, List.getElem_cons_zero, List.setIfInBounds_toArray, List.set_cons_zero, List.set_cons_succ]
              first | (refine wpT_takeB (i := 13) (v := ?_) HOPS rfl (by kernel_rfl) (fun _ _ _ h => h) (Or.inl ⟨by rfl, ?hy⟩) (by assumption) ?_; case hy => (intro w hSw; (try dsimp only at hSw); go_simp; (try with_reducible rfl))) | (refine wpT_takeB (i := 13) (v := _) HOPS rfl (by kernel_rfl) (fun _ _ _ h => h) (Or.inr ⟨by rfl, rfl⟩) (by assumption) ?_)
              try simp only [Act.put, List.getElem_toArray, List.getElem_cons_succ, List.getElem_cons_zero, List.setIfInBounds_toArray, List.set_cons_zero, List.set_cons_succ]
              first | (refine wpT_takeB (i := 14) (v := ?_) HOPS rfl (by kernel_rfl) (fun _ _ _ h => h) (Or.inl ⟨by rfl, ?hy⟩) (by assumption) ?_; case hy => (intro w hSw; (try dsimp only at hSw); go_simp; (try with_reducible rfl))) | (refine wpT_takeB (i := 14) (v := _) HOPS rfl (by kernel_rfl) (fun _ _ _ h => h) (Or.inr ⟨by rfl, rfl⟩) (by assumption) ?_)
              try simp only [Act.put, List.getElem_toArray, List.getElem_cons_succ, List.getElem_cons_zero, List.setIfInBounds_toArray, List.set_cons_zero, List.set_cons_succ]
              first | (refine wpT_takeB (i := 15) (v := ?_) HOPS rfl (by kernel_rfl) (fun _ _ _ h => h) (Or.inl ⟨by rfl, ?hy⟩) (by assumption) ?_; case hy => (intro w hSw; (try dsimp only at hSw); go_simp; (try with_reducible rfl))) | (refine wpT_takeB (i := 15) (v := _) HOPS rfl (by kernel_rfl) (fun _ _ _ h => h) (Or.inr ⟨by rfl, rfl⟩) (by assumption) ?_)
              try simp only [Act.put, List.getElem_toArray, List.getElem_cons_succ, List.getElem_cons_zero, List.setIfInBounds_toArray, List.set_cons_zero, List.set_cons_succ]
              first | (refine wpT_takeB (i := 16) (v := ?_) HOPS rfl (by kernel_rfl) (fun _ _ _ h => h) (Or.inl ⟨by rfl, ?hy⟩) (by assumption) ?_; case hy => (intro w hSw; (try dsimp only at hSw); go_simp; (try with_reducible rfl))) | (refine wpT_takeB (i := 16) (v := _) HOPS rfl (by kernel_rfl) (fun _ _ _ h => h) (Or.inr ⟨by rfl, rfl⟩) (by assumption) ?_)
              try simp only [Act.put, List.getElem_toArray, List.getElem_cons_succ, List.getElem_cons_zero, List.setIfInBounds_toArray, List.set_cons_zero, List.set_cons_succ]
              first | (refine wpT_takeB (i := 17) (v := ?_) HOPS rfl (by kernel_rfl) (fun _ _ _ h => h) (Or.inl ⟨by rfl, ?hy⟩) (by assumption) ?_; case hy => (intro w hSw; (try dsimp only at hSw); go_simp; (try with_reducible rfl))) | (refine wpT_takeB (i := 17) (v := _) HOPS rfl (by kernel_rfl) (fun _ _ _ h => h) (Or.inr ⟨by rfl, rfl⟩) (by assumption) ?_)
              try simp only [Act.put, List.getElem_toArray, List.getElem_cons_succ, List.getElem_cons_zero, List.setIfInBounds_toArray, List.set_cons_zero, List.set_cons_succ]
              first | (refine wpT_takeB (i := 18) (v := ?_) HOPS rfl (by kernel_rfl) (fun _ _ _ h => h) (Or.inl ⟨by rfl, ?hy⟩) (by assumption) ?_; case hy => (intro w hSw; (try dsimp only at hSw); go_simp; (try with_reducible rfl))) | (refine wpT_takeB (i := 18) (v := _) HOPS rfl (by kernel_rfl) (fun _ _ _ h => h) (Or.inr ⟨by rfl, rfl⟩) (by assumption) ?_)
              try simp only [Act.put, List.getElem_toArray, List.getElem_cons_succ, List.getElem_cons_zero, List.setIfInBounds_toArray, List.set_cons_zero, List.set_cons_succ]
              first | (refine wpT_takeB (i := 19) (v := ?_) HOPS rfl (by kernel_rfl) (fun _ _ _ h => h) (Or.inl ⟨by rfl, ?hy⟩) (by assumption) ?_; case hy => (intro w hSw; (try dsimp only at hSw); go_simp; (try with_reducible rfl))) | (refine wpT_takeB (i := 19) (v := _) HOPS rfl (by kernel_rfl) (fun _ _ _ h => h) (Or.inr ⟨by rfl, rfl⟩) (by assumption) ?_)
              try simp only [Act.put, List.getElem_toArray, List.getElem_cons_succ, List.getElem_cons_zero, List.setIfInBounds_toArray, List.set_cons_zero, List.set_cons_succ]
              first | (refine wpT_takeB (i := 20) (v := ?_) HOPS rfl (by kernel_rfl) (fun _ _ _ h => h) (Or.inl ⟨by rfl, ?hy⟩) (by assumption) ?_; case hy => (intro w hSw; (try dsimp only at hSw); go_simp; (try with_reducible rfl))) | (refine wpT_takeB (i := 20) (v := _) HOPS rfl (by kernel_rfl) (fun _ _ _ h => h) (Or.inr ⟨by rfl, rfl⟩) (by assumption) ?_)
              try simp only [Act.put, List.getElem_toArray, List.getElem_cons_succ, List.getElem_cons_zero, List.setIfInBounds_toArray, List.set_cons_zero, List.set_cons_succ]
              first | (refine wpT_takeB (i := 21) (v := ?_) HOPS rfl (by kernel_rfl) (fun _ _ _ h => h) (Or.inl ⟨by rfl, ?hy⟩) (by assumption) ?_; case hy => (intro w hSw; (try dsimp only at hSw); go_simp; (try with_reducible rfl))) | (refine wpT_takeB (i := 21) (v := _) HOPS rfl (by kernel_rfl) (fun _ _ _ h => h) (Or.inr ⟨by rfl, rfl⟩) (by assumption) ?_)
              try simp only [Act.put, List.getElem_toArray, List.getElem_cons_succ, List.getElem_cons_zero, List.setIfInBounds_toArray, List.set_cons_zero, List.set_cons_succ]
              first | (refine wpT_takeB (i := 22) (v := ?_) HOPS rfl (by kernel_rfl) (fun _ _ _ h => h) (Or.inl ⟨by rfl, ?hy⟩) (by assumption) ?_; case hy => (intro w hSw; (try dsimp only at hSw); go_simp; (try with_reducible rfl))) | (refine wpT_takeB (i := 22) (v := _) HOPS rfl (by kernel_rfl) (fun _ _ _ h => h) (Or.inr ⟨by rfl, rfl⟩) (by assumption) ?_)
              try simp only [Act.put, List.getElem_toArray, List.getElem_cons_succ, List.getElem_cons_zero, List.setIfInBounds_toArray, List.set_cons_zero, List.set_cons_succ]
              first | (refine wpT_takeB (i := 23) (v := ?_) HOPS rfl (by kernel_rfl) (fun _ _ _ h => h) (Or.inl ⟨by rfl, ?hy⟩) (by assumption) ?_; case hy => (intro w hSw; (try dsimp only at hSw); go_simp; (try with_reducible rfl))) | (refine wpT_takeB (i := 23) (v := _) HOPS rfl (by kernel_rfl) (fun _ _ _ h => h) (Or.inr ⟨by rfl, rfl⟩) (by assumption) ?_)
              try simp only [Act.put, List.getElem_toArray, List.getElem_cons_succ, List.getElem_cons_zero, List.setIfInBounds_toArray, List.set_cons_zero, List.set_cons_succ]
              first | (refine wpT_takeB (i := 24) (v := ?_) HOPS rfl (by kernel_rfl) (fun _ _ _ h => h) (Or.inl ⟨by rfl, ?hy⟩) (by assumption) ?_; case hy => (intro w hSw; (try dsimp only at hSw); go_simp; (try with_reducible rfl))) | (refine wpT_takeB (i := 24) (v := _) HOPS rfl (by kernel_rfl) (fun _ _ _ h => h) (Or.inr ⟨by rfl, rfl⟩) (by assumption) ?_)
              try simp only [Act.put, List.getElem_toArray, List.getElem_cons_succ, List.getElem_cons_zero, List.setIfInBounds_toArray, List.set_cons_zero, List.set_cons_succ]
              first | (refine wpT_takeB (i := 25) (v := ?_) HOPS rfl (by kernel_rfl) (fun _ _ _ h => h) (Or.inl ⟨by rfl, ?hy⟩) (by assumption) ?_; case hy => (intro w hSw; (try dsimp only at hSw); go_simp; (try with_reducible rfl))) | (refine wpT_takeB (i := 25) (v := _) HOPS rfl (by kernel_rfl) (fun _ _ _ h => h) (Or.inr ⟨by rfl, rfl⟩) (by assumption) ?_)
              try simp only [Act.put, List.getElem_toArray, List.getElem_cons_succ, List.getElem_cons_zero, List.setIfInBounds_toArray, List.set_cons_zero, List.set_cons_succ]
              refine wpT_done (by kernel_rfl) ?_ _
              clear HOPS
              repeat clear hHeld
              have kHBY2 : W21.cell? ⟨w8.heap.size, 2, none⟩ = some (.slice (some ⟨gY, oY, none⟩) px0.length cY) := by rw [cell_of HBY.out]; rfl
              have ky := KY.out
              have hfin := Lib.hid (HC.out.trans (HN.out.trans NW0.out))
              have hcn := HCN.out
              clear HCN
              by_cases hy2 : yk = 2
              · subst hy2
                go_wp2_with fail
                refine ⟨⟨k + 1, by go_num, by rw [hcn]; simp, by omega, hfin⟩, ?_⟩
                simp [intOf]; omega
              · rw [if_neg hy2] at hcn
                go_wp2_with fail
                refine ⟨⟨k + 1, by go_num, by rw [hcn], by omega, hfin⟩, ?_⟩
                simp [intOf]; omega
        · as_aux_lemma =>
          obtain rfl : k = px0.length := by omega
          have hkn : knownM (bw + 4, bh + 4, pxY) = (cnt (fun j => knP j (px pxY j)) px0.length : Int) := by
            unfold knownM
            rw [if_pos HOKY.out]
            simp only [knownN, HLY.out]
          generalize (cnt (fun j => knP j (px pxY j)) px0.length : Int) = cN at hkn ⊢
          have HKN := Lib.hid hkn
          clear hkn
          obtain ⟨dx, hdx⟩ : ∃ d, s0 % 5 - 2 = d := ⟨_, rfl⟩
          obtain ⟨dy, hdy⟩ : ∃ d, s1 % 5 - 2 = d := ⟨_, rfl⟩
          have hsh : shiftOk dx dy := by unfold shiftOk; omega
          have FH := fits_hide t0 t1 HBE.out hsh HOK.out (by show bw + 4 = b.1 + 4; rw [HBW.out]) (by show bh + 4 = b.2.1 + 4; rw [HBH.out])
          rw [HEY.out] at FH
          have hdx1 : wfI dx := by unfold wfI; omega
          have hdy1 : wfI dy := by unfold wfI; omega
          have HDX := Lib.hid hdx1
          have HDY := Lib.hid hdy1
          clear hsh hdx1 hdy1
          obtain ⟨FA, hFA⟩ : ∃ F, fitsM (bw + 4, bh + 4, px0) b dx dy = F := ⟨_, rfl⟩
          obtain ⟨FD, hFD⟩ : ∃ F, fitsM (bw + 4, bh + 4, pxY) b dx dy = F := ⟨_, rfl⟩
          rw [hFA, hFD] at FH
          have HFA := Lib.hid hFA
          have HFD := Lib.hid hFD
          clear hFA hFD
          obtain ⟨a1, a2, a3⟩ := FA
          obtain ⟨d1, d2, d3⟩ := FD
          obtain ⟨rfl, rfl, fh1, fh2⟩ := FH
          simp only at fh1 fh2
          have kHB20 : wr0.cell? ⟨w.heap.size + 2, 0, none⟩ = some (.int .i64 s0) := by rw [cell_of HB2.out]; rfl
          have jHB20 : ∀ o, (wr0.alloc o).cell? ⟨w.heap.size + 2, 0, none⟩ = some (.int .i64 s0) := fun o => cell_alloc_old o kHB20
          have kHB21 : wr0.cell? ⟨w.heap.size + 2, 1, none⟩ = some (.int .i64 s1) := by rw [cell_of HB2.out]; rfl
          have jHB21 : ∀ o, (wr0.alloc o).cell? ⟨w.heap.size + 2, 1, none⟩ = some (.int .i64 s1) := fun o => cell_alloc_old o kHB21
          have kHB90 : wr0.cell? ⟨w6.heap.size, 0, none⟩ = some (.int .i64 (bw + 4)) := by rw [cell_of HB9.out]; rfl
          have jHB90 : ∀ o, (wr0.alloc o).cell? ⟨w6.heap.size, 0, none⟩ = some (.int .i64 (bw + 4)) := fun o => cell_alloc_old o kHB90
          have kHB91 : wr0.cell? ⟨w6.heap.size, 1, none⟩ = some (.int .i64 (bh + 4)) := by rw [cell_of HB9.out]; rfl
          have jHB91 : ∀ o, (wr0.alloc o).cell? ⟨w6.heap.size, 1, none⟩ = some (.int .i64 (bh + 4)) := fun o => cell_alloc_old o kHB91
          have kHB92 : wr0.cell? ⟨w6.heap.size, 2, none⟩ = some (.slice (some ⟨g9, 0, none⟩) px0.length c9) := by rw [cell_of HB9.out]; rfl
          have jHB92 : ∀ o, (wr0.alloc o).cell? ⟨w6.heap.size, 2, none⟩ = some (.slice (some ⟨g9, 0, none⟩) px0.length c9) := fun o => cell_alloc_old o kHB92
          have kHB80 : wr0.cell? ⟨w4.heap.size, 0, none⟩ = some (.int .i64 bw) := by rw [cell_of HB8.out]; rfl
          have jHB80 : ∀ o, (wr0.alloc o).cell? ⟨w4.heap.size, 0, none⟩ = some (.int .i64 bw) := fun o => cell_alloc_old o kHB80
          have kHB81 : wr0.cell? ⟨w4.heap.size, 1, none⟩ = some (.int .i64 bh) := by rw [cell_of HB8.out]; rfl
          have jHB81 : ∀ o, (wr0.alloc o).cell? ⟨w4.heap.size, 1, none⟩ = some (.int .i64 bh) := fun o => cell_alloc_old o kHB81
          have kHB82 : wr0.cell? ⟨w4.heap.size, 2, none⟩ = some (.slice (some A8) n8 n8) := by rw [cell_of HB8.out]; rfl
          have jHB82 : ∀ o, (wr0.alloc o).cell? ⟨w4.heap.size, 2, none⟩ = some (.slice (some A8) n8 n8) := fun o => cell_alloc_old o kHB82
          go_wp2_with (go_at_call 12; refine Mod_any _ _ _ _ (by first | exact HS0.out | exact HS1.out) (by omega) (by omega) ?_)
          clear kHB20 jHB20 kHB21 jHB21 kHB90 jHB90 kHB91 jHB91 kHB92 jHB92 kHB80 jHB80 kHB81 jHB81 kHB82 jHB82
          clear hdx hdy
          refine imFits_any wr0.heap.size _ (bw + 4, bh + 4, px0) _ b dx dy _ _ HIX.out HBM.out HDX.out HDY.out (Nat.le_refl _) ?_
          rw [HFA.out]
          intro w22 n
          replace NX := Lib.hid (NX.out.trans n)
          replace RN := Lib.hid (RN.out.kept n id)
          replace MX := Lib.hid (MX.out.kept n id)
          replace HLA := Lib.hid (HLA.out.kept n nof)
          replace HLB := Lib.hid (HLB.out.kept n nof)
          replace HB0 := Lib.hid (n.heap HB0.out id)
          replace HB2 := Lib.hid (n.heap HB2.out id)
          replace SZ := Nat.lt_of_lt_of_le SZ n.size
          replace HBM := Lib.hid ((HBM.out.kept n nof).hi n.size)
          replace HB8 := Lib.hid (n.heap HB8.out id)
          replace HIX := Lib.hid ((HIX.out.kept n nof).hi n.size)
          replace HB9 := Lib.hid (n.heap HB9.out id)
          replace HB1 := Lib.hid (n.heap HB1.out id)
          replace HIY := Lib.hid ((HIY.out.kept n nof).hi n.size)
          replace HBY := Lib.hid (n.heap HBY.out id)
          replace HIZ := Lib.hid ((HIZ.out.kept n nof).hi n.size)
          replace HBZ := Lib.hid (n.heap HBZ.out id)
          clear n
          have kHBY0 : w22.cell? ⟨w8.heap.size, 0, none⟩ = some (.int .i64 (bw + 4)) := by rw [cell_of HBY.out]; rfl
          have jHBY0 : ∀ o, (w22.alloc o).cell? ⟨w8.heap.size, 0, none⟩ = some (.int .i64 (bw + 4)) := fun o => cell_alloc_old o kHBY0
          have kHBY1 : w22.cell? ⟨w8.heap.size, 1, none⟩ = some (.int .i64 (bh + 4)) := by rw [cell_of HBY.out]; rfl
          have jHBY1 : ∀ o, (w22.alloc o).cell? ⟨w8.heap.size, 1, none⟩ = some (.int .i64 (bh + 4)) := fun o => cell_alloc_old o kHBY1
          have kHBY2 : w22.cell? ⟨w8.heap.size, 2, none⟩ = some (.slice (some ⟨gY, oY, none⟩) px0.length cY) := by rw [cell_of HBY.out]; rfl
          have jHBY2 : ∀ o, (w22.alloc o).cell? ⟨w8.heap.size, 2, none⟩ = some (.slice (some ⟨gY, oY, none⟩) px0.length cY) := fun o => cell_alloc_old o kHBY2
          have kHB80 : w22.cell? ⟨w4.heap.size, 0, none⟩ = some (.int .i64 bw) := by rw [cell_of HB8.out]; rfl
          have jHB80 : ∀ o, (w22.alloc o).cell? ⟨w4.heap.size, 0, none⟩ = some (.int .i64 bw) := fun o => cell_alloc_old o kHB80
          have kHB81 : w22.cell? ⟨w4.heap.size, 1, none⟩ = some (.int .i64 bh) := by rw [cell_of HB8.out]; rfl
          have jHB81 : ∀ o, (w22.alloc o).cell? ⟨w4.heap.size, 1, none⟩ = some (.int .i64 bh) := fun o => cell_alloc_old o kHB81
          have kHB82 : w22.cell? ⟨w4.heap.size, 2, none⟩ = some (.slice (some A8) n8 n8) := by rw [cell_of HB8.out]; rfl
          have jHB82 : ∀ o, (w22.alloc o).cell? ⟨w4.heap.size, 2, none⟩ = some (.slice (some A8) n8 n8) := fun o => cell_alloc_old o kHB82
          go_wp2_with (go_at_call 7; fail)
          clear kHBY0 jHBY0 kHBY1 jHBY1 kHBY2 jHBY2 kHB80 jHB80 kHB81 jHB81 kHB82 jHB82
          refine imFits_any w22.heap.size _ (bw + 4, bh + 4, pxY) _ b dx dy _ _ HIY.out HBM.out HDX.out HDY.out (Nat.le_refl _) ?_
          rw [HFD.out]
          intro w23 n
          replace NX := Lib.hid (NX.out.trans n)
          replace RN := Lib.hid (RN.out.kept n id)
          replace MX := Lib.hid (MX.out.kept n id)
          replace HLA := Lib.hid (HLA.out.kept n nof)
          replace HLB := Lib.hid (HLB.out.kept n nof)
          replace HB0 := Lib.hid (n.heap HB0.out id)
          replace HB2 := Lib.hid (n.heap HB2.out id)
          replace SZ := Nat.lt_of_lt_of_le SZ n.size
          replace HBM := Lib.hid ((HBM.out.kept n nof).hi n.size)
          replace HB8 := Lib.hid (n.heap HB8.out id)
          replace HIX := Lib.hid ((HIX.out.kept n nof).hi n.size)
          replace HB9 := Lib.hid (n.heap HB9.out id)
          replace HB1 := Lib.hid (n.heap HB1.out id)
          replace HIY := Lib.hid ((HIY.out.kept n nof).hi n.size)
          replace HBY := Lib.hid (n.heap HBY.out id)
          replace HIZ := Lib.hid ((HIZ.out.kept n nof).hi n.size)
          replace HBZ := Lib.hid (n.heap HBZ.out id)
          clear n
          have kHBY0 : w23.cell? ⟨w8.heap.size, 0, none⟩ = some (.int .i64 (bw + 4)) := by rw [cell_of HBY.out]; rfl
          have jHBY0 : ∀ o, (w23.alloc o).cell? ⟨w8.heap.size, 0, none⟩ = some (.int .i64 (bw + 4)) := fun o => cell_alloc_old o kHBY0
          have kHBY1 : w23.cell? ⟨w8.heap.size, 1, none⟩ = some (.int .i64 (bh + 4)) := by rw [cell_of HBY.out]; rfl
          have jHBY1 : ∀ o, (w23.alloc o).cell? ⟨w8.heap.size, 1, none⟩ = some (.int .i64 (bh + 4)) := fun o => cell_alloc_old o kHBY1
          have kHBY2 : w23.cell? ⟨w8.heap.size, 2, none⟩ = some (.slice (some ⟨gY, oY, none⟩) px0.length cY) := by rw [cell_of HBY.out]; rfl
          have jHBY2 : ∀ o, (w23.alloc o).cell? ⟨w8.heap.size, 2, none⟩ = some (.slice (some ⟨gY, oY, none⟩) px0.length cY) := fun o => cell_alloc_old o kHBY2
          go_wp2_with (go_at_call 7; fail)
          clear kHBY0 jHBY0 kHBY1 jHBY1 kHBY2 jHBY2
          refine imKnown_any w23.heap.size _ (bw + 4, bh + 4, pxY) _ _ HIY.out ?_
          rw [HKN.out]
          intro w24 n
          replace NX := Lib.hid (NX.out.trans n)
          replace RN := Lib.hid (RN.out.kept n id)
          replace MX := Lib.hid (MX.out.kept n id)
          replace HLA := Lib.hid (HLA.out.kept n nof)
          replace HLB := Lib.hid (HLB.out.kept n nof)
          replace HB0 := Lib.hid (n.heap HB0.out id)
          replace HB2 := Lib.hid (n.heap HB2.out id)
          replace SZ := Nat.lt_of_lt_of_le SZ n.size
          replace HBM := Lib.hid ((HBM.out.kept n nof).hi n.size)
          replace HB8 := Lib.hid (n.heap HB8.out id)
          replace HIX := Lib.hid ((HIX.out.kept n nof).hi n.size)
          replace HB9 := Lib.hid (n.heap HB9.out id)
          replace HB1 := Lib.hid (n.heap HB1.out id)
          replace HIY := Lib.hid ((HIY.out.kept n nof).hi n.size)
          replace HBY := Lib.hid (n.heap HBY.out id)
          replace HIZ := Lib.hid ((HIZ.out.kept n nof).hi n.size)
          replace HBZ := Lib.hid (n.heap HBZ.out id)
          clear n
          go_wp2_with fail
          obtain ⟨pxU, heU, hlU, hokU, -⟩ := hideM_form t2 t3 HOK.out
          have HLU := Lib.hid hlU
          have HOKU := Lib.hid hokU
          have HEU := Lib.hid heU
          clear heU hlU hokU
          have HLZ0 := HLZ
          have HLZ := Lib.hid (HLZ.out.trans HLY.out)
          have hc1 : hideM (bw + 4, bh + 4, pxU) t0 t1 = (bw + 4, bh + 4, pxZ) := by rw [← HEU.out, ← HEZ.out, ← HEY.out]; exact hideM_comm _ _ _ _ HOK.out
          have hc2 : hideM (bw + 4, bh + 4, pxY) t0 t1 = (bw + 4, bh + 4, pxY) := by rw [← HEY.out]; exact hideM_twice _ _ HOK.out
          have HC1 := Lib.hid hc1
          have HC2 := Lib.hid hc2
          clear hc1 hc2
          refine wp_named ?_
          intro W25 hW
          have n : Nw w24 W25 := by rw [hW]; first | exact Ch.refl _ _ | exact (Ch.refl _ _).alloc _
          replace NX := Lib.hid (NX.out.trans n)
          replace RN := Lib.hid (RN.out.kept n id)
          replace MX := Lib.hid (MX.out.kept n id)
          replace HLA := Lib.hid (HLA.out.kept n nof)
          replace HLB := Lib.hid (HLB.out.kept n nof)
          replace HB0 := Lib.hid (n.heap HB0.out id)
          replace HB2 := Lib.hid (n.heap HB2.out id)
          replace SZ := Nat.lt_of_lt_of_le SZ n.size
          replace HBM := Lib.hid ((HBM.out.kept n nof).hi n.size)
          replace HB8 := Lib.hid (n.heap HB8.out id)
          replace HIX := Lib.hid ((HIX.out.kept n nof).hi n.size)
          replace HB9 := Lib.hid (n.heap HB9.out id)
          replace HB1 := Lib.hid (n.heap HB1.out id)
          replace HIY := Lib.hid ((HIY.out.kept n nof).hi n.size)
          replace HBY := Lib.hid (n.heap HBY.out id)
          replace HIZ := Lib.hid ((HIZ.out.kept n nof).hi n.size)
          replace HBZ := Lib.hid (n.heap HBZ.out id)
          clear hW n
          refine wp_region_U (F := fun w' => w'.cell? ⟨w10.heap.size, 0, none⟩ = some (.int .i64 (bw + 4)) ∧ w'.cell? ⟨w10.heap.size, 1, none⟩ = some (.int .i64 (bh + 4)) ∧ w'.cell? ⟨w10.heap.size, 2, none⟩ = some (.slice (some ⟨gZ, oZ, none⟩) px0.length cZ) ∧ w'.cell? ⟨w6.heap.size, 0, none⟩ = some (.int .i64 (bw + 4)) ∧ w'.cell? ⟨w6.heap.size, 1, none⟩ = some (.int .i64 (bh + 4)) ∧ w'.cell? ⟨w6.heap.size, 2, none⟩ = some (.slice (some ⟨g9, 0, none⟩) px0.length c9) ∧ w'.cell? ⟨w.heap.size + 1, 0, none⟩ = some (.int .i64 t0) ∧ w'.cell? ⟨w.heap.size + 1, 1, none⟩ = some (.int .i64 t1) ∧ w'.cell? ⟨w.heap.size + 1, 2, none⟩ = some (.int .i64 t2) ∧ w'.cell? ⟨w.heap.size + 1, 3, none⟩ = some (.int .i64 t3) ∧ w'.cell? ⟨w8.heap.size, 0, none⟩ = some (.int .i64 (bw + 4)) ∧ w'.cell? ⟨w8.heap.size, 1, none⟩ = some (.int .i64 (bh + 4)) ∧ w'.cell? ⟨w8.heap.size, 2, none⟩ = some (.slice (some ⟨gY, oY, none⟩) px0.length cY)) (opsOf Tryd.f5 29) 26 27 (by kernel_rfl) (by kernel_rfl) (by kernel_rfl) ⟨by show W25.cell? _ = _; rw [cell_of HBZ.out]; rfl, by show W25.cell? _ = _; rw [cell_of HBZ.out]; rfl, by show W25.cell? _ = _; rw [cell_of HBZ.out]; rfl, by show W25.cell? _ = _; rw [cell_of HB9.out]; rfl, by show W25.cell? _ = _; rw [cell_of HB9.out]; rfl, by show W25.cell? _ = _; rw [cell_of HB9.out]; rfl, by show W25.cell? _ = _; rw [cell_of HB1.out]; rfl, by show W25.cell? _ = _; rw [cell_of HB1.out]; rfl, by show W25.cell? _ = _; rw [cell_of HB1.out]; rfl, by show W25.cell? _ = _; rw [cell_of HB1.out]; rfl, by show W25.cell? _ = _; rw [cell_of HBY.out]; rfl, by show W25.cell? _ = _; rw [cell_of HBY.out]; rfl, by show W25.cell? _ = _; rw [cell_of HBY.out]; rfl⟩ (fun HOPS hHeld => ?_)
          refine wpT_named ?_
          intro W26 hW
          rw [← hW] at hHeld
          have n : Nw W25 W26 := by rw [hW]; exact (Ch.refl _ _).drew
          replace NX := Lib.hid (NX.out.trans n)
          replace RN := Lib.hid (RN.out.kept n id)
          replace MX := Lib.hid (MX.out.kept n id)
          replace HLA := Lib.hid (HLA.out.kept n nof)
          replace HLB := Lib.hid (HLB.out.kept n nof)
          replace HB0 := Lib.hid (n.heap HB0.out id)
          replace HB2 := Lib.hid (n.heap HB2.out id)
          replace SZ := Nat.lt_of_lt_of_le SZ n.size
          replace HBM := Lib.hid ((HBM.out.kept n nof).hi n.size)
          replace HB8 := Lib.hid (n.heap HB8.out id)
          replace HIX := Lib.hid ((HIX.out.kept n nof).hi n.size)
          replace HB9 := Lib.hid (n.heap HB9.out id)
          replace HB1 := Lib.hid (n.heap HB1.out id)
          replace HIY := Lib.hid ((HIY.out.kept n nof).hi n.size)
          replace HBY := Lib.hid (n.heap HBY.out id)
          replace HIZ := Lib.hid ((HIZ.out.kept n nof).hi n.size)
          replace HBZ := Lib.hid (n.heap HBZ.out id)
          clear hW n
          first | (refine wpT_takeB (i := 0) (v := ?_) HOPS rfl (by kernel_rfl) (fun _ _ _ h => h) (Or.inl ⟨by rfl, ?hy⟩) (by assumption) ?_; case hy => (intro w hSw; (try dsimp only at hSw); go_simp; (try with_reducible rfl))) | (refine wpT_takeB (i := 0) (v := _) HOPS rfl (by kernel_rfl) (fun _ _ _ h => h) (Or.inr ⟨by rfl, rfl⟩) (by assumption) ?_)
          try simp only [Act.put, List.getElem_toArray, List.getElem_cons_succ, List.getElem_cons_zero, List.setIfInBounds_toArray, List.set_cons_zero, List.set_cons_succ]
          first | (refine wpT_takeB (i := 1) (v := ?_) HOPS rfl (by kernel_rfl) (fun _ _ _ h => h) (Or.inl ⟨by rfl, ?hy⟩) (by assumption) ?_; case hy => (intro w hSw; (try dsimp only at hSw); go_simp; (try with_reducible rfl))) | (refine wpT_takeB (i := 1) (v := _) HOPS rfl (by kernel_rfl) (fun _ _ _ h => h) (Or.inr ⟨by rfl, rfl⟩) (by assumption) ?_)
          try simp only [Act.put, List.getElem_toArray, List.getElem_cons_succ, List.getElem_cons_zero, List.setIfInBounds_toArray, List.set_cons_zero, List.set_cons_succ]
          first | (refine wpT_takeB (i := 2) (v := ?_) HOPS rfl (by kernel_rfl) (fun _ _ _ h => h) (Or.inl ⟨by rfl, ?hy⟩) (by assumption) ?_; case hy => (intro w hSw; (try dsimp only at hSw); go_simp; (try with_reducible rfl))) | (refine wpT_takeB (i := 2) (v := _) HOPS rfl (by kernel_rfl) (fun _ _ _ h => h) (Or.inr ⟨by rfl, rfl⟩) (by assumption) ?_)
          try simp only [Act.put, List.getElem_toArray, List.getElem_cons_succ, List.getElem_cons_zero, List.setIfInBounds_toArray, List.set_cons_zero, List.set_cons_succ]
          first | (refine wpT_takeB (i := 3) (v := ?_) HOPS rfl (by kernel_rfl) (fun _ _ _ h => h) (Or.inl ⟨by rfl, ?hy⟩) (by assumption) ?_; case hy => (intro w hSw; (try dsimp only at hSw); go_simp; (try with_reducible rfl))) | (refine wpT_takeB (i := 3) (v := _) HOPS rfl (by kernel_rfl) (fun _ _ _ h => h) (Or.inr ⟨by rfl, rfl⟩) (by assumption) ?_)
          try simp only [Act.put, List.getElem_toArray, List.getElem_cons_succ, List.getElem_cons_zero, List.setIfInBounds_toArray, List.set_cons_zero, List.set_cons_succ]
          first | (refine wpT_takeB (i := 4) (v := ?_) HOPS rfl (by kernel_rfl) (fun _ _ _ h => h) (Or.inl ⟨by rfl, ?hy⟩) (by assumption) ?_; case hy => (intro w hSw; (try dsimp only at hSw); go_simp; (try with_reducible rfl))) | (refine wpT_takeB (i := 4) (v := _) HOPS rfl (by kernel_rfl) (fun _ _ _ h => h) (Or.inr ⟨by rfl, rfl⟩) (by assumption) ?_)
          try simp only [Act.put, List.getElem_toArray, List.getElem_cons_succ, List.getElem_cons_zero, List.setIfInBounds_toArray, List.set_cons_zero, List.set_cons_succ]
          first | (refine wpT_takeB (i := 5) (v := ?_) HOPS rfl (by kernel_rfl) (fun _ _ _ h => h) (Or.inl ⟨by rfl, ?hy⟩) (by assumption) ?_; case hy => (intro w hSw; (try dsimp only at hSw); go_simp; (try with_reducible rfl))) | (refine wpT_takeB (i := 5) (v := _) HOPS rfl (by kernel_rfl) (fun _ _ _ h => h) (Or.inr ⟨by rfl, rfl⟩) (by assumption) ?_)
          try simp only [Act.put, List.getElem_toArray, List.getElem_cons_succ, List.getElem_cons_zero, List.setIfInBounds_toArray, List.set_cons_zero, List.set_cons_succ]
          first | (refine wpT_takeB (i := 6) (v := ?_) HOPS rfl (by kernel_rfl) (fun _ _ _ h => h) (Or.inl ⟨by rfl, ?hy⟩) (by assumption) ?_; case hy => (intro w hSw; (try dsimp only at hSw); go_simp; (try with_reducible rfl))) | (refine wpT_takeB (i := 6) (v := _) HOPS rfl (by kernel_rfl) (fun _ _ _ h => h) (Or.inr ⟨by rfl, rfl⟩) (by assumption) ?_)
          try simp only [Act.put, List.getElem_toArray, List.getElem_cons_succ, List.getElem_cons_zero, List.setIfInBounds_toArray, List.set_cons_zero, List.set_cons_succ]
          first | (refine wpT_takeB (i := 7) (v := ?_) HOPS rfl (by kernel_rfl) (fun _ _ _ h => h) (Or.inl ⟨by rfl, ?hy⟩) (by assumption) ?_; case hy => (intro w hSw; (try dsimp only at hSw); go_simp; (try with_reducible rfl))) | (refine wpT_takeB (i := 7) (v := _) HOPS rfl (by kernel_rfl) (fun _ _ _ h => h) (Or.inr ⟨by rfl, rfl⟩) (by assumption) ?_)
          try simp only [Act.put, List.getElem_toArray, List.getElem_cons_succ, List.getElem_cons_zero, List.setIfInBounds_toArray, List.set_cons_zero, List.set_cons_succ]
          first | (refine wpT_takeB (i := 9) (v := ?_) HOPS rfl (by kernel_rfl) (fun _ _ _ h => h) (Or.inl ⟨by rfl, ?hy⟩) (by assumption) ?_; case hy => (intro w hSw; (try dsimp only at hSw); go_simp; (try with_reducible rfl))) | (refine wpT_takeB (i := 9) (v := _) HOPS rfl (by kernel_rfl) (fun _ _ _ h => h) (Or.inr ⟨by rfl, rfl⟩) (by assumption) ?_)
          try simp only [Act.put, List.getElem_toArray, List.getElem_cons_succ, List.getElem_cons_zero, List.setIfInBounds_toArray, List.set_cons_zero, List.set_cons_succ]
          first | (refine wpT_takeB (i := 10) (v := ?_) HOPS rfl (by kernel_rfl) (fun _ _ _ h => h) (Or.inl ⟨by rfl, ?hy⟩) (by assumption) ?_; case hy => (intro w hSw; (try dsimp only at hSw); go_simp; (try with_reducible rfl))) | (refine wpT_takeB (i := 10) (v := _) HOPS rfl (by kernel_rfl) (fun _ _ _ h => h) (Or.inr ⟨by rfl, rfl⟩) (by assumption) ?_)
          try simp only [Act.put, List.getElem_toArray, List.getElem_cons_succ, List.getElem_cons_zero, List.setIfInBounds_toArray, List.set_cons_zero, List.set_cons_succ]
          first | (refine wpT_takeB (i := 11) (v := ?_) HOPS rfl (by kernel_rfl) (fun _ _ _ h => h) (Or.inl ⟨by rfl, ?hy⟩) (by assumption) ?_; case hy => (intro w hSw; (try dsimp only at hSw); go_simp; (try with_reducible rfl))) | (refine wpT_takeB (i := 11) (v := _) HOPS rfl (by kernel_rfl) (fun _ _ _ h => h) (Or.inr ⟨by rfl, rfl⟩) (by assumption) ?_)
          try simp only [Act.put, List.getElem_toArray, List.getElem_cons_succ, List.getElem_cons_zero, List.setIfInBounds_toArray, List.set_cons_zero, List.set_cons_succ]
          first | (refine wpT_takeB (i := 12) (v := ?_) HOPS rfl (by kernel_rfl) (fun _ _ _ h => h) (Or.inl ⟨by rfl, ?hy⟩) (by assumption) ?_; case hy => (intro w hSw; (try dsimp only at hSw); go_simp; (try with_reducible rfl))) | (refine wpT_takeB (i := 12) (v := _) HOPS rfl (by kernel_rfl) (fun _ _ _ h => h) (Or.inr ⟨by rfl, rfl⟩) (by assumption) ?_)
          try simp only [Act.put, List.getElem_toArray, List.getElem_cons_succ, List.getElem_cons_zero, List.setIfInBounds_toArray, List.set_cons_zero, List.set_cons_succ]
          refine wpT_ready (rs := [8]) (by kernel_rfl) (by simp) ?_
          refine ReadyT.consB HOPS rfl (by rfl) (fun K hK => ?_) ReadyT.nil
          go_simp
          go_at_call 20
          refine imHide_any W26.heap.size _ (bw + 4, bh + 4, px0) t2 t3 _ _ HIX.out (Nat.le_refl _) HT2.out HT3.out ?_
          rw [HEU.out]
          intro w27 v hi n
          replace NX := Lib.hid (NX.out.trans n)
          replace RN := Lib.hid (RN.out.kept n id)
          replace MX := Lib.hid (MX.out.kept n id)
          replace HLA := Lib.hid (HLA.out.kept n nof)
          replace HLB := Lib.hid (HLB.out.kept n nof)
          replace HB0 := Lib.hid (n.heap HB0.out id)
          replace HB2 := Lib.hid (n.heap HB2.out id)
          replace SZ := Nat.lt_of_lt_of_le SZ n.size
          replace HBM := Lib.hid ((HBM.out.kept n nof).hi n.size)
          replace HB8 := Lib.hid (n.heap HB8.out id)
          replace HIX := Lib.hid ((HIX.out.kept n nof).hi n.size)
          replace HB9 := Lib.hid (n.heap HB9.out id)
          replace HB1 := Lib.hid (n.heap HB1.out id)
          replace HIY := Lib.hid ((HIY.out.kept n nof).hi n.size)
          replace HBY := Lib.hid (n.heap HBY.out id)
          replace HIZ := Lib.hid ((HIZ.out.kept n nof).hi n.size)
          replace HBZ := Lib.hid (n.heap HBZ.out id)
          obtain ⟨AU, cU, rfl, hI⟩ := isIm_formN (n := px0.length) hi rfl rfl (by simp only; first | rfl | exact HLU.out)
          have HIU := Lib.hid hI
          clear hi hI n
          refine hK.out _ _ ⟨by show w27.cell? _ = _; rw [cell_of HBZ.out]; rfl, by show w27.cell? _ = _; rw [cell_of HBZ.out]; rfl, by show w27.cell? _ = _; rw [cell_of HBZ.out]; rfl, by show w27.cell? _ = _; rw [cell_of HB9.out]; rfl, by show w27.cell? _ = _; rw [cell_of HB9.out]; rfl, by show w27.cell? _ = _; rw [cell_of HB9.out]; rfl, by show w27.cell? _ = _; rw [cell_of HB1.out]; rfl, by show w27.cell? _ = _; rw [cell_of HB1.out]; rfl, by show w27.cell? _ = _; rw [cell_of HB1.out]; rfl, by show w27.cell? _ = _; rw [cell_of HB1.out]; rfl, by show w27.cell? _ = _; rw [cell_of HBY.out]; rfl, by show w27.cell? _ = _; rw [cell_of HBY.out]; rfl, by show w27.cell? _ = _; rw [cell_of HBY.out]; rfl⟩ (fun hHeld => ?_)
          clear hK K
          try simp only [Act.put, List.getElem_toArray, List.getElem_cons_succ, List.getElem_cons_zero, List.setIfInBounds_toArray, List.set_cons_zero, List.set_cons_succ]
          refine wpT_ready (rs := [13]) (by kernel_rfl) (by simp) ?_
          refine ReadyT.consB HOPS rfl (by rfl) (fun K hK => ?_) ReadyT.nil
          go_simp
          go_at_call 20
          refine imHide_any w27.heap.size _ (bw + 4, bh + 4, pxU) t0 t1 _ _ HIU.out (Nat.le_refl _) HT0.out HT1.out ?_
          rw [HC1.out]
          intro w28 v hi n
          replace NX := Lib.hid (NX.out.trans n)
          replace RN := Lib.hid (RN.out.kept n id)
          replace MX := Lib.hid (MX.out.kept n id)
          replace HLA := Lib.hid (HLA.out.kept n nof)
          replace HLB := Lib.hid (HLB.out.kept n nof)
          replace HB0 := Lib.hid (n.heap HB0.out id)
          replace HB2 := Lib.hid (n.heap HB2.out id)
          replace SZ := Nat.lt_of_lt_of_le SZ n.size
          replace HBM := Lib.hid ((HBM.out.kept n nof).hi n.size)
          replace HB8 := Lib.hid (n.heap HB8.out id)
          replace HIX := Lib.hid ((HIX.out.kept n nof).hi n.size)
          replace HB9 := Lib.hid (n.heap HB9.out id)
          replace HB1 := Lib.hid (n.heap HB1.out id)
          replace HIY := Lib.hid ((HIY.out.kept n nof).hi n.size)
          replace HBY := Lib.hid (n.heap HBY.out id)
          replace HIZ := Lib.hid ((HIZ.out.kept n nof).hi n.size)
          replace HBZ := Lib.hid (n.heap HBZ.out id)
          replace HIU := Lib.hid ((HIU.out.kept n nof).hi n.size)
          obtain ⟨AV, cV, rfl, hI⟩ := isIm_formN (n := px0.length) hi rfl rfl (by simp only; first | rfl | exact HLZ.out)
          have HIV := Lib.hid hI
          clear hi hI n
          refine hK.out _ _ ⟨by show w28.cell? _ = _; rw [cell_of HBZ.out]; rfl, by show w28.cell? _ = _; rw [cell_of HBZ.out]; rfl, by show w28.cell? _ = _; rw [cell_of HBZ.out]; rfl, by show w28.cell? _ = _; rw [cell_of HB9.out]; rfl, by show w28.cell? _ = _; rw [cell_of HB9.out]; rfl, by show w28.cell? _ = _; rw [cell_of HB9.out]; rfl, by show w28.cell? _ = _; rw [cell_of HB1.out]; rfl, by show w28.cell? _ = _; rw [cell_of HB1.out]; rfl, by show w28.cell? _ = _; rw [cell_of HB1.out]; rfl, by show w28.cell? _ = _; rw [cell_of HB1.out]; rfl, by show w28.cell? _ = _; rw [cell_of HBY.out]; rfl, by show w28.cell? _ = _; rw [cell_of HBY.out]; rfl, by show w28.cell? _ = _; rw [cell_of HBY.out]; rfl⟩ (fun hHeld => ?_)
          clear hK K
          try simp only [Act.put, List.getElem_toArray, List.getElem_cons_succ, List.getElem_cons_zero, List.setIfInBounds_toArray, List.set_cons_zero, List.set_cons_succ]
          refine wpT_ready (rs := [14]) (by kernel_rfl) (by simp) ?_
          refine ReadyT.consB HOPS rfl (by rfl) (fun K hK => ?_) ReadyT.nil
          go_simp
          go_at_call 16
          refine riSame_any w28.heap.size _ _ (bw + 4, bh + 4, pxZ) (bw + 4, bh + 4, pxZ) _ _ HIZ.out HIV.out ?_
          rw [decide_eq_true rfl]
          intro w29 n
          replace NX := Lib.hid (NX.out.trans n)
          replace RN := Lib.hid (RN.out.kept n id)
          replace MX := Lib.hid (MX.out.kept n id)
          replace HLA := Lib.hid (HLA.out.kept n nof)
          replace HLB := Lib.hid (HLB.out.kept n nof)
          replace HB0 := Lib.hid (n.heap HB0.out id)
          replace HB2 := Lib.hid (n.heap HB2.out id)
          replace SZ := Nat.lt_of_lt_of_le SZ n.size
          replace HBM := Lib.hid ((HBM.out.kept n nof).hi n.size)
          replace HB8 := Lib.hid (n.heap HB8.out id)
          replace HIX := Lib.hid ((HIX.out.kept n nof).hi n.size)
          replace HB9 := Lib.hid (n.heap HB9.out id)
          replace HB1 := Lib.hid (n.heap HB1.out id)
          replace HIY := Lib.hid ((HIY.out.kept n nof).hi n.size)
          replace HBY := Lib.hid (n.heap HBY.out id)
          replace HIZ := Lib.hid ((HIZ.out.kept n nof).hi n.size)
          replace HBZ := Lib.hid (n.heap HBZ.out id)
          replace HIU := Lib.hid ((HIU.out.kept n nof).hi n.size)
          replace HIV := Lib.hid ((HIV.out.kept n nof).hi n.size)
          clear n
          refine hK.out _ _ ⟨by show w29.cell? _ = _; rw [cell_of HBZ.out]; rfl, by show w29.cell? _ = _; rw [cell_of HBZ.out]; rfl, by show w29.cell? _ = _; rw [cell_of HBZ.out]; rfl, by show w29.cell? _ = _; rw [cell_of HB9.out]; rfl, by show w29.cell? _ = _; rw [cell_of HB9.out]; rfl, by show w29.cell? _ = _; rw [cell_of HB9.out]; rfl, by show w29.cell? _ = _; rw [cell_of HB1.out]; rfl, by show w29.cell? _ = _; rw [cell_of HB1.out]; rfl, by show w29.cell? _ = _; rw [cell_of HB1.out]; rfl, by show w29.cell? _ = _; rw [cell_of HB1.out]; rfl, by show w29.cell? _ = _; rw [cell_of HBY.out]; rfl, by show w29.cell? _ = _; rw [cell_of HBY.out]; rfl, by show w29.cell? _ = _; rw [cell_of HBY.out]; rfl⟩ (fun hHeld => ?_)
          clear hK K
          try simp only [Act.put, List.getElem_toArray, List.getElem_cons_succ, List.getElem_cons_zero, List.setIfInBounds_toArray, List.set_cons_zero, List.set_cons_succ]
          first | (refine wpT_takeB (i := 15) (v := ?_) HOPS rfl (by kernel_rfl) (fun _ _ _ h => h) (Or.inl ⟨by rfl, ?hy⟩) (by assumption) ?_; case hy => (intro w hSw; (try dsimp only at hSw); go_simp; (try with_reducible rfl))) | (refine wpT_takeB (i := 15) (v := _) HOPS rfl (by kernel_rfl) (fun _ _ _ h => h) (Or.inr ⟨by rfl, rfl⟩) (by assumption) ?_)
          try simp only [Act.put, List.getElem_toArray, List.getElem_cons_succ, List.getElem_cons_zero, List.setIfInBounds_toArray, List.set_cons_zero, List.set_cons_succ]
          first | (refine wpT_takeB (i := 16) (v := ?_) HOPS rfl (by kernel_rfl) (fun _ _ _ h => h) (Or.inl ⟨by rfl, ?hy⟩) (by assumption) ?_; case hy => (intro w hSw; (try dsimp only at hSw); go_simp; (try with_reducible rfl))) | (refine wpT_takeB (i := 16) (v := _) HOPS rfl (by kernel_rfl) (fun _ _ _ h => h) (Or.inr ⟨by rfl, rfl⟩) (by assumption) ?_)
          try simp only [Act.put, List.getElem_toArray, List.getElem_cons_succ, List.getElem_cons_zero, List.setIfInBounds_toArray, List.set_cons_zero, List.set_cons_succ]
          first | (refine wpT_takeB (i := 17) (v := ?_) HOPS rfl (by kernel_rfl) (fun _ _ _ h => h) (Or.inl ⟨by rfl, ?hy⟩) (by assumption) ?_; case hy => (intro w hSw; (try dsimp only at hSw); go_simp; (try with_reducible rfl))) | (refine wpT_takeB (i := 17) (v := _) HOPS rfl (by kernel_rfl) (fun _ _ _ h => h) (Or.inr ⟨by rfl, rfl⟩) (by assumption) ?_)
          try simp only [Act.put, List.getElem_toArray, List.getElem_cons_succ, List.getElem_cons_zero, List.setIfInBounds_toArray, List.set_cons_zero, List.set_cons_succ]
          first | (refine wpT_takeB (i := 18) (v := ?_) HOPS rfl (by kernel_rfl) (fun _ _ _ h => h) (Or.inl ⟨by rfl, ?hy⟩) (by assumption) ?_; case hy => (intro w hSw; (try dsimp only at hSw); go_simp; (try with_reducible rfl))) | (refine wpT_takeB (i := 18) (v := _) HOPS rfl (by kernel_rfl) (fun _ _ _ h => h) (Or.inr ⟨by rfl, rfl⟩) (by assumption) ?_)
          try simp only [Act.put, List.getElem_toArray, List.getElem_cons_succ, List.getElem_cons_zero, List.setIfInBounds_toArray, List.set_cons_zero, List.set_cons_succ]
          first | (refine wpT_takeB (i := 19) (v := ?_) HOPS rfl (by kernel_rfl) (fun _ _ _ h => h) (Or.inl ⟨by rfl, ?hy⟩) (by assumption) ?_; case hy => (intro w hSw; (try dsimp only at hSw); go_simp; (try with_reducible rfl))) | (refine wpT_takeB (i := 19) (v := _) HOPS rfl (by kernel_rfl) (fun _ _ _ h => h) (Or.inr ⟨by rfl, rfl⟩) (by assumption) ?_)
          try simp only [Act.put, List.getElem_toArray, List.getElem_cons_succ, List.getElem_cons_zero, List.setIfInBounds_toArray, List.set_cons_zero, List.set_cons_succ]
          first | (refine wpT_takeB (i := 20) (v := ?_) HOPS rfl (by kernel_rfl) (fun _ _ _ h => h) (Or.inl ⟨by rfl, ?hy⟩) (by assumption) ?_; case hy => (intro w hSw; (try dsimp only at hSw); go_simp; (try with_reducible rfl))) | (refine wpT_takeB (i := 20) (v := _) HOPS rfl (by kernel_rfl) (fun _ _ _ h => h) (Or.inr ⟨by rfl, rfl⟩) (by assumption) ?_)
          try simp only [Act.put, List.getElem_toArray, List.getElem_cons_succ, List.getElem_cons_zero, List.setIfInBounds_toArray, List.set_cons_zero, List.set_cons_succ]
          first | (refine wpT_takeB (i := 21) (v := ?_) HOPS rfl (by kernel_rfl) (fun _ _ _ h => h) (Or.inl ⟨by rfl, ?hy⟩) (by assumption) ?_; case hy => (intro w hSw; (try dsimp only at hSw); go_simp; (try with_reducible rfl))) | (refine wpT_takeB (i := 21) (v := _) HOPS rfl (by kernel_rfl) (fun _ _ _ h => h) (Or.inr ⟨by rfl, rfl⟩) (by assumption) ?_)
          try simp only [Act.put, List.getElem_toArray, List.getElem_cons_succ, List.getElem_cons_zero, List.setIfInBounds_toArray, List.set_cons_zero, List.set_cons_succ]
          first | (refine wpT_takeB (i := 22) (v := ?_) HOPS rfl (by kernel_rfl) (fun _ _ _ h => h) (Or.inl ⟨by rfl, ?hy⟩) (by assumption) ?_; case hy => (intro w hSw; (try dsimp only at hSw); go_simp; (try with_reducible rfl))) | (refine wpT_takeB (i := 22) (v := _) HOPS rfl (by kernel_rfl) (fun _ _ _ h => h) (Or.inr ⟨by rfl, rfl⟩) (by assumption) ?_)
          try simp only [Act.put, List.getElem_toArray, List.getElem_cons_succ, List.getElem_cons_zero, List.setIfInBounds_toArray, List.set_cons_zero, List.set_cons_succ]
          refine wpT_ready (rs := [23]) (by kernel_rfl) (by simp) ?_
          refine ReadyT.consB HOPS rfl (by rfl) (fun K hK => ?_) ReadyT.nil
          go_simp
          go_at_call 20
          refine imHide_any w29.heap.size _ (bw + 4, bh + 4, pxY) t0 t1 _ _ HIY.out (Nat.le_refl _) HT0.out HT1.out ?_
          rw [HC2.out]
          intro w30 v hi n
          replace NX := Lib.hid (NX.out.trans n)
          replace RN := Lib.hid (RN.out.kept n id)
          replace MX := Lib.hid (MX.out.kept n id)
          replace HLA := Lib.hid (HLA.out.kept n nof)
          replace HLB := Lib.hid (HLB.out.kept n nof)
          replace HB0 := Lib.hid (n.heap HB0.out id)
          replace HB2 := Lib.hid (n.heap HB2.out id)
          replace SZ := Nat.lt_of_lt_of_le SZ n.size
          replace HBM := Lib.hid ((HBM.out.kept n nof).hi n.size)
          replace HB8 := Lib.hid (n.heap HB8.out id)
          replace HIX := Lib.hid ((HIX.out.kept n nof).hi n.size)
          replace HB9 := Lib.hid (n.heap HB9.out id)
          replace HB1 := Lib.hid (n.heap HB1.out id)
          replace HIY := Lib.hid ((HIY.out.kept n nof).hi n.size)
          replace HBY := Lib.hid (n.heap HBY.out id)
          replace HIZ := Lib.hid ((HIZ.out.kept n nof).hi n.size)
          replace HBZ := Lib.hid (n.heap HBZ.out id)
          replace HIU := Lib.hid ((HIU.out.kept n nof).hi n.size)
          replace HIV := Lib.hid ((HIV.out.kept n nof).hi n.size)
          obtain ⟨AT, cT, rfl, hI⟩ := isIm_formN (n := px0.length) hi rfl rfl (by simp only; first | rfl | exact HLY.out)
          have HIT := Lib.hid hI
          clear hi hI n
          refine hK.out _ _ ⟨by show w30.cell? _ = _; rw [cell_of HBZ.out]; rfl, by show w30.cell? _ = _; rw [cell_of HBZ.out]; rfl, by show w30.cell? _ = _; rw [cell_of HBZ.out]; rfl, by show w30.cell? _ = _; rw [cell_of HB9.out]; rfl, by show w30.cell? _ = _; rw [cell_of HB9.out]; rfl, by show w30.cell? _ = _; rw [cell_of HB9.out]; rfl, by show w30.cell? _ = _; rw [cell_of HB1.out]; rfl, by show w30.cell? _ = _; rw [cell_of HB1.out]; rfl, by show w30.cell? _ = _; rw [cell_of HB1.out]; rfl, by show w30.cell? _ = _; rw [cell_of HB1.out]; rfl, by show w30.cell? _ = _; rw [cell_of HBY.out]; rfl, by show w30.cell? _ = _; rw [cell_of HBY.out]; rfl, by show w30.cell? _ = _; rw [cell_of HBY.out]; rfl⟩ (fun hHeld => ?_)
          clear hK K
          try simp only [Act.put, List.getElem_toArray, List.getElem_cons_succ, List.getElem_cons_zero, List.setIfInBounds_toArray, List.set_cons_zero, List.set_cons_succ]
          refine wpT_ready (rs := [24]) (by kernel_rfl) (by simp) ?_
          refine ReadyT.consB HOPS rfl (by rfl) (fun K hK => ?_) ReadyT.nil
          go_simp
          go_at_call 28
          refine imSame_any w30.heap.size _ _ (bw + 4, bh + 4, pxY) (bw + 4, bh + 4, pxY) _ _ HIY.out HIT.out ?_
          rw [decide_eq_true rfl]
          intro w31 n
          replace NX := Lib.hid (NX.out.trans n)
          replace RN := Lib.hid (RN.out.kept n id)
          replace MX := Lib.hid (MX.out.kept n id)
          replace HLA := Lib.hid (HLA.out.kept n nof)
          replace HLB := Lib.hid (HLB.out.kept n nof)
          replace HB0 := Lib.hid (n.heap HB0.out id)
          replace HB2 := Lib.hid (n.heap HB2.out id)
          replace SZ := Nat.lt_of_lt_of_le SZ n.size
          replace HBM := Lib.hid ((HBM.out.kept n nof).hi n.size)
          replace HB8 := Lib.hid (n.heap HB8.out id)
          replace HIX := Lib.hid ((HIX.out.kept n nof).hi n.size)
          replace HB9 := Lib.hid (n.heap HB9.out id)
          replace HB1 := Lib.hid (n.heap HB1.out id)
          replace HIY := Lib.hid ((HIY.out.kept n nof).hi n.size)
          replace HBY := Lib.hid (n.heap HBY.out id)
          replace HIZ := Lib.hid ((HIZ.out.kept n nof).hi n.size)
          replace HBZ := Lib.hid (n.heap HBZ.out id)
          replace HIU := Lib.hid ((HIU.out.kept n nof).hi n.size)
          replace HIV := Lib.hid ((HIV.out.kept n nof).hi n.size)
          replace HIT := Lib.hid ((HIT.out.kept n nof).hi n.size)
          clear n
          refine hK.out _ _ ⟨by show w31.cell? _ = _; rw [cell_of HBZ.out]; rfl, by show w31.cell? _ = _; rw [cell_of HBZ.out]; rfl, by show w31.cell? _ = _; rw [cell_of HBZ.out]; rfl, by show w31.cell? _ = _; rw [cell_of HB9.out]; rfl, by show w31.cell? _ = _; rw [cell_of HB9.out]; rfl, by show w31.cell? _ = _; rw [cell_of HB9.out]; rfl, by show w31.cell? _ = _; rw [cell_of HB1.out]; rfl, by show w31.cell? _ = _; rw [cell_of HB1.out]; rfl, by show w31.cell? _ = _; rw [cell_of HB1.out]; rfl, by show w31.cell? _ = _; rw [cell_of HB1.out]; rfl, by show w31.cell? _ = _; rw [cell_of HBY.out]; rfl, by show w31.cell? _ = _; rw [cell_of HBY.out]; rfl, by show w31.cell? _ = _; rw [cell_of HBY.out]; rfl⟩ (fun hHeld => ?_)
          clear hK K
          try simp only [Act.put, List.getElem_toArray, List.getElem_cons_succ, List.getElem_cons_zero, List.setIfInBounds_toArray, List.set_cons_zero, List.set_cons_succ]
          first | (refine wpT_takeB (i := 25) (v := ?_) HOPS rfl (by kernel_rfl) (fun _ _ _ h => h) (Or.inl ⟨by rfl, ?hy⟩) (by assumption) ?_; case hy => (intro w hSw; (try dsimp only at hSw); go_simp; (try with_reducible rfl))) | (refine wpT_takeB (i := 25) (v := _) HOPS rfl (by kernel_rfl) (fun _ _ _ h => h) (Or.inr ⟨by rfl, rfl⟩) (by assumption) ?_)
          try simp only [Act.put, List.getElem_toArray, List.getElem_cons_succ, List.getElem_cons_zero, List.setIfInBounds_toArray, List.set_cons_zero, List.set_cons_succ]
          refine wpT_ready (rs := [26]) (by kernel_rfl) (by simp) ?_
          refine ReadyT.lastB HOPS rfl (by rfl) (by kernel_rfl) (fun K hK => ?_) ReadyT.nil
          go_simp
          refine hK.out _ _ ?_
          clear hK K
          try simp only [Act.put, List.getElem_toArray, List.getElem_cons_succ, List.getElem_cons_zero, List.setIfInBounds_toArray, List.set_cons_zero, List.set_cons_succ]
          refine wpT_done (by kernel_rfl) ?_ _
          clear HOPS
          repeat clear hHeld
          go_wp2_with fail
          exact ret_b (HR.out _ NX.out) rfl
end Go.Proofs.YtnhdnjhhjmgmnaaDoor
