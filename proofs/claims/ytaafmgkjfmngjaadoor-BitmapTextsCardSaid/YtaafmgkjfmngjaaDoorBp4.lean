/-
  bitmap.Paste: the dots of a bitmap in another one.
-/
import Derived.Test.YtaafmgkjfmngjaaDoorSame4
import Derived.Test.YtaafmgkjfmngjaaDoorNew4
import Derived.Test.YtaafmgkjfmngjaaDoorBdots
import Derived.Test.YtaafmgkjfmngjaaDoorFl4
import Derived.Test.YtaafmgkjfmngjaaDoorRegU
import Derived.Deep.RegionHeld3
namespace Go.Proofs.YtaafmgkjfmngjaaDoor
open Go.RowKit Go.Shelf
attribute [local go_sem] Oper.semAt_some
set_option linter.unusedVariables false
set_option linter.unusedSimpArgs false
set_option maxRecDepth 100000

theorem BRow.store {w : World} {B g n cap : Nat} {l : List Bool} (h : BRow w B (.slice (some ⟨g, 0, none⟩) n cap) n l) (j : Nat) (y : Bool) : BRow (w.setCell ⟨g, j, none⟩ (.bool y)) B (.slice (some ⟨g, 0, none⟩) n cap) n (l.set j y) := by
  have := (World.ownsRow.stored h j (.bool y)).1
  unfold BRow
  rw [List.map_set]
  exact this
theorem BRow.frozen {w : World} {B g n cap : Nat} {l : List Bool} (h : BRow w B (.slice (some ⟨g, 0, none⟩) n cap) n l) (j : Nat) : w.frozen? ⟨g, j, none⟩ = false := World.ownsRow.frozenAt h j
theorem BRow.cell {w : World} {B g n cap : Nat} {l : List Bool} (h : BRow w B (.slice (some ⟨g, 0, none⟩) n cap) n l) {j : Nat} {y : Bool} (hj : l[j]? = some y) : w.cell? ⟨g, j, none⟩ = some (.bool y) := by
  have hjl := (List.getElem?_eq_some_iff.1 hj).1
  have hn := h.len
  have := World.ownsRow.cellAt h j (by simp; omega)
  have hadd : (⟨g, 0, none⟩ : Addr).add j = ⟨g, j, none⟩ := by unfold Addr.add; split <;> simp_all
  rw [this]
  simp [hj]
set_option maxHeartbeats 8000000 in
theorem bPaste_any (lo : Nat) (v vc : Value) (b c : Bm) (x y : Int) (w : World) (R : Ending → World → Prop) (h : IsBm w lo v b) (hc : IsBm w lo vc c) (hlo : lo ≤ w.heap.size) (hx : wfI x) (hy : wfI y) (h63 : c.2.2.length ≤ 1000000000)
    (hR : ∀ w' v', IsBm w' w'.heap.size v' (pasteM b c x y) → Nw w w' → R (.returned v') w') : Calls Tryd.prog 12 #[v, vc, .int .i64 x, .int .i64 y] w R := by
  have HR := Lib.hid hR
  clear hR
  have HB := Lib.hid (h.hi hlo)
  have HCc := Lib.hid (hc.hi hlo)
  have HX := Lib.hid hx
  have HY := Lib.hid hy
  obtain ⟨W, H, l⟩ := b
  obtain ⟨cW, cH, lc⟩ := c
  obtain ⟨sv, rfl, ⟨A, cap, rfl, -, -⟩, -, -⟩ := h
  obtain ⟨sc, rfl, ⟨Ac, capc, rfl, -, -⟩, -, -⟩ := hc
  simp only at HB HCc HR h63 ⊢
  clear hlo hx hy
  have HBI := Lib.hid (show IsBools w w.heap.size (.slice A l.length cap) l from by obtain ⟨s, e, h1, -⟩ := HB.out; injection e with e; simp at e; subst e; exact h1)
  have NX := Lib.hid (Ch.refl (fun _ => False) w)
  by_cases hE : bmE (W, H, l) = 0
  · have HE := Lib.hid hE
    have hln := bmE_len hE
    obtain ⟨⟨w0, w1'⟩, ⟨h0', h1'⟩, hl0⟩ := bmE_ok hE
    simp only at hln w0 w1' h0' h1' hl0
    have HL0 := Lib.hid hl0
    clear hE hl0
    refine (callsIn_wide (n := 4)).1 ?_
    have hro : (Fence.wide).round = none := rfl
    have hf2 : (Fence.wide).fn 49 := trivial
    refine callsIn_of_wp_marks Tryd.func12 rfl trivial ?_ hro
    simp only [Tryd.ntmps12, List.size_toArray, List.length_cons, List.length_nil, Nat.reduceAdd, Nat.reduceSub, Array.replicate_succ, Array.replicate_zero, List.push_toArray, List.append_toArray, List.nil_append, List.cons_append]
    refine wpIn_wide.2 ?_
    go_wp2_with (fail)
    refine Calls_nm ?_
    intro W1 hW
    have n : Nw w W1 := by rw [hW]; exact (((((Ch.refl _ _).alloc _).alloc _).alloc _).alloc _).alloc _
    replace NX := Lib.hid (NX.out.trans n)
    replace HB := Lib.hid (HB.out.kept n nof)
    replace HCc := Lib.hid (HCc.out.kept n nof)
    replace HBI := Lib.hid (HBI.out.kept n nof)
    have HB0 := Lib.hid (show W1.heap[w.heap.size]? = some (.cells #[.int .i64 W, .int .i64 H, .slice A l.length cap] 28 (0, 0)) from by rw [hW]; exact heap_alloc_old' _ (heap_alloc_old' _ (heap_alloc_old' _ (heap_alloc_old' _ (heap_alloc_eq _ rfl)))))
    have HB1 := Lib.hid (show W1.heap[w.heap.size + 1]? = some (.cells #[.int .i64 cW, .int .i64 cH, .slice Ac lc.length capc] 28 (0, 0)) from by rw [hW]; exact heap_alloc_old' _ (heap_alloc_old' _ (heap_alloc_old' _ (heap_alloc_eq _ (by simp only [alloc_size])))))
    have HXB := Lib.hid (show W1.heap[w.heap.size + 2]? = some (.cells #[.int .i64 x] 3 (0, 0)) from by rw [hW]; exact heap_alloc_old' _ (heap_alloc_old' _ (heap_alloc_eq _ (by simp only [alloc_size]))))
    have HYB := Lib.hid (show W1.heap[w.heap.size + 3]? = some (.cells #[.int .i64 y] 3 (0, 0)) from by rw [hW]; exact heap_alloc_old' _ (heap_alloc_eq _ (by simp only [alloc_size])))
    have RB := Lib.hid (show W1.heap[w.heap.size + 4]? = some (.cells #[.int .i64 0, .int .i64 0, .slice none 0 0] 28 (0, 0)) from by rw [hW]; exact heap_alloc_eq _ (by simp only [alloc_size]))
    clear hW n
    have SZ : w.heap.size + 4 < W1.heap.size := lt_of_heap RB.out
    refine bmCheck_ok w.heap.size _ (W, H, l) _ _ HB.out HE.out ?_
    intro w2 n
    replace NX := Lib.hid (NX.out.trans n)
    replace HB := Lib.hid (HB.out.kept n nof)
    replace HCc := Lib.hid (HCc.out.kept n nof)
    replace HBI := Lib.hid (HBI.out.kept n nof)
    replace HB0 := Lib.hid (n.heap HB0.out id)
    replace HB1 := Lib.hid (n.heap HB1.out id)
    replace HXB := Lib.hid (n.heap HXB.out id)
    replace HYB := Lib.hid (n.heap HYB.out id)
    replace RB := Lib.hid (n.heap RB.out id)
    replace SZ := Nat.lt_of_lt_of_le SZ n.size
    clear n
    go_upto_region 3 with (fail)
    go_cut [9] from 15 to 22 (fun s9 wx => ∃ (ob : Nat) (A9 : Option Addr) (c9 : Nat), s9 = .pointer (some ⟨ob, 0, none⟩) ∧ w.heap.size + 5 ≤ ob ∧ Hid (wx.heap[ob]? = some (.cells #[.int .i64 W, .int .i64 H, .slice A9 l.length c9] 28 (0, 0))) ∧ Hid (BRow wx (w.heap.size + 5) (.slice A9 l.length c9) l.length l) ∧ Hid (∀ k, (Value.slice A9 l.length c9).ownBlock = some k → k ≠ ob) ∧ Hid (Nw w2 wx))
    case first => as_aux_lemma =>
      have NWL := Lib.hid (Ch.refl (fun _ => False) w2)
      have SWL : w2.heap.size ≤ w2.heap.size := Nat.le_refl _
      refine wp_named ?_
      intro W3 hW
      have n : Nw w2 W3 := by rw [hW]; first | exact Ch.refl _ _ | exact (Ch.refl _ _).alloc _
      replace NX := Lib.hid (NX.out.trans n)
      replace HB := Lib.hid (HB.out.kept n nof)
      replace HCc := Lib.hid (HCc.out.kept n nof)
      replace HBI := Lib.hid (HBI.out.kept n nof)
      replace HB0 := Lib.hid (n.heap HB0.out id)
      replace HB1 := Lib.hid (n.heap HB1.out id)
      replace HXB := Lib.hid (n.heap HXB.out id)
      replace HYB := Lib.hid (n.heap HYB.out id)
      replace RB := Lib.hid (n.heap RB.out id)
      replace SZ := Nat.lt_of_lt_of_le SZ n.size
      replace NWL := Lib.hid (NWL.out.trans n)
      replace SWL := Nat.le_trans SWL n.size
      clear hW n
      refine wp_region_noPanic ?_
      refine wp_region_V (F := fun w' => w'.cell? ⟨w.heap.size, 0, none⟩ = some (.int .i64 W) ∧ w'.cell? ⟨w.heap.size, 1, none⟩ = some (.int .i64 H) ∧ w'.cell? ⟨w.heap.size, 2, none⟩ = some (.slice A l.length cap)) (opsOf Tryd.f12 3) 9 10 (by kernel_rfl) (by kernel_rfl) (by kernel_rfl) (fun w w' h n => ⟨n.cell h.1 id, n.cell h.2.1 id, n.cell h.2.2 id⟩) ⟨by show W3.cell? _ = _; rw [cell_of HB0.out]; rfl, by show W3.cell? _ = _; rw [cell_of HB0.out]; rfl, by show W3.cell? _ = _; rw [cell_of HB0.out]; rfl⟩ (fun HOPS HCL hHeld => ?_)
      refine wpU_named ?_
      intro W4 hW
      try rw [← hW] at hHeld
      have n : Nw W3 W4 := by rw [hW]; exact (Ch.refl _ _).drew
      replace NX := Lib.hid (NX.out.trans n)
      replace HB := Lib.hid (HB.out.kept n nof)
      replace HCc := Lib.hid (HCc.out.kept n nof)
      replace HBI := Lib.hid (HBI.out.kept n nof)
      replace HB0 := Lib.hid (n.heap HB0.out id)
      replace HB1 := Lib.hid (n.heap HB1.out id)
      replace HXB := Lib.hid (n.heap HXB.out id)
      replace HYB := Lib.hid (n.heap HYB.out id)
      replace RB := Lib.hid (n.heap RB.out id)
      replace SZ := Nat.lt_of_lt_of_le SZ n.size
      replace NWL := Lib.hid (NWL.out.trans n)
      replace SWL := Nat.le_trans SWL n.size
      clear hW n
      first | (refine wpU_takeB (i := 0) (v := ?_) HOPS rfl (by kernel_rfl) (fun _ _ _ h => h) HCL (goes_read (by rfl) ?hy) ?_; case hy => (intro w hSw; (try dsimp only at hSw); go_simp; (try with_reducible rfl))) | (refine wpU_takeB (i := 0) (v := _) HOPS rfl (by kernel_rfl) (fun _ _ _ h => h) HCL (goes_not (by rfl)) ?_)
      try simp only [Act.put, List.getElem_toArray, List.getElem_cons_succ, List.getElem_cons_zero, List.setIfInBounds_toArray, List.set_cons_zero, List.set_cons_succ]
      first | (refine wpU_takeB (i := 1) (v := ?_) HOPS rfl (by kernel_rfl) (fun _ _ _ h => h) HCL (goes_read (by rfl) ?hy) ?_; case hy => (intro w hSw; (try dsimp only at hSw); go_simp; (try with_reducible rfl))) | (refine wpU_takeB (i := 1) (v := _) HOPS rfl (by kernel_rfl) (fun _ _ _ h => h) HCL (goes_not (by rfl)) ?_)
      try simp only [Act.put, List.getElem_toArray, List.getElem_cons_succ, List.getElem_cons_zero, List.setIfInBounds_toArray, List.set_cons_zero, List.set_cons_succ]
      first | (refine wpU_takeB (i := 2) (v := ?_) HOPS rfl (by kernel_rfl) (fun _ _ _ h => h) HCL (goes_read (by rfl) ?hy) ?_; case hy => (intro w hSw; (try dsimp only at hSw); go_simp; (try with_reducible rfl))) | (refine wpU_takeB (i := 2) (v := _) HOPS rfl (by kernel_rfl) (fun _ _ _ h => h) HCL (goes_not (by rfl)) ?_)
      try simp only [Act.put, List.getElem_toArray, List.getElem_cons_succ, List.getElem_cons_zero, List.setIfInBounds_toArray, List.set_cons_zero, List.set_cons_succ]
      first | (refine wpU_takeB (i := 3) (v := ?_) HOPS rfl (by kernel_rfl) (fun _ _ _ h => h) HCL (goes_read (by rfl) ?hy) ?_; case hy => (intro w hSw; (try dsimp only at hSw); go_simp; (try with_reducible rfl))) | (refine wpU_takeB (i := 3) (v := _) HOPS rfl (by kernel_rfl) (fun _ _ _ h => h) HCL (goes_not (by rfl)) ?_)
      try simp only [Act.put, List.getElem_toArray, List.getElem_cons_succ, List.getElem_cons_zero, List.setIfInBounds_toArray, List.set_cons_zero, List.set_cons_succ]
      first | (refine wpU_takeB (i := 4) (v := ?_) HOPS rfl (by kernel_rfl) (fun _ _ _ h => h) HCL (goes_read (by rfl) ?hy) ?_; case hy => (intro w hSw; (try dsimp only at hSw); go_simp; (try with_reducible rfl))) | (refine wpU_takeB (i := 4) (v := _) HOPS rfl (by kernel_rfl) (fun _ _ _ h => h) HCL (goes_not (by rfl)) ?_)
      try simp only [Act.put, List.getElem_toArray, List.getElem_cons_succ, List.getElem_cons_zero, List.setIfInBounds_toArray, List.set_cons_zero, List.set_cons_succ]
      first | (refine wpU_takeB (i := 5) (v := ?_) HOPS rfl (by kernel_rfl) (fun _ _ _ h => h) HCL (goes_read (by rfl) ?hy) ?_; case hy => (intro w hSw; (try dsimp only at hSw); go_simp; (try with_reducible rfl))) | (refine wpU_takeB (i := 5) (v := _) HOPS rfl (by kernel_rfl) (fun _ _ _ h => h) HCL (goes_not (by rfl)) ?_)
      try simp only [Act.put, List.getElem_toArray, List.getElem_cons_succ, List.getElem_cons_zero, List.setIfInBounds_toArray, List.set_cons_zero, List.set_cons_succ]
      refine wpU_ready (rs := [6, 8]) (by kernel_rfl) (by simp) ?_
      intro w5 hle
      obtain ⟨n, hHeld⟩ := hle.ahead (by kernel_rfl)
      clear hle
      replace NX := Lib.hid (NX.out.trans n)
      replace HB := Lib.hid (HB.out.kept n nof)
      replace HCc := Lib.hid (HCc.out.kept n nof)
      replace HBI := Lib.hid (HBI.out.kept n nof)
      replace HB0 := Lib.hid (n.heap HB0.out id)
      replace HB1 := Lib.hid (n.heap HB1.out id)
      replace HXB := Lib.hid (n.heap HXB.out id)
      replace HYB := Lib.hid (n.heap HYB.out id)
      replace RB := Lib.hid (n.heap RB.out id)
      replace SZ := Nat.lt_of_lt_of_le SZ n.size
      replace NWL := Lib.hid (NWL.out.trans n)
      replace SWL := Nat.le_trans SWL n.size
      clear n
      refine ReadyU.cons HOPS rfl (by rfl) (fun K hK => ?_) (ReadyU.cons HOPS rfl (by rfl) (fun K hK => ?_) ReadyU.nil)
      · go_simp
        have SZp := SZ
        go_at_call 35
        refine cloneB_any _ _ l _ _ HBI.out (by omega) ?_
        intro w6 v9 hrow n
        replace NX := Lib.hid (NX.out.trans n)
        replace HB := Lib.hid (HB.out.kept n nof)
        replace HCc := Lib.hid (HCc.out.kept n nof)
        replace HBI := Lib.hid (HBI.out.kept n nof)
        replace HB0 := Lib.hid (n.heap HB0.out id)
        replace HB1 := Lib.hid (n.heap HB1.out id)
        replace HXB := Lib.hid (n.heap HXB.out id)
        replace HYB := Lib.hid (n.heap HYB.out id)
        replace RB := Lib.hid (n.heap RB.out id)
        replace SZ := Nat.lt_of_lt_of_le SZ n.size
        replace NWL := Lib.hid (NWL.out.trans n)
        replace SWL := Nat.le_trans SWL n.size
        obtain ⟨A9, c9, rfl⟩ := hrow.form
        have HBR := Lib.hid (hrow.lo (B' := w.heap.size + 5) (by omega))
        clear hrow
        refine hK.out _ _ n ⟨by show w6.cell? _ = _; rw [cell_of HB0.out]; rfl, by show w6.cell? _ = _; rw [cell_of HB0.out]; rfl, by show w6.cell? _ = _; rw [cell_of HB0.out]; rfl⟩ (fun hHeld => ?_)
        clear hK K n
        try simp only [Act.put, List.getElem_toArray, List.getElem_cons_succ, List.getElem_cons_zero, List.setIfInBounds_toArray, List.set_cons_zero, List.set_cons_succ]
        first | (refine wpU_takeB (i := 7) (v := ?_) HOPS rfl (by kernel_rfl) (fun _ _ _ h => h) HCL (goes_read (by rfl) ?hy) ?_; case hy => (intro w hSw; (try dsimp only at hSw); go_simp; (try with_reducible rfl))) | (refine wpU_takeB (i := 7) (v := _) HOPS rfl (by kernel_rfl) (fun _ _ _ h => h) HCL (goes_not (by rfl)) ?_)
        try simp only [Act.put, List.getElem_toArray, List.getElem_cons_succ, List.getElem_cons_zero, List.setIfInBounds_toArray, List.set_cons_zero, List.set_cons_succ]
        refine wpU_ready (rs := [8]) (by kernel_rfl) (by simp) ?_
        intro w7 hle
        obtain ⟨n, hHeld⟩ := hle.ahead (by kernel_rfl)
        clear hle
        replace NX := Lib.hid (NX.out.trans n)
        replace HB := Lib.hid (HB.out.kept n nof)
        replace HCc := Lib.hid (HCc.out.kept n nof)
        replace HBI := Lib.hid (HBI.out.kept n nof)
        replace HB0 := Lib.hid (n.heap HB0.out id)
        replace HB1 := Lib.hid (n.heap HB1.out id)
        replace HXB := Lib.hid (n.heap HXB.out id)
        replace HYB := Lib.hid (n.heap HYB.out id)
        replace RB := Lib.hid (n.heap RB.out id)
        replace SZ := Nat.lt_of_lt_of_le SZ n.size
        replace NWL := Lib.hid (NWL.out.trans n)
        replace SWL := Nat.le_trans SWL n.size
        replace HBR := Lib.hid (HBR.out.ch n (fun _ _ e => e))
        clear n
        refine ReadyU.cons HOPS rfl (by rfl) (fun K hK => ?_) ReadyU.nil
        go_simp
        refine hK.out _ _ ((Ch.refl _ _).alloc _) ⟨cell_alloc_old _ (by rw [cell_of HB0.out]; rfl), cell_alloc_old _ (by rw [cell_of HB0.out]; rfl), cell_alloc_old _ (by rw [cell_of HB0.out]; rfl)⟩ (fun hHeld => ?_)
        clear hK K
        try simp only [Act.put, List.getElem_toArray, List.getElem_cons_succ, List.getElem_cons_zero, List.setIfInBounds_toArray, List.set_cons_zero, List.set_cons_succ]
        have SZAOB := SZ
        have SWLAOB := SWL
        have HBRAOB := Lib.hid (fun k hk => Nat.ne_of_lt (HBR.out.lt k hk).2)
        refine wpU_named ?_
        intro W8 hW
        try rw [← hW] at hHeld
        have n : Nw w7 W8 := by rw [hW]; exact (Ch.refl _ _).alloc _
        replace NX := Lib.hid (NX.out.trans n)
        replace HB := Lib.hid (HB.out.kept n nof)
        replace HCc := Lib.hid (HCc.out.kept n nof)
        replace HBI := Lib.hid (HBI.out.kept n nof)
        replace HB0 := Lib.hid (n.heap HB0.out id)
        replace HB1 := Lib.hid (n.heap HB1.out id)
        replace HXB := Lib.hid (n.heap HXB.out id)
        replace HYB := Lib.hid (n.heap HYB.out id)
        replace RB := Lib.hid (n.heap RB.out id)
        replace SZ := Nat.lt_of_lt_of_le SZ n.size
        replace NWL := Lib.hid (NWL.out.trans n)
        replace SWL := Nat.le_trans SWL n.size
        replace HBR := Lib.hid (HBR.out.ch n (fun _ _ e => e))
        have OB := Lib.hid (show W8.heap[w7.heap.size]? = some (.cells #[.int .i64 0, .int .i64 0, .slice none 0 0] 28 (0, 0)) from by rw [hW]; exact heap_alloc_eq _ rfl)
        clear hW n
        refine wpU_ready (rs := [9]) (by kernel_rfl) (by simp) ?_
        intro w9 hle
        obtain ⟨n, hHeld⟩ := hle.ahead (by kernel_rfl)
        clear hle
        replace NX := Lib.hid (NX.out.trans n)
        replace HB := Lib.hid (HB.out.kept n nof)
        replace HCc := Lib.hid (HCc.out.kept n nof)
        replace HBI := Lib.hid (HBI.out.kept n nof)
        replace HB0 := Lib.hid (n.heap HB0.out id)
        replace HB1 := Lib.hid (n.heap HB1.out id)
        replace HXB := Lib.hid (n.heap HXB.out id)
        replace HYB := Lib.hid (n.heap HYB.out id)
        replace RB := Lib.hid (n.heap RB.out id)
        replace SZ := Nat.lt_of_lt_of_le SZ n.size
        replace NWL := Lib.hid (NWL.out.trans n)
        replace SWL := Nat.le_trans SWL n.size
        replace HBR := Lib.hid (HBR.out.ch n (fun _ _ e => e))
        replace OB := Lib.hid (n.heap OB.out id)
        clear n
        refine ReadyU.last HOPS rfl (by rfl) (by kernel_rfl) (fun K hK => ?_) ReadyU.nil
        have o0 : w9.cell? ⟨w7.heap.size, 0, none⟩ = some (.int .i64 0) := by rw [cell_of OB.out]; rfl
        have o1 : w9.cell? ⟨w7.heap.size, 1, none⟩ = some (.int .i64 0) := by rw [cell_of OB.out]; rfl
        have o2 : w9.cell? ⟨w7.heap.size, 2, none⟩ = some (.slice none 0 0) := by rw [cell_of OB.out]; rfl
        have p0 : w9.frozen? ⟨w7.heap.size, 0, none⟩ = false := frozen_of OB.out
        have p1 : w9.frozen? ⟨w7.heap.size, 1, none⟩ = false := frozen_of OB.out
        have p2 : w9.frozen? ⟨w7.heap.size, 2, none⟩ = false := frozen_of OB.out
        go_simp
        refine hK.out _ _ ?_
        clear hK K
        try simp only [Act.put, List.getElem_toArray, List.getElem_cons_succ, List.getElem_cons_zero, List.setIfInBounds_toArray, List.set_cons_zero, List.set_cons_succ]
        refine wpU_done (by kernel_rfl) (fun w10 hle => ?_) _
        rw [hle.behind (by kernel_rfl)]
        clear HOPS HCL hle
        repeat clear hHeld
        refine NoPanic.normal ?_
        go_wp2_with (fail)
        go_meet
        have cc := ((((Ch.refl (· = w7.heap.size) w9).setb (b := w7.heap.size) (o := 0) (fun _ => rfl) (.int .i64 W)).setb (b := w7.heap.size) (o := 1) (fun _ => rfl) (.int .i64 H)).setb (b := w7.heap.size) (o := 2) (fun _ => rfl) (.slice A9 l.length c9))
        have hne : ∀ k, (Value.slice A9 l.length c9).ownBlock = some k → k ≠ w7.heap.size := by first | exact HNE.out | exact HBRAOB.out
        exact ⟨w7.heap.size, A9, c9, rfl, by omega, Lib.hid (heap_setCell_eq _ (heap_setCell_eq _ (heap_setCell_eq _ OB.out))), Lib.hid (HBR.out.ch' cc (fun k hk e => hne k hk e)), Lib.hid hne, Lib.hid (NWL.out.trans' cc (fun j hj e => by have e' : j = w7.heap.size := e; omega))⟩
      · go_simp
        refine hK.out _ _ ((Ch.refl _ _).alloc _) ⟨cell_alloc_old _ (by rw [cell_of HB0.out]; rfl), cell_alloc_old _ (by rw [cell_of HB0.out]; rfl), cell_alloc_old _ (by rw [cell_of HB0.out]; rfl)⟩ (fun hHeld => ?_)
        clear hK K
        try simp only [Act.put, List.getElem_toArray, List.getElem_cons_succ, List.getElem_cons_zero, List.setIfInBounds_toArray, List.set_cons_zero, List.set_cons_succ]
        have SZAOB := SZ
        have SWLAOB := SWL
        refine wpU_named ?_
        intro W11 hW
        try rw [← hW] at hHeld
        have n : Nw w5 W11 := by rw [hW]; exact (Ch.refl _ _).alloc _
        replace NX := Lib.hid (NX.out.trans n)
        replace HB := Lib.hid (HB.out.kept n nof)
        replace HCc := Lib.hid (HCc.out.kept n nof)
        replace HBI := Lib.hid (HBI.out.kept n nof)
        replace HB0 := Lib.hid (n.heap HB0.out id)
        replace HB1 := Lib.hid (n.heap HB1.out id)
        replace HXB := Lib.hid (n.heap HXB.out id)
        replace HYB := Lib.hid (n.heap HYB.out id)
        replace RB := Lib.hid (n.heap RB.out id)
        replace SZ := Nat.lt_of_lt_of_le SZ n.size
        replace NWL := Lib.hid (NWL.out.trans n)
        replace SWL := Nat.le_trans SWL n.size
        have OB := Lib.hid (show W11.heap[w5.heap.size]? = some (.cells #[.int .i64 0, .int .i64 0, .slice none 0 0] 28 (0, 0)) from by rw [hW]; exact heap_alloc_eq _ rfl)
        clear hW n
        refine wpU_ready (rs := [6]) (by kernel_rfl) (by simp) ?_
        intro w12 hle
        obtain ⟨n, hHeld⟩ := hle.ahead (by kernel_rfl)
        clear hle
        replace NX := Lib.hid (NX.out.trans n)
        replace HB := Lib.hid (HB.out.kept n nof)
        replace HCc := Lib.hid (HCc.out.kept n nof)
        replace HBI := Lib.hid (HBI.out.kept n nof)
        replace HB0 := Lib.hid (n.heap HB0.out id)
        replace HB1 := Lib.hid (n.heap HB1.out id)
        replace HXB := Lib.hid (n.heap HXB.out id)
        replace HYB := Lib.hid (n.heap HYB.out id)
        replace RB := Lib.hid (n.heap RB.out id)
        replace SZ := Nat.lt_of_lt_of_le SZ n.size
        replace NWL := Lib.hid (NWL.out.trans n)
        replace SWL := Nat.le_trans SWL n.size
        replace OB := Lib.hid (n.heap OB.out id)
        clear n
        refine ReadyU.cons HOPS rfl (by rfl) (fun K hK => ?_) ReadyU.nil
        go_simp
        have SZp := SZ
        have LOB := lt_of_heap OB.out
        go_at_call 35
        refine cloneB_any _ _ l _ _ HBI.out (by omega) ?_
        intro w13 v9 hrow n
        replace NX := Lib.hid (NX.out.trans n)
        replace HB := Lib.hid (HB.out.kept n nof)
        replace HCc := Lib.hid (HCc.out.kept n nof)
        replace HBI := Lib.hid (HBI.out.kept n nof)
        replace HB0 := Lib.hid (n.heap HB0.out id)
        replace HB1 := Lib.hid (n.heap HB1.out id)
        replace HXB := Lib.hid (n.heap HXB.out id)
        replace HYB := Lib.hid (n.heap HYB.out id)
        replace RB := Lib.hid (n.heap RB.out id)
        replace SZ := Nat.lt_of_lt_of_le SZ n.size
        replace NWL := Lib.hid (NWL.out.trans n)
        replace SWL := Nat.le_trans SWL n.size
        replace OB := Lib.hid (n.heap OB.out id)
        obtain ⟨A9, c9, rfl⟩ := hrow.form
        have HBR := Lib.hid (hrow.lo (B' := w.heap.size + 5) (by omega))
        have HNE := Lib.hid (show ∀ k, (Value.slice A9 l.length c9).ownBlock = some k → k ≠ w5.heap.size from fun k hk => by have := (hrow.lt k hk).1; omega)
        clear hrow
        refine hK.out _ _ n ⟨by show w13.cell? _ = _; rw [cell_of HB0.out]; rfl, by show w13.cell? _ = _; rw [cell_of HB0.out]; rfl, by show w13.cell? _ = _; rw [cell_of HB0.out]; rfl⟩ (fun hHeld => ?_)
        clear hK K n
        try simp only [Act.put, List.getElem_toArray, List.getElem_cons_succ, List.getElem_cons_zero, List.setIfInBounds_toArray, List.set_cons_zero, List.set_cons_succ]
        first | (refine wpU_takeB (i := 7) (v := ?_) HOPS rfl (by kernel_rfl) (fun _ _ _ h => h) HCL (goes_read (by rfl) ?hy) ?_; case hy => (intro w hSw; (try dsimp only at hSw); go_simp; (try with_reducible rfl))) | (refine wpU_takeB (i := 7) (v := _) HOPS rfl (by kernel_rfl) (fun _ _ _ h => h) HCL (goes_not (by rfl)) ?_)
        try simp only [Act.put, List.getElem_toArray, List.getElem_cons_succ, List.getElem_cons_zero, List.setIfInBounds_toArray, List.set_cons_zero, List.set_cons_succ]
        refine wpU_ready (rs := [9]) (by kernel_rfl) (by simp) ?_
        intro w14 hle
        obtain ⟨n, hHeld⟩ := hle.ahead (by kernel_rfl)
        clear hle
        replace NX := Lib.hid (NX.out.trans n)
        replace HB := Lib.hid (HB.out.kept n nof)
        replace HCc := Lib.hid (HCc.out.kept n nof)
        replace HBI := Lib.hid (HBI.out.kept n nof)
        replace HB0 := Lib.hid (n.heap HB0.out id)
        replace HB1 := Lib.hid (n.heap HB1.out id)
        replace HXB := Lib.hid (n.heap HXB.out id)
        replace HYB := Lib.hid (n.heap HYB.out id)
        replace RB := Lib.hid (n.heap RB.out id)
        replace SZ := Nat.lt_of_lt_of_le SZ n.size
        replace NWL := Lib.hid (NWL.out.trans n)
        replace SWL := Nat.le_trans SWL n.size
        replace OB := Lib.hid (n.heap OB.out id)
        replace HBR := Lib.hid (HBR.out.ch n (fun _ _ e => e))
        clear n
        refine ReadyU.last HOPS rfl (by rfl) (by kernel_rfl) (fun K hK => ?_) ReadyU.nil
        have o0 : w14.cell? ⟨w5.heap.size, 0, none⟩ = some (.int .i64 0) := by rw [cell_of OB.out]; rfl
        have o1 : w14.cell? ⟨w5.heap.size, 1, none⟩ = some (.int .i64 0) := by rw [cell_of OB.out]; rfl
        have o2 : w14.cell? ⟨w5.heap.size, 2, none⟩ = some (.slice none 0 0) := by rw [cell_of OB.out]; rfl
        have p0 : w14.frozen? ⟨w5.heap.size, 0, none⟩ = false := frozen_of OB.out
        have p1 : w14.frozen? ⟨w5.heap.size, 1, none⟩ = false := frozen_of OB.out
        have p2 : w14.frozen? ⟨w5.heap.size, 2, none⟩ = false := frozen_of OB.out
        go_simp
        refine hK.out _ _ ?_
        clear hK K
        try simp only [Act.put, List.getElem_toArray, List.getElem_cons_succ, List.getElem_cons_zero, List.setIfInBounds_toArray, List.set_cons_zero, List.set_cons_succ]
        refine wpU_done (by kernel_rfl) (fun w15 hle => ?_) _
        rw [hle.behind (by kernel_rfl)]
        clear HOPS HCL hle
        repeat clear hHeld
        refine NoPanic.normal ?_
        go_wp2_with (fail)
        go_meet
        have cc := ((((Ch.refl (· = w5.heap.size) w14).setb (b := w5.heap.size) (o := 0) (fun _ => rfl) (.int .i64 W)).setb (b := w5.heap.size) (o := 1) (fun _ => rfl) (.int .i64 H)).setb (b := w5.heap.size) (o := 2) (fun _ => rfl) (.slice A9 l.length c9))
        have hne : ∀ k, (Value.slice A9 l.length c9).ownBlock = some k → k ≠ w5.heap.size := by first | exact HNE.out | exact HBRAOB.out
        exact ⟨w5.heap.size, A9, c9, rfl, by omega, Lib.hid (heap_setCell_eq _ (heap_setCell_eq _ (heap_setCell_eq _ OB.out))), Lib.hid (HBR.out.ch' cc (fun k hk e => hne k hk e)), Lib.hid hne, Lib.hid (NWL.out.trans' cc (fun j hj e => by have e' : j = w5.heap.size := e; omega))⟩
    case rest => as_aux_lemma =>
      obtain ⟨ob, A9, c9, rfl, hob, OB, HBR, HNE, HN⟩ := hcut
      obtain ⟨wc0, hwc0⟩ : ∃ W : World, W = wc := ⟨_, rfl⟩
      subst hwc0
      replace NX := Lib.hid (NX.out.trans HN.out)
      replace HB := Lib.hid (HB.out.kept HN.out nof)
      replace HCc := Lib.hid (HCc.out.kept HN.out nof)
      replace HBI := Lib.hid (HBI.out.kept HN.out nof)
      replace HB0 := Lib.hid (HN.out.heap HB0.out id)
      replace HB1 := Lib.hid (HN.out.heap HB1.out id)
      replace HXB := Lib.hid (HN.out.heap HXB.out id)
      replace HYB := Lib.hid (HN.out.heap HYB.out id)
      replace RB := Lib.hid (HN.out.heap RB.out id)
      replace SZ := Nat.lt_of_lt_of_le SZ HN.out.size
      have kHB10 : wc0.cell? ⟨w.heap.size + 1, 0, none⟩ = some (.int .i64 cW) := by rw [cell_of HB1.out]; rfl
      have jHB10 : ∀ o, (wc0.alloc o).cell? ⟨w.heap.size + 1, 0, none⟩ = some (.int .i64 cW) := fun o => cell_alloc_old o kHB10
      have kHB11 : wc0.cell? ⟨w.heap.size + 1, 1, none⟩ = some (.int .i64 cH) := by rw [cell_of HB1.out]; rfl
      have jHB11 : ∀ o, (wc0.alloc o).cell? ⟨w.heap.size + 1, 1, none⟩ = some (.int .i64 cH) := fun o => cell_alloc_old o kHB11
      have kHB12 : wc0.cell? ⟨w.heap.size + 1, 2, none⟩ = some (.slice Ac lc.length capc) := by rw [cell_of HB1.out]; rfl
      have jHB12 : ∀ o, (wc0.alloc o).cell? ⟨w.heap.size + 1, 2, none⟩ = some (.slice Ac lc.length capc) := fun o => cell_alloc_old o kHB12
      go_wp2_with (fail)
      clear kHB10 jHB10 kHB11 jHB11 kHB12 jHB12
      refine Calls_nm ?_
      intro W16 hW
      have n : Nw wc0 W16 := by rw [hW]; first | exact Ch.refl _ _ | exact (Ch.refl _ _).alloc _ | exact ((Ch.refl _ _).alloc _).alloc _
      replace NX := Lib.hid (NX.out.trans n)
      replace HB := Lib.hid (HB.out.kept n nof)
      replace HCc := Lib.hid (HCc.out.kept n nof)
      replace HBI := Lib.hid (HBI.out.kept n nof)
      replace HB0 := Lib.hid (n.heap HB0.out id)
      replace HB1 := Lib.hid (n.heap HB1.out id)
      replace HXB := Lib.hid (n.heap HXB.out id)
      replace HYB := Lib.hid (n.heap HYB.out id)
      replace RB := Lib.hid (n.heap RB.out id)
      replace SZ := Nat.lt_of_lt_of_le SZ n.size
      replace OB := Lib.hid (n.heap OB.out id)
      replace HBR := Lib.hid (HBR.out.ch n (fun _ _ e => e))
      clear hW n
      have hobd := lt_of_heap OB.out
      have LBR := HBR.out.lt
      refine callsIn_wide.1 ((dots_in 4 cW cH Ac lc.length capc W16).mono ?_)
      rintro e w' ⟨rfl, rfl⟩
      go_wp2_with (fail)
      refine wp_named ?_
      intro W17 hW
      have n : Nw W16 W17 := by rw [hW]; exact (Ch.refl _ _).alloc _
      replace NX := Lib.hid (NX.out.trans n)
      replace HB := Lib.hid (HB.out.kept n nof)
      replace HCc := Lib.hid (HCc.out.kept n nof)
      replace HBI := Lib.hid (HBI.out.kept n nof)
      replace HB0 := Lib.hid (n.heap HB0.out id)
      replace HB1 := Lib.hid (n.heap HB1.out id)
      replace HXB := Lib.hid (n.heap HXB.out id)
      replace HYB := Lib.hid (n.heap HYB.out id)
      replace RB := Lib.hid (n.heap RB.out id)
      replace SZ := Nat.lt_of_lt_of_le SZ n.size
      replace OB := Lib.hid (n.heap OB.out id)
      replace HBR := Lib.hid (HBR.out.ch n (fun _ _ e => e))
      have HBD := Lib.hid (show W17.heap[W16.heap.size]? = some (.cells #[.int .i64 cW, .int .i64 cH, .slice Ac lc.length capc] 28 (0, 0)) from by rw [hW]; exact heap_alloc_eq _ rfl)
      clear hW n
      have SZ0 : W16.heap.size < W17.heap.size := lt_of_heap HBD.out
      have SZ9 := SZ
      have hob1 : ob < W16.heap.size := hobd
      obtain ⟨nb, hnb, hnb1, hnb2, hnb3⟩ : ∃ nb : Nat, (∀ k, (Value.slice A9 l.length c9).ownBlock = some k → k = nb ∧ k < W16.heap.size) ∧ w.heap.size + 5 ≤ nb ∧ nb ≠ W16.heap.size ∧ nb ≠ ob := by
        cases A9 with
        | none => exact ⟨W17.heap.size, (fun k hk => (by cases hk)), by omega, by omega, by omega⟩
        | some ad => exact ⟨ad.block, (fun k hk => (by injection hk with hk; exact ⟨hk.symm, by have := (LBR k (by rw [← hk]; rfl)).2; exact this⟩)), (LBR ad.block rfl).1, by have := (LBR ad.block rfl).2; omega, HNE.out _ rfl⟩
      have LC : (dotsB (cW, cH, lc)).length ≤ lc.length := dotsB_len _
      have HNB := Lib.hid hnb
      clear hnb LBR
      refine (wpIn_wide (n := 4)).1 ?_
      refine wpIn_rangeFunc_ownH hro (by omega) (gf := 49) (lb := #[.pointer (some ⟨W16.heap.size, 0, none⟩)]) rfl hf2 (enters_of Tryd.func49 (by kernel_rfl) rfl)
        (dots_stops 3 (by omega) W16.heap.size w.heap.size nb W17.heap.size _ (cW, cH, lc) W17 HBD.out HCc.out (by omega) (by rintro (h | h) <;> omega) (fun k hk => by rintro (h | h) <;> omega))
        (fun h k => h.trans k) (fun W l o o' hl _ _ _ => ch_putObj W l o' (by omega)) (Below.refl _ _) (fun _ => rfl)
        (fun pre W' => W'.heap[ob]? = some (.cells #[.int .i64 W, .int .i64 H, .slice A9 l.length c9] 28 (0, 0)) ∧ BRow W' (w.heap.size + 5) (.slice A9 l.length c9) l.length (pasteS (W, H, l) x y pre) ∧ Ch (FpD nb W17.heap.size) W17 W')
        (fun _ _ _ => False) ?own (fun _ _ _ _ _ h _ _ => h) ⟨OB.out, by rw [pasteS_nil HE.out]; exact HBR.out, Ch.refl _ _⟩
        (fun d a' W' => ∃ (db : Nat), W17.heap.size ≤ db ∧ W'.heap[db]? = some (.cells #[.int .i64 d.1, .int .i64 d.2] 67 (0, 0)) ∧ a' = { tmps := #[.agg #[.int .i64 W, .int .i64 H, .slice A l.length cap], .agg #[.int .i64 cW, .int .i64 cH, .slice Ac lc.length capc], .int .i64 x, .int .i64 y, .pointer (some ⟨w.heap.size, 0, none⟩), .pointer (some ⟨w.heap.size + 1, 0, none⟩), .pointer (some ⟨w.heap.size + 2, 0, none⟩), .pointer (some ⟨w.heap.size + 3, 0, none⟩), .pointer (some ⟨w.heap.size + 4, 0, none⟩), .pointer (some ⟨ob, 0, none⟩), .pointer (some ⟨db, 0, none⟩), .agg #[.int .i64 W, .int .i64 H, .slice A l.length cap], .int .i64 0, .bool false, undef, u15, u16, u17, u18, u19, u20, u21, u22, .agg #[.int .i64 cW, .int .i64 cH, .slice Ac lc.length capc], .func (.func 49) #[] #[.pointer (some ⟨W16.heap.size, 0, none⟩)], .agg #[.int .i64 d.1, .int .i64 d.2], undef, undef, undef, undef, undef, undef, undef, undef, undef, undef, undef, undef, undef, undef, undef, undef, undef, undef, undef, undef, undef, undef, undef, undef, undef, undef, undef, undef, undef, undef, undef, undef, undef, undef, undef, undef, undef, undef, undef, undef, undef, undef, undef], defers := [] })
        ?axo ?assign ?body ?done ?stop
      case own =>
        intro pre W' W2 row h hg hr
        refine ⟨?_, h.2.1.ch' ((Ch.refl (fun k => W17.heap.size ≤ k) W').grown hg (fun k e hk => (hr k e).1)) (fun k hk e => by have := (HNB.out k hk).2; omega), h.2.2.grown hg (fun k e hk => by have := (hr k e).1; exact Or.inr this)⟩
        rw [hg.block _ (lt_of_heap h.1) (fun e => by have := (hr _ e.symm).1; omega)]
        exact h.1
      case axo =>
        intro d a' u W' W2 row h hg hr
        obtain ⟨db, h1, h2, h3⟩ := h
        refine ⟨db, h1, ?_, h3⟩
        rw [hg.block _ (lt_of_heap h2) (fun e => by
          obtain ⟨-, o, ho, hc⟩ := hr _ e.symm
          rw [h2] at ho
          cases ho
          cases hc)]
        exact h2
      case assign =>
        intro lp pre d W' K hI hK
        have htm : ((#[25].zip (encD d)).foldl (fun t (p, v) => t.setIfInBounds p v) #[.agg #[.int .i64 W, .int .i64 H, .slice A l.length cap], .agg #[.int .i64 cW, .int .i64 cH, .slice Ac lc.length capc], .int .i64 x, .int .i64 y, .pointer (some ⟨w.heap.size, 0, none⟩), .pointer (some ⟨w.heap.size + 1, 0, none⟩), .pointer (some ⟨w.heap.size + 1 + 1, 0, none⟩), .pointer (some ⟨w.heap.size + 1 + 1 + 1, 0, none⟩), .pointer (some ⟨w.heap.size + 1 + 1 + 1 + 1, 0, none⟩), .pointer (some ⟨ob, 0, none⟩), undef, .agg #[.int .i64 W, .int .i64 H, .slice A l.length cap], .int .i64 0, .bool false, undef, u15, u16, u17, u18, u19, u20, u21, u22, .agg #[.int .i64 cW, .int .i64 cH, .slice Ac lc.length capc], .func (.func 49) #[] #[.pointer (some ⟨W16.heap.size, 0, none⟩)], undef, undef, undef, undef, undef, undef, undef, undef, undef, undef, undef, undef, undef, undef, undef, undef, undef, undef, undef, undef, undef, undef, undef, undef, undef, undef, undef, undef, undef, undef, undef, undef, undef, undef, undef, undef, undef, undef, undef, undef, undef, undef, undef, undef]) = #[.agg #[.int .i64 W, .int .i64 H, .slice A l.length cap], .agg #[.int .i64 cW, .int .i64 cH, .slice Ac lc.length capc], .int .i64 x, .int .i64 y, .pointer (some ⟨w.heap.size, 0, none⟩), .pointer (some ⟨w.heap.size + 1, 0, none⟩), .pointer (some ⟨w.heap.size + 1 + 1, 0, none⟩), .pointer (some ⟨w.heap.size + 1 + 1 + 1, 0, none⟩), .pointer (some ⟨w.heap.size + 1 + 1 + 1 + 1, 0, none⟩), .pointer (some ⟨ob, 0, none⟩), undef, .agg #[.int .i64 W, .int .i64 H, .slice A l.length cap], .int .i64 0, .bool false, undef, u15, u16, u17, u18, u19, u20, u21, u22, .agg #[.int .i64 cW, .int .i64 cH, .slice Ac lc.length capc], .func (.func 49) #[] #[.pointer (some ⟨W16.heap.size, 0, none⟩)], .agg #[.int .i64 d.1, .int .i64 d.2], undef, undef, undef, undef, undef, undef, undef, undef, undef, undef, undef, undef, undef, undef, undef, undef, undef, undef, undef, undef, undef, undef, undef, undef, undef, undef, undef, undef, undef, undef, undef, undef, undef, undef, undef, undef, undef, undef, undef, undef, undef, undef, undef] := by simp [encD]
        rw [htm]
        clear htm
        gi_wp2
        refine hK _ _ ((KeepsOthers.alloc W' _).from _) ((Ch.refl _ _).alloc _) ⟨heap_alloc_old' _ hI.1, hI.2.1.ch ((Ch.refl (fun _ => False) W').alloc _) (fun _ _ e => e), hI.2.2.alloc _⟩ ⟨W'.heap.size, ?_, heap_alloc_eq _ rfl, rfl⟩
        exact hI.2.2.size
      case body =>
        rintro lp pre ⟨d1, d2⟩ a' W' hl hlp ⟨hbo, hbr, hch⟩ ⟨db, hdb, hbx, rfl⟩ hlt
        have HXc := Lib.hid (hch.heap HXB.out (by rintro (h | h) <;> omega))
        have HYc := Lib.hid (hch.heap HYB.out (by rintro (h | h) <;> omega))
        have kx : W'.cell? ⟨w.heap.size + 2, 0, none⟩ = some (.int .i64 x) := by rw [cell_of HXc.out]; rfl
        have ky : W'.cell? ⟨w.heap.size + 3, 0, none⟩ = some (.int .i64 y) := by rw [cell_of HYc.out]; rfl
        have k0 : W'.cell? ⟨ob, 0, none⟩ = some (.int .i64 W) := by rw [cell_of hbo]; rfl
        have k1 : W'.cell? ⟨ob, 1, none⟩ = some (.int .i64 H) := by rw [cell_of hbo]; rfl
        have k2 : W'.cell? ⟨ob, 2, none⟩ = some (.slice A9 l.length c9) := by rw [cell_of hbo]; rfl
        have e0 : W'.cell? ⟨db, 0, none⟩ = some (.int .i64 d1) := by rw [cell_of hbx]; rfl
        have e1 : W'.cell? ⟨db, 1, none⟩ = some (.int .i64 d2) := by rw [cell_of hbx]; rfl
        have g0 : W'.frozen? ⟨db, 0, none⟩ = false := frozen_of hbx
        have g1 : W'.frozen? ⟨db, 1, none⟩ = false := frozen_of hbx
        have n1 : ¬ db = ob := by omega
        have n2 : ¬ ob = db := by omega
        obtain ⟨p, hp⟩ : ∃ p, wrap64 (d1 + x) = p := ⟨_, rfl⟩
        obtain ⟨q, hq⟩ : ∃ q, wrap64 (d2 + y) = q := ⟨_, rfl⟩
        have hat : atP x y (d1, d2) = (p, q) := by unfold atP; rw [hp, hq]
        have HAT := Lib.hid hat
        have HBO := Lib.hid hbo
        have HBW := Lib.hid hbr
        have HBXc := Lib.hid hbx
        have HCHc := Lib.hid hch
        clear hat hbo hbr hbx hch
        skip
        by_cases hin : (0 ≤ p ∧ p < W) ∧ (0 ≤ q ∧ q < H)
        · obtain ⟨⟨p0, p1⟩, ⟨q0, q1⟩⟩ := hin
          obtain ⟨gl0, gl1⟩ := grid_lt (x := p) (y := q) (W := W) (H := H) ⟨p0, p1⟩ ⟨q0, q1⟩
          have hst := pasteS_in (b := (W, H, l)) (x := x) (y := y) (D := pre) (d := (d1, d2)) (by rw [HAT.out]; exact ⟨p0, p1⟩) (by rw [HAT.out]; exact ⟨q0, q1⟩)
          rw [HAT.out] at hst
          simp only at hst
          have P0 : 0 ≤ q * W := Int.mul_nonneg q0 w0
          obtain ⟨P, hP⟩ : ∃ P, q * W = P := ⟨_, rfl⟩
          rw [hP] at hst gl0 gl1 P0
          rw [← HL0.out] at gl1
          have HST := Lib.hid hst
          clear hst
          obtain ⟨g, rfl⟩ : ∃ g, A9 = some ⟨g, 0, none⟩ := by
            rcases HBW.out.2 with ⟨h1, h2⟩ | ⟨g, cap', cur, h1, -⟩
            · omega
            · injection h1 with h1; exact ⟨g, h1⟩
          obtain ⟨hgnb, hgM⟩ := HNB.out g rfl
          have n3 : ¬ db = g := by omega
          have n4 : ¬ g = db := by omega
          have n5 : ¬ ob = g := by omega
          have n6 : ¬ g = ob := by omega
          have HGN := Lib.hid hgnb
          clear hgnb
          obtain ⟨od, hod⟩ : ∃ od, (pasteS (W, H, l) x y pre)[(P + p).toNat]? = some od := ⟨_, List.getElem?_eq_getElem (by rw [pasteS_len]; have := HL0.out; simp only; omega)⟩
          have gc := HBW.out.cell hod
          have gf := HBW.out.frozen (P + p).toNat
          clear hod
          have pl0 : 0 ≤ P + p := by omega
          have pl1 : P + p < (l.length : Int) := by omega
          have P9 : P ≤ 10000 := by omega
          clear gl0 gl1
          gi_wp2
          refine ⟨((((KeepsOthers.refl W').trans (KeepsOthers.setCell _ _ _)).trans (KeepsOthers.setCell _ _ _)).trans (KeepsOthers.setCell _ _ _)).from _, (((Ch.refl (FpD nb W17.heap.size) W').setb (fun _ => Or.inr hdb) _).setb (fun _ => Or.inr hdb) _).setb (fun _ => Or.inl HGN.out) _, ?_, ?_, HCHc.out.trans ((((Ch.refl (FpD nb W17.heap.size) W').setb (fun _ => Or.inr hdb) _).setb (fun _ => Or.inr hdb) _).setb (fun _ => Or.inl HGN.out) _)⟩
          · rw [heap_setCell_ne _ (by simp only; omega), heap_setCell_ne _ (by simp only; omega), heap_setCell_ne _ (by simp only; omega)]; exact HBO.out
          · rw [HST.out]
            exact (HBW.out.ch' (((Ch.refl (· = db) W').setb (fun _ => rfl) _).setb (fun _ => rfl) _) (fun k hk e => by have := (HNB.out k hk).2; have e' : k = db := e; omega)).store _ true
        · have hst := pasteS_out (b := (W, H, l)) (x := x) (y := y) (D := pre) (d := (d1, d2)) w0 (by rw [HAT.out]; simp only; omega)
          have HST := Lib.hid hst
          clear hst
          obtain h1 | ⟨h1, h2⟩ | ⟨h1, h2, h3⟩ | ⟨h1, h2, h3, h4⟩ : ¬ 0 ≤ p ∨ (0 ≤ p ∧ ¬ p < W) ∨ (0 ≤ p ∧ p < W ∧ ¬ 0 ≤ q) ∨ (0 ≤ p ∧ p < W ∧ 0 ≤ q ∧ ¬ q < H) := by omega
          · clear hin
            gi_wp2
            refine ⟨(((KeepsOthers.refl W').trans (KeepsOthers.setCell _ _ _)).trans (KeepsOthers.setCell _ _ _)).from _, ((Ch.refl (FpD nb W17.heap.size) W').setb (fun _ => Or.inr hdb) _).setb (fun _ => Or.inr hdb) _, ?_, ?_, HCHc.out.trans (((Ch.refl (FpD nb W17.heap.size) W').setb (fun _ => Or.inr hdb) _).setb (fun _ => Or.inr hdb) _)⟩
            · rw [heap_setCell_ne _ (by simp only; omega), heap_setCell_ne _ (by simp only; omega)]; exact HBO.out
            · rw [HST.out]
              exact HBW.out.ch' (((Ch.refl (· = db) W').setb (fun _ => rfl) _).setb (fun _ => rfl) _) (fun k hk e => by have := (HNB.out k hk).2; have e' : k = db := e; omega)
          · clear hin
            gi_wp2
            refine ⟨(((KeepsOthers.refl W').trans (KeepsOthers.setCell _ _ _)).trans (KeepsOthers.setCell _ _ _)).from _, ((Ch.refl (FpD nb W17.heap.size) W').setb (fun _ => Or.inr hdb) _).setb (fun _ => Or.inr hdb) _, ?_, ?_, HCHc.out.trans (((Ch.refl (FpD nb W17.heap.size) W').setb (fun _ => Or.inr hdb) _).setb (fun _ => Or.inr hdb) _)⟩
            · rw [heap_setCell_ne _ (by simp only; omega), heap_setCell_ne _ (by simp only; omega)]; exact HBO.out
            · rw [HST.out]
              exact HBW.out.ch' (((Ch.refl (· = db) W').setb (fun _ => rfl) _).setb (fun _ => rfl) _) (fun k hk e => by have := (HNB.out k hk).2; have e' : k = db := e; omega)
          · clear hin
            gi_wp2
            refine ⟨(((KeepsOthers.refl W').trans (KeepsOthers.setCell _ _ _)).trans (KeepsOthers.setCell _ _ _)).from _, ((Ch.refl (FpD nb W17.heap.size) W').setb (fun _ => Or.inr hdb) _).setb (fun _ => Or.inr hdb) _, ?_, ?_, HCHc.out.trans (((Ch.refl (FpD nb W17.heap.size) W').setb (fun _ => Or.inr hdb) _).setb (fun _ => Or.inr hdb) _)⟩
            · rw [heap_setCell_ne _ (by simp only; omega), heap_setCell_ne _ (by simp only; omega)]; exact HBO.out
            · rw [HST.out]
              exact HBW.out.ch' (((Ch.refl (· = db) W').setb (fun _ => rfl) _).setb (fun _ => rfl) _) (fun k hk e => by have := (HNB.out k hk).2; have e' : k = db := e; omega)
          · clear hin
            gi_wp2
            refine ⟨(((KeepsOthers.refl W').trans (KeepsOthers.setCell _ _ _)).trans (KeepsOthers.setCell _ _ _)).from _, ((Ch.refl (FpD nb W17.heap.size) W').setb (fun _ => Or.inr hdb) _).setb (fun _ => Or.inr hdb) _, ?_, ?_, HCHc.out.trans (((Ch.refl (FpD nb W17.heap.size) W').setb (fun _ => Or.inr hdb) _).setb (fun _ => Or.inr hdb) _)⟩
            · rw [heap_setCell_ne _ (by simp only; omega), heap_setCell_ne _ (by simp only; omega)]; exact HBO.out
            · rw [HST.out]
              exact HBW.out.ch' (((Ch.refl (· = db) W').setb (fun _ => rfl) _).setb (fun _ => rfl) _) (fun k hk e => by have := (HNB.out k hk).2; have e' : k = db := e; omega)
      case done =>
        rintro D ys W' hD rfl ⟨hbo, hbr, hch⟩ hK
        have HNF := Lib.hid (NX.out.trans' hch (fun j hj e => by rcases e with h | h <;> omega))
        have RBc := Lib.hid (hch.heap RB.out (by rintro (h | h) <;> omega))
        have HBO := Lib.hid hbo
        have HBW := Lib.hid hbr
        have r0 : W'.cell? ⟨w.heap.size + 4, 0, none⟩ = some (.int .i64 0) := by rw [cell_of RBc.out]; rfl
        have r1 : W'.cell? ⟨w.heap.size + 4, 1, none⟩ = some (.int .i64 0) := by rw [cell_of RBc.out]; rfl
        have r2 : W'.cell? ⟨w.heap.size + 4, 2, none⟩ = some (.slice none 0 0) := by rw [cell_of RBc.out]; rfl
        have q0 : W'.frozen? ⟨w.heap.size + 4, 0, none⟩ = false := frozen_of RBc.out
        have q1 : W'.frozen? ⟨w.heap.size + 4, 1, none⟩ = false := frozen_of RBc.out
        have q2 : W'.frozen? ⟨w.heap.size + 4, 2, none⟩ = false := frozen_of RBc.out
        have k0 : W'.cell? ⟨ob, 0, none⟩ = some (.int .i64 W) := by rw [cell_of hbo]; rfl
        have k1 : W'.cell? ⟨ob, 1, none⟩ = some (.int .i64 H) := by rw [cell_of hbo]; rfl
        have k2 : W'.cell? ⟨ob, 2, none⟩ = some (.slice A9 l.length c9) := by rw [cell_of hbo]; rfl
        clear hbo hbr hch
        go_wp2
        refine post_named ?_
        intro Wz hW
        have cz : Ch (· = w.heap.size + 4) W' Wz := by rw [hW]; exact (((Ch.refl (· = w.heap.size + 4) W').setb (fun _ => rfl) _).setb (fun _ => rfl) _).setb (fun _ => rfl) _
        have RZ := Lib.hid (show Wz.heap[w.heap.size + 4]? = some (.cells #[.int .i64 W, .int .i64 H, .slice A9 l.length c9] 28 (0, 0)) from by rw [hW]; exact heap_setCell_eq _ (heap_setCell_eq _ (heap_setCell_eq _ RBc.out)))
        have hKz := cz.heap hK (by show D ≠ w.heap.size + 4; omega)
        have HBZ := Lib.hid (HBW.out.ch' cz (fun k hk e => by have e' : k = w.heap.size + 4 := e; have := (HBW.out.lt k hk).1; omega))
        have NZ := Lib.hid (HNF.out.trans' cz (fun j hj e => by have e' : j = w.heap.size + 4 := e; omega))
        clear hW cz r0 r1 r2 q0 q1 q2 k0 k1 k2 hK
        refine ⟨by simp, .inl ⟨_, _, rfl, run_takeDeferred hKz, ?_⟩⟩
        obtain ⟨Wp, hWp⟩ : ∃ Wp, Wz.putObj D (Obj.deferred none) = Wp := ⟨_, rfl⟩
        rw [hWp]
        have cp : Ch (FpD D D) Wz Wp := by rw [← hWp]; exact ch_putObj Wz D _ (Nat.le_refl _)
        have RP := cp.heap RZ.out (by rintro (h | h) <;> omega)
        have z0 : Wp.cell? ⟨w.heap.size + 4, 0, none⟩ = some (.int .i64 W) := by rw [cell_of RP]; rfl
        have z1 : Wp.cell? ⟨w.heap.size + 4, 1, none⟩ = some (.int .i64 H) := by rw [cell_of RP]; rfl
        have z2 : Wp.cell? ⟨w.heap.size + 4, 2, none⟩ = some (.slice A9 l.length c9) := by rw [cell_of RP]; rfl
        have HBP := HBZ.out.ch' cp (fun k hk e => by have := (HNB.out k hk).2; rcases e with e | e <;> omega)
        have NP := NZ.out.trans' cp (fun j hj e => by rcases e with e | e <;> omega)
        refine ⟨.agg #[.int .i64 W, .int .i64 H, .slice A9 l.length c9], by simp [results, Tryd.results12, go_sem, z0, z1, z2], ?_⟩
        have hall := pasteS_all (b := (W, H, l)) (c := (cW, cH, lc)) (x := x) (y := y) HE.out HX.out HY.out
        refine HR.out Wp _ ?_ NP
        rw [← hall]
        exact ⟨_, rfl, HBP.isBools (by omega), by unfold wfI; simp only; omega, by unfold wfI; simp only; omega⟩
      case stop =>
        rintro D c pre W' _ _ h _
        exact h.elim
  · obtain ⟨e, he, he2⟩ : ∃ e, bmE (W, H, l) = e ∧ (e = 5 ∨ e = 13) := ⟨_, rfl, (bmE_in _).resolve_left hE⟩
    have HEE := Lib.hid he
    have NO := Lib.hid (show pasteM (W, H, l) (cW, cH, lc) x y = zeroB from by unfold pasteM; rw [if_neg hE])
    clear he hE
    rcases he2 with rfl | rfl
    · go_enter Tryd.func12, Tryd.ntmps12
      go_wp2_with (fail)
      refine Calls_nm ?_
      intro W18 hW
      have n : Nw w W18 := by rw [hW]; exact (((((Ch.refl _ _).alloc _).alloc _).alloc _).alloc _).alloc _
      replace NX := Lib.hid (NX.out.trans n)
      replace HB := Lib.hid (HB.out.kept n nof)
      replace HCc := Lib.hid (HCc.out.kept n nof)
      replace HBI := Lib.hid (HBI.out.kept n nof)
      have HB0 := Lib.hid (show W18.heap[w.heap.size]? = some (.cells #[.int .i64 W, .int .i64 H, .slice A l.length cap] 28 (0, 0)) from by rw [hW]; exact heap_alloc_old' _ (heap_alloc_old' _ (heap_alloc_old' _ (heap_alloc_old' _ (heap_alloc_eq _ rfl)))))
      have HB1 := Lib.hid (show W18.heap[w.heap.size + 1]? = some (.cells #[.int .i64 cW, .int .i64 cH, .slice Ac lc.length capc] 28 (0, 0)) from by rw [hW]; exact heap_alloc_old' _ (heap_alloc_old' _ (heap_alloc_old' _ (heap_alloc_eq _ (by simp only [alloc_size])))))
      have HXB := Lib.hid (show W18.heap[w.heap.size + 2]? = some (.cells #[.int .i64 x] 3 (0, 0)) from by rw [hW]; exact heap_alloc_old' _ (heap_alloc_old' _ (heap_alloc_eq _ (by simp only [alloc_size]))))
      have HYB := Lib.hid (show W18.heap[w.heap.size + 3]? = some (.cells #[.int .i64 y] 3 (0, 0)) from by rw [hW]; exact heap_alloc_old' _ (heap_alloc_eq _ (by simp only [alloc_size])))
      have RB := Lib.hid (show W18.heap[w.heap.size + 4]? = some (.cells #[.int .i64 0, .int .i64 0, .slice none 0 0] 28 (0, 0)) from by rw [hW]; exact heap_alloc_eq _ (by simp only [alloc_size]))
      clear hW n
      have SZ : w.heap.size + 4 < W18.heap.size := lt_of_heap RB.out
      refine bmCheck_any w.heap.size _ (W, H, l) _ _ HB.out ?_
      rw [HEE.out]
      intro w19 n
      replace NX := Lib.hid (NX.out.trans n)
      replace HB := Lib.hid (HB.out.kept n nof)
      replace HCc := Lib.hid (HCc.out.kept n nof)
      replace HBI := Lib.hid (HBI.out.kept n nof)
      replace HB0 := Lib.hid (n.heap HB0.out id)
      replace HB1 := Lib.hid (n.heap HB1.out id)
      replace HXB := Lib.hid (n.heap HXB.out id)
      replace HYB := Lib.hid (n.heap HYB.out id)
      replace RB := Lib.hid (n.heap RB.out id)
      replace SZ := Nat.lt_of_lt_of_le SZ n.size
      clear n
      have r0 : w19.cell? ⟨w.heap.size + 4, 0, none⟩ = some (.int .i64 0) := by rw [cell_of RB.out]; rfl
      have r1 : w19.cell? ⟨w.heap.size + 4, 1, none⟩ = some (.int .i64 0) := by rw [cell_of RB.out]; rfl
      have r2 : w19.cell? ⟨w.heap.size + 4, 2, none⟩ = some (.slice none 0 0) := by rw [cell_of RB.out]; rfl
      have q0 : w19.frozen? ⟨w.heap.size + 4, 0, none⟩ = false := frozen_of RB.out
      have q1 : w19.frozen? ⟨w.heap.size + 4, 1, none⟩ = false := frozen_of RB.out
      have q2 : w19.frozen? ⟨w.heap.size + 4, 2, none⟩ = false := frozen_of RB.out
      go_wp2
      refine bodyPost_ret (v := .agg #[.int .i64 0, .int .i64 0, .slice none 0 0]) (by simp [results, Tryd.results12, go_sem, r0, r1, r2]) rfl ?_
      have h0 := fun W' => HR.out W' (.agg #[.int .i64 0, .int .i64 0, .slice none 0 0])
      rw [NO.out] at h0
      exact h0 _ (isBm_zero _ _) (((NX.out.setb (fun h => by omega) _).setb (fun h => by omega) _).setb (fun h => by omega) _)
    · go_enter Tryd.func12, Tryd.ntmps12
      go_wp2_with (fail)
      refine Calls_nm ?_
      intro W20 hW
      have n : Nw w W20 := by rw [hW]; exact (((((Ch.refl _ _).alloc _).alloc _).alloc _).alloc _).alloc _
      replace NX := Lib.hid (NX.out.trans n)
      replace HB := Lib.hid (HB.out.kept n nof)
      replace HCc := Lib.hid (HCc.out.kept n nof)
      replace HBI := Lib.hid (HBI.out.kept n nof)
      have HB0 := Lib.hid (show W20.heap[w.heap.size]? = some (.cells #[.int .i64 W, .int .i64 H, .slice A l.length cap] 28 (0, 0)) from by rw [hW]; exact heap_alloc_old' _ (heap_alloc_old' _ (heap_alloc_old' _ (heap_alloc_old' _ (heap_alloc_eq _ rfl)))))
      have HB1 := Lib.hid (show W20.heap[w.heap.size + 1]? = some (.cells #[.int .i64 cW, .int .i64 cH, .slice Ac lc.length capc] 28 (0, 0)) from by rw [hW]; exact heap_alloc_old' _ (heap_alloc_old' _ (heap_alloc_old' _ (heap_alloc_eq _ (by simp only [alloc_size])))))
      have HXB := Lib.hid (show W20.heap[w.heap.size + 2]? = some (.cells #[.int .i64 x] 3 (0, 0)) from by rw [hW]; exact heap_alloc_old' _ (heap_alloc_old' _ (heap_alloc_eq _ (by simp only [alloc_size]))))
      have HYB := Lib.hid (show W20.heap[w.heap.size + 3]? = some (.cells #[.int .i64 y] 3 (0, 0)) from by rw [hW]; exact heap_alloc_old' _ (heap_alloc_eq _ (by simp only [alloc_size])))
      have RB := Lib.hid (show W20.heap[w.heap.size + 4]? = some (.cells #[.int .i64 0, .int .i64 0, .slice none 0 0] 28 (0, 0)) from by rw [hW]; exact heap_alloc_eq _ (by simp only [alloc_size]))
      clear hW n
      have SZ : w.heap.size + 4 < W20.heap.size := lt_of_heap RB.out
      refine bmCheck_any w.heap.size _ (W, H, l) _ _ HB.out ?_
      rw [HEE.out]
      intro w21 n
      replace NX := Lib.hid (NX.out.trans n)
      replace HB := Lib.hid (HB.out.kept n nof)
      replace HCc := Lib.hid (HCc.out.kept n nof)
      replace HBI := Lib.hid (HBI.out.kept n nof)
      replace HB0 := Lib.hid (n.heap HB0.out id)
      replace HB1 := Lib.hid (n.heap HB1.out id)
      replace HXB := Lib.hid (n.heap HXB.out id)
      replace HYB := Lib.hid (n.heap HYB.out id)
      replace RB := Lib.hid (n.heap RB.out id)
      replace SZ := Nat.lt_of_lt_of_le SZ n.size
      clear n
      have r0 : w21.cell? ⟨w.heap.size + 4, 0, none⟩ = some (.int .i64 0) := by rw [cell_of RB.out]; rfl
      have r1 : w21.cell? ⟨w.heap.size + 4, 1, none⟩ = some (.int .i64 0) := by rw [cell_of RB.out]; rfl
      have r2 : w21.cell? ⟨w.heap.size + 4, 2, none⟩ = some (.slice none 0 0) := by rw [cell_of RB.out]; rfl
      have q0 : w21.frozen? ⟨w.heap.size + 4, 0, none⟩ = false := frozen_of RB.out
      have q1 : w21.frozen? ⟨w.heap.size + 4, 1, none⟩ = false := frozen_of RB.out
      have q2 : w21.frozen? ⟨w.heap.size + 4, 2, none⟩ = false := frozen_of RB.out
      go_wp2
      refine bodyPost_ret (v := .agg #[.int .i64 0, .int .i64 0, .slice none 0 0]) (by simp [results, Tryd.results12, go_sem, r0, r1, r2]) rfl ?_
      have h0 := fun W' => HR.out W' (.agg #[.int .i64 0, .int .i64 0, .slice none 0 0])
      rw [NO.out] at h0
      exact h0 _ (isBm_zero _ _) (((NX.out.setb (fun h => by omega) _).setb (fun h => by omega) _).setb (fun h => by omega) _)
end Go.Proofs.YtaafmgkjfmngjaaDoor
