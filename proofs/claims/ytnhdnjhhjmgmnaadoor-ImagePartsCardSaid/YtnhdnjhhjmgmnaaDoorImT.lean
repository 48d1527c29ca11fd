/-
  indelibleref22.Fits: lost dots and blots.
-/
import Derived.Test.YtnhdnjhhjmgmnaaDoorImF
namespace Go.Proofs.YtnhdnjhhjmgmnaaDoor
open Go.RowKit
set_option linter.unusedVariables false
set_option linter.unusedSimpArgs false
set_option maxRecDepth 100000

set_option maxHeartbeats 4000000 in
theorem riFits_any (lo : Nat) (v : Value) (x : Im) (vb : Value) (b : Bm) (dx dy : Int) (w : World) (R : Ending → World → Prop) (h : IsIm w lo v x) (hb : IsBm w lo vb b) (hx : wfI dx) (hy : wfI dy) (hlo : lo ≤ w.heap.size)
    (hR : ∀ w', Nw w w' → R (.returned (.tuple #[.int .i64 (fitsM x b dx dy).1, .int .i64 (fitsM x b dx dy).2.1, .bool (fitsM x b dx dy).2.2])) w') : Calls Tryd.prog 19 #[v, vb, .int .i64 dx, .int .i64 dy] w R := by
  have HR := Lib.hid hR
  clear hR
  have HX := Lib.hid h
  have HB := Lib.hid hb
  obtain ⟨W, H, l⟩ := x
  obtain ⟨W', H', l'⟩ := b
  obtain ⟨s, rfl, hi, hw, hh⟩ := h
  obtain ⟨s', rfl, hi', hw', hh'⟩ := hb
  have HI := Lib.hid hi
  obtain ⟨A, cap, rfl, ⟨hlc, hl⟩, -⟩ := hi
  obtain ⟨A', cap', rfl, ⟨hlc', hl'⟩, -⟩ := hi'
  simp only at hl hl'
  have HN := Lib.hid (show Nw w ((w.alloc (.cells #[.int .i64 W, .int .i64 H, .slice A l.length cap] 25)).alloc (.cells #[.int .i64 W', .int .i64 H', .slice A' l'.length cap'] 31)) from ((Ch.refl _ _).alloc _).alloc _)
  have HB2 := Lib.hid (HB.out.kept HN.out nof)
  have no : ¬ fitOk (W, H, l) (W', H', l') dx dy → fitsM (W, H, l) (W', H', l') dx dy = (0, 0, false) := fun h => by unfold fitsM; rw [if_neg h]
  have NO := Lib.hid no
  clear no hw hh hw' hh'
  by_cases hz : (putM (W', H', l') dx dy).2 = 0
  · obtain ⟨hE, hs⟩ := putM_zero.1 hz
    have HE := Lib.hid hE
    have HS := Lib.hid hs
    obtain ⟨⟨c1, c2⟩, ⟨d1, d2⟩, -⟩ := bmE_ok hE
    simp only at c1 c2 d1 d2
    have hfl := frame_le hE
    clear hz hE hs
    by_cases hO : imOk (W, H, l)
    · have HO := Lib.hid hO
      have hlen := imOk_len hO
      simp only at hlen
      clear hO
      by_cases e1 : W = W' + 4
      · by_cases e2 : H = H' + 4
        · have hfit : fitOk (W, H, l) (W', H', l') dx dy := ⟨HE.out, HS.out, HO.out, e1, e2⟩
          have hlf : l.length = frameN (W', H', l') := by
            have h1 := HO.out.2.2.1
            have h2 := frame_len HE.out
            simp only at h1 h2
            rw [e1, e2] at h1
            omega
          have FIT := Lib.hid (show fitsM (W, H, l) (W', H', l') dx dy = ((lostN l (putL (W', H', l') dx dy) : Int), (blotN l (putL (W', H', l') dx dy) : Int), true) from by unfold fitsM; rw [if_pos hfit])
          have HPUT := Lib.hid (show ∀ (w : World) (R : Ending → World → Prop), lo ≤ w.heap.size → IsBm w lo (.agg #[.int .i64 W', .int .i64 H', .slice A' l'.length cap']) (W', H', l') → (∀ w' A cap, IsInts w' w'.heap.size (.slice A (putL (W', H', l') dx dy).length cap) (putL (W', H', l') dx dy) → Nw w w' → R (.returned (.tuple #[.agg #[.int .i64 (W' + 4), .int .i64 (H' + 4), .slice A (putL (W', H', l') dx dy).length cap], .int .i64 0])) w') → Calls Tryd.prog 15 #[.agg #[.int .i64 W', .int .i64 H', .slice A' l'.length cap'], .int .i64 dx, .int .i64 dy] w R from fun w R hl9 h1 h2 => by
            rw [putL_len] at h2
            exact riPut_ok h1 hx hy (by assumption) HE.out HS.out h2)
          rw [← putL_len (W', H', l') dx dy] at hlf
          generalize putL (W', H', l') dx dy = F at FIT HPUT hlf
          have HLF := Lib.hid hlf
          clear hfit hlf hfl
          subst e1 e2
          go_enter Tryd.func19, Tryd.ntmps19
          go_wp2_with (first | (go_at_call 15; refine HPUT.out _ _ (by simp only [alloc_size]; omega) HB2.out ?_; intro w1 A1 cap1 hf n1; (have HF := Lib.hid hf); clear hf; (have p0 : w1.cell? ⟨w.heap.size, 0, none⟩ = some (.int .i64 (W' + 4)) := n1.cell (cell_alloc_old _ (cell_alloc_new rfl rfl)) id); (have p1 : w1.cell? ⟨w.heap.size, 1, none⟩ = some (.int .i64 (H' + 4)) := n1.cell (cell_alloc_old _ (cell_alloc_new rfl rfl)) id); (have p2 : w1.cell? ⟨w.heap.size, 2, none⟩ = some (.slice A l.length cap) := n1.cell (cell_alloc_old _ (cell_alloc_new rfl rfl)) id); (have z0 : w.heap.size < w1.heap.size := by have := n1.size; simp only [alloc_size] at this; omega); (have N1 := Lib.hid (HN.out.trans n1)); clear n1) | (go_at_call 23; refine riCheck_ok lo _ _ _ _ (HX.out.kept (N1.out.alloc _) nof) HO.out ?_; intro w2 n2; (have k0 := n2.cell (cell_alloc_old _ p0) id); (have k1 := n2.cell (cell_alloc_old _ p1) id); (have k2 := n2.cell (cell_alloc_old _ p2) id); (have f0 : w2.cell? ⟨w1.heap.size, 0, none⟩ = some (.int .i64 (W' + 4)) := n2.cell (cell_alloc_new rfl rfl) id); (have f1 : w2.cell? ⟨w1.heap.size, 1, none⟩ = some (.int .i64 (H' + 4)) := n2.cell (cell_alloc_new rfl rfl) id); (have f2 : w2.cell? ⟨w1.heap.size, 2, none⟩ = some (.slice A1 (F.length) cap1) := n2.cell (cell_alloc_new rfl rfl) id); (have N2 := Lib.hid ((N1.out.alloc _).trans n2)); (have M2 := Lib.hid n2); clear n2))
          obtain ⟨A2, cap2, he2, -, hel2⟩ := (HI.out.kept N2.out nof)
          injection he2 with g1 g2 g3
          subst g1 g3
          have HEL := Lib.hid hel2
          have hf2 := ((HF.out.kept ((Ch.refl (fun _ => False) w1).alloc _) nof).kept M2.out nof)
          obtain ⟨A3, cap3, he3, -, hel3⟩ := hf2
          injection he3 with g4 g5 g6
          subst g4 g6
          have HEL3 := Lib.hid hel3
          clear hel2 hel3 g2 g5
          go_loop [13, 14, 15] (fun s13 s14 s15 => ∃ k : Nat, s15 = .int .i64 k ∧ s13 = .int .i64 (cnt (fun k => lostP F k (px l k)) k) ∧ s14 = .int .i64 (cnt (fun k => blotP F k (px l k)) k) ∧ k ≤ l.length) (fun _ _ s15 => l.length - (intOf s15).toNat)
          case atStart => exact ⟨0, rfl, rfl, rfl, Nat.zero_le _⟩
          case round =>
            obtain ⟨k, rfl, rfl, rfl, hk⟩ := hrel
            have q0 : (0 : Int) ≤ (k : Int) := by omega
            have hc := cnt_le (fun k => lostP F k (px l k)) k
            have hd := cnt_le (fun k => blotP F k (px l k)) k
            by_cases hlt : k < l.length
            · obtain ⟨x, hx⟩ : ∃ x, l[k]? = some x := ⟨_, List.getElem?_eq_getElem hlt⟩
              obtain ⟨y, hy⟩ : ∃ y, F[k]? = some y := ⟨_, List.getElem?_eq_getElem (by have := HLF.out; omega)⟩
              obtain ⟨hwx, pk, po, hpk, rfl, h0⟩ := HEL.out k x hx
              obtain ⟨hwy, pk', po', hpk', rfl, h0'⟩ := HEL3.out k y hy
              have q1 : (k : Int) < (l.length : Int) := by omega
              have q2 : (k : Int) < (F.length : Int) := by have := HLF.out; omega
              have hs1 : cnt (fun k => lostP F k (px l k)) (k + 1) = cnt (fun k => lostP F k (px l k)) k + if (decide (x = 0) && decide (y = 1)) = true then 1 else 0 := by simp only [cnt, px_get hx, lostP, px_get hy]
              have hs2 : cnt (fun k => blotP F k (px l k)) (k + 1) = cnt (fun k => blotP F k (px l k)) k + if (decide (x = 1) && decide (y = 0)) = true then 1 else 0 := by simp only [cnt, px_get hx, blotP, px_get hy]
              have HS1 := Lib.hid hs1
              have HS2 := Lib.hid hs2
              clear hs1 hs2 hx hy hwx hwy
              generalize cnt (fun k => lostP F k (px l k)) k = c at hc HS1
              generalize cnt (fun k => blotP F k (px l k)) k = d at hd HS2
              have hc0 : (0 : Int) ≤ (c : Int) := by omega
              have hd0 : (0 : Int) ≤ (d : Int) := by omega
              have hc1 : (c : Int) ≤ 10000 := by omega
              have hd1 : (d : Int) ≤ 10000 := by omega
              have hcase : (x = 0 ∧ y = 1) ∨ (x = 0 ∧ ¬ y = 1) ∨ (x = 1 ∧ y = 0) ∨ (x = 1 ∧ ¬ y = 0) ∨ (¬ x = 0 ∧ ¬ x = 1) := by omega
              rcases hcase with ⟨u1, u2⟩ | ⟨u1, u2⟩ | ⟨u1, u2⟩ | ⟨u1, u2⟩ | ⟨u1, u2⟩
              · subst u1 u2
                go_wp2
                refine ⟨⟨k + 1, by go_num, by rw [HS1.out]; simp, by rw [HS2.out]; simp, by omega⟩, ?_⟩
                simp [intOf]; omega
              · have v1 : (y == 1) = false := by simp [u2]
                have U2 := Lib.hid u2
                subst u1
                clear u2
                go_wp2
                refine ⟨⟨k + 1, by go_num, by rw [HS1.out]; simp [U2.out], by rw [HS2.out]; simp, by omega⟩, ?_⟩
                simp [intOf]; omega
              · subst u1 u2
                go_wp2
                refine ⟨⟨k + 1, by go_num, by rw [HS1.out]; simp, by rw [HS2.out]; simp, by omega⟩, ?_⟩
                simp [intOf]; omega
              · have v1 : (y == 0) = false := by simp [u2]
                have U2 := Lib.hid u2
                subst u1
                clear u2
                go_wp2
                refine ⟨⟨k + 1, by go_num, by rw [HS1.out]; simp, by rw [HS2.out]; simp [U2.out], by omega⟩, ?_⟩
                simp [intOf]; omega
              · have v1 : (x == 0) = false := by simp [u1]
                have v2 : (x == 1) = false := by simp [u2]
                have U1 := Lib.hid u1
                have U2 := Lib.hid u2
                clear u1 u2
                go_wp2
                refine ⟨⟨k + 1, by go_num, by rw [HS1.out]; simp [U1.out], by rw [HS2.out]; simp [U2.out], by omega⟩, ?_⟩
                simp [intOf]; omega
            · obtain rfl : k = l.length := by omega
              go_wp2
              go_ret3
              refine ret_t3 (HR.out _ N2.out) ?_ ?_ ?_ <;> rw [FIT.out] <;> rfl
        · have t2 : (H != H' + 4) = true := by simp [e2]
          have E2 := Lib.hid e2
          clear e2
          subst e1
          go_enter Tryd.func19, Tryd.ntmps19
          go_wp2_with (first | (go_at_call 15; refine riPut_ok (HB2.out) hx hy (by simp only [alloc_size]; omega) HE.out HS.out ?_; intro w1 A1 cap1 hf n1; (have HF := Lib.hid hf); clear hf; (have p0 : w1.cell? ⟨w.heap.size, 0, none⟩ = some (.int .i64 (W' + 4)) := n1.cell (cell_alloc_old _ (cell_alloc_new rfl rfl)) id); (have p1 : w1.cell? ⟨w.heap.size, 1, none⟩ = some (.int .i64 H) := n1.cell (cell_alloc_old _ (cell_alloc_new rfl rfl)) id); (have p2 : w1.cell? ⟨w.heap.size, 2, none⟩ = some (.slice A l.length cap) := n1.cell (cell_alloc_old _ (cell_alloc_new rfl rfl)) id); (have z0 : w.heap.size < w1.heap.size := by have := n1.size; simp only [alloc_size] at this; omega); (have N1 := Lib.hid (HN.out.trans n1)); clear n1) | (go_at_call 23; refine riCheck_ok lo _ _ _ _ (HX.out.kept (N1.out.alloc _) nof) HO.out ?_; intro w2 n2; (have k0 := n2.cell (cell_alloc_old _ p0) id); (have k1 := n2.cell (cell_alloc_old _ p1) id); (have k2 := n2.cell (cell_alloc_old _ p2) id); (have f0 : w2.cell? ⟨w1.heap.size, 0, none⟩ = some (.int .i64 (W' + 4)) := n2.cell (cell_alloc_new rfl rfl) id); (have f1 : w2.cell? ⟨w1.heap.size, 1, none⟩ = some (.int .i64 (H' + 4)) := n2.cell (cell_alloc_new rfl rfl) id); (have f2 : w2.cell? ⟨w1.heap.size, 2, none⟩ = some (.slice A1 (frameN (W', H', l')) cap1) := n2.cell (cell_alloc_new rfl rfl) id); (have N2 := Lib.hid ((N1.out.alloc _).trans n2)); clear n2))
          go_ret3
          refine ret_t3 (HR.out _ N2.out) ?_ ?_ ?_ <;> rw [NO.out (fun h => E2.out h.2.2.2.2)]
      · have t1 : (W != W' + 4) = true := by simp [e1]
        have E1 := Lib.hid e1
        clear e1
        go_enter Tryd.func19, Tryd.ntmps19
        go_wp2_with (first | (go_at_call 15; refine riPut_ok (HB2.out) hx hy (by simp only [alloc_size]; omega) HE.out HS.out ?_; intro w1 A1 cap1 hf n1; (have HF := Lib.hid hf); clear hf; (have p0 : w1.cell? ⟨w.heap.size, 0, none⟩ = some (.int .i64 W) := n1.cell (cell_alloc_old _ (cell_alloc_new rfl rfl)) id); (have p1 : w1.cell? ⟨w.heap.size, 1, none⟩ = some (.int .i64 H) := n1.cell (cell_alloc_old _ (cell_alloc_new rfl rfl)) id); (have p2 : w1.cell? ⟨w.heap.size, 2, none⟩ = some (.slice A l.length cap) := n1.cell (cell_alloc_old _ (cell_alloc_new rfl rfl)) id); (have z0 : w.heap.size < w1.heap.size := by have := n1.size; simp only [alloc_size] at this; omega); (have N1 := Lib.hid (HN.out.trans n1)); clear n1) | (go_at_call 23; refine riCheck_ok lo _ _ _ _ (HX.out.kept (N1.out.alloc _) nof) HO.out ?_; intro w2 n2; (have k0 := n2.cell (cell_alloc_old _ p0) id); (have k1 := n2.cell (cell_alloc_old _ p1) id); (have k2 := n2.cell (cell_alloc_old _ p2) id); (have f0 : w2.cell? ⟨w1.heap.size, 0, none⟩ = some (.int .i64 (W' + 4)) := n2.cell (cell_alloc_new rfl rfl) id); (have f1 : w2.cell? ⟨w1.heap.size, 1, none⟩ = some (.int .i64 (H' + 4)) := n2.cell (cell_alloc_new rfl rfl) id); (have f2 : w2.cell? ⟨w1.heap.size, 2, none⟩ = some (.slice A1 (frameN (W', H', l')) cap1) := n2.cell (cell_alloc_new rfl rfl) id); (have N2 := Lib.hid ((N1.out.alloc _).trans n2)); clear n2))
        go_ret3
        refine ret_t3 (HR.out _ N2.out) ?_ ?_ ?_ <;> rw [NO.out (fun h => E1.out h.2.2.2.1)]
    · have HO := Lib.hid hO
      clear hO
      go_enter Tryd.func19, Tryd.ntmps19
      go_wp2_with (first | (go_at_call 15; refine riPut_ok (HB2.out) hx hy (by simp only [alloc_size]; omega) HE.out HS.out ?_; intro w1 A1 cap1 hf n1; (have HF := Lib.hid hf); clear hf; (have p0 : w1.cell? ⟨w.heap.size, 0, none⟩ = some (.int .i64 W) := n1.cell (cell_alloc_old _ (cell_alloc_new rfl rfl)) id); (have p1 : w1.cell? ⟨w.heap.size, 1, none⟩ = some (.int .i64 H) := n1.cell (cell_alloc_old _ (cell_alloc_new rfl rfl)) id); (have p2 : w1.cell? ⟨w.heap.size, 2, none⟩ = some (.slice A l.length cap) := n1.cell (cell_alloc_old _ (cell_alloc_new rfl rfl)) id); (have z0 : w.heap.size < w1.heap.size := by have := n1.size; simp only [alloc_size] at this; omega); (have N1 := Lib.hid (HN.out.trans n1)); clear n1) | (go_at_call 23; refine riCheck_bad lo _ _ _ _ (HX.out.kept (N1.out.alloc _) nof) HO.out ?_; intro w2 n2; (have N2 := Lib.hid ((N1.out.alloc _).trans n2)); clear n2))
      go_ret3
      refine ret_t3 (HR.out _ N2.out) ?_ ?_ ?_ <;> rw [NO.out (fun h => HO.out h.2.2.1)]
  · have HZ := Lib.hid hz
    clear hz
    go_enter Tryd.func19, Tryd.ntmps19
    go_wp2_with (go_at_call 15; refine riPut_bad (HB2.out) hx hy (by simp only [alloc_size]; omega) HZ.out ?_; intro w1 A1 cap1 e he n1; (have t1 : (e != 0) = true := by simp [he]); (have N1 := Lib.hid (HN.out.trans n1)); clear n1 he)
    go_ret3
    refine ret_t3 (HR.out _ (N1.out.alloc _)) ?_ ?_ ?_ <;> rw [NO.out (fun h => HZ.out (putM_zero.2 ⟨h.1, h.2.1⟩))]
end Go.Proofs.YtnhdnjhhjmgmnaaDoor
