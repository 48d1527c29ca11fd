/-
  indelibleref22.Put: a bitmap in its frame, pixel by pixel.
-/
import Derived.Test.YtnhdnjhhjmgmnaaDoorRow
namespace Go.Proofs.YtnhdnjhhjmgmnaaDoor
open Go.RowKit
set_option linter.unusedVariables false
set_option linter.unusedSimpArgs false
set_option maxRecDepth 100000

theorem take_snoc {α : Type} {l : List α} {k : Nat} {x : α} (h : l[k]? = some x) : l.take (k + 1) = l.take k ++ [x] := by rw [List.take_add_one, h]; rfl
theorem putP_at {b : Bm} {dx dy : Int} {x y n Wn : Nat} (hW : (Wn : Int) = b.1 + 4) (hx : x < Wn) (hn : n = y * Wn + x) : putP b dx dy n = if getB b (x - 2 - dx) (y - 2 - dy) = true then 1 else 0 := by
  have e : (n : Int) = (y : Int) * (b.1 + 4) + x := by rw [hn, ← hW]; simp
  obtain ⟨h1, h2⟩ := grid_mod (x := (x : Int)) (y := (y : Int)) (W := b.1 + 4) ⟨by omega, by omega⟩
  unfold putP
  rw [e, h1, h2]

theorem shift_yes (dx dy : Int) (w : World) (R : Ending → World → Prop) (hs : shiftOk dx dy) (hR : R (.returned (.bool true)) w) : Calls Tryd.prog 39 #[.int .i64 dx, .int .i64 dy] w R := by
  have HR := Lib.hid hR
  clear hR
  obtain ⟨⟨s1, s2⟩, s3, s4⟩ := hs
  go_enter Tryd.func39, Tryd.ntmps39
  go_wp2
  exact HR.out
theorem shift_no (dx dy : Int) (w : World) (R : Ending → World → Prop) (hs : ¬ shiftOk dx dy) (hR : R (.returned (.bool false)) w) : Calls Tryd.prog 39 #[.int .i64 dx, .int .i64 dy] w R := by
  have HR := Lib.hid hR
  have HS := Lib.hid hs
  clear hR hs
  by_cases s1 : -2 ≤ dx
  · by_cases s2 : dx ≤ 2
    · by_cases s3 : -2 ≤ dy
      · by_cases s4 : dy ≤ 2
        · exact absurd ⟨⟨s1, s2⟩, s3, s4⟩ HS.out
        · go_enter Tryd.func39, Tryd.ntmps39
          go_wp2
          exact HR.out
      · go_enter Tryd.func39, Tryd.ntmps39
        go_wp2
        exact HR.out
    · go_enter Tryd.func39, Tryd.ntmps39
      go_wp2
      exact HR.out
  · go_enter Tryd.func39, Tryd.ntmps39
    go_wp2
    exact HR.out

set_option maxHeartbeats 4000000 in
theorem riPut_any (lo : Nat) (v : Value) (b : Bm) (dx dy : Int) (w : World) (R : Ending → World → Prop) (h : IsBm w lo v b) (hx : wfI dx) (hy : wfI dy) (hlo : lo ≤ w.heap.size)
    (hR : ∀ w' v', IsIm w' w'.heap.size v' (putM b dx dy).1 → Nw w w' → R (.returned (.tuple #[v', .int .i64 (putM b dx dy).2])) w') : Calls Tryd.prog 15 #[v, .int .i64 dx, .int .i64 dy] w R := by
  have HR := Lib.hid hR
  clear hR
  have HB := Lib.hid h
  obtain ⟨W, H, l⟩ := b
  obtain ⟨s, rfl, ⟨A, cap, rfl, ⟨hlc, hl⟩, -⟩, hw, hh⟩ := h
  simp only at hw hh hl
  unfold wfI at hw hh hx hy
  have HN := Lib.hid (show Nw w ((w.alloc (.cells #[.int .i64 W, .int .i64 H, .slice A l.length cap] 31)).alloc (.cells #[.int .i64 0, .int .i64 0, .slice none 0 0] 25)) from ((Ch.refl _ _).alloc _).alloc _)
  have HB2 := Lib.hid (HB.out.kept HN.out nof)
  by_cases hE : bmE (W, H, l) = 0
  · obtain ⟨b1, b2, b3⟩ := bmE_ok hE
    simp only at b1 b2 b3
    have HE := Lib.hid hE
    have hfn := frame_len hE
    have hfl := frame_le hE
    obtain ⟨c1, c2⟩ := b1
    obtain ⟨d1, d2⟩ := b2
    clear hE b3
    obtain ⟨n, hn⟩ : ∃ n, n = frameN (W, H, l) := ⟨_, rfl⟩
    rw [← hn] at hfn hfl
    simp only at hfn
    have HNN := Lib.hid hn
    have HFN := Lib.hid hfn
    clear hn hfn
    by_cases hs : shiftOk dx dy
    · obtain ⟨⟨s1, s2⟩, s3, s4⟩ := id hs
      have HS := Lib.hid hs
      clear hs
      go_enter Tryd.func15, Tryd.ntmps15
      go_wp2_with (first | (go_at_call 38; refine rbCheck_ok lo _ _ _ _ HB2.out HE.out ?_; intro w1 n1; (have p0 : w1.cell? ⟨w.heap.size, 0, none⟩ = some (.int .i64 W) := n1.cell (cell_alloc_old _ (cell_alloc_new rfl rfl)) id); (have p1 : w1.cell? ⟨w.heap.size, 1, none⟩ = some (.int .i64 H) := n1.cell (cell_alloc_old _ (cell_alloc_new rfl rfl)) id); (have p2 : w1.cell? ⟨w.heap.size, 2, none⟩ = some (.slice A l.length cap) := n1.cell (cell_alloc_old _ (cell_alloc_new rfl rfl)) id); (have HB0 := Lib.hid (show w1.heap[w.heap.size + 1]? = some (.cells #[.int .i64 0, .int .i64 0, .slice none 0 0] 25 (0, 0)) from n1.heap (heap_alloc_eq _ (by simp only [alloc_size])) id)); (have N1 := Lib.hid (HN.out.trans n1)); clear n1) | (go_at_call 39; refine shift_yes _ _ _ _ HS.out ?_))
      have sz1 : w.heap.size + 1 < w1.heap.size := lt_of_heap HB0.out
      refine wp_named ?_
      intro W1 hW
      have a0 := Lib.hid (show W1.cell? ⟨w.heap.size, 0, none⟩ = some (.int .i64 W) from by rw [hW]; exact cell_alloc_old _ p0)
      have a1 := Lib.hid (show W1.cell? ⟨w.heap.size, 1, none⟩ = some (.int .i64 H) from by rw [hW]; exact cell_alloc_old _ p1)
      have a2 := Lib.hid (show W1.cell? ⟨w.heap.size, 2, none⟩ = some (.slice A l.length cap) from by rw [hW]; exact cell_alloc_old _ p2)
      have OB := Lib.hid (show W1.heap[w1.heap.size]? = some (.cells #[.int .i64 (W + 4), .int .i64 (H + 4), .slice none 0 0] 25 (0, 0)) from by rw [hW]; exact heap_alloc_eq _ rfl)
      have RB := Lib.hid (show W1.heap[w.heap.size + 1]? = some (.cells #[.int .i64 0, .int .i64 0, .slice none 0 0] 25 (0, 0)) from by rw [hW]; exact heap_alloc_old' _ HB0.out)
      have N2 := Lib.hid (show Nw w W1 from by rw [hW]; exact N1.out.alloc _)
      have SZ : W1.heap.size = w1.heap.size + 1 := by rw [hW]; exact alloc_size _ _
      clear hW p0 p1 p2 HB0 HB2
      obtain ⟨Wn, hWn⟩ : ∃ Wn : Nat, (Wn : Int) = W + 4 := ⟨(W + 4).toNat, by omega⟩
      obtain ⟨Hn, hHn⟩ : ∃ Hn : Nat, (Hn : Int) = H + 4 := ⟨(H + 4).toNat, by omega⟩
      have HWn := Lib.hid hWn
      have HHn := Lib.hid hHn
      have hnn : n = Hn * Wn := by have := HFN.out; rw [← hWn, ← hHn, Int.mul_comm] at this; exact_mod_cast this
      have HNW := Lib.hid hnn
      have wn1 : Wn ≤ 100 := by omega
      have hn1 : Hn ≤ 100 := by omega
      clear hWn hHn hnn
      go_loopw [10, 11, 12] (fun s10 _ _ wr => ∃ (y : Nat) (A : Option Addr) (cap : Nat), s10 = .int .i64 y ∧ y ≤ Hn ∧ Hid (wr.heap[w1.heap.size]? = some (.cells #[.int .i64 (W + 4), .int .i64 (H + 4), .slice A (y * Wn) cap] 25 (0, 0))) ∧ Hid (IRow wr (w1.heap.size + 1) (.slice A (y * Wn) cap) (y * Wn) ((putL (W, H, l) dx dy).take (y * Wn))) ∧ Hid (Ch (· = w1.heap.size) W1 wr)) (fun s10 _ _ _ => Hn - (intOf s10).toNat)
      case atStart => exact ⟨0, none, 0, rfl, Nat.zero_le _, Lib.hid (by rw [Nat.zero_mul]; exact OB.out), Lib.hid (by rw [Nat.zero_mul]; exact IRow.nil _ _), Lib.hid (Ch.refl _ _)⟩
      case round =>
        obtain ⟨y, A2, cap2, rfl, hy2, HO, HRW, HC⟩ := hrel
        have y0 : (0 : Int) ≤ (y : Int) := by omega
        have b1 : wr.cell? ⟨w1.heap.size, 1, none⟩ = some (.int .i64 (H + 4)) := by rw [cell_of HO.out]; rfl
        by_cases hlt : y < Hn
        · have y1 : (y : Int) < H + 4 := by have := HHn.out; omega
          obtain ⟨wo, rfl⟩ : ∃ wo : World, wo = wr := ⟨_, rfl⟩
          go_wp2
          go_loopw [11, 12] (fun s11 _ wr => ∃ (x : Nat) (A : Option Addr) (cap : Nat), s11 = .int .i64 x ∧ x ≤ Wn ∧ Hid (wr.heap[w1.heap.size]? = some (.cells #[.int .i64 (W + 4), .int .i64 (H + 4), .slice A (y * Wn + x) cap] 25 (0, 0))) ∧ Hid (IRow wr (w1.heap.size + 1) (.slice A (y * Wn + x) cap) (y * Wn + x) ((putL (W, H, l) dx dy).take (y * Wn + x))) ∧ Hid (Ch (· = w1.heap.size) W1 wr)) (fun s11 _ _ => Wn - (intOf s11).toNat)
          case atStart => exact ⟨0, A2, cap2, rfl, Nat.zero_le _, HO, HRW, HC⟩
          case round =>
            clear HO HRW b1
            obtain ⟨x, A3, cap3, rfl, hx2, HO, HRW, HC⟩ := hrel
            have x0 : (0 : Int) ≤ (x : Int) := by omega
            have b0 : wr.cell? ⟨w1.heap.size, 0, none⟩ = some (.int .i64 (W + 4)) := by rw [cell_of HO.out]; rfl
            by_cases hxl : x < Wn
            · have x1 : (x : Int) < W + 4 := by have := HWn.out; omega
              have nb : w.heap.size ≠ w1.heap.size := by omega
              have t0 := HC.out.cell a0.out nb
              have t1 := HC.out.cell a1.out nb
              have t2 := HC.out.cell a2.out nb
              have HBr := Lib.hid (HB.out.kept (N2.out.trans' HC.out (fun j hj e => by have e' : j = w1.heap.size := e; omega)) nof)
              have hlt3 : y * Wn + x < n := by
                have := HNW.out
                have h4 : (y + 1) * Wn ≤ Hn * Wn := Nat.mul_le_mul_right _ (by omega)
                rw [Nat.add_mul] at h4
                omega
              obtain ⟨m, hm⟩ : ∃ m, m = y * Wn + x := ⟨_, rfl⟩
              rw [← hm] at HO HRW hlt3
              have hp := putP_at (b := (W, H, l)) (dx := dx) (dy := dy) HWn.out hxl hm
              have hget := putL_get (b := (W, H, l)) (dx := dx) (dy := dy) (k := m) (by rw [← HNN.out]; exact hlt3)
              rw [hp] at hget
              have HM := Lib.hid hm
              clear hm hp
              obtain ⟨g, hg⟩ : ∃ g, getB (W, H, l) (x - 2 - dx) (y - 2 - dy) = g := ⟨_, rfl⟩
              rw [hg] at hget
              have HG := Lib.hid hg
              have hsr := HC.out.size
              have HRG := Lib.hid (show ∀ (w' : World) (R : Ending → World → Prop), IsBm w' lo (.agg #[.int .i64 W, .int .i64 H, .slice A l.length cap]) (W, H, l) → (∀ w'', Nw w' w'' → R (.returned (.bool g)) w'') → Calls Tryd.prog 40 #[.agg #[.int .i64 W, .int .i64 H, .slice A l.length cap], .int .i64 (x - 2 - dx), .int .i64 (y - 2 - dy)] w' R from fun w' R h1 h2 => rGet_any lo _ _ _ _ _ _ h1 (by rw [HG.out]; exact h2))
              clear hg
              cases g
              all_goals
                simp at hget
                have HGET := Lib.hid hget
                clear hget
                go_wp2_with (first | (go_at_call 40; refine HRG.out _ _ HBr.out ?_; intro w2 n2; (have c2 := n2.cell b0 id); (have OB2 := Lib.hid (n2.heap HO.out id)); (have c3 : w2.cell? ⟨w1.heap.size, 2, none⟩ = some (.slice A3 m cap3) := by rw [cell_of OB2.out]; rfl); (have RW2 := Lib.hid (HRW.out.ch n2 (fun _ _ e => e))); (have C2 := Lib.hid (HC.out.trans' n2 (fun j hj e => e.elim))); (have sz2 := n2.size); clear n2) | (at_builtin; first | (refine app_int _ rfl (.tmp 54) (.tmp 56) rfl (w1.heap.size + 1) (.slice A3 m cap3) m _ (by rfl) (RW2.out.ch ((Ch.refl (fun _ => False) _).alloc _) (fun _ _ e => e)) _ 0 (by rfl) (cell_alloc_new rfl rfl) (by omega) (by rw [alloc_size]; omega) ?_) | (refine app_int _ rfl (.tmp 54) (.tmp 56) rfl (w1.heap.size + 1) (.slice A3 m cap3) m _ (by rfl) (RW2.out.ch ((Ch.refl (fun _ => False) _).alloc _) (fun _ _ e => e)) _ 1 (by rfl) (cell_alloc_new rfl rfl) (by omega) (by rw [alloc_size]; omega) ?_)))
                intro g3 cap4 w3 hr3 hg3
                have HR3 := Lib.hid hr3
                have C3 := Lib.hid ((C2.out.alloc _).grown hg3 (fun j hj hl => by have := (RW2.out.lt j hj).1; omega))
                have O3 : w3.heap[w1.heap.size]? = some (.cells #[.int .i64 (W + 4), .int .i64 (H + 4), .slice A3 m cap3] 25 (0, 0)) := by
                  have := hg3.block w1.heap.size (by rw [alloc_size]; omega) (fun e => by have := (RW2.out.lt _ e.symm).1; omega)
                  rw [this]
                  exact heap_alloc_old' _ OB2.out
                have HO3 := Lib.hid O3
                have f2 : w3.cell? ⟨w1.heap.size, 2, none⟩ = some (.slice A3 m cap3) := by rw [cell_of O3]; rfl
                have z2 : w3.frozen? ⟨w1.heap.size, 2, none⟩ = false := frozen_of O3
                clear hr3 hg3 O3
                go_wp2
                have hm1 : y * Wn + (x + 1) = m + 1 := by rw [HM.out]; omega
                refine ⟨⟨x + 1, some ⟨g3, 0, none⟩, cap4, rfl, by omega, Lib.hid ?_, Lib.hid ?_, Lib.hid (C3.out.setb (fun _ => rfl) _)⟩, ?_⟩
                · rw [hm1]; exact heap_setCell_eq _ HO3.out
                · rw [hm1, take_snoc HGET.out]
                  exact (HR3.out.ch ((Ch.refl (· = w1.heap.size) w3).setb (fun _ => rfl) _) (fun j hj e => by have e' : j = w1.heap.size := e; omega))
                · simp [intOf]; omega
            · obtain rfl : x = Wn := by omega
              have x1 : ¬ (x : Int) < W + 4 := by have := HWn.out; omega
              go_wp2
              have e : (y + 1) * x = y * x + x := by rw [Nat.add_mul, Nat.one_mul]
              refine ⟨⟨y + 1, A3, cap3, rfl, by omega, Lib.hid (by rw [e]; exact HO.out), Lib.hid (by rw [e]; exact HRW.out), HC⟩, ?_⟩
              simp [intOf]; omega
        · obtain rfl : y = Hn := by omega
          have y1 : ¬ (y : Int) < H + 4 := by have := HHn.out; omega
          have e : y * Wn = n := HNW.out.symm
          have HO2 := Lib.hid (show wr.heap[w1.heap.size]? = some (.cells #[.int .i64 (W + 4), .int .i64 (H + 4), .slice A2 n cap2] 25 (0, 0)) from by rw [← e]; exact HO.out)
          have HRW2 := Lib.hid (show IRow wr (w1.heap.size + 1) (.slice A2 n cap2) n (putL (W, H, l) dx dy) from by
            have h0 := HRW.out
            rw [e, List.take_of_length_le (by rw [putL_len, HNN.out]; omega)] at h0
            exact h0)
          clear e HO HRW
          have b0 : wr.cell? ⟨w1.heap.size, 0, none⟩ = some (.int .i64 (W + 4)) := by rw [cell_of HO2.out]; rfl
          have b2 : wr.cell? ⟨w1.heap.size, 2, none⟩ = some (.slice A2 n cap2) := by rw [cell_of HO2.out]; rfl
          have RB2 := Lib.hid (HC.out.heap RB.out (by show w.heap.size + 1 ≠ _; omega))
          have r0 : wr.cell? ⟨w.heap.size + 1, 0, none⟩ = some (.int .i64 0) := by rw [cell_of RB2.out]; rfl
          have r1 : wr.cell? ⟨w.heap.size + 1, 1, none⟩ = some (.int .i64 0) := by rw [cell_of RB2.out]; rfl
          have r2 : wr.cell? ⟨w.heap.size + 1, 2, none⟩ = some (.slice none 0 0) := by rw [cell_of RB2.out]; rfl
          have q0 : wr.frozen? ⟨w.heap.size + 1, 0, none⟩ = false := frozen_of RB2.out
          have q1 : wr.frozen? ⟨w.heap.size + 1, 1, none⟩ = false := frozen_of RB2.out
          have q2 : wr.frozen? ⟨w.heap.size + 1, 2, none⟩ = false := frozen_of RB2.out
          go_wp2
          refine bodyPost_ret (v := .tuple #[.agg #[.int .i64 (W + 4), .int .i64 (H + 4), .slice A2 n cap2], .int .i64 0]) (by simp [results, Tryd.results15, go_sem, r0, r1, r2]) rfl ?_
          have hp := putM_ok HE.out HS.out
          have h0 := fun W' => HR.out W' (.agg #[.int .i64 (W + 4), .int .i64 (H + 4), .slice A2 n cap2])
          rw [hp] at h0
          have NR : Nw w wr := N2.out.trans' HC.out (fun j hj e => by have e' : j = w1.heap.size := e; omega)
          refine h0 _ ⟨_, rfl, ?_, by simp only [wfI]; omega, by simp only [wfI]; omega⟩ ?_
          · simp only
            have hr9 := HRW2.out.ch ((((Ch.refl (· = w.heap.size + 1) wr).setb (b := w.heap.size + 1) (o := 0) (fun _ => rfl) (.int .i64 (W + 4))).setb (b := w.heap.size + 1) (o := 1) (fun _ => rfl) (.int .i64 (H + 4))).setb (b := w.heap.size + 1) (o := 2) (fun _ => rfl) (.slice A2 n cap2)) (fun j hj e => by have e' : j = w.heap.size + 1 := e; omega)
            exact hr9.isInts (fun x hx => by
              have := (putL_ok (dx := dx) (dy := dy) HE.out).2.2.2 x hx
              unfold wfI; omega) (by omega)
          · exact ((NR.setb (fun h => by omega) _).setb (fun h => by omega) _).setb (fun h => by omega) _
    · have HS := Lib.hid hs
      clear hs
      go_enter Tryd.func15, Tryd.ntmps15
      go_wp2_with (first | (go_at_call 38; refine rbCheck_ok lo _ _ _ _ HB2.out HE.out ?_; intro w1 n1; (have HB0 : w1.heap[w.heap.size + 1]? = some (.cells #[.int .i64 0, .int .i64 0, .slice none 0 0] 25 (0, 0)) := n1.heap (heap_alloc_eq _ (by simp only [alloc_size])) id); (have q0 : w1.frozen? ⟨w.heap.size + 1, 0, none⟩ = false := frozen_of HB0); (have q1 : w1.frozen? ⟨w.heap.size + 1, 1, none⟩ = false := frozen_of HB0); (have q2 : w1.frozen? ⟨w.heap.size + 1, 2, none⟩ = false := frozen_of HB0); (have r0 : w1.cell? ⟨w.heap.size + 1, 0, none⟩ = some (.int .i64 0) := by rw [cell_of HB0]; rfl); (have r1 : w1.cell? ⟨w.heap.size + 1, 1, none⟩ = some (.int .i64 0) := by rw [cell_of HB0]; rfl); (have r2 : w1.cell? ⟨w.heap.size + 1, 2, none⟩ = some (.slice none 0 0) := by rw [cell_of HB0]; rfl); (have N1 := Lib.hid (HN.out.trans n1)); clear n1 HB0) | (go_at_call 39; refine shift_no _ _ _ _ HS.out ?_))
      have hp : putM (W, H, l) dx dy = (zeroI, 3) := by unfold putM; rw [if_neg (by simp [HE.out]), if_neg HS.out]
      refine bodyPost_ret (v := .tuple #[.agg #[.int .i64 0, .int .i64 0, .slice none 0 0], .int .i64 3]) (by simp [results, Tryd.results15, go_sem, r0, r1, r2]) rfl ?_
      have h0 := fun W' => HR.out W' (.agg #[.int .i64 0, .int .i64 0, .slice none 0 0])
      rw [hp] at h0
      exact h0 _ (isIm_zero _ _) (((N1.out.setb (fun h => by omega) _).setb (fun h => by omega) _).setb (fun h => by omega) _)
  · have t0 : (bmE (W, H, l) != 0) = true := by simp [hE]
    have HE := Lib.hid hE
    clear hE
    go_enter Tryd.func15, Tryd.ntmps15
    go_wp2_with (go_at_call 38; refine rbCheck_any lo _ _ _ _ HB2.out ?_; intro w1 n1; (have HB0 : w1.heap[w.heap.size + 1]? = some (.cells #[.int .i64 0, .int .i64 0, .slice none 0 0] 25 (0, 0)) := n1.heap (heap_alloc_eq _ (by simp only [alloc_size])) id); (have q0 : w1.frozen? ⟨w.heap.size + 1, 0, none⟩ = false := frozen_of HB0); (have q1 : w1.frozen? ⟨w.heap.size + 1, 1, none⟩ = false := frozen_of HB0); (have q2 : w1.frozen? ⟨w.heap.size + 1, 2, none⟩ = false := frozen_of HB0); (have r0 : w1.cell? ⟨w.heap.size + 1, 0, none⟩ = some (.int .i64 0) := by rw [cell_of HB0]; rfl); (have r1 : w1.cell? ⟨w.heap.size + 1, 1, none⟩ = some (.int .i64 0) := by rw [cell_of HB0]; rfl); (have r2 : w1.cell? ⟨w.heap.size + 1, 2, none⟩ = some (.slice none 0 0) := by rw [cell_of HB0]; rfl); (have N1 := Lib.hid (HN.out.trans n1)); clear n1 HB0)
    have hp : putM (W, H, l) dx dy = (zeroI, bmE (W, H, l)) := by unfold putM; rw [if_pos HE.out]
    refine bodyPost_ret (v := .tuple #[.agg #[.int .i64 0, .int .i64 0, .slice none 0 0], .int .i64 (bmE (W, H, l))]) (by simp [results, Tryd.results15, go_sem, r0, r1, r2]) rfl ?_
    have h0 := fun W' => HR.out W' (.agg #[.int .i64 0, .int .i64 0, .slice none 0 0])
    rw [hp] at h0
    exact h0 _ (isIm_zero _ _) (((N1.out.setb (fun h => by omega) _).setb (fun h => by omega) _).setb (fun h => by omega) _)
end Go.Proofs.YtnhdnjhhjmgmnaaDoor
