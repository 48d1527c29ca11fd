/-
  indelibleref22.Hide: columns made unknown.
-/
import Derived.Test.YtnhdnjhhjmgmnaaDoorImH
namespace Go.Proofs.YtnhdnjhhjmgmnaaDoor
open Go.RowKit
set_option linter.unusedVariables false
set_option linter.unusedSimpArgs false
set_option maxRecDepth 100000

theorem take_snoc' {α : Type} {l : List α} {k : Nat} {x : α} (h : l[k]? = some x) : l.take (k + 1) = l.take k ++ [x] := by rw [List.take_add_one, h]; rfl

set_option maxHeartbeats 4000000 in
theorem riHide_row (lo : Nat) (v : Value) (x : Im) (f t : Int) (w : World) (R : Ending → World → Prop) (h : IsIm w lo v x) (hlo : lo ≤ w.heap.size) (hf : wfI f) (ht : wfI t)
    (hR : ∀ w' v', IsIm w' w'.heap.size v' (hideM x f t) → Nw w w' → (imOk x → ∃ s, v' = .agg #[.int .i64 x.1, .int .i64 x.2.1, s] ∧ IRow w' w.heap.size s x.2.2.length (hideL x.1 f t x.2.2)) → R (.returned v') w') : Calls Tryd.prog 21 #[v, .int .i64 f, .int .i64 t] w R := by
  have HR := Lib.hid hR
  clear hR
  have HX := Lib.hid h
  obtain ⟨W, H, l⟩ := x
  obtain ⟨s, rfl, hi, hw, hh⟩ := h
  obtain ⟨A, cap, rfl, ⟨hlc, hl⟩, hel⟩ := hi
  simp only at hw hh hl hel
  have HEL := Lib.hid hel
  clear hel
  unfold wfI at hw hh hf ht
  have HN := Lib.hid (show Nw w ((w.alloc (.cells #[.int .i64 W, .int .i64 H, .slice A l.length cap] 25)).alloc (.cells #[.int .i64 0, .int .i64 0, .slice none 0 0] 25)) from ((Ch.refl _ _).alloc _).alloc _)
  have HX2 := Lib.hid (HX.out.kept HN.out nof)
  by_cases hE : imOk (W, H, l)
  · have HE := Lib.hid hE
    have hlen := imOk_len hE
    obtain ⟨b1, b2, b3, b4⟩ := hE
    simp only at b1 b2 b3 b4 hlen
    obtain ⟨c1, c2⟩ := b1
    have B3 := Lib.hid b3
    clear b2 b3 b4
    go_enter Tryd.func21, Tryd.ntmps21
    go_wp2_with (go_at_call 23; refine riCheck_ok lo _ _ _ _ HX2.out HE.out ?_; intro w1 n1; (have p0 : w1.cell? ⟨w.heap.size, 0, none⟩ = some (.int .i64 W) := n1.cell (cell_alloc_old _ (cell_alloc_new rfl rfl)) id); (have p1 : w1.cell? ⟨w.heap.size, 1, none⟩ = some (.int .i64 H) := n1.cell (cell_alloc_old _ (cell_alloc_new rfl rfl)) id); (have p2 : w1.cell? ⟨w.heap.size, 2, none⟩ = some (.slice A l.length cap) := n1.cell (cell_alloc_old _ (cell_alloc_new rfl rfl)) id); (have HB0 := Lib.hid (show w1.heap[w.heap.size + 1]? = some (.cells #[.int .i64 0, .int .i64 0, .slice none 0 0] 25 (0, 0)) from n1.heap (heap_alloc_eq _ (by simp only [alloc_size])) id)); (have N1 := Lib.hid (HN.out.trans n1)); clear n1)
    have sz1 : w.heap.size + 1 < w1.heap.size := lt_of_heap HB0.out
    have nb : w.heap.size ≠ w1.heap.size := by omega
    refine wp_named ?_
    intro W1 hW
    have a0 := Lib.hid (show W1.cell? ⟨w.heap.size, 0, none⟩ = some (.int .i64 W) from by rw [hW]; exact cell_alloc_old _ p0)
    have a2 := Lib.hid (show W1.cell? ⟨w.heap.size, 2, none⟩ = some (.slice A l.length cap) from by rw [hW]; exact cell_alloc_old _ p2)
    have OB := Lib.hid (show W1.heap[w1.heap.size]? = some (.cells #[.int .i64 W, .int .i64 H, .slice none 0 0] 25 (0, 0)) from by rw [hW]; exact heap_alloc_eq _ rfl)
    have RB := Lib.hid (show W1.heap[w.heap.size + 1]? = some (.cells #[.int .i64 0, .int .i64 0, .slice none 0 0] 25 (0, 0)) from by rw [hW]; exact heap_alloc_old' _ HB0.out)
    have N2 := Lib.hid (show Nw w W1 from by rw [hW]; exact N1.out.alloc _)
    have SZ : W1.heap.size = w1.heap.size + 1 := by rw [hW]; exact alloc_size _ _
    clear hW p0 p1 p2 HB0 HX2
    go_loopw [8, 9] (fun s8 _ wr => ∃ (k : Nat) (A' : Option Addr) (cap' : Nat), s8 = .int .i64 k ∧ k ≤ l.length ∧ Hid (wr.heap[w1.heap.size]? = some (.cells #[.int .i64 W, .int .i64 H, .slice A' k cap'] 25 (0, 0))) ∧ Hid (IRow wr (w1.heap.size + 1) (.slice A' k cap') k ((hideL W f t l).take k)) ∧ Hid (Ch (· = w1.heap.size) W1 wr)) (fun s8 _ _ => l.length - (intOf s8).toNat)
    case atStart => exact ⟨0, none, 0, rfl, Nat.zero_le _, OB, Lib.hid (IRow.nil _ _), Lib.hid (Ch.refl _ _)⟩
    case round =>
      obtain ⟨k, A3, cap3, rfl, hk, HO, HRW, HC⟩ := hrel
      have k0 : (0 : Int) ≤ (k : Int) := by omega
      have t2 := HC.out.cell a2.out nb
      by_cases hlt : k < l.length
      · obtain ⟨p, hp⟩ : ∃ p, l[k]? = some p := ⟨_, List.getElem?_eq_getElem hlt⟩
        obtain ⟨hwp, pk, po, hpk, rfl, hcell⟩ := HEL.out k p hp
        have hcell := HC.out.cell (N2.out.cell hcell id) (by have := World.block_lt_of_cell? _ _ hcell; show pk ≠ _; simp only at this; omega)
        have k1 : (k : Int) < (l.length : Int) := by omega
        have t0 := HC.out.cell a0.out nb
        have c3 : wr.cell? ⟨w1.heap.size, 2, none⟩ = some (.slice A3 k cap3) := by rw [cell_of HO.out]; rfl
        have wz : 0 < W := grid_pos (k := (k : Int)) (W := W) (H := H) k0 (by have := B3.out; omega) c1
        have wz2 : ¬ W = 0 := by omega
        obtain ⟨r, hr⟩ : ∃ r, (k : Int) % W = r := ⟨_, rfl⟩
        have hr2 : (k : Int).tmod W = r := by rw [Int.tmod_eq_emod_of_nonneg k0, hr]
        have hg := hideL_get (W := W) (f := f) (t := t) hp
        have szr := HC.out.size
        have arms : ∀ q, hideP W f t k p = q → Hid ((hideL W f t l)[k]? = some q) := fun q e => Lib.hid (by rw [hg, e])
        unfold wfI at hwp
        clear hp hg
        by_cases hin : f ≤ r ∧ r < t
        · obtain ⟨f1, f2⟩ := hin
          have HGET := arms 2 (by unfold hideP; rw [hr, if_pos ⟨f1, f2⟩])
          clear arms
          go_wp2_with (at_builtin; refine app_int _ rfl (.tmp 46) (.tmp 48) rfl (w1.heap.size + 1) (.slice A3 k cap3) k _ (by rfl) (HRW.out.ch ((Ch.refl (fun _ => False) _).alloc _) (fun _ _ e => e)) _ 2 (by rfl) (cell_alloc_new rfl rfl) (by omega) (by rw [alloc_size]; omega) ?_)
          intro g3 cap4 w3 hr3 hg3
          have HR3 := Lib.hid hr3
          have C3 := Lib.hid ((HC.out.alloc _).grown hg3 (fun j hj hl => by have := (HRW.out.lt j hj).1; omega))
          have O3 : w3.heap[w1.heap.size]? = some (.cells #[.int .i64 W, .int .i64 H, .slice A3 k cap3] 25 (0, 0)) := by
            have := hg3.block w1.heap.size (by rw [alloc_size]; omega) (fun e => by have := (HRW.out.lt _ e.symm).1; omega)
            rw [this]
            exact heap_alloc_old' _ HO.out
          have HO3 := Lib.hid O3
          have f2 : w3.cell? ⟨w1.heap.size, 2, none⟩ = some (.slice A3 k cap3) := by rw [cell_of O3]; rfl
          have z2 : w3.frozen? ⟨w1.heap.size, 2, none⟩ = false := frozen_of O3
          clear hr3 hg3 O3
          go_wp2
          refine ⟨⟨k + 1, some ⟨g3, 0, none⟩, cap4, rfl, by omega, Lib.hid (heap_setCell_eq _ HO3.out), Lib.hid ?_, Lib.hid (C3.out.setb (fun _ => rfl) _)⟩, ?_⟩
          · rw [take_snoc' HGET.out]
            exact (HR3.out.ch ((Ch.refl (· = w1.heap.size) w3).setb (fun _ => rfl) _) (fun j hj e => by have e' : j = w1.heap.size := e; omega))
          · simp [intOf]; omega
        · have HGET := arms p (by unfold hideP; rw [hr, if_neg hin])
          clear arms
          have hcase : (f ≤ r ∧ ¬ r < t) ∨ ¬ f ≤ r := by omega
          clear hin
          rcases hcase with ⟨f1, f2⟩ | f1
          all_goals
            go_wp2_with (at_builtin; refine app_int _ rfl (.tmp 46) (.tmp 48) rfl (w1.heap.size + 1) (.slice A3 k cap3) k _ (by rfl) (HRW.out.ch ((Ch.refl (fun _ => False) _).alloc _) (fun _ _ e => e)) _ p (by rfl) (cell_alloc_new rfl rfl) (by omega) (by rw [alloc_size]; omega) ?_)
            intro g3 cap4 w3 hr3 hg3
            have HR3 := Lib.hid hr3
            have C3 := Lib.hid ((HC.out.alloc _).grown hg3 (fun j hj hl => by have := (HRW.out.lt j hj).1; omega))
            have O3 : w3.heap[w1.heap.size]? = some (.cells #[.int .i64 W, .int .i64 H, .slice A3 k cap3] 25 (0, 0)) := by
              have := hg3.block w1.heap.size (by rw [alloc_size]; omega) (fun e => by have := (HRW.out.lt _ e.symm).1; omega)
              rw [this]
              exact heap_alloc_old' _ HO.out
            have HO3 := Lib.hid O3
            have f2 : w3.cell? ⟨w1.heap.size, 2, none⟩ = some (.slice A3 k cap3) := by rw [cell_of O3]; rfl
            have z2 : w3.frozen? ⟨w1.heap.size, 2, none⟩ = false := frozen_of O3
            clear hr3 hg3 O3
            go_wp2
            refine ⟨⟨k + 1, some ⟨g3, 0, none⟩, cap4, rfl, by omega, Lib.hid (heap_setCell_eq _ HO3.out), Lib.hid ?_, Lib.hid (C3.out.setb (fun _ => rfl) _)⟩, ?_⟩
            · rw [take_snoc' HGET.out]
              exact (HR3.out.ch ((Ch.refl (· = w1.heap.size) w3).setb (fun _ => rfl) _) (fun j hj e => by have e' : j = w1.heap.size := e; omega))
            · simp [intOf]; omega
      · obtain rfl : k = l.length := by omega
        have HRW2 := Lib.hid (show IRow wr (w1.heap.size + 1) (.slice A3 l.length cap3) l.length (hideL W f t l) from by
          have h0 := HRW.out
          rw [List.take_of_length_le (by rw [hideL_len]; omega)] at h0
          exact h0)
        clear HRW
        have b0 : wr.cell? ⟨w1.heap.size, 0, none⟩ = some (.int .i64 W) := by rw [cell_of HO.out]; rfl
        have b1 : wr.cell? ⟨w1.heap.size, 1, none⟩ = some (.int .i64 H) := by rw [cell_of HO.out]; rfl
        have b2 : wr.cell? ⟨w1.heap.size, 2, none⟩ = some (.slice A3 l.length cap3) := by rw [cell_of HO.out]; rfl
        have RB2 := Lib.hid (HC.out.heap RB.out (by show w.heap.size + 1 ≠ _; omega))
        have r0 : wr.cell? ⟨w.heap.size + 1, 0, none⟩ = some (.int .i64 0) := by rw [cell_of RB2.out]; rfl
        have r1 : wr.cell? ⟨w.heap.size + 1, 1, none⟩ = some (.int .i64 0) := by rw [cell_of RB2.out]; rfl
        have r2 : wr.cell? ⟨w.heap.size + 1, 2, none⟩ = some (.slice none 0 0) := by rw [cell_of RB2.out]; rfl
        have q0 : wr.frozen? ⟨w.heap.size + 1, 0, none⟩ = false := frozen_of RB2.out
        have q1 : wr.frozen? ⟨w.heap.size + 1, 1, none⟩ = false := frozen_of RB2.out
        have q2 : wr.frozen? ⟨w.heap.size + 1, 2, none⟩ = false := frozen_of RB2.out
        have NRH := Lib.hid (N2.out.trans' HC.out (fun j hj e => by have e' : j = w1.heap.size := e; omega))
        go_wp2
        refine bodyPost_ret (v := .agg #[.int .i64 W, .int .i64 H, .slice A3 l.length cap3]) (by simp [results, Tryd.results21, go_sem, r0, r1, r2]) rfl ?_
        have hp : hideM (W, H, l) f t = (W, H, hideL W f t l) := by unfold hideM; rw [if_pos HE.out]
        have h0 := fun W' => HR.out W' (.agg #[.int .i64 W, .int .i64 H, .slice A3 l.length cap3])
        rw [hp] at h0
        have hr9 := HRW2.out.ch ((((Ch.refl (· = w.heap.size + 1) wr).setb (b := w.heap.size + 1) (o := 0) (fun _ => rfl) (.int .i64 W)).setb (b := w.heap.size + 1) (o := 1) (fun _ => rfl) (.int .i64 H)).setb (b := w.heap.size + 1) (o := 2) (fun _ => rfl) (.slice A3 l.length cap3)) (fun j hj e => by have e' : j = w.heap.size + 1 := e; omega)
        refine h0 _ ⟨_, rfl, ?_, hw, hh⟩ (((NRH.out.setb (fun h => by omega) _).setb (fun h => by omega) _).setb (fun h => by omega) _) (fun _ => ⟨_, rfl, hr9.lo (by omega)⟩)
        exact hr9.isInts (fun x hx => by
          have := (hideL_ok (f := f) (t := t) HE.out).2.2.2 x hx
          unfold wfI; omega) (by omega)
  · have HE := Lib.hid hE
    clear hE
    go_enter Tryd.func21, Tryd.ntmps21
    go_wp2_with (go_at_call 23; refine riCheck_bad lo _ _ _ _ HX2.out HE.out ?_; intro w1 n1; (have HB0 : w1.heap[w.heap.size + 1]? = some (.cells #[.int .i64 0, .int .i64 0, .slice none 0 0] 25 (0, 0)) := n1.heap (heap_alloc_eq _ (by simp only [alloc_size])) id); (have q0 : w1.frozen? ⟨w.heap.size + 1, 0, none⟩ = false := frozen_of HB0); (have q1 : w1.frozen? ⟨w.heap.size + 1, 1, none⟩ = false := frozen_of HB0); (have q2 : w1.frozen? ⟨w.heap.size + 1, 2, none⟩ = false := frozen_of HB0); (have r0 : w1.cell? ⟨w.heap.size + 1, 0, none⟩ = some (.int .i64 0) := by rw [cell_of HB0]; rfl); (have r1 : w1.cell? ⟨w.heap.size + 1, 1, none⟩ = some (.int .i64 0) := by rw [cell_of HB0]; rfl); (have r2 : w1.cell? ⟨w.heap.size + 1, 2, none⟩ = some (.slice none 0 0) := by rw [cell_of HB0]; rfl); (have N1 := Lib.hid (HN.out.trans n1)); clear n1 HB0)
    have hp : hideM (W, H, l) f t = zeroI := by unfold hideM; rw [if_neg HE.out]
    refine bodyPost_ret (v := .agg #[.int .i64 0, .int .i64 0, .slice none 0 0]) (by simp [results, Tryd.results21, go_sem, r0, r1, r2]) rfl ?_
    have h0 := fun W' => HR.out W' (.agg #[.int .i64 0, .int .i64 0, .slice none 0 0])
    rw [hp] at h0
    exact h0 _ (isIm_zero _ _) (((N1.out.setb (fun h => by omega) _).setb (fun h => by omega) _).setb (fun h => by omega) _) (fun h => absurd h HE.out)
theorem riHide_any (lo : Nat) (v : Value) (x : Im) (f t : Int) (w : World) (R : Ending → World → Prop) (h : IsIm w lo v x) (hlo : lo ≤ w.heap.size) (hf : wfI f) (ht : wfI t)
    (hR : ∀ w' v', IsIm w' w'.heap.size v' (hideM x f t) → Nw w w' → R (.returned v') w') : Calls Tryd.prog 21 #[v, .int .i64 f, .int .i64 t] w R :=
  riHide_row lo v x f t w R h hlo hf ht fun w' v' h1 h2 _ => hR w' v' h1 h2
end Go.Proofs.YtnhdnjhhjmgmnaaDoor
