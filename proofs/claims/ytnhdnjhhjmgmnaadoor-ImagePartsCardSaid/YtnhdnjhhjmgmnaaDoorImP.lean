/-
  image.Put: a bitmap in its frame, dot by dot.
-/
import Derived.Test.YtnhdnjhhjmgmnaaDoorImG
import Derived.StillTailTactics
import Derived.Laws.MakeOwn
import Derived.RowKit
import Derived.Deep.DeepCutAuto
namespace Go.Proofs.YtnhdnjhhjmgmnaaDoor
open Go.RowKit
set_option linter.unusedVariables false
set_option linter.unusedSimpArgs false
set_option maxRecDepth 100000



def intC (l : List Int) : Array Value := (l.map (Value.int .i64)).toArray
theorem alloc_size (w : World) (o : Obj) : (w.alloc o).heap.size = w.heap.size + 1 := Array.size_push _
theorem intC_get {l : List Int} {i : Nat} {x : Int} (h : l[i]? = some x) : (intC l)[i]? = some (.int .i64 x) := by simp [intC, h]
theorem intC_set (l : List Int) (i : Nat) (x : Int) : (intC l).setIfInBounds i (.int .i64 x) = intC (l.set i x) := by simp [intC]
theorem isInts_block {w : World} {lo b : Nat} {l : List Int} {cap : Nat} {T : TypeId} {f : Nat × Nat} (hb : w.heap[b]? = some (.cells (intC l) T f)) (hlo : b < lo) (hl : l.length ≤ cap ∧ l.length ≤ 9223372036854775807) (hw : ∀ x ∈ l, wfI x) : IsInts w lo (.slice (some ⟨b, 0, none⟩) l.length cap) l :=
  ⟨_, cap, rfl, hl, fun i x hi => ⟨hw x (List.mem_of_getElem? hi), b, 0, hlo, rfl, by rw [Nat.zero_add, cell_of hb]; exact intC_get hi⟩⟩

theorem info_int : (Tryd.prog.info? 3).map (fun i => (i.zero, i.size, i.bytes)) = some (some (.int .i64 0), 1, 8) := by kernel_rfl
theorem made_ints (n : Nat) : madeCells (Value.int .i64 0).cells (n * 1) = intC (List.replicate n 0) := by
  rw [Nat.mul_one]
  apply Array.ext
  · simp [intC, size_madeCells]
  · intro i h1 h2
    simp [madeCells, intC, Value.cells, Nat.mod_one]
theorem make_ints (n : Nat) (hn : n ≤ 1000000) (w : World) :
    (Instr.makeSlice 22 (.int .i64 (n : Int)) (.int .i64 (n : Int))).run Tryd.prog w = .ok (.slice (some ⟨w.heap.size, 0, none⟩) n n) (w.alloc (.cells (intC (List.replicate n 0)) 3)) := by
  obtain ⟨i, hi, hz, hs, hb⟩ := info_parts info_int
  have hr := run_make (P := Tryd.prog) w 22 3 i _ Tryd.underlying22 hi hz .i64 .i64 n n (by omega) (by omega) (by rw [hb]; omega) (by omega)
  simp only [Int.toNat_natCast, hs, made_ints] at hr
  exact hr

theorem isIm_zero (w : World) (lo : Nat) : IsIm w lo (.agg #[.int .i64 0, .int .i64 0, .slice none 0 0]) zeroI :=
  ⟨_, rfl, ⟨none, 0, rfl, by simp [zeroI], fun i x h => by cases h⟩, by simp only [wfI, zeroI]; omega, by simp only [wfI, zeroI]; omega⟩

set_option maxHeartbeats 2000000 in
theorem imPut_any (lo : Nat) (v : Value) (b : Bm) (dx dy : Int) (w : World) (R : Ending → World → Prop) (h : IsBm w lo v b) (hx : wfI dx) (hy : wfI dy)
    (hR : ∀ w' v', IsIm w' w'.heap.size v' (putM b dx dy).1 → Nw w w' → R (.returned (.tuple #[v', .int .i64 (putM b dx dy).2])) w') : Calls Tryd.prog 14 #[v, .int .i64 dx, .int .i64 dy] w R := by
  have HR := Lib.hid hR
  clear hR
  have HB := Lib.hid h
  obtain ⟨W, H, l⟩ := b
  obtain ⟨s, rfl, ⟨A, cap, rfl, ⟨hlc, hl⟩, hel⟩, hw, hh⟩ := h
  simp only at hw hh hl hel
  have HEL := Lib.hid hel
  clear hel
  unfold wfI at hw hh hx hy
  have HN := Lib.hid (show Nw w ((w.alloc (.cells #[.int .i64 W, .int .i64 H, .slice A l.length cap] 31)).alloc (.cells #[.int .i64 0, .int .i64 0, .slice none 0 0] 25)) from ((Ch.refl _ _).alloc _).alloc _)
  have HB2 := Lib.hid (HB.out.kept HN.out nof)
  by_cases hE : bmE (W, H, l) = 0
  · obtain ⟨b1, b2, b3⟩ := bmE_ok hE
    simp only at b1 b2 b3
    have HE := Lib.hid hE
    have hfn := frame_len hE
    have hfl := frame_le hE
    obtain ⟨c1, c2⟩ := b1
    obtain ⟨d1, d2⟩ := b2
    have B3 := Lib.hid b3
    clear hE b3
    obtain ⟨n, hn⟩ : ∃ n, n = frameN (W, H, l) := ⟨_, rfl⟩
    rw [← hn] at hfn hfl
    simp only at hfn
    have HNN := Lib.hid hn
    clear hn
    go_enter Tryd.func14, Tryd.ntmps14
    go_upto_region 4 with (go_at_call 37; refine bmCheck_ok lo _ _ _ _ HB2.out HE.out ?_; intro w1 n1; (have p0 : w1.cell? ⟨w.heap.size, 0, none⟩ = some (.int .i64 W) := n1.cell (cell_alloc_old _ (cell_alloc_new rfl rfl)) id); (have p1 : w1.cell? ⟨w.heap.size, 1, none⟩ = some (.int .i64 H) := n1.cell (cell_alloc_old _ (cell_alloc_new rfl rfl)) id); (have p2 : w1.cell? ⟨w.heap.size, 2, none⟩ = some (.slice A l.length cap) := n1.cell (cell_alloc_old _ (cell_alloc_new rfl rfl)) id); (have HB0 := Lib.hid (show w1.heap[w.heap.size + 1]? = some (.cells #[.int .i64 0, .int .i64 0, .slice none 0 0] 25 (0, 0)) from n1.heap (heap_alloc_eq _ (by simp only [alloc_size])) id)); (have N1 := Lib.hid (HN.out.trans n1)); clear n1)
    go_cut [27] (fun s27 wx => ∃ B : Bool, s27 = .bool B ∧ Hid (B = true ↔ ¬ shiftOk dx dy) ∧ w1 = wx)
    case first => as_aux_lemma =>
      go_wp2
      all_goals
        go_meet
        refine ⟨_, rfl, Lib.hid ?_, rfl⟩
        unfold shiftOk
        simp
        omega
    case rest =>
      obtain ⟨B, rfl, HBS, rfl⟩ := hcut
      have sz1 : w.heap.size + 1 < w1.heap.size := lt_of_heap HB0.out
      have q0 : w1.frozen? ⟨w.heap.size + 1, 0, none⟩ = false := frozen_of HB0.out
      have q1 : w1.frozen? ⟨w.heap.size + 1, 1, none⟩ = false := frozen_of HB0.out
      have q2 : w1.frozen? ⟨w.heap.size + 1, 2, none⟩ = false := frozen_of HB0.out
      have r0 : w1.cell? ⟨w.heap.size + 1, 0, none⟩ = some (.int .i64 0) := by rw [cell_of HB0.out]; rfl
      have r1 : w1.cell? ⟨w.heap.size + 1, 1, none⟩ = some (.int .i64 0) := by rw [cell_of HB0.out]; rfl
      have r2 : w1.cell? ⟨w.heap.size + 1, 2, none⟩ = some (.slice none 0 0) := by rw [cell_of HB0.out]; rfl
      by_cases hs : shiftOk dx dy
      · obtain rfl : B = false := by
          cases B with
          | false => rfl
          | true => exact absurd hs (HBS.out.1 rfl)
        obtain ⟨⟨s1, s2⟩, s3, s4⟩ := id hs
        have HS := Lib.hid hs
        clear hs
        have eN : (W + 4) * (H + 4) = (n : Int) := hfn.symm
        clear hfn
        have hmk := make_ints n (by omega)
        have sz0 : w.heap.size < w1.heap.size := by omega
        go_upto_region 8 with (fail)
        refine wp_named ?_
        intro W1 hW
        have a0 : W1.cell? ⟨w.heap.size, 0, none⟩ = some (.int .i64 W) := by rw [hW]; exact cell_alloc_old _ (cell_alloc_old _ p0)
        have a1 : W1.cell? ⟨w.heap.size, 2, none⟩ = some (.slice A l.length cap) := by rw [hW]; exact cell_alloc_old _ (cell_alloc_old _ p2)
        have GB := Lib.hid (show W1.heap[w1.heap.size + 1]? = some (.cells (intC (List.replicate n 0)) 3 (0, 0)) from by rw [hW]; exact heap_alloc_eq _ (by simp only [alloc_size]))
        have OB := Lib.hid (show W1.heap[w1.heap.size]? = some (.cells #[.int .i64 (W + 4), .int .i64 (H + 4), .slice (some ⟨w1.heap.size + 1, 0, none⟩) n n] 25 (0, 0)) from by rw [hW]; exact heap_alloc_old' _ (heap_alloc_eq _ rfl))
        have RB := Lib.hid (show W1.heap[w.heap.size + 1]? = some (.cells #[.int .i64 0, .int .i64 0, .slice none 0 0] 25 (0, 0)) from by rw [hW]; exact heap_alloc_old' _ (heap_alloc_old' _ HB0.out))
        have N2 := Lib.hid (show Nw w W1 from by rw [hW]; exact (N1.out.alloc _).alloc _)
        have N3 := Lib.hid (show Nw w1 W1 from by rw [hW]; exact ((Ch.refl _ _).alloc _).alloc _)
        clear hW p0 p1 p2 q0 q1 q2 r0 r1 r2 HB0 hmk HB2 HBS
        go_upto_region 9 with (fail)
        go_loopw [10, 11, 46] (fun _ _ s46 wr => ∃ k : Nat, s46 = .int .i64 k ∧ k ≤ l.length ∧ Hid (wr.heap[w1.heap.size + 1]? = some (.cells (intC (putS (W, H, l) dx dy k)) 3 (0, 0))) ∧ Hid (Ch (· = w1.heap.size + 1) W1 wr)) (fun _ _ s46 _ => l.length - (intOf s46).toNat)
        case atStart => exact ⟨0, rfl, Nat.zero_le _, Lib.hid (by rw [GB.out, HNN.out]; rfl), Lib.hid (Ch.refl _ _)⟩
        case round =>
          obtain ⟨k, rfl, hk, HG, HC⟩ := hrel
          have k0 : (0 : Int) ≤ (k : Int) := by omega
          by_cases hlt : k < l.length
          · obtain ⟨d, hd⟩ : ∃ d, l[k]? = some d := ⟨_, List.getElem?_eq_getElem hlt⟩
            obtain ⟨pk, po, hpk, rfl, hcell⟩ := HEL.out k d hd
            have hcell := HC.out.cell (N2.out.cell hcell id) (by have := World.block_lt_of_cell? _ _ hcell; show pk ≠ _; simp only at this; omega)
            have k1 : (k : Int) < (l.length : Int) := by omega
            cases d with
            | false =>
              have hS : putS (W, H, l) dx dy (k + 1) = putS (W, H, l) dx dy k := by simp only [putS, hd]; simp
              have HS2 := Lib.hid hS
              clear hd hS
              go_wp2
              go_roundw
              case rel => exact ⟨k + 1, by go_num, by omega, Lib.hid (by rw [HS2.out]; exact HG.out), HC⟩
              case measure => simp [intOf]; omega
            | true =>
              have hS : putS (W, H, l) dx dy (k + 1) = (putS (W, H, l) dx dy k).set (putAt (W, H, l) dx dy k).toNat 1 := by simp only [putS, hd]; simp
              have HS2 := Lib.hid hS
              obtain ⟨z1, ⟨z2, z3⟩, ⟨z4, z5⟩, z6, z7, z8, -, -⟩ := putAt_in HE.out HS.out hlt
              simp only at z1 z2 z3 z4 z5 z6 z7 z8
              have hat : putAt (W, H, l) dx dy k = ((k : Int) / W + 2 + dy) * (W + 4) + (k : Int) % W + 2 + dx := rfl
              obtain ⟨q, hq⟩ : ∃ q, (k : Int) / W = q := ⟨_, rfl⟩
              obtain ⟨r, hr⟩ : ∃ r, (k : Int) % W = r := ⟨_, rfl⟩
              have hr2 : (k : Int).tmod W = r := by rw [Int.tmod_eq_emod_of_nonneg k0, hr]
              have hq2 : (k : Int).tdiv W = q := by rw [Int.tdiv_eq_ediv_of_nonneg k0, hq]
              rw [hq] at z2 z3 hat
              rw [hr] at z4 z5 hat
              have e0 : IntKind.i64.wrap q = q := by rw [IntKind.wrap_i64]; omega
              rw [eN] at z7
              rw [← HNN.out] at z8
              obtain ⟨M, hM⟩ : ∃ M : Nat, M = (putAt (W, H, l) dx dy k).toNat := ⟨_, rfl⟩
              rw [← hM] at z8
              have hMi : putAt (W, H, l) dx dy k = (M : Int) := by omega
              rw [hMi] at hat z6
              have m0 : 0 ≤ (q + 2 + dy) * (W + 4) ∧ (q + 2 + dy) * (W + 4) ≤ 10000 := mul96 (by omega) (by omega)
              have HMM := Lib.hid hM
              obtain ⟨c0, hc0⟩ : ∃ c0, (putS (W, H, l) dx dy k)[M]? = some c0 := ⟨_, List.getElem?_eq_getElem (by rw [putS_len, ← HNN.out]; exact z8)⟩
              have g0 : wr.cell? ⟨w1.heap.size + 1, M, none⟩ = some (.int .i64 c0) := by rw [cell_of HG.out]; exact intC_get hc0
              have g1 : wr.frozen? ⟨w1.heap.size + 1, M, none⟩ = false := frozen_of HG.out
              have a0 := HC.out.cell a0 (by show w.heap.size ≠ _; omega)
              have b0 : wr.cell? ⟨w1.heap.size, 0, none⟩ = some (.int .i64 (W + 4)) := HC.out.cell (by rw [cell_of OB.out]; rfl) (by show w1.heap.size ≠ _; omega)
              have b2 : wr.cell? ⟨w1.heap.size, 2, none⟩ = some (.slice (some ⟨w1.heap.size + 1, 0, none⟩) n n) := HC.out.cell (by rw [cell_of OB.out]; rfl) (by show w1.heap.size ≠ _; omega)
              have M0 : (0 : Int) ≤ (M : Int) := by omega
              have M1 : (M : Int) < (n : Int) := by omega
              have wz : ¬ W = 0 := by omega
              have e1 : IntKind.i64.wrap (q + 2) = q + 2 := by rw [IntKind.wrap_i64]; omega
              have e2 : IntKind.i64.wrap (q + 2 + dy) = q + 2 + dy := by rw [IntKind.wrap_i64]; omega
              have e3 : IntKind.i64.wrap ((q + 2 + dy) * (W + 4)) = (q + 2 + dy) * (W + 4) := by rw [IntKind.wrap_i64]; omega
              have e4 : IntKind.i64.wrap ((q + 2 + dy) * (W + 4) + r) = (q + 2 + dy) * (W + 4) + r := by rw [IntKind.wrap_i64]; omega
              have e5 : IntKind.i64.wrap ((q + 2 + dy) * (W + 4) + r + 2) = (q + 2 + dy) * (W + 4) + r + 2 := by rw [IntKind.wrap_i64]; omega
              have e6 : IntKind.i64.wrap ((q + 2 + dy) * (W + 4) + r + 2 + dx) = (M : Int) := by rw [IntKind.wrap_i64]; omega
              clear hd hS hM hMi hat hc0 eN
              go_wp2
              go_still_tail 21, (by kernel_rfl)
              go_wp2
              refine ⟨⟨k + 1, by go_num, by omega, Lib.hid ?_, Lib.hid ((HC.out.setb (fun _ => rfl) _).drew)⟩, ?_⟩
              · rw [HS2.out, ← HMM.out, ← intC_set]
                exact heap_setCell_eq _ HG.out
              · simp [intOf]; omega
          · obtain rfl : k = l.length := by omega
            have b0 : wr.cell? ⟨w1.heap.size, 0, none⟩ = some (.int .i64 (W + 4)) := HC.out.cell (by rw [cell_of OB.out]; rfl) (by show w1.heap.size ≠ _; omega)
            have b1 : wr.cell? ⟨w1.heap.size, 1, none⟩ = some (.int .i64 (H + 4)) := HC.out.cell (by rw [cell_of OB.out]; rfl) (by show w1.heap.size ≠ _; omega)
            have b2 : wr.cell? ⟨w1.heap.size, 2, none⟩ = some (.slice (some ⟨w1.heap.size + 1, 0, none⟩) n n) := HC.out.cell (by rw [cell_of OB.out]; rfl) (by show w1.heap.size ≠ _; omega)
            have RB2 := Lib.hid (HC.out.heap RB.out (by show w.heap.size + 1 ≠ _; omega))
            have r0 : wr.cell? ⟨w.heap.size + 1, 0, none⟩ = some (.int .i64 0) := by rw [cell_of RB2.out]; rfl
            have r1 : wr.cell? ⟨w.heap.size + 1, 1, none⟩ = some (.int .i64 0) := by rw [cell_of RB2.out]; rfl
            have r2 : wr.cell? ⟨w.heap.size + 1, 2, none⟩ = some (.slice none 0 0) := by rw [cell_of RB2.out]; rfl
            have q0 : wr.frozen? ⟨w.heap.size + 1, 0, none⟩ = false := frozen_of RB2.out
            have q1 : wr.frozen? ⟨w.heap.size + 1, 1, none⟩ = false := frozen_of RB2.out
            have q2 : wr.frozen? ⟨w.heap.size + 1, 2, none⟩ = false := frozen_of RB2.out
            clear eN
            go_wp2
            refine bodyPost_ret (v := .tuple #[.agg #[.int .i64 (W + 4), .int .i64 (H + 4), .slice (some ⟨w1.heap.size + 1, 0, none⟩) n n], .int .i64 0]) (by simp [results, Tryd.results14, go_sem, r0, r1, r2]) rfl ?_
            have hp := putM_ok HE.out HS.out
            have hL : (putL (W, H, l) dx dy).length = n := by rw [putL_len, HNN.out]
            have h0 := fun W' => HR.out W' (.agg #[.int .i64 (W + 4), .int .i64 (H + 4), .slice (some ⟨w1.heap.size + 1, 0, none⟩) n n])
            rw [hp] at h0
            have NR : Nw w wr := N2.out.trans' HC.out (fun j hj e => by have e' : j = w1.heap.size + 1 := e; omega)
            refine h0 _ ⟨_, rfl, ?_, by simp only [wfI]; omega, by simp only [wfI]; omega⟩ ?_
            · simp only
              have hb : (wr.heap[w1.heap.size + 1]?) = some (.cells (intC (putL (W, H, l) dx dy)) 3 (0, 0)) := by rw [HG.out, putS_done HE.out HS.out]
              have hb2 := (Ch.heap ((((Ch.refl (· = w.heap.size + 1) wr).setb (b := w.heap.size + 1) (o := 0) (fun _ => rfl) (.int .i64 (W + 4))).setb (b := w.heap.size + 1) (o := 1) (fun _ => rfl) (.int .i64 (H + 4))).setb (b := w.heap.size + 1) (o := 2) (fun _ => rfl) (.slice (some ⟨w1.heap.size + 1, 0, none⟩) n n)) hb (by show w1.heap.size + 1 ≠ _; omega))
              have hi := isInts_block (cap := n) hb2 (lt_of_heap hb2) (by omega) (fun x hx => by
                have := (putL_ok (dx := dx) (dy := dy) HE.out).2.2.2 x hx
                unfold wfI; omega)
              rw [hL] at hi
              exact hi
            · exact ((NR.setb (fun h => by omega) _).setb (fun h => by omega) _).setb (fun h => by omega) _
      · obtain rfl : B = true := by
          cases B with
          | true => rfl
          | false => exact absurd (HBS.out.2 hs) (by simp)
        have HS := Lib.hid hs
        clear hs
        go_wp2
        have hp : putM (W, H, l) dx dy = (zeroI, 3) := by unfold putM; rw [if_neg (by simp [HE.out]), if_neg HS.out]
        refine bodyPost_ret (v := .tuple #[.agg #[.int .i64 0, .int .i64 0, .slice none 0 0], .int .i64 3]) (by simp [results, Tryd.results14, go_sem, r0, r1, r2]) rfl ?_
        have h0 := fun W' => HR.out W' (.agg #[.int .i64 0, .int .i64 0, .slice none 0 0])
        rw [hp] at h0
        exact h0 _ (isIm_zero _ _) (((N1.out.setb (fun h => by omega) _).setb (fun h => by omega) _).setb (fun h => by omega) _)
  · have t0 : (bmE (W, H, l) != 0) = true := by simp [hE]
    have HE := Lib.hid hE
    clear hE
    go_enter Tryd.func14, Tryd.ntmps14
    go_wp2_with (go_at_call 37; refine bmCheck_any lo _ _ _ _ HB2.out ?_; intro w1 n1; (have HB0 : w1.heap[w.heap.size + 1]? = some (.cells #[.int .i64 0, .int .i64 0, .slice none 0 0] 25 (0, 0)) := n1.heap (heap_alloc_eq _ (by simp only [alloc_size])) id); (have q0 : w1.frozen? ⟨w.heap.size + 1, 0, none⟩ = false := frozen_of HB0); (have q1 : w1.frozen? ⟨w.heap.size + 1, 1, none⟩ = false := frozen_of HB0); (have q2 : w1.frozen? ⟨w.heap.size + 1, 2, none⟩ = false := frozen_of HB0); (have r0 : w1.cell? ⟨w.heap.size + 1, 0, none⟩ = some (.int .i64 0) := by rw [cell_of HB0]; rfl); (have r1 : w1.cell? ⟨w.heap.size + 1, 1, none⟩ = some (.int .i64 0) := by rw [cell_of HB0]; rfl); (have r2 : w1.cell? ⟨w.heap.size + 1, 2, none⟩ = some (.slice none 0 0) := by rw [cell_of HB0]; rfl); (have N1 := Lib.hid (HN.out.trans n1)); clear n1 HB0)
    have hp : putM (W, H, l) dx dy = (zeroI, bmE (W, H, l)) := by unfold putM; rw [if_pos HE.out]
    refine bodyPost_ret (v := .tuple #[.agg #[.int .i64 0, .int .i64 0, .slice none 0 0], .int .i64 (bmE (W, H, l))]) (by simp [results, Tryd.results14, go_sem, r0, r1, r2]) rfl ?_
    have h0 := fun W' => HR.out W' (.agg #[.int .i64 0, .int .i64 0, .slice none 0 0])
    rw [hp] at h0
    exact h0 _ (isIm_zero _ _) (((N1.out.setb (fun h => by omega) _).setb (fun h => by omega) _).setb (fun h => by omega) _)
end Go.Proofs.YtnhdnjhhjmgmnaaDoor
