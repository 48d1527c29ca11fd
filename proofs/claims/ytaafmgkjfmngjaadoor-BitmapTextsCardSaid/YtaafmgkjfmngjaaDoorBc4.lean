/-
  bitmap.Crop: a part of a bitmap.
-/
import Derived.Test.YtaafmgkjfmngjaaDoorNew4
import Derived.Test.YtaafmgkjfmngjaaDoorFl4
import Derived.Test.YtaafmgkjfmngjaaDoorImG
import Derived.Test.YtaafmgkjfmngjaaDoorRegU
import Derived.Test.YtaafmgkjfmngjaaDoorBhas
namespace Go.Proofs.YtaafmgkjfmngjaaDoor
open Go.RowKit
set_option linter.unusedVariables false
set_option linter.unusedSimpArgs false
set_option maxRecDepth 100000

set_option maxHeartbeats 8000000 in
theorem bCrop_any (lo : Nat) (v : Value) (b : Bm) (x y W H : Int) (w : World) (R : Ending → World → Prop) (h : IsBm w lo v b) (hlo : lo ≤ w.heap.size) (hx : wfI x) (hy : wfI y) (hW : wfI W) (hH : wfI H)
    (hR : ∀ w' v', IsBm w' w'.heap.size v' (cropM b x y W H).1 → Nw w w' → R (.returned (.tuple #[v', .int .i64 (cropM b x y W H).2])) w') : Calls Tryd.prog 14 #[v, .int .i64 x, .int .i64 y, .int .i64 W, .int .i64 H] w R := by
  have HR := Lib.hid hR
  clear hR
  have HB := Lib.hid (h.hi hlo)
  obtain ⟨bW, bH, l⟩ := b
  obtain ⟨sv, rfl, ⟨A, cap, rfl, -, -⟩, -, -⟩ := h
  simp only at HB HR ⊢
  have HWf := Lib.hid hW
  have HHf := Lib.hid hH
  clear hlo
  have NX := Lib.hid (Ch.refl (fun _ => False) w)
  by_cases hE : bmE (bW, bH, l) = 0
  · have HE := Lib.hid hE
    by_cases hS : (0 ≤ W ∧ W ≤ 96) ∧ (0 ≤ H ∧ H ≤ 96)
    · obtain ⟨⟨w0, w1'⟩, ⟨h0', h1'⟩⟩ := hS
      have hm := mul96 (a := W) (b := H) ⟨w0, by omega⟩ ⟨h0', by omega⟩
      obtain ⟨nD, hnD⟩ : ∃ n : Nat, (n : Int) = W * H := ⟨(W * H).toNat, by omega⟩
      have HNN := Lib.hid hnD
      have nD1 : nD ≤ 10000 := by omega
      clear hnD hm hE
      obtain ⟨f, hf⟩ : ∃ f : Int → Int → Bool, f = fun i j => hasB (bW, bH, l) (wrap64 (x + i)) (wrap64 (y + j)) := ⟨_, rfl⟩
      have HF := Lib.hid hf
      clear hf
      go_enter Tryd.func14, Tryd.ntmps14
      go_wp2_with (fail)
      refine Calls_nm ?_
      intro W1 hW
      have n : Nw w W1 := by rw [hW]; exact ((Ch.refl _ _).alloc _).alloc _
      replace NX := Lib.hid (NX.out.trans n)
      replace HB := Lib.hid (HB.out.kept n nof)
      have HB0 := Lib.hid (show W1.heap[w.heap.size]? = some (.cells #[.int .i64 bW, .int .i64 bH, .slice A l.length cap] 28 (0, 0)) from by rw [hW]; exact heap_alloc_old' _ (heap_alloc_eq _ rfl))
      have RB := Lib.hid (show W1.heap[w.heap.size + 1]? = some (.cells #[.int .i64 0, .int .i64 0, .slice none 0 0] 28 (0, 0)) from by rw [hW]; exact heap_alloc_eq _ (by simp only [alloc_size]))
      clear hW n
      refine bmCheck_ok w.heap.size _ (bW, bH, l) _ _ HB.out HE.out ?_
      intro w2 n
      replace NX := Lib.hid (NX.out.trans n)
      replace HB := Lib.hid (HB.out.kept n nof)
      replace HB0 := Lib.hid (n.heap HB0.out id)
      replace RB := Lib.hid (n.heap RB.out id)
      clear n
      go_wp2_with (fail)
      refine Calls_nm ?_
      intro W3 hW
      have n : Nw w2 W3 := by rw [hW]; first | exact Ch.refl _ _ | exact (Ch.refl _ _).alloc _ | exact ((Ch.refl _ _).alloc _).alloc _
      replace NX := Lib.hid (NX.out.trans n)
      replace HB := Lib.hid (HB.out.kept n nof)
      replace HB0 := Lib.hid (n.heap HB0.out id)
      replace RB := Lib.hid (n.heap RB.out id)
      clear hW n
      refine bNew_ok W H nD _ _ ⟨w0, w1'⟩ ⟨h0', h1'⟩ HNN.out ?_
      intro w5 g hg hlo5 n
      have SZg := W3.heap.size
      have Sx := lt_of_heap RB.out
      have hgl := lt_of_heap hg
      have HG := Lib.hid hg
      clear hg
      replace NX := Lib.hid (NX.out.trans n)
      replace HB := Lib.hid (HB.out.kept n nof)
      replace HB0 := Lib.hid (n.heap HB0.out id)
      replace RB := Lib.hid (n.heap RB.out id)
      clear n
      go_wp2_with (fail)
      refine wp_named ?_
      intro W4 hW
      have n : Nw w5 W4 := by rw [hW]; exact (Ch.refl _ _).alloc _
      replace NX := Lib.hid (NX.out.trans n)
      replace HB := Lib.hid (HB.out.kept n nof)
      replace HB0 := Lib.hid (n.heap HB0.out id)
      replace RB := Lib.hid (n.heap RB.out id)
      replace HG := Lib.hid (n.heap HG.out id)
      have OB := Lib.hid (show W4.heap[w5.heap.size]? = some (.cells #[.int .i64 W, .int .i64 H, .slice (some ⟨g, 0, none⟩) nD nD] 28 (0, 0)) from by rw [hW]; exact heap_alloc_eq _ rfl)
      clear hW n
      replace HG := Lib.hid (show W4.heap[g]? = some (.cells (boolC (fillS W H f ((0 : Nat) : Int))) 4 (0, 0)) from by rw [Int.natCast_zero, fillS_zero f w0, show (W * H).toNat = nD from by have := HNN.out; omega]; exact HG.out)
      go_loopw [15, 31] (fun _ s31 wr => ∃ k : Nat, s31 = .int .i64 k ∧ k ≤ nD ∧ Hid (wr.heap[g]? = some (.cells (boolC (fillS W H f (k : Int))) 4 (0, 0))) ∧ Hid (Ch (· = g) W4 wr)) (fun _ s31 _ => nD - (intOf s31).toNat)
      case atStart => exact ⟨0, rfl, Nat.zero_le _, HG, Lib.hid (Ch.refl _ _)⟩
      case round =>
        obtain ⟨k, rfl, hk, HGK, HC⟩ := hrel
        have k0 : (0 : Int) ≤ (k : Int) := by omega
        obtain ⟨wk, hwk⟩ : ∃ W : World, W = wr := ⟨_, rfl⟩
        subst hwk
        clear HG
        replace NX := Lib.hid (NX.out.trans' HC.out (fun i hi e => by have e' : i = g := e; omega))
        replace HB := Lib.hid (HB.out.kept HC.out (fun i hi e => by have e' : i = g := e; omega))
        replace HB0 := Lib.hid (HC.out.heap HB0.out (by show w.heap.size ≠ g; omega))
        replace RB := Lib.hid (HC.out.heap RB.out (by show w.heap.size + 1 ≠ g; omega))
        replace OB := Lib.hid (HC.out.heap OB.out (by show w5.heap.size ≠ g; omega))
        by_cases hlt : k < nD
        · have k1 : (k : Int) < (nD : Int) := by omega
          have kw : (k : Int) < W * H := by have := HNN.out; omega
          have wpos : 0 < W := grid_pos k0 kw w0
          obtain ⟨⟨m0, m1⟩, ⟨m2, m3⟩, -⟩ := grid_of k0 kw wpos
          have HKW := Lib.hid kw
          obtain ⟨r, hr⟩ : ∃ r, (k : Int) % W = r := ⟨_, rfl⟩
          obtain ⟨t, ht⟩ : ∃ t, (k : Int) / W = t := ⟨_, rfl⟩
          rw [hr] at m0 m1
          rw [ht] at m2 m3
          have hrT : (k : Int).tmod W = r := by rw [Int.tmod_eq_emod_of_nonneg k0]; exact hr
          have htT : (k : Int).tdiv W = t := by rw [Int.tdiv_eq_ediv_of_nonneg k0]; exact ht
          have ew1 : IntKind.i64.wrap r = r := by rw [IntKind.wrap_i64]; omega
          have ew2 : IntKind.i64.wrap t = t := by rw [IntKind.wrap_i64]; omega
          have wz : ¬ W = 0 := by omega
          obtain ⟨u, hu⟩ : ∃ u, IntKind.i64.wrap (x + r) = u := ⟨_, rfl⟩
          obtain ⟨v, hv⟩ : ∃ v, IntKind.i64.wrap (y + t) = v := ⟨_, rfl⟩
          have hfd : f ((k : Int) % W) ((k : Int) / W) = hasB (bW, bH, l) u v := by rw [HF.out, hr, ht, ← hu, ← hv, IntKind.wrap_i64, IntKind.wrap_i64]; show hasB _ (wrap64 _) (wrap64 _) = _; simp only [wrap64]
          have HFD := Lib.hid hfd
          obtain ⟨dv, hdv⟩ : ∃ d, hasB (bW, bH, l) u v = d := ⟨_, rfl⟩
          have HDV := Lib.hid hdv
          obtain ⟨od, hod⟩ : ∃ od, (fillS W H f (k : Int))[k]? = some od := ⟨_, List.getElem?_eq_getElem (by rw [fillS_len]; omega)⟩
          have HOD := Lib.hid hod
          clear hod hfd hdv hr ht kw
          go_upto_region 8 with (fail)
          refine wp_named ?_
          intro W5 hW
          have n : Nw wk W5 := by rw [hW]; first | exact Ch.refl _ _ | exact (Ch.refl _ _).alloc _
          replace NX := Lib.hid (NX.out.trans n)
          replace HB := Lib.hid (HB.out.kept n nof)
          replace HB0 := Lib.hid (n.heap HB0.out id)
          replace RB := Lib.hid (n.heap RB.out id)
          replace OB := Lib.hid (n.heap OB.out id)
          replace HGK := Lib.hid (n.heap HGK.out id)
          replace HC := Lib.hid (HC.out.trans' n (fun _ _ e => e.elim))
          clear hW n
          refine wp_region_V (F := fun w' => w'.cell? ⟨w5.heap.size, 2, none⟩ = some (.slice (some ⟨g, 0, none⟩) nD nD) ∧ w'.cell? ⟨w.heap.size, 0, none⟩ = some (.int .i64 bW) ∧ w'.cell? ⟨w.heap.size, 1, none⟩ = some (.int .i64 bH) ∧ w'.cell? ⟨w.heap.size, 2, none⟩ = some (.slice A l.length cap)) (opsOf Tryd.f14 8) 17 18 (by kernel_rfl) (by kernel_rfl) (by kernel_rfl) (fun w w' h n => ⟨n.cell h.1 id, n.cell h.2.1 id, n.cell h.2.2.1 id, n.cell h.2.2.2 id⟩) ⟨by show W5.cell? _ = _; rw [cell_of OB.out]; rfl, by show W5.cell? _ = _; rw [cell_of HB0.out]; rfl, by show W5.cell? _ = _; rw [cell_of HB0.out]; rfl, by show W5.cell? _ = _; rw [cell_of HB0.out]; rfl⟩ (fun HOPS HCL hHeld => ?_)
          refine wpU_named ?_
          intro W6 hW
          try rw [← hW] at hHeld
          have n : Nw W5 W6 := by rw [hW]; exact (Ch.refl _ _).drew
          replace NX := Lib.hid (NX.out.trans n)
          replace HB := Lib.hid (HB.out.kept n nof)
          replace HB0 := Lib.hid (n.heap HB0.out id)
          replace RB := Lib.hid (n.heap RB.out id)
          replace OB := Lib.hid (n.heap OB.out id)
          replace HGK := Lib.hid (n.heap HGK.out id)
          replace HC := Lib.hid (HC.out.trans' n (fun _ _ e => e.elim))
          clear hW n
          first | (refine wpU_takeB (i := 0) (v := ?_) HOPS rfl (by kernel_rfl) (fun _ _ _ h => h) HCL (goes_read (by rfl) ?hy) ?_; case hy => (intro w hSw; (try dsimp only at hSw); go_simp; (try with_reducible rfl))) | (refine wpU_takeB (i := 0) (v := _) HOPS rfl (by kernel_rfl) (fun _ _ _ h => h) HCL (goes_not (by rfl)) ?_)
          try simp only [Act.put, List.getElem_toArray, List.getElem_cons_succ, List.getElem_cons_zero, List.setIfInBounds_toArray, List.set_cons_zero, List.set_cons_succ]
          first | (refine wpU_takeB (i := 1) (v := ?_) HOPS rfl (by kernel_rfl) (fun _ _ _ h => h) HCL (goes_read (by rfl) ?hy) ?_; case hy => (intro w hSw; (try dsimp only at hSw); go_simp; (try with_reducible rfl))) | (refine wpU_takeB (i := 1) (v := _) HOPS rfl (by kernel_rfl) (fun _ _ _ h => h) HCL (goes_not (by rfl)) ?_)
          try simp only [Act.put, List.getElem_toArray, List.getElem_cons_succ, List.getElem_cons_zero, List.setIfInBounds_toArray, List.set_cons_zero, List.set_cons_succ]
          first | (refine wpU_takeB (i := 2) (v := ?_) HOPS rfl (by kernel_rfl) (fun _ _ _ h => h) HCL (goes_read (by rfl) ?hy) ?_; case hy => (intro w hSw; (try dsimp only at hSw); go_simp; (try with_reducible rfl))) | (refine wpU_takeB (i := 2) (v := _) HOPS rfl (by kernel_rfl) (fun _ _ _ h => h) HCL (goes_not (by rfl)) ?_)
          try simp only [Act.put, List.getElem_toArray, List.getElem_cons_succ, List.getElem_cons_zero, List.setIfInBounds_toArray, List.set_cons_zero, List.set_cons_succ]
          first | (refine wpU_takeB (i := 3) (v := ?_) HOPS rfl (by kernel_rfl) (fun _ _ _ h => h) HCL (goes_read (by rfl) ?hy) ?_; case hy => (intro w hSw; (try dsimp only at hSw); go_simp; (try with_reducible rfl))) | (refine wpU_takeB (i := 3) (v := _) HOPS rfl (by kernel_rfl) (fun _ _ _ h => h) HCL (goes_not (by rfl)) ?_)
          try simp only [Act.put, List.getElem_toArray, List.getElem_cons_succ, List.getElem_cons_zero, List.setIfInBounds_toArray, List.set_cons_zero, List.set_cons_succ]
          first | (refine wpU_takeB (i := 4) (v := ?_) HOPS rfl (by kernel_rfl) (fun _ _ _ h => h) HCL (goes_read (by rfl) ?hy) ?_; case hy => (intro w hSw; (try dsimp only at hSw); go_simp; (try with_reducible rfl))) | (refine wpU_takeB (i := 4) (v := _) HOPS rfl (by kernel_rfl) (fun _ _ _ h => h) HCL (goes_not (by rfl)) ?_)
          try simp only [Act.put, List.getElem_toArray, List.getElem_cons_succ, List.getElem_cons_zero, List.setIfInBounds_toArray, List.set_cons_zero, List.set_cons_succ]
          first | (refine wpU_takeB (i := 5) (v := ?_) HOPS rfl (by kernel_rfl) (fun _ _ _ h => h) HCL (goes_read (by rfl) ?hy) ?_; case hy => (intro w hSw; (try dsimp only at hSw); go_simp; (try with_reducible rfl))) | (refine wpU_takeB (i := 5) (v := _) HOPS rfl (by kernel_rfl) (fun _ _ _ h => h) HCL (goes_not (by rfl)) ?_)
          try simp only [Act.put, List.getElem_toArray, List.getElem_cons_succ, List.getElem_cons_zero, List.setIfInBounds_toArray, List.set_cons_zero, List.set_cons_succ]
          first | (refine wpU_takeB (i := 6) (v := ?_) HOPS rfl (by kernel_rfl) (fun _ _ _ h => h) HCL (goes_read (by rfl) ?hy) ?_; case hy => (intro w hSw; (try dsimp only at hSw); go_simp; (try with_reducible rfl))) | (refine wpU_takeB (i := 6) (v := _) HOPS rfl (by kernel_rfl) (fun _ _ _ h => h) HCL (goes_not (by rfl)) ?_)
          try simp only [Act.put, List.getElem_toArray, List.getElem_cons_succ, List.getElem_cons_zero, List.setIfInBounds_toArray, List.set_cons_zero, List.set_cons_succ]
          first | (refine wpU_takeB (i := 7) (v := ?_) HOPS rfl (by kernel_rfl) (fun _ _ _ h => h) HCL (goes_read (by rfl) ?hy) ?_; case hy => (intro w hSw; (try dsimp only at hSw); go_simp; (try with_reducible rfl))) | (refine wpU_takeB (i := 7) (v := _) HOPS rfl (by kernel_rfl) (fun _ _ _ h => h) HCL (goes_not (by rfl)) ?_)
          try simp only [Act.put, List.getElem_toArray, List.getElem_cons_succ, List.getElem_cons_zero, List.setIfInBounds_toArray, List.set_cons_zero, List.set_cons_succ]
          first | (refine wpU_takeB (i := 8) (v := ?_) HOPS rfl (by kernel_rfl) (fun _ _ _ h => h) HCL (goes_read (by rfl) ?hy) ?_; case hy => (intro w hSw; (try dsimp only at hSw); go_simp; (try with_reducible rfl))) | (refine wpU_takeB (i := 8) (v := _) HOPS rfl (by kernel_rfl) (fun _ _ _ h => h) HCL (goes_not (by rfl)) ?_)
          try simp only [Act.put, List.getElem_toArray, List.getElem_cons_succ, List.getElem_cons_zero, List.setIfInBounds_toArray, List.set_cons_zero, List.set_cons_succ]
          first | (refine wpU_takeB (i := 9) (v := ?_) HOPS rfl (by kernel_rfl) (fun _ _ _ h => h) HCL (goes_read (by rfl) ?hy) ?_; case hy => (intro w hSw; (try dsimp only at hSw); go_simp; (try with_reducible rfl))) | (refine wpU_takeB (i := 9) (v := _) HOPS rfl (by kernel_rfl) (fun _ _ _ h => h) HCL (goes_not (by rfl)) ?_)
          try simp only [Act.put, List.getElem_toArray, List.getElem_cons_succ, List.getElem_cons_zero, List.setIfInBounds_toArray, List.set_cons_zero, List.set_cons_succ]
          first | (refine wpU_takeB (i := 10) (v := ?_) HOPS rfl (by kernel_rfl) (fun _ _ _ h => h) HCL (goes_read (by rfl) ?hy) ?_; case hy => (intro w hSw; (try dsimp only at hSw); go_simp; (try with_reducible rfl))) | (refine wpU_takeB (i := 10) (v := _) HOPS rfl (by kernel_rfl) (fun _ _ _ h => h) HCL (goes_not (by rfl)) ?_)
          try simp only [Act.put, List.getElem_toArray, List.getElem_cons_succ, List.getElem_cons_zero, List.setIfInBounds_toArray, List.set_cons_zero, List.set_cons_succ]
          first | (refine wpU_takeB (i := 11) (v := ?_) HOPS rfl (by kernel_rfl) (fun _ _ _ h => h) HCL (goes_read (by rfl) ?hy) ?_; case hy => (intro w hSw; (try dsimp only at hSw); go_simp; (try with_reducible rfl))) | (refine wpU_takeB (i := 11) (v := _) HOPS rfl (by kernel_rfl) (fun _ _ _ h => h) HCL (goes_not (by rfl)) ?_)
          try simp only [Act.put, List.getElem_toArray, List.getElem_cons_succ, List.getElem_cons_zero, List.setIfInBounds_toArray, List.set_cons_zero, List.set_cons_succ]
          first | (refine wpU_takeB (i := 12) (v := ?_) HOPS rfl (by kernel_rfl) (fun _ _ _ h => h) HCL (goes_read (by rfl) ?hy) ?_; case hy => (intro w hSw; (try dsimp only at hSw); go_simp; (try with_reducible rfl))) | (refine wpU_takeB (i := 12) (v := _) HOPS rfl (by kernel_rfl) (fun _ _ _ h => h) HCL (goes_not (by rfl)) ?_)
          try simp only [Act.put, List.getElem_toArray, List.getElem_cons_succ, List.getElem_cons_zero, List.setIfInBounds_toArray, List.set_cons_zero, List.set_cons_succ]
          first | (refine wpU_takeB (i := 13) (v := ?_) HOPS rfl (by kernel_rfl) (fun _ _ _ h => h) HCL (goes_read (by rfl) ?hy) ?_; case hy => (intro w hSw; (try dsimp only at hSw); go_simp; (try with_reducible rfl))) | (refine wpU_takeB (i := 13) (v := _) HOPS rfl (by kernel_rfl) (fun _ _ _ h => h) HCL (goes_not (by rfl)) ?_)
          try simp only [Act.put, List.getElem_toArray, List.getElem_cons_succ, List.getElem_cons_zero, List.setIfInBounds_toArray, List.set_cons_zero, List.set_cons_succ]
          first | (refine wpU_takeB (i := 14) (v := ?_) HOPS rfl (by kernel_rfl) (fun _ _ _ h => h) HCL (goes_read (by rfl) ?hy) ?_; case hy => (intro w hSw; (try dsimp only at hSw); go_simp; (try with_reducible rfl))) | (refine wpU_takeB (i := 14) (v := _) HOPS rfl (by kernel_rfl) (fun _ _ _ h => h) HCL (goes_not (by rfl)) ?_)
          try simp only [Act.put, List.getElem_toArray, List.getElem_cons_succ, List.getElem_cons_zero, List.setIfInBounds_toArray, List.set_cons_zero, List.set_cons_succ]
          refine wpU_takeB (i := 15) HOPS rfl (by kernel_rfl) (fun _ _ _ h => h) HCL (goes_fn (v := (.bool dv)) 37 _ _ _ #[(.agg #[.int .i64 bW, .int .i64 bH, .slice A l.length cap]), .agg #[.int .i64 u, .int .i64 v]] (by rfl) rfl (by kernel_rfl) (by kernel_rfl) (by kernel_rfl) (fun wq n R hR => ?_)) ?_
          · exact has_any _ _ (bW, bH, l) _ _ _ _ (HB.out.kept n nof) HE.out (by rw [HDV.out]; exact hR)
          try simp only [Act.put, List.getElem_toArray, List.getElem_cons_succ, List.getElem_cons_zero, List.setIfInBounds_toArray, List.set_cons_zero, List.set_cons_succ]
          first | (refine wpU_takeB (i := 16) (v := ?_) HOPS rfl (by kernel_rfl) (fun _ _ _ h => h) HCL (goes_read (by rfl) ?hy) ?_; case hy => (intro w hSw; (try dsimp only at hSw); go_simp; (try with_reducible rfl))) | (refine wpU_takeB (i := 16) (v := _) HOPS rfl (by kernel_rfl) (fun _ _ _ h => h) HCL (goes_not (by rfl)) ?_)
          try simp only [Act.put, List.getElem_toArray, List.getElem_cons_succ, List.getElem_cons_zero, List.setIfInBounds_toArray, List.set_cons_zero, List.set_cons_succ]
          refine wpU_ready (rs := [17]) (by kernel_rfl) (by simp) ?_
          intro w7 hle
          obtain ⟨n, hHeld⟩ := hle.ahead (by kernel_rfl)
          clear hle
          replace NX := Lib.hid (NX.out.trans n)
          replace HB := Lib.hid (HB.out.kept n nof)
          replace HB0 := Lib.hid (n.heap HB0.out id)
          replace RB := Lib.hid (n.heap RB.out id)
          replace OB := Lib.hid (n.heap OB.out id)
          replace HGK := Lib.hid (n.heap HGK.out id)
          replace HC := Lib.hid (HC.out.trans' n (fun _ _ e => e.elim))
          clear n
          refine ReadyU.last HOPS rfl (by rfl) (by kernel_rfl) (fun K hK => ?_) ReadyU.nil
          have gc : w7.cell? ⟨g, k, none⟩ = some (.bool od) := by rw [cell_of HGK.out]; exact boolC_get HOD.out
          have gf : w7.frozen? ⟨g, k, none⟩ = false := frozen_of HGK.out
          go_simp
          refine hK.out _ _ ?_
          clear hK K
          try simp only [Act.put, List.getElem_toArray, List.getElem_cons_succ, List.getElem_cons_zero, List.setIfInBounds_toArray, List.set_cons_zero, List.set_cons_succ]
          refine wpU_done (by kernel_rfl) (fun w8 hle => ?_) _
          rw [hle.behind (by kernel_rfl)]
          clear HOPS HCL hle
          repeat clear hHeld
          go_wp2_with (fail)
          refine ⟨⟨k + 1, by go_num, by omega, Lib.hid ?_, Lib.hid (HC.out.setb (fun _ => rfl) _)⟩, ?_⟩
          · rw [Int.natCast_add, Int.natCast_one, fillS_at w0 HKW.out, HFD.out, HDV.out, ← boolC_set]; exact heap_setCell_eq _ HGK.out
          · simp [intOf]; omega
        · obtain rfl : k = nD := by omega
          have hcr : cropM (bW, bH, l) x y W H = ((W, H, fillS W H f (k : Int)), 0) := by unfold cropM; rw [if_pos HE.out, if_pos ⟨sideOk_iff.2 ⟨w0, w1'⟩, sideOk_iff.2 ⟨h0', h1'⟩⟩, fillS_all f w0 (by have := HNN.out; omega), HF.out]
          have HCR := Lib.hid hcr
          clear hcr
          have r0 : wk.cell? ⟨w.heap.size + 1, 0, none⟩ = some (.int .i64 0) := by rw [cell_of RB.out]; rfl
          have r1 : wk.cell? ⟨w.heap.size + 1, 1, none⟩ = some (.int .i64 0) := by rw [cell_of RB.out]; rfl
          have r2 : wk.cell? ⟨w.heap.size + 1, 2, none⟩ = some (.slice none 0 0) := by rw [cell_of RB.out]; rfl
          have q0 : wk.frozen? ⟨w.heap.size + 1, 0, none⟩ = false := frozen_of RB.out
          have q1 : wk.frozen? ⟨w.heap.size + 1, 1, none⟩ = false := frozen_of RB.out
          have q2 : wk.frozen? ⟨w.heap.size + 1, 2, none⟩ = false := frozen_of RB.out
          have kOB0 : wk.cell? ⟨w5.heap.size, 0, none⟩ = some (.int .i64 W) := by rw [cell_of OB.out]; rfl
          have kOB1 : wk.cell? ⟨w5.heap.size, 1, none⟩ = some (.int .i64 H) := by rw [cell_of OB.out]; rfl
          have kOB2 : wk.cell? ⟨w5.heap.size, 2, none⟩ = some (.slice (some ⟨g, 0, none⟩) k k) := by rw [cell_of OB.out]; rfl
          go_wp2
          refine bodyPost_ret (v := .tuple #[.agg #[.int .i64 W, .int .i64 H, .slice (some ⟨g, 0, none⟩) k k], .int .i64 0]) (by simp [results, Tryd.results14, go_sem, r0, r1, r2]) rfl ?_
          have h0 := fun W' => HR.out W' (.agg #[.int .i64 W, .int .i64 H, .slice (some ⟨g, 0, none⟩) k k])
          rw [HCR.out] at h0
          refine h0 _ ?_ (((NX.out.setb (fun h => by omega) _).setb (fun h => by omega) _).setb (fun h => by omega) _)
          have hb9 := Ch.heap ((((Ch.refl (· = w.heap.size + 1) wk).setb (b := w.heap.size + 1) (o := 0) (fun _ => rfl) (.int .i64 W)).setb (b := w.heap.size + 1) (o := 1) (fun _ => rfl) (.int .i64 H)).setb (b := w.heap.size + 1) (o := 2) (fun _ => rfl) (.slice (some ⟨g, 0, none⟩) k k)) HGK.out (by show g ≠ w.heap.size + 1; omega)
          have hpl : (fillS W H f (k : Int)).length = k := by rw [fillS_len]; have := HNN.out; omega
          have hi := isBools_block (cap := k) hb9 (lt_of_heap hb9) ⟨by rw [hpl]; exact Nat.le_refl _, by rw [hpl]; omega⟩
          rw [hpl] at hi
          exact ⟨_, rfl, hi, by unfold wfI; simp only; omega, by unfold wfI; simp only; omega⟩
    · have NO := Lib.hid (show cropM (bW, bH, l) x y W H = (zeroB, 13) from by unfold cropM; rw [if_pos HE.out, if_neg (fun h => hS ⟨sideOk_iff.1 h.1, sideOk_iff.1 h.2⟩)])
      go_enter Tryd.func14, Tryd.ntmps14
      go_wp2_with (fail)
      refine Calls_nm ?_
      intro W9 hW
      have n : Nw w W9 := by rw [hW]; exact ((Ch.refl _ _).alloc _).alloc _
      replace NX := Lib.hid (NX.out.trans n)
      replace HB := Lib.hid (HB.out.kept n nof)
      have HB0 := Lib.hid (show W9.heap[w.heap.size]? = some (.cells #[.int .i64 bW, .int .i64 bH, .slice A l.length cap] 28 (0, 0)) from by rw [hW]; exact heap_alloc_old' _ (heap_alloc_eq _ rfl))
      have RB := Lib.hid (show W9.heap[w.heap.size + 1]? = some (.cells #[.int .i64 0, .int .i64 0, .slice none 0 0] 28 (0, 0)) from by rw [hW]; exact heap_alloc_eq _ (by simp only [alloc_size]))
      clear hW n
      refine bmCheck_ok w.heap.size _ (bW, bH, l) _ _ HB.out HE.out ?_
      intro w10 n
      replace NX := Lib.hid (NX.out.trans n)
      replace HB := Lib.hid (HB.out.kept n nof)
      replace HB0 := Lib.hid (n.heap HB0.out id)
      replace RB := Lib.hid (n.heap RB.out id)
      clear n
      go_wp2_with (fail)
      refine Calls_nm ?_
      intro W11 hW
      have n : Nw w10 W11 := by rw [hW]; first | exact Ch.refl _ _ | exact (Ch.refl _ _).alloc _ | exact ((Ch.refl _ _).alloc _).alloc _
      replace NX := Lib.hid (NX.out.trans n)
      replace HB := Lib.hid (HB.out.kept n nof)
      replace HB0 := Lib.hid (n.heap HB0.out id)
      replace RB := Lib.hid (n.heap RB.out id)
      clear hW n
      refine bNew_bad W H _ _ hS HWf.out HHf.out ?_
      intro w5 n
      replace NX := Lib.hid (NX.out.trans n)
      replace HB := Lib.hid (HB.out.kept n nof)
      replace HB0 := Lib.hid (n.heap HB0.out id)
      replace RB := Lib.hid (n.heap RB.out id)
      clear n
      have Sx := lt_of_heap RB.out
      go_wp2_with (fail)
      refine wp_named ?_
      intro W12 hW
      have n : Nw w5 W12 := by rw [hW]; exact (Ch.refl _ _).alloc _
      replace NX := Lib.hid (NX.out.trans n)
      replace HB := Lib.hid (HB.out.kept n nof)
      replace HB0 := Lib.hid (n.heap HB0.out id)
      replace RB := Lib.hid (n.heap RB.out id)
      have OB := Lib.hid (show W12.heap[w5.heap.size]? = some (.cells #[.int .i64 0, .int .i64 0, .slice none 0 0] 28 (0, 0)) from by rw [hW]; exact heap_alloc_eq _ rfl)
      clear hW n
      have kOB0 : W12.cell? ⟨w5.heap.size, 0, none⟩ = some (.int .i64 0) := by rw [cell_of OB.out]; rfl
      have kOB1 : W12.cell? ⟨w5.heap.size, 1, none⟩ = some (.int .i64 0) := by rw [cell_of OB.out]; rfl
      have kOB2 : W12.cell? ⟨w5.heap.size, 2, none⟩ = some (.slice none 0 0) := by rw [cell_of OB.out]; rfl
      have r0 : W12.cell? ⟨w.heap.size + 1, 0, none⟩ = some (.int .i64 0) := by rw [cell_of RB.out]; rfl
      have r1 : W12.cell? ⟨w.heap.size + 1, 1, none⟩ = some (.int .i64 0) := by rw [cell_of RB.out]; rfl
      have r2 : W12.cell? ⟨w.heap.size + 1, 2, none⟩ = some (.slice none 0 0) := by rw [cell_of RB.out]; rfl
      have q0 : W12.frozen? ⟨w.heap.size + 1, 0, none⟩ = false := frozen_of RB.out
      have q1 : W12.frozen? ⟨w.heap.size + 1, 1, none⟩ = false := frozen_of RB.out
      have q2 : W12.frozen? ⟨w.heap.size + 1, 2, none⟩ = false := frozen_of RB.out
      go_loopw [15, 31] (fun _ s31 wr => s31 = .int .i64 0 ∧ wr = W12) (fun _ _ _ => 0)
      case atStart => exact ⟨rfl, rfl⟩
      case round =>
        obtain ⟨rfl, rfl⟩ := hrel
        go_wp2
        refine bodyPost_ret (v := .tuple #[.agg #[.int .i64 0, .int .i64 0, .slice none 0 0], .int .i64 13]) (by simp [results, Tryd.results14, go_sem, r0, r1, r2]) rfl ?_
        have h0 := fun W' => HR.out W' (.agg #[.int .i64 0, .int .i64 0, .slice none 0 0])
        rw [NO.out] at h0
        exact h0 _ (isBm_zero _ _) (((NX.out.setb (fun h => by omega) _).setb (fun h => by omega) _).setb (fun h => by omega) _)
  · obtain ⟨e, he, he2⟩ : ∃ e, bmE (bW, bH, l) = e ∧ (e = 5 ∨ e = 13) := ⟨_, rfl, (bmE_in _).resolve_left hE⟩
    have HEE := Lib.hid he
    have NO := Lib.hid (show cropM (bW, bH, l) x y W H = (zeroB, e) from by unfold cropM; rw [if_neg hE, he])
    clear he hE
    rcases he2 with rfl | rfl
    · go_enter Tryd.func14, Tryd.ntmps14
      go_wp2_with (fail)
      refine Calls_nm ?_
      intro W13 hW
      have n : Nw w W13 := by rw [hW]; exact ((Ch.refl _ _).alloc _).alloc _
      replace NX := Lib.hid (NX.out.trans n)
      replace HB := Lib.hid (HB.out.kept n nof)
      have HB0 := Lib.hid (show W13.heap[w.heap.size]? = some (.cells #[.int .i64 bW, .int .i64 bH, .slice A l.length cap] 28 (0, 0)) from by rw [hW]; exact heap_alloc_old' _ (heap_alloc_eq _ rfl))
      have RB := Lib.hid (show W13.heap[w.heap.size + 1]? = some (.cells #[.int .i64 0, .int .i64 0, .slice none 0 0] 28 (0, 0)) from by rw [hW]; exact heap_alloc_eq _ (by simp only [alloc_size]))
      clear hW n
      refine bmCheck_any w.heap.size _ (bW, bH, l) _ _ HB.out ?_
      rw [HEE.out]
      intro w14 n
      replace NX := Lib.hid (NX.out.trans n)
      replace HB := Lib.hid (HB.out.kept n nof)
      replace HB0 := Lib.hid (n.heap HB0.out id)
      replace RB := Lib.hid (n.heap RB.out id)
      clear n
      have Sx := lt_of_heap RB.out
      have r0 : w14.cell? ⟨w.heap.size + 1, 0, none⟩ = some (.int .i64 0) := by rw [cell_of RB.out]; rfl
      have r1 : w14.cell? ⟨w.heap.size + 1, 1, none⟩ = some (.int .i64 0) := by rw [cell_of RB.out]; rfl
      have r2 : w14.cell? ⟨w.heap.size + 1, 2, none⟩ = some (.slice none 0 0) := by rw [cell_of RB.out]; rfl
      have q0 : w14.frozen? ⟨w.heap.size + 1, 0, none⟩ = false := frozen_of RB.out
      have q1 : w14.frozen? ⟨w.heap.size + 1, 1, none⟩ = false := frozen_of RB.out
      have q2 : w14.frozen? ⟨w.heap.size + 1, 2, none⟩ = false := frozen_of RB.out
      go_wp2
      refine bodyPost_ret (v := .tuple #[.agg #[.int .i64 0, .int .i64 0, .slice none 0 0], .int .i64 5]) (by simp [results, Tryd.results14, go_sem, r0, r1, r2]) rfl ?_
      have h0 := fun W' => HR.out W' (.agg #[.int .i64 0, .int .i64 0, .slice none 0 0])
      rw [NO.out] at h0
      exact h0 _ (isBm_zero _ _) (((NX.out.setb (fun h => by omega) _).setb (fun h => by omega) _).setb (fun h => by omega) _)
    · go_enter Tryd.func14, Tryd.ntmps14
      go_wp2_with (fail)
      refine Calls_nm ?_
      intro W15 hW
      have n : Nw w W15 := by rw [hW]; exact ((Ch.refl _ _).alloc _).alloc _
      replace NX := Lib.hid (NX.out.trans n)
      replace HB := Lib.hid (HB.out.kept n nof)
      have HB0 := Lib.hid (show W15.heap[w.heap.size]? = some (.cells #[.int .i64 bW, .int .i64 bH, .slice A l.length cap] 28 (0, 0)) from by rw [hW]; exact heap_alloc_old' _ (heap_alloc_eq _ rfl))
      have RB := Lib.hid (show W15.heap[w.heap.size + 1]? = some (.cells #[.int .i64 0, .int .i64 0, .slice none 0 0] 28 (0, 0)) from by rw [hW]; exact heap_alloc_eq _ (by simp only [alloc_size]))
      clear hW n
      refine bmCheck_any w.heap.size _ (bW, bH, l) _ _ HB.out ?_
      rw [HEE.out]
      intro w16 n
      replace NX := Lib.hid (NX.out.trans n)
      replace HB := Lib.hid (HB.out.kept n nof)
      replace HB0 := Lib.hid (n.heap HB0.out id)
      replace RB := Lib.hid (n.heap RB.out id)
      clear n
      have Sx := lt_of_heap RB.out
      have r0 : w16.cell? ⟨w.heap.size + 1, 0, none⟩ = some (.int .i64 0) := by rw [cell_of RB.out]; rfl
      have r1 : w16.cell? ⟨w.heap.size + 1, 1, none⟩ = some (.int .i64 0) := by rw [cell_of RB.out]; rfl
      have r2 : w16.cell? ⟨w.heap.size + 1, 2, none⟩ = some (.slice none 0 0) := by rw [cell_of RB.out]; rfl
      have q0 : w16.frozen? ⟨w.heap.size + 1, 0, none⟩ = false := frozen_of RB.out
      have q1 : w16.frozen? ⟨w.heap.size + 1, 1, none⟩ = false := frozen_of RB.out
      have q2 : w16.frozen? ⟨w.heap.size + 1, 2, none⟩ = false := frozen_of RB.out
      go_wp2
      refine bodyPost_ret (v := .tuple #[.agg #[.int .i64 0, .int .i64 0, .slice none 0 0], .int .i64 13]) (by simp [results, Tryd.results14, go_sem, r0, r1, r2]) rfl ?_
      have h0 := fun W' => HR.out W' (.agg #[.int .i64 0, .int .i64 0, .slice none 0 0])
      rw [NO.out] at h0
      exact h0 _ (isBm_zero _ _) (((NX.out.setb (fun h => by omega) _).setb (fun h => by omega) _).setb (fun h => by omega) _)
end Go.Proofs.YtaafmgkjfmngjaaDoor
