/-
  indelibleref04.New and Made: a blank bitmap; a bitmap that numbers make (whatever its dots).
-/
import Derived.Test.YtaafmgkjfmngjaaDoorRow
namespace Go.Proofs.YtaafmgkjfmngjaaDoor
open Go.RowKit
set_option linter.unusedVariables false
set_option linter.unusedSimpArgs false
set_option maxRecDepth 100000

def boolC (l : List Bool) : Array Value := (l.map Value.bool).toArray
theorem boolC_get {l : List Bool} {i : Nat} {x : Bool} (h : l[i]? = some x) : (boolC l)[i]? = some (.bool x) := by simp [boolC, h]
theorem boolC_set (l : List Bool) (i : Nat) (x : Bool) : (boolC l).setIfInBounds i (.bool x) = boolC (l.set i x) := by simp [boolC]
theorem isBools_block {w : World} {lo b : Nat} {l : List Bool} {cap : Nat} {T : TypeId} {f : Nat × Nat} (hb : w.heap[b]? = some (.cells (boolC l) T f)) (hlo : b < lo) (hl : l.length ≤ cap ∧ l.length ≤ 9223372036854775807) : IsBools w lo (.slice (some ⟨b, 0, none⟩) l.length cap) l :=
  ⟨_, cap, rfl, hl, fun i x hi => ⟨b, 0, hlo, rfl, by rw [Nat.zero_add, cell_of hb]; exact boolC_get hi⟩⟩
theorem info_bool : (Tryd.prog.info? 4).map (fun i => (i.zero, i.size, i.bytes)) = some (some (.bool false), 1, 1) := by kernel_rfl
theorem made_bools (n : Nat) : madeCells (Value.bool false).cells (n * 1) = boolC (List.replicate n false) := by
  rw [Nat.mul_one]
  apply Array.ext
  · simp [boolC, size_madeCells]
  · intro i h1 h2
    simp [madeCells, boolC, Value.cells, Nat.mod_one]
theorem make_bools (n : Nat) (hn : n ≤ 1000000) (w : World) :
    (Instr.makeSlice 26 (.int .i64 (n : Int)) (.int .i64 (n : Int))).run Tryd.prog w = .ok (.slice (some ⟨w.heap.size, 0, none⟩) n n) (w.alloc (.cells (boolC (List.replicate n false)) 4)) := by
  obtain ⟨i, hi, hz, hs, hb⟩ := info_parts info_bool
  have hr := run_make (P := Tryd.prog) w 26 4 i _ Tryd.underlying26 hi hz .i64 .i64 n n (by omega) (by omega) (by rw [hb]; omega) (by omega)
  simp only [Int.toNat_natCast, hs, made_bools] at hr
  exact hr

theorem rNew_ok (W H : Int) (n : Nat) (w : World) (R : Ending → World → Prop) (hW : 0 ≤ W ∧ W ≤ 96) (hH : 0 ≤ H ∧ H ≤ 96) (hn : (n : Int) = W * H)
    (hR : ∀ w' g, w'.heap[g]? = some (.cells (boolC (List.replicate n false)) 4 (0, 0)) → w.heap.size ≤ g → Nw w w' → R (.returned (.tuple #[.agg #[.int .i64 W, .int .i64 H, .slice (some ⟨g, 0, none⟩) n n], .int .i64 0])) w') : Calls Tryd.prog 28 #[.int .i64 W, .int .i64 H] w R := by
  have HR := Lib.hid hR
  clear hR
  obtain ⟨h1, h2⟩ := hW
  obtain ⟨h3, h4⟩ := hH
  have hm := mul96 (a := W) (b := H) ⟨h1, by omega⟩ ⟨h3, by omega⟩
  have hmk := make_bools n (by omega)
  have eN : W * H = (n : Int) := hn.symm
  clear hn
  go_enter Tryd.func28, Tryd.ntmps28
  go_wp2
  refine bodyPost_ret (v := .tuple #[.agg #[.int .i64 W, .int .i64 H, .slice (some ⟨w.heap.size + 1, 0, none⟩) n n], .int .i64 0]) (by simp [results, Tryd.results28, go_sem]) rfl ?_
  refine HR.out _ _ (heap_alloc_eq _ (by simp)) (by omega) ?_
  first
  | exact ((Ch.refl (fun _ => False) w).alloc _).alloc _
  | exact (((((Ch.refl (fun _ => False) w).alloc _).alloc _).setb (fun h => by omega) _).setb (fun h => by omega) _).setb (fun h => by omega) _


/-! ### What Made makes, in plain words -/
/-- One column of a rectangle, from row j on. -/
def colM (W H : Int) (lim : Int) (on : Bool) (i : Int) : Nat → Int → List Bool → List Bool
  | 0, _, ds => ds
  | n + 1, j, ds => if j < H ∧ j ≤ lim then colM W H lim on i n (j + 1) (ds.set (j * W + i).toNat on) else ds
/-- A rectangle, from column i on. -/
def rectM (W H : Int) (Y limX limY : Int) (on : Bool) : Nat → Int → List Bool → List Bool
  | 0, _, ds => ds
  | n + 1, i, ds => if i < W ∧ i ≤ limX then rectM W H Y limX limY on n (i + 1) (colM W H limY on i (H - Y).toNat Y ds) else ds
/-- The rectangles, as long as there are numbers. -/
def madeD (l : List Int) (W H : Int) (n : Nat) : Nat → Nat → List Bool → List Bool
  | 0, _, ds => ds
  | f + 1, kk, ds => if kk < l.length ∧ 0 < n then
      madeD l W H n f (nk l (nk l (nk l (nk l kk)))) (rectM W H (nx l (nk l kk) H) (nx l kk W + nx l (nk l (nk l kk)) 16 % 4) (nx l (nk l kk) H + nx l (nk l (nk l kk)) 16 / 4) (decide (0 < nx l (nk l (nk l (nk l kk))) 4)) (W - nx l kk W).toNat (nx l kk W) ds)
    else ds
def made4B (l : List Int) : Bm := (nx l 0 17, nx l (nk l 0) 13, madeD l (nx l 0 17) (nx l (nk l 0) 13) (nx l 0 17 * nx l (nk l 0) 13).toNat 12 (nk l (nk l 0)) (List.replicate (nx l 0 17 * nx l (nk l 0) 13).toNat false))
theorem colM_go {W H lim : Int} {on : Bool} {i j : Int} {ds D : List Bool} (h : colM W H lim on i (H - j).toNat j ds = D) (hj : j < H ∧ j ≤ lim) : colM W H lim on i (H - (j + 1)).toNat (j + 1) (ds.set (j * W + i).toNat on) = D := by
  rw [show (H - j).toNat = (H - (j + 1)).toNat + 1 by omega, colM, if_pos hj] at h
  exact h
theorem colM_end {W H lim : Int} {on : Bool} {i j : Int} {ds D : List Bool} (h : colM W H lim on i (H - j).toNat j ds = D) (hj : ¬ (j < H ∧ j ≤ lim)) : ds = D := by
  obtain ⟨n, hn⟩ : ∃ n, (H - j).toNat = n := ⟨_, rfl⟩
  rw [hn] at h
  cases n with
  | zero => exact h
  | succ n => rw [colM, if_neg hj] at h; exact h
theorem rectM_go {W H Y lx ly : Int} {on : Bool} {i : Int} {ds D : List Bool} (h : rectM W H Y lx ly on (W - i).toNat i ds = D) (hi : i < W ∧ i ≤ lx) : rectM W H Y lx ly on (W - (i + 1)).toNat (i + 1) (colM W H ly on i (H - Y).toNat Y ds) = D := by
  rw [show (W - i).toNat = (W - (i + 1)).toNat + 1 by omega, rectM, if_pos hi] at h
  exact h
theorem rectM_end {W H Y lx ly : Int} {on : Bool} {i : Int} {ds D : List Bool} (h : rectM W H Y lx ly on (W - i).toNat i ds = D) (hi : ¬ (i < W ∧ i ≤ lx)) : ds = D := by
  obtain ⟨n, hn⟩ : ∃ n, (W - i).toNat = n := ⟨_, rfl⟩
  rw [hn] at h
  cases n with
  | zero => exact h
  | succ n => rw [rectM, if_neg hi] at h; exact h
theorem madeD_go {l : List Int} {W H : Int} {n k kk : Nat} {ds D : List Bool} (h : madeD l W H n (12 - k) kk ds = D) (hk : k < 12) (hkk : kk < l.length ∧ 0 < n) :
    madeD l W H n (12 - (k + 1)) (nk l (nk l (nk l (nk l kk)))) (rectM W H (nx l (nk l kk) H) (nx l kk W + nx l (nk l (nk l kk)) 16 % 4) (nx l (nk l kk) H + nx l (nk l (nk l kk)) 16 / 4) (decide (0 < nx l (nk l (nk l (nk l kk))) 4)) (W - nx l kk W).toNat (nx l kk W) ds) = D := by
  rw [show 12 - k = (12 - (k + 1)) + 1 by omega, madeD, if_pos hkk] at h
  exact h
theorem madeD_end {l : List Int} {W H : Int} {n k kk : Nat} {ds D : List Bool} (h : madeD l W H n (12 - k) kk ds = D) (hk : ¬ k < 12 ∨ (k < 12 ∧ ¬ kk < l.length) ∨ (k < 12 ∧ kk < l.length ∧ ¬ 0 < n)) : ds = D := by
  obtain ⟨f, hf⟩ : ∃ f, 12 - k = f := ⟨_, rfl⟩
  rw [hf] at h
  cases f with
  | zero => exact h
  | succ f => rw [madeD, if_neg (by omega)] at h; exact h

set_option maxHeartbeats 8000000 in
/-- Whatever the numbers: a bitmap without an error, of at most 16 by 12 dots. -/
theorem rMade4_det (lo : Nat) (v : Value) (l : List Int) (w : World) (R : Ending → World → Prop) (h : IsInts w lo v l) (hlo : lo ≤ w.heap.size)
    (hR : ∀ w' v' b, IsBm w' w'.heap.size v' b → bmE b = 0 → b.1 ≤ 16 → b.2.1 ≤ 12 → Nw w w' → (∃ A n, v' = .agg #[.int .i64 b.1, .int .i64 b.2.1, .slice (some A) n n]) → b = made4B l → R (.returned v') w') : Calls Tryd.prog 18 #[v] w R := by
  have HR := Lib.hid hR
  clear hR
  have HI := Lib.hid h
  obtain ⟨A0, cap0, rfl, ⟨hlc, hl⟩, -⟩ := h
  go_enter Tryd.func18, Tryd.ntmps18
  have D0 : DS ((w.alloc (.cells #[.int .i64 0, .int .i64 0, .slice none 0 0] 28)).alloc (.cells #[.slice A0 l.length cap0, .int .i64 0] 73)) lo (w.heap.size + 1) (.slice A0 l.length cap0) l 0 :=
    ⟨heap_alloc_eq _ (by simp only [alloc_size]), HI.out.kept (((Ch.refl (fun _ => False) w).alloc _).alloc _) nof, Nat.zero_le _, by omega⟩
  have HD0 := Lib.hid D0
  clear D0
  obtain ⟨W, hWe⟩ : ∃ W, nx l 0 17 = W := ⟨_, rfl⟩
  obtain ⟨H, hHe⟩ : ∃ H, nx l (nk l 0) 13 = H := ⟨_, rfl⟩
  obtain ⟨w0, w16⟩ := nx_in l 0 17 (by omega)
  obtain ⟨h0, h12⟩ := nx_in l (nk l 0) 13 (by omega)
  rw [hWe] at w0 w16
  rw [hHe] at h0 h12
  have HWe := Lib.hid hWe
  have HHe := Lib.hid hHe
  clear hWe hHe
  obtain ⟨n, hn⟩ : ∃ n : Nat, (n : Int) = W * H := ⟨(W * H).toNat, by have := Int.mul_nonneg w0 h0; omega⟩
  have hn200 : n ≤ 192 := by
    have : W * H ≤ 16 * 12 := Int.mul_le_mul (by omega) (by omega) h0 (by omega)
    omega
  have HNN := Lib.hid hn
  clear hn
  have HC0 := Lib.hid (show Nw w ((w.alloc (.cells #[.int .i64 0, .int .i64 0, .slice none 0 0] 28)).alloc (.cells #[.slice A0 l.length cap0, .int .i64 0] 73)) from ((Ch.refl _ _).alloc _).alloc _)
  go_wp2_with (go_at_call 40; fail)
  refine Next_any lo (w.heap.size + 1) _ l 0 17 _ _ HD0.out (by omega) (by omega) ?_
  intro w1 d1 c1
  rw [HWe.out]
  have D1 := Lib.hid d1
  have RB1 := Lib.hid (show w1.heap[w.heap.size]? = some (.cells #[.int .i64 0, .int .i64 0, .slice none 0 0] 28 (0, 0)) from c1.heap (heap_alloc_old' _ (heap_alloc_eq _ rfl)) (by show w.heap.size ≠ _; omega))
  have C1 := Lib.hid (HC0.out.trans' c1 (fun j hj e => by have e' : j = w.heap.size + 1 := e; omega))
  clear d1 c1
  go_wp2_with (go_at_call 40; fail)
  refine Next_any lo (w.heap.size + 1) _ l (nk l 0) 13 _ _ D1.out (by omega) (by omega) ?_
  intro w2 d2 c2
  rw [HHe.out]
  have D2 := Lib.hid d2
  have RB2 := Lib.hid (c2.heap RB1.out (by show w.heap.size ≠ _; omega))
  have C2 := Lib.hid (C1.out.trans' c2 (fun j hj e => by have e' : j = w.heap.size + 1 := e; omega))
  clear d2 c2
  have db2 : w.heap.size + 1 < w2.heap.size := lt_of_heap D2.out.blk
  go_wp2_with (go_at_call 28; refine rNew_ok W H n _ _ ⟨w0, by omega⟩ ⟨h0, by omega⟩ HNN.out ?_; intro w3 g hg hgb n3; (have HG3 := Lib.hid hg); (have D3 := Lib.hid (D2.out.kept n3 (fun _ _ e => e))); (have RB3 := Lib.hid (n3.heap RB2.out id)); (have C3 := Lib.hid (C2.out.trans n3)); (have gl : g < w3.heap.size := lt_of_heap hg); (have g2 : w2.heap.size ≤ g := hgb); (have s3 := n3.size); clear hg hgb n3)
  refine wp_named ?_
  intro W4 hW
  have OB := Lib.hid (show W4.heap[w3.heap.size]? = some (.cells #[.int .i64 W, .int .i64 H, .slice (some ⟨g, 0, none⟩) n n] 28 (0, 0)) from by rw [hW]; exact heap_alloc_eq _ rfl)
  have HG := Lib.hid (show W4.heap[g]? = some (.cells (boolC (List.replicate n false)) 4 (0, 0)) from by rw [hW]; exact heap_alloc_old' _ HG3.out)
  have D4 := Lib.hid (show DS W4 lo (w.heap.size + 1) (.slice A0 l.length cap0) l (nk l (nk l 0)) from by rw [hW]; exact D3.out.kept ((Ch.refl (fun _ => False) w3).alloc _) (fun _ _ e => e))
  have RB := Lib.hid (show W4.heap[w.heap.size]? = some (.cells #[.int .i64 0, .int .i64 0, .slice none 0 0] 28 (0, 0)) from by rw [hW]; exact heap_alloc_old' _ RB3.out)
  have C4 := Lib.hid (show Nw w W4 from by rw [hW]; exact C3.out.alloc _)
  clear hW HD0 D1 D2 D3 RB1 RB2 RB3 HG3 C1 C2 C3 HC0
  obtain ⟨RES, hRES⟩ : ∃ D, madeD l W H n (12 - 0) (nk l (nk l 0)) (List.replicate n false) = D := ⟨_, rfl⟩
  have HRES := Lib.hid hRES
  clear hRES
  go_loopw [6, 7, 8, 9, 10, 11, 12] (fun s6 _ _ _ _ _ _ wr => ∃ (k kk : Nat) (ds : List Bool), s6 = .int .i64 k ∧ k ≤ 12 ∧ Hid (madeD l W H n (12 - k) kk ds = RES) ∧ Hid (ds.length = n) ∧ Hid (DS wr lo (w.heap.size + 1) (.slice A0 l.length cap0) l kk) ∧ Hid (wr.heap[g]? = some (.cells (boolC ds) 4 (0, 0))) ∧ Hid (Ch (fun j => j = w.heap.size + 1 ∨ j = g) W4 wr)) (fun s6 _ _ _ _ _ _ _ => 12 - (intOf s6).toNat)
  case atStart => exact ⟨0, _, _, rfl, by omega, HRES, Lib.hid (by simp), D4, HG, Lib.hid (Ch.refl _ _)⟩
  case round =>
    obtain ⟨k, kk, ds, rfl, hk, HM, HL, HD, HGR, HC⟩ := hrel
    have k0 : (0 : Int) ≤ (k : Int) := by omega
    have OBR := Lib.hid (HC.out.heap OB.out (by rintro (e | e) <;> omega))
    have RBR := Lib.hid (HC.out.heap RB.out (by rintro (e | e) <;> omega))
    have b0 : wr.cell? ⟨w3.heap.size, 0, none⟩ = some (.int .i64 W) := by rw [cell_of OBR.out]; rfl
    have b1 : wr.cell? ⟨w3.heap.size, 1, none⟩ = some (.int .i64 H) := by rw [cell_of OBR.out]; rfl
    have b2 : wr.cell? ⟨w3.heap.size, 2, none⟩ = some (.slice (some ⟨g, 0, none⟩) n n) := by rw [cell_of OBR.out]; rfl
    have dc : wr.cell? ⟨w.heap.size + 1, 1, none⟩ = some (.int .i64 (kk : Int)) := by rw [cell_of HD.out.blk]; rfl
    by_cases hgo : k < 12 ∧ kk < l.length ∧ 0 < n
    · obtain ⟨e1, e2, e3⟩ := hgo
      have z1 : (k : Int) < 12 := by omega
      have z2 : (kk : Int) < (l.length : Int) := by omega
      have z3 : (0 : Int) < (n : Int) := by omega
      have kk0 : (0 : Int) ≤ (kk : Int) := by omega
      have hWp : 0 < W := by
        rcases Int.lt_or_eq_of_le w0 with h | h
        · exact h
        · have := HNN.out; rw [← h, Int.zero_mul] at this; omega
      have hHp : 0 < H := by
        rcases Int.lt_or_eq_of_le h0 with h | h
        · exact h
        · have := HNN.out; rw [← h, Int.mul_zero] at this; omega
      obtain ⟨x0, x1⟩ := nx_in l kk W hWp
      obtain ⟨y0, y1⟩ := nx_in l (nk l kk) H hHp
      obtain ⟨s0, s1⟩ := nx_in l (nk l (nk l kk)) 16 (by omega)
      obtain ⟨t0, t1⟩ := nx_in l (nk l (nk l (nk l kk))) 4 (by omega)
      go_wp2_with (go_at_call 40; fail)
      refine Next_any lo (w.heap.size + 1) _ l kk W _ _ HD.out (by omega) (by omega) ?_
      clear z1 z2 z3 dc
      intro wa d1 c1
      have DD1 := Lib.hid d1
      have CC1 := Lib.hid (HC.out.trans' c1 (fun j hj e => Or.inl e))
      have b0 := c1.cell b0 (by show w3.heap.size ≠ _; omega)
      have b1 := c1.cell b1 (by show w3.heap.size ≠ _; omega)
      have b2 := c1.cell b2 (by show w3.heap.size ≠ _; omega)
      have GG1 := Lib.hid (c1.heap HGR.out (by show g ≠ _; omega))
      clear d1 c1
      go_wp2_with (go_at_call 40; fail)
      refine Next_any lo (w.heap.size + 1) _ l (nk l kk) H _ _ DD1.out (by omega) (by omega) ?_
      intro wb d2 c2
      have DD2 := Lib.hid d2
      have CC2 := Lib.hid (CC1.out.trans' c2 (fun j hj e => Or.inl e))
      have b0 := c2.cell b0 (by show w3.heap.size ≠ _; omega)
      have b1 := c2.cell b1 (by show w3.heap.size ≠ _; omega)
      have b2 := c2.cell b2 (by show w3.heap.size ≠ _; omega)
      have GG2 := Lib.hid (c2.heap GG1.out (by show g ≠ _; omega))
      clear d2 c2
      go_wp2_with (go_at_call 40; fail)
      refine Next_any lo (w.heap.size + 1) _ l (nk l (nk l kk)) 16 _ _ DD2.out (by omega) (by omega) ?_
      intro wc d3 c3
      have DD3 := Lib.hid d3
      have CC3 := Lib.hid (CC2.out.trans' c3 (fun j hj e => Or.inl e))
      have b0 := c3.cell b0 (by show w3.heap.size ≠ _; omega)
      have b1 := c3.cell b1 (by show w3.heap.size ≠ _; omega)
      have b2 := c3.cell b2 (by show w3.heap.size ≠ _; omega)
      have GG3 := Lib.hid (c3.heap GG2.out (by show g ≠ _; omega))
      clear d3 c3
      go_wp2_with (go_at_call 40; fail)
      refine Next_any lo (w.heap.size + 1) _ l (nk l (nk l (nk l kk))) 4 _ _ DD3.out (by omega) (by omega) ?_
      intro wd d4 c4
      have DD4 := Lib.hid d4
      have CC4 := Lib.hid (CC3.out.trans' c4 (fun j hj e => Or.inl e))
      have b0 := c4.cell b0 (by show w3.heap.size ≠ _; omega)
      have b1 := c4.cell b1 (by show w3.heap.size ≠ _; omega)
      have b2 := c4.cell b2 (by show w3.heap.size ≠ _; omega)
      have GG4 := Lib.hid (c4.heap GG3.out (by show g ≠ _; omega))
      clear d4 c4
      have HMn := Lib.hid (madeD_go HM.out e1 ⟨e2, e3⟩)
      clear HM
      generalize nx l kk W = X at x0 x1 HMn ⊢
      generalize nx l (nk l kk) H = Y at y0 y1 HMn ⊢
      generalize nx l (nk l (nk l kk)) 16 = S at s0 s1 HMn ⊢
      generalize nx l (nk l (nk l (nk l kk))) 4 = TT at t0 t1 HMn ⊢
      generalize nk l (nk l (nk l (nk l kk))) = kk4 at DD4 HMn
      obtain ⟨on, hon⟩ : ∃ on : Bool, decide (0 < TT) = on := ⟨_, rfl⟩
      rw [hon] at HMn
      obtain ⟨RD, hRD⟩ : ∃ D, rectM W H Y (X + S % 4) (Y + S / 4) on (W - X).toNat X ds = D := ⟨_, rfl⟩
      rw [hRD] at HMn
      have HRD := Lib.hid hRD
      clear hRD
      have s40 : 0 ≤ S % 4 := by omega
      have s41 : S % 4 ≤ 3 := by omega
      have s42 : 0 ≤ S / 4 := by omega
      have s43 : S / 4 ≤ 3 := by omega
      go_wp2
      clear hon
      go_loopw [11, 12] (fun s11 _ wr => ∃ (i : Int) (ds : List Bool), s11 = .int .i64 i ∧ X ≤ i ∧ i ≤ W ∧ Hid (rectM W H Y (X + S % 4) (Y + S / 4) on (W - i).toNat i ds = RD) ∧ Hid (ds.length = n) ∧ Hid (wr.heap[g]? = some (.cells (boolC ds) 4 (0, 0))) ∧ Hid (Ch (· = g) wd wr)) (fun s11 _ _ => (W - intOf s11).toNat)
      case atStart => exact ⟨X, ds, rfl, by omega, by omega, HRD, HL, GG4, Lib.hid (Ch.refl _ _)⟩
      case round =>
        clear HL
        obtain ⟨i, ds, rfl, i0, i1, HR2, HL, HGR, HCI⟩ := hrel
        have b0' := b0
        have b1' := b1
        have b2' := b2
        have b0 := HCI.out.cell b0 (by show w3.heap.size ≠ g; omega)
        have b1 := HCI.out.cell b1 (by show w3.heap.size ≠ g; omega)
        have b2 := HCI.out.cell b2 (by show w3.heap.size ≠ g; omega)
        have i00 : 0 ≤ i := by omega
        by_cases hin : i < W ∧ i ≤ X + S % 4
        · have HR3 := Lib.hid (rectM_go HR2.out hin)
          obtain ⟨CD, hCD⟩ : ∃ D, colM W H (Y + S / 4) on i (H - Y).toNat Y ds = D := ⟨_, rfl⟩
          rw [hCD] at HR3
          have HCD := Lib.hid hCD
          clear hCD HR2
          obtain ⟨u1, u2⟩ := hin
          go_wp2
          go_loopw [12] (fun s12 wr => ∃ (j : Int) (ds : List Bool), s12 = .int .i64 j ∧ Y ≤ j ∧ j ≤ H ∧ Hid (colM W H (Y + S / 4) on i (H - j).toNat j ds = CD) ∧ Hid (ds.length = n) ∧ Hid (wr.heap[g]? = some (.cells (boolC ds) 4 (0, 0))) ∧ Hid (Ch (· = g) wd wr)) (fun s12 _ => (H - intOf s12).toNat)
          case atStart => exact ⟨Y, ds, rfl, by omega, by omega, HCD, HL, HGR, HCI⟩
          case round =>
            clear HL HGR
            obtain ⟨j, ds, rfl, j0, j1, HCM, HL, HGR, HCJ⟩ := hrel
            have b0 := HCJ.out.cell b0' (by show w3.heap.size ≠ g; omega)
            have b1 := HCJ.out.cell b1' (by show w3.heap.size ≠ g; omega)
            have b2 := HCJ.out.cell b2' (by show w3.heap.size ≠ g; omega)
            clear b0' b1' b2'
            have j00 : 0 ≤ j := by omega
            by_cases hjn : j < H ∧ j ≤ Y + S / 4
            · have HCN := Lib.hid (colM_go HCM.out hjn)
              obtain ⟨v1, v2⟩ := hjn
              obtain ⟨g0, g1⟩ := grid_lt (x := i) (y := j) (W := W) (H := H) ⟨i00, u1⟩ ⟨j00, v1⟩
              have hnn := HNN.out
              obtain ⟨P, hP⟩ : ∃ P, j * W = P := ⟨_, rfl⟩
              have P0 : 0 ≤ P := by rw [← hP]; exact Int.mul_nonneg j00 w0
              rw [hP] at g0 g1 HCN
              obtain ⟨p, hp⟩ : ∃ p : Nat, (p : Int) = P + i := ⟨(P + i).toNat, by omega⟩
              have p1 : (p : Int) < (n : Int) := by omega
              have pn : p < ds.length := by rw [HL.out]; omega
              clear hnn g0 g1
              obtain ⟨od, hod⟩ : ∃ od, ds[p]? = some od := ⟨_, List.getElem?_eq_getElem pn⟩
              have gc : wr.cell? ⟨g, p, none⟩ = some (.bool od) := by rw [cell_of HGR.out]; exact boolC_get hod
              have gf : wr.frozen? ⟨g, p, none⟩ = false := frozen_of HGR.out
              obtain rfl : p = (P + i).toNat := by omega
              have pi0 : 0 ≤ P + i := by omega
              have pi1 : P + i < (n : Int) := by omega
              clear hod hp p1
              go_wp2
              refine ⟨⟨j + 1, ds.set (P + i).toNat on, by go_num, by omega, by omega, HCN, Lib.hid (by rw [List.length_set]; exact HL.out), Lib.hid (by rw [← boolC_set]; exact heap_setCell_eq _ HGR.out), Lib.hid (HCJ.out.setb (fun _ => rfl) _)⟩, ?_⟩
              simp [intOf]; omega
            · have hout : ¬ j < H ∨ (j < H ∧ ¬ j ≤ Y + S / 4) := by omega
              obtain rfl := colM_end HCM.out hjn
              clear hjn
              rcases hout with v1 | ⟨v1, v2⟩
              all_goals
                go_wp2
                refine ⟨⟨i + 1, ds, by go_num, by omega, by omega, HR3, HL, HGR, HCJ⟩, ?_⟩
                simp [intOf]; omega
        · have hout : ¬ i < W ∨ (i < W ∧ ¬ i ≤ X + S % 4) := by omega
          obtain rfl := rectM_end HR2.out hin
          clear hin
          have HCE := Lib.hid (CC4.out.trans' HCI.out (fun j hj e => Or.inr e))
          have DDE := Lib.hid (DD4.out.kept HCI.out (fun j hj e => by have e' : j = g := e; rcases hj with hj | hj <;> omega))
          rcases hout with u1 | ⟨u1, u2⟩
          all_goals
            go_wp2
            refine ⟨⟨k + 1, kk4, ds, by go_num, by omega, HMn, HL, DDE, HGR, HCE⟩, ?_⟩
            simp [intOf]; omega
    · have hstop : ¬ k < 12 ∨ (k < 12 ∧ ¬ kk < l.length) ∨ (k < 12 ∧ kk < l.length ∧ ¬ 0 < n) := by omega
      obtain rfl := madeD_end HM.out hstop
      clear hgo
      have r0 : wr.cell? ⟨w.heap.size, 0, none⟩ = some (.int .i64 0) := by rw [cell_of RBR.out]; rfl
      have r1 : wr.cell? ⟨w.heap.size, 1, none⟩ = some (.int .i64 0) := by rw [cell_of RBR.out]; rfl
      have r2 : wr.cell? ⟨w.heap.size, 2, none⟩ = some (.slice none 0 0) := by rw [cell_of RBR.out]; rfl
      have q0 : wr.frozen? ⟨w.heap.size, 0, none⟩ = false := frozen_of RBR.out
      have q1 : wr.frozen? ⟨w.heap.size, 1, none⟩ = false := frozen_of RBR.out
      have q2 : wr.frozen? ⟨w.heap.size, 2, none⟩ = false := frozen_of RBR.out
      have fin : ∀ (W' : World), W' = ((wr.setCell ⟨w.heap.size, 0, none⟩ (.int .i64 W)).setCell ⟨w.heap.size, 1, none⟩ (.int .i64 H)).setCell ⟨w.heap.size, 2, none⟩ (.slice (some ⟨g, 0, none⟩) n n) → R (.returned (.agg #[.int .i64 W, .int .i64 H, .slice (some ⟨g, 0, none⟩) n n])) W' := by
        rintro W' rfl
        have NR : Nw w wr := C4.out.trans' HC.out (fun j hj e => by rcases e with e | e <;> omega)
        refine HR.out _ _ (W, H, ds) ⟨_, rfl, ?_, by simp only [wfI]; omega, by simp only [wfI]; omega⟩ (bmE_eq ⟨w0, by simp only; omega⟩ ⟨h0, by simp only; omega⟩ (by simp only; rw [HL.out]; exact HNN.out)) (by simp only; omega) (by simp only; omega) (((NR.setb (fun h => by omega) _).setb (fun h => by omega) _).setb (fun h => by omega) _) ⟨_, _, rfl⟩ (by have e := HRES.out; unfold made4B; rw [HWe.out, HHe.out, show (W * H).toNat = n by have := HNN.out; omega]; rw [e])
        have hb9 := Ch.heap ((((Ch.refl (· = w.heap.size) wr).setb (b := w.heap.size) (o := 0) (fun _ => rfl) (.int .i64 W)).setb (b := w.heap.size) (o := 1) (fun _ => rfl) (.int .i64 H)).setb (b := w.heap.size) (o := 2) (fun _ => rfl) (.slice (some ⟨g, 0, none⟩) n n)) HGR.out (by show g ≠ w.heap.size; omega)
        have hi := isBools_block (cap := n) hb9 (lt_of_heap hb9) ⟨by rw [HL.out]; exact Nat.le_refl _, by rw [HL.out]; omega⟩
        rw [HL.out] at hi
        exact hi
      have FIN := Lib.hid fin
      clear fin
      rcases hstop with e1 | ⟨e1, e2⟩ | ⟨e1, e2, e3⟩
      · have z1 : ¬ (k : Int) < 12 := by omega
        go_wp2
        exact bodyPost_ret (v := .agg #[.int .i64 W, .int .i64 H, .slice (some ⟨g, 0, none⟩) n n]) (by simp [results, Tryd.results18, go_sem, r0, r1, r2]) rfl (FIN.out _ rfl)
      · have z1 : (k : Int) < 12 := by omega
        have z2 : ¬ (kk : Int) < (l.length : Int) := by omega
        go_wp2
        exact bodyPost_ret (v := .agg #[.int .i64 W, .int .i64 H, .slice (some ⟨g, 0, none⟩) n n]) (by simp [results, Tryd.results18, go_sem, r0, r1, r2]) rfl (FIN.out _ rfl)
      · have z1 : (k : Int) < 12 := by omega
        have z2 : (kk : Int) < (l.length : Int) := by omega
        have z3 : ¬ (0 : Int) < (n : Int) := by omega
        go_wp2
        exact bodyPost_ret (v := .agg #[.int .i64 W, .int .i64 H, .slice (some ⟨g, 0, none⟩) n n]) (by simp [results, Tryd.results18, go_sem, r0, r1, r2]) rfl (FIN.out _ rfl)
/-- Whatever the numbers: a bitmap without an error, of at most 16 by 12 dots. -/
theorem rMade4_any (lo : Nat) (v : Value) (l : List Int) (w : World) (R : Ending → World → Prop) (h : IsInts w lo v l) (hlo : lo ≤ w.heap.size)
    (hR : ∀ w' v' b, IsBm w' w'.heap.size v' b → bmE b = 0 → b.1 ≤ 16 → b.2.1 ≤ 12 → Nw w w' → (∃ A n, v' = .agg #[.int .i64 b.1, .int .i64 b.2.1, .slice (some A) n n]) → R (.returned v') w') : Calls Tryd.prog 18 #[v] w R :=
  rMade4_det lo v l w R h hlo fun w' v' b h1 h2 h3 h4 h5 h6 _ => hR w' v' b h1 h2 h3 h4 h5 h6
end Go.Proofs.YtaafmgkjfmngjaaDoor
