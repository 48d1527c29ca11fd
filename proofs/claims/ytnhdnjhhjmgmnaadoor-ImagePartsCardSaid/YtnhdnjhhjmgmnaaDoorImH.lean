/-
  image.Hide: columns made unknown.
-/
import Derived.Test.YtnhdnjhhjmgmnaaDoorClone
import Derived.Deep.RegionHeld3
namespace Go.Proofs.YtnhdnjhhjmgmnaaDoor
open Go.RowKit
set_option linter.unusedVariables false
set_option linter.unusedSimpArgs false
set_option maxRecDepth 100000

theorem imCheck_ok (lo : Nat) (v : Value) (x : Im) (w : World) (R : Ending → World → Prop) (h : IsIm w lo v x) (hE : imOk x)
    (hR : ∀ w', Nw w w' → R (.returned (.int .i64 0)) w') : Calls Tryd.prog 22 #[v] w R :=
  imCheck_any lo v x w R h (by rw [imE_yes hE]; exact hR)
theorem imCheck_bad (lo : Nat) (v : Value) (x : Im) (w : World) (R : Ending → World → Prop) (h : IsIm w lo v x) (hE : ¬ imOk x)
    (hR : ∀ w', Nw w w' → R (.returned (.int .i64 50)) w') : Calls Tryd.prog 22 #[v] w R :=
  imCheck_any lo v x w R h (by rw [imE_no hE]; exact hR)
theorem riCheck_ok (lo : Nat) (v : Value) (x : Im) (w : World) (R : Ending → World → Prop) (h : IsIm w lo v x) (hE : imOk x)
    (hR : ∀ w', Nw w w' → R (.returned (.int .i64 0)) w') : Calls Tryd.prog 23 #[v] w R :=
  riCheck_any lo v x w R h (by rw [imE_yes hE]; exact hR)
theorem riCheck_bad (lo : Nat) (v : Value) (x : Im) (w : World) (R : Ending → World → Prop) (h : IsIm w lo v x) (hE : ¬ imOk x)
    (hR : ∀ w', Nw w w' → R (.returned (.int .i64 50)) w') : Calls Tryd.prog 23 #[v] w R :=
  riCheck_any lo v x w R h (by rw [imE_no hE]; exact hR)
theorem IRow.store {w : World} {B g n cap : Nat} {l : List Int} (h : IRow w B (.slice (some ⟨g, 0, none⟩) n cap) n l) (j : Nat) (y : Int) : IRow (w.setCell ⟨g, j, none⟩ (.int .i64 y)) B (.slice (some ⟨g, 0, none⟩) n cap) n (l.set j y) := by
  have := (World.ownsRow.stored h j (.int .i64 y)).1
  unfold IRow
  rw [List.map_set]
  exact this
theorem IRow.frozen {w : World} {B g n cap : Nat} {l : List Int} (h : IRow w B (.slice (some ⟨g, 0, none⟩) n cap) n l) (j : Nat) : w.frozen? ⟨g, j, none⟩ = false := World.ownsRow.frozenAt h j
theorem IRow.cell {w : World} {B g n cap : Nat} {l : List Int} (h : IRow w B (.slice (some ⟨g, 0, none⟩) n cap) n l) {j : Nat} {y : Int} (hj : l[j]? = some y) : w.cell? ⟨g, j, none⟩ = some (.int .i64 y) := by
  have hjl := (List.getElem?_eq_some_iff.1 hj).1
  have hn := h.len
  have := World.ownsRow.cellAt h j (by simp; omega)
  have hadd : (⟨g, 0, none⟩ : Addr).add j = ⟨g, j, none⟩ := by unfold Addr.add; split <;> simp_all
  rw [this]
  simp [hj]
theorem cell_store3 {w : World} {p : Addr} {y : Value} {g : Nat} (u v x : Value) (h : w.cell? p = some y) (hg : p.block ≠ g) : (((w.setCell ⟨g, 0, none⟩ u).setCell ⟨g, 1, none⟩ v).setCell ⟨g, 2, none⟩ x).cell? p = some y :=
  cell_setCell_ne _ (cell_setCell_ne _ (cell_setCell_ne _ h hg) hg) hg
/-- The pixels behind the first k rounds. -/
def hideS (W f t : Int) (l : List Int) (k : Nat) : List Int := (hideL W f t l).take k ++ l.drop k
theorem hideS_zero (W f t : Int) (l : List Int) : hideS W f t l 0 = l := by simp [hideS]
theorem hideS_done (W f t : Int) (l : List Int) : hideS W f t l l.length = hideL W f t l := by simp [hideS]; exact List.take_of_length_le (by rw [hideL_len]; exact Nat.le_refl _)
theorem hideS_get {W f t : Int} {l : List Int} {k : Nat} {p : Int} (h : l[k]? = some p) : (hideS W f t l k)[k]? = some p := by
  have hk := (List.getElem?_eq_some_iff.1 h).1
  unfold hideS
  rw [List.getElem?_append_right (by simp [hideL_len]; omega)]
  simp [hideL_len, Nat.min_eq_left (Nat.le_of_lt hk), h]
theorem hideS_step {W f t : Int} {l : List Int} {k : Nat} {p : Int} (h : l[k]? = some p) : hideS W f t l (k + 1) = (hideS W f t l k).set k (hideP W f t k p) := by
  have hk := (List.getElem?_eq_some_iff.1 h).1
  have h2 := hideL_get (W := W) (f := f) (t := t) h
  have hl : ((hideL W f t l).take k).length = k := by simp [hideL_len]; omega
  unfold hideS
  rw [List.take_add_one, h2]
  rw [List.set_append_right _ _ (by omega), hl, Nat.sub_self]
  rw [List.drop_eq_getElem_cons hk (l := l)]
  simp only [List.set_cons_zero, Option.toList_some, List.append_assoc, List.singleton_append]
theorem hideS_same {W f t : Int} {l : List Int} {k : Nat} {p : Int} (h : l[k]? = some p) (hp : hideP W f t k p = p) : hideS W f t l (k + 1) = hideS W f t l k := by
  rw [hideS_step h, hp]
  apply List.ext_getElem?
  intro j
  by_cases hj : k = j
  · subst hj
    rw [List.getElem?_set_self (List.getElem?_eq_some_iff.1 (hideS_get (W := W) (f := f) (t := t) h)).1, hideS_get h]
  · rw [List.getElem?_set_ne hj]

set_option maxHeartbeats 4000000 in
theorem imHide_any (lo : Nat) (v : Value) (x : Im) (f t : Int) (w : World) (R : Ending → World → Prop) (h : IsIm w lo v x) (hlo : lo ≤ w.heap.size) (hf : wfI f) (ht : wfI t)
    (hR : ∀ w' v', IsIm w' w'.heap.size v' (hideM x f t) → Nw w w' → R (.returned v') w') : Calls Tryd.prog 20 #[v, .int .i64 f, .int .i64 t] w R := by
  have HR := Lib.hid hR
  clear hR
  have HX := Lib.hid h
  obtain ⟨W, H, l⟩ := x
  obtain ⟨s, rfl, hi, hw, hh⟩ := h
  have HI := Lib.hid hi
  obtain ⟨A, cap, rfl, ⟨hlc, hl⟩, -⟩ := hi
  simp only at hw hh hl HI
  unfold wfI at hw hh hf ht
  have HN := Lib.hid (show Nw w ((w.alloc (.cells #[.int .i64 W, .int .i64 H, .slice A l.length cap] 25)).alloc (.cells #[.int .i64 0, .int .i64 0, .slice none 0 0] 25)) from ((Ch.refl _ _).alloc _).alloc _)
  have HX2 := Lib.hid (HX.out.kept HN.out nof)
  by_cases hE : imOk (W, H, l)
  · have HE := Lib.hid hE
    have hlen := imOk_len hE
    obtain ⟨b1, b2, b3, b4⟩ := hE
    simp only at b1 b2 b3 b4 hlen
    obtain ⟨c1, c2⟩ := b1
    have B3 := Lib.hid b3
    clear b2 b3 b4
    go_enter Tryd.func20, Tryd.ntmps20
    go_wp2_with (go_at_call 22; refine imCheck_ok lo _ _ _ _ HX2.out HE.out ?_; intro w1 n1; (have p0 : w1.cell? ⟨w.heap.size, 0, none⟩ = some (.int .i64 W) := n1.cell (cell_alloc_old _ (cell_alloc_new rfl rfl)) id); (have p1 : w1.cell? ⟨w.heap.size, 1, none⟩ = some (.int .i64 H) := n1.cell (cell_alloc_old _ (cell_alloc_new rfl rfl)) id); (have p2 : w1.cell? ⟨w.heap.size, 2, none⟩ = some (.slice A l.length cap) := n1.cell (cell_alloc_old _ (cell_alloc_new rfl rfl)) id); (have HB0 := Lib.hid (show w1.heap[w.heap.size + 1]? = some (.cells #[.int .i64 0, .int .i64 0, .slice none 0 0] 25 (0, 0)) from n1.heap (heap_alloc_eq _ (by simp only [alloc_size])) id)); (have N1 := Lib.hid (HN.out.trans n1)); clear n1)
    have sz1 : w.heap.size + 1 < w1.heap.size := lt_of_heap HB0.out
    have HI1 := Lib.hid (HI.out.kept N1.out nof)
    have nb : w.heap.size ≠ w1.heap.size := by omega
    have hlen' : l.length ≤ 1000000 := by omega
    go_cut [7] (fun s7 wx => ∃ (ob : Nat) (A' : Option Addr) (cap' : Nat), s7 = .pointer (some ⟨ob, 0, none⟩) ∧ Hid (wx.heap[ob]? = some (.cells #[.int .i64 W, .int .i64 H, .slice A' l.length cap'] 25 (0, 0))) ∧ Hid (IRow wx w1.heap.size (.slice A' l.length cap') l.length l) ∧ Hid ((Value.slice A' l.length cap').ownBlock ≠ some ob) ∧ Hid (w1.heap.size ≤ ob) ∧ Hid (Nw w1 wx))
    case first => as_aux_lemma =>
      go_region_held3 (fun w' => w'.cell? ⟨w.heap.size, 0, none⟩ = some (.int .i64 W) ∧ w'.cell? ⟨w.heap.size, 1, none⟩ = some (.int .i64 H) ∧ w'.cell? ⟨w.heap.size, 2, none⟩ = some (.slice A l.length cap)) (first | (with_reducible exact ⟨q0, q1, q2⟩) | (with_reducible exact ⟨cell_store3 _ _ _ q0 nb, cell_store3 _ _ _ q1 nb, cell_store3 _ _ _ q2 nb⟩) | (with_reducible exact ⟨cell_alloc_old _ q0, cell_alloc_old _ q1, cell_alloc_old _ q2⟩) | (exact ⟨p0, p1, p2⟩) | (exact ⟨cell_alloc_old _ p0, cell_alloc_old _ p1, cell_alloc_old _ p2⟩)) (first | (go_at_call 44; refine clone_any lo _ l _ _ (by first | exact HI1.out | exact HI1.out.kept ((Ch.refl (fun _ => False) _).drew) nof | exact HI1.out.kept (((Ch.refl (fun _ => False) _).drew).alloc _) nof) hlen' ?_; intro w2 v2 hrow hn; obtain ⟨A', cap', rfl⟩ := hrow.form; (have HRW := Lib.hid hrow); (have HN2 := Lib.hid (show Nw w1 w2 from by first | exact hn | exact hn.undrew | exact (((Ch.refl (fun _ => False) w1).drew).alloc _).trans hn)); (have q0 := HN2.out.cell p0 id); (have q1 := HN2.out.cell p1 id); (have q2 := HN2.out.cell p2 id); (first | (have fB : w2.heap[w1.heap.size]? = some (.cells #[.int .i64 0, .int .i64 0, .slice none 0 0] 25 (0, 0)) := hn.heap (heap_alloc_eq _ rfl) id; have b0 : w2.cell? ⟨w1.heap.size, 0, none⟩ = some (.int .i64 0) := (by rw [cell_of fB]; rfl); have b1 : w2.cell? ⟨w1.heap.size, 1, none⟩ = some (.int .i64 0) := (by rw [cell_of fB]; rfl); have b2 : w2.cell? ⟨w1.heap.size, 2, none⟩ = some (.slice none 0 0) := (by rw [cell_of fB]; rfl); have d0 : w2.frozen? ⟨w1.heap.size, 0, none⟩ = false := frozen_of fB; have d1 : w2.frozen? ⟨w1.heap.size, 1, none⟩ = false := frozen_of fB; have d2 : w2.frozen? ⟨w1.heap.size, 2, none⟩ = false := frozen_of fB) | skip); clear hrow hn))
      all_goals
        go_wp2_with fail
        go_meet
        refine ⟨_, A', cap', rfl, Lib.hid ?_, Lib.hid ?_, Lib.hid ?_, Lib.hid ?_, Lib.hid ?_⟩
        · first | exact heap_setCell_eq _ (heap_setCell_eq _ (heap_setCell_eq _ fB)) | exact heap_alloc_eq _ rfl
        · first
          | exact (HRW.out.ch ((Ch.refl (fun _ => False) w2).alloc _) (fun _ _ e => e)).lo (by first | exact Nat.le_refl _ | (simp only [alloc_size]; omega))
          | (have h8 : w1.heap.size + 1 ≤ (w1.drew.alloc (.cells #[.int .i64 0, .int .i64 0, .slice none 0 0] 25)).heap.size := by rw [alloc_size]; exact Nat.le_refl _
             exact ((HRW.out.lo h8).ch ((((Ch.refl (· = w1.heap.size) w2).setb (fun _ => rfl) _).setb (fun _ => rfl) _).setb (fun _ => rfl) _) (fun j hj e => by have e' : j = w1.heap.size := e; omega)).lo (Nat.le_succ _))
        · intro e
          have h9 := HRW.out.lt _ e
          have h8 := HN2.out.size
          simp at h9
          try omega
        · first | exact Nat.le_refl _ | exact HN2.out.size
        · first
          | exact HN2.out.alloc _
          | exact ((HN2.out.setb (fun h => by omega) _).setb (fun h => by omega) _).setb (fun h => by omega) _
    case rest => as_aux_lemma =>
      obtain ⟨ob, A', cap', rfl, HO, HRW, HNE, HOB, HNX⟩ := hcut
      obtain ⟨W1, rfl⟩ : ∃ W : World, W = wc := ⟨_, rfl⟩
      have ob1 := HOB.out
      have NW := Lib.hid (N1.out.trans HNX.out)
      have a0 := HNX.out.cell p0 id
      have o2 : W1.cell? ⟨ob, 2, none⟩ = some (.slice A' l.length cap') := by rw [cell_of HO.out]; rfl
      have RB := Lib.hid (HNX.out.heap HB0.out id)
      have sz3 := HNX.out.size
      clear p0 p1 p2 HB0 HX2 HI1
      go_wp2_with fail
      have A0 := Lib.hid a0
      clear a0 o2
      go_loopw [8, 9, 25] (fun _ _ s25 wr => ∃ k : Nat, s25 = .int .i64 k ∧ k ≤ l.length ∧ Hid (IRow wr w1.heap.size (.slice A' l.length cap') l.length (hideS W f t l k)) ∧ Hid (Ch (fun j => (Value.slice A' l.length cap').ownBlock = some j) W1 wr)) (fun _ _ s25 _ => l.length - (intOf s25).toNat)
      case atStart => exact ⟨0, rfl, Nat.zero_le _, Lib.hid (by rw [hideS_zero]; exact HRW.out), Lib.hid (Ch.refl _ _)⟩
      case round =>
        obtain ⟨k, rfl, hk, HG, HC⟩ := hrel
        have k0 : (0 : Int) ≤ (k : Int) := by omega
        have hbk : ∀ j, (Value.slice A' l.length cap').ownBlock = some j → w1.heap.size ≤ j ∧ j ≠ ob := fun j hj => ⟨(HRW.out.lt j hj).1, fun e => HNE.out (by rw [hj, e])⟩
        have HBK := Lib.hid hbk
        clear hbk
        by_cases hlt : k < l.length
        · obtain ⟨p, hp⟩ : ∃ p, l[k]? = some p := ⟨_, List.getElem?_eq_getElem hlt⟩
          have k1 : (k : Int) < (l.length : Int) := by omega
          have a0 := HC.out.cell A0.out (fun e => by have h1 : w1.heap.size ≤ w.heap.size := (HBK.out _ e).1; omega)
          have o2 : wr.cell? ⟨ob, 2, none⟩ = some (.slice A' l.length cap') := HC.out.cell (by rw [cell_of HO.out]; rfl) (fun e => (HBK.out _ e).2 rfl)
          have HP := Lib.hid hp
          have wz : 0 < W := grid_pos (k := (k : Int)) (W := W) (H := H) k0 (by have := B3.out; omega) c1
          have wz2 : ¬ W = 0 := by omega
          obtain ⟨r, hr⟩ : ∃ r, (k : Int) % W = r := ⟨_, rfl⟩
          have hr2 : (k : Int).tmod W = r := by rw [Int.tmod_eq_emod_of_nonneg k0, hr]
          clear hp
          by_cases hin : f ≤ r ∧ r < t
          · obtain ⟨f1, f2⟩ := hin
            obtain ⟨g, cap2, hv⟩ : ∃ g cap2, Value.slice A' l.length cap' = .slice (some ⟨g, 0, none⟩) l.length cap2 := by
              rcases HG.out.2 with ⟨h1, h2⟩ | ⟨g, cap2, cur, h1, -⟩
              · omega
              · exact ⟨g, cap2, h1⟩
            injection hv with e1 e2 e3
            subst e1 e3
            have g0 := HG.out.cell (hideS_get (W := W) (f := f) (t := t) HP.out)
            have g1 := HG.out.frozen k
            have hS := hideS_step (W := W) (f := f) (t := t) HP.out
            have h2 : hideP W f t k p = 2 := by unfold hideP; rw [hr, if_pos ⟨f1, f2⟩]
            rw [h2] at hS
            have HS := Lib.hid hS
            clear hS h2 e2
            go_wp2
            refine ⟨⟨k + 1, by go_num, by omega, Lib.hid (by rw [HS.out]; exact HG.out.store _ _), Lib.hid (HC.out.setb (fun _ => rfl) _)⟩, ?_⟩
            simp [intOf]; omega
          · have h2 : hideP W f t k p = p := by unfold hideP; rw [hr, if_neg hin]
            have HS := Lib.hid (hideS_same HP.out h2)
            clear h2
            by_cases f1 : f ≤ r
            · have f2 : ¬ r < t := fun h => hin ⟨f1, h⟩
              clear hin
              go_wp2
              refine ⟨⟨k + 1, by go_num, by omega, Lib.hid (by rw [HS.out]; exact HG.out), HC⟩, ?_⟩
              simp [intOf]; omega
            · clear hin
              go_wp2
              refine ⟨⟨k + 1, by go_num, by omega, Lib.hid (by rw [HS.out]; exact HG.out), HC⟩, ?_⟩
              simp [intOf]; omega
        · obtain rfl : k = l.length := by omega
          have HO2 := Lib.hid (HC.out.heap HO.out (fun e => (HBK.out _ e).2 rfl))
          have RB2 := Lib.hid (HC.out.heap RB.out (fun e => by have := (HBK.out _ e).1; omega))
          have b0 : wr.cell? ⟨ob, 0, none⟩ = some (.int .i64 W) := by rw [cell_of HO2.out]; rfl
          have b1 : wr.cell? ⟨ob, 1, none⟩ = some (.int .i64 H) := by rw [cell_of HO2.out]; rfl
          have b2 : wr.cell? ⟨ob, 2, none⟩ = some (.slice A' l.length cap') := by rw [cell_of HO2.out]; rfl
          have r0 : wr.cell? ⟨w.heap.size + 1, 0, none⟩ = some (.int .i64 0) := by rw [cell_of RB2.out]; rfl
          have r1 : wr.cell? ⟨w.heap.size + 1, 1, none⟩ = some (.int .i64 0) := by rw [cell_of RB2.out]; rfl
          have r2 : wr.cell? ⟨w.heap.size + 1, 2, none⟩ = some (.slice none 0 0) := by rw [cell_of RB2.out]; rfl
          have q0 : wr.frozen? ⟨w.heap.size + 1, 0, none⟩ = false := frozen_of RB2.out
          have q1 : wr.frozen? ⟨w.heap.size + 1, 1, none⟩ = false := frozen_of RB2.out
          have q2 : wr.frozen? ⟨w.heap.size + 1, 2, none⟩ = false := frozen_of RB2.out
          have NR : Nw w wr := NW.out.trans' HC.out (fun j hj e => by have := (HBK.out _ e).1; omega)
          have NRH := Lib.hid NR
          clear NR
          go_wp2
          refine bodyPost_ret (v := .agg #[.int .i64 W, .int .i64 H, .slice A' l.length cap']) (by simp [results, Tryd.results20, go_sem, r0, r1, r2]) rfl ?_
          have hp : hideM (W, H, l) f t = (W, H, hideL W f t l) := by unfold hideM; rw [if_pos HE.out]
          have h0 := fun W' => HR.out W' (.agg #[.int .i64 W, .int .i64 H, .slice A' l.length cap'])
          rw [hp] at h0
          refine h0 _ ⟨_, rfl, ?_, hw, hh⟩ (((NRH.out.setb (fun h => by omega) _).setb (fun h => by omega) _).setb (fun h => by omega) _)
          have h1 := HG.out
          rw [hideS_done] at h1
          have hr9 := h1.ch ((((Ch.refl (· = w.heap.size + 1) wr).setb (b := w.heap.size + 1) (o := 0) (fun _ => rfl) (.int .i64 W)).setb (b := w.heap.size + 1) (o := 1) (fun _ => rfl) (.int .i64 H)).setb (b := w.heap.size + 1) (o := 2) (fun _ => rfl) (.slice A' l.length cap')) (fun j hj e => by have e' : j = w.heap.size + 1 := e; omega)
          exact hr9.isInts (fun x hx => by
            have := (hideL_ok (f := f) (t := t) HE.out).2.2.2 x hx
            unfold wfI; omega) (by omega)
  · have HE := Lib.hid hE
    clear hE
    go_enter Tryd.func20, Tryd.ntmps20
    go_wp2_with (go_at_call 22; refine imCheck_bad lo _ _ _ _ HX2.out HE.out ?_; intro w1 n1; (have HB0 : w1.heap[w.heap.size + 1]? = some (.cells #[.int .i64 0, .int .i64 0, .slice none 0 0] 25 (0, 0)) := n1.heap (heap_alloc_eq _ (by simp only [alloc_size])) id); (have q0 : w1.frozen? ⟨w.heap.size + 1, 0, none⟩ = false := frozen_of HB0); (have q1 : w1.frozen? ⟨w.heap.size + 1, 1, none⟩ = false := frozen_of HB0); (have q2 : w1.frozen? ⟨w.heap.size + 1, 2, none⟩ = false := frozen_of HB0); (have r0 : w1.cell? ⟨w.heap.size + 1, 0, none⟩ = some (.int .i64 0) := by rw [cell_of HB0]; rfl); (have r1 : w1.cell? ⟨w.heap.size + 1, 1, none⟩ = some (.int .i64 0) := by rw [cell_of HB0]; rfl); (have r2 : w1.cell? ⟨w.heap.size + 1, 2, none⟩ = some (.slice none 0 0) := by rw [cell_of HB0]; rfl); (have N1 := Lib.hid (HN.out.trans n1)); clear n1 HB0)
    have hp : hideM (W, H, l) f t = zeroI := by unfold hideM; rw [if_neg HE.out]
    refine bodyPost_ret (v := .agg #[.int .i64 0, .int .i64 0, .slice none 0 0]) (by simp [results, Tryd.results20, go_sem, r0, r1, r2]) rfl ?_
    have h0 := fun W' => HR.out W' (.agg #[.int .i64 0, .int .i64 0, .slice none 0 0])
    rw [hp] at h0
    exact h0 _ (isIm_zero _ _) (((N1.out.setb (fun h => by omega) _).setb (fun h => by omega) _).setb (fun h => by omega) _)
end Go.Proofs.YtnhdnjhhjmgmnaaDoor
