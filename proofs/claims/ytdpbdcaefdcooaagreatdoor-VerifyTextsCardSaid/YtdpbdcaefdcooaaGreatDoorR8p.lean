/-
  ref08.operation: the operation that a string is.
-/
import Derived.Test.YtdpbdcaefdcooaaGreatDoorR8w
import Derived.Test.YtdpbdcaefdcooaaGreatDoorR8n
import Derived.Test.YtdpbdcaefdcooaaGreatDoorWn
namespace Go.Proofs.YtdpbdcaefdcooaaGreatDoor
open Go.RowKit
set_option linter.unusedVariables false
set_option linter.unusedSimpArgs false
set_option maxRecDepth 100000

theorem splitK_cnt8 (sep : List UInt8) : ∀ (k : Nat) (s : List UInt8), 1 ≤ (Lib.splitK sep 0 k s).length ∧ (Lib.splitK sep 0 k s).length ≤ k + 1
  | 0, s => by simp [Lib.splitK]
  | k + 1, s => by
    unfold Lib.splitK
    split
    · simp
    · have := splitK_cnt8 sep k (s.drop ((Lib.index s sep).toNat + sep.length))
      rw [List.length_cons]
      omega
theorem splitK_len8 (sep : List UInt8) : ∀ (k : Nat) (s x : List UInt8), x ∈ Lib.splitK sep 0 k s → x.length ≤ s.length
  | 0, s, x, h => by simp [Lib.splitK] at h; rw [h]; exact Nat.le_refl _
  | k + 1, s, x, h => by
    unfold Lib.splitK at h
    split at h
    · simp at h; rw [h]; exact Nat.le_refl _
    · rcases List.mem_cons.1 h with h | h
      · rw [h, List.length_take]; omega
      · have := splitK_len8 sep k _ x h
        rw [List.length_drop] at this
        omega
theorem split_cnt8 (s sep : List UInt8) : 1 ≤ (Lib.split s sep).length ∧ (Lib.split s sep).length ≤ s.length + 2 := by
  have h1 := splitK_cnt8 sep (Lib.count s sep) s
  have h2 := Lib.count_le s sep
  unfold Lib.split
  omega
theorem split_mem8 {s sep x : List UInt8} (h : x ∈ Lib.split s sep) : x.length ≤ s.length := splitK_len8 sep _ s x h
/-- A string of a row. -/
theorem TRow.at {w : World} {B n : Nat} {A : Option Addr} {c : Nat} {l : List (List UInt8)} (h : CRow w 9 1 B (.slice A n c) l.length (strC l)) {i : Nat} {x : List UInt8} (hx : l[i]? = some x) : ∃ g, A = some ⟨g, 0, none⟩ ∧ B ≤ g ∧ g < w.heap.size ∧ w.cell? ⟨g, i, none⟩ = some (.string ⟨x.toArray⟩) := by
  obtain ⟨A', c', e, -, -, h3⟩ := h.isC
  cases e
  obtain ⟨g, hg, e, hc⟩ := h3 i (.string ⟨x.toArray⟩) (by unfold strC; rw [List.getElem?_map, hx]; rfl)
  subst e
  exact ⟨g, rfl, (h.lt g rfl).1, hg, hc⟩
theorem codeFrom_step {w : List UInt8} {n i : Nat} (h : wordB i ≠ w) : codeFrom w (n + 1) i = codeFrom w n (i + 1) := by rw [codeFrom, if_neg h]
theorem codeFrom_here {w : List UInt8} {n i : Nat} (h : wordB i = w) : codeFrom w (n + 1) i = i := by rw [codeFrom, if_pos h]
theorem rOpL_none {l : List (List UInt8)} {w0 : List UInt8} (h0 : l[0]? = some w0) (h : codeR w0 = -1) : rOpL l = none := by
  unfold rOpL
  simp only [List.getD_eq_getElem?_getD, h0, Option.getD_some, h]
  rfl
theorem rOpL_at {l : List (List UInt8)} {w0 : List UInt8} {c : Nat} (h0 : l[0]? = some w0) (h : codeR w0 = (c : Int)) : rOpL l = if l.length ≠ manyW c then none else if (rNum2 c l).2 = true then some ((c : Int), (rNum c l).1, (rNum2 c l).1) else none := by
  unfold rOpL
  simp only [List.getD_eq_getElem?_getD, h0, Option.getD_some, h]
  rw [if_neg (by omega)]
theorem ropX {l : List (List UInt8)} {c : Nat} (h : rOpL l = if l.length ≠ manyW c then none else if (rNum2 c l).2 = true then some ((c : Int), (rNum c l).1, (rNum2 c l).1) else none) (hl : l.length ≠ manyW c) : rOpL l = none := by rw [h, if_pos hl]
theorem rop0 {l : List (List UInt8)} {c : Nat} (h : rOpL l = if l.length ≠ manyW c then none else if (rNum2 c l).2 = true then some ((c : Int), (rNum c l).1, (rNum2 c l).1) else none) (hN : usesN c = false) (hM : usesM c = false) (hl : l.length = 1) : rOpL l = some ((c : Int), 0, 0) := by
  rw [h, if_neg (by unfold manyW; rw [hN, hM, hl]; simp)]
  unfold rNum2 rNum
  simp [hN, hM]
theorem rop1 {l : List (List UInt8)} {c : Nat} (h : rOpL l = if l.length ≠ manyW c then none else if (rNum2 c l).2 = true then some ((c : Int), (rNum c l).1, (rNum2 c l).1) else none) (hN : usesN c = true) (hM : usesM c = false) (hl : l.length = 2) {y1 : List UInt8} (h1 : l[1]? = some y1) : rOpL l = if (numM y1).2 = true then some ((c : Int), (numM y1).1, 0) else none := by
  rw [h, if_neg (by unfold manyW; rw [hN, hM, hl]; simp)]
  unfold rNum2 rNum
  simp [hN, hM, h1, List.getD_eq_getElem?_getD]
theorem rop2 {l : List (List UInt8)} {c : Nat} (h : rOpL l = if l.length ≠ manyW c then none else if (rNum2 c l).2 = true then some ((c : Int), (rNum c l).1, (rNum2 c l).1) else none) (hN : usesN c = true) (hM : usesM c = true) (hl : l.length = 3) {y1 y2 : List UInt8} (h1 : l[1]? = some y1) (h2 : l[2]? = some y2) :
    rOpL l = if (numM y1).2 = true then (if (numM y2).2 = true then some ((c : Int), (numM y1).1, (numM y2).1) else none) else none := by
  rw [h, if_neg (by unfold manyW; rw [hN, hM, hl]; simp)]
  unfold rNum2 rNum
  cases hb : (numM y1).2 <;> simp [hN, hM, h1, h2, List.getD_eq_getElem?_getD, hb]
theorem bytes_two (a b : List UInt8) : ((⟨a.toArray⟩ : ByteArray).toList == (⟨b.toArray⟩ : ByteArray).toList) = decide (a = b) := by
  rw [ByteArray.toList_eq, ByteArray.toList_eq, Bool.eq_iff_iff]
  simp
theorem post_nm8 {P : Program} {f : Func} {R : Ending → World → Prop} {e : Exit} {a : Act} {w : World} (h : ∀ W, W = w → bodyPost P f R e a W) : bodyPost P f R e a w := h _ rfl

set_option maxHeartbeats 8000000 in
theorem roperation_any (s : ByteArray) (w : World) (R : Ending → World → Prop) (hs : s.size ≤ 90000)
    (hS : ∀ w' c x y, rOpM s.data.toList = some (c, x, y) → Nw w w' → R (.returned (.tuple #[.agg #[.int .i64 c, .int .i64 x, .int .i64 y], .bool true])) w')
    (hN : ∀ w' c x y, rOpM s.data.toList = none → Nw w w' → R (.returned (.tuple #[.agg #[.int .i64 c, .int .i64 x, .int .i64 y], .bool false])) w') : Calls Tryz.prog 36 #[.string s] w R := by
  have HS := Lib.hid hS
  have HN := Lib.hid hN
  clear hS hN
  have slen : s.data.toList.length = s.size := by rw [Array.length_toList]; rfl
  go_enter Tryz.func36, Tryz.ntmps36
  go_upto_region 1 with (fail)
  refine wp_named ?_
  intro W1 hW
  have HRB := Lib.hid (show W1.heap[w.heap.size]? = some (.cells #[.int .i64 0, .int .i64 0, .int .i64 0] 49 (0, 0)) from by rw [hW]; exact heap_alloc_eq _ rfl)
  have NX := Lib.hid (show Nw w W1 from by rw [hW]; exact (Ch.refl _ _).alloc _)
  clear hW
  go_wp2_with (go_at_call 35; fail)
  refine rsplit_any s ⟨#[32]⟩ _ _ (by omega) (by decide) (by decide) ?_
  rw [show (⟨#[32]⟩ : ByteArray).data.toList = [32] from rfl]
  intro w1 v hrow n1
  have hcnt := split_cnt8 s.data.toList [32]
  have hmem := fun x => split_mem8 (s := s.data.toList) (sep := [32]) (x := x)
  have hop : rOpM s.data.toList = rOpL (Lib.split s.data.toList [32]) := rfl
  obtain ⟨l, hl⟩ : ∃ l, Lib.split s.data.toList [32] = l := ⟨_, rfl⟩
  rw [hl] at hrow hcnt hmem hop
  clear hl
  have HOP := Lib.hid hop
  have HM := Lib.hid hmem
  replace HRB := Lib.hid (n1.heap HRB.out id)
  obtain ⟨A, c, rfl⟩ := hrow.form
  have zB : W1.heap.size ≤ w1.heap.size := n1.size
  have HL := Lib.hid (show TRow w1 W1.heap.size (.slice A l.length c) l from hrow)
  replace NX := Lib.hid (NX.out.trans n1)
  clear hrow hop hmem n1
  go_wp2_with (go_at_call 49; fail)
  refine words_any _ _ ?_
  intro w2 g2 hg2 hlt2 n2
  replace HRB := Lib.hid (n2.heap HRB.out id)
  replace HL := Lib.hid (show TRow w2 W1.heap.size (.slice A l.length c) l from HL.out.ch n2 (fun _ _ e => e))
  replace NX := Lib.hid (NX.out.trans n2)
  have HG := Lib.hid hg2
  clear hg2 n2
  obtain ⟨w0, hw0⟩ : ∃ y, l[0]? = some y := ⟨_, List.getElem?_eq_getElem (by omega)⟩
  obtain ⟨g, rfl, hgB, hgs, hg0⟩ := TRow.at HL.out hw0
  have HW0 := Lib.hid hw0
  clear hw0
  have lw : (0 : Int) < (l.length : Int) := by omega
  obtain ⟨BW, hBW⟩ : ∃ X, (⟨w0.toArray⟩ : ByteArray) = X := ⟨_, rfl⟩
  have HBW := Lib.hid hBW
  rw [hBW] at hg0
  have HG0 := Lib.hid hg0
  clear hBW hg0
  go_wp2_with (fail)
  go_loopw [6] (fun s6 wr => ∃ i : Nat, s6 = .int .i64 i ∧ 1 ≤ i ∧ i ≤ 16 ∧ Hid (codeR w0 = codeFrom w0 (16 - i) i) ∧ Hid (Nw w2 wr)) (fun s6 _ => 16 - (intOf s6).toNat)
  case atStart => exact ⟨1, rfl, Nat.le_refl _, by omega, Lib.hid rfl, Lib.hid (Ch.refl _ _)⟩
  case round =>
    obtain ⟨i, rfl, hi1, hi2, HC, HW⟩ := hrel
    replace HRB := Lib.hid (HW.out.heap HRB.out id)
    replace HL := Lib.hid (show TRow wr W1.heap.size (.slice (some ⟨g, 0, none⟩) l.length c) l from HL.out.ch HW.out (fun _ _ e => e))
    replace HG := Lib.hid (show IsWords wr g2 from HW.out.heap HG.out id)
    replace HG0 := Lib.hid (HW.out.cell HG0.out id)
    replace NX := Lib.hid (NX.out.trans HW.out)
    have i0 : (0 : Int) ≤ (i : Int) := by omega
    by_cases hlt : i < 16
    · as_aux_lemma =>
      have i1 : (i : Int) < 16 := by omega
      have cw := HG.out.at hlt
      have c0 := HG0.out
      have hcmp := bytes_two (wordB (i : Int)) w0
      rw [HBW.out] at hcmp
      obtain ⟨BI, hBI⟩ : ∃ X, (⟨(wordB (i : Int)).toArray⟩ : ByteArray) = X := ⟨_, rfl⟩
      rw [hBI] at cw hcmp
      clear hBI
      have hcf := HC.out
      rw [show 16 - i = (15 - i) + 1 by omega] at hcf
      by_cases hw : wordB (i : Int) = w0
      · as_aux_lemma =>
        rw [decide_eq_true hw] at hcmp
        have hcf2 := hcf.trans (codeFrom_here hw)
        have HOL := Lib.hid (rOpL_at HW0.out hcf2)
        clear hcf hcf2 hw
        go_wp2
        go_quiet (fail)
        go_upto_region 7 with (fail)
        refine wp_named ?_
        intro WQ hW
        have n := Lib.hid (show Nw wr WQ from by rw [hW]; first | exact (Ch.refl _ _).drewN _ | exact (Ch.refl _ _).drew)
        replace HRB := Lib.hid (n.out.heap HRB.out id)
        replace HL := Lib.hid (show TRow WQ W1.heap.size (.slice (some ⟨g, 0, none⟩) l.length c) l from HL.out.ch n.out (fun _ _ e => e))
        replace NX := Lib.hid (NX.out.trans n.out)
        clear hW n cw c0 HG HG0 hcmp
        go_upto_region 8 with (fail)
        refine wp_named ?_
        intro WA hW
        have n : Nw WQ WA := by rw [hW]; exact (Ch.refl _ _).alloc _
        have HOB := Lib.hid (show WA.heap[WQ.heap.size]? = some (.cells #[.int .i64 (i : Nat), .int .i64 0, .int .i64 0] 49 (0, 0)) from by rw [hW]; exact heap_alloc_eq _ rfl)
        have zR : w.heap.size < WQ.heap.size := lt_of_heap HRB.out
        have zG : g < WQ.heap.size := (HL.out.lt g rfl).2
        replace HRB := Lib.hid (n.heap HRB.out id)
        replace HL := Lib.hid (HL.out.ch n (fun _ _ e => e))
        replace NX := Lib.hid (NX.out.trans n)
        clear hW n
        have q0 : WA.cell? ⟨WQ.heap.size, 0, none⟩ = some (.int .i64 (i : Nat)) := by rw [cell_of HOB.out]; rfl
        have q1 : WA.cell? ⟨WQ.heap.size, 1, none⟩ = some (.int .i64 0) := by rw [cell_of HOB.out]; rfl
        have q2 : WA.cell? ⟨WQ.heap.size, 2, none⟩ = some (.int .i64 0) := by rw [cell_of HOB.out]; rfl
        go_wp2_with (go_at_call 48; fail)
        refine uses_any (i : Int) _ _ ?_
        obtain ⟨uN, huN⟩ : ∃ b, usesN (i : Int) = b := ⟨_, rfl⟩
        obtain ⟨uM, huM⟩ : ∃ b, usesM (i : Int) = b := ⟨_, rfl⟩
        rw [huN, huM]
        have HUN := Lib.hid huN
        have HUM := Lib.hid huM
        clear huN huM q0 q1 q2
        cases uN with
        | false => as_aux_lemma =>
          cases uM with
          | true => exact absurd (usesNM HUM.out) (by rw [HUN.out]; decide)
          | false => as_aux_lemma =>
            by_cases hm : l.length = 1
            · as_aux_lemma =>
              have e5 : ((l.length : Int) != 1) = false := by simp; omega
              have HF := Lib.hid (HOP.out.trans (rop0 HOL.out HUN.out HUM.out hm))
              have r0 : WA.cell? ⟨w.heap.size, 0, none⟩ = some (.int .i64 0) := by rw [cell_of HRB.out]; rfl
              have fr0 : WA.frozen? ⟨w.heap.size, 0, none⟩ = false := frozen_of HRB.out
              have r1 : WA.cell? ⟨w.heap.size, 1, none⟩ = some (.int .i64 0) := by rw [cell_of HRB.out]; rfl
              have fr1 : WA.frozen? ⟨w.heap.size, 1, none⟩ = false := frozen_of HRB.out
              have r2 : WA.cell? ⟨w.heap.size, 2, none⟩ = some (.int .i64 0) := by rw [cell_of HRB.out]; rfl
              have fr2 : WA.frozen? ⟨w.heap.size, 2, none⟩ = false := frozen_of HRB.out
              have q0 : WA.cell? ⟨WQ.heap.size, 0, none⟩ = some (.int .i64 (i : Nat)) := by rw [cell_of HOB.out]; rfl
              have q1 : WA.cell? ⟨WQ.heap.size, 1, none⟩ = some (.int .i64 0) := by rw [cell_of HOB.out]; rfl
              have q2 : WA.cell? ⟨WQ.heap.size, 2, none⟩ = some (.int .i64 0) := by rw [cell_of HOB.out]; rfl
              go_wp2_with (fail)
              refine post_nm8 ?_
              intro WZ hW
              have hbz : WZ.heap[w.heap.size]? = some (.cells #[.int .i64 (i : Nat), .int .i64 0, .int .i64 0] 49 (0, 0)) := by rw [hW]; have h9 := heap_setCell_eq (o := 2) (.int .i64 0) (heap_setCell_eq (o := 1) (.int .i64 0) (heap_setCell_eq (o := 0) (.int .i64 (i : Nat)) HRB.out)); first | exact h9 | exact HRB.out
              have nz : Nw w WZ := by rw [hW]; first | exact ((NX.out.setb (fun h => by omega) _).setb (fun h => by omega) _).setb (fun h => by omega) _ | exact NX.out
              have zz0 : WZ.cell? ⟨w.heap.size, 0, none⟩ = some (.int .i64 (i : Nat)) := by rw [cell_of hbz]; rfl
              have zz1 : WZ.cell? ⟨w.heap.size, 1, none⟩ = some (.int .i64 0) := by rw [cell_of hbz]; rfl
              have zz2 : WZ.cell? ⟨w.heap.size, 2, none⟩ = some (.int .i64 0) := by rw [cell_of hbz]; rfl
              clear hW
              exact bodyPost_ret (v := .tuple #[.agg #[.int .i64 (i : Nat), .int .i64 0, .int .i64 0], .bool true]) (by simp [results, Tryz.results36, go_sem, zz0, zz1, zz2]) rfl (HS.out _ (i : Nat) 0 0 (HF.out) nz)
            · as_aux_lemma =>
              have e5 : ((l.length : Int) != 1) = true := by simp; omega
              have HF := Lib.hid (HOP.out.trans (ropX HOL.out (by unfold manyW; rw [HUN.out, HUM.out]; simpa using hm)))
              have r0 : WA.cell? ⟨w.heap.size, 0, none⟩ = some (.int .i64 0) := by rw [cell_of HRB.out]; rfl
              have fr0 : WA.frozen? ⟨w.heap.size, 0, none⟩ = false := frozen_of HRB.out
              have r1 : WA.cell? ⟨w.heap.size, 1, none⟩ = some (.int .i64 0) := by rw [cell_of HRB.out]; rfl
              have fr1 : WA.frozen? ⟨w.heap.size, 1, none⟩ = false := frozen_of HRB.out
              have r2 : WA.cell? ⟨w.heap.size, 2, none⟩ = some (.int .i64 0) := by rw [cell_of HRB.out]; rfl
              have fr2 : WA.frozen? ⟨w.heap.size, 2, none⟩ = false := frozen_of HRB.out
              go_wp2_with (fail)
              refine post_nm8 ?_
              intro WZ hW
              have hbz : WZ.heap[w.heap.size]? = some (.cells #[.int .i64 0, .int .i64 0, .int .i64 0] 49 (0, 0)) := by rw [hW]; have h9 := heap_setCell_eq (o := 2) (.int .i64 0) (heap_setCell_eq (o := 1) (.int .i64 0) (heap_setCell_eq (o := 0) (.int .i64 0) HRB.out)); first | exact h9 | exact HRB.out
              have nz : Nw w WZ := by rw [hW]; first | exact ((NX.out.setb (fun h => by omega) _).setb (fun h => by omega) _).setb (fun h => by omega) _ | exact NX.out
              have zz0 : WZ.cell? ⟨w.heap.size, 0, none⟩ = some (.int .i64 0) := by rw [cell_of hbz]; rfl
              have zz1 : WZ.cell? ⟨w.heap.size, 1, none⟩ = some (.int .i64 0) := by rw [cell_of hbz]; rfl
              have zz2 : WZ.cell? ⟨w.heap.size, 2, none⟩ = some (.int .i64 0) := by rw [cell_of hbz]; rfl
              clear hW
              exact bodyPost_ret (v := .tuple #[.agg #[.int .i64 0, .int .i64 0, .int .i64 0], .bool false]) (by simp [results, Tryz.results36, go_sem, zz0, zz1, zz2]) rfl (HN.out _ 0 0 0 (HF.out) nz)
        | true => as_aux_lemma =>
          cases uM with
          | false => as_aux_lemma =>
            by_cases hm : l.length = 2
            · as_aux_lemma =>
              have e5 : ((l.length : Int) != 2) = false := by simp; omega
              have q0 : WA.cell? ⟨WQ.heap.size, 0, none⟩ = some (.int .i64 (i : Nat)) := by rw [cell_of HOB.out]; rfl
              have fq0 : WA.frozen? ⟨WQ.heap.size, 0, none⟩ = false := frozen_of HOB.out
              have q1 : WA.cell? ⟨WQ.heap.size, 1, none⟩ = some (.int .i64 0) := by rw [cell_of HOB.out]; rfl
              have fq1 : WA.frozen? ⟨WQ.heap.size, 1, none⟩ = false := frozen_of HOB.out
              have q2 : WA.cell? ⟨WQ.heap.size, 2, none⟩ = some (.int .i64 0) := by rw [cell_of HOB.out]; rfl
              have fq2 : WA.frozen? ⟨WQ.heap.size, 2, none⟩ = false := frozen_of HOB.out
              obtain ⟨y1, hy1⟩ : ∃ y, l[1]? = some y := ⟨_, List.getElem?_eq_getElem (by omega)⟩
              have hlen1 := HM.out y1 (List.mem_of_getElem? hy1)
              obtain ⟨g9, e9, -, -, cy⟩ := TRow.at HL.out hy1
              injection e9 with e9
              injection e9 with e9
              subst e9
              have Hy1 := Lib.hid hy1
              clear hy1
              obtain ⟨YB1, hYB⟩ : ∃ X, (⟨y1.toArray⟩ : ByteArray) = X := ⟨_, rfl⟩
              have hYd : YB1.data.toList = y1 := by rw [← hYB]
              have ys : YB1.size = y1.length := by rw [← hYB]; exact List.size_toArray
              rw [hYB] at cy
              clear hYB
              have lk : (1 : Int) < (l.length : Int) := by omega
              go_wp2_with (go_at_call 54; fail)
              refine rnumber_any YB1 _ _ (by omega) ?_
              rw [hYd]
              intro w5 n
              replace HRB := Lib.hid (n.heap HRB.out id)
              replace HL := Lib.hid (HL.out.ch n (fun _ _ e => e))
              replace NX := Lib.hid (NX.out.trans n)
              replace HOB := Lib.hid (n.heap HOB.out id)
              clear n cy hYd ys q0 fq0 q1 fq1 q2 fq2
              obtain ⟨v1, hv1⟩ : ∃ x, (numM y1).1 = x := ⟨_, rfl⟩
              obtain ⟨b1, hb1⟩ : ∃ x, (numM y1).2 = x := ⟨_, rfl⟩
              rw [hv1, hb1]
              have Hv1 := Lib.hid hv1
              have Hb1 := Lib.hid hb1
              clear hv1 hb1
              have q0 : w5.cell? ⟨WQ.heap.size, 0, none⟩ = some (.int .i64 (i : Nat)) := by rw [cell_of HOB.out]; rfl
              have fq0 : w5.frozen? ⟨WQ.heap.size, 0, none⟩ = false := frozen_of HOB.out
              have q1 : w5.cell? ⟨WQ.heap.size, 1, none⟩ = some (.int .i64 0) := by rw [cell_of HOB.out]; rfl
              have fq1 : w5.frozen? ⟨WQ.heap.size, 1, none⟩ = false := frozen_of HOB.out
              have q2 : w5.cell? ⟨WQ.heap.size, 2, none⟩ = some (.int .i64 0) := by rw [cell_of HOB.out]; rfl
              have fq2 : w5.frozen? ⟨WQ.heap.size, 2, none⟩ = false := frozen_of HOB.out
              go_upto_region 19 with (fail)
              clear q0 fq0 q1 fq1 q2 fq2
              refine wp_named ?_
              intro W6 hW
              have n : Ch (· = WQ.heap.size) w5 W6 := by rw [hW]; exact (Ch.refl (fun x => x = WQ.heap.size) w5).setb (fun _ => rfl) _
              replace HRB := Lib.hid (n.heap HRB.out (by show ¬ w.heap.size = WQ.heap.size; omega))
              replace HL := Lib.hid (HL.out.ch' n (fun k hk e => by have e' : k = WQ.heap.size := e; have h9 : g = k := Option.some.inj hk; omega))
              replace NX := Lib.hid (NX.out.trans' n (fun j hj e => by have e' : j = WQ.heap.size := e; omega))
              have HOB := Lib.hid (show W6.heap[WQ.heap.size]? = some (.cells #[.int .i64 (i : Nat), .int .i64 v1, .int .i64 0] 49 (0, 0)) from by rw [hW]; exact heap_setCell_eq (o := 1) _ HOB.out)
              clear hW n
              have HF := Lib.hid (HOP.out.trans (rop1 HOL.out HUN.out HUM.out hm Hy1.out))
              cases b1 with
              | true => as_aux_lemma =>
                have r0 : W6.cell? ⟨w.heap.size, 0, none⟩ = some (.int .i64 0) := by rw [cell_of HRB.out]; rfl
                have fr0 : W6.frozen? ⟨w.heap.size, 0, none⟩ = false := frozen_of HRB.out
                have r1 : W6.cell? ⟨w.heap.size, 1, none⟩ = some (.int .i64 0) := by rw [cell_of HRB.out]; rfl
                have fr1 : W6.frozen? ⟨w.heap.size, 1, none⟩ = false := frozen_of HRB.out
                have r2 : W6.cell? ⟨w.heap.size, 2, none⟩ = some (.int .i64 0) := by rw [cell_of HRB.out]; rfl
                have fr2 : W6.frozen? ⟨w.heap.size, 2, none⟩ = false := frozen_of HRB.out
                have q0 : W6.cell? ⟨WQ.heap.size, 0, none⟩ = some (.int .i64 (i : Nat)) := by rw [cell_of HOB.out]; rfl
                have q1 : W6.cell? ⟨WQ.heap.size, 1, none⟩ = some (.int .i64 v1) := by rw [cell_of HOB.out]; rfl
                have q2 : W6.cell? ⟨WQ.heap.size, 2, none⟩ = some (.int .i64 0) := by rw [cell_of HOB.out]; rfl
                go_wp2_with (fail)
                refine post_nm8 ?_
                intro WZ hW
                have hbz : WZ.heap[w.heap.size]? = some (.cells #[.int .i64 (i : Nat), .int .i64 v1, .int .i64 0] 49 (0, 0)) := by rw [hW]; have h9 := heap_setCell_eq (o := 2) (.int .i64 0) (heap_setCell_eq (o := 1) (.int .i64 v1) (heap_setCell_eq (o := 0) (.int .i64 (i : Nat)) HRB.out)); first | exact h9 | exact HRB.out
                have nz : Nw w WZ := by rw [hW]; first | exact ((NX.out.setb (fun h => by omega) _).setb (fun h => by omega) _).setb (fun h => by omega) _ | exact NX.out
                have zz0 : WZ.cell? ⟨w.heap.size, 0, none⟩ = some (.int .i64 (i : Nat)) := by rw [cell_of hbz]; rfl
                have zz1 : WZ.cell? ⟨w.heap.size, 1, none⟩ = some (.int .i64 v1) := by rw [cell_of hbz]; rfl
                have zz2 : WZ.cell? ⟨w.heap.size, 2, none⟩ = some (.int .i64 0) := by rw [cell_of hbz]; rfl
                clear hW
                exact bodyPost_ret (v := .tuple #[.agg #[.int .i64 (i : Nat), .int .i64 v1, .int .i64 0], .bool true]) (by simp [results, Tryz.results36, go_sem, zz0, zz1, zz2]) rfl (HS.out _ (i : Nat) v1 0 (by have h := HF.out; rw [Hb1.out] at h; rw [h, Hv1.out]; rfl) nz)
              | false => as_aux_lemma =>
                have r0 : W6.cell? ⟨w.heap.size, 0, none⟩ = some (.int .i64 0) := by rw [cell_of HRB.out]; rfl
                have fr0 : W6.frozen? ⟨w.heap.size, 0, none⟩ = false := frozen_of HRB.out
                have r1 : W6.cell? ⟨w.heap.size, 1, none⟩ = some (.int .i64 0) := by rw [cell_of HRB.out]; rfl
                have fr1 : W6.frozen? ⟨w.heap.size, 1, none⟩ = false := frozen_of HRB.out
                have r2 : W6.cell? ⟨w.heap.size, 2, none⟩ = some (.int .i64 0) := by rw [cell_of HRB.out]; rfl
                have fr2 : W6.frozen? ⟨w.heap.size, 2, none⟩ = false := frozen_of HRB.out
                have q0 : W6.cell? ⟨WQ.heap.size, 0, none⟩ = some (.int .i64 (i : Nat)) := by rw [cell_of HOB.out]; rfl
                have q1 : W6.cell? ⟨WQ.heap.size, 1, none⟩ = some (.int .i64 v1) := by rw [cell_of HOB.out]; rfl
                have q2 : W6.cell? ⟨WQ.heap.size, 2, none⟩ = some (.int .i64 0) := by rw [cell_of HOB.out]; rfl
                go_wp2_with (fail)
                refine post_nm8 ?_
                intro WZ hW
                have hbz : WZ.heap[w.heap.size]? = some (.cells #[.int .i64 (i : Nat), .int .i64 v1, .int .i64 0] 49 (0, 0)) := by rw [hW]; have h9 := heap_setCell_eq (o := 2) (.int .i64 0) (heap_setCell_eq (o := 1) (.int .i64 v1) (heap_setCell_eq (o := 0) (.int .i64 (i : Nat)) HRB.out)); first | exact h9 | exact HRB.out
                have nz : Nw w WZ := by rw [hW]; first | exact ((NX.out.setb (fun h => by omega) _).setb (fun h => by omega) _).setb (fun h => by omega) _ | exact NX.out
                have zz0 : WZ.cell? ⟨w.heap.size, 0, none⟩ = some (.int .i64 (i : Nat)) := by rw [cell_of hbz]; rfl
                have zz1 : WZ.cell? ⟨w.heap.size, 1, none⟩ = some (.int .i64 v1) := by rw [cell_of hbz]; rfl
                have zz2 : WZ.cell? ⟨w.heap.size, 2, none⟩ = some (.int .i64 0) := by rw [cell_of hbz]; rfl
                clear hW
                exact bodyPost_ret (v := .tuple #[.agg #[.int .i64 (i : Nat), .int .i64 v1, .int .i64 0], .bool false]) (by simp [results, Tryz.results36, go_sem, zz0, zz1, zz2]) rfl (HN.out _ (i : Nat) v1 0 (by have h := HF.out; rw [Hb1.out] at h; rw [h]; rfl) nz)
            · as_aux_lemma =>
              have e5 : ((l.length : Int) != 2) = true := by simp; omega
              have HF := Lib.hid (HOP.out.trans (ropX HOL.out (by unfold manyW; rw [HUN.out, HUM.out]; simpa using hm)))
              have r0 : WA.cell? ⟨w.heap.size, 0, none⟩ = some (.int .i64 0) := by rw [cell_of HRB.out]; rfl
              have fr0 : WA.frozen? ⟨w.heap.size, 0, none⟩ = false := frozen_of HRB.out
              have r1 : WA.cell? ⟨w.heap.size, 1, none⟩ = some (.int .i64 0) := by rw [cell_of HRB.out]; rfl
              have fr1 : WA.frozen? ⟨w.heap.size, 1, none⟩ = false := frozen_of HRB.out
              have r2 : WA.cell? ⟨w.heap.size, 2, none⟩ = some (.int .i64 0) := by rw [cell_of HRB.out]; rfl
              have fr2 : WA.frozen? ⟨w.heap.size, 2, none⟩ = false := frozen_of HRB.out
              go_wp2_with (fail)
              refine post_nm8 ?_
              intro WZ hW
              have hbz : WZ.heap[w.heap.size]? = some (.cells #[.int .i64 0, .int .i64 0, .int .i64 0] 49 (0, 0)) := by rw [hW]; have h9 := heap_setCell_eq (o := 2) (.int .i64 0) (heap_setCell_eq (o := 1) (.int .i64 0) (heap_setCell_eq (o := 0) (.int .i64 0) HRB.out)); first | exact h9 | exact HRB.out
              have nz : Nw w WZ := by rw [hW]; first | exact ((NX.out.setb (fun h => by omega) _).setb (fun h => by omega) _).setb (fun h => by omega) _ | exact NX.out
              have zz0 : WZ.cell? ⟨w.heap.size, 0, none⟩ = some (.int .i64 0) := by rw [cell_of hbz]; rfl
              have zz1 : WZ.cell? ⟨w.heap.size, 1, none⟩ = some (.int .i64 0) := by rw [cell_of hbz]; rfl
              have zz2 : WZ.cell? ⟨w.heap.size, 2, none⟩ = some (.int .i64 0) := by rw [cell_of hbz]; rfl
              clear hW
              exact bodyPost_ret (v := .tuple #[.agg #[.int .i64 0, .int .i64 0, .int .i64 0], .bool false]) (by simp [results, Tryz.results36, go_sem, zz0, zz1, zz2]) rfl (HN.out _ 0 0 0 (HF.out) nz)
          | true => as_aux_lemma =>
            by_cases hm : l.length = 3
            · as_aux_lemma =>
              have e5 : ((l.length : Int) != 3) = false := by simp; omega
              have q0 : WA.cell? ⟨WQ.heap.size, 0, none⟩ = some (.int .i64 (i : Nat)) := by rw [cell_of HOB.out]; rfl
              have fq0 : WA.frozen? ⟨WQ.heap.size, 0, none⟩ = false := frozen_of HOB.out
              have q1 : WA.cell? ⟨WQ.heap.size, 1, none⟩ = some (.int .i64 0) := by rw [cell_of HOB.out]; rfl
              have fq1 : WA.frozen? ⟨WQ.heap.size, 1, none⟩ = false := frozen_of HOB.out
              have q2 : WA.cell? ⟨WQ.heap.size, 2, none⟩ = some (.int .i64 0) := by rw [cell_of HOB.out]; rfl
              have fq2 : WA.frozen? ⟨WQ.heap.size, 2, none⟩ = false := frozen_of HOB.out
              obtain ⟨y1, hy1⟩ : ∃ y, l[1]? = some y := ⟨_, List.getElem?_eq_getElem (by omega)⟩
              have hlen1 := HM.out y1 (List.mem_of_getElem? hy1)
              obtain ⟨g9, e9, -, -, cy⟩ := TRow.at HL.out hy1
              injection e9 with e9
              injection e9 with e9
              subst e9
              have Hy1 := Lib.hid hy1
              clear hy1
              obtain ⟨YB1, hYB⟩ : ∃ X, (⟨y1.toArray⟩ : ByteArray) = X := ⟨_, rfl⟩
              have hYd : YB1.data.toList = y1 := by rw [← hYB]
              have ys : YB1.size = y1.length := by rw [← hYB]; exact List.size_toArray
              rw [hYB] at cy
              clear hYB
              have lk : (1 : Int) < (l.length : Int) := by omega
              go_wp2_with (go_at_call 54; fail)
              refine rnumber_any YB1 _ _ (by omega) ?_
              rw [hYd]
              intro w5 n
              replace HRB := Lib.hid (n.heap HRB.out id)
              replace HL := Lib.hid (HL.out.ch n (fun _ _ e => e))
              replace NX := Lib.hid (NX.out.trans n)
              replace HOB := Lib.hid (n.heap HOB.out id)
              clear n cy hYd ys q0 fq0 q1 fq1 q2 fq2
              obtain ⟨v1, hv1⟩ : ∃ x, (numM y1).1 = x := ⟨_, rfl⟩
              obtain ⟨b1, hb1⟩ : ∃ x, (numM y1).2 = x := ⟨_, rfl⟩
              rw [hv1, hb1]
              have Hv1 := Lib.hid hv1
              have Hb1 := Lib.hid hb1
              clear hv1 hb1
              have q0 : w5.cell? ⟨WQ.heap.size, 0, none⟩ = some (.int .i64 (i : Nat)) := by rw [cell_of HOB.out]; rfl
              have fq0 : w5.frozen? ⟨WQ.heap.size, 0, none⟩ = false := frozen_of HOB.out
              have q1 : w5.cell? ⟨WQ.heap.size, 1, none⟩ = some (.int .i64 0) := by rw [cell_of HOB.out]; rfl
              have fq1 : w5.frozen? ⟨WQ.heap.size, 1, none⟩ = false := frozen_of HOB.out
              have q2 : w5.cell? ⟨WQ.heap.size, 2, none⟩ = some (.int .i64 0) := by rw [cell_of HOB.out]; rfl
              have fq2 : w5.frozen? ⟨WQ.heap.size, 2, none⟩ = false := frozen_of HOB.out
              go_upto_region 19 with (fail)
              clear q0 fq0 q1 fq1 q2 fq2
              refine wp_named ?_
              intro W6 hW
              have n : Ch (· = WQ.heap.size) w5 W6 := by rw [hW]; exact (Ch.refl (fun x => x = WQ.heap.size) w5).setb (fun _ => rfl) _
              replace HRB := Lib.hid (n.heap HRB.out (by show ¬ w.heap.size = WQ.heap.size; omega))
              replace HL := Lib.hid (HL.out.ch' n (fun k hk e => by have e' : k = WQ.heap.size := e; have h9 : g = k := Option.some.inj hk; omega))
              replace NX := Lib.hid (NX.out.trans' n (fun j hj e => by have e' : j = WQ.heap.size := e; omega))
              have HOB := Lib.hid (show W6.heap[WQ.heap.size]? = some (.cells #[.int .i64 (i : Nat), .int .i64 v1, .int .i64 0] 49 (0, 0)) from by rw [hW]; exact heap_setCell_eq (o := 1) _ HOB.out)
              clear hW n
              cases b1 with
              | false => as_aux_lemma =>
                obtain ⟨y2, hy2⟩ : ∃ y, l[2]? = some y := ⟨_, List.getElem?_eq_getElem (by omega)⟩
                have HF := Lib.hid (HOP.out.trans (rop2 HOL.out HUN.out HUM.out hm Hy1.out hy2))
                have r0 : W6.cell? ⟨w.heap.size, 0, none⟩ = some (.int .i64 0) := by rw [cell_of HRB.out]; rfl
                have fr0 : W6.frozen? ⟨w.heap.size, 0, none⟩ = false := frozen_of HRB.out
                have r1 : W6.cell? ⟨w.heap.size, 1, none⟩ = some (.int .i64 0) := by rw [cell_of HRB.out]; rfl
                have fr1 : W6.frozen? ⟨w.heap.size, 1, none⟩ = false := frozen_of HRB.out
                have r2 : W6.cell? ⟨w.heap.size, 2, none⟩ = some (.int .i64 0) := by rw [cell_of HRB.out]; rfl
                have fr2 : W6.frozen? ⟨w.heap.size, 2, none⟩ = false := frozen_of HRB.out
                have q0 : W6.cell? ⟨WQ.heap.size, 0, none⟩ = some (.int .i64 (i : Nat)) := by rw [cell_of HOB.out]; rfl
                have q1 : W6.cell? ⟨WQ.heap.size, 1, none⟩ = some (.int .i64 v1) := by rw [cell_of HOB.out]; rfl
                have q2 : W6.cell? ⟨WQ.heap.size, 2, none⟩ = some (.int .i64 0) := by rw [cell_of HOB.out]; rfl
                go_wp2_with (fail)
                refine post_nm8 ?_
                intro WZ hW
                have hbz : WZ.heap[w.heap.size]? = some (.cells #[.int .i64 (i : Nat), .int .i64 v1, .int .i64 0] 49 (0, 0)) := by rw [hW]; have h9 := heap_setCell_eq (o := 2) (.int .i64 0) (heap_setCell_eq (o := 1) (.int .i64 v1) (heap_setCell_eq (o := 0) (.int .i64 (i : Nat)) HRB.out)); first | exact h9 | exact HRB.out
                have nz : Nw w WZ := by rw [hW]; first | exact ((NX.out.setb (fun h => by omega) _).setb (fun h => by omega) _).setb (fun h => by omega) _ | exact NX.out
                have zz0 : WZ.cell? ⟨w.heap.size, 0, none⟩ = some (.int .i64 (i : Nat)) := by rw [cell_of hbz]; rfl
                have zz1 : WZ.cell? ⟨w.heap.size, 1, none⟩ = some (.int .i64 v1) := by rw [cell_of hbz]; rfl
                have zz2 : WZ.cell? ⟨w.heap.size, 2, none⟩ = some (.int .i64 0) := by rw [cell_of hbz]; rfl
                clear hW
                exact bodyPost_ret (v := .tuple #[.agg #[.int .i64 (i : Nat), .int .i64 v1, .int .i64 0], .bool false]) (by simp [results, Tryz.results36, go_sem, zz0, zz1, zz2]) rfl (HN.out _ (i : Nat) v1 0 (by have h := HF.out; rw [Hb1.out] at h; rw [h]; rfl) nz)
              | true => as_aux_lemma =>
                have q0 : W6.cell? ⟨WQ.heap.size, 0, none⟩ = some (.int .i64 (i : Nat)) := by rw [cell_of HOB.out]; rfl
                have fq0 : W6.frozen? ⟨WQ.heap.size, 0, none⟩ = false := frozen_of HOB.out
                have q1 : W6.cell? ⟨WQ.heap.size, 1, none⟩ = some (.int .i64 v1) := by rw [cell_of HOB.out]; rfl
                have fq1 : W6.frozen? ⟨WQ.heap.size, 1, none⟩ = false := frozen_of HOB.out
                have q2 : W6.cell? ⟨WQ.heap.size, 2, none⟩ = some (.int .i64 0) := by rw [cell_of HOB.out]; rfl
                have fq2 : W6.frozen? ⟨WQ.heap.size, 2, none⟩ = false := frozen_of HOB.out
                obtain ⟨y2, hy2⟩ : ∃ y, l[2]? = some y := ⟨_, List.getElem?_eq_getElem (by omega)⟩
                have hlen2 := HM.out y2 (List.mem_of_getElem? hy2)
                obtain ⟨g9, e9, -, -, cy⟩ := TRow.at HL.out hy2
                injection e9 with e9
                injection e9 with e9
                subst e9
                have Hy2 := Lib.hid hy2
                clear hy2
                obtain ⟨YB2, hYB⟩ : ∃ X, (⟨y2.toArray⟩ : ByteArray) = X := ⟨_, rfl⟩
                have hYd : YB2.data.toList = y2 := by rw [← hYB]
                have ys : YB2.size = y2.length := by rw [← hYB]; exact List.size_toArray
                rw [hYB] at cy
                clear hYB
                have lk : (2 : Int) < (l.length : Int) := by omega
                go_wp2_with (go_at_call 54; fail)
                refine rnumber_any YB2 _ _ (by omega) ?_
                rw [hYd]
                intro w7 n
                replace HRB := Lib.hid (n.heap HRB.out id)
                replace HL := Lib.hid (HL.out.ch n (fun _ _ e => e))
                replace NX := Lib.hid (NX.out.trans n)
                replace HOB := Lib.hid (n.heap HOB.out id)
                clear n cy hYd ys q0 fq0 q1 fq1 q2 fq2
                obtain ⟨v2, hv2⟩ : ∃ x, (numM y2).1 = x := ⟨_, rfl⟩
                obtain ⟨b2, hb2⟩ : ∃ x, (numM y2).2 = x := ⟨_, rfl⟩
                rw [hv2, hb2]
                have Hv2 := Lib.hid hv2
                have Hb2 := Lib.hid hb2
                clear hv2 hb2
                have q0 : w7.cell? ⟨WQ.heap.size, 0, none⟩ = some (.int .i64 (i : Nat)) := by rw [cell_of HOB.out]; rfl
                have fq0 : w7.frozen? ⟨WQ.heap.size, 0, none⟩ = false := frozen_of HOB.out
                have q1 : w7.cell? ⟨WQ.heap.size, 1, none⟩ = some (.int .i64 v1) := by rw [cell_of HOB.out]; rfl
                have fq1 : w7.frozen? ⟨WQ.heap.size, 1, none⟩ = false := frozen_of HOB.out
                have q2 : w7.cell? ⟨WQ.heap.size, 2, none⟩ = some (.int .i64 0) := by rw [cell_of HOB.out]; rfl
                have fq2 : w7.frozen? ⟨WQ.heap.size, 2, none⟩ = false := frozen_of HOB.out
                go_upto_region 21 with (fail)
                clear q0 fq0 q1 fq1 q2 fq2
                refine wp_named ?_
                intro W8 hW
                have n : Ch (· = WQ.heap.size) w7 W8 := by rw [hW]; exact (Ch.refl (fun x => x = WQ.heap.size) w7).setb (fun _ => rfl) _
                replace HRB := Lib.hid (n.heap HRB.out (by show ¬ w.heap.size = WQ.heap.size; omega))
                replace HL := Lib.hid (HL.out.ch' n (fun k hk e => by have e' : k = WQ.heap.size := e; have h9 : g = k := Option.some.inj hk; omega))
                replace NX := Lib.hid (NX.out.trans' n (fun j hj e => by have e' : j = WQ.heap.size := e; omega))
                have HOB := Lib.hid (show W8.heap[WQ.heap.size]? = some (.cells #[.int .i64 (i : Nat), .int .i64 v1, .int .i64 v2] 49 (0, 0)) from by rw [hW]; exact heap_setCell_eq (o := 2) _ HOB.out)
                clear hW n
                have HF := Lib.hid (HOP.out.trans (rop2 HOL.out HUN.out HUM.out hm Hy1.out Hy2.out))
                cases b2 with
                | true => as_aux_lemma =>
                  have r0 : W8.cell? ⟨w.heap.size, 0, none⟩ = some (.int .i64 0) := by rw [cell_of HRB.out]; rfl
                  have fr0 : W8.frozen? ⟨w.heap.size, 0, none⟩ = false := frozen_of HRB.out
                  have r1 : W8.cell? ⟨w.heap.size, 1, none⟩ = some (.int .i64 0) := by rw [cell_of HRB.out]; rfl
                  have fr1 : W8.frozen? ⟨w.heap.size, 1, none⟩ = false := frozen_of HRB.out
                  have r2 : W8.cell? ⟨w.heap.size, 2, none⟩ = some (.int .i64 0) := by rw [cell_of HRB.out]; rfl
                  have fr2 : W8.frozen? ⟨w.heap.size, 2, none⟩ = false := frozen_of HRB.out
                  have q0 : W8.cell? ⟨WQ.heap.size, 0, none⟩ = some (.int .i64 (i : Nat)) := by rw [cell_of HOB.out]; rfl
                  have q1 : W8.cell? ⟨WQ.heap.size, 1, none⟩ = some (.int .i64 v1) := by rw [cell_of HOB.out]; rfl
                  have q2 : W8.cell? ⟨WQ.heap.size, 2, none⟩ = some (.int .i64 v2) := by rw [cell_of HOB.out]; rfl
                  go_wp2_with (fail)
                  refine post_nm8 ?_
                  intro WZ hW
                  have hbz : WZ.heap[w.heap.size]? = some (.cells #[.int .i64 (i : Nat), .int .i64 v1, .int .i64 v2] 49 (0, 0)) := by rw [hW]; have h9 := heap_setCell_eq (o := 2) (.int .i64 v2) (heap_setCell_eq (o := 1) (.int .i64 v1) (heap_setCell_eq (o := 0) (.int .i64 (i : Nat)) HRB.out)); first | exact h9 | exact HRB.out
                  have nz : Nw w WZ := by rw [hW]; first | exact ((NX.out.setb (fun h => by omega) _).setb (fun h => by omega) _).setb (fun h => by omega) _ | exact NX.out
                  have zz0 : WZ.cell? ⟨w.heap.size, 0, none⟩ = some (.int .i64 (i : Nat)) := by rw [cell_of hbz]; rfl
                  have zz1 : WZ.cell? ⟨w.heap.size, 1, none⟩ = some (.int .i64 v1) := by rw [cell_of hbz]; rfl
                  have zz2 : WZ.cell? ⟨w.heap.size, 2, none⟩ = some (.int .i64 v2) := by rw [cell_of hbz]; rfl
                  clear hW
                  exact bodyPost_ret (v := .tuple #[.agg #[.int .i64 (i : Nat), .int .i64 v1, .int .i64 v2], .bool true]) (by simp [results, Tryz.results36, go_sem, zz0, zz1, zz2]) rfl (HS.out _ (i : Nat) v1 v2 (by have h := HF.out; rw [Hb1.out, Hb2.out] at h; rw [h, Hv1.out, Hv2.out]; rfl) nz)
                | false => as_aux_lemma =>
                  have r0 : W8.cell? ⟨w.heap.size, 0, none⟩ = some (.int .i64 0) := by rw [cell_of HRB.out]; rfl
                  have fr0 : W8.frozen? ⟨w.heap.size, 0, none⟩ = false := frozen_of HRB.out
                  have r1 : W8.cell? ⟨w.heap.size, 1, none⟩ = some (.int .i64 0) := by rw [cell_of HRB.out]; rfl
                  have fr1 : W8.frozen? ⟨w.heap.size, 1, none⟩ = false := frozen_of HRB.out
                  have r2 : W8.cell? ⟨w.heap.size, 2, none⟩ = some (.int .i64 0) := by rw [cell_of HRB.out]; rfl
                  have fr2 : W8.frozen? ⟨w.heap.size, 2, none⟩ = false := frozen_of HRB.out
                  have q0 : W8.cell? ⟨WQ.heap.size, 0, none⟩ = some (.int .i64 (i : Nat)) := by rw [cell_of HOB.out]; rfl
                  have q1 : W8.cell? ⟨WQ.heap.size, 1, none⟩ = some (.int .i64 v1) := by rw [cell_of HOB.out]; rfl
                  have q2 : W8.cell? ⟨WQ.heap.size, 2, none⟩ = some (.int .i64 v2) := by rw [cell_of HOB.out]; rfl
                  go_wp2_with (fail)
                  refine post_nm8 ?_
                  intro WZ hW
                  have hbz : WZ.heap[w.heap.size]? = some (.cells #[.int .i64 (i : Nat), .int .i64 v1, .int .i64 v2] 49 (0, 0)) := by rw [hW]; have h9 := heap_setCell_eq (o := 2) (.int .i64 v2) (heap_setCell_eq (o := 1) (.int .i64 v1) (heap_setCell_eq (o := 0) (.int .i64 (i : Nat)) HRB.out)); first | exact h9 | exact HRB.out
                  have nz : Nw w WZ := by rw [hW]; first | exact ((NX.out.setb (fun h => by omega) _).setb (fun h => by omega) _).setb (fun h => by omega) _ | exact NX.out
                  have zz0 : WZ.cell? ⟨w.heap.size, 0, none⟩ = some (.int .i64 (i : Nat)) := by rw [cell_of hbz]; rfl
                  have zz1 : WZ.cell? ⟨w.heap.size, 1, none⟩ = some (.int .i64 v1) := by rw [cell_of hbz]; rfl
                  have zz2 : WZ.cell? ⟨w.heap.size, 2, none⟩ = some (.int .i64 v2) := by rw [cell_of hbz]; rfl
                  clear hW
                  exact bodyPost_ret (v := .tuple #[.agg #[.int .i64 (i : Nat), .int .i64 v1, .int .i64 v2], .bool false]) (by simp [results, Tryz.results36, go_sem, zz0, zz1, zz2]) rfl (HN.out _ (i : Nat) v1 v2 (by have h := HF.out; rw [Hb1.out, Hb2.out] at h; rw [h]; rfl) nz)
            · as_aux_lemma =>
              have e5 : ((l.length : Int) != 3) = true := by simp; omega
              have HF := Lib.hid (HOP.out.trans (ropX HOL.out (by unfold manyW; rw [HUN.out, HUM.out]; simpa using hm)))
              have r0 : WA.cell? ⟨w.heap.size, 0, none⟩ = some (.int .i64 0) := by rw [cell_of HRB.out]; rfl
              have fr0 : WA.frozen? ⟨w.heap.size, 0, none⟩ = false := frozen_of HRB.out
              have r1 : WA.cell? ⟨w.heap.size, 1, none⟩ = some (.int .i64 0) := by rw [cell_of HRB.out]; rfl
              have fr1 : WA.frozen? ⟨w.heap.size, 1, none⟩ = false := frozen_of HRB.out
              have r2 : WA.cell? ⟨w.heap.size, 2, none⟩ = some (.int .i64 0) := by rw [cell_of HRB.out]; rfl
              have fr2 : WA.frozen? ⟨w.heap.size, 2, none⟩ = false := frozen_of HRB.out
              go_wp2_with (fail)
              refine post_nm8 ?_
              intro WZ hW
              have hbz : WZ.heap[w.heap.size]? = some (.cells #[.int .i64 0, .int .i64 0, .int .i64 0] 49 (0, 0)) := by rw [hW]; have h9 := heap_setCell_eq (o := 2) (.int .i64 0) (heap_setCell_eq (o := 1) (.int .i64 0) (heap_setCell_eq (o := 0) (.int .i64 0) HRB.out)); first | exact h9 | exact HRB.out
              have nz : Nw w WZ := by rw [hW]; first | exact ((NX.out.setb (fun h => by omega) _).setb (fun h => by omega) _).setb (fun h => by omega) _ | exact NX.out
              have zz0 : WZ.cell? ⟨w.heap.size, 0, none⟩ = some (.int .i64 0) := by rw [cell_of hbz]; rfl
              have zz1 : WZ.cell? ⟨w.heap.size, 1, none⟩ = some (.int .i64 0) := by rw [cell_of hbz]; rfl
              have zz2 : WZ.cell? ⟨w.heap.size, 2, none⟩ = some (.int .i64 0) := by rw [cell_of hbz]; rfl
              clear hW
              exact bodyPost_ret (v := .tuple #[.agg #[.int .i64 0, .int .i64 0, .int .i64 0], .bool false]) (by simp [results, Tryz.results36, go_sem, zz0, zz1, zz2]) rfl (HN.out _ 0 0 0 (HF.out) nz)
      · as_aux_lemma =>
        rw [decide_eq_false hw] at hcmp
        have HCF := Lib.hid (hcf.trans (codeFrom_step hw))
        clear hcf hw
        go_wp2
        go_quiet (fail)
        go_wp2
        refine ⟨⟨i + 1, by go_num, by omega, by omega, Lib.hid ?_, Lib.hid (by first | exact HW.out.drewN _ | exact HW.out.drew)⟩, by simp [intOf]; omega⟩
        rw [show 16 - (i + 1) = 15 - i by omega]
        exact HCF.out
    · as_aux_lemma =>
      have i1 : ¬ (i : Int) < 16 := by omega
      have hcf := HC.out
      rw [show 16 - i = 0 by omega, codeFrom] at hcf
      have HNO := Lib.hid (HOP.out.trans (rOpL_none HW0.out hcf))
      clear hcf HC
      have r0 : wr.cell? ⟨w.heap.size, 0, none⟩ = some (.int .i64 0) := by rw [cell_of HRB.out]; rfl
      have r1 : wr.cell? ⟨w.heap.size, 1, none⟩ = some (.int .i64 0) := by rw [cell_of HRB.out]; rfl
      have r2 : wr.cell? ⟨w.heap.size, 2, none⟩ = some (.int .i64 0) := by rw [cell_of HRB.out]; rfl
      have f0 : wr.frozen? ⟨w.heap.size, 0, none⟩ = false := frozen_of HRB.out
      have f1 : wr.frozen? ⟨w.heap.size, 1, none⟩ = false := frozen_of HRB.out
      have f2 : wr.frozen? ⟨w.heap.size, 2, none⟩ = false := frozen_of HRB.out
      go_wp2_with (fail)
      refine post_nm8 ?_
      intro WZ hW
      have hbz : WZ.heap[w.heap.size]? = some (.cells #[.int .i64 0, .int .i64 0, .int .i64 0] 49 (0, 0)) := by rw [hW]; first | exact heap_setCell_eq _ (heap_setCell_eq _ (heap_setCell_eq _ HRB.out)) | exact HRB.out
      have nz : Nw w WZ := by rw [hW]; first | exact ((NX.out.setb (fun h => by omega) _).setb (fun h => by omega) _).setb (fun h => by omega) _ | exact NX.out
      have zz0 : WZ.cell? ⟨w.heap.size, 0, none⟩ = some (.int .i64 0) := by rw [cell_of hbz]; rfl
      have zz1 : WZ.cell? ⟨w.heap.size, 1, none⟩ = some (.int .i64 0) := by rw [cell_of hbz]; rfl
      have zz2 : WZ.cell? ⟨w.heap.size, 2, none⟩ = some (.int .i64 0) := by rw [cell_of hbz]; rfl
      clear hW
      exact bodyPost_ret (v := .tuple #[.agg #[.int .i64 0, .int .i64 0, .int .i64 0], .bool false]) (by simp [results, Tryz.results36, go_sem, zz0, zz1, zz2]) rfl (HN.out _ 0 0 0 HNO.out nz)
end Go.Proofs.YtdpbdcaefdcooaaGreatDoor
