/-
  ref08.Parse: the program of a text.
-/
import Derived.Test.YtdpbdcaefdcooaaGreatDoorR8p
import Derived.Test.YtdpbdcaefdcooaaGreatDoorMo8
import Derived.Deep.Cut
import Derived.Deep.Upon
namespace Go.Proofs.YtdpbdcaefdcooaaGreatDoor
open Go.RowKit
set_option linter.unusedVariables false
set_option linter.unusedSimpArgs false
set_option maxRecDepth 100000

theorem isEmpty_dec8 (l : List UInt8) : l.isEmpty = decide (l = []) := by cases l <;> simp
theorem rP_nil : rParseM [] = ([], true) := rfl
theorem rP_none {s : List UInt8} (h : s ≠ []) (e : rOpsL (Lib.split s [59, 32]) = none) : rParseM s = ([], false) := by unfold rParseM; rw [if_neg h, e]
theorem rP_some {s : List UInt8} {P : List VOp} (h : s ≠ []) (e : rOpsL (Lib.split s [59, 32]) = some P) : rParseM s = (P, true) := by unfold rParseM; rw [if_neg h, e]

set_option maxHeartbeats 8000000 in
theorem rparse_any (s : ByteArray) (w : World) (R : Ending → World → Prop) (hs : s.size ≤ 80000)
    (hR : ∀ w' x, ORow w' w.heap.size x (rParseM s.data.toList).1 → Nw w w' → R (.returned (.tuple #[x, .bool (rParseM s.data.toList).2])) w') : Calls Tryz.prog 14 #[.string s] w R := by
  have HR := Lib.hid hR
  clear hR
  obtain ⟨L, hL⟩ : ∃ L, s.data.toList = L := ⟨_, rfl⟩
  have hlen : L.length = s.size := by rw [← hL]; simp
  have HL := Lib.hid hL
  rw [hL] at HR
  have htl : s.toList.isEmpty = decide (L = []) := by rw [ByteArray.toList_eq, hL]; exact isEmpty_dec8 L
  clear hL
  by_cases h0 : L = []
  · as_aux_lemma =>
    rw [decide_eq_true h0] at htl
    subst h0
    clear hlen HL
    go_enter Tryz.func14, Tryz.ntmps14
    go_wp2
    exact HR.out _ _ (CRow.nil _ _) (Ch.refl _ _)
  · as_aux_lemma =>
    rw [decide_eq_false h0] at htl
    have HNE := Lib.hid h0
    clear h0
    go_enter Tryz.func14, Tryz.ntmps14
    go_wp2_with (go_at_call 35; fail)
    refine rsplit_any s ⟨#[59, 32]⟩ _ _ (by omega) (by decide) (by decide) ?_
    rw [HL.out, show (⟨#[59, 32]⟩ : ByteArray).data.toList = [59, 32] from rfl]
    intro w1 v hrow n1
    obtain ⟨ws, hws⟩ : ∃ ws, Lib.split L [59, 32] = ws := ⟨_, rfl⟩
    have hcnt := split_cnt8 L [59, 32]
    have hmem := fun x => split_mem8 (s := L) (sep := [59, 32]) (x := x)
    rw [hws] at hrow hcnt hmem
    have HWS := Lib.hid hws
    have HMEM := Lib.hid hmem
    clear hws hmem
    obtain ⟨A5, c5, rfl⟩ := hrow.form
    have HS := Lib.hid (show TRow w1 w.heap.size (.slice A5 ws.length c5) ws from hrow)
    have N1 := Lib.hid n1
    clear hrow n1
    have z1 : w.heap.size ≤ w1.heap.size := N1.out.size
    go_wp2_with (fail)
    go_loopw [4, 6] (fun s4 s6 wr => ∃ (k : Nat) (P : List VOp), s6 = .int .i64 k ∧ k ≤ ws.length ∧ Hid (rOpsL (ws.take k) = some P) ∧ Hid (ORow wr w1.heap.size s4 P) ∧ Hid (Nw w1 wr)) (fun _ s6 _ => ws.length - (intOf s6).toNat)
    case atStart => exact ⟨0, [], rfl, Nat.zero_le _, Lib.hid rfl, Lib.hid (CRow.nil _ _), Lib.hid (Ch.refl _ _)⟩
    case round =>
      obtain ⟨k, P, rfl, hk, HP, HO, HN⟩ := hrel
      have hPl : P.length = k := by
        have h := congrArg List.length (rOpsL_ok HP.out).2
        rw [List.length_map, List.length_take, Nat.min_eq_left hk] at h
        exact h
      obtain ⟨A8, c8, e8⟩ := HO.out.form
      subst e8
      have HPL := Lib.hid hPl
      clear hPl
      have k0 : (0 : Int) ≤ (k : Int) := by omega
      obtain ⟨wq, hwq⟩ : ∃ W : World, W = wr := ⟨_, rfl⟩
      subst hwq
      replace HS := Lib.hid (show TRow wq w.heap.size (.slice A5 ws.length c5) ws from HS.out.ch HN.out (fun _ _ e => e))
      have z2 : w1.heap.size ≤ wq.heap.size := HN.out.size
      by_cases hlt : k < ws.length
      · as_aux_lemma =>
        have k1 : (k : Int) < (ws.length : Int) := by omega
        obtain ⟨x, hx⟩ : ∃ x, ws[k]? = some x := ⟨_, List.getElem?_eq_getElem hlt⟩
        have xl := HMEM.out x (List.mem_of_getElem? hx)
        obtain ⟨g5, e5, -, -, cx⟩ := TRow.at HS.out hx
        subst e5
        have HX := Lib.hid hx
        clear hx
        obtain ⟨XB, hXB⟩ : ∃ X, (⟨x.toArray⟩ : ByteArray) = X := ⟨_, rfl⟩
        have hXd : XB.data.toList = x := by rw [← hXB]
        have xs : XB.size = x.length := by rw [← hXB]; exact List.size_toArray
        rw [hXB] at cx
        clear hXB
        go_wp2_with (go_at_call 36; fail)
        clear cx
        refine roperation_any XB _ _ (by omega) ?_ ?_
        · as_aux_lemma =>
          rw [hXd]
          intro w2 c a b hop n2
          have HOP := Lib.hid hop
          replace HS := Lib.hid (show TRow w2 w.heap.size (.slice (some ⟨g5, 0, none⟩) ws.length c5) ws from HS.out.ch n2 (fun _ _ e => e))
          replace HO := Lib.hid (show ORow w2 w1.heap.size (.slice A8 P.length c8) P from HO.out.ch' n2 (fun _ _ e => e))
          replace HN := Lib.hid (HN.out.trans n2)
          replace z2 := Nat.le_trans z2 n2.size
          clear hop n2 hXd xs
          go_upto_region 11 with (fail)
          refine wp_named ?_
          intro W3 hW
          have n : Nw w2 W3 := by rw [hW]; exact (Ch.refl _ _).alloc _
          have HOB := Lib.hid (show W3.heap[w2.heap.size]? = some (.cells #[.int .i64 c, .int .i64 a, .int .i64 b] 49 (0, 0)) from by rw [hW]; exact heap_alloc_eq _ rfl)
          replace HS := Lib.hid (show TRow W3 w.heap.size (.slice (some ⟨g5, 0, none⟩) ws.length c5) ws from HS.out.ch n (fun _ _ e => e))
          replace HO := Lib.hid (show ORow W3 w1.heap.size (.slice A8 P.length c8) P from HO.out.ch' n (fun _ _ e => e))
          replace HN := Lib.hid (HN.out.trans n)
          replace z2 := Nat.le_trans z2 n.size
          clear hW n
          have q0 : W3.cell? ⟨w2.heap.size, 0, none⟩ = some (.int .i64 c) := by rw [cell_of HOB.out]; rfl
          have q1 : W3.cell? ⟨w2.heap.size, 1, none⟩ = some (.int .i64 a) := by rw [cell_of HOB.out]; rfl
          have q2 : W3.cell? ⟨w2.heap.size, 2, none⟩ = some (.int .i64 b) := by rw [cell_of HOB.out]; rfl
          refine wp_region_lit ?_
          refine wpList_plain rfl fun K hK => ?_
          go_simp
          refine hK _ _ ?_
          clear hK K
          try simp only [Act.put, List.getElem_toArray, List.getElem_cons_succ, List.getElem_cons_zero, List.setIfInBounds_toArray, List.set_cons_zero, List.set_cons_succ]
          refine wpList_plain rfl fun K hK => ?_
          go_simp
          refine hK _ _ ?_
          clear hK K
          try simp only [Act.put, List.getElem_toArray, List.getElem_cons_succ, List.getElem_cons_zero, List.setIfInBounds_toArray, List.set_cons_zero, List.set_cons_succ]
          refine wpList_plain rfl fun K hK => ?_
          refine wp_lit1x3 24 49 _ rfl Tryz.underlying24 (by kernel_rfl) (by rfl) ?_
          refine hK _ _ ?_
          clear hK K
          try simp only [Act.put, List.getElem_toArray, List.getElem_cons_succ, List.getElem_cons_zero, List.setIfInBounds_toArray, List.set_cons_zero, List.set_cons_succ]
          refine wpList_plain rfl fun K hK => ?_
          refine wp_appOps _ (.tmp 29) (.tmp 31) rfl w1.heap.size _ P (by rfl) (CRow.ch' HO.out ((Ch.refl (fun _ => False) _).alloc _) (fun _ _ e => e)) W3.heap.size _ [(c, a, b)] (by rfl) (row_lit (n := 1) (Nat.le_refl _) rfl (by omega)) (fun e => by cases e) (by have := HPL.out; simp only [List.length_cons, List.length_nil]; omega) (by rw [alloc_size]; omega) ?_
          intro v9 w9 hrow9 hgr9 hnil9
          have n : Nw w1 w9 := (HN.out.alloc _).grown hgr9 (fun j e hj => by have := (HO.out.lt j e).1; omega)
          refine hK _ _ ?_
          clear hK K
          try simp only [Act.put, List.getElem_toArray, List.getElem_cons_succ, List.getElem_cons_zero, List.setIfInBounds_toArray, List.set_cons_zero, List.set_cons_succ]
          have HO9 := Lib.hid hrow9
          have HN9 := Lib.hid n
          clear hrow9 hgr9 hnil9 n q0 q1 q2
          go_wp2_with (fail)
          exact ⟨⟨k + 1, P ++ [(c, a, b)], by go_num, by omega, Lib.hid (rOpsL_next HP.out HX.out HOP.out), HO9, HN9⟩, by simp [intOf]; omega⟩
        · as_aux_lemma =>
          rw [hXd]
          intro w2 c a b hop n2
          have hfl := rOpsL_fail HP.out HX.out hop
          rw [← HWS.out] at hfl
          have hpc := rP_none HNE.out hfl
          have h9 := fun w' => HR.out w' (.slice none 0 0)
          rw [hpc] at h9
          have H9 := Lib.hid h9
          replace HN := Lib.hid (HN.out.trans n2)
          clear hfl hpc h9 hop n2
          go_wp2
          exact H9.out _ (CRow.nil _ _) (N1.out.trans (HN.out.alloc _))
      · as_aux_lemma =>
        have k1 : ¬ (k : Int) < (ws.length : Int) := by omega
        have hp := HP.out
        rw [List.take_of_length_le (by omega), ← HWS.out] at hp
        have hpc := rP_some HNE.out hp
        have h9 := fun w' => HR.out w' (.slice A8 P.length c8)
        rw [hpc] at h9
        have H9 := Lib.hid h9
        clear hp hpc h9
        go_wp2
        exact H9.out _ (HO.out.lo z1) (N1.out.trans HN.out)
end Go.Proofs.YtdpbdcaefdcooaaGreatDoor
