/-
  verify.Parse: the program of a text.
-/
import Derived.Test.YtdpbdcaefdcooaaGreatDoorVpi
namespace Go.Proofs.YtdpbdcaefdcooaaGreatDoor
open Go.RowKit
set_option linter.unusedVariables false
set_option linter.unusedSimpArgs false
set_option maxRecDepth 100000

theorem isEmpty_dec (l : List UInt8) : l.isEmpty = decide (l = []) := by cases l <;> simp
theorem opOf_form {x : List UInt8} {w0 : List UInt8} (h : (Lib.split x [32]).getD 0 [] = w0) : opOf x = if w0 = [] ∨ codeOf w0 < 0 then none else some (codeOf w0, fieldV (Lib.split x [32]) 1, fieldV (Lib.split x [32]) 2) := by
  unfold opOf
  simp only [h]
theorem parseC_none {s : List UInt8} (h : s ≠ []) (e : opsOfL (Lib.split s [59, 32]) = none) : parseC s = ([], false) := by unfold parseC; rw [if_neg h, e]
theorem parseC_some {s : List UInt8} {P : List VOp} (h : s ≠ []) (e : opsOfL (Lib.split s [59, 32]) = some P) : parseC s = if textM P = s then (P, true) else ([], false) := by unfold parseC; rw [if_neg h, e]

set_option maxHeartbeats 8000000 in
theorem parse_any (s : ByteArray) (w : World) (R : Ending → World → Prop) (hs : s.size ≤ 100000) (hk : WOk w)
    (hR : ∀ w' x, ORow w' w.heap.size x (parseC s.data.toList).1 → Nw w w' → R (.returned (.tuple #[x, .bool (parseC s.data.toList).2])) w') : Calls Tryz.prog 13 #[.string s] w R := by
  have HR := Lib.hid hR
  clear hR
  have HK := Lib.hid hk
  clear hk
  obtain ⟨L, hL⟩ : ∃ L, s.data.toList = L := ⟨_, rfl⟩
  have hlen : L.length = s.size := by rw [← hL]; simp
  have HL := Lib.hid hL
  rw [hL] at HR
  have hmf : ∀ (fn : Fn) (first cap : Array Value) (w : World), (Instr.makeFunc fn first cap).run Tryz.prog w = .ok (.func fn first cap) w := fun _ _ _ _ => rfl
  have htl : s.toList.isEmpty = decide (L = []) := by rw [ByteArray.toList_eq, hL]; exact isEmpty_dec L
  clear hL
  by_cases h0 : L = []
  · as_aux_lemma =>
    rw [decide_eq_true h0] at htl
    subst h0
    clear hlen HL
    go_enter Tryz.func13, Tryz.ntmps13
    go_wp2
    exact HR.out _ _ (CRow.nil _ _) (Ch.refl _ _)
  · as_aux_lemma =>
    rw [decide_eq_false h0] at htl
    have HNE := Lib.hid h0
    clear h0
    go_enter Tryz.func13, Tryz.ntmps13
    go_wp2_with (go_at_call 31; fail)
    refine split_any s ⟨#[59, 32]⟩ _ _ HK.out (by omega) (by decide) ?_
    rw [HL.out, show (⟨#[59, 32]⟩ : ByteArray).data.toList = [59, 32] from rfl]
    intro w1 v hsr hown n1
    obtain ⟨ws, hws⟩ : ∃ ws, Lib.split L [59, 32] = ws := ⟨_, rfl⟩
    have hcnt := split_cnt L [59, 32]
    have hmem := fun x => split_mem (s := L) (sep := [59, 32]) (x := x)
    rw [hws] at hsr hcnt hmem
    have HWS := Lib.hid hws
    have HMEM := Lib.hid hmem
    clear hws hmem
    obtain ⟨gs, rfl, -⟩ := id hsr
    have HS := Lib.hid hsr
    have HKW := Lib.hid (HK.out.kept n1 (fun _ _ e => e))
    have N1 := Lib.hid n1
    clear hsr hown n1
    have z1 : w.heap.size ≤ w1.heap.size := N1.out.size
    go_wp2_with (fail)
    go_loopw [4, 16] (fun s4 s16 wr => ∃ (i : Nat) (P : List VOp), s16 = .int .i64 i ∧ i ≤ ws.length ∧ Hid (opsOfL (ws.take i) = some P) ∧ Hid (ORow wr w1.heap.size s4 P) ∧ Hid (Nw w1 wr)) (fun _ s16 _ => ws.length - (intOf s16).toNat)
    case atStart => exact ⟨0, [], rfl, Nat.zero_le _, Lib.hid rfl, Lib.hid (CRow.nil _ _), Lib.hid (Ch.refl _ _)⟩
    case round =>
      obtain ⟨i, P, rfl, hi, HP, HO, HN⟩ := hrel
      obtain ⟨A8, c8, e8⟩ := HO.out.form
      have hPl := (opsOfL_ok HP.out).2
      rw [List.length_take, Nat.min_eq_left hi] at hPl
      rw [hPl] at e8
      subst e8
      have i0 : (0 : Int) ≤ (i : Int) := by omega
      obtain ⟨wq, hwq⟩ : ∃ W : World, W = wr := ⟨_, rfl⟩
      subst hwq
      replace HS := Lib.hid (HS.out.ch HN.out (fun _ _ e => e))
      replace HKW := Lib.hid (HKW.out.kept HN.out (fun _ _ e => e))
      have z2 : w1.heap.size ≤ wq.heap.size := HN.out.size
      have hOo := HO.out
      unfold ORow at hOo
      rw [hPl] at hOo
      replace HO := Lib.hid hOo
      have HPL := Lib.hid hPl
      clear hOo hPl
      by_cases hlt : i < ws.length
      · as_aux_lemma =>
        have i1 : (i : Int) < (ws.length : Int) := by omega
        obtain ⟨x, hx⟩ : ∃ x, ws[i]? = some x := ⟨_, List.getElem?_eq_getElem hlt⟩
        have xl := HMEM.out x (List.mem_of_getElem? hx)
        have HX := Lib.hid hx
        obtain ⟨gs', e1, hgs, hat⟩ := HS.out.at
        injection e1 with e1
        injection e1 with e1
        injection e1 with e1
        subst e1
        have cx := hat i x hx
        clear hat hx
        obtain ⟨XB, hXB⟩ : ∃ X, (⟨x.toArray⟩ : ByteArray) = X := ⟨_, rfl⟩
        have hXd : XB.data.toList = x := by rw [← hXB]
        have xs : XB.size = x.length := by rw [← hXB]; exact List.size_toArray
        rw [hXB] at cx
        clear hXB
        go_wp2_with (go_at_call 31; fail)
        clear cx
        refine Calls_nm ?_
        intro W1 hW
        have n : Nw wq W1 := by rw [hW]; first | exact Ch.refl _ _ | exact (Ch.refl _ _).alloc _ | exact ((Ch.refl _ _).alloc _).alloc _
        replace HS := Lib.hid (HS.out.ch n (fun _ _ e => e))
        replace HKW := Lib.hid (HKW.out.kept n (fun _ _ e => e))
        replace HN := Lib.hid (HN.out.trans n)
        replace HO := Lib.hid (HO.out.ch' n (fun _ _ e => e))
        replace z2 := Nat.le_trans z2 n.size
        clear hW n
        refine split_any XB ⟨#[32]⟩ _ _ HKW.out (by omega) (by decide) ?_
        rw [hXd, show (⟨#[32]⟩ : ByteArray).data.toList = [32] from rfl]
        intro w2 v hsr hown n
        replace HS := Lib.hid (HS.out.ch n (fun _ _ e => e))
        replace HKW := Lib.hid (HKW.out.kept n (fun _ _ e => e))
        replace HN := Lib.hid (HN.out.trans n)
        replace HO := Lib.hid (HO.out.ch' n (fun _ _ e => e))
        replace z2 := Nat.le_trans z2 n.size
        obtain ⟨ls, hls⟩ : ∃ ls, Lib.split x [32] = ls := ⟨_, rfl⟩
        have lcnt := split_cnt x [32]
        have lmem := fun y => split_mem (s := x) (sep := [32]) (x := y)
        have hof := fun w0 => opOf_form (x := x) (w0 := w0)
        rw [hls] at hsr lcnt lmem
        simp only [hls] at hof
        have LMEM := Lib.hid lmem
        have HOF := Lib.hid hof
        clear hls lmem hof
        obtain ⟨gl, rfl, -⟩ := id hsr
        have HLS := Lib.hid hsr
        clear hsr hown n
        obtain ⟨w0, hw0⟩ : ∃ y, ls[0]? = some y := ⟨_, List.getElem?_eq_getElem (by omega)⟩
        have hof := HOF.out w0 (by rw [List.getD_eq_getElem?_getD, hw0]; rfl)
        have HO0 := Lib.hid hof
        clear hof HOF
        have HW0 := Lib.hid hw0
        clear hw0
        have l0 : (0 : Int) < (ls.length : Int) := by omega
        go_upto_region 8 with (fail)
        refine wp_named ?_
        intro W3 hW
        have n : Nw w2 W3 := by rw [hW]; exact (Ch.refl _ _).alloc _
        replace HS := Lib.hid (HS.out.ch n (fun _ _ e => e))
        replace HKW := Lib.hid (HKW.out.kept n (fun _ _ e => e))
        replace HN := Lib.hid (HN.out.trans n)
        replace HO := Lib.hid (HO.out.ch' n (fun _ _ e => e))
        replace z2 := Nat.le_trans z2 n.size
        replace HLS := Lib.hid (HLS.out.ch n (fun _ _ e => e))
        have HLB := Lib.hid (show W3.heap[w2.heap.size]? = some (.cells #[.slice (some ⟨gl, 0, none⟩) ls.length ls.length] 63 (0, 0)) from by rw [hW]; exact heap_alloc_eq _ rfl)
        clear hW n
        have hz : 0 < W3.heap.size := by have := HKW.out.sz; omega
        have kHLB0 : W3.cell? ⟨w2.heap.size, 0, none⟩ = some (.slice (some ⟨gl, 0, none⟩) ls.length ls.length) := by rw [cell_of HLB.out]; rfl
        have jHLB0 : ∀ o, (W3.alloc o).cell? ⟨w2.heap.size, 0, none⟩ = some (.slice (some ⟨gl, 0, none⟩) ls.length ls.length) := fun o => cell_alloc_old o kHLB0
        go_wp2_with (go_at_call 31; fail)
        clear kHLB0 jHLB0
        refine Calls_nm ?_
        intro W4 hW
        have n : Nw W3 W4 := by rw [hW]; first | exact Ch.refl _ _ | exact (Ch.refl _ _).alloc _ | exact ((Ch.refl _ _).alloc _).alloc _
        replace HS := Lib.hid (HS.out.ch n (fun _ _ e => e))
        replace HKW := Lib.hid (HKW.out.kept n (fun _ _ e => e))
        replace HN := Lib.hid (HN.out.trans n)
        replace HO := Lib.hid (HO.out.ch' n (fun _ _ e => e))
        replace z2 := Nat.le_trans z2 n.size
        replace HLS := Lib.hid (HLS.out.ch n (fun _ _ e => e))
        replace HLB := Lib.hid (n.heap HLB.out id)
        clear hW n
        obtain ⟨gl', e1, hgl, hatl⟩ := HLS.out.at
        injection e1 with e1
        injection e1 with e1
        injection e1 with e1
        subst e1
        refine index_any w0 w2.heap.size gl ls.length ls.length _ _ HKW.out (by rw [cell_of HLB.out]; rfl) (by omega) (hatl 0 w0 HW0.out) ?_
        intro w5 n
        replace HS := Lib.hid (HS.out.ch n (fun _ _ e => e))
        replace HKW := Lib.hid (HKW.out.kept n (fun _ _ e => e))
        replace HN := Lib.hid (HN.out.trans n)
        replace HO := Lib.hid (HO.out.ch' n (fun _ _ e => e))
        replace z2 := Nat.le_trans z2 n.size
        replace HLS := Lib.hid (HLS.out.ch n (fun _ _ e => e))
        replace HLB := Lib.hid (n.heap HLB.out id)
        clear n hatl hgl
        obtain ⟨cd, hcd⟩ : ∃ c, codeOf w0 = c := ⟨_, rfl⟩
        rw [hcd] at HO0 ⊢
        have hcr : -1 ≤ cd ∧ cd < 16 := by rw [← hcd]; unfold codeOf; rcases codeFrom_in w0 16 0 with h | ⟨h1, h2, -⟩ <;> omega
        clear hcd
        obtain ⟨cr0, cr1⟩ := hcr
        have zOB := z2
        have sLB : w2.heap.size < w5.heap.size := lt_of_heap HLB.out
        have sHO := fun k hk => (HO.out.lt k hk).2
        obtain ⟨g9, e9, sgs, -⟩ := HS.out.at
        injection e9 with e9
        injection e9 with e9
        injection e9 with e9
        subst e9
        obtain ⟨g9, e9, sgl, -⟩ := HLS.out.at
        injection e9 with e9
        injection e9 with e9
        injection e9 with e9
        subst e9
        go_upto_region 9 with (fail)
        refine wp_named ?_
        intro W6 hW
        have n : Nw w5 W6 := by rw [hW]; exact (Ch.refl _ _).alloc _
        replace HS := Lib.hid (HS.out.ch n (fun _ _ e => e))
        replace HKW := Lib.hid (HKW.out.kept n (fun _ _ e => e))
        replace HN := Lib.hid (HN.out.trans n)
        replace HO := Lib.hid (HO.out.ch' n (fun _ _ e => e))
        replace z2 := Nat.le_trans z2 n.size
        replace HLS := Lib.hid (HLS.out.ch n (fun _ _ e => e))
        replace HLB := Lib.hid (n.heap HLB.out id)
        have HOB := Lib.hid (show W6.heap[w5.heap.size]? = some (.cells #[.int .i64 cd, .int .i64 0, .int .i64 0] 49 (0, 0)) from by rw [hW]; exact heap_alloc_eq _ rfl)
        clear hW n
        obtain ⟨gl', e1, hgl, hatl⟩ := HLS.out.at
        injection e1 with e1
        injection e1 with e1
        injection e1 with e1
        subst e1
        have cw := hatl 0 w0 HW0.out
        clear hatl hgl
        obtain ⟨WB, hWB⟩ : ∃ X, (⟨w0.toArray⟩ : ByteArray) = X := ⟨_, rfl⟩
        have ew : WB.toList.isEmpty = decide (w0 = []) := by rw [← hWB, ByteArray.toList_eq]; exact isEmpty_dec w0
        rw [hWB] at cw
        clear hWB
        by_cases hbad : w0 = [] ∨ cd < 0
        · as_aux_lemma =>
          rw [if_pos hbad] at HO0
          have hfl := opsOfL_fail HP.out HX.out HO0.out
          rw [← HWS.out] at hfl
          have hpc := parseC_none HNE.out hfl
          have h9 := fun w' => HR.out w' (.slice none 0 0)
          rw [hpc] at h9
          have H9 := Lib.hid h9
          clear hfl hpc h9
          rcases Classical.em (w0 = []) with h | h
          · rw [decide_eq_true h] at ew
            clear h hbad
            have kHLB0 : W6.cell? ⟨w2.heap.size, 0, none⟩ = some (.slice (some ⟨gl, 0, none⟩) ls.length ls.length) := by rw [cell_of HLB.out]; rfl
            have kHOB0 : W6.cell? ⟨w5.heap.size, 0, none⟩ = some (.int .i64 cd) := by rw [cell_of HOB.out]; rfl
            have kHOB1 : W6.cell? ⟨w5.heap.size, 1, none⟩ = some (.int .i64 0) := by rw [cell_of HOB.out]; rfl
            have kHOB2 : W6.cell? ⟨w5.heap.size, 2, none⟩ = some (.int .i64 0) := by rw [cell_of HOB.out]; rfl
            go_wp2
            exact H9.out _ (CRow.nil _ _) (N1.out.trans HN.out)
          · have hc : cd < 0 := hbad.resolve_left h
            rw [decide_eq_false h] at ew
            clear h hbad
            have kHLB0 : W6.cell? ⟨w2.heap.size, 0, none⟩ = some (.slice (some ⟨gl, 0, none⟩) ls.length ls.length) := by rw [cell_of HLB.out]; rfl
            have kHOB0 : W6.cell? ⟨w5.heap.size, 0, none⟩ = some (.int .i64 cd) := by rw [cell_of HOB.out]; rfl
            have kHOB1 : W6.cell? ⟨w5.heap.size, 1, none⟩ = some (.int .i64 0) := by rw [cell_of HOB.out]; rfl
            have kHOB2 : W6.cell? ⟨w5.heap.size, 2, none⟩ = some (.int .i64 0) := by rw [cell_of HOB.out]; rfl
            go_wp2
            exact H9.out _ (CRow.nil _ _) (N1.out.trans HN.out)
        · as_aux_lemma =>
          rw [if_neg hbad] at HO0
          have hwn : ¬ w0 = [] := fun h => hbad (Or.inl h)
          have hcn : ¬ cd < 0 := fun h => hbad (Or.inr h)
          rw [decide_eq_false hwn] at ew
          clear hbad hwn
          obtain ⟨f1, hf1⟩ : ∃ z, fieldV ls 1 = z := ⟨_, rfl⟩
          obtain ⟨f2, hf2⟩ : ∃ z, fieldV ls 2 = z := ⟨_, rfl⟩
          rw [hf1, hf2] at HO0
          have HF1 := Lib.hid hf1
          have HF2 := Lib.hid hf2
          clear hf1 hf2
          have kHLB0 : W6.cell? ⟨w2.heap.size, 0, none⟩ = some (.slice (some ⟨gl, 0, none⟩) ls.length ls.length) := by rw [cell_of HLB.out]; rfl
          have kHOB0 : W6.cell? ⟨w5.heap.size, 0, none⟩ = some (.int .i64 cd) := by rw [cell_of HOB.out]; rfl
          have kHOB1 : W6.cell? ⟨w5.heap.size, 1, none⟩ = some (.int .i64 0) := by rw [cell_of HOB.out]; rfl
          have kHOB2 : W6.cell? ⟨w5.heap.size, 2, none⟩ = some (.int .i64 0) := by rw [cell_of HOB.out]; rfl
          go_upto_region 11 with (fail)
          clear kHLB0 kHOB0 kHOB1 kHOB2
          clear cw ew
          go_wp2_with (fail)
          have sOB : w5.heap.size < W6.heap.size := lt_of_heap HOB.out
          refine wp_named ?_
          intro W7 hW
          have n : Nw W6 W7 := by rw [hW]; exact (Ch.refl _ _).alloc _
          replace HS := Lib.hid (HS.out.ch n (fun _ _ e => e))
          replace HKW := Lib.hid (HKW.out.kept n (fun _ _ e => e))
          replace HN := Lib.hid (HN.out.trans n)
          replace HO := Lib.hid (HO.out.ch' n (fun _ _ e => e))
          replace z2 := Nat.le_trans z2 n.size
          replace HLS := Lib.hid (HLS.out.ch n (fun _ _ e => e))
          replace HLB := Lib.hid (n.heap HLB.out id)
          replace HOB := Lib.hid (n.heap HOB.out id)
          have HPB := Lib.hid (show W7.heap[W6.heap.size]? = some (.cells #[.pointer (some ⟨w5.heap.size, 1, none⟩), .pointer (some ⟨w5.heap.size, 2, none⟩)] 75 (0, 0)) from by rw [hW]; exact heap_alloc_eq _ rfl)
          clear hW n
          have HOB0 := Lib.hid (show W7.heap[w5.heap.size]? = some (.cells #[.int .i64 cd, .int .i64 (if 1 ≤ 0 then f1 else 0), .int .i64 (if 2 ≤ 0 then f2 else 0)] 49 (0, 0)) from by rw [if_neg (by omega), if_neg (by omega)]; exact HOB.out)
          go_loopw [9, 10, 39] (fun _ _ s39 wr => ∃ (j : Nat), s39 = .int .i64 j ∧ j ≤ 2 ∧ Hid (wr.heap[w5.heap.size]? = some (.cells #[.int .i64 cd, .int .i64 (if 1 ≤ j then f1 else 0), .int .i64 (if 2 ≤ j then f2 else 0)] 49 (0, 0))) ∧ Hid (Ch (· = w5.heap.size) W7 wr)) (fun _ _ s39 _ => 2 - (intOf s39).toNat)
          case atStart => exact ⟨0, rfl, by omega, HOB0, Lib.hid (Ch.refl _ _)⟩
          case round =>
            clear HOB HOB0
            obtain ⟨j, rfl, hj, HOB, HC⟩ := hrel
            have j0 : (0 : Int) ≤ (j : Int) := by omega
            obtain ⟨wj, hwj⟩ : ∃ W : World, W = wr := ⟨_, rfl⟩
            subst hwj
            have HC9 := HC
            replace HS := Lib.hid (HS.out.ch HC.out (fun k hk e => by have e' : k = w5.heap.size := e; have h9 : gs = k := Option.some.inj hk; omega))
            replace HKW := Lib.hid (HKW.out.kept HC.out (fun k hk e => by have e' : k = w5.heap.size := e; have := HK.out.sz; omega))
            replace HN := Lib.hid (HN.out.trans' HC9.out (fun j hj e => by have e' : j = w5.heap.size := e; omega))
            replace HO := Lib.hid (HO.out.ch' HC.out (fun k hk e => by have e' : k = w5.heap.size := e; have := sHO k hk; omega))
            replace z2 := Nat.le_trans z2 HC9.out.size
            replace HLS := Lib.hid (HLS.out.ch HC.out (fun k hk e => by have e' : k = w5.heap.size := e; have h9 : gl = k := Option.some.inj hk; omega))
            replace HLB := Lib.hid (HC9.out.heap HLB.out (by show ¬ w2.heap.size = w5.heap.size; omega))
            replace HPB := Lib.hid (HC9.out.heap HPB.out (by show ¬ W6.heap.size = w5.heap.size; omega))
            clear HC9
            have hj3 : j = 0 ∨ j = 1 ∨ j = 2 := by omega
            clear hj
            rcases hj3 with rfl | rfl | rfl
            · as_aux_lemma =>
              replace HOB := Lib.hid (show wj.heap[w5.heap.size]? = some (.cells #[.int .i64 cd, .int .i64 0, .int .i64 0] 49 (0, 0)) from HOB.out)
              have fv : fieldV ls 1 = f1 := HF1.out
              unfold fieldV at fv
              by_cases hl : 1 < ls.length
              · as_aux_lemma =>
                have hl1 : (1 : Int) < (ls.length : Int) := by omega
                obtain ⟨y, hy⟩ : ∃ y, ls[1]? = some y := ⟨_, List.getElem?_eq_getElem hl⟩
                have yl := LMEM.out y (List.mem_of_getElem? hy)
                rw [hy] at fv
                obtain ⟨g9, e9, sg9, hat⟩ := HLS.out.at
                injection e9 with e9
                injection e9 with e9
                injection e9 with e9
                subst e9
                have cy := hat 1 y hy
                clear hat hy sg9
                obtain ⟨YB, hYB⟩ : ∃ X, (⟨y.toArray⟩ : ByteArray) = X := ⟨_, rfl⟩
                have hYd : YB.data.toList = y := by rw [← hYB]
                have ys : YB.size = y.length := by rw [← hYB]; exact List.size_toArray
                rw [hYB] at cy
                clear hYB
                have kHLB0 : wj.cell? ⟨w2.heap.size, 0, none⟩ = some (.slice (some ⟨gl, 0, none⟩) ls.length ls.length) := by rw [cell_of HLB.out]; rfl
                have kHPB0 : wj.cell? ⟨W6.heap.size, 0, none⟩ = some (.pointer (some ⟨w5.heap.size, 1, none⟩)) := by rw [cell_of HPB.out]; rfl
                have kHPB1 : wj.cell? ⟨W6.heap.size, 1, none⟩ = some (.pointer (some ⟨w5.heap.size, 2, none⟩)) := by rw [cell_of HPB.out]; rfl
                have kHOB0 : wj.cell? ⟨w5.heap.size, 0, none⟩ = some (.int .i64 cd) := by rw [cell_of HOB.out]; rfl
                have kHOB1 : wj.cell? ⟨w5.heap.size, 1, none⟩ = some (.int .i64 0) := by rw [cell_of HOB.out]; rfl
                have kHOB2 : wj.cell? ⟨w5.heap.size, 2, none⟩ = some (.int .i64 0) := by rw [cell_of HOB.out]; rfl
                go_wp2_with (go_at_call 31; fail)
                clear kHLB0 kHPB0 kHPB1 kHOB0 kHOB1 kHOB2
                clear cy
                refine atoi_any YB _ _ HKW.out (by omega) ?_
                rw [hYd, fv]
                intro w8 e8 n
                replace HOB := Lib.hid (n.heap HOB.out id)
                replace HC := Lib.hid (HC.out.trans' n (fun _ _ e => e.elim))
                clear n
                have oB : w8.cell? ⟨w5.heap.size, 1, none⟩ = some (.int .i64 0) := by rw [cell_of HOB.out]; rfl
                have pB : w8.frozen? ⟨w5.heap.size, 1, none⟩ = false := frozen_of HOB.out
                go_wp2_with (fail)
                clear oB pB
                exact ⟨⟨1, by go_num, by omega, Lib.hid (show (w8.setCell ⟨w5.heap.size, 1, none⟩ (.int .i64 f1)).heap[w5.heap.size]? = some (.cells #[.int .i64 cd, .int .i64 f1, .int .i64 0] 49 (0, 0)) from by have h9 := heap_setCell_eq (o := 1) (.int .i64 f1) HOB.out; simpa using h9), Lib.hid (HC.out.setb (fun _ => rfl) _)⟩, by simp [intOf]⟩
              · as_aux_lemma =>
                have hl1 : ¬ (1 : Int) < (ls.length : Int) := by omega
                rw [List.getElem?_eq_none (by omega)] at fv
                have fz : f1 = 0 := fv.symm
                subst fz
                have kHLB0 : wj.cell? ⟨w2.heap.size, 0, none⟩ = some (.slice (some ⟨gl, 0, none⟩) ls.length ls.length) := by rw [cell_of HLB.out]; rfl
                have kHPB0 : wj.cell? ⟨W6.heap.size, 0, none⟩ = some (.pointer (some ⟨w5.heap.size, 1, none⟩)) := by rw [cell_of HPB.out]; rfl
                have kHPB1 : wj.cell? ⟨W6.heap.size, 1, none⟩ = some (.pointer (some ⟨w5.heap.size, 2, none⟩)) := by rw [cell_of HPB.out]; rfl
                have kHOB0 : wj.cell? ⟨w5.heap.size, 0, none⟩ = some (.int .i64 cd) := by rw [cell_of HOB.out]; rfl
                have kHOB1 : wj.cell? ⟨w5.heap.size, 1, none⟩ = some (.int .i64 0) := by rw [cell_of HOB.out]; rfl
                have kHOB2 : wj.cell? ⟨w5.heap.size, 2, none⟩ = some (.int .i64 0) := by rw [cell_of HOB.out]; rfl
                go_wp2_with (fail)
                clear kHLB0 kHPB0 kHPB1 kHOB0 kHOB1 kHOB2
                exact ⟨⟨1, by go_num, by omega, HOB, HC⟩, by simp [intOf]⟩
            · as_aux_lemma =>
              replace HOB := Lib.hid (show wj.heap[w5.heap.size]? = some (.cells #[.int .i64 cd, .int .i64 f1, .int .i64 0] 49 (0, 0)) from HOB.out)
              have fv : fieldV ls 2 = f2 := HF2.out
              unfold fieldV at fv
              by_cases hl : 2 < ls.length
              · as_aux_lemma =>
                have hl1 : (2 : Int) < (ls.length : Int) := by omega
                obtain ⟨y, hy⟩ : ∃ y, ls[2]? = some y := ⟨_, List.getElem?_eq_getElem hl⟩
                have yl := LMEM.out y (List.mem_of_getElem? hy)
                rw [hy] at fv
                obtain ⟨g9, e9, sg9, hat⟩ := HLS.out.at
                injection e9 with e9
                injection e9 with e9
                injection e9 with e9
                subst e9
                have cy := hat 2 y hy
                clear hat hy sg9
                obtain ⟨YB, hYB⟩ : ∃ X, (⟨y.toArray⟩ : ByteArray) = X := ⟨_, rfl⟩
                have hYd : YB.data.toList = y := by rw [← hYB]
                have ys : YB.size = y.length := by rw [← hYB]; exact List.size_toArray
                rw [hYB] at cy
                clear hYB
                have kHLB0 : wj.cell? ⟨w2.heap.size, 0, none⟩ = some (.slice (some ⟨gl, 0, none⟩) ls.length ls.length) := by rw [cell_of HLB.out]; rfl
                have kHPB0 : wj.cell? ⟨W6.heap.size, 0, none⟩ = some (.pointer (some ⟨w5.heap.size, 1, none⟩)) := by rw [cell_of HPB.out]; rfl
                have kHPB1 : wj.cell? ⟨W6.heap.size, 1, none⟩ = some (.pointer (some ⟨w5.heap.size, 2, none⟩)) := by rw [cell_of HPB.out]; rfl
                have kHOB0 : wj.cell? ⟨w5.heap.size, 0, none⟩ = some (.int .i64 cd) := by rw [cell_of HOB.out]; rfl
                have kHOB1 : wj.cell? ⟨w5.heap.size, 1, none⟩ = some (.int .i64 f1) := by rw [cell_of HOB.out]; rfl
                have kHOB2 : wj.cell? ⟨w5.heap.size, 2, none⟩ = some (.int .i64 0) := by rw [cell_of HOB.out]; rfl
                go_wp2_with (go_at_call 31; fail)
                clear kHLB0 kHPB0 kHPB1 kHOB0 kHOB1 kHOB2
                clear cy
                refine atoi_any YB _ _ HKW.out (by omega) ?_
                rw [hYd, fv]
                intro w8 e8 n
                replace HOB := Lib.hid (n.heap HOB.out id)
                replace HC := Lib.hid (HC.out.trans' n (fun _ _ e => e.elim))
                clear n
                have oB : w8.cell? ⟨w5.heap.size, 2, none⟩ = some (.int .i64 0) := by rw [cell_of HOB.out]; rfl
                have pB : w8.frozen? ⟨w5.heap.size, 2, none⟩ = false := frozen_of HOB.out
                go_wp2_with (fail)
                clear oB pB
                exact ⟨⟨2, by go_num, by omega, Lib.hid (show (w8.setCell ⟨w5.heap.size, 2, none⟩ (.int .i64 f2)).heap[w5.heap.size]? = some (.cells #[.int .i64 cd, .int .i64 f1, .int .i64 f2] 49 (0, 0)) from by have h9 := heap_setCell_eq (o := 2) (.int .i64 f2) HOB.out; simpa using h9), Lib.hid (HC.out.setb (fun _ => rfl) _)⟩, by simp [intOf]⟩
              · as_aux_lemma =>
                have hl1 : ¬ (2 : Int) < (ls.length : Int) := by omega
                rw [List.getElem?_eq_none (by omega)] at fv
                have fz : f2 = 0 := fv.symm
                subst fz
                have kHLB0 : wj.cell? ⟨w2.heap.size, 0, none⟩ = some (.slice (some ⟨gl, 0, none⟩) ls.length ls.length) := by rw [cell_of HLB.out]; rfl
                have kHPB0 : wj.cell? ⟨W6.heap.size, 0, none⟩ = some (.pointer (some ⟨w5.heap.size, 1, none⟩)) := by rw [cell_of HPB.out]; rfl
                have kHPB1 : wj.cell? ⟨W6.heap.size, 1, none⟩ = some (.pointer (some ⟨w5.heap.size, 2, none⟩)) := by rw [cell_of HPB.out]; rfl
                have kHOB0 : wj.cell? ⟨w5.heap.size, 0, none⟩ = some (.int .i64 cd) := by rw [cell_of HOB.out]; rfl
                have kHOB1 : wj.cell? ⟨w5.heap.size, 1, none⟩ = some (.int .i64 f1) := by rw [cell_of HOB.out]; rfl
                have kHOB2 : wj.cell? ⟨w5.heap.size, 2, none⟩ = some (.int .i64 0) := by rw [cell_of HOB.out]; rfl
                go_wp2_with (fail)
                clear kHLB0 kHPB0 kHPB1 kHOB0 kHOB1 kHOB2
                exact ⟨⟨2, by go_num, by omega, HOB, HC⟩, by simp [intOf]⟩
            · as_aux_lemma =>
              replace HOB := Lib.hid (show wj.heap[w5.heap.size]? = some (.cells #[.int .i64 cd, .int .i64 f1, .int .i64 f2] 49 (0, 0)) from HOB.out)
              have kHOB0 : wj.cell? ⟨w5.heap.size, 0, none⟩ = some (.int .i64 cd) := by rw [cell_of HOB.out]; rfl
              have kHOB1 : wj.cell? ⟨w5.heap.size, 1, none⟩ = some (.int .i64 f1) := by rw [cell_of HOB.out]; rfl
              have kHOB2 : wj.cell? ⟨w5.heap.size, 2, none⟩ = some (.int .i64 f2) := by rw [cell_of HOB.out]; rfl
              go_upto_region 17 with (fail)
              refine wp_region_lit ?_
              refine wpList_plain rfl fun K hK => ?_
              go_simp
              refine hK _ _ ?_
              clear hK K
              try simp only [Act.put, List.getElem_toArray, List.getElem_cons_succ, List.getElem_cons_zero, List.setIfInBounds_toArray, List.set_cons_zero, List.set_cons_succ]
              refine wpList_plain rfl fun K hK => ?_
              go_simp
              refine hK _ _ ?_
              clear hK K
              try simp only [Act.put, List.getElem_toArray, List.getElem_cons_succ, List.getElem_cons_zero, List.setIfInBounds_toArray, List.set_cons_zero, List.set_cons_succ]
              clear kHOB0 kHOB1 kHOB2
              refine wpList_plain rfl fun K hK => ?_
              refine wp_lit1x3 24 49 _ rfl Tryz.underlying24 (by kernel_rfl) (by rfl) ?_
              refine hK _ _ ?_
              clear hK K
              try simp only [Act.put, List.getElem_toArray, List.getElem_cons_succ, List.getElem_cons_zero, List.setIfInBounds_toArray, List.set_cons_zero, List.set_cons_succ]
              refine wpList_plain rfl fun K hK => ?_
              refine wp_app _ (.tmp 61) (.tmp 63) 24 49 3 24 rfl Tryz.underlying24 (.agg #[.int .i64 0, .int .i64 0, .int .i64 0]) (by kernel_rfl) rfl (by omega) (by omega) w1.heap.size _ i _ (by rfl) (HO.out.ch ((Ch.refl (fun _ => False) _).alloc _) (fun _ _ e => e)) _ _ _ (by rfl) (heap_alloc_eq _ rfl) rfl (by intro u hu; simp at hu; rcases hu with rfl | rfl | rfl <;> rfl) (by omega) (by rw [alloc_size]; omega) ?_
              intro g9 c9 w9 hrow9 hgr9 hor9
              have HG9 := Lib.hid (show Nw w1 w9 from (HN.out.alloc _).grown hgr9 (fun j e hj => by have := (HO.out.lt j e).1; omega))
              have HRW := Lib.hid (show ORow w9 w1.heap.size (.slice (some ⟨g9, 0, none⟩) (i + 1) c9) (P ++ [(cd, f1, f2)]) from by show CRow _ _ _ _ _ (P ++ [(cd, f1, f2)]).length (opC (P ++ [(cd, f1, f2)])); rw [opC_append, List.length_append, HPL.out]; exact hrow9)
              clear hrow9 hgr9 hor9
              refine hK _ _ ?_
              clear hK K
              try simp only [Act.put, List.getElem_toArray, List.getElem_cons_succ, List.getElem_cons_zero, List.setIfInBounds_toArray, List.set_cons_zero, List.set_cons_succ]
              go_wp2_with (fail)
              exact ⟨⟨i + 1, P ++ [(cd, f1, f2)], by go_num, by omega, Lib.hid (opsOfL_next HP.out HX.out HO0.out), HRW, HG9⟩, by simp [intOf]; omega⟩
      · as_aux_lemma =>
        have i1 : ¬ (i : Int) < (ws.length : Int) := by omega
        obtain rfl : i = ws.length := by omega
        have hall := HP.out
        rw [List.take_length, ← HWS.out] at hall
        have hpc := parseC_some HNE.out hall
        have hnm := (opsOfL_ok HP.out).1
        have hz := HKW.out.sz
        go_wp2_with (go_at_call 31; fail)
        refine Calls_nm ?_
        intro W8 hW
        have n : Nw wq W8 := by rw [hW]; first | exact Ch.refl _ _ | exact (Ch.refl _ _).alloc _ | exact ((Ch.refl _ _).alloc _).alloc _
        replace HS := Lib.hid (HS.out.ch n (fun _ _ e => e))
        replace HKW := Lib.hid (HKW.out.kept n (fun _ _ e => e))
        replace HN := Lib.hid (HN.out.trans n)
        replace HO := Lib.hid (HO.out.ch' n (fun _ _ e => e))
        replace z2 := Nat.le_trans z2 n.size
        clear hW n
        replace HO := Lib.hid (show ORow W8 w1.heap.size (.slice A8 ws.length c8) P from by show CRow _ _ _ _ _ P.length _; rw [HPL.out]; exact HO.out)
        refine text_any W8.heap.size P _ _ _ HO.out.prog (Nat.le_refl _) HKW.out (by have := HPL.out; omega) hnm ?_
        intro w9 n
        replace HS := Lib.hid (HS.out.ch n (fun _ _ e => e))
        replace HKW := Lib.hid (HKW.out.kept n (fun _ _ e => e))
        replace HN := Lib.hid (HN.out.trans n)
        replace HO := Lib.hid (HO.out.ch' n (fun _ _ e => e))
        replace z2 := Nat.le_trans z2 n.size
        clear n hnm
        obtain ⟨TB, hTB⟩ : ∃ X, (⟨(textM P).toArray⟩ : ByteArray) = X := ⟨_, rfl⟩
        have te : (TB.toList == s.toList) = decide (textM P = L) := by rw [← hTB, ByteArray.toList_eq, ByteArray.toList_eq, HL.out, Bool.eq_iff_iff, beq_iff_eq, decide_eq_true_eq]
        rw [hTB]
        clear hTB
        by_cases heq : textM P = L
        · as_aux_lemma =>
          rw [decide_eq_true heq] at te
          rw [if_pos heq] at hpc
          have te2 : (TB.toList != s.toList) = false := by rw [bne, te]; rfl
          have h9 := fun w' => HR.out w' (.slice A8 ws.length c8)
          rw [hpc] at h9
          have H9 := Lib.hid h9
          clear h9 hpc heq
          go_wp2
          exact H9.out _ (HO.out.lo z1) (N1.out.trans HN.out)
        · as_aux_lemma =>
          rw [decide_eq_false heq] at te
          rw [if_neg heq] at hpc
          have te2 : (TB.toList != s.toList) = true := by rw [bne, te]; rfl
          have h9 := fun w' => HR.out w' (.slice none 0 0)
          rw [hpc] at h9
          have H9 := Lib.hid h9
          clear h9 hpc heq
          go_wp2
          exact H9.out _ (CRow.nil _ _) (N1.out.trans HN.out)

end Go.Proofs.YtdpbdcaefdcooaaGreatDoor
