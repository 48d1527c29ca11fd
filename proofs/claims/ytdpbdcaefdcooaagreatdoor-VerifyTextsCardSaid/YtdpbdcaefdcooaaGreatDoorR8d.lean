/-
  ref08.Check: what it computes is checkM, too.
-/
import Derived.Test.YtdpbdcaefdcooaaGreatDoorR8c
import Derived.Test.YtdpbdcaefdcooaaGreatDoorVput
import Derived.Test.YtdpbdcaefdcooaaGreatDoorVsf
import Derived.Test.YtdpbdcaefdcooaaGreatDoorVs
namespace Go.Proofs.YtdpbdcaefdcooaaGreatDoor
open Go.RowKit
set_option linter.unusedVariables false
set_option linter.unusedSimpArgs false
set_option maxRecDepth 100000

theorem subL_all (L : List VOp) : subL L 0 L.length = L := by unfold subL; simp
theorem setsOf_snoc {L : List VOp} {i : Nat} {c x y : Int} (h : L[i]? = some (c, x, y)) : setsOf (L.take (i + 1)) = setsOf (L.take i) ++ (if c = 12 ∨ c = 13 then [x] else []) := by
  have e : L.take (i + 1) = L.take i ++ [(c, x, y)] := by rw [List.take_add_one, h]; rfl
  rw [e]
  unfold setsOf
  rw [List.filterMap_append]
  congr 1
  simp only [List.filterMap_cons, List.filterMap_nil]
  split <;> rename_i h1
  · split at h1
    · cases h1
    · rename_i h2; rw [if_neg h2]
  · split at h1
    · rename_i h2; cases h1; rw [if_pos h2]
    · cases h1
theorem post_nm {P : Program} {f : Func} {R : Ending → World → Prop} {e : Exit} {a : Act} {w : World} (h : ∀ W, W = w → bodyPost P f R e a W) : bodyPost P f R e a w := h _ rfl

set_option maxHeartbeats 8000000 in
theorem rcheck_any (np : Int) (lo : Nat) (L : List VOp) (p : Value) (w : World) (R : Ending → World → Prop) (hp : IsProg w lo p L) (hlo : lo ≤ w.heap.size)
    (hE : ∀ w' x, checkM np L = .error x → Nw w w' → R (.returned (.tuple #[.agg #[.int .i64 0, .int .i64 0, .slice none 0 0], .int .i64 x])) w')
    (hK : ∀ w' k (d : Nat) r v, checkM np L = .ok (k, d, r) → Nw w w' → IRow w' w.heap.size v (sortedP r).length (sortedP r) → R (.returned (.tuple #[.agg #[.int .i64 k, .int .i64 d, v], .int .i64 0])) w') :
    Calls Tryz.prog 9 #[p, .int .i64 np] w R := by
  have HE := Lib.hid hE
  have HK := Lib.hid hK
  have HP := Lib.hid hp
  obtain ⟨A, cap, rfl, hl1, hl2, -⟩ := hp
  clear hE hK
  by_cases h64 : 64 < L.length
  · as_aux_lemma =>
    have HC := Lib.hid (show checkM np L = .error 2 from by unfold checkM; rw [if_pos h64])
    have g : (L.length : Int) > 64 := by omega
    clear h64
    go_enter Tryz.func9, Tryz.ntmps9
    go_wp2_with (fail)
    refine post_nm ?_
    intro WZ hW
    have hbz : WZ.heap[w.heap.size]? = some (.cells #[.int .i64 0, .int .i64 0, .slice none 0 0] 30 (0, 0)) := by rw [hW]; first | exact heap_setCell_eq _ (heap_setCell_eq _ (heap_setCell_eq _ (heap_alloc_eq _ rfl))) | exact (heap_alloc_eq _ rfl)
    have nz : Nw w WZ := by rw [hW]; first | exact ((((Ch.refl (fun _ => False) w).alloc _).setb (fun h => by omega) _).setb (fun h => by omega) _).setb (fun h => by omega) _ | exact ((Ch.refl (fun _ => False) w).alloc _)
    have zz0 : WZ.cell? ⟨w.heap.size, 0, none⟩ = some (.int .i64 0) := by rw [cell_of hbz]; rfl
    have zz1 : WZ.cell? ⟨w.heap.size, 1, none⟩ = some (.int .i64 0) := by rw [cell_of hbz]; rfl
    have zz2 : WZ.cell? ⟨w.heap.size, 2, none⟩ = some (.slice none 0 0) := by rw [cell_of hbz]; rfl
    clear hW
    exact bodyPost_ret (v := .tuple #[.agg #[.int .i64 0, .int .i64 0, .slice none 0 0], .int .i64 2]) (by simp [results, Tryz.results9, go_sem, zz0, zz1, zz2]) rfl (HE.out _ 2 HC.out nz)
  · as_aux_lemma =>
    have g : ¬ (L.length : Int) > 64 := by omega
    go_enter Tryz.func9, Tryz.ntmps9
    go_wp2_with (go_at_call 9; fail)
    refine Calls_nm ?_
    intro W1 hW
    have NX := Lib.hid (show Nw w W1 from by rw [hW]; exact ((Ch.refl _ _).alloc _).alloc _)
    have HFB := Lib.hid (show W1.heap[w.heap.size]? = some (.cells #[.int .i64 0, .int .i64 0, .slice none 0 0] 30 (0, 0)) from by rw [hW]; exact heap_alloc_old' _ (heap_alloc_eq _ rfl))
    have HST := Lib.hid (show W1.heap[w.heap.size + 1]? = some (.cells #[.slice A L.length cap, .int .i64 np, .int .i64 0, .int .i64 0] 60 (0, 0)) from by rw [hW]; exact heap_alloc_eq _ (by rw [alloc_size]))
    replace HP := Lib.hid (HP.out.kept NX.out nof)
    have z1 : w.heap.size + 1 < W1.heap.size := lt_of_heap HST.out
    clear hW
    have hb := rblk_any np lo (w.heap.size + 1) (by omega) L (.slice A L.length cap) (by omega) (L.length + 1) 0 L.length 0 ⟨0, 0, []⟩ W1
    rw [subL_all] at hb
    refine hb _ (by omega) (by omega) (Nat.le_refl _) (by omega) HP.out HST.out (by simp) (by simp) ?_ ?_
    all_goals clear hb
    · as_aux_lemma =>
      intro w1 e he cc
      replace HFB := Lib.hid (cc.heap HFB.out (by show ¬ w.heap.size = w.heap.size + 1; omega))
      replace HP := Lib.hid (HP.out.kept cc (fun k hk e => by have e' : k = w.heap.size + 1 := e; omega))
      replace NX := Lib.hid (NX.out.trans' cc (fun j hj e => by have e' : j = w.heap.size + 1 := e; omega))
      have zs := cc.size
      have HC := Lib.hid (show checkM np L = .error e from by unfold checkM; rw [if_neg h64, he])
      have en : (e != 0) = true := by simp; exact V_err_ne he
      clear he cc
      have kHFB0 : w1.cell? ⟨w.heap.size, 0, none⟩ = some (.int .i64 0) := by rw [cell_of HFB.out]; rfl
      have kHFB1 : w1.cell? ⟨w.heap.size, 1, none⟩ = some (.int .i64 0) := by rw [cell_of HFB.out]; rfl
      have kHFB2 : w1.cell? ⟨w.heap.size, 2, none⟩ = some (.slice none 0 0) := by rw [cell_of HFB.out]; rfl
      have fz0 : w1.frozen? ⟨w.heap.size, 0, none⟩ = false := frozen_of HFB.out
      have fz1 : w1.frozen? ⟨w.heap.size, 1, none⟩ = false := frozen_of HFB.out
      have fz2 : w1.frozen? ⟨w.heap.size, 2, none⟩ = false := frozen_of HFB.out
      go_wp2_with (fail)
      refine post_nm ?_
      intro WZ hW
      have hbz : WZ.heap[w.heap.size]? = some (.cells #[.int .i64 0, .int .i64 0, .slice none 0 0] 30 (0, 0)) := by rw [hW]; first | exact heap_setCell_eq _ (heap_setCell_eq _ (heap_setCell_eq _ HFB.out)) | exact HFB.out
      have nz : Nw w WZ := by rw [hW]; first | exact ((NX.out.setb (fun h => by omega) _).setb (fun h => by omega) _).setb (fun h => by omega) _ | exact NX.out
      have zz0 : WZ.cell? ⟨w.heap.size, 0, none⟩ = some (.int .i64 0) := by rw [cell_of hbz]; rfl
      have zz1 : WZ.cell? ⟨w.heap.size, 1, none⟩ = some (.int .i64 0) := by rw [cell_of hbz]; rfl
      have zz2 : WZ.cell? ⟨w.heap.size, 2, none⟩ = some (.slice none 0 0) := by rw [cell_of hbz]; rfl
      clear hW
      exact bodyPost_ret (v := .tuple #[.agg #[.int .i64 0, .int .i64 0, .slice none 0 0], .int .i64 e]) (by simp [results, Tryz.results9, go_sem, zz0, zz1, zz2]) rfl (HE.out _ e HC.out nz)
    · as_aux_lemma =>
      intro w1 k s3 hv hs3 cc
      replace HFB := Lib.hid (cc.heap HFB.out (by show ¬ w.heap.size = w.heap.size + 1; omega))
      replace HP := Lib.hid (HP.out.kept cc (fun k hk e => by have e' : k = w.heap.size + 1 := e; omega))
      replace NX := Lib.hid (NX.out.trans' cc (fun j hj e => by have e' : j = w.heap.size + 1 := e; omega))
      have zs := cc.size
      obtain ⟨h3, hh3⟩ : ∃ z, s3.h = z := ⟨_, rfl⟩
      obtain ⟨d3, hd3⟩ : ∃ z, s3.d = z := ⟨_, rfl⟩
      replace HST := Lib.hid (show w1.heap[w.heap.size + 1]? = some (.cells #[.slice A L.length cap, .int .i64 np, .int .i64 h3, .int .i64 d3] 60 (0, 0)) from by rw [← hh3, ← hd3]; exact hs3)
      have hb9 := V_bound hv (by omega) (by simp) (by simp)
      have hk0 := hb9.1.1
      have hr := V_sets np L.length L 0 0 _ _ (Nat.le_refl _) hv
      simp only [List.nil_append] at hr
      have HCM := Lib.hid (show checkM np L = if h3 ≠ 0 then .error 20 else if 2000 < k then .error 21 else .ok (k, d3, setsOf L) from by unfold checkM; rw [if_neg h64, hv]; simp only; rw [hh3, hd3, hr])
      clear hv hs3 cc hh3 hd3 hb9 hr
      obtain hc | ⟨hc, hq⟩ | ⟨hc, hq⟩ : h3 ≠ 0 ∨ (h3 = 0 ∧ 2000 < k) ∨ (h3 = 0 ∧ k ≤ 2000) := by omega
      · as_aux_lemma =>
        have e3 : ((h3 : Int) != 0) = true := by simp; omega
        have HC := Lib.hid (show checkM np L = .error 20 from by rw [HCM.out, if_pos hc])
        clear hc
        have kHFB0 : w1.cell? ⟨w.heap.size, 0, none⟩ = some (.int .i64 0) := by rw [cell_of HFB.out]; rfl
        have kHFB1 : w1.cell? ⟨w.heap.size, 1, none⟩ = some (.int .i64 0) := by rw [cell_of HFB.out]; rfl
        have kHFB2 : w1.cell? ⟨w.heap.size, 2, none⟩ = some (.slice none 0 0) := by rw [cell_of HFB.out]; rfl
        have kHST0 : w1.cell? ⟨(w.heap.size + 1), 0, none⟩ = some (.slice A L.length cap) := by rw [cell_of HST.out]; rfl
        have kHST1 : w1.cell? ⟨(w.heap.size + 1), 1, none⟩ = some (.int .i64 np) := by rw [cell_of HST.out]; rfl
        have kHST2 : w1.cell? ⟨(w.heap.size + 1), 2, none⟩ = some (.int .i64 h3) := by rw [cell_of HST.out]; rfl
        have kHST3 : w1.cell? ⟨(w.heap.size + 1), 3, none⟩ = some (.int .i64 d3) := by rw [cell_of HST.out]; rfl
        have fz0 : w1.frozen? ⟨w.heap.size, 0, none⟩ = false := frozen_of HFB.out
        have fz1 : w1.frozen? ⟨w.heap.size, 1, none⟩ = false := frozen_of HFB.out
        have fz2 : w1.frozen? ⟨w.heap.size, 2, none⟩ = false := frozen_of HFB.out
        go_wp2_with (fail)
        refine post_nm ?_
        intro WZ hW
        have hbz : WZ.heap[w.heap.size]? = some (.cells #[.int .i64 0, .int .i64 0, .slice none 0 0] 30 (0, 0)) := by rw [hW]; first | exact heap_setCell_eq _ (heap_setCell_eq _ (heap_setCell_eq _ HFB.out)) | exact HFB.out
        have nz : Nw w WZ := by rw [hW]; first | exact ((NX.out.setb (fun h => by omega) _).setb (fun h => by omega) _).setb (fun h => by omega) _ | exact NX.out
        have zz0 : WZ.cell? ⟨w.heap.size, 0, none⟩ = some (.int .i64 0) := by rw [cell_of hbz]; rfl
        have zz1 : WZ.cell? ⟨w.heap.size, 1, none⟩ = some (.int .i64 0) := by rw [cell_of hbz]; rfl
        have zz2 : WZ.cell? ⟨w.heap.size, 2, none⟩ = some (.slice none 0 0) := by rw [cell_of hbz]; rfl
        clear hW
        exact bodyPost_ret (v := .tuple #[.agg #[.int .i64 0, .int .i64 0, .slice none 0 0], .int .i64 20]) (by simp [results, Tryz.results9, go_sem, zz0, zz1, zz2]) rfl (HE.out _ 20 HC.out nz)
      · as_aux_lemma =>
        have e3 : ((h3 : Int) != 0) = false := by simp; omega
        have e4 : k > 2000 := hq
        have HC := Lib.hid (show checkM np L = .error 21 from by rw [HCM.out, if_neg (by simp [hc]), if_pos hq])
        clear hc
        have kHFB0 : w1.cell? ⟨w.heap.size, 0, none⟩ = some (.int .i64 0) := by rw [cell_of HFB.out]; rfl
        have kHFB1 : w1.cell? ⟨w.heap.size, 1, none⟩ = some (.int .i64 0) := by rw [cell_of HFB.out]; rfl
        have kHFB2 : w1.cell? ⟨w.heap.size, 2, none⟩ = some (.slice none 0 0) := by rw [cell_of HFB.out]; rfl
        have kHST0 : w1.cell? ⟨(w.heap.size + 1), 0, none⟩ = some (.slice A L.length cap) := by rw [cell_of HST.out]; rfl
        have kHST1 : w1.cell? ⟨(w.heap.size + 1), 1, none⟩ = some (.int .i64 np) := by rw [cell_of HST.out]; rfl
        have kHST2 : w1.cell? ⟨(w.heap.size + 1), 2, none⟩ = some (.int .i64 h3) := by rw [cell_of HST.out]; rfl
        have kHST3 : w1.cell? ⟨(w.heap.size + 1), 3, none⟩ = some (.int .i64 d3) := by rw [cell_of HST.out]; rfl
        have fz0 : w1.frozen? ⟨w.heap.size, 0, none⟩ = false := frozen_of HFB.out
        have fz1 : w1.frozen? ⟨w.heap.size, 1, none⟩ = false := frozen_of HFB.out
        have fz2 : w1.frozen? ⟨w.heap.size, 2, none⟩ = false := frozen_of HFB.out
        go_wp2_with (fail)
        refine post_nm ?_
        intro WZ hW
        have hbz : WZ.heap[w.heap.size]? = some (.cells #[.int .i64 0, .int .i64 0, .slice none 0 0] 30 (0, 0)) := by rw [hW]; first | exact heap_setCell_eq _ (heap_setCell_eq _ (heap_setCell_eq _ HFB.out)) | exact HFB.out
        have nz : Nw w WZ := by rw [hW]; first | exact ((NX.out.setb (fun h => by omega) _).setb (fun h => by omega) _).setb (fun h => by omega) _ | exact NX.out
        have zz0 : WZ.cell? ⟨w.heap.size, 0, none⟩ = some (.int .i64 0) := by rw [cell_of hbz]; rfl
        have zz1 : WZ.cell? ⟨w.heap.size, 1, none⟩ = some (.int .i64 0) := by rw [cell_of hbz]; rfl
        have zz2 : WZ.cell? ⟨w.heap.size, 2, none⟩ = some (.slice none 0 0) := by rw [cell_of hbz]; rfl
        clear hW
        exact bodyPost_ret (v := .tuple #[.agg #[.int .i64 0, .int .i64 0, .slice none 0 0], .int .i64 21]) (by simp [results, Tryz.results9, go_sem, zz0, zz1, zz2]) rfl (HE.out _ 21 HC.out nz)
      · as_aux_lemma =>
        have e3 : ((h3 : Int) != 0) = false := by simp; omega
        have e4 : ¬ k > 2000 := by omega
        have HC := Lib.hid (show checkM np L = .ok (k, d3, setsOf L) from by rw [HCM.out, if_neg (by simp [hc]), if_neg (by omega)])
        clear hc
        have kHST0 : w1.cell? ⟨(w.heap.size + 1), 0, none⟩ = some (.slice A L.length cap) := by rw [cell_of HST.out]; rfl
        have kHST1 : w1.cell? ⟨(w.heap.size + 1), 1, none⟩ = some (.int .i64 np) := by rw [cell_of HST.out]; rfl
        have kHST2 : w1.cell? ⟨(w.heap.size + 1), 2, none⟩ = some (.int .i64 h3) := by rw [cell_of HST.out]; rfl
        have kHST3 : w1.cell? ⟨(w.heap.size + 1), 3, none⟩ = some (.int .i64 d3) := by rw [cell_of HST.out]; rfl
        go_wp2_with (fail)
        clear kHST0 kHST1 kHST2 kHST3
        go_loopw [9, 10] (fun s9 s10 wr => ∃ (i : Nat) (U : List Int), s10 = .int .i64 i ∧ i ≤ L.length ∧ U.length ≤ i ∧ Hid (U = putsM [] (setsOf (L.take i))) ∧ Hid (IRow wr w.heap.size s9 U.length U) ∧ Hid (Nw w1 wr)) (fun _ s10 _ => L.length - (intOf s10).toNat)
        case atStart => exact ⟨0, [], rfl, Nat.zero_le _, Nat.le_refl _, Lib.hid rfl, Lib.hid (IRow.nil _ _), Lib.hid (Ch.refl _ _)⟩
        case round =>
          obtain ⟨i, U, rfl, hi, hU, HUE, HI, HWN⟩ := hrel
          obtain ⟨w2, hw2⟩ : ∃ W : World, W = wr := ⟨_, rfl⟩
          subst hw2
          obtain ⟨AU, cU, eU⟩ := HI.out.form
          subst eU
          have n := HWN.out
          replace HFB := Lib.hid (n.heap HFB.out id)
          replace HST := Lib.hid (n.heap HST.out id)
          replace NX := Lib.hid (NX.out.trans n)
          replace HP := Lib.hid (HP.out.kept n nof)
          have zn := n.size
          clear n
          have i0 : (0 : Int) ≤ (i : Int) := by omega
          by_cases hlt : i < L.length
          · as_aux_lemma =>
            have i1 : (i : Int) < (L.length : Int) := by omega
            obtain ⟨⟨c, x, y⟩, hq⟩ : ∃ q, L[i]? = some q := ⟨_, List.getElem?_eq_getElem hlt⟩
            have HSN := Lib.hid (setsOf_snoc hq)
            obtain ⟨A', cap', e9, -, -, hel⟩ := HP.out
            cases e9
            obtain ⟨pk, po, hpk, rfl, c0, c1, c2⟩ := hel i c x y hq
            clear hel hq
            obtain hc | hc | ⟨hc, hc2⟩ : c = 12 ∨ c = 13 ∨ (c ≠ 12 ∧ c ≠ 13) := by omega
            · as_aux_lemma =>
              have t12 : (c == 12) = true := by simp [hc]
              have hs := HSN.out
              rw [if_pos (Or.inl hc)] at hs
              replace HSN := Lib.hid hs
              clear hs hc
              go_wp2_with (go_at_call 9; fail)
              refine put_any U x _ _ _ _ HI.out.isC (by omega) ?_
              intro w3 v3 hrow n
              have hpl := putM_len x U
              go_wp2_with (fail)
              exact ⟨⟨i + 1, putM x U, by go_num, by omega, by omega, Lib.hid (by rw [HSN.out, putsM_snoc, HUE.out]), Lib.hid (hrow.lo (by omega)), Lib.hid (HWN.out.trans n)⟩, by simp [intOf]; omega⟩
            · as_aux_lemma =>
              have t12 : (c == 12) = false := by simp [hc]
              have t13 : (c == 13) = true := by simp [hc]
              have hs := HSN.out
              rw [if_pos (Or.inr hc)] at hs
              replace HSN := Lib.hid hs
              clear hs hc
              go_wp2_with (go_at_call 9; fail)
              refine put_any U x _ _ _ _ HI.out.isC (by omega) ?_
              intro w3 v3 hrow n
              have hpl := putM_len x U
              go_wp2_with (fail)
              exact ⟨⟨i + 1, putM x U, by go_num, by omega, by omega, Lib.hid (by rw [HSN.out, putsM_snoc, HUE.out]), Lib.hid (hrow.lo (by omega)), Lib.hid (HWN.out.trans n)⟩, by simp [intOf]; omega⟩
            · as_aux_lemma =>
              have t12 : (c == 12) = false := by simp [hc]
              have t13 : (c == 13) = false := by simp [hc2]
              have hs := HSN.out
              rw [if_neg (by rintro (h | h); exact hc h; exact hc2 h), List.append_nil] at hs
              replace HSN := Lib.hid hs
              clear hs hc
              go_wp2_with (fail)
              exact ⟨⟨i + 1, U, by go_num, by omega, by omega, Lib.hid (by rw [HSN.out, HUE.out]), HI, HWN⟩, by simp [intOf]; omega⟩
          · as_aux_lemma =>
            have i1 : ¬ (i : Int) < (L.length : Int) := by omega
            have hue := HUE.out
            rw [show i = L.length by omega, List.take_length, putsM_nil] at hue
            have HUE2 := Lib.hid hue
            clear hue
            have kHFB0 : w2.cell? ⟨w.heap.size, 0, none⟩ = some (.int .i64 0) := by rw [cell_of HFB.out]; rfl
            have kHFB1 : w2.cell? ⟨w.heap.size, 1, none⟩ = some (.int .i64 0) := by rw [cell_of HFB.out]; rfl
            have kHFB2 : w2.cell? ⟨w.heap.size, 2, none⟩ = some (.slice none 0 0) := by rw [cell_of HFB.out]; rfl
            have kHST0 : w2.cell? ⟨(w.heap.size + 1), 0, none⟩ = some (.slice A L.length cap) := by rw [cell_of HST.out]; rfl
            have kHST1 : w2.cell? ⟨(w.heap.size + 1), 1, none⟩ = some (.int .i64 np) := by rw [cell_of HST.out]; rfl
            have kHST2 : w2.cell? ⟨(w.heap.size + 1), 2, none⟩ = some (.int .i64 h3) := by rw [cell_of HST.out]; rfl
            have kHST3 : w2.cell? ⟨(w.heap.size + 1), 3, none⟩ = some (.int .i64 d3) := by rw [cell_of HST.out]; rfl
            have fz0 : w2.frozen? ⟨w.heap.size, 0, none⟩ = false := frozen_of HFB.out
            have fz1 : w2.frozen? ⟨w.heap.size, 1, none⟩ = false := frozen_of HFB.out
            have fz2 : w2.frozen? ⟨w.heap.size, 2, none⟩ = false := frozen_of HFB.out
            go_wp2_with (fail)
            have hkk := HK.out
            have hfar : ∀ j, (Value.slice AU U.length cU).ownBlock = some j → w.heap.size ≤ j ∧ j < w2.heap.size := fun j hj => HI.out.lt j hj
            have hnf : (Value.slice AU U.length cU).ownBlock ≠ some w.heap.size := by
              intro e
              rcases HI.out.2 with ⟨h1, -⟩ | ⟨g9, cap9, cur9, h1, -, h2, -⟩
              · rw [h1] at e; cases e
              · rw [h1] at e
                have e' : g9 = w.heap.size := Option.some.inj e
                rw [e', HFB.out] at h2
                injection h2 with h2
                injection h2 with h2 h3
                exact absurd h3 (by decide)
            refine post_nm ?_
            intro WZ hW
            have hbz : WZ.heap[w.heap.size]? = some (.cells #[.int .i64 k, .int .i64 d3, .slice AU U.length cU] 30 (0, 0)) := by rw [hW]; first | exact heap_setCell_eq _ (heap_setCell_eq _ (heap_setCell_eq _ HFB.out)) | exact HFB.out
            have CZ := Lib.hid (show Ch (· = w.heap.size) w2 WZ from by rw [hW]; exact (((Ch.refl (· = w.heap.size) w2).setb (fun _ => rfl) _).setb (fun _ => rfl) _).setb (fun _ => rfl) _)
            have nz : Nw w WZ := by rw [hW]; first | exact ((NX.out.setb (fun h => by omega) _).setb (fun h => by omega) _).setb (fun h => by omega) _ | exact NX.out
            have zz0 : WZ.cell? ⟨w.heap.size, 0, none⟩ = some (.int .i64 k) := by rw [cell_of hbz]; rfl
            have zz1 : WZ.cell? ⟨w.heap.size, 1, none⟩ = some (.int .i64 d3) := by rw [cell_of hbz]; rfl
            have zz2 : WZ.cell? ⟨w.heap.size, 2, none⟩ = some (.slice AU U.length cU) := by rw [cell_of hbz]; rfl
            clear hW
            exact bodyPost_ret (v := .tuple #[.agg #[.int .i64 k, .int .i64 d3, .slice AU U.length cU], .int .i64 0]) (by simp [results, Tryz.results9, go_sem, zz0, zz1, zz2]) rfl (by have h9 := hkk WZ k d3 (setsOf L) (.slice AU U.length cU) HC.out nz; rw [← HUE2.out] at h9; exact h9 (HI.out.ch' (F := (· = w.heap.size)) CZ.out (fun j hj e => hnf (by rw [hj]; exact congrArg some e))))

end Go.Proofs.YtdpbdcaefdcooaaGreatDoor
