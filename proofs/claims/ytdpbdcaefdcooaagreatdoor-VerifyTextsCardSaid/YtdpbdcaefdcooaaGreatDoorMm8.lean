/-
  ref08.Made: a program that numbers make.
-/
import Derived.Test.YtdpbdcaefdcooaaGreatDoorMp8
namespace Go.Proofs.YtdpbdcaefdcooaaGreatDoor
open Go.RowKit
set_option linter.unusedVariables false
set_option linter.unusedSimpArgs false
set_option maxRecDepth 100000

set_option maxHeartbeats 4000000 in
theorem made_any (np : Int) (v : Value) (l : List Int) (w : World) (R : Ending → World → Prop) (h : IsInts w w.heap.size v l) (h1 : np ≤ 1000000)
    (hR : ∀ w' x L, ORow w' w.heap.size x L → (L = [] → x = .slice none 0 0) → MadeOk np L → Nw w w' → R (.returned x) w') : Calls Tryz.prog 6 #[v, .int .i64 np] w R := by
  have HR := Lib.hid hR
  have HI := Lib.hid h
  obtain ⟨A, cap, rfl⟩ : ∃ A cap, v = .slice A l.length cap := by obtain ⟨A, c, e, -⟩ := h; exact ⟨A, c, e⟩
  clear hR h
  go_enter Tryz.func6, Tryz.ntmps6
  go_wp2_with (go_at_call 18; fail)
  refine Calls_nm ?_
  intro W1 hW
  have HD := Lib.hid (show DS W1 w.heap.size w.heap.size (.slice A l.length cap) l 0 from by rw [hW]; exact ⟨heap_alloc_eq _ rfl, HI.out.kept ((Ch.refl (fun _ => False) w).alloc _) nof, Nat.zero_le _, Nat.le_refl _⟩)
  have HN := Lib.hid (show Nw w W1 from by rw [hW]; exact (Ch.refl _ _).alloc _)
  clear hW
  refine Next_any w.heap.size w.heap.size _ l 0 4 _ _ HD.out (by omega) (by omega) ?_
  intro W2 hd hc
  have HN2 := Lib.hid (HN.out.trans' hc (fun j hj e => by have e' : j = w.heap.size := e; omega))
  have HD2 := Lib.hid hd
  obtain ⟨n0, n1⟩ := nx_in l 0 4 (by omega)
  generalize nx l 0 4 = nn at n0 n1 ⊢
  generalize nk l 0 = kn at HD2
  clear hd hc HD HN
  obtain ⟨N, rfl⟩ : ∃ N : Nat, nn = (N : Int) := ⟨nn.toNat, by omega⟩
  have N4 : N ≤ 3 := by omega
  go_wp2_with (fail)
  clear n0 n1
  go_loopw [6, 8, 9] (fun s6 s8 _ wr => ∃ (k kr : Nat) (L : List VOp), s8 = .int .i64 k ∧ k ≤ N ∧ L.length ≤ 40 ∧ Hid (Runs np 2 L 0 0) ∧ Hid (ORow wr (w.heap.size + 1) s6 L) ∧ Hid (L = [] → s6 = .slice none 0 0) ∧ Hid (DS wr w.heap.size w.heap.size (.slice A l.length cap) l kr) ∧ Hid (Nw w wr)) (fun _ s8 _ _ => N - (intOf s8).toNat)
  case atStart => exact ⟨0, kn, [], rfl, Nat.zero_le _, by simp, Lib.hid (Runs.nil _ _ _), Lib.hid (CRow.nil _ _), Lib.hid fun _ => rfl, HD2, HN2⟩
  case round =>
    clear HN2 HD2 kn
    obtain ⟨k, kr, L, rfl, hk, h40, HRN, HO, HNIL, HD, HN⟩ := hrel
    obtain ⟨A8, c8, e8⟩ := HO.out.form
    subst e8
    have k0 : (0 : Int) ≤ (k : Int) := by omega
    have l0 : (0 : Int) ≤ (L.length : Int) := by omega
    have hb : w.heap.size < wr.heap.size := lt_of_heap HD.out.blk
    have hgo : (k < N ∧ 0 < np) ∨ (k < N ∧ ¬ 0 < np) ∨ ¬ k < N := by omega
    rcases hgo with ⟨hlt, hp⟩ | ⟨hlt, hp⟩ | hlt
    · as_aux_lemma =>
      have k1 : (k : Int) < (N : Int) := by omega
      have hp2 : np > 0 := hp
      go_wp2_with (go_at_call 18; fail)
      refine piece_any w.heap.size w.heap.size _ l np hp h1 2 2 rfl (by omega) kr _ _ HD.out hb ?_
      intro w2 x M k' d2 hrow hl1 hl2 hrun c2
      obtain ⟨A9, c9, rfl⟩ := hrow.form
      have sz := HN.out.size
      replace HO := Lib.hid (HO.out.ch' c2 (fun k hk e => by have e' : k = w.heap.size := e; have := (HO.out.lt k hk).1; omega))
      replace HN := Lib.hid (HN.out.trans' c2 (fun j hj e => by have e' : j = w.heap.size := e; omega))
      replace HD := Lib.hid d2
      have HM := Lib.hid hrow
      have HRM := Lib.hid hrun
      have sz2 := c2.size
      have m0 : (0 : Int) ≤ (M.length : Int) := by omega
      clear d2 hrow hrun c2
      by_cases hle : L.length + M.length ≤ 40
      · as_aux_lemma =>
        have hle2 : (L.length : Int) + (M.length : Int) ≤ 40 := by omega
        go_upto_region 9 with (fail)
        refine wp_region_lit ?_
        refine wpList_plain rfl fun K hK => ?_
        go_simp
        refine hK _ _ ?_
        clear hK K
        try simp only [Act.put, List.getElem_toArray, List.getElem_cons_succ, List.getElem_cons_zero, List.setIfInBounds_toArray, List.set_cons_zero, List.set_cons_succ]
        refine wpList_plain rfl fun K hK => ?_
        go_simp
        refine hK _ _ ?_
        clear hK K
        try simp only [Act.put, List.getElem_toArray, List.getElem_cons_succ, List.getElem_cons_zero, List.setIfInBounds_toArray, List.set_cons_zero, List.set_cons_succ]
        refine wpList_plain rfl fun K hK => ?_
        refine wp_appOps _ (.tmp 33) (.tmp 34) rfl (w.heap.size + 1) _ L (by rfl) HO.out _ _ M (by rfl) HM.out (fun h => by rw [h] at hl1; simp at hl1) (by omega) (by omega) ?_
        intro v9 w9 hrow9 hgr9 hnil9
        have hob : ∀ j, (Value.slice A8 L.length c8).ownBlock = some j → w.heap.size + 1 ≤ j := fun j hj => (HO.out.lt j hj).1
        have cg : Ch (fun j => (Value.slice A8 L.length c8).ownBlock = some j) w2 w9 := (Ch.refl _ _).grown hgr9 (fun k e _ => e)
        replace HD := Lib.hid (HD.out.kept cg (fun k hk e => by have := hob k e; omega))
        replace HN := Lib.hid (HN.out.grown hgr9 (fun k e hk => by have := hob k e; omega))
        replace HO := Lib.hid hrow9
        obtain ⟨Mz, hMz⟩ : ∃ Z, L ++ M = Z := ⟨_, rfl⟩
        have hz1 : Mz.length ≤ 40 := by rw [← hMz, List.length_append]; exact hle
        have hz2 := Lib.hid (show Runs np 2 Mz 0 0 from by rw [← hMz]; exact HRN.out.append HRM.out)
        have hz3 := Lib.hid (show Mz = [] → v9 = .slice none 0 0 from fun e => by rw [e] at hMz; have := congrArg List.length hMz; simp only [List.length_append, List.length_nil] at this; omega)
        rw [hMz] at HO
        clear hrow9 hgr9 hnil9 hob cg hMz
        refine hK _ _ ?_
        clear hK K
        try simp only [Act.put, List.getElem_toArray, List.getElem_cons_succ, List.getElem_cons_zero, List.setIfInBounds_toArray, List.set_cons_zero, List.set_cons_succ]
        go_wp2_with (fail)
        exact ⟨⟨k + 1, k', Mz, by go_num, by omega, hz1, hz2, HO, hz3, HD, HN⟩, by simp [intOf]; omega⟩
      · as_aux_lemma =>
        have hle2 : ¬ (L.length : Int) + (M.length : Int) ≤ 40 := by omega
        go_wp2_with (fail)
        exact ⟨⟨k + 1, k', L, by go_num, by omega, h40, HRN, HO, HNIL, HD, HN⟩, by simp [intOf]; omega⟩
    · as_aux_lemma =>
      have k1 : (k : Int) < (N : Int) := by omega
      have hp2 : ¬ np > 0 := hp
      go_wp2
      exact HR.out _ _ L (HO.out.lo (by omega)) HNIL.out ⟨h40, HRN.out⟩ HN.out
    · as_aux_lemma =>
      have k1 : ¬ (k : Int) < (N : Int) := by omega
      go_wp2
      exact HR.out _ _ L (HO.out.lo (by omega)) HNIL.out ⟨h40, HRN.out⟩ HN.out


end Go.Proofs.YtdpbdcaefdcooaaGreatDoor
