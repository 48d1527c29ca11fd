/-
  ref12.Less.
-/
import Derived.Test.YtnibgjpbijlhbaaDoorRpc
import Derived.Test.YtnibgjpbijlhbaaDoorCmp
namespace Go.Proofs.YtnibgjpbijlhbaaDoor
open Go.RowKit Go.Shelf
set_option linter.unusedVariables false
set_option linter.unusedSimpArgs false
set_option maxRecDepth 100000

theorem lessP_go {x y : List Pc} {p : Pc} : lessP (p :: x) (p :: y) = lessP x y := by rw [lessP, if_pos rfl]
theorem lessP_ne {x y : List Pc} {p q : Pc} (h : p ≠ q) : lessP (p :: x) (q :: y) = some (decide (enc p < enc q)) := by rw [lessP, if_neg h]
theorem pcs_nil_iff (l : List UInt8) : pcs l = [] ↔ l = [] := by
  cases l with
  | nil => simp [pcs]
  | cons c l =>
    rw [pcs]
    split <;> simp
def pieceV (one : Bool) (t : List UInt8) : Pc := (!one, (if one = true then t.length else 0), t)
theorem pieceV_kind {a b : Bool} {t u : List UInt8} (h : a ≠ b) : pieceV a t ≠ pieceV b u ∧ decide (enc (pieceV a t) < enc (pieceV b u)) = a := by
  unfold pieceV
  constructor
  · intro e
    cases a <;> cases b <;> simp_all
  · simp only [enc, List.cons_lt_cons_iff]
    cases a <;> cases b <;> simp_all
theorem pieceV_len {t u : List UInt8} (h : t.length ≠ u.length) : pieceV true t ≠ pieceV true u ∧ decide (enc (pieceV true t) < enc (pieceV true u)) = decide (t.length < u.length) := by
  unfold pieceV
  constructor
  · intro e
    simp only [Prod.mk.injEq] at e
    exact h (by rw [e.2.2])
  · simp only [enc, List.cons_lt_cons_iff]
    simp [h]
theorem pieceV_text {a : Bool} {t u : List UInt8} (hl : a = true → t.length = u.length) (h : t ≠ u) : pieceV a t ≠ pieceV a u ∧ decide (enc (pieceV a t) < enc (pieceV a u)) = bytesLt t u := by
  unfold pieceV bytesLt
  constructor
  · intro e
    simp only [Prod.mk.injEq] at e
    exact h e.2.2
  · simp only [enc, List.cons_lt_cons_iff]
    cases a
    · simp
    · simp [hl rfl]

theorem bytesLess_map : ∀ x y : List UInt8, Op.bytesLess x y = bytesLt x y
  | [], [] => by simp [Op.bytesLess, bytesLt]
  | _ :: _, [] => by simp [Op.bytesLess, bytesLt]
  | [], _ :: _ => by simp [Op.bytesLess, bytesLt]
  | a :: x, b :: y => by
    rw [Op.bytesLess, bytesLess_map x y]
    unfold bytesLt
    rw [Bool.eq_iff_iff, decide_eq_true_eq, List.map_cons, List.map_cons, List.cons_lt_cons_iff]
    simp only [Bool.or_eq_true, Bool.and_eq_true, decide_eq_true_eq, beq_iff_eq]
    rw [UInt8.lt_iff_toNat_lt, ← UInt8.toNat_inj]

set_option maxHeartbeats 8000000 in
theorem rless_any (a b : ByteArray) (w : World) (R : Ending → World → Prop) (ha : a.size ≤ 1000000) (hb : b.size ≤ 1000000)
    (hR : R (.returned (.bool (lessB a.data.toList b.data.toList))) w) : Calls Tryd.prog 21 #[.string a, .string b] w R := by
  have HR := Lib.hid hR
  clear hR
  obtain ⟨L, hL⟩ : ∃ L, a.data.toList = L := ⟨_, rfl⟩
  obtain ⟨M, hM⟩ : ∃ M, b.data.toList = M := ⟨_, rfl⟩
  have hla : L.length = a.size := by rw [← hL]; exact ba_len a
  have hlb : M.length = b.size := by rw [← hM]; exact ba_len b
  rw [hL, hM] at HR
  have HL := Lib.hid hL
  have HM := Lib.hid hM
  clear hL hM
  go_enter Tryd.func21, Tryd.ntmps21
  go_wp2_with (fail)
  go_loopw [5, 6, 7, 8, 9, 10, 11, 12] (fun s5 s6 _ _ _ _ _ _ wr => Hid (wr = w) ∧ ∃ i k : Nat, s5 = .int .i64 i ∧ s6 = .int .i64 k ∧ i ≤ a.size ∧ k ≤ b.size ∧ Hid (lessP (pcs L) (pcs M) = lessP (pcs (L.drop i)) (pcs (M.drop k)))) (fun s5 _ _ _ _ _ _ _ _ => a.size - (intOf s5).toNat)
  case atStart => exact ⟨Lib.hid rfl, 0, 0, rfl, rfl, Nat.zero_le _, Nat.zero_le _, Lib.hid rfl⟩
  case round =>
    obtain ⟨hwr, i, k, rfl, rfl, hi, hk, HK⟩ := hrel
    obtain rfl := hwr.out
    have i0 : (0 : Int) ≤ (i : Int) := by omega
    have k0 : (0 : Int) ≤ (k : Int) := by omega
    by_cases hil : i < a.size
    · have i1 : (i : Int) < (a.size : Int) := by omega
      by_cases hkl : k < b.size
      · as_aux_lemma =>
        have k1 : (k : Int) < (b.size : Int) := by omega
        go_wp2_with (go_at_call 39; fail)
        refine rpiece_any a i _ _ ha hil ?_
        intro t one m him hma hts hpt
        rw [HL.out] at hpt
        have HPT := Lib.hid (show pcs (L.drop i) = pieceV one t :: pcs (L.drop m) from hpt)
        clear hpt
        go_wp2_with (go_at_call 39; fail)
        refine rpiece_any b k _ _ hb hkl ?_
        intro u two n hkn hnb hus hpu
        rw [HM.out] at hpu
        have HPU := Lib.hid (show pcs (M.drop k) = pieceV two u :: pcs (M.drop n) from hpu)
        clear hpu
        have lt' : (⟨t.toArray⟩ : ByteArray).size = t.length := by simp [ByteArray.size]
        have lu' : (⟨u.toArray⟩ : ByteArray).size = u.length := by simp [ByteArray.size]
        by_cases h12 : one = two
        · obtain rfl := h12
          cases one
          · as_aux_lemma =>
            by_cases htu : t = u
            · as_aux_lemma =>
              have e3 : (t == u) = true := by simp [htu]
              have E := Lib.hid htu
              clear htu
              go_wp2_with (fail)
              refine ⟨⟨Lib.hid (by first | rfl | trivial), m, n, rfl, rfl, by omega, by omega, Lib.hid (by rw [HK.out, HPT.out, HPU.out, E.out]; exact lessP_go)⟩, by simp [intOf]; omega⟩
            · as_aux_lemma =>
              have e3 : (t == u) = false := by simp [htu]
              have E := Lib.hid (pieceV_text (a := false) (fun h => nomatch h) htu)
              clear htu
              go_wp2_with (fail)
              exact ret_b HR.out (by unfold lessB; rw [HK.out, HPT.out, HPU.out, lessP_ne E.out.1, E.out.2, Option.getD_some, bytesLess_map])
          · as_aux_lemma =>
            by_cases hl : t.length = u.length
            · by_cases htu : t = u
              · as_aux_lemma =>
                have e4 : ((t.length : Int) != (u.length : Int)) = false := by rw [hl]; simp
                have e3 : (t == u) = true := by simp [htu]
                have E := Lib.hid htu
                clear htu hl
                go_wp2_with (fail)
                refine ⟨⟨Lib.hid (by first | rfl | trivial), m, n, rfl, rfl, by omega, by omega, Lib.hid (by rw [HK.out, HPT.out, HPU.out, E.out]; exact lessP_go)⟩, by simp [intOf]; omega⟩
              · as_aux_lemma =>
                have e4 : ((t.length : Int) != (u.length : Int)) = false := by rw [hl]; simp
                have e3 : (t == u) = false := by simp [htu]
                have E := Lib.hid (pieceV_text (a := true) (fun _ => hl) htu)
                clear htu hl
                go_wp2_with (fail)
                exact ret_b HR.out (by unfold lessB; rw [HK.out, HPT.out, HPU.out, lessP_ne E.out.1, E.out.2, Option.getD_some, bytesLess_map])
            · as_aux_lemma =>
              have e4 : ((t.length : Int) != (u.length : Int)) = true := by simp only [bne_iff_ne]; omega
              have E := Lib.hid (pieceV_len hl)
              clear hl
              go_wp2_with (fail)
              exact ret_b HR.out (by unfold lessB; rw [HK.out, HPT.out, HPU.out, lessP_ne E.out.1, E.out.2, Option.getD_some])
        · as_aux_lemma =>
          have E := Lib.hid (pieceV_kind (t := t) (u := u) h12)
          cases one <;> cases two
          · exact absurd rfl h12
          all_goals (first | exact absurd rfl h12 | skip)
          all_goals
            clear h12
            go_wp2_with (fail)
            exact ret_b HR.out (by unfold lessB; rw [HK.out, HPT.out, HPU.out, lessP_ne E.out.1, E.out.2, Option.getD_some])
      · as_aux_lemma =>
        have k1 : ¬ (k : Int) < (b.size : Int) := by omega
        have EK := Lib.hid (show pcs (M.drop k) = [] from (pcs_nil_iff _).2 (List.drop_of_length_le (by omega)))
        go_wp2
        exact ret_b HR.out (by
          unfold lessB
          rw [HK.out, EK.out, drop_at (by omega)]
          cases h : pcs (at0 L i :: L.drop (i + 1)) with
          | nil => exact absurd ((pcs_nil_iff _).1 h) (by simp)
          | cons p x => rfl)
    · as_aux_lemma =>
      have i1 : ¬ (i : Int) < (a.size : Int) := by omega
      have EI := Lib.hid (show pcs (L.drop i) = [] from (pcs_nil_iff _).2 (List.drop_of_length_le (by omega)))
      by_cases hkl : k < b.size
      · have k1 : (k : Int) < (b.size : Int) := by omega
        go_wp2
        exact ret_b HR.out (by
          unfold lessB
          rw [HK.out, EI.out, drop_at (by omega)]
          cases h : pcs (at0 M k :: M.drop (k + 1)) with
          | nil => exact absurd ((pcs_nil_iff _).1 h) (by simp)
          | cons p x => rfl)
      · have k1 : ¬ (k : Int) < (b.size : Int) := by omega
        have EK := Lib.hid (show pcs (M.drop k) = [] from (pcs_nil_iff _).2 (List.drop_of_length_le (by omega)))
        go_wp2
        exact ret_b HR.out (by unfold lessB; rw [HK.out, EI.out, EK.out, bytesLess_map, ByteArray.toList_eq, ByteArray.toList_eq, HL.out, HM.out]; rfl)

end Go.Proofs.YtnibgjpbijlhbaaDoor
