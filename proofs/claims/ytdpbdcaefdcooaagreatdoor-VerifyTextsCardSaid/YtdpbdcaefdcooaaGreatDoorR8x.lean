/-
  ref08.Text: the text of a program.
-/
import Derived.Test.YtdpbdcaefdcooaaGreatDoorR8w
import Derived.Test.YtdpbdcaefdcooaaGreatDoorVtx
namespace Go.Proofs.YtdpbdcaefdcooaaGreatDoor
open Go.RowKit
set_option linter.unusedVariables false
set_option linter.unusedSimpArgs false
set_option maxRecDepth 100000

/-- The text of the first operations. -/
def textTo (L : List VOp) (k : Nat) : List UInt8 := Lib.join ((L.take k).map textW) [59, 32]
theorem textTo_one {L : List VOp} {o : VOp} (h : L[0]? = some o) : textTo L 1 = textW o := by
  unfold textTo
  rw [List.take_add_one, h]
  exact Lib.join_one _ _
theorem textTo_next {L : List VOp} {k : Nat} {o : VOp} (h : L[k]? = some o) (hk : 0 < k) : textTo L (k + 1) = textTo L k ++ [59, 32] ++ textW o := by
  have hl := (List.getElem?_eq_some_iff.1 h).1
  unfold textTo
  rw [List.take_add_one, h, List.map_append]
  have hne : 0 < ((L.take k).map textW).length := by rw [List.length_map, List.length_take]; omega
  generalize (L.take k).map textW = X at hne
  match X, hne with
  | x :: X, _ =>
    show Lib.join (x :: (X ++ [textW o])) [59, 32] = _
    rw [Lib.join_cons, Lib.join_cons]
    simp [Lib.joinTail]
theorem textTo_len {L : List VOp} {k : Nat} (hn : ∀ o ∈ L, numOk o.2.1 ∧ numOk o.2.2) (hl : L.length ≤ 1000000) : (textTo L k).length ≤ 100000000 := by
  unfold textTo
  refine join_le (fun x hx => ?_) ?_
  · obtain ⟨o, ho, rfl⟩ := List.mem_map.1 hx
    exact textW_len (hn o (List.mem_of_mem_take ho))
  · rw [List.length_map, List.length_take]
    omega
theorem sep_eq : (⟨#[59, 32]⟩ : ByteArray) = ⟨([59, 32] : List UInt8).toArray⟩ := rfl

set_option maxHeartbeats 8000000 in
theorem rtext_any (lo : Nat) (L : List VOp) (p : Value) (w : World) (R : Ending → World → Prop) (hp : IsProg w lo p L) (hlo : lo ≤ w.heap.size) (h64 : L.length ≤ 1000000) (hn : ∀ o ∈ L, numOk o.2.1 ∧ numOk o.2.2)
    (hR : ∀ w', Nw w w' → R (.returned (.string ⟨(textM L).toArray⟩)) w') : Calls Tryz.prog 12 #[p] w R := by
  have HR := Lib.hid hR
  clear hR
  have HP := Lib.hid (hp : IsProg w lo p L)
  obtain ⟨A, cap, rfl, hl1, hl2, -⟩ := hp
  have HNM := Lib.hid hn
  clear hn
  go_enter Tryz.func12, Tryz.ntmps12
  go_wp2_with (fail)
  go_loopw [3, 4] (fun s3 s4 wr => ∃ k : Nat, s3 = .string ⟨(textTo L k).toArray⟩ ∧ s4 = .int .i64 k ∧ k ≤ L.length ∧ Hid (formedL (L.take k) = true) ∧ Hid (Nw w wr)) (fun _ s4 _ => L.length - (intOf s4).toNat)
  case atStart => exact ⟨0, rfl, rfl, Nat.zero_le _, Lib.hid rfl, Lib.hid (Ch.refl _ _)⟩
  case round =>
    obtain ⟨k, rfl, rfl, hk, HFM, HN⟩ := hrel
    have k0 : (0 : Int) ≤ (k : Int) := by omega
    have htl := textTo_len (k := k) HNM.out h64
    by_cases hlt : k < L.length
    · as_aux_lemma =>
      have k1 : (k : Int) < (L.length : Int) := by omega
      obtain ⟨⟨c, x, y⟩, hq⟩ : ∃ q, L[k]? = some q := ⟨_, List.getElem?_eq_getElem hlt⟩
      have hnm := HNM.out _ (List.mem_of_getElem? hq)
      have hwl := textW_len hnm
      simp only at hnm
      obtain ⟨hnx, hny⟩ := hnm
      have HX := Lib.hid hnx
      have HY := Lib.hid hny
      replace HP := Lib.hid (HP.out.kept HN.out nof)
      obtain ⟨A', c', e, -, -, hel⟩ := HP.out
      injection e with e1 e2 e3
      subst e1 e3
      obtain ⟨pk, po, hpk, rfl, q0, q1, q2⟩ := hel k c x y hq
      have HQ := Lib.hid hq
      clear hel hq hnx hny
      go_wp2_with (fail)
      refine rformed_any c x y _ _ ?_
      intro w2 n2
      have q0' := n2.cell q0 id
      have q1' := n2.cell q1 id
      have q2' := n2.cell q2 id
      have N2 := Lib.hid (HN.out.trans n2)
      clear q0 q1 q2 n2
      by_cases hf : vform c x y
      · as_aux_lemma =>
        rw [decide_eq_true hf]
        have hfc := hf.1
        obtain ⟨cn, rfl⟩ : ∃ m : Nat, c = (m : Int) := ⟨c.toNat, by omega⟩
        have HF := Lib.hid hf
        clear hf
        by_cases hk0 : k = 0
        · as_aux_lemma =>
          subst hk0
          simp only [Nat.zero_mul, Nat.add_zero] at q0' q1' q2'
          have HT := Lib.hid (textTo_one HQ.out)
          go_wp2_with (go_at_call 30; fail)
          refine word_any cn x y (by omega) HX.out HY.out _ _ ?_
          intro w3 n3
          go_wp2_with (fail)
          refine ⟨⟨1, ?_, by go_num, by omega, Lib.hid (formed_take HFM.out HQ.out HF.out), Lib.hid (N2.out.trans n3)⟩, by simp [intOf]; omega⟩
          rw [HT.out]
          first | rfl | (rw [str_two]; rfl) | simp [textTo]
        · as_aux_lemma =>
          have kp : (0 : Int) < (k : Int) := by omega
          have HT := Lib.hid (textTo_next HQ.out (by omega))
          go_wp2_with (go_at_call 30; fail)
          refine word_any cn x y (by omega) HX.out HY.out _ _ ?_
          intro w3 n3
          go_wp2_with (fail)
          refine ⟨⟨k + 1, ?_, by go_num, by omega, Lib.hid (formed_take HFM.out HQ.out HF.out), Lib.hid (N2.out.trans n3)⟩, by simp [intOf]; omega⟩
          rw [HT.out, sep_eq, str_two, str_two]
      · as_aux_lemma =>
        rw [decide_eq_false hf]
        have HE := Lib.hid (formed_not HQ.out hf)
        clear hf
        go_wp2
        have h9 := HR.out _ N2.out
        rw [HE.out] at h9
        exact h9
    · as_aux_lemma =>
      have k1 : ¬ (k : Int) < (L.length : Int) := by omega
      have hfm := HFM.out
      rw [List.take_of_length_le (by omega)] at hfm
      have HE := Lib.hid (show textTo L k = textM L from by rw [textM_formed hfm]; unfold textTo; rw [List.take_of_length_le (by omega)])
      clear hfm
      go_wp2
      rw [HE.out]
      exact HR.out _ HN.out
end Go.Proofs.YtdpbdcaefdcooaaGreatDoor
