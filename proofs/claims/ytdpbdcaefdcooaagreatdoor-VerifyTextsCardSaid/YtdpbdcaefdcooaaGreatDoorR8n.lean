/-
  ref08.number: the number that a string is in decimal.
-/
import Derived.Test.YtdpbdcaefdcooaaGreatDoorR8t
import Derived.Test.YtdpbdcaefdcooaaGreatDoorCRow
import Derived.Below
import Derived.Deep.Cut
namespace Go.Proofs.YtdpbdcaefdcooaaGreatDoor
open Go.RowKit
set_option linter.unusedVariables false
set_option linter.unusedSimpArgs false
set_option maxRecDepth 100000

theorem numM_none {s : List UInt8} (h : numGo true 0 s = none) : numM s = (0, false) := by unfold numM; rw [h]
theorem numM_some {s : List UInt8} {n : Int} (h : numGo true 0 s = some n) : numM s = (numV s n, decide (Lib.itoa (numV s n) = s)) := by unfold numM; rw [h]
theorem drop_byte (s : ByteArray) (k : Nat) (h : k < s.size) : s.data.toList.drop k = s[k] :: s.data.toList.drop (k + 1) := by
  have h2 : k < s.data.toList.length := by rw [Array.length_toList]; exact h
  rw [List.drop_eq_getElem_cons h2]
  rfl
theorem str_same (l : List UInt8) (s : ByteArray) : (l == s.toList) = decide (l = s.data.toList) := by
  rw [ByteArray.toList_eq, Bool.eq_iff_iff]
  simp
theorem u8_no (c : UInt8) (n : Nat) (h : c.toNat ≠ n) : ((c.toNat : Int) == (n : Int)) = false := by simp; omega
theorem u8_yes (c : UInt8) (n : Nat) (h : c.toNat = n) : ((c.toNat : Int) == (n : Int)) = true := by simp; omega

set_option maxHeartbeats 4000000 in
theorem rnumber_any (s : ByteArray) (w : World) (R : Ending → World → Prop) (hs : s.size ≤ 100000)
    (hR : ∀ w', Nw w w' → R (.returned (.tuple #[.int .i64 (numM s.data.toList).1, .bool (numM s.data.toList).2])) w') : Calls Tryz.prog 54 #[.string s] w R := by
  have HR := Lib.hid hR
  clear hR
  have slen : s.data.toList.length = s.size := by rw [Array.length_toList]; rfl
  have HSL := Lib.hid slen
  clear slen
  go_enter Tryz.func54, Tryz.ntmps54
  go_wp2_with (fail)
  go_loopw [4, 5] (fun s4 s5 wr => ∃ (n : Int) (k : Nat), s4 = .int .i64 n ∧ s5 = .int .i64 k ∧ k ≤ s.size ∧ Hid (numOk n) ∧ Hid (numGo (decide (k = 0)) n (s.data.toList.drop k) = numGo true 0 s.data.toList) ∧ Hid (wr = w)) (fun _ s5 _ => s.size - (intOf s5).toNat)
  case atStart => exact ⟨0, 0, rfl, rfl, Nat.zero_le _, Lib.hid numOk0, Lib.hid rfl, Lib.hid rfl⟩
  case round =>
    obtain ⟨n, k, rfl, rfl, hk, HO, HE, HW⟩ := hrel
    obtain rfl := HW.out
    have k0 : (0 : Int) ≤ (k : Int) := by omega
    by_cases hlt : k < s.size
    · as_aux_lemma =>
      have k1 : (k : Int) < (s.size : Int) := by omega
      have hd := drop_byte s k hlt
      obtain ⟨c, hc⟩ : ∃ c, s[k] = c := ⟨_, rfl⟩
      rw [hc] at hd
      have he := HE.out
      rw [hd] at he
      clear hd HE
      have c0 : (0 : Int) ≤ (c.toNat : Int) := by omega
      have c1 : (c.toNat : Int) ≤ 255 := by have := UInt8.toNat_lt c; omega
      by_cases h45 : c.toNat = 45
      · as_aux_lemma =>
        have e1 := u8_yes c 45 h45
        by_cases hk0 : k = 0
        · as_aux_lemma =>
          subst hk0
          have h2 : c = 45 := UInt8.toNat_inj.1 h45
          subst h2
          rw [numGo, if_pos (by simp)] at he
          have HE := Lib.hid he
          clear he
          go_wp2_with (fail)
          exact ⟨⟨n, 1, rfl, by go_num, by omega, HO, HE, Lib.hid (by first | rfl | trivial)⟩, by simp [intOf]; omega⟩
        · as_aux_lemma =>
          have e2 : ((k : Int) == 0) = false := by simp; omega
          have lc : (c.toNat : Int) < 48 := by omega
          rw [numGo, if_neg (by simp [hk0]), if_pos (by omega)] at he
          have HE := Lib.hid (numM_none he.symm)
          clear he
          go_wp2_with (fail)
          exact ret_ib (HR.out _ (Ch.refl _ _)) (by rw [HE.out]) (by rw [HE.out])
      · as_aux_lemma =>
        have e1 := u8_no c 45 h45
        have h2 : c ≠ 45 := fun e => by subst e; exact h45 rfl
        rw [numGo, if_neg (by simp [h2])] at he
        by_cases hl : c.toNat < 48
        · as_aux_lemma =>
          have lc : (c.toNat : Int) < 48 := by omega
          rw [if_pos (Or.inl hl)] at he
          have HE := Lib.hid (numM_none he.symm)
          clear he
          go_wp2_with (fail)
          exact ret_ib (HR.out _ (Ch.refl _ _)) (by rw [HE.out]) (by rw [HE.out])
        · have lc : ¬ (c.toNat : Int) < 48 := by omega
          by_cases hg : 57 < c.toNat
          · as_aux_lemma =>
            have gc : (57 : Int) < (c.toNat : Int) := by omega
            rw [if_pos (Or.inr hg)] at he
            have HE := Lib.hid (numM_none he.symm)
            clear he
            go_wp2_with (fail)
            exact ret_ib (HR.out _ (Ch.refl _ _)) (by rw [HE.out]) (by rw [HE.out])
          · as_aux_lemma =>
            have gc : ¬ (57 : Int) < (c.toNat : Int) := by omega
            rw [if_neg (by omega)] at he
            obtain ⟨a, ha⟩ : ∃ a, IntKind.i64.wrap (10 * n) = a := ⟨_, rfl⟩
            obtain ⟨d, hdd⟩ : ∃ d : Int, (c.toNat : Int) - 48 = d := ⟨_, rfl⟩
            have d0 : 0 ≤ d := by omega
            have d1 : d ≤ 9 := by omega
            rw [ha, hdd] at he
            obtain ⟨b, hb⟩ : ∃ b, IntKind.i64.wrap (a + d) = b := ⟨_, rfl⟩
            have HB := Lib.hid (show numOk b from by rw [← hb, IntKind.wrap_i64]; unfold numOk; omega)
            rw [hb] at he
            have HE := Lib.hid he
            clear he
            go_wp2_with (fail)
            exact ⟨⟨b, k + 1, rfl, by go_num, by omega, HB, HE, Lib.hid (by first | rfl | trivial)⟩, by simp [intOf]; omega⟩
    · as_aux_lemma =>
      have k1 : ¬ (k : Int) < (s.size : Int) := by omega
      have he := HE.out
      rw [List.drop_of_length_le (by rw [HSL.out]; omega), numGo] at he
      have HM := Lib.hid (numM_some he.symm)
      clear he HE
      by_cases h0 : s.size = 0
      · as_aux_lemma =>
        have z0 : ¬ (0 : Int) < (s.size : Int) := by omega
        have hv : numV s.data.toList n = n := by
          unfold numV
          have hnil : s.data.toList = [] := List.eq_nil_of_length_eq_zero (by rw [HSL.out]; exact h0)
          rw [hnil]
          rfl
        rw [hv] at HM
        have HD := Lib.hid (str_same (Lib.itoa n) s)
        go_wp2_with (go_at_call 50; fail)
        refine decimal8_any n _ _ HO.out ?_
        intro w2 n2
        go_wp2
        exact ret_ib (HR.out _ n2) (by rw [HM.out]) (by rw [HM.out, HD.out])
      · have z0 : (0 : Int) < (s.size : Int) := by omega
        have hd := drop_byte s 0 (by omega)
        obtain ⟨c, hc⟩ : ∃ c, s[0] = c := ⟨_, rfl⟩
        rw [hc, List.drop_zero] at hd
        have c0 : (0 : Int) ≤ (c.toNat : Int) := by omega
        have c1 : (c.toNat : Int) ≤ 255 := by have := UInt8.toNat_lt c; omega
        by_cases h45 : c.toNat = 45
        · as_aux_lemma =>
          have e1 := u8_yes c 45 h45
          have h2 : c = 45 := UInt8.toNat_inj.1 h45
          obtain ⟨v, hw⟩ : ∃ v, IntKind.i64.wrap (-n) = v := ⟨_, rfl⟩
          have hv : numV s.data.toList n = v := by
            unfold numV
            rw [hd, h2, if_pos (by rfl), hw]
          rw [hv] at HM
          have HV := Lib.hid (show numOk v from by rw [← hw, IntKind.wrap_i64]; unfold numOk; omega)
          have HD := Lib.hid (str_same (Lib.itoa v) s)
          clear hd hv h2
          go_wp2_with (go_at_call 50; fail)
          refine decimal8_any v _ _ HV.out ?_
          intro w2 n2
          go_wp2
          exact ret_ib (HR.out _ n2) (by rw [HM.out]) (by rw [HM.out, HD.out])
        · as_aux_lemma =>
          have e1 := u8_no c 45 h45
          have h2 : c ≠ 45 := fun e => by subst e; exact h45 rfl
          have hv : numV s.data.toList n = n := by
            unfold numV
            rw [hd, if_neg (by simp [h2])]
          rw [hv] at HM
          have HD := Lib.hid (str_same (Lib.itoa n) s)
          clear hd hv h2
          go_wp2_with (go_at_call 50; fail)
          refine decimal8_any n _ _ HO.out ?_
          intro w2 n2
          go_wp2
          exact ret_ib (HR.out _ n2) (by rw [HM.out]) (by rw [HM.out, HD.out])
end Go.Proofs.YtdpbdcaefdcooaaGreatDoor
