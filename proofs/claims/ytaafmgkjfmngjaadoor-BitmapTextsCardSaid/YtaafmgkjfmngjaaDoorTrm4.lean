/-
  strings.trimLeftASCII and trimRightASCII at the set of '#' and '.': whether something is left.
-/
import Derived.Test.YtaafmgkjfmngjaaDoorBld
import Derived.Test.YtaafmgkjfmngjaaDoorRp4
namespace Go.Proofs.YtaafmgkjfmngjaaDoor
open Go.RowKit
set_option linter.unusedVariables false
set_option linter.unusedSimpArgs false
set_option maxRecDepth 100000

/-- The block b holds the set. -/
def SetOk (w : World) (b : Nat) : Prop := ∀ c : UInt8, w.cell? ⟨b, c.toNat, none⟩ = some (.bool (okB c))
def allOk (s : ByteArray) : Prop := ∀ c ∈ s.data.toList, okB c = true
/-- What is left of s. -/
def Left (t s : ByteArray) : Prop := (allOk t ↔ allOk s) ∧ (allOk t → t.size = 0) ∧ t.size ≤ s.size
theorem allOk_nil {t : ByteArray} (h : t.size = 0) : allOk t := fun c hc => by
  have : t.data.toList.length = 0 := by rw [ba_len4]; exact h
  rw [List.eq_nil_of_length_eq_zero this] at hc
  cases hc
theorem has_set (b : Nat) (c : UInt8) (w : World) (R : Ending → World → Prop) (h : SetOk w b) (hR : R (.returned (.bool (okB c))) w) : Calls Tryd.prog 63 #[.pointer (some ⟨b, 0, none⟩), .int .u8 c.toNat] w R :=
  (Tryd.asciiSet_contains b c (okB c) w (h c)).mono fun e w' ⟨h1, h2⟩ => by subst h1 h2; exact hR
theorem ext_toList (t : ByteArray) (i j : Nat) : (t.extract i j).data.toList = (t.data.toList.drop i).take (j - i) := by
  rw [ByteArray.data_extract, Array.toList_extract]

set_option maxHeartbeats 2000000 in
theorem trimL_any (b : Nat) (s : ByteArray) (w : World) (R : Ending → World → Prop) (h : SetOk w b) (hs : s.size ≤ 1000000) (hR : ∀ t, Left t s → R (.returned (.string t)) w) :
    Calls Tryd.prog 55 #[.string s, .pointer (some ⟨b, 0, none⟩)] w R := by
  have HR := Lib.hid hR
  have HS := Lib.hid h
  clear hR h
  go_enter Tryd.func55, Tryd.ntmps55
  go_wp2
  go_loop [0] (fun s0 => ∃ t : ByteArray, s0 = .string t ∧ t.size ≤ s.size ∧ Hid (allOk t ↔ allOk s)) (fun s0 => match s0 with | .string t => t.size | _ => 0)
  case atStart => exact ⟨s, rfl, Nat.le_refl _, Lib.hid Iff.rfl⟩
  case round =>
    obtain ⟨t, rfl, htl, HT⟩ := hrel
    by_cases h0 : 0 < t.size
    · obtain ⟨c, hc⟩ : ∃ c, t[0]'h0 = c := ⟨_, rfl⟩
      have hg := ba_get4 t 0 h0
      rw [hc] at hg
      have hcons : t.data.toList = c :: t.data.toList.drop 1 := by
        cases hl : t.data.toList with
        | nil => rw [hl] at hg; cases hg
        | cons x l => rw [hl] at hg; simp at hg; subst hg; rfl
      have h0' : (0 : Int) < (t.size : Int) := by omega
      have HCONS := Lib.hid hcons
      clear hg hcons
      cases hok : okB c with
      | true =>
        have HOK := Lib.hid hok
        clear hok
        go_wp2_with (go_at_call 63; refine has_set b c _ _ HS.out ?_; rw [HOK.out])
        go_round
        case rel =>
          refine ⟨t.extract 1 t.size, rfl, by rw [ByteArray.size_extract]; omega, Lib.hid ?_⟩
          rw [← HT.out]
          unfold allOk
          have e : (t.extract 1 t.size).data.toList = t.data.toList.drop 1 := by rw [ext_toList]; exact List.take_of_length_le (by rw [List.length_drop, ba_len4]; exact Nat.le_refl _)
          rw [e]
          constructor
          · intro h d hd
            rw [HCONS.out] at hd
            rcases List.mem_cons.1 hd with rfl | hd
            · exact HOK.out
            · exact h d hd
          · intro h d hd
            exact h d (List.mem_of_mem_drop hd)
        case measure => simp [ByteArray.size_extract]; omega
      | false =>
        have HOK := Lib.hid hok
        clear hok
        go_wp2_with (go_at_call 63; refine has_set b c _ _ HS.out ?_; rw [HOK.out])
        refine HR.out t ⟨HT.out, fun h => ?_, htl⟩
        have := h c (by rw [HCONS.out]; exact List.mem_cons_self)
        rw [HOK.out] at this
        cases this
    · have h00 : t.size = 0 := by omega
      have h0' : ¬ (0 : Int) < (t.size : Int) := by omega
      go_wp2
      exact HR.out t ⟨HT.out, fun _ => h00, htl⟩

set_option maxHeartbeats 2000000 in
theorem trimR_any (b : Nat) (s : ByteArray) (w : World) (R : Ending → World → Prop) (h : SetOk w b) (hs : s.size ≤ 1000000) (hR : ∀ t, Left t s → R (.returned (.string t)) w) :
    Calls Tryd.prog 56 #[.string s, .pointer (some ⟨b, 0, none⟩)] w R := by
  have HR := Lib.hid hR
  have HS := Lib.hid h
  clear hR h
  go_enter Tryd.func56, Tryd.ntmps56
  go_wp2
  go_loop [0] (fun s0 => ∃ t : ByteArray, s0 = .string t ∧ t.size ≤ s.size ∧ Hid (allOk t ↔ allOk s)) (fun s0 => match s0 with | .string t => t.size | _ => 0)
  case atStart => exact ⟨s, rfl, Nat.le_refl _, Lib.hid Iff.rfl⟩
  case round =>
    obtain ⟨t, rfl, htl, HT⟩ := hrel
    by_cases h0 : 0 < t.size
    · obtain ⟨m, hm⟩ : ∃ m : Nat, t.size = m + 1 := ⟨t.size - 1, by omega⟩
      have hml : m < t.size := by omega
      obtain ⟨c, hc⟩ : ∃ c, t[m]'hml = c := ⟨_, rfl⟩
      have hg := ba_get4 t m hml
      rw [hc] at hg
      have hcons : t.data.toList = t.data.toList.take m ++ [c] := by
        have hl : t.data.toList.length = m + 1 := by rw [ba_len4]; exact hm
        rw [← take_snoc4 hg, List.take_of_length_le (by omega)]
      have h0' : (0 : Int) < (t.size : Int) := by omega
      have m0 : (0 : Int) ≤ (m : Int) := by omega
      have em : (t.size : Int) - 1 = (m : Int) := by omega
      have m1 : (m : Int) < (t.size : Int) := by omega
      have HCONS := Lib.hid hcons
      have HM := Lib.hid hm
      clear hg hcons hm
      cases hok : okB c with
      | true =>
        have HOK := Lib.hid hok
        clear hok
        go_wp2_with (go_at_call 63; refine has_set b c _ _ HS.out ?_; rw [HOK.out])
        go_round
        case rel =>
          refine ⟨t.extract 0 m, rfl, by rw [ByteArray.size_extract]; omega, Lib.hid ?_⟩
          rw [← HT.out]
          unfold allOk
          have e : (t.extract 0 m).data.toList = t.data.toList.take m := by rw [ext_toList, List.drop_zero, Nat.sub_zero]
          rw [e]
          constructor
          · intro h d hd
            rw [HCONS.out] at hd
            rcases List.mem_append.1 hd with hd | hd
            · exact h d hd
            · simp at hd; subst hd; exact HOK.out
          · intro h d hd
            exact h d (List.mem_of_mem_take hd)
        case measure => have := HM.out; simp [ByteArray.size_extract]; omega
      | false =>
        have HOK := Lib.hid hok
        clear hok
        go_wp2_with (go_at_call 63; refine has_set b c _ _ HS.out ?_; rw [HOK.out])
        refine HR.out t ⟨HT.out, fun h => ?_, htl⟩
        have := h c (by rw [HCONS.out]; exact List.mem_append_right _ (List.mem_singleton.2 rfl))
        rw [HOK.out] at this
        cases this
    · have h00 : t.size = 0 := by omega
      have h0' : ¬ (0 : Int) < (t.size : Int) := by omega
      go_wp2
      exact HR.out t ⟨HT.out, fun _ => h00, htl⟩
theorem Left.trans {t r s : ByteArray} (h : Left t r) (k : Left r s) : Left t s := ⟨h.1.trans k.1, h.2.1, Nat.le_trans h.2.2 k.2.2⟩
theorem Left.empty {t s : ByteArray} (h : Left t s) : t.size = 0 ↔ allOk s := ⟨fun e => h.1.1 (allOk_nil e), fun e => h.2.1 (h.1.2 e)⟩
end Go.Proofs.YtaafmgkjfmngjaaDoor
