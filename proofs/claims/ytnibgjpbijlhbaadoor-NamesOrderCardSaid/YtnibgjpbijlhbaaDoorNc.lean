/-
  Names: what Check says, in plain words. Plain lemmas.
-/
import Derived.Test.YtnibgjpbijlhbaaDoorNr
import Derived.Lib.Strings
import Derived.Lib.IndexMore
namespace Go.Proofs.YtnibgjpbijlhbaaDoor
set_option linter.unusedVariables false

def badAt (s : List UInt8) (k : Nat) : Prop := scr (at0 s k) = 0 ∨ (at0 s k = 45 ∧ (k = 0 ∨ k + 1 = s.length ∨ at0 s (k - 1) = 45))
def checkOk (s : List UInt8) : Prop := 1 ≤ s.length ∧ s.length ≤ 12 ∧ ∀ k, k < s.length → ¬ badAt s k
open Classical in
noncomputable def checkM (s : List UInt8) : Int := if checkOk s then 0 else 40
theorem checkM_no {s : List UInt8} (h : ¬ checkOk s) : checkM s = 40 := by unfold checkM; rw [if_neg h]
theorem checkM_ok {s : List UInt8} (h : checkOk s) : checkM s = 0 := by unfold checkM; rw [if_pos h]
theorem check_pre {s : List UInt8} (h : Lib.hasPrefix s [45] = true) : ¬ checkOk s := by
  rintro ⟨h1, h2, h3⟩
  match s, h1, h, h3 with
  | c :: s, _, h, h3 =>
    have hc : (45 : UInt8) = c := by simpa [Lib.hasPrefix] using h
    exact h3 0 (by simp) (Or.inr ⟨by simp [at0, ← hc], Or.inl rfl⟩)
theorem suf_last {s : List UInt8} : Lib.hasSuffix s [45] = true ↔ 1 ≤ s.length ∧ at0 s (s.length - 1) = 45 := by
  unfold Lib.hasSuffix
  rw [List.isSuffixOf_iff_suffix]
  constructor
  · rintro ⟨t, rfl⟩
    simp [at0, List.getD_eq_getElem?_getD]
  · rintro ⟨h1, h2⟩
    refine ⟨s.take (s.length - 1), ?_⟩
    have hd := drop_at (s := s) (k := s.length - 1) (by omega)
    rw [h2, show s.length - 1 + 1 = s.length by omega, List.drop_length] at hd
    rw [← hd, List.take_append_drop]
theorem pre_first {s : List UInt8} : Lib.hasPrefix s [45] = true ↔ 1 ≤ s.length ∧ at0 s 0 = 45 := by
  unfold Lib.hasPrefix
  cases s with
  | nil => simp
  | cons c s =>
    simp only [List.isPrefixOf, Bool.and_true, beq_iff_eq, at0, List.getD_cons_zero, List.length_cons]
    exact ⟨fun h => ⟨by omega, h.symm⟩, fun h => h.2.symm⟩
theorem check_suf {s : List UInt8} (h : Lib.hasSuffix s [45] = true) : ¬ checkOk s := by
  rintro ⟨h1, h2, h3⟩
  obtain ⟨h4, h5⟩ := suf_last.1 h
  exact h3 (s.length - 1) (by omega) (Or.inr ⟨h5, Or.inr (Or.inl (by omega))⟩)
theorem occ_two {s : List UInt8} : (∃ i, [45, 45].isPrefixOf (s.drop i) = true) ↔ ∃ k, k + 1 < s.length ∧ at0 s k = 45 ∧ at0 s (k + 1) = 45 := by
  constructor
  · rintro ⟨i, h⟩
    rw [List.isPrefixOf_iff_prefix] at h
    obtain ⟨t, ht⟩ := h
    have hl : i + 1 < s.length := by
      have := congrArg List.length ht
      simp at this
      omega
    rw [drop_at (show i < s.length by omega), drop_at hl] at ht
    simp only [List.cons_append, List.nil_append, List.cons.injEq] at ht
    exact ⟨i, hl, ht.1.symm, ht.2.1.symm⟩
  · rintro ⟨k, hl, h1, h2⟩
    refine ⟨k, ?_⟩
    rw [drop_at (show k < s.length by omega), drop_at hl, h1, h2]
    simp
theorem con_two {s : List UInt8} : Lib.contains s [45, 45] = true ↔ ∃ k, k + 1 < s.length ∧ at0 s k = 45 ∧ at0 s (k + 1) = 45 := by
  rw [← occ_two]
  unfold Lib.contains
  rw [decide_eq_true_eq]
  rcases Lib.index_spec s [45, 45] with ⟨h1, h2⟩ | ⟨i, h1, h2, h3, -⟩
  · rw [h1]
    constructor
    · intro h; omega
    · rintro ⟨i, hi⟩
      rcases Nat.lt_or_ge s.length i with h | h
      · rw [List.drop_of_length_le (by omega)] at hi
        simp at hi
      · have := h2 i h
        unfold Lib.occAt at this
        rw [this] at hi
        cases hi
  · rw [h1]
    exact ⟨fun _ => ⟨i, h3⟩, fun _ => by omega⟩
theorem check_con {s : List UInt8} (h : Lib.contains s [45, 45] = true) : ¬ checkOk s := by
  rintro ⟨-, -, h3⟩
  obtain ⟨k, h1, h2, h4⟩ := con_two.1 h
  exact h3 (k + 1) h1 (Or.inr ⟨h4, Or.inr (Or.inr (by rw [Nat.add_sub_cancel]; exact h2))⟩)
theorem check_scr {s : List UInt8} {k : Nat} (hk : k < s.length) (h : scr (at0 s k) = 0) : ¬ checkOk s := fun hc => hc.2.2 k hk (Or.inl h)
theorem check_all {s : List UInt8} (h1 : 1 ≤ s.length) (h2 : s.length ≤ 12) (hp : Lib.hasPrefix s [45] = false) (hs : Lib.hasSuffix s [45] = false) (hc : Lib.contains s [45, 45] = false) (h : ∀ k, k < s.length → scr (at0 s k) ≠ 0) : checkOk s := by
  refine ⟨h1, h2, fun k hk hb => ?_⟩
  rcases hb with hb | ⟨h45, hb⟩
  · exact h k hk hb
  · rcases hb with hb | hb | hb
    · subst hb
      rw [pre_first.2 ⟨h1, h45⟩] at hp
      cases hp
    · rw [suf_last.2 ⟨h1, by rw [show s.length - 1 = k by omega]; exact h45⟩] at hs
      cases hs
    · rcases Nat.eq_zero_or_pos k with h0 | h0
      · subst h0
        rw [pre_first.2 ⟨h1, h45⟩] at hp
        cases hp
      · rw [con_two.2 ⟨k - 1, by omega, hb, by rw [show k - 1 + 1 = k by omega]; exact h45⟩] at hc
        cases hc
theorem check_short {s : List UInt8} (h : s.length < 1) : ¬ checkOk s := fun hc => by have := hc.1; omega
theorem check_long {s : List UInt8} (h : 12 < s.length) : ¬ checkOk s := fun hc => by have := hc.2.1; omega
end Go.Proofs.YtnibgjpbijlhbaaDoor
