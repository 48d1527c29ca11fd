/-
  law08: facts, wrong, sanity: the examples of the chapter.
-/
import Derived.Test.YtdpbdcaefdcooaaGreatDoorVpp
import Derived.Test.YtdpbdcaefdcooaaGreatDoorVsf
import Derived.Test.YtdpbdcaefdcooaaGreatDoorVs
import Derived.Test.YtdpbdcaefdcooaaGreatDoorVCheck
namespace Go.Proofs.YtdpbdcaefdcooaaGreatDoor
open Go.RowKit
set_option linter.unusedVariables false
set_option linter.unusedSimpArgs false
set_option maxRecDepth 100000

theorem sorted_eq (r : List Int) : sorted r = sortedP r := rfl
/-- A row of numbers that was found, as an argument. -/
theorem own_isC {w : World} {B n : Nat} {v : Value} {xs : List Value} (h : w.ownsRow B 3 1 v n xs) : IsC w w.heap.size v n 1 xs := CRow.isC (T := 3) (z := 1) h
theorem own_form {w : World} {B n : Nat} {v : Value} {xs : List Value} (h : w.ownsRow B 3 1 v n xs) : ∃ A c, v = .slice A n c := row_form h
theorem compact_le (r : List Int) : (sorted r).length ≤ r.length := by
  have := Lib.compact_length_le (r.mergeSort fun x y => decide (x ≤ y))
  rw [List.length_mergeSort] at this
  exact this
theorem checkM_len {np k : Int} {L : List VOp} {d : Nat} {r : List Int} (h : checkM np L = .ok (k, d, r)) : L.length ≤ 64 ∧ r.length ≤ 64 ∧ k ≤ 2000 ∧ 0 ≤ k ∧ d ≤ 8 := by
  unfold checkM at h
  split at h
  · cases h
  · rename_i hl
    cases hV : V np L 0 0 ⟨0, 0, []⟩ with
    | error x => rw [hV] at h; cases h
    | ok y =>
      obtain ⟨k', v⟩ := y
      rw [hV] at h
      simp only at h
      split at h
      · cases h
      · split at h
        · cases h
        · rename_i h2 h3
          simp only [Except.ok.injEq, Prod.mk.injEq] at h
          obtain ⟨rfl, rfl, rfl⟩ := h
          obtain ⟨⟨a1, -⟩, -, -, a2, t, a3, a4, -⟩ := V_bound hV (by omega) (by simp) (by simp)
          refine ⟨by omega, ?_, by omega, by omega, a2⟩
          rw [a3]
          simp
          omega
theorem ba_eq (s : ByteArray) (P : List UInt8) (h : s.data.toList = P) : (P == s.toList) = true := by
  rw [ByteArray.toList_eq, h]
  simp

theorem IsCnil (w : World) : IsC w 0 (.slice none 0 0) ([] : List Int).length 1 (([] : List Int).map (Value.int .i64)) := ⟨none, 0, rfl, Nat.le_refl _, rfl, fun i x h => by cases h⟩
theorem isC_one {w : World} {b : Nat} {n : Int} {f : Nat × Nat} (h : w.heap[b]? = some (.cells #[.int .i64 n] 3 f)) : IsC w w.heap.size (.slice (some ⟨b, 0, none⟩) 1 1) ([n] : List Int).length 1 (([n] : List Int).map (Value.int .i64)) :=
  ⟨_, 1, rfl, Nat.le_refl _, rfl, fun i x hi => by
    cases i with
    | zero => simp at hi; subst hi; exact ⟨b, lt_of_heap h, rfl, by rw [cell_of h]; rfl⟩
    | succ i => simp at hi⟩

set_option maxHeartbeats 4000000 in
theorem facts_any (P : List VOp) (k : Int) (d : Nat) (r : List Int) (s : ByteArray) (v : Value) (lo : Nat) (w : World) (R : Ending → World → Prop) (hk : WOk w) (hsz : s.size ≤ 100000) (hs : s.data.toList = textM P) (hf : formedL P = true) (hn : ∀ o ∈ P, numOk o.2.1 ∧ numOk o.2.2)
    (hcm : checkM 4 P = .ok (k, d, r)) (hv : IsC w lo v (sorted r).length 1 ((sorted r).map (Value.int .i64)))
    (hR : ∀ w', Nw w w' → R (.returned (.bool true)) w') : Calls Tryz.prog 16 #[.string s, .agg #[.int .i64 k, .int .i64 d, v]] w R := by
  have HR := Lib.hid hR
  clear hR
  have HKW := Lib.hid hk
  clear hk
  have NX := Lib.hid (Ch.refl (fun _ => False) w)
  have hpt := parse_text hf hn
  rw [← hs] at hpt
  have HPT := Lib.hid hpt
  have HS := Lib.hid hs
  have HNM := Lib.hid hn
  have HCM := Lib.hid hcm
  clear hpt hs hn hcm
  have HC := Lib.hid hv
  obtain ⟨A1, c1, rfl⟩ : ∃ A c, v = .slice A (sorted r).length c := by obtain ⟨A, c, e, -⟩ := HC.out; exact ⟨A, c, e⟩
  clear hv
  have hr64 : (sorted r).length ≤ 64 := Nat.le_trans (compact_le r) (checkM_len HCM.out).2.1
  obtain ⟨S, hS⟩ : ∃ S, sorted r = S := ⟨_, rfl⟩
  rw [hS] at HC hr64 ⊢
  have HS9 := Lib.hid hS
  clear hS
  go_enter Tryz.func16, Tryz.ntmps16
  go_wp2_with (go_at_call 19; fail)
  refine Calls_nm ?_
  intro W1 hW
  have n : Nw w W1 := by rw [hW]; first | exact Ch.refl _ _ | exact (Ch.refl _ _).alloc _ | exact ((Ch.refl _ _).alloc _).alloc _
  replace HKW := Lib.hid (HKW.out.kept n (fun _ _ e => e))
  replace NX := Lib.hid (NX.out.trans n)
  replace HC := Lib.hid ((HC.out.kept n nof))
  have HB := Lib.hid (show W1.heap[w.heap.size]? = some (.cells #[.int .i64 k, .int .i64 d, .slice A1 S.length c1] 30 (0, 0)) from by rw [hW]; exact heap_alloc_eq _ rfl)
  clear hW n
  refine parse_any s _ _ hsz HKW.out ?_
  rw [HPT.out]
  intro w2 x hrow n
  replace HKW := Lib.hid (HKW.out.kept n (fun _ _ e => e))
  replace NX := Lib.hid (NX.out.trans n)
  replace HC := Lib.hid ((HC.out.kept n nof))
  replace HB := Lib.hid (n.heap HB.out id)
  clear n
  have HO := Lib.hid hrow
  obtain ⟨A8, c8, rfl⟩ := hrow.form
  clear hrow
  have hz0 : 0 < w2.heap.size := by have := HKW.out.sz; omega
  go_wp2_with (go_at_call 19; fail)
  refine Calls_nm ?_
  intro W3 hW
  have n : Nw w2 W3 := by rw [hW]; first | exact Ch.refl _ _ | exact (Ch.refl _ _).alloc _ | exact ((Ch.refl _ _).alloc _).alloc _
  replace HKW := Lib.hid (HKW.out.kept n (fun _ _ e => e))
  replace NX := Lib.hid (NX.out.trans n)
  replace HC := Lib.hid ((HC.out.kept n nof))
  replace HB := Lib.hid (n.heap HB.out id)
  replace HO := Lib.hid (HO.out.ch' n (fun _ _ e => e))
  clear hW n
  refine Check_any 4 W3.heap.size (by have := HKW.out.sz; omega) P _ W3 _ (ORow.prog (L := P) HO.out) (Nat.le_refl _) HKW.out.kinds ?_ ?_
  · intro w9 x h9 n9; rw [HCM.out] at h9; cases h9
  · as_aux_lemma =>
    intro w9 k9 d9 r9 v9 h9 n hown
    rw [HCM.out] at h9
    simp only [Except.ok.injEq, Prod.mk.injEq] at h9
    obtain ⟨rfl, rfl, rfl⟩ := h9
    rw [HS9.out] at hown
    obtain ⟨A2, c2, rfl⟩ := own_form hown
    have HW2 := Lib.hid (own_isC hown)
    clear hown
    replace HKW := Lib.hid (HKW.out.kept n (fun _ _ e => e))
    replace NX := Lib.hid (NX.out.trans n)
    replace HC := Lib.hid ((HC.out.kept n nof))
    replace HB := Lib.hid (n.heap HB.out id)
    replace HO := Lib.hid (HO.out.ch' n (fun _ _ e => e))
    clear n
    have kHB0 : w9.cell? ⟨w.heap.size, 0, none⟩ = some (.int .i64 k) := by rw [cell_of HB.out]; rfl
    have jHB0 : ∀ o, (w9.alloc o).cell? ⟨w.heap.size, 0, none⟩ = some (.int .i64 k) := fun o => cell_alloc_old o kHB0
    have kHB1 : w9.cell? ⟨w.heap.size, 1, none⟩ = some (.int .i64 d) := by rw [cell_of HB.out]; rfl
    have jHB1 : ∀ o, (w9.alloc o).cell? ⟨w.heap.size, 1, none⟩ = some (.int .i64 d) := fun o => cell_alloc_old o kHB1
    have kHB2 : w9.cell? ⟨w.heap.size, 2, none⟩ = some (.slice A1 S.length c1) := by rw [cell_of HB.out]; rfl
    have jHB2 : ∀ o, (w9.alloc o).cell? ⟨w.heap.size, 2, none⟩ = some (.slice A1 S.length c1) := fun o => cell_alloc_old o kHB2
    go_wp2_with (go_at_call 19; fail)
    clear kHB0 jHB0 kHB1 jHB1 kHB2 jHB2
    refine Calls_nm ?_
    intro W4 hW
    have n : Nw w9 W4 := by rw [hW]; first | exact Ch.refl _ _ | exact (Ch.refl _ _).alloc _ | exact ((Ch.refl _ _).alloc _).alloc _
    replace HKW := Lib.hid (HKW.out.kept n (fun _ _ e => e))
    replace NX := Lib.hid (NX.out.trans n)
    replace HC := Lib.hid ((HC.out.kept n nof))
    replace HB := Lib.hid (n.heap HB.out id)
    replace HO := Lib.hid (HO.out.ch' n (fun _ _ e => e))
    replace HW2 := Lib.hid ((HW2.out.kept n nof))
    clear hW n
    refine sameF_any k k d d S S _ _ _ _ _ _ HW2.out HC.out (by omega) (by omega) ?_
    intro w5 n
    replace HKW := Lib.hid (HKW.out.kept n (fun _ _ e => e))
    replace NX := Lib.hid (NX.out.trans n)
    replace HC := Lib.hid ((HC.out.kept n nof))
    replace HB := Lib.hid (n.heap HB.out id)
    replace HO := Lib.hid (HO.out.ch' n (fun _ _ e => e))
    replace HW2 := Lib.hid ((HW2.out.kept n nof))
    clear n
    rw [decide_eq_true rfl]
    have te := ba_eq s _ HS.out
    go_wp2_with (go_at_call 19; fail)
    refine Calls_nm ?_
    intro W6 hW
    have n : Nw w5 W6 := by rw [hW]; first | exact Ch.refl _ _ | exact (Ch.refl _ _).alloc _ | exact ((Ch.refl _ _).alloc _).alloc _
    replace HKW := Lib.hid (HKW.out.kept n (fun _ _ e => e))
    replace NX := Lib.hid (NX.out.trans n)
    replace HC := Lib.hid ((HC.out.kept n nof))
    replace HB := Lib.hid (n.heap HB.out id)
    replace HO := Lib.hid (HO.out.ch' n (fun _ _ e => e))
    replace HW2 := Lib.hid ((HW2.out.kept n nof))
    clear hW n
    refine text_any W6.heap.size P _ _ _ (ORow.prog (L := P) HO.out) (Nat.le_refl _) HKW.out (by have := (checkM_len HCM.out).1; omega) HNM.out ?_
    intro w7 n
    replace HKW := Lib.hid (HKW.out.kept n (fun _ _ e => e))
    replace NX := Lib.hid (NX.out.trans n)
    replace HC := Lib.hid ((HC.out.kept n nof))
    replace HB := Lib.hid (n.heap HB.out id)
    replace HO := Lib.hid (HO.out.ch' n (fun _ _ e => e))
    replace HW2 := Lib.hid ((HW2.out.kept n nof))
    clear n
    go_wp2
    exact HR.out _ NX.out

set_option maxHeartbeats 4000000 in
theorem wrong_any (P : List VOp) (x : Int) (s : ByteArray) (w : World) (R : Ending → World → Prop) (hk : WOk w) (hsz : s.size ≤ 100000) (hs : s.data.toList = textM P) (hf : formedL P = true) (hn : ∀ o ∈ P, numOk o.2.1 ∧ numOk o.2.2)
    (hcm : checkM 4 P = .error x)
    (hR : ∀ w', Nw w w' → R (.returned (.bool true)) w') : Calls Tryz.prog 17 #[.string s, .int .i64 x] w R := by
  have HR := Lib.hid hR
  clear hR
  have HKW := Lib.hid hk
  clear hk
  have NX := Lib.hid (Ch.refl (fun _ => False) w)
  have hpt := parse_text hf hn
  rw [← hs] at hpt
  have HPT := Lib.hid hpt
  have HS := Lib.hid hs
  have HNM := Lib.hid hn
  have HCM := Lib.hid hcm
  clear hpt hs hn hcm
  go_enter Tryz.func17, Tryz.ntmps17
  go_wp2_with (go_at_call 19; fail)
  refine Calls_nm ?_
  intro W1 hW
  have n : Nw w W1 := by rw [hW]; first | exact Ch.refl _ _ | exact (Ch.refl _ _).alloc _ | exact ((Ch.refl _ _).alloc _).alloc _
  replace HKW := Lib.hid (HKW.out.kept n (fun _ _ e => e))
  replace NX := Lib.hid (NX.out.trans n)
  clear hW n
  refine parse_any s _ _ hsz HKW.out ?_
  rw [HPT.out]
  intro w2 x hrow n
  replace HKW := Lib.hid (HKW.out.kept n (fun _ _ e => e))
  replace NX := Lib.hid (NX.out.trans n)
  clear n
  have HO := Lib.hid hrow
  obtain ⟨A8, c8, rfl⟩ := hrow.form
  clear hrow
  have hz0 : 0 < w2.heap.size := by have := HKW.out.sz; omega
  go_wp2_with (go_at_call 19; fail)
  refine Calls_nm ?_
  intro W3 hW
  have n : Nw w2 W3 := by rw [hW]; first | exact Ch.refl _ _ | exact (Ch.refl _ _).alloc _ | exact ((Ch.refl _ _).alloc _).alloc _
  replace HKW := Lib.hid (HKW.out.kept n (fun _ _ e => e))
  replace NX := Lib.hid (NX.out.trans n)
  replace HO := Lib.hid (HO.out.ch' n (fun _ _ e => e))
  clear hW n
  refine Check_any 4 W3.heap.size (by have := HKW.out.sz; omega) P _ W3 _ (ORow.prog (L := P) HO.out) (Nat.le_refl _) HKW.out.kinds ?_ ?_
  · as_aux_lemma =>
    intro w9 x9 h9 n
    rw [HCM.out] at h9
    simp only [Except.error.injEq] at h9
    subst h9
    replace HKW := Lib.hid (HKW.out.kept n (fun _ _ e => e))
    replace NX := Lib.hid (NX.out.trans n)
    replace HO := Lib.hid (HO.out.ch' n (fun _ _ e => e))
    clear n
    have xe : (x == x) = true := by simp
    go_wp2_with (go_at_call 19; fail)
    refine Calls_nm ?_
    intro W4 hW
    have n : Nw w9 W4 := by rw [hW]; first | exact Ch.refl _ _ | exact (Ch.refl _ _).alloc _ | exact ((Ch.refl _ _).alloc _).alloc _
    replace HKW := Lib.hid (HKW.out.kept n (fun _ _ e => e))
    replace NX := Lib.hid (NX.out.trans n)
    replace HO := Lib.hid (HO.out.ch' n (fun _ _ e => e))
    clear hW n
    refine sameF_any 0 0 0 0 [] [] 0 0 _ _ _ _ (IsCnil _) (IsCnil _) (by simp) (by simp) ?_
    intro w5 n
    replace HKW := Lib.hid (HKW.out.kept n (fun _ _ e => e))
    replace NX := Lib.hid (NX.out.trans n)
    replace HO := Lib.hid (HO.out.ch' n (fun _ _ e => e))
    clear n
    rw [decide_eq_true rfl]
    go_wp2
    exact HR.out _ NX.out
  · intro w9 k9 d9 r9 v9 h9; rw [HCM.out] at h9; cases h9

def ex0 : List VOp := [(10, 1, 0), (8, 0, 0), (12, 1, 0)]
theorem ex0_ok : formedL ex0 = true ∧ (∀ o ∈ ex0, numOk o.2.1 ∧ numOk o.2.2) := ⟨by decide, by intro o ho; simp [ex0] at ho; unfold numOk; rcases ho with rfl | rfl | rfl <;> decide⟩
theorem ex0_text : (⟨#[103, 101, 116, 120, 32, 49, 59, 32, 114, 111, 117, 110, 100, 59, 32, 115, 101, 116, 120, 32, 49]⟩ : ByteArray).data.toList = textM ex0 := by rw [textM_formed ex0_ok.1]; simp [ex0, textW, wordB, usesN, usesM, Lib.join, List.intercalate, Lib.itoa, Lib.decDigits]
theorem ex0_check : checkM 4 ex0 = .ok (3, 1, [1]) := by rfl
def ex1 : List VOp := [(15, 4, 3), (10, 0, 0), (1, -16, 0), (2, 0, 0)]
theorem ex1_ok : formedL ex1 = true ∧ (∀ o ∈ ex1, numOk o.2.1 ∧ numOk o.2.2) := ⟨by decide, by intro o ho; simp [ex1] at ho; unfold numOk; rcases ho with rfl | rfl | rfl | rfl <;> decide⟩
theorem ex1_text : (⟨#[108, 111, 111, 112, 32, 52, 32, 51, 59, 32, 103, 101, 116, 120, 32, 48, 59, 32, 112, 117, 115, 104, 32, 45, 49, 54, 59, 32, 97, 100, 100]⟩ : ByteArray).data.toList = textM ex1 := by rw [textM_formed ex1_ok.1]; simp [ex1, textW, wordB, usesN, usesM, Lib.join, List.intercalate, Lib.itoa, Lib.decDigits]
theorem ex1_check : checkM 4 ex1 = .error 20 := by rfl
def ex2 : List VOp := [(9, 0, 0), (1, 9, 0), (3, 0, 0), (14, 2, 0), (1, 64, 0), (13, 3, 0)]
theorem ex2_ok : formedL ex2 = true ∧ (∀ o ∈ ex2, numOk o.2.1 ∧ numOk o.2.2) := ⟨by decide, by intro o ho; simp [ex2] at ho; unfold numOk; rcases ho with rfl | rfl | rfl | rfl | rfl | rfl <;> decide⟩
theorem ex2_text : (⟨#[115, 105, 122, 101, 59, 32, 112, 117, 115, 104, 32, 57, 59, 32, 115, 117, 98, 59, 32, 105, 102, 32, 50, 59, 32, 112, 117, 115, 104, 32, 54, 52, 59, 32, 115, 101, 116, 121, 32, 51]⟩ : ByteArray).data.toList = textM ex2 := by rw [textM_formed ex2_ok.1]; simp [ex2, textW, wordB, usesN, usesM, Lib.join, List.intercalate, Lib.itoa, Lib.decDigits]
theorem ex2_check : checkM 4 ex2 = .ok (6, 2, [3]) := by rfl
def ex3 : List VOp := [(15, 16, 4), (1, 1, 0), (14, 2, 0), (11, 2, 0), (13, 2, 0)]
theorem ex3_ok : formedL ex3 = true ∧ (∀ o ∈ ex3, numOk o.2.1 ∧ numOk o.2.2) := ⟨by decide, by intro o ho; simp [ex3] at ho; unfold numOk; rcases ho with rfl | rfl | rfl | rfl | rfl <;> decide⟩
theorem ex3_text : (⟨#[108, 111, 111, 112, 32, 49, 54, 32, 52, 59, 32, 112, 117, 115, 104, 32, 49, 59, 32, 105, 102, 32, 50, 59, 32, 103, 101, 116, 121, 32, 50, 59, 32, 115, 101, 116, 121, 32, 50]⟩ : ByteArray).data.toList = textM ex3 := by rw [textM_formed ex3_ok.1]; simp [ex3, textW, wordB, usesN, usesM, Lib.join, List.intercalate, Lib.itoa, Lib.decDigits]
theorem ex3_check : checkM 4 ex3 = .ok (65, 1, [2]) := by rfl
def ex4 : List VOp := [(2, 0, 0)]
theorem ex4_ok : formedL ex4 = true ∧ (∀ o ∈ ex4, numOk o.2.1 ∧ numOk o.2.2) := ⟨by decide, by intro o ho; simp [ex4] at ho; unfold numOk; subst ho; decide⟩
theorem ex4_text : (⟨#[97, 100, 100]⟩ : ByteArray).data.toList = textM ex4 := by rw [textM_formed ex4_ok.1]; simp [ex4, textW, wordB, usesN, usesM, Lib.join, List.intercalate, Lib.itoa, Lib.decDigits]
theorem ex4_check : checkM 4 ex4 = .error 20 := by rfl
def ex5 : List VOp := [(10, 4, 0)]
theorem ex5_ok : formedL ex5 = true ∧ (∀ o ∈ ex5, numOk o.2.1 ∧ numOk o.2.2) := ⟨by decide, by intro o ho; simp [ex5] at ho; unfold numOk; subst ho; decide⟩
theorem ex5_text : (⟨#[103, 101, 116, 120, 32, 52]⟩ : ByteArray).data.toList = textM ex5 := by rw [textM_formed ex5_ok.1]; simp [ex5, textW, wordB, usesN, usesM, Lib.join, List.intercalate, Lib.itoa, Lib.decDigits]
theorem ex5_check : checkM 4 ex5 = .error 22 := by rfl
def ex6 : List VOp := [(14, 1, 0)]
theorem ex6_ok : formedL ex6 = true ∧ (∀ o ∈ ex6, numOk o.2.1 ∧ numOk o.2.2) := ⟨by decide, by intro o ho; simp [ex6] at ho; unfold numOk; subst ho; decide⟩
theorem ex6_text : (⟨#[105, 102, 32, 49]⟩ : ByteArray).data.toList = textM ex6 := by rw [textM_formed ex6_ok.1]; simp [ex6, textW, wordB, usesN, usesM, Lib.join, List.intercalate, Lib.itoa, Lib.decDigits]
theorem ex6_check : checkM 4 ex6 = .error 5 := by rfl
def ex7 : List VOp := [(1, 1, 0)]
theorem ex7_ok : formedL ex7 = true ∧ (∀ o ∈ ex7, numOk o.2.1 ∧ numOk o.2.2) := ⟨by decide, by intro o ho; simp [ex7] at ho; unfold numOk; subst ho; decide⟩
theorem ex7_text : (⟨#[112, 117, 115, 104, 32, 49]⟩ : ByteArray).data.toList = textM ex7 := by rw [textM_formed ex7_ok.1]; simp [ex7, textW, wordB, usesN, usesM, Lib.join, List.intercalate, Lib.itoa, Lib.decDigits]
theorem ex7_check : checkM 4 ex7 = .error 20 := by rfl
theorem sorted_one (n : Int) : sorted [n] = [n] := by unfold sorted; simp [Lib.compact, Lib.compactUpTo, Lib.keeps]

set_option maxHeartbeats 8000000 in
theorem sanity_any (w : World) (R : Ending → World → Prop) (hk : WOk w) (hR : ∀ w', Nw w w' → R (.returned (.bool true)) w') : Calls Tryz.prog 5 #[] w R := by
  have HR := Lib.hid hR
  clear hR
  have HKW := Lib.hid hk
  clear hk
  have NX := Lib.hid (Ch.refl (fun _ => False) w)
  go_enter Tryz.func5, Tryz.ntmps5
  go_wp2_with (go_at_call 19; fail)
  refine Calls_nm ?_
  intro W1 hW
  have n : Nw w W1 := by rw [hW]; first | exact Ch.refl _ _ | exact (Ch.refl _ _).alloc _ | exact ((Ch.refl _ _).alloc _).alloc _
  replace HKW := Lib.hid (HKW.out.kept n (fun _ _ e => e))
  replace NX := Lib.hid (NX.out.trans n)
  have HE0 := Lib.hid (show W1.heap[w.heap.size]? = some (.cells #[.int .i64 1] 3 (0, 0)) from by rw [hW]; exact heap_alloc_eq _ rfl)
  clear hW n
  refine facts_any ex0 3 1 [1] _ _ W1.heap.size _ _ HKW.out (by decide) ex0_text ex0_ok.1 ex0_ok.2 ex0_check (by rw [sorted_one]; exact isC_one HE0.out) ?_
  intro w2 n
  replace HKW := Lib.hid (HKW.out.kept n (fun _ _ e => e))
  replace NX := Lib.hid (NX.out.trans n)
  replace HE0 := Lib.hid (n.heap HE0.out id)
  clear HE0
  clear n
  go_wp2_with (go_at_call 19; fail)
  refine Calls_nm ?_
  intro W3 hW
  have n : Nw w2 W3 := by rw [hW]; first | exact Ch.refl _ _ | exact (Ch.refl _ _).alloc _ | exact ((Ch.refl _ _).alloc _).alloc _
  replace HKW := Lib.hid (HKW.out.kept n (fun _ _ e => e))
  replace NX := Lib.hid (NX.out.trans n)
  clear hW n
  refine wrong_any ex1 20 _ _ _ HKW.out (by decide) ex1_text ex1_ok.1 ex1_ok.2 ex1_check ?_
  intro w4 n
  replace HKW := Lib.hid (HKW.out.kept n (fun _ _ e => e))
  replace NX := Lib.hid (NX.out.trans n)
  clear n
  go_wp2_with (go_at_call 19; fail)
  refine Calls_nm ?_
  intro W5 hW
  have n : Nw w4 W5 := by rw [hW]; first | exact Ch.refl _ _ | exact (Ch.refl _ _).alloc _ | exact ((Ch.refl _ _).alloc _).alloc _
  replace HKW := Lib.hid (HKW.out.kept n (fun _ _ e => e))
  replace NX := Lib.hid (NX.out.trans n)
  have HE2 := Lib.hid (show W5.heap[w4.heap.size]? = some (.cells #[.int .i64 3] 3 (0, 0)) from by rw [hW]; exact heap_alloc_eq _ rfl)
  clear hW n
  refine facts_any ex2 6 2 [3] _ _ W5.heap.size _ _ HKW.out (by decide) ex2_text ex2_ok.1 ex2_ok.2 ex2_check (by rw [sorted_one]; exact isC_one HE2.out) ?_
  intro w6 n
  replace HKW := Lib.hid (HKW.out.kept n (fun _ _ e => e))
  replace NX := Lib.hid (NX.out.trans n)
  replace HE2 := Lib.hid (n.heap HE2.out id)
  clear HE2
  clear n
  go_wp2_with (go_at_call 19; fail)
  refine Calls_nm ?_
  intro W7 hW
  have n : Nw w6 W7 := by rw [hW]; first | exact Ch.refl _ _ | exact (Ch.refl _ _).alloc _ | exact ((Ch.refl _ _).alloc _).alloc _
  replace HKW := Lib.hid (HKW.out.kept n (fun _ _ e => e))
  replace NX := Lib.hid (NX.out.trans n)
  have HE3 := Lib.hid (show W7.heap[w6.heap.size]? = some (.cells #[.int .i64 2] 3 (0, 0)) from by rw [hW]; exact heap_alloc_eq _ rfl)
  clear hW n
  refine facts_any ex3 65 1 [2] _ _ W7.heap.size _ _ HKW.out (by decide) ex3_text ex3_ok.1 ex3_ok.2 ex3_check (by rw [sorted_one]; exact isC_one HE3.out) ?_
  intro w8 n
  replace HKW := Lib.hid (HKW.out.kept n (fun _ _ e => e))
  replace NX := Lib.hid (NX.out.trans n)
  replace HE3 := Lib.hid (n.heap HE3.out id)
  clear HE3
  clear n
  go_wp2_with (go_at_call 19; fail)
  refine Calls_nm ?_
  intro W9 hW
  have n : Nw w8 W9 := by rw [hW]; first | exact Ch.refl _ _ | exact (Ch.refl _ _).alloc _ | exact ((Ch.refl _ _).alloc _).alloc _
  replace HKW := Lib.hid (HKW.out.kept n (fun _ _ e => e))
  replace NX := Lib.hid (NX.out.trans n)
  clear hW n
  refine wrong_any ex4 20 _ _ _ HKW.out (by decide) ex4_text ex4_ok.1 ex4_ok.2 ex4_check ?_
  intro w10 n
  replace HKW := Lib.hid (HKW.out.kept n (fun _ _ e => e))
  replace NX := Lib.hid (NX.out.trans n)
  clear n
  go_wp2_with (go_at_call 19; fail)
  refine Calls_nm ?_
  intro W11 hW
  have n : Nw w10 W11 := by rw [hW]; first | exact Ch.refl _ _ | exact (Ch.refl _ _).alloc _ | exact ((Ch.refl _ _).alloc _).alloc _
  replace HKW := Lib.hid (HKW.out.kept n (fun _ _ e => e))
  replace NX := Lib.hid (NX.out.trans n)
  clear hW n
  refine wrong_any ex5 22 _ _ _ HKW.out (by decide) ex5_text ex5_ok.1 ex5_ok.2 ex5_check ?_
  intro w12 n
  replace HKW := Lib.hid (HKW.out.kept n (fun _ _ e => e))
  replace NX := Lib.hid (NX.out.trans n)
  clear n
  go_wp2_with (go_at_call 19; fail)
  refine Calls_nm ?_
  intro W13 hW
  have n : Nw w12 W13 := by rw [hW]; first | exact Ch.refl _ _ | exact (Ch.refl _ _).alloc _ | exact ((Ch.refl _ _).alloc _).alloc _
  replace HKW := Lib.hid (HKW.out.kept n (fun _ _ e => e))
  replace NX := Lib.hid (NX.out.trans n)
  clear hW n
  refine wrong_any ex6 5 _ _ _ HKW.out (by decide) ex6_text ex6_ok.1 ex6_ok.2 ex6_check ?_
  intro w14 n
  replace HKW := Lib.hid (HKW.out.kept n (fun _ _ e => e))
  replace NX := Lib.hid (NX.out.trans n)
  clear n
  go_wp2_with (go_at_call 19; fail)
  refine Calls_nm ?_
  intro W15 hW
  have n : Nw w14 W15 := by rw [hW]; first | exact Ch.refl _ _ | exact (Ch.refl _ _).alloc _ | exact ((Ch.refl _ _).alloc _).alloc _
  replace HKW := Lib.hid (HKW.out.kept n (fun _ _ e => e))
  replace NX := Lib.hid (NX.out.trans n)
  clear hW n
  refine wrong_any ex7 20 _ _ _ HKW.out (by decide) ex7_text ex7_ok.1 ex7_ok.2 ex7_check ?_
  intro w16 n
  replace HKW := Lib.hid (HKW.out.kept n (fun _ _ e => e))
  replace NX := Lib.hid (NX.out.trans n)
  clear n
  go_wp2
  exact HR.out _ NX.out

end Go.Proofs.YtdpbdcaefdcooaaGreatDoor
