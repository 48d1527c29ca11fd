/-
  ref08.Words, word: the words, one operation as text.
-/
import Derived.Test.YtdpbdcaefdcooaaGreatDoorR8s
import Derived.Test.YtdpbdcaefdcooaaGreatDoorR8a
import Derived.Test.YtdpbdcaefdcooaaGreatDoorSlc
import Derived.Deep.RegionHeld3
namespace Go.Proofs.YtdpbdcaefdcooaaGreatDoor
open Go.RowKit
set_option linter.unusedVariables false
set_option linter.unusedSimpArgs false
set_option maxRecDepth 100000

def wordsL : List (List UInt8) := (List.range 16).map fun c => wordB (c : Nat)
theorem wordsL_len : wordsL.length = 16 := rfl
theorem wordsL_at {c : Nat} (h : c < 16) : wordsL[c]? = some (wordB (c : Nat)) := by
  unfold wordsL
  rw [List.getElem?_map, List.getElem?_range h]
  rfl
theorem wordB_len (c : Int) : (wordB c).length ≤ 5 := by
  by_cases h : 1 ≤ c ∧ c ≤ 15
  · rcases fifteen h with rfl | rfl | rfl | rfl | rfl | rfl | rfl | rfl | rfl | rfl | rfl | rfl | rfl | rfl | rfl <;> decide
  · unfold wordB
    repeat rw [if_neg (by omega)]
    decide
/-- The words in a row of their own. -/
def IsWords (w : World) (g : Nat) : Prop := w.heap[g]? = some (.cells (strC wordsL).toArray 9 (0, 0))
theorem IsWords.at {w : World} {g : Nat} (h : IsWords w g) {c : Nat} (hc : c < 16) : w.cell? ⟨g, c, none⟩ = some (.string ⟨(wordB (c : Nat)).toArray⟩) := by
  rw [cell_of h]
  simp [strC, wordsL_at hc]
theorem words_any (w : World) (R : Ending → World → Prop) (hR : ∀ w' g, IsWords w' g → w.heap.size ≤ g → Nw w w' → R (.returned (.slice (some ⟨g, 0, none⟩) 16 16)) w') : Calls Tryz.prog 49 #[] w R := by
  have HR := Lib.hid hR
  clear hR
  go_enter Tryz.func49, Tryz.ntmps49
  go_wp2_with (fail)
  refine HR.out _ _ ?_ (Nat.le_refl _) ((Ch.refl _ _).alloc _)
  exact heap_alloc_eq _ rfl
theorem str_two (a b : List UInt8) : (⟨a.toArray⟩ : ByteArray) ++ ⟨b.toArray⟩ = ⟨(a ++ b).toArray⟩ := str_app8 a b
theorem sp_eq : (⟨#[32]⟩ : ByteArray) = ⟨([32] : List UInt8).toArray⟩ := rfl
set_option maxHeartbeats 4000000 in
theorem word_any (c : Nat) (x y : Int) (hc : 1 ≤ c ∧ c ≤ 15) (hx : numOk x) (hy : numOk y) (w : World) (R : Ending → World → Prop)
    (hR : ∀ w', Nw w w' → R (.returned (.string ⟨(textW ((c : Int), x, y)).toArray⟩)) w') : Calls Tryz.prog 30 #[.agg #[.int .i64 (c : Nat), .int .i64 x, .int .i64 y]] w R := by
  have HR := Lib.hid hR
  have HX := Lib.hid hx
  have HY := Lib.hid hy
  clear hR hx hy
  have c0 : (0 : Int) ≤ (c : Int) := by omega
  have c1 : (c : Int) < 16 := by omega
  obtain ⟨uN, huN⟩ : ∃ b, usesN (c : Int) = b := ⟨_, rfl⟩
  obtain ⟨uM, huM⟩ : ∃ b, usesM (c : Int) = b := ⟨_, rfl⟩
  have HT := Lib.hid (show textW ((c : Int), x, y) = wordB (c : Int) ++ (if uN = true then 32 :: Lib.itoa x else []) ++ (if uM = true then 32 :: Lib.itoa y else []) from by rw [← huN, ← huM]; rfl)
  have HUN := Lib.hid huN
  have HUM := Lib.hid huM
  clear huN huM
  have lw := wordB_len (c : Int)
  have lx := itoa_len8 HX.out
  have ly := itoa_len8 HY.out
  go_enter Tryz.func30, Tryz.ntmps30
  go_upto_region 1 with (fail)
  refine wp_named ?_
  intro W1 hW
  have HOB := Lib.hid (show W1.heap[w.heap.size]? = some (.cells #[.int .i64 (c : Nat), .int .i64 x, .int .i64 y] 49 (0, 0)) from by rw [hW]; exact heap_alloc_eq _ rfl)
  have N1 := Lib.hid (show Nw w W1 from by rw [hW]; exact (Ch.refl _ _).alloc _)
  clear hW
  have z0 : W1.cell? ⟨w.heap.size, 0, none⟩ = some (.int .i64 (c : Nat)) := by rw [cell_of HOB.out]; rfl
  go_wp2_with (fail)
  refine uses_any (c : Int) _ _ ?_
  rw [HUN.out, HUM.out]
  go_upto_region 2 with (fail)
  refine wp_region_held_drew (S := fun w' => w'.cell? ⟨w.heap.size, 0, none⟩ = some (.int .i64 (c : Nat))) (by kernel_rfl) z0 (fun hHeld => ?_)
  first | (refine wpAnyH_take (i := 1) (v := ?_) rfl (by kernel_rfl) (by kernel_rfl) (by kernel_rfl) (fun _ _ _ h => h) (Or.inl ⟨by rfl, ?hy⟩) (by assumption) ?_; case hy => (intro w hSw; (try dsimp only at hSw); go_simp; (try with_reducible rfl))) | (refine wpAnyH_take (i := 1) (v := _) rfl (by kernel_rfl) (by kernel_rfl) (by kernel_rfl) (fun _ _ _ h => h) (Or.inr ⟨by rfl, rfl⟩) (by assumption) ?_)
  try simp only [Act.put, List.getElem_toArray, List.getElem_cons_succ, List.getElem_cons_zero, List.setIfInBounds_toArray, List.set_cons_zero, List.set_cons_succ]
  first | (refine wpAnyH_take (i := 2) (v := ?_) rfl (by kernel_rfl) (by kernel_rfl) (by kernel_rfl) (fun _ _ _ h => h) (Or.inl ⟨by rfl, ?hy⟩) (by assumption) ?_; case hy => (intro w hSw; (try dsimp only at hSw); go_simp; (try with_reducible rfl))) | (refine wpAnyH_take (i := 2) (v := _) rfl (by kernel_rfl) (by kernel_rfl) (by kernel_rfl) (fun _ _ _ h => h) (Or.inr ⟨by rfl, rfl⟩) (by assumption) ?_)
  try simp only [Act.put, List.getElem_toArray, List.getElem_cons_succ, List.getElem_cons_zero, List.setIfInBounds_toArray, List.set_cons_zero, List.set_cons_succ]
  refine wpAnyH_ready (rs := [0]) (by kernel_rfl) (by simp) ?_
  refine AllReadyH.cons rfl (fun K hK => ?_) AllReadyH.nil
  go_simp
  go_at_call 49
  refine words_any _ _ ?_
  intro w2 g2 hg2 hlt2 n2
  have z2 : w2.cell? ⟨w.heap.size, 0, none⟩ = some (.int .i64 (c : Nat)) := n2.cell z0 id
  have hgc := hg2.at (c := c) (by omega)
  have N2 := Lib.hid (show Nw w w2 from N1.out.trans n2.undrew)
  have HOB2 := Lib.hid (n2.undrew.heap HOB.out id)
  clear hg2 hlt2 n2
  refine hK.out _ _ z2 (fun hHeld2 => ?_)
  clear hK K
  first | (refine wpAnyH_take (i := 3) (v := ?_) rfl (by kernel_rfl) (by kernel_rfl) (by kernel_rfl) (fun _ _ _ h => h) (Or.inl ⟨by rfl, ?hy⟩) (by assumption) ?_; case hy => (intro w hSw; (try dsimp only at hSw); go_simp; (try with_reducible rfl))) | (refine wpAnyH_take (i := 3) (v := _) rfl (by kernel_rfl) (by kernel_rfl) (by kernel_rfl) (fun _ _ _ h => h) (Or.inr ⟨by rfl, rfl⟩) (by assumption) ?_)
  try simp only [Act.put, List.getElem_toArray, List.getElem_cons_succ, List.getElem_cons_zero, List.setIfInBounds_toArray, List.set_cons_zero, List.set_cons_succ]
  refine wpAnyH_ready (rs := [4]) (by kernel_rfl) (by simp) ?_
  refine AllReadyH.cons rfl (fun K hK => ?_) AllReadyH.nil
  go_simp
  refine hK.out _ _ z2 (fun hHeld3 => ?_)
  clear hK K
  first | (refine wpAnyH_take (i := 5) (v := ?_) rfl (by kernel_rfl) (by kernel_rfl) (by kernel_rfl) (fun _ _ _ h => h) (Or.inl ⟨by rfl, ?hy⟩) (by assumption) ?_; case hy => (intro w hSw; (try dsimp only at hSw); go_simp; (try with_reducible rfl))) | (refine wpAnyH_take (i := 5) (v := _) rfl (by kernel_rfl) (by kernel_rfl) (by kernel_rfl) (fun _ _ _ h => h) (Or.inr ⟨by rfl, rfl⟩) (by assumption) ?_)
  try simp only [Act.put, List.getElem_toArray, List.getElem_cons_succ, List.getElem_cons_zero, List.setIfInBounds_toArray, List.set_cons_zero, List.set_cons_succ]
  refine wpAnyH_done (by kernel_rfl) ?_ _
  have z1 : w2.cell? ⟨w.heap.size, 1, none⟩ = some (.int .i64 x) := by rw [cell_of HOB2.out]; rfl
  have z3 : w2.cell? ⟨w.heap.size, 2, none⟩ = some (.int .i64 y) := by rw [cell_of HOB2.out]; rfl
  clear hgc z0
  cases uN with
  | false => as_aux_lemma =>
    cases uM with
    | true => exact absurd (usesNM HUM.out) (by rw [HUN.out]; decide)
    | false =>
      go_wp2
      have h9 := HR.out _ N2.out
      rw [HT.out] at h9
      simpa using h9
  | true => as_aux_lemma =>
    cases uM with
    | false => as_aux_lemma =>
      go_wp2_with (go_at_call 50; fail)
      refine decimal8_any x _ _ HX.out ?_
      intro w3 n3
      have N3 := Lib.hid (N2.out.trans n3)
      clear n3
      go_wp2
      have h9 := HR.out _ N3.out
      rw [HT.out] at h9
      rw [sp_eq, str_two, str_two]
      simpa using h9
    | true => as_aux_lemma =>
      go_wp2_with (go_at_call 50; fail)
      refine decimal8_any x _ _ HX.out ?_
      intro w3 n3
      have N3 := Lib.hid (N2.out.trans n3)
      have z4 : w3.cell? ⟨w.heap.size, 2, none⟩ = some (.int .i64 y) := n3.cell z3 id
      clear n3 z1 z2 z3
      go_wp2_with (go_at_call 50; fail)
      refine decimal8_any y _ _ HY.out ?_
      intro w4 n4
      have N4 := Lib.hid (N3.out.trans n4)
      clear n4
      go_wp2
      have h9 := HR.out _ N4.out
      rw [HT.out] at h9
      rw [sp_eq, str_two, str_two, str_two, str_two]
      simpa using h9
end Go.Proofs.YtdpbdcaefdcooaaGreatDoor
