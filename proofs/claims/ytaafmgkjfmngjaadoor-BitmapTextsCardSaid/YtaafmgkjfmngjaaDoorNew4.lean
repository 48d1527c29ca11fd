/-
  bitmap.New and indelibleref04.New: a blank bitmap, whatever the sides.
-/
import Derived.Test.YtaafmgkjfmngjaaDoorBm4
import Derived.Test.YtaafmgkjfmngjaaDoorB4p
namespace Go.Proofs.YtaafmgkjfmngjaaDoor
open Go.RowKit
set_option linter.unusedVariables false
set_option linter.unusedSimpArgs false
set_option maxRecDepth 100000

theorem isBm_zero (w : World) (lo : Nat) : IsBm w lo (.agg #[.int .i64 0, .int .i64 0, .slice none 0 0]) zeroB :=
  ⟨_, rfl, ⟨none, 0, rfl, ⟨Nat.le_refl _, by simp [zeroB]⟩, fun i x hi => by simp [zeroB] at hi⟩, by unfold wfI; decide, by unfold wfI; decide⟩
theorem newM_ok {W H : Int} (hW : 0 ≤ W ∧ W ≤ 96) (hH : 0 ≤ H ∧ H ≤ 96) : newM W H = ((W, H, List.replicate (W * H).toNat false), 0) := if_pos ⟨sideOk_iff.2 hW, sideOk_iff.2 hH⟩
theorem newM_bad {W H : Int} (h : ¬ ((0 ≤ W ∧ W ≤ 96) ∧ (0 ≤ H ∧ H ≤ 96))) : newM W H = (zeroB, 13) := if_neg (fun e => h ⟨sideOk_iff.1 e.1, sideOk_iff.1 e.2⟩)

theorem bNew_ok (W H : Int) (n : Nat) (w : World) (R : Ending → World → Prop) (hW : 0 ≤ W ∧ W ≤ 96) (hH : 0 ≤ H ∧ H ≤ 96) (hn : (n : Int) = W * H)
    (hR : ∀ w' g, w'.heap[g]? = some (.cells (boolC (List.replicate n false)) 4 (0, 0)) → w.heap.size ≤ g → Nw w w' → R (.returned (.tuple #[.agg #[.int .i64 W, .int .i64 H, .slice (some ⟨g, 0, none⟩) n n], .int .i64 0])) w') : Calls Tryd.prog 27 #[.int .i64 W, .int .i64 H] w R := by
  have HR := Lib.hid hR
  clear hR
  obtain ⟨h1, h2⟩ := hW
  obtain ⟨h3, h4⟩ := hH
  have hm := mul96 (a := W) (b := H) ⟨h1, by omega⟩ ⟨h3, by omega⟩
  have hmk := make_bools n (by omega)
  have eN : W * H = (n : Int) := hn.symm
  clear hn
  go_enter Tryd.func27, Tryd.ntmps27
  go_wp2
  refine bodyPost_ret (v := .tuple #[.agg #[.int .i64 W, .int .i64 H, .slice (some ⟨w.heap.size + 1, 0, none⟩) n n], .int .i64 0]) (by simp [results, Tryd.results27, go_sem]) rfl ?_
  refine HR.out _ _ (heap_alloc_eq _ (by simp)) (by omega) ?_
  first
  | exact ((Ch.refl (fun _ => False) w).alloc _).alloc _
  | exact (((((Ch.refl (fun _ => False) w).alloc _).alloc _).setb (fun h => by omega) _).setb (fun h => by omega) _).setb (fun h => by omega) _

theorem bNew_bad (W H : Int) (w : World) (R : Ending → World → Prop) (hb : ¬ ((0 ≤ W ∧ W ≤ 96) ∧ (0 ≤ H ∧ H ≤ 96))) (hW : wfI W) (hH : wfI H)
    (hR : ∀ w', Nw w w' → R (.returned (.tuple #[.agg #[.int .i64 0, .int .i64 0, .slice none 0 0], .int .i64 13])) w') : Calls Tryd.prog 27 #[.int .i64 W, .int .i64 H] w R := by
  have HR := Lib.hid hR
  clear hR
  unfold wfI at hW hH
  by_cases h1 : 0 ≤ W
  · by_cases h2 : W ≤ 96
    · by_cases h3 : 0 ≤ H
      · by_cases h4 : H ≤ 96
        · exact absurd ⟨⟨h1, h2⟩, ⟨h3, h4⟩⟩ hb
        · clear hb
          go_enter Tryd.func27, Tryd.ntmps27
          go_wp2
          refine bodyPost_ret (v := .tuple #[.agg #[.int .i64 0, .int .i64 0, .slice none 0 0], .int .i64 13]) (by simp [results, Tryd.results27, go_sem]) rfl ?_
          exact HR.out _ (by first | exact (Ch.refl _ _).alloc _ | exact ((Ch.refl _ _).alloc _).alloc _ | exact ((((Ch.refl (fun _ => False) w).alloc _).setb (fun h => by omega) _).setb (fun h => by omega) _).setb (fun h => by omega) _)
      · clear hb
        go_enter Tryd.func27, Tryd.ntmps27
        go_wp2
        refine bodyPost_ret (v := .tuple #[.agg #[.int .i64 0, .int .i64 0, .slice none 0 0], .int .i64 13]) (by simp [results, Tryd.results27, go_sem]) rfl ?_
        exact HR.out _ (by first | exact (Ch.refl _ _).alloc _ | exact ((Ch.refl _ _).alloc _).alloc _ | exact ((((Ch.refl (fun _ => False) w).alloc _).setb (fun h => by omega) _).setb (fun h => by omega) _).setb (fun h => by omega) _)
    · clear hb
      go_enter Tryd.func27, Tryd.ntmps27
      go_wp2
      refine bodyPost_ret (v := .tuple #[.agg #[.int .i64 0, .int .i64 0, .slice none 0 0], .int .i64 13]) (by simp [results, Tryd.results27, go_sem]) rfl ?_
      exact HR.out _ (by first | exact (Ch.refl _ _).alloc _ | exact ((Ch.refl _ _).alloc _).alloc _ | exact ((((Ch.refl (fun _ => False) w).alloc _).setb (fun h => by omega) _).setb (fun h => by omega) _).setb (fun h => by omega) _)
  · clear hb
    go_enter Tryd.func27, Tryd.ntmps27
    go_wp2
    refine bodyPost_ret (v := .tuple #[.agg #[.int .i64 0, .int .i64 0, .slice none 0 0], .int .i64 13]) (by simp [results, Tryd.results27, go_sem]) rfl ?_
    exact HR.out _ (by first | exact (Ch.refl _ _).alloc _ | exact ((Ch.refl _ _).alloc _).alloc _ | exact ((((Ch.refl (fun _ => False) w).alloc _).setb (fun h => by omega) _).setb (fun h => by omega) _).setb (fun h => by omega) _)

theorem rNew_bad (W H : Int) (w : World) (R : Ending → World → Prop) (hb : ¬ ((0 ≤ W ∧ W ≤ 96) ∧ (0 ≤ H ∧ H ≤ 96))) (hW : wfI W) (hH : wfI H)
    (hR : ∀ w', Nw w w' → R (.returned (.tuple #[.agg #[.int .i64 0, .int .i64 0, .slice none 0 0], .int .i64 13])) w') : Calls Tryd.prog 28 #[.int .i64 W, .int .i64 H] w R := by
  have HR := Lib.hid hR
  clear hR
  unfold wfI at hW hH
  by_cases h1 : 0 ≤ W
  · by_cases h2 : W ≤ 96
    · by_cases h3 : 0 ≤ H
      · by_cases h4 : H ≤ 96
        · exact absurd ⟨⟨h1, h2⟩, ⟨h3, h4⟩⟩ hb
        · clear hb
          go_enter Tryd.func28, Tryd.ntmps28
          go_wp2
          refine bodyPost_ret (v := .tuple #[.agg #[.int .i64 0, .int .i64 0, .slice none 0 0], .int .i64 13]) (by simp [results, Tryd.results28, go_sem]) rfl ?_
          exact HR.out _ (by first | exact (Ch.refl _ _).alloc _ | exact ((Ch.refl _ _).alloc _).alloc _ | exact ((((Ch.refl (fun _ => False) w).alloc _).setb (fun h => by omega) _).setb (fun h => by omega) _).setb (fun h => by omega) _)
      · clear hb
        go_enter Tryd.func28, Tryd.ntmps28
        go_wp2
        refine bodyPost_ret (v := .tuple #[.agg #[.int .i64 0, .int .i64 0, .slice none 0 0], .int .i64 13]) (by simp [results, Tryd.results28, go_sem]) rfl ?_
        exact HR.out _ (by first | exact (Ch.refl _ _).alloc _ | exact ((Ch.refl _ _).alloc _).alloc _ | exact ((((Ch.refl (fun _ => False) w).alloc _).setb (fun h => by omega) _).setb (fun h => by omega) _).setb (fun h => by omega) _)
    · clear hb
      go_enter Tryd.func28, Tryd.ntmps28
      go_wp2
      refine bodyPost_ret (v := .tuple #[.agg #[.int .i64 0, .int .i64 0, .slice none 0 0], .int .i64 13]) (by simp [results, Tryd.results28, go_sem]) rfl ?_
      exact HR.out _ (by first | exact (Ch.refl _ _).alloc _ | exact ((Ch.refl _ _).alloc _).alloc _ | exact ((((Ch.refl (fun _ => False) w).alloc _).setb (fun h => by omega) _).setb (fun h => by omega) _).setb (fun h => by omega) _)
  · clear hb
    go_enter Tryd.func28, Tryd.ntmps28
    go_wp2
    refine bodyPost_ret (v := .tuple #[.agg #[.int .i64 0, .int .i64 0, .slice none 0 0], .int .i64 13]) (by simp [results, Tryd.results28, go_sem]) rfl ?_
    exact HR.out _ (by first | exact (Ch.refl _ _).alloc _ | exact ((Ch.refl _ _).alloc _).alloc _ | exact ((((Ch.refl (fun _ => False) w).alloc _).setb (fun h => by omega) _).setb (fun h => by omega) _).setb (fun h => by omega) _)
theorem new_isBm {w : World} {g n : Nat} {W H : Int} (hg : w.heap[g]? = some (.cells (boolC (List.replicate n false)) 4 (0, 0))) (hW : 0 ≤ W ∧ W ≤ 96) (hH : 0 ≤ H ∧ H ≤ 96) (hn : (n : Int) = W * H) :
    IsBm w w.heap.size (.agg #[.int .i64 W, .int .i64 H, .slice (some ⟨g, 0, none⟩) n n]) (newM W H).1 := by
  rw [newM_ok hW hH]
  have e : (W * H).toNat = n := by omega
  have hm := mul96 (a := W) (b := H) ⟨hW.1, by omega⟩ ⟨hH.1, by omega⟩
  refine ⟨_, rfl, ?_, by unfold wfI; simp only; omega, by unfold wfI; simp only; omega⟩
  have := isBools_block (l := List.replicate n false) (cap := n) hg (lt_of_heap hg) (by simp; omega)
  simp only [List.length_replicate] at this
  simp only [e]
  exact this
theorem bNew_any (W H : Int) (w : World) (R : Ending → World → Prop) (hW : wfI W) (hH : wfI H)
    (hR : ∀ w' v', IsBm w' w'.heap.size v' (newM W H).1 → Nw w w' → R (.returned (.tuple #[v', .int .i64 (newM W H).2])) w') : Calls Tryd.prog 27 #[.int .i64 W, .int .i64 H] w R := by
  by_cases h : (0 ≤ W ∧ W ≤ 96) ∧ (0 ≤ H ∧ H ≤ 96)
  · obtain ⟨h1, h2⟩ := h
    have h3 := Int.mul_nonneg h1.1 h2.1
    refine bNew_ok W H (W * H).toNat w R h1 h2 (by omega) fun w' g hg hlo n => ?_
    have := hR w' _ (new_isBm hg h1 h2 (by omega)) n
    rw [newM_ok h1 h2] at this
    exact this
  · refine bNew_bad W H w R h hW hH fun w' n => ?_
    have := hR w' _ (by rw [newM_bad h]; exact isBm_zero _ _) n
    rw [newM_bad h] at this
    exact this
theorem rNew_any (W H : Int) (w : World) (R : Ending → World → Prop) (hW : wfI W) (hH : wfI H)
    (hR : ∀ w' v', IsBm w' w'.heap.size v' (newM W H).1 → Nw w w' → R (.returned (.tuple #[v', .int .i64 (newM W H).2])) w') : Calls Tryd.prog 28 #[.int .i64 W, .int .i64 H] w R := by
  by_cases h : (0 ≤ W ∧ W ≤ 96) ∧ (0 ≤ H ∧ H ≤ 96)
  · obtain ⟨h1, h2⟩ := h
    have h3 := Int.mul_nonneg h1.1 h2.1
    refine rNew_ok W H (W * H).toNat w R h1 h2 (by omega) fun w' g hg hlo n => ?_
    have := hR w' _ (new_isBm hg h1 h2 (by omega)) n
    rw [newM_ok h1 h2] at this
    exact this
  · refine rNew_bad W H w R h hW hH fun w' n => ?_
    have := hR w' _ (by rw [newM_bad h]; exact isBm_zero _ _) n
    rw [newM_bad h] at this
    exact this
end Go.Proofs.YtaafmgkjfmngjaaDoor
