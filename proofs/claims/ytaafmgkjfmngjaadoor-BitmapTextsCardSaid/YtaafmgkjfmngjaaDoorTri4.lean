/-
  strings.Trim at the set of '#' and '.': whether something is left.
-/
import Derived.Test.YtaafmgkjfmngjaaDoorTrm4
import Derived.Deep.WholeRow
namespace Go.Proofs.YtaafmgkjfmngjaaDoor
open Go.RowKit
set_option linter.unusedVariables false
set_option linter.unusedSimpArgs false
set_option maxRecDepth 1000000

theorem set_zero (w : World) : (zeroValue 91).run Tryd.prog w = .ok (.agg (Array.replicate 256 (.bool false))) w := by
  have h : (Tryd.prog.info? 91).bind (·.zero) = some (.agg (Array.replicate 256 (.bool false))) := by kernel_rfl
  cases hi : Tryd.prog.info? 91 with
  | none => rw [hi] at h; cases h
  | some i =>
    rw [hi] at h
    simp only [Option.bind_some] at h
    simp [zeroValue, typeInfo, hi, h]
theorem okB_mem (c : UInt8) : ([35, 46] : List UInt8).contains c = okB c := by
  by_cases h1 : c = 35
  · subst h1; rfl
  · by_cases h2 : c = 46
    · subst h2; rfl
    · simp [okB, h1, h2]
theorem nil_or (s : ByteArray) : (s.size = 0 → s.toList.isEmpty = true) ∧ (0 < s.size → s.toList.isEmpty = false) := by
  constructor
  · intro h
    rw [Lib.toList_data]
    cases hl : s.data.toList with
    | nil => rfl
    | cons _ _ => have := Lib.size_eq s; rw [hl, List.length_cons] at this; omega
  · intro h
    rw [Lib.toList_data]
    cases hl : s.data.toList with
    | nil => have := Lib.size_eq s; rw [hl, List.length_nil] at this; omega
    | cons _ _ => rfl

set_option maxHeartbeats 8000000 in
theorem Trim_any (s : ByteArray) (w : World) (R : Ending → World → Prop) (hs : s.size ≤ 1000000)
    (hR : ∀ w' t, (t.size = 0 ↔ allOk s) → Nw w w' → R (.returned (.string t)) w') : Calls Tryd.prog 48 #[.string s, .string ⟨#[35, 46]⟩] w R := by
  have HR := Lib.hid hR
  clear hR
  by_cases h0 : s.size = 0
  · have he := (nil_or s).1 h0
    go_enter Tryd.func48, Tryd.ntmps48
    go_wp2
    exact HR.out _ s ⟨fun _ => allOk_nil h0, fun _ => h0⟩ (Ch.refl _ _)
  · have he := (nil_or s).2 (by omega)
    have hM := Tryd.strings_makeASCIISet set_zero ⟨#[35, 46]⟩ w (by decide) (fun j b hj => by
      match j, hj with
      | 0, hj => injection hj with hj; subst hj; decide
      | 1, hj => injection hj with hj; subst hj; decide
      | j + 2, hj => simp at hj)
    have hsz : (Lib.setCells ([35, 46] : List UInt8)).size = 256 := Lib.setCells_size _
    have hat : ∀ c : UInt8, (Lib.setCells ([35, 46] : List UInt8))[c.toNat]? = some (.bool (okB c)) := fun c => by rw [Lib.setCells_at, okB_mem]
    have hone := Lib.setCells_one ([35, 46] : List UInt8)
    have hM' : Calls Tryd.prog 54 #[.string ⟨#[35, 46]⟩] w fun e w' => e = .returned (.tuple #[.agg (Lib.setCells ([35, 46] : List UInt8)), .bool true]) ∧ w' = w.alloc (.cells (Lib.setCells ([35, 46] : List UInt8)) 91) := hM
    generalize Lib.setCells ([35, 46] : List UInt8) = S at hM' hsz hat hone
    have hi : (Tryd.prog.info? 91).map (·.size) = some 256 := by kernel_rfl
    have hsc : (storeCells ⟨w.heap.size + 1, 0, none⟩ S.toList 0).run Tryd.prog ((w.alloc (.cells S 91)).alloc (.cells (Array.replicate 256 (.bool false)) 91)) = .ok () ((w.alloc (.cells S 91)).alloc (.cells S 91)) := by
      have := run_storeCells_new (P := Tryd.prog) (w.alloc (.cells S 91)) 91 (Array.replicate 256 (.bool false)) S (by rw [hsz]; exact hi) (by rw [hsz, Array.size_replicate]) hone
      simpa using this
    have HSET := Lib.hid (show SetOk ((w.alloc (.cells S 91)).alloc (.cells S 91)) (w.heap.size + 1) from fun c => by
      rw [cell_of (heap_alloc_eq (w := w.alloc (.cells S 91)) (.cells S 91) (by simp))]; exact hat c)
    have hv := set_zero
    clear hM hat hone hi
    go_enter Tryd.func48, Tryd.ntmps48
    go_wp2_with (go_at_call 54; refine hM'.mono ?_; rintro e w' ⟨rfl, hw⟩; rw [hw])
    refine trimR_any (w.heap.size + 1) s _ _ HSET.out hs ?_
    intro r hr
    have HRr := Lib.hid hr
    have hrs := hr.2.2
    clear hr
    go_wp2_with (go_at_call 55; refine trimL_any (w.heap.size + 1) r _ _ HSET.out (by omega) ?_; intro t ht; (have HLt := Lib.hid ht); clear ht)
    exact HR.out _ t ((HLt.out.trans HRr.out).empty) (((Ch.refl (fun _ => False) w).alloc _).alloc _)
end Go.Proofs.YtaafmgkjfmngjaaDoor
