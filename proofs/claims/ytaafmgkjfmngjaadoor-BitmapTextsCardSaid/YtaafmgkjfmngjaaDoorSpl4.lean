/-
  strings.Split at the byte 10.
-/
import Derived.Test.YtaafmgkjfmngjaaDoorBld
import Derived.Test.YtaafmgkjfmngjaaDoorLines
namespace Go.Proofs.YtaafmgkjfmngjaaDoor
open Go.RowKit
set_option linter.unusedVariables false

/-- The variable bytealg.MaxLen holds some number. -/
def MaxOk (w : World) : Prop := ∃ m : Int, w.cell? ⟨0, 0, none⟩ = some (.int .i64 m)
theorem MaxOk.kept {w w' : World} {F : Nat → Prop} (h : MaxOk w) (hc : Ch F w w') (hF : ¬ F 0) : MaxOk w' := by obtain ⟨m, h⟩ := h; exact ⟨m, hc.cell h hF⟩
theorem MaxOk.lt {w : World} (h : MaxOk w) : 0 < w.heap.size := by obtain ⟨m, h⟩ := h; exact World.block_lt_of_cell? w ⟨0, _, none⟩ h
theorem split_any (s : ByteArray) (w : World) (R : Ending → World → Prop) (hm : MaxOk w) (hs : s.size ≤ 1000000)
    (hR : ∀ w' b h (rows : List ByteArray), rows.length = h + 1 → rows.map (·.data.toList) = lines s.data.toList → (∀ k r, rows[k]? = some r → w'.cell? ⟨b, k, none⟩ = some (.string r)) → w.heap.size ≤ b → Nw w w' → R (.returned (.slice (some ⟨b, 0, none⟩) (h + 1) (h + 1))) w') :
    Calls Tryd.prog 47 #[.string s, .string ⟨#[10]⟩] w R := by
  obtain ⟨m, hm⟩ := hm
  refine (Tryd.strings_Split s ⟨#[10]⟩ m w (by omega) hm (by decide)).mono ?_
  rintro e w' ⟨rfl, rfl⟩
  have hl := Lib.splitB_all ⟨#[10]⟩ (by decide) 0 _ s rfl
  refine hR _ w.heap.size _ (Lib.splitB ⟨#[10]⟩ 0 (Lib.countB s ⟨#[10]⟩) s) hl (splitB_lines s _ rfl) (fun k r hk => ?_) (Nat.le_refl _) ((Ch.refl _ _).alloc _)
  exact cell_alloc_new rfl (by simp [hk])
/-- The size of a row. -/
theorem line_size {s : List UInt8} {r : List UInt8} (h : r ∈ lines s) : r.length ≤ s.length := by
  induction s generalizing r with
  | nil => simp [lines] at h; subst h; exact Nat.le_refl _
  | cons c l ih =>
    unfold lines at h
    split at h
    · rcases List.mem_cons.1 h with rfl | h
      · exact Nat.zero_le _
      · exact Nat.le_succ_of_le (ih h)
    · split at h
      · simp at h; subst h; simp
      · rename_i r0 rs hrs
        rcases List.mem_cons.1 h with rfl | h
        · have := ih (r := r0) (by rw [hrs]; exact List.mem_cons_self)
          simp; omega
        · exact Nat.le_succ_of_le (ih (by rw [hrs]; exact List.mem_cons_of_mem _ h))
theorem lines_count (s : List UInt8) : (lines s).length ≤ s.length + 1 := by
  induction s with
  | nil => exact Nat.le_refl _
  | cons c l ih =>
    unfold lines
    split
    · simp; omega
    · split
      · simp
      · rename_i r0 rs hrs
        rw [hrs] at ih
        simp at ih ⊢
        omega
end Go.Proofs.YtaafmgkjfmngjaaDoor
