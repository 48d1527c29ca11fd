/-
  image.Parse: the image with given rows.
-/
import Derived.Test.YtnhdnjhhjmgmnaaDoorImU
import Derived.Deep.RegionLaw
import Derived.Deep.DrawnRows
import Derived.Lib.OthersKept
import Derived.BigGuardPart
namespace Go.Proofs.YtnhdnjhhjmgmnaaDoor
open Go.RowKit
set_option linter.unusedVariables false
set_option linter.unusedSimpArgs false
set_option maxRecDepth 100000
attribute [local go_sem ↓] Go.wp_at_zero Go.wp_at_succ

/-- The variable bytealg.MaxLen holds some number. -/
def MaxOk (w : World) : Prop := ∃ m : Int, w.cell? ⟨1, 0, none⟩ = some (.int .i64 m)
theorem MaxOk.kept {w w' : World} {F : Nat → Prop} (h : MaxOk w) (hc : Ch F w w') (hF : ¬ F 1) : MaxOk w' := by obtain ⟨m, h⟩ := h; exact ⟨m, hc.cell h hF⟩

/-- slices.Index of a rune among the three runes of pixels. -/
def chIdx (c : Int) : Int := if c = 46 then 0 else if c = 35 then 1 else if c = 63 then 2 else -1
theorem rIndex_any (c : Int) (w : World) (R : Ending → World → Prop) (hr : RunesOk w) (hR : R (.returned (.int .i64 (chIdx c))) w) : Calls Tryd.prog 52 #[.slice (some ⟨0, 0, none⟩) 3 3, .int .i32 c] w R := by
  have HR := Lib.hid hR
  clear hR
  have k0 : w.cell? ⟨0, 0, none⟩ = some (.int .i32 46) := hr 0 (by omega) (by omega)
  have k1 : w.cell? ⟨0, 1, none⟩ = some (.int .i32 35) := hr 1 (by omega) (by omega)
  have k2 : w.cell? ⟨0, 2, none⟩ = some (.int .i32 63) := hr 2 (by omega) (by omega)
  clear hr
  by_cases h0 : c = 46
  · subst h0
    go_enter Tryd.func52, Tryd.ntmps52
    go_wp2
    go_loop [5, 8] (fun _ s8 => s8 = .int .i64 0) (fun _ s8 => 0)
    case atStart => rfl
    case round =>
      obtain rfl : u8 = .int .i64 0 := hrel
      go_wp2
      exact HR.out
  · have t0 : (c == 46) = false := by simp [h0]
    by_cases h1 : c = 35
    · subst h1
      go_enter Tryd.func52, Tryd.ntmps52
      go_wp2
      go_loop [5, 8] (fun _ s8 => ∃ k : Nat, s8 = .int .i64 k ∧ k ≤ 1) (fun _ s8 => 1 - (intOf s8).toNat)
      case atStart => exact ⟨0, rfl, by omega⟩
      case round =>
        obtain ⟨k, rfl, hk⟩ := hrel
        have hk2 : k = 0 ∨ k = 1 := by omega
        rcases hk2 with rfl | rfl
        · go_wp2
          go_round
          case rel => exact ⟨1, rfl, by omega⟩
          case measure => simp [intOf]
        · go_wp2
          exact HR.out
    · have t1 : (c == 35) = false := by simp [h1]
      by_cases h2 : c = 63
      · subst h2
        go_enter Tryd.func52, Tryd.ntmps52
        go_wp2
        go_loop [5, 8] (fun _ s8 => ∃ k : Nat, s8 = .int .i64 k ∧ k ≤ 2) (fun _ s8 => 2 - (intOf s8).toNat)
        case atStart => exact ⟨0, rfl, by omega⟩
        case round =>
          obtain ⟨k, rfl, hk⟩ := hrel
          have hk2 : k = 0 ∨ k = 1 ∨ k = 2 := by omega
          rcases hk2 with rfl | rfl | rfl
          · go_wp2
            go_round
            case rel => exact ⟨1, rfl, by omega⟩
            case measure => simp [intOf]
          · go_wp2
            go_round
            case rel => exact ⟨2, rfl, by omega⟩
            case measure => simp [intOf]
          · go_wp2
            exact HR.out
      · have t2 : (c == 63) = false := by simp [h2]
        have HE := Lib.hid (show chIdx c = -1 from by unfold chIdx; rw [if_neg h0, if_neg h1, if_neg h2])
        clear h0 h1 h2
        go_enter Tryd.func52, Tryd.ntmps52
        go_wp2
        go_loop [5, 8] (fun _ s8 => ∃ k : Nat, s8 = .int .i64 k ∧ k ≤ 3) (fun _ s8 => 3 - (intOf s8).toNat)
        case atStart => exact ⟨0, rfl, by omega⟩
        case round =>
          obtain ⟨k, rfl, hk⟩ := hrel
          have hk2 : k = 0 ∨ k = 1 ∨ k = 2 ∨ k = 3 := by omega
          rcases hk2 with rfl | rfl | rfl | rfl
          · go_wp2
            go_round
            case rel => exact ⟨1, rfl, by omega⟩
            case measure => simp [intOf]
          · go_wp2
            go_round
            case rel => exact ⟨2, rfl, by omega⟩
            case measure => simp [intOf]
          · go_wp2
            go_round
            case rel => exact ⟨3, rfl, by omega⟩
            case measure => simp [intOf]
          · go_wp2
            exact ret_i HR.out HE.out

/-- strings.Split at the byte 10. -/
theorem split_any (s : ByteArray) (w : World) (R : Ending → World → Prop) (hm : MaxOk w) (hs : s.size ≤ 1000000)
    (hR : ∀ w' b h (rows : List ByteArray), rows.length = h + 1 → rows.map (·.data.toList) = lines s.data.toList → (∀ k r, rows[k]? = some r → w'.cell? ⟨b, k, none⟩ = some (.string r)) → w.heap.size ≤ b → Nw w w' → R (.returned (.slice (some ⟨b, 0, none⟩) (h + 1) (h + 1))) w') :
    Calls Tryd.prog 51 #[.string s, .string ⟨#[10]⟩] w R := by
  obtain ⟨m, hm⟩ := hm
  refine (Tryd.strings_Split s ⟨#[10]⟩ m w (by omega) hm (by decide)).mono ?_
  rintro e w' ⟨rfl, rfl⟩
  have hl := Lib.splitB_all ⟨#[10]⟩ (by decide) 0 _ s rfl
  refine hR _ w.heap.size _ (Lib.splitB ⟨#[10]⟩ 0 (Lib.countB s ⟨#[10]⟩) s) hl (splitB_lines s _ rfl) (fun k r hk => ?_) (Nat.le_refl _) ((Ch.refl _ _).alloc _)
  exact cell_alloc_new rfl (by simp [hk])
end Go.Proofs.YtnhdnjhhjmgmnaaDoor
