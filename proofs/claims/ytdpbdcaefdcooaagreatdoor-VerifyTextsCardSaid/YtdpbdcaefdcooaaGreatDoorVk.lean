/-
  What the walks of chapter 08 want of the world, and the library's functions: Itoa, Atoi, Split, Join.
-/
import Derived.Test.YtdpbdcaefdcooaaGreatDoorVForm
import Derived.Test.YtdpbdcaefdcooaaGreatDoorVt
import Derived.Test.YtdpbdcaefdcooaaGreatDoorShelf
import Derived.Test.YtdpbdcaefdcooaaGreatDoorCRow
import Derived.Lib.SmallJoins
import Derived.Lib.AppendIntMem
namespace Go.Proofs.YtdpbdcaefdcooaaGreatDoor
open Go.RowKit Go.Sort
set_option linter.unusedVariables false
set_option linter.unusedSimpArgs false

theorem gTab : Tryz.prog.globalNamed "internal/strconv.uint64pow10" = some 3 := by kernel_rfl
/-- The library's variables, and the table of the kinds. -/
structure WOk (w : World) : Prop where
  kinds : KindsOk w
  words : ∀ c : Nat, c < 16 → ∃ (a b : Bool) (x y : Int), w.cell? ⟨0, c * 5, none⟩ = some (.string ⟨(wordB c).toArray⟩) ∧ w.cell? ⟨0, c * 5 + 1, none⟩ = some (.bool a) ∧ w.cell? ⟨0, c * 5 + 2, none⟩ = some (.bool b) ∧ w.cell? ⟨0, c * 5 + 3, none⟩ = some (.int .i64 x) ∧ w.cell? ⟨0, c * 5 + 4, none⟩ = some (.int .i64 y)
  mx : ∃ m : Int, w.cell? ⟨4, 0, none⟩ = some (.int .i64 m)
  syn : ∃ ev, w.cell? ⟨1, 0, none⟩ = some ev ∧ (ev = .nilIface ∨ ∃ te pe, ev = .iface te pe)
  rng : ∃ ev, w.cell? ⟨2, 0, none⟩ = some ev ∧ (ev = .nilIface ∨ ∃ te pe, ev = .iface te pe)
  tab : Lib.TabIs Tryz.prog w "internal/strconv.uint64pow10" .u64 Lib.pow10Tab
theorem WOk.sz {w : World} (h : WOk w) : 5 ≤ w.heap.size := by
  obtain ⟨m, hm⟩ := h.mx
  have h1 := World.block_lt_of_cell? w ⟨4, 0, none⟩ hm
  have h2 := h.tab
  unfold Lib.TabIs World.var? at h2
  rw [gTab] at h2
  simp only [Option.bind_some] at h2
  have h3 : 3 < w.heap.size := by
    rcases Nat.lt_or_ge 3 w.heap.size with h4 | h4
    · exact h4
    · rw [Array.getElem?_eq_none h4] at h2
      cases h2
  simp only at h1
  omega
theorem WOk.kept {w w' : World} {F : Nat → Prop} (h : WOk w) (hc : Ch F w w') (hF : ∀ k, k < 5 → ¬ F k) : WOk w' := by
  have hsz := h.sz
  refine ⟨h.kinds.kept hc (hF 0 (by omega)), fun c hc' => ?_, ?_, ?_, ?_, ?_⟩
  · obtain ⟨a, b, x, y, c0, c1, c2, c3, c4⟩ := h.words c hc'
    exact ⟨a, b, x, y, hc.cell c0 (hF 0 (by omega)), hc.cell c1 (hF 0 (by omega)), hc.cell c2 (hF 0 (by omega)), hc.cell c3 (hF 0 (by omega)), hc.cell c4 (hF 0 (by omega))⟩
  · obtain ⟨m, hm⟩ := h.mx; exact ⟨m, hc.cell hm (hF _ (by decide))⟩
  · obtain ⟨m, hm, e⟩ := h.syn; exact ⟨m, hc.cell hm (hF _ (by decide)), e⟩
  · obtain ⟨m, hm, e⟩ := h.rng; exact ⟨m, hc.cell hm (hF _ (by decide)), e⟩
  · have h2 := h.tab
    unfold Lib.TabIs World.var? at h2 ⊢
    rw [gTab] at h2 ⊢
    simp only [Option.bind_some] at h2 ⊢
    rw [hc.block 3 (by omega) (hF _ (by decide))]
    exact h2
theorem nw_below {w w' : World} (h : Below w.heap.size w w') : Nw w w' := ⟨h.os, h.tape, h.output, h.size, fun k hk _ => h.block k hk⟩

theorem itoa_any (n : Int) (w : World) (R : Ending → World → Prop) (hw : WOk w) (hn : numOk n) (hR : ∀ w', Nw w w' → R (.returned (.string ⟨(Lib.itoa n).toArray⟩)) w') : Calls Tryz.prog 27 #[.int .i64 n] w R := by
  refine (Tryz.strconv_Itoa n hn.1 hn.2 w hw.tab).mono ?_
  rintro e w' ⟨rfl, k, os, rfl⟩
  exact hR _ (nw_below (Lib.below_grow _ _ (Nat.le_refl _) _ _))
theorem atoi_any (s : ByteArray) (w : World) (R : Ending → World → Prop) (hw : WOk w) (hs : s.size ≤ 281474976710656) (hR : ∀ w' e, Nw w w' → R (.returned (.tuple #[.int .i64 (atoiV s.data.toList), e])) w') : Calls Tryz.prog 34 #[.string s] w R := by
  cases h : Lib.atoiAll s.data.toList
  · rename_i v
    refine (Tryz.strconv_Atoi_ok s (by omega) v h w).mono ?_
    rintro e w' ⟨rfl, hw'⟩
    have hv : atoiV s.data.toList = v := by unfold atoiV; rw [h]
    rw [← hv]
    rcases hw' with hw' | ⟨t, hw'⟩
    · rw [hw']; exact hR _ _ (Ch.refl _ _)
    · rw [hw']; exact hR _ _ (nw_below (Joins.below_bytesWorld _ _ _ _ (Nat.le_refl _)))
  · obtain ⟨ev, h1, h2⟩ := hw.syn
    refine (Tryz.strconv_Atoi_syntax s hs h ev w h1 h2).mono ?_
    rintro e w' ⟨N, rfl, -, -, hb⟩
    have hv : atoiV s.data.toList = 0 := by unfold atoiV; rw [h]
    rw [← hv]
    exact hR _ _ (nw_below hb)
  · obtain ⟨ev, h1, h2⟩ := hw.rng
    refine (Tryz.strconv_Atoi_range s hs h ev w h1 h2).mono ?_
    rintro e w' ⟨N, rfl, -, -, hb⟩
    have hv : atoiV s.data.toList = Lib.atoiSat s.data.toList := by unfold atoiV; rw [h]
    rw [← hv]
    exact hR _ _ (nw_below hb)
/-- A row of strings in a block of its own. -/
def SRow (w : World) (v : Value) (ws : List (List UInt8)) : Prop := ∃ g, v = .slice (some ⟨g, 0, none⟩) ws.length ws.length ∧ w.heap[g]? = some (.cells (ws.map fun x => Value.string ⟨x.toArray⟩).toArray 9 (0, 0))
theorem split_any (s sep : ByteArray) (w : World) (R : Ending → World → Prop) (hw : WOk w) (hs : s.size ≤ 1000000) (h1 : 1 ≤ sep.size)
    (hR : ∀ w' v, SRow w' v (Lib.split s.data.toList sep.data.toList) → (∃ g, v.ownBlock = some g ∧ w.heap.size ≤ g) → Nw w w' → R (.returned v) w') : Calls Tryz.prog 31 #[.string s, .string sep] w R := by
  obtain ⟨m, hm⟩ := hw.mx
  refine (Tryz.strings_Split s sep m w (by omega) hm h1).mono ?_
  rintro e w' ⟨rfl, rfl⟩
  have hd := Lib.splitB_data sep 0 (Lib.countB s sep) s
  have hl := Lib.splitB_all sep h1 0 _ s rfl
  have hcnt : Lib.countB s sep = Lib.count s.data.toList sep.data.toList := rfl
  have hsp : Lib.split s.data.toList sep.data.toList = (Lib.splitB sep 0 (Lib.countB s sep) s).map (·.data.toList) := by rw [hd, hcnt]; rfl
  refine hR _ _ ⟨w.heap.size, ?_, ?_⟩ ⟨w.heap.size, rfl, Nat.le_refl _⟩ ((Ch.refl _ _).alloc _)
  · rw [hsp, List.length_map, hl]
  · rw [hsp, List.map_map]
    have : (fun x : List UInt8 => Value.string ⟨x.toArray⟩) ∘ (fun x : ByteArray => x.data.toList) = Value.string := by
      funext x
      simp
    rw [this]
    exact heap_alloc_eq _ rfl
theorem SRow.ch {w w' : World} {F : Nat → Prop} {v : Value} {ws : List (List UInt8)} (h : SRow w v ws) (hc : Ch F w w') (hF : ∀ k, v.ownBlock = some k → ¬ F k) : SRow w' v ws := by
  obtain ⟨g, rfl, hg⟩ := h
  exact ⟨g, rfl, hc.heap hg (hF g rfl)⟩
theorem SRow.at {w : World} {v : Value} {ws : List (List UInt8)} (h : SRow w v ws) : ∃ g, v = .slice (some ⟨g, 0, none⟩) ws.length ws.length ∧ g < w.heap.size ∧ ∀ (i : Nat) (x : List UInt8), ws[i]? = some x → w.cell? ⟨g, i, none⟩ = some (.string ⟨x.toArray⟩) := by
  obtain ⟨g, rfl, hg⟩ := h
  refine ⟨g, rfl, lt_of_heap hg, fun i x hi => ?_⟩
  rw [cell_of hg]
  simp [hi]
end Go.Proofs.YtdpbdcaefdcooaaGreatDoor
