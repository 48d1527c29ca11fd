/-
  slices.Sort, slices.Compact on a row of integers of one's own: by the shelf's contracts.
-/
import Derived.Test.YtdpbdcaefdcooaaGreatDoorShelf
import Derived.Test.YtdpbdcaefdcooaaGreatDoorLib
import Derived.Sort.OwnSortedInts
import Derived.Sort.Grow
import Derived.Lib.OwnBridge
namespace Go.Proofs.YtdpbdcaefdcooaaGreatDoor
open Go.RowKit Go.Sort
set_option linter.unusedVariables false

theorem ch_of_below {B : Nat} {w w' : World} (h : Below B w w') : Ch (fun j => B ≤ j) w w' := ⟨h.os, h.tape, h.output, h.size, fun k hk hf => h.block k (by omega)⟩

theorem vsort_any (B n : Nat) (v : Value) (zs : List Int) (w : World) (R : Ending → World → Prop) (hown : w.ownsRow B 3 1 v n (zs.map (Value.int .i64))) (hn : n ≤ 4611686018427387903)
    (hR : ∀ w', w'.ownsRow B 3 1 v n ((zs.mergeSort fun x y => decide (x ≤ y)).map (Value.int .i64)) → Ch (fun j => B ≤ j) w w' → R (.returned (.tuple #[])) w') : Calls Tryz.prog 22 #[v] w R := by
  have hl : zs.length = n := by have := hown.1; simpa using this
  by_cases hv : v = .slice none 0 0
  · subst hv
    have h0 : n = 0 := by
      rcases hown.2 with ⟨h1, h2⟩ | ⟨g, cap, cur, h1, -⟩
      · exact h2
      · cases h1
    subst h0
    obtain rfl := List.eq_nil_of_length_eq_zero hl
    refine (Tryz.slices_Sort_int_none none 0 w).mono ?_
    rintro e w' ⟨rfl, rfl⟩
    exact hR _ (by simpa using hown) (Ch.refl _ _)
  · obtain ⟨g, cap, rfl, hbg, hgl, hncap, hcm, hlen, hH⟩ := Lib.holds_of_ownsRow hown hv
    subst hl
    refine (Tryz.slices_Sort_int g 0 cap zs w hH hgl (by omega)).mono ?_
    rintro e w' ⟨rfl, nn, os, rfl⟩
    have hl2 : (zs.mergeSort fun x y => decide (x ≤ y)).length = zs.length := List.length_mergeSort zs
    rcases hown.2 with ⟨h0, _⟩ | ⟨g', cap', cur, hv', hbase, hb, h1, h2, h3, h4⟩
    · cases h0
    cases hv'
    refine hR _ (ownsRow_sortedI hl2 hbase hb h1 h2 h3) ?_
    exact (Ch.refl (fun j => B ≤ j) w).grown (grownBy_sortedI _) (fun k hk _ => by cases hk; exact hbase)

theorem vcompact_any (B n : Nat) (v : Value) (zs : List Int) (w : World) (R : Ending → World → Prop) (hown : w.ownsRow B 3 1 v n (zs.map (Value.int .i64))) (hn : n ≤ 4611686018427387903)
    (hR : ∀ v' w', w'.ownsRow B 3 1 v' (Lib.compact zs).length ((Lib.compact zs).map (Value.int .i64)) → Ch (fun j => B ≤ j) w w' → R (.returned v') w') : Calls Tryz.prog 23 #[v] w R := by
  have hl : zs.length = n := by have := hown.1; simpa using this
  by_cases hv : v = .slice none 0 0
  · subst hv
    have h0 : n = 0 := by
      rcases hown.2 with ⟨h1, h2⟩ | ⟨g, cap, cur, h1, -⟩
      · exact h2
      · cases h1
    subst h0
    obtain rfl := List.eq_nil_of_length_eq_zero hl
    refine (Tryz.slices_Compact_int_empty none 0 w).mono ?_
    rintro e w' ⟨rfl, rfl⟩
    exact hR _ _ (World.ownsRow_nil _ _ _ _) (Ch.refl _ _)
  · obtain ⟨g, cap, rfl, hbg, hgl, hncap, hcm, hlen, hH⟩ := Lib.holds_of_ownsRow hown hv
    subst hl
    have hle := Lib.compact_length_le zs
    refine (Tryz.slices_Compact_int g 0 cap zs w hH (by omega) hncap).mono ?_
    rintro e w' ⟨rfl, q, rfl⟩
    have hc := Lib.ownsRow_putRow (q := q) (k := (Lib.compact zs).length) (ys := Lib.compact zs ++ List.replicate (zs.length - (Lib.compact zs).length) 0) hown (by simp; omega) (by omega)
    rw [List.take_left] at hc
    exact hR _ _ hc (ch_of_below (Lib.below_putRow (Below.refl B w) hbg))
end Go.Proofs.YtdpbdcaefdcooaaGreatDoor
