/-
  indeliblelaw22.few and fits.
-/
import Derived.Test.YtnhdnjhhjmgmnaaDoorImT
namespace Go.Proofs.YtnhdnjhhjmgmnaaDoor
open Go.RowKit
set_option linter.unusedVariables false
set_option linter.unusedSimpArgs false
set_option maxRecDepth 100000

theorem isInts_take {w : World} {lo : Nat} {A : Option Addr} {cap : Nat} {l : List Int} (k : Nat) (hk : k ≤ l.length) (h : IsInts w lo (.slice A l.length cap) l) : IsInts w lo (.slice A k cap) (l.take k) := by
  obtain ⟨A', cap', e, ⟨h1, h2⟩, h3⟩ := h
  injection e with e1 e2 e3
  subst e1 e3
  refine ⟨A, cap, by rw [List.length_take, Nat.min_eq_left hk], ⟨by rw [List.length_take]; omega, by rw [List.length_take]; omega⟩, fun i x hi => ?_⟩
  rw [List.getElem?_take] at hi
  split at hi
  · exact h3 i x hi
  · cases hi

theorem few_any (lo : Nat) (v : Value) (x : Im) (w : World) (R : Ending → World → Prop) (h : IsIm w lo v x) (hlo : lo ≤ w.heap.size)
    (hR : ∀ w' v', IsIm w' w'.heap.size v' (x.1, x.2.1, x.2.2.take 400) → Nw w w' → R (.returned v') w') : Calls Tryd.prog 9 #[v] w R := by
  have HR := Lib.hid hR
  clear hR
  obtain ⟨W, H, l⟩ := x
  obtain ⟨s, rfl, hi, hw, hh⟩ := h
  simp only at hw hh hi
  have HI := Lib.hid hi
  obtain ⟨A, cap, rfl, ⟨hlc, hl⟩, -⟩ := hi
  go_enter Tryd.func9, Tryd.ntmps9
  go_wp2
  obtain ⟨k, hk⟩ : ∃ k : Nat, (min (l.length : Int) 400).toNat = k := ⟨_, rfl⟩
  have hkl : k ≤ l.length := by omega
  have ht : l.take 400 = l.take k := by
    by_cases h4 : l.length ≤ 400
    · rw [List.take_of_length_le h4, List.take_of_length_le (by omega)]
    · rw [show k = 400 by omega]
  rw [hk]
  refine bodyPost_ret (v := .agg #[.int .i64 W, .int .i64 H, .slice A k cap]) (by simp [results, Tryd.results9, go_sem]) rfl ?_
  have n1 : Nw w ((w.alloc (.cells #[.int .i64 W, .int .i64 H, .slice A k cap] 25)).alloc (.cells #[.int .i64 W, .int .i64 H, .slice A k cap] 25)) := ((Ch.refl _ _).alloc _).alloc _
  refine HR.out _ _ ⟨_, rfl, ?_, hw, hh⟩ n1
  simp only
  rw [ht]
  obtain ⟨A', cap', e, h1, h2⟩ := isInts_take k hkl (HI.out.kept n1 nof)
  refine ⟨A', cap', e, h1, fun i x hi => ?_⟩
  obtain ⟨q0, pk, po, q1, q2, q3⟩ := h2 i x hi
  exact ⟨q0, pk, po, by simp only [alloc_size]; omega, q2, q3⟩

def fitsB (x : Im) (b : Bm) (dx dy lost blot : Int) : Bool := (fitsM x b dx dy).2.2 && (fitsM x b dx dy).1 == lost && (fitsM x b dx dy).2.1 == blot
set_option maxHeartbeats 2000000 in
theorem fits_any (lo : Nat) (v : Value) (x : Im) (vb : Value) (b : Bm) (dx dy lost blot : Int) (w : World) (R : Ending → World → Prop) (h : IsIm w lo v x) (hb : IsBm w lo vb b) (hx : wfI dx) (hy : wfI dy) (hlo : lo ≤ w.heap.size)
    (hR : ∀ w', Nw w w' → R (.returned (.bool (fitsB x b dx dy lost blot))) w') : Calls Tryd.prog 32 #[v, vb, .int .i64 dx, .int .i64 dy, .int .i64 lost, .int .i64 blot] w R := by
  have HR := Lib.hid hR
  clear hR
  have HX := Lib.hid h
  have HB := Lib.hid hb
  obtain ⟨s1, e1, -, -, -⟩ := h
  obtain ⟨s2, e2, -, -, -⟩ := hb
  subst e1 e2
  have HN := Lib.hid (show Nw w ((w.alloc (.cells #[.int .i64 x.1, .int .i64 x.2.1, s1] 25)).alloc (.cells #[.int .i64 b.1, .int .i64 b.2.1, s2] 31)) from ((Ch.refl _ _).alloc _).alloc _)
  have HX2 := Lib.hid (HX.out.kept HN.out nof)
  have HB2 := Lib.hid (HB.out.kept HN.out nof)
  generalize hA : x.1 = xa at HN HX HX2 HB HB2
  generalize hB : x.2.1 = xb at HN HX HX2 HB HB2
  generalize hC : b.1 = ba at HN HX HX2 HB HB2
  generalize hD : b.2.1 = bb at HN HX HX2 HB HB2
  clear hA hB hC hD
  unfold fitsB at HR
  obtain ⟨F, hF⟩ : ∃ F, fitsM x b dx dy = F := ⟨_, rfl⟩
  rw [hF] at HR
  have HF := Lib.hid hF
  clear hF
  obtain ⟨f1, f2, f3⟩ := F
  simp only at HR
  go_enter Tryd.func32, Tryd.ntmps32
  go_wp2_with (go_at_call 18; refine imFits_any lo _ x _ b dx dy _ _ HX2.out HB2.out hx hy (by simp only [alloc_size]; omega) ?_; rw [HF.out]; intro w1 n1; (have N1 := Lib.hid (HN.out.trans n1)); clear n1)
  all_goals
    refine ret_b (HR.out _ N1.out) ?_
    clear HR HF HN HX HX2 HB HB2
    cases f3 <;> simp_all
end Go.Proofs.YtnhdnjhhjmgmnaaDoor
