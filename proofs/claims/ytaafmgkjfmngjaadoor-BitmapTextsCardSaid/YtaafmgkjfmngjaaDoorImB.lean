/-
  bitmap.Check and indelibleref04.Check: the error of a bitmap.
-/
import Derived.Test.YtaafmgkjfmngjaaDoorDrw
import Derived.Test.YtaafmgkjfmngjaaDoorIm
namespace Go.Proofs.YtaafmgkjfmngjaaDoor
open Go.RowKit
set_option linter.unusedVariables false
set_option linter.unusedSimpArgs false

theorem wp_named {P : Program} {c : Code} {Q : Exit → Act → World → Prop} {a : Act} {w : World} (h : ∀ W, W = w → Code.wp P c Q a W) : Code.wp P c Q a w := h _ rfl
theorem nof {L : Nat} : ∀ k : Nat, k < L → ¬ (fun _ : Nat => False) k := fun _ _ h => h

/-- The slice v is the list l of bools, in a block below lo. -/
def IsBools (w : World) (lo : Nat) (v : Value) (l : List Bool) : Prop :=
  ∃ A cap, v = .slice A l.length cap ∧ (l.length ≤ cap ∧ l.length ≤ 9223372036854775807) ∧ ∀ i x, l[i]? = some x → ∃ pk po, pk < lo ∧ A = some ⟨pk, po, none⟩ ∧ w.cell? ⟨pk, po + i, none⟩ = some (.bool x)
theorem IsBools.kept {w w' : World} {lo : Nat} {v : Value} {l : List Bool} {F : Nat → Prop} (h : IsBools w lo v l) (hc : Ch F w w') (hF : ∀ k, k < lo → ¬ F k) : IsBools w' lo v l := by
  obtain ⟨A, cap, e, hl, h⟩ := h
  refine ⟨A, cap, e, hl, fun i x hi => ?_⟩
  obtain ⟨pk, po, hk, ea, h0⟩ := h i x hi
  exact ⟨pk, po, hk, ea, hc.cell h0 (hF _ hk)⟩
theorem IsBools.hi {w : World} {lo lo' : Nat} {v : Value} {l : List Bool} (h : IsBools w lo v l) (hl : lo ≤ lo') : IsBools w lo' v l := by
  obtain ⟨A, cap, e, hl', h⟩ := h
  refine ⟨A, cap, e, hl', fun i x hi => ?_⟩
  obtain ⟨pk, po, hk, ea, h0⟩ := h i x hi
  exact ⟨pk, po, by omega, ea, h0⟩
/-- The value v is the bitmap b. -/
def IsBm (w : World) (lo : Nat) (v : Value) (b : Bm) : Prop := ∃ s, v = .agg #[.int .i64 b.1, .int .i64 b.2.1, s] ∧ IsBools w lo s b.2.2 ∧ wfI b.1 ∧ wfI b.2.1
theorem IsBm.kept {w w' : World} {lo : Nat} {v : Value} {b : Bm} {F : Nat → Prop} (h : IsBm w lo v b) (hc : Ch F w w') (hF : ∀ k, k < lo → ¬ F k) : IsBm w' lo v b := by
  obtain ⟨s, e, h, h1⟩ := h
  exact ⟨s, e, h.kept hc hF, h1⟩
theorem IsBm.hi {w : World} {lo lo' : Nat} {v : Value} {b : Bm} (h : IsBm w lo v b) (hl : lo ≤ lo') : IsBm w lo' v b := by
  obtain ⟨s, e, h, h1⟩ := h
  exact ⟨s, e, h.hi hl, h1⟩
/-- The value v is the image x. -/
def IsIm (w : World) (lo : Nat) (v : Value) (x : Im) : Prop := ∃ s, v = .agg #[.int .i64 x.1, .int .i64 x.2.1, s] ∧ IsInts w lo s x.2.2 ∧ wfI x.1 ∧ wfI x.2.1
theorem IsIm.kept {w w' : World} {lo : Nat} {v : Value} {b : Im} {F : Nat → Prop} (h : IsIm w lo v b) (hc : Ch F w w') (hF : ∀ k, k < lo → ¬ F k) : IsIm w' lo v b := by
  obtain ⟨s, e, h, h1⟩ := h
  exact ⟨s, e, h.kept hc hF, h1⟩
theorem IsIm.hi {w : World} {lo lo' : Nat} {v : Value} {b : Im} (h : IsIm w lo v b) (hl : lo ≤ lo') : IsIm w lo' v b := by
  obtain ⟨s, e, h, h1⟩ := h
  exact ⟨s, e, h.hi hl, h1⟩

theorem mul96 {a b : Int} (ha : 0 ≤ a ∧ a ≤ 100) (hb : 0 ≤ b ∧ b ≤ 100) : 0 ≤ a * b ∧ a * b ≤ 10000 := by
  refine ⟨Int.mul_nonneg ha.1 hb.1, ?_⟩
  have : a * b ≤ 100 * 100 := Int.mul_le_mul ha.2 hb.2 hb.1 (by omega)
  omega

set_option maxRecDepth 100000 in
theorem bmCheck_any (lo : Nat) (v : Value) (b : Bm) (w : World) (R : Ending → World → Prop) (h : IsBm w lo v b)
    (hR : ∀ w', Nw w w' → R (.returned (.int .i64 (bmE b))) w') : Calls Tryd.prog 21 #[v] w R := by
  have HR := Lib.hid hR
  clear hR
  obtain ⟨W, H, l⟩ := b
  obtain ⟨s, rfl, ⟨A, cap, rfl, ⟨hlc, hl⟩, -⟩, hw, hh⟩ := h
  simp only at hw hh hl HR ⊢
  unfold wfI at hw hh
  have HN := Lib.hid (show Nw w (w.alloc (.cells #[.int .i64 W, .int .i64 H, .slice A l.length cap] 28)) from (Ch.refl _ _).alloc _)
  by_cases h1 : 0 ≤ W
  · by_cases h2 : W ≤ 96
    · by_cases h3 : 0 ≤ H
      · by_cases h4 : H ≤ 96
        · obtain ⟨m0, m1⟩ := mul96 (a := W) (b := H) ⟨h1, by omega⟩ ⟨h3, by omega⟩
          have e0 : IntKind.i64.wrap (W * H) = W * H := by rw [IntKind.wrap_i64]; omega
          by_cases h5 : (l.length : Int) = W * H
          · have t1 : ((l.length : Int) != W * H) = false := by simp [h5]
            have H5 := Lib.hid h5
            clear h5
            go_enter Tryd.func21, Tryd.ntmps21
            go_wp2
            refine ret_i (HR.out _ HN.out) ?_
            rw [bmE_eq ⟨h1, h2⟩ ⟨h3, h4⟩ H5.out]
          · have t1 : ((l.length : Int) != W * H) = true := by simp [h5]
            go_enter Tryd.func21, Tryd.ntmps21
            go_wp2
            refine ret_i (HR.out _ HN.out) ?_
            unfold bmE
            rw [if_pos (by simp [sideOk]; omega), if_neg h5]
        · go_enter Tryd.func21, Tryd.ntmps21
          go_wp2
          refine ret_i (HR.out _ HN.out) ?_
          unfold bmE
          rw [if_neg (by simp [sideOk]; omega)]
      · go_enter Tryd.func21, Tryd.ntmps21
        go_wp2
        refine ret_i (HR.out _ HN.out) ?_
        unfold bmE
        rw [if_neg (by simp [sideOk]; omega)]
    · go_enter Tryd.func21, Tryd.ntmps21
      go_wp2
      refine ret_i (HR.out _ HN.out) ?_
      unfold bmE
      rw [if_neg (by simp [sideOk]; omega)]
  · go_enter Tryd.func21, Tryd.ntmps21
    go_wp2
    refine ret_i (HR.out _ HN.out) ?_
    unfold bmE
    rw [if_neg (by simp [sideOk]; omega)]

set_option maxRecDepth 100000 in
theorem rbCheck_any (lo : Nat) (v : Value) (b : Bm) (w : World) (R : Ending → World → Prop) (h : IsBm w lo v b)
    (hR : ∀ w', Nw w w' → R (.returned (.int .i64 (bmE b))) w') : Calls Tryd.prog 22 #[v] w R := by
  have HR := Lib.hid hR
  clear hR
  obtain ⟨W, H, l⟩ := b
  obtain ⟨s, rfl, ⟨A, cap, rfl, ⟨hlc, hl⟩, -⟩, hw, hh⟩ := h
  simp only at hw hh hl HR ⊢
  unfold wfI at hw hh
  have HN := Lib.hid (show Nw w (w.alloc (.cells #[.int .i64 W, .int .i64 H, .slice A l.length cap] 28)) from (Ch.refl _ _).alloc _)
  by_cases h1 : 0 ≤ W
  · by_cases h2 : W ≤ 96
    · by_cases h3 : 0 ≤ H
      · by_cases h4 : H ≤ 96
        · obtain ⟨m0, m1⟩ := mul96 (a := W) (b := H) ⟨h1, by omega⟩ ⟨h3, by omega⟩
          have e0 : IntKind.i64.wrap (W * H) = W * H := by rw [IntKind.wrap_i64]; omega
          by_cases h5 : (l.length : Int) = W * H
          · have t1 : ((l.length : Int) != W * H) = false := by simp [h5]
            have H5 := Lib.hid h5
            clear h5
            go_enter Tryd.func22, Tryd.ntmps22
            go_wp2
            refine ret_i (HR.out _ HN.out) ?_
            rw [bmE_eq ⟨h1, h2⟩ ⟨h3, h4⟩ H5.out]
          · have t1 : ((l.length : Int) != W * H) = true := by simp [h5]
            go_enter Tryd.func22, Tryd.ntmps22
            go_wp2
            refine ret_i (HR.out _ HN.out) ?_
            unfold bmE
            rw [if_pos (by simp [sideOk]; omega), if_neg h5]
        · go_enter Tryd.func22, Tryd.ntmps22
          go_wp2
          refine ret_i (HR.out _ HN.out) ?_
          unfold bmE
          rw [if_neg (by simp [sideOk]; omega)]
      · go_enter Tryd.func22, Tryd.ntmps22
        go_wp2
        refine ret_i (HR.out _ HN.out) ?_
        unfold bmE
        rw [if_neg (by simp [sideOk]; omega)]
    · go_enter Tryd.func22, Tryd.ntmps22
      go_wp2
      refine ret_i (HR.out _ HN.out) ?_
      unfold bmE
      rw [if_neg (by simp [sideOk]; omega)]
  · go_enter Tryd.func22, Tryd.ntmps22
    go_wp2
    refine ret_i (HR.out _ HN.out) ?_
    unfold bmE
    rw [if_neg (by simp [sideOk]; omega)]
end Go.Proofs.YtaafmgkjfmngjaaDoor
