/-
  What the row's condition on the table of the kinds gives the walks: KindsOk.
-/
import Derived.Test.YtdpbdcaefdcooaaGreatDoorRows
import Derived.Test.YtdpbdcaefdcooaaGreatDoorVForm
import Derived.ProofKit
import Derived.LaidMore
import Derived.OpenShut
import Derived.LaidHandle
import Derived.MakeChecks
namespace Go.Proofs.YtdpbdcaefdcooaaGreatDoor
open Go.ChangeShapes Go.WideShapes Go.ChangeAt Go.RowKit
set_option linter.unusedVariables false

theorem gKinds : Tryz.prog.globalNamed "indelible/verify.kinds" = some 0 := by kernel_rfl
theorem tKinds : (Tryz.prog.globals[0]?).map (·.type) = some 67 := by kernel_rfl

section
variable {H : Type} {enc : TypeId × Value → H} {W : World}
theorem trod_struct5 {P : Program} {sp : Nat → Bool} {held : Bool} {base : Nat} {t : TypeId} {f0 f1 f2 f3 f4 : Field} {fuel : Nat} {cs : List Value} {x : DataW H × List MemPlace} (ht : P.underlying t = some (.struct #[f0, f1, f2, f3, f4])) (h : DataW.trod enc P W base sp held fuel t cs = some x) :
    ∃ y0 y1 y2 y3 y4 n, x = (.agg [y0.1, y1.1, y2.1, y3.1, y4.1], y0.2 ++ (y1.2 ++ (y2.2 ++ (y3.2 ++ y4.2)))) ∧ DataW.trod enc P W base sp held n f0.type ((cs.drop f0.offset).take (P.cellsOf f0.type)) = some y0 ∧
      DataW.trod enc P W base sp held n f1.type ((cs.drop f1.offset).take (P.cellsOf f1.type)) = some y1 ∧ DataW.trod enc P W base sp held n f2.type ((cs.drop f2.offset).take (P.cellsOf f2.type)) = some y2 ∧
      DataW.trod enc P W base sp held n f3.type ((cs.drop f3.offset).take (P.cellsOf f3.type)) = some y3 ∧ DataW.trod enc P W base sp held n f4.type ((cs.drop f4.offset).take (P.cellsOf f4.type)) = some y4 := by
  obtain ⟨xs, n, _, rfl, hl, hlen, hf⟩ := DataW.trod_struct ht h
  match xs, hlen with
  | [y0, y1, y2, y3, y4], _ => exact ⟨y0, y1, y2, y3, y4, n, by simp, by simpa using hf 0 f0 rfl, by simpa using hf 1 f1 rfl, by simpa using hf 2 f2 rfl, by simpa using hf 3 f3 rfl, by simpa using hf 4 f4 rfl⟩
/-- The cells of a kind that reads so. -/
theorem kind_cells {sp : Nat → Bool} {held : Bool} {base fuel : Nat} {cs : List Value} {x : DataW H × List MemPlace} {s : List UInt8} {n m : Bool} {t p : Int} (h : DataW.trod enc Tryz.prog W base sp held fuel 66 cs = some x)
    (hx : x.1 = .agg [.lit (.string s), .lit (.bool n), .lit (.bool m), .lit (.int .i64 t), .lit (.int .i64 p)]) : ∃ b, cs[0]? = some (.string b) ∧ cs[1]? = some (.bool n) ∧ cs[2]? = some (.bool m) ∧ cs[3]? = some (.int .i64 t) ∧ cs[4]? = some (.int .i64 p) := by
  obtain ⟨y0, y1, y2, y3, y4, k, hx0, h0, h1, h2, h3, h4⟩ := trod_struct5 Tryz.underlying66 h
  subst hx0
  have e9 : Tryz.prog.cellsOf 9 = 1 := by kernel_rfl
  have e4 : Tryz.prog.cellsOf 4 = 1 := by kernel_rfl
  have e3 : Tryz.prog.cellsOf 3 = 1 := by kernel_rfl
  rw [e9] at h0
  rw [e4] at h1 h2
  rw [e3] at h3 h4
  obtain ⟨b, c0, r0, -⟩ := DataW.trod_string Tryz.underlying9 h0
  obtain ⟨n', c1, r1⟩ := DataW.trod_bool Tryz.underlying4 h1
  obtain ⟨m', c2, r2⟩ := DataW.trod_bool Tryz.underlying4 h2
  obtain ⟨t', c3, r3, -⟩ := DataW.trod_int Tryz.underlying3 h3
  obtain ⟨p', c4, r4, -⟩ := DataW.trod_int Tryz.underlying3 h4
  simp at hx
  obtain ⟨-, x1, x2, x3, x4⟩ := hx
  have g : ∀ (k : Nat) (v : Value), (cs.drop k).take 1 = [v] → cs[k]? = some v := by
    intro k v h
    have := congrArg (fun l => l[0]?) h
    simpa [List.getElem?_take, List.getElem?_drop] using this
  refine ⟨b, g 0 _ c0, ?_, ?_, ?_, ?_⟩
  · rw [g 1 _ c1]; simp_all
  · rw [g 2 _ c2]; simp_all
  · rw [g 3 _ c3]; simp_all
  · rw [g 4 _ c4]; simp_all
end

/-- The datum of a kind, and what it says. -/
theorem kind_datum : ∀ c : Nat, 1 ≤ c → c ≤ 15 → ∃ s, (match (Rows.laid_indelible_verify_kinds : DataW Unit) with | .agg l => l[c]? | _ => none) = some (.agg [.lit (.string s), .lit (.bool (kN c)), .lit (.bool (kM c)), .lit (.int .i64 (vtakes c)), .lit (.int .i64 (vputs c))]) := by
  intro c h1 h2
  obtain h | h | h | h | h | h | h | h | h | h | h | h | h | h | h : c = 1 ∨ c = 2 ∨ c = 3 ∨ c = 4 ∨ c = 5 ∨ c = 6 ∨ c = 7 ∨ c = 8 ∨ c = 9 ∨ c = 10 ∨ c = 11 ∨ c = 12 ∨ c = 13 ∨ c = 14 ∨ c = 15 := by omega
  all_goals (subst h; exact ⟨_, rfl⟩)

theorem kinds_of_laid {W : World} (h : laidMetH Tryz.prog [("indelible/verify.kinds", Rows.laid_indelible_verify_kinds)] W) : KindsOk W := by
  rw [MakeChecks.laidMetH_plain _ _ _ (by kernel_rfl)] at h
  obtain ⟨ps, ⟨g0, t0, cs0, f0, p0, q0, hg0, ht0, hv0, hd0, -, -⟩, -, -⟩ := h
  obtain rfl := Option.some.inj (gKinds.symm.trans hg0)
  obtain rfl := Option.some.inj (tKinds.symm.trans ht0)
  obtain ⟨xs, m1, -, hx, hlen, hn, hel⟩ := DataW.trod_array Tryz.underlying67 hd0
  have e5 : Tryz.prog.cellsOf 66 = 5 := by kernel_rfl
  intro c h1 h2
  obtain ⟨s, hs⟩ := kind_datum c h1 h2
  have hc := hel c (by omega)
  rw [e5] at hc
  simp only [Prod.mk.injEq] at hx
  rw [hx.1] at hs
  simp only [List.getElem?_map] at hs
  cases hxc : xs[c]? with
  | none => rw [hxc] at hs; simp at hs
  | some x =>
    rw [hxc] at hs hc
    simp only [Option.map_some, Option.some.injEq] at hs
    obtain ⟨b, g0', g1, g2, g3, g4⟩ := kind_cells hc hs
    have gg : ∀ (k : Nat) (v : Value), k < 5 → ((cs0.toList.drop (c * 5)).take 5)[k]? = some v → W.cell? ⟨0, c * 5 + k, none⟩ = some v := by
      intro k v hk h
      rw [World.var?_cell hg0 hv0, ← Array.getElem?_toList]
      rw [List.getElem?_take, if_pos hk, List.getElem?_drop] at h
      exact h
    exact ⟨b, by simpa using gg 0 _ (by omega) g0', gg 1 _ (by omega) g1, gg 2 _ (by omega) g2, gg 3 _ (by omega) g3, gg 4 _ (by omega) g4⟩
end Go.Proofs.YtdpbdcaefdcooaaGreatDoor
