/-
  The law VerifyTexts: the frame of its tied card around its contract (Vlt,CardW). Every argument reads behind the call as it did.
-/
import Derived.WalkKit
import Derived.ProofKit
import Derived.OpenShut
import Derived.Carry
import Derived.LaidMore
import Derived.Stop.Joined
import Derived.JoinedOf
import Derived.SevenTiedAt
import Derived.Test.YtdpbdcaefdcooaaGreatDoorRows
import Derived.Test.YtdpbdcaefdcooaaGreatDoorCards
import Derived.Test.YtdpbdcaefdcooaaGreatDoorTie
import Derived.Test.YtdpbdcaefdcooaaGreatDoorCardV
import Derived.Test.YtdpbdcaefdcooaaGreatDoorVlt
import Derived.Test.YtdpbdcaefdcooaaGreatDoorCardW
namespace Go.Proofs.YtdpbdcaefdcooaaGreatDoor.verifyTexts
open Go.ChangeShapes Go.WideShapes Go.ChangeAt Go.RowKit Go.Deep
set_option linter.unusedVariables false
set_option linter.unusedSimpArgs false

theorem own : ownKnob Tryz.prog.godebug = none := by kernel_rfl

theorem walk (w : World) (v0 : Value) (x0 : List Int) (qa1 qb1 qc1 qd1 : Int) (v2 : Value) (x2 : List VOp) (z3 : ByteArray) (wx0 : IsInts w w.heap.size v0 x0) (wq1 : wfI qa1 ∧ wfI qb1 ∧ wfI qc1 ∧ wfI qd1) (wx2 : IsRaw w w.heap.size v2 x2) (wz3 : z3.size ≤ maxLen) (hk : WOk w) :
    Calls Tryz.prog 4 #[v0, .agg #[.int .i64 qa1, .int .i64 qb1, .int .i64 qc1, .int .i64 qd1], v2, .string z3] w fun e w' => e = .returned (.bool true) ∧ Nw w w' :=
  law_texts w.heap.size v0 x0 qa1 qb1 qc1 qd1 v2 x2 z3 w _ (Nat.le_refl _) wx0 wq1 wx2 hk fun w' h => ⟨rfl, h⟩

set_option maxRecDepth 100000 in
theorem lifted (os : Os) (started : os.Started) (H : Type) (enc : TypeId × Value → H) :
    ReturnsInHanded {} Tryz.checked os 4 .any (fun w args => (Rows.verifyTextsSpec.pre enc Tryz.prog Tryz.f4 [] false w args ∧ laidMetH Tryz.prog theLaid w) ∧ sizedMet enc Tryz.prog Tryz.f4 (OpenSpec.ofChange Rows.verifyTextsSpec) false w args)
      (Rows.verifyTextsSpec.post enc Tryz.prog Tryz.f4 false true false false) := by
  refine handed_and_shaped (C := Tryz.checked) (X := fun w _ => laidMetH Tryz.prog theLaid w) (fun _ _ _ hh h => h.of_heap hh) own started (by kernel_rfl) Tryz.func4
    (ChangeSpec.witness_shaped (enc := enc) (C := Tryz.checked) (os := os) (X := fun w _ => laidMetH Tryz.prog theLaid w) false (laidWorld os) #[.slice none 0 0, .agg #[.int .i64 0, .int .i64 0, .int .i64 0, .int .i64 0], .slice none 0 0, .string ⟨#[]⟩] 8 rfl (World.shaped_of_RefB (by kernel_rfl) (by kernel_rfl)) (by kernel_rfl) (by kernel_rfl) (by kernel_rfl) (door_met os _)) ?_
  intro W base args ds gs before hval0 hW _ hL hsh
  have hval : ∀ (j : Nat) t v, Tryz.f4.params[j]? = some t → args[j]? = some v → Value.okWide Tryz.prog W .any base t v := hval0
  have hW' := hW
  obtain ⟨p, q, hA0, hV, rfl, hfz, hnd⟩ := hW
  have hA : DataW.TrodAll enc Tryz.prog W 0 (fun _ => true) true Tryz.f4.params.toList args.toList ds p := hA0
  rw [Tryz.params4] at hA hval
  obtain ⟨v0, vs0, d0, ds0, p0, q0, hargs, rfl, rfl, h0, r0⟩ := trodAll_cons hA
  obtain ⟨v1, vs1, d1, ds1, p1, q1, rfl, rfl, rfl, h1, r1⟩ := trodAll_cons r0
  obtain ⟨v2, vs2, d2, ds2, p2, q2, rfl, rfl, rfl, h2, r2⟩ := trodAll_cons r1
  obtain ⟨v3, vs3, d3, ds3, p3, q3, rfl, rfl, rfl, h3, r3⟩ := trodAll_cons r2
  obtain ⟨rfl, rfl, rfl⟩ := trodAll_nil r3
  obtain rfl : args = #[v0, v1, v2, v3] := by cases args; simp_all
  obtain ⟨rfl, rfl⟩ := trodVars_none hV
  have k0 := h0
  have lt0 : ∀ x ∈ p0, x.block < W.heap.size := by obtain ⟨m, hm⟩ := k0; exact DataW.trod_lt m _ _ _ hm
  have k1 := h1
  have lt1 : ∀ x ∈ p1, x.block < W.heap.size := by obtain ⟨m, hm⟩ := k1; exact DataW.trod_lt m _ _ _ hm
  have k2 := h2
  have lt2 : ∀ x ∈ p2, x.block < W.heap.size := by obtain ⟨m, hm⟩ := k2; exact DataW.trod_lt m _ _ _ hm
  have k3 := h3
  have lt3 : ∀ x ∈ p3, x.block < W.heap.size := by obtain ⟨m, hm⟩ := k3; exact DataW.trod_lt m _ _ _ hm
  obtain ⟨s0, l0, c0, e0⟩ := okWide_slice Tryz.underlying22 (hval 0 22 v0 rfl rfl)
  obtain ⟨x0, wx0⟩ := open_IntsV e0 h0
  obtain ⟨qa1, qb1, qc1, qd1, rfl, wq1⟩ := open_Arr4 (hval 1 23 v1 rfl rfl) h1
  obtain ⟨s2, l2, c2, e2⟩ := okWide_slice Tryz.underlying24 (hval 2 24 v2 rfl rfl)
  obtain ⟨x2, wx2⟩ := open_Raw e2 h2
  obtain ⟨z3, rfl, rfl, rfl, wz3⟩ := Go.ChangeMaps.open_string Tryz.underlying9 (hval 3 9 v3 rfl rfl) h3
  clear hA0 hval0
  refine (walk W v0 x0 qa1 qb1 qc1 qd1 v2 x2 z3 wx0 wq1 wx2 wz3 (wok_of hL hsh)).mono fun e W' ⟨he, nw⟩ => ?_
  subst he
  have bel := nw.below
  exact ⟨_, rfl, _, _, _, [], _, [], hW', trodAll_mk1 (shut_bool Tryz.underlying4 _), (trodAll_cons_mk (Below.trod laidOut (by kernel_rfl) (of_decide_eq_true (by kernel_rfl)) k0 bel lt0) (trodAll_cons_mk (Below.trod laidOut (by kernel_rfl) (of_decide_eq_true (by kernel_rfl)) k1 bel lt1) (trodAll_cons_mk (Below.trod laidOut (by kernel_rfl) (of_decide_eq_true (by kernel_rfl)) k2 bel lt2) (trodAll_cons_mk (Go.ChangeMaps.shut_string Tryz.underlying9 wz3) trodAll_mk0)))), rfl, bel.frame _, fun h => by cases h⟩

theorem over : Rows.verifyTextsRow.holds Tryz.pinned (OpenSpec.ofChange Rows.verifyTextsSpec) :=
  OpenClaim.holds_of_wide 4 Tryz.f4 rfl rfl rfl rfl rfl rfl rfl ⟨rfl, rfl, rfl, rfl, rfl⟩ rfl rfl rfl rfl rfl (by kernel_rfl) Tryz.func4 (by kernel_rfl)
    (of_decide_eq_true (by kernel_rfl)) (by unfold Func.isWrapper; first | (rw [if_pos (by decide +kernel)]; kernel_rfl) | (rw [if_neg (by decide +kernel)]; exact ⟨rfl, rfl⟩))
    (fun os started H enc _ => lifted os started H enc)

/-- The card. -/
theorem proved : Rows.VerifyTextsCardSaid :=
  Claim7.holds_tied_plain_at .later [] [.data, .data, .data, .data, .sentinel, .sentinel, .widerDeep, .pinned] true (true, "2d2625f89d0e74021857077136abc4ecb7d5a79dca18516ed63c01be1dee2fa3") true
    over (fun _ h => by cases h) (by kernel_rfl) (fun _ h => by cases h) verifyTexts_row_tie rfl ⟨rfl, rfl⟩ (by kernel_rfl) rfl
    (fun f fn hf hfn => by
      obtain rfl : f = 4 := Option.some.inj ((show Tryz.prog.funcNamed "indelible/indeliblelaw08.VerifyTexts" = some 4 by kernel_rfl).symm.trans hf) |>.symm
      obtain rfl : fn = Tryz.f4 := (Option.some.inj (Tryz.func4.symm.trans hfn)).symm
      exact ⟨by kernel_rfl, fun j t ht => by
        rw [Tryz.params4] at ht
        have hm : t ∈ [22, 23, 24, 9] := by simpa using Array.mem_of_getElem? ht
        have hall : ([22, 23, 24, 9].all fun u => !Tryz.prog.wantsStandIn u) = true := by kernel_rfl
        exact (show Tryz.prog.wantsStandIn t = false by simpa using List.all_eq_true.1 hall t hm)⟩)
    (by kernel_rfl)
#print axioms proved
end Go.Proofs.YtdpbdcaefdcooaaGreatDoor.verifyTexts
