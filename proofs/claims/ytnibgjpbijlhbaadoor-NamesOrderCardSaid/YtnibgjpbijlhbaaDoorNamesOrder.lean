/-
  The law NamesOrder: the frame of its tied card around its contract (Lo12). Every argument reads behind the call as it did.
-/
import Derived.WalkKit
import Derived.ProofKit
import Derived.OpenShut
import Derived.Carry
import Derived.LaidMore
import Derived.Stop.Joined
import Derived.JoinedOf
import Derived.SevenTiedAt
import Derived.Test.YtnibgjpbijlhbaaDoorRows
import Derived.Test.YtnibgjpbijlhbaaDoorCards
import Derived.Test.YtnibgjpbijlhbaaDoorTie
import Derived.Test.YtnibgjpbijlhbaaDoorCardN
import Derived.Test.YtnibgjpbijlhbaaDoorLo12
namespace Go.Proofs.YtnibgjpbijlhbaaDoor.namesOrder
open Go.ChangeShapes Go.WideShapes Go.ChangeAt Go.RowKit Go.Deep
set_option linter.unusedVariables false
set_option linter.unusedSimpArgs false

theorem own : ownKnob Tryd.prog.godebug = none := by kernel_rfl

theorem walk (w : World) (va0 : Value) (la0 : List Int) (qa0 qb0 qc0 : Int) (z0 : ByteArray) (va1 : Value) (la1 : List Int) (qa1 qb1 qc1 : Int) (z1 : ByteArray) (va2 : Value) (la2 : List Int) (qa2 qb2 qc2 : Int) (z2 : ByteArray) (na3 nb3 : Nat) (na4 nb4 : Nat) (wa0 : IsInts w w.heap.size va0 la0) (wq0 : wfI qa0 ∧ wfI qb0 ∧ wfI qc0) (wa1 : IsInts w w.heap.size va1 la1) (wq1 : wfI qa1 ∧ wfI qb1 ∧ wfI qc1) (wa2 : IsInts w w.heap.size va2 la2) (wq2 : wfI qa2 ∧ wfI qb2 ∧ wfI qc2) (wn3 : na3 ≤ 65535 ∧ nb3 ≤ 65535) (wn4 : na4 ≤ 255 ∧ nb4 ≤ 255) (hmx : MaxOk w) :
    Calls Tryd.prog 6 #[.agg #[va0, .int .i64 qa0, .int .i64 qb0, .int .i64 qc0, .string z0], .agg #[va1, .int .i64 qa1, .int .i64 qb1, .int .i64 qc1, .string z1], .agg #[va2, .int .i64 qa2, .int .i64 qb2, .int .i64 qc2, .string z2], .agg #[.int .u16 (na3 : Nat), .int .u16 (nb3 : Nat)], .agg #[.int .u8 (na4 : Nat), .int .u8 (nb4 : Nat)]] w fun e w' => e = .returned (.bool true) ∧ Nw w w' :=
  law_order w.heap.size va0 va1 va2 la0 la1 la2 qa0 qb0 qc0 qa1 qb1 qc1 qa2 qb2 qc2 z0 z1 z2 na3 nb3 na4 nb4 w _ (Nat.le_refl _) wa0 wq0 wa1 wq1 wa2 wq2 wn3.1 wn3.2 wn4.1 wn4.2 hmx fun w' h => ⟨rfl, h⟩

set_option maxRecDepth 100000 in
theorem lifted (os : Os) (started : os.Started) (H : Type) (enc : TypeId × Value → H) :
    ReturnsInHanded {} Tryd.checked os 6 .any (fun w args => (Rows.namesOrderSpec.pre enc Tryd.prog Tryd.f6 [] false w args ∧ laidMetH Tryd.prog theLaid w) ∧ sizedMet enc Tryd.prog Tryd.f6 (OpenSpec.ofChange Rows.namesOrderSpec) false w args)
      (Rows.namesOrderSpec.post enc Tryd.prog Tryd.f6 false true false false) := by
  refine handed_and_shaped (C := Tryd.checked) (X := fun w _ => laidMetH Tryd.prog theLaid w) (fun _ _ _ hh h => h.of_heap hh) own started (by kernel_rfl) Tryd.func6
    (ChangeSpec.witness_shaped (enc := enc) (C := Tryd.checked) (os := os) (X := fun w _ => laidMetH Tryd.prog theLaid w) false (laidWorld os) #[.agg #[.slice none 0 0, .int .i64 0, .int .i64 0, .int .i64 0, .string ⟨#[]⟩], .agg #[.slice none 0 0, .int .i64 0, .int .i64 0, .int .i64 0, .string ⟨#[]⟩], .agg #[.slice none 0 0, .int .i64 0, .int .i64 0, .int .i64 0, .string ⟨#[]⟩], .agg #[.int .u16 0, .int .u16 0], .agg #[.int .u8 0, .int .u8 0]] 8 rfl (World.shaped_of_RefB (by kernel_rfl) (by kernel_rfl)) (by kernel_rfl) (by kernel_rfl) (by kernel_rfl) (door_met os _)) ?_
  intro W base args ds gs before hval0 hW _ hL hsh
  have hval : ∀ (j : Nat) t v, Tryd.f6.params[j]? = some t → args[j]? = some v → Value.okWide Tryd.prog W .any base t v := hval0
  have hW' := hW
  obtain ⟨p, q, hA0, hV, rfl, hfz, hnd⟩ := hW
  have hA : DataW.TrodAll enc Tryd.prog W 0 (fun _ => true) true Tryd.f6.params.toList args.toList ds p := hA0
  rw [Tryd.params6] at hA hval
  obtain ⟨v0, vs0, d0, ds0, p0, q0, hargs, rfl, rfl, h0, r0⟩ := trodAll_cons hA
  obtain ⟨v1, vs1, d1, ds1, p1, q1, rfl, rfl, rfl, h1, r1⟩ := trodAll_cons r0
  obtain ⟨v2, vs2, d2, ds2, p2, q2, rfl, rfl, rfl, h2, r2⟩ := trodAll_cons r1
  obtain ⟨v3, vs3, d3, ds3, p3, q3, rfl, rfl, rfl, h3, r3⟩ := trodAll_cons r2
  obtain ⟨v4, vs4, d4, ds4, p4, q4, rfl, rfl, rfl, h4, r4⟩ := trodAll_cons r3
  obtain ⟨rfl, rfl, rfl⟩ := trodAll_nil r4
  obtain rfl : args = #[v0, v1, v2, v3, v4] := by cases args; simp_all
  obtain ⟨rfl, rfl⟩ := trodVars_none hV
  have k0 := h0
  have lt0 : ∀ x ∈ p0, x.block < W.heap.size := by obtain ⟨m, hm⟩ := k0; exact DataW.trod_lt m _ _ _ hm
  have k1 := h1
  have lt1 : ∀ x ∈ p1, x.block < W.heap.size := by obtain ⟨m, hm⟩ := k1; exact DataW.trod_lt m _ _ _ hm
  have k2 := h2
  have lt2 : ∀ x ∈ p2, x.block < W.heap.size := by obtain ⟨m, hm⟩ := k2; exact DataW.trod_lt m _ _ _ hm
  have k3 := h3
  have lt3 : ∀ x ∈ p3, x.block < W.heap.size := by obtain ⟨m, hm⟩ := k3; exact DataW.trod_lt m _ _ _ hm
  have k4 := h4
  have lt4 : ∀ x ∈ p4, x.block < W.heap.size := by obtain ⟨m, hm⟩ := k4; exact DataW.trod_lt m _ _ _ hm
  obtain ⟨va0, la0, qa0, qb0, qc0, z0, rfl, wa0, wq0⟩ := open_Case12 (hval 0 25 v0 rfl rfl) h0
  obtain ⟨va1, la1, qa1, qb1, qc1, z1, rfl, wa1, wq1⟩ := open_Case12 (hval 1 25 v1 rfl rfl) h1
  obtain ⟨va2, la2, qa2, qb2, qc2, z2, rfl, wa2, wq2⟩ := open_Case12 (hval 2 25 v2 rfl rfl) h2
  obtain ⟨na3, nb3, rfl, wn3⟩ := open_N2 (hval 3 42 v3 rfl rfl) h3
  obtain ⟨na4, nb4, rfl, wn4⟩ := open_Z2 (hval 4 43 v4 rfl rfl) h4
  clear hA0 hval0
  refine (walk W va0 la0 qa0 qb0 qc0 z0 va1 la1 qa1 qb1 qc1 z1 va2 la2 qa2 qb2 qc2 z2 na3 nb3 na4 nb4 wa0 wq0 wa1 wq1 wa2 wq2 wn3 wn4 (max_of_shape hsh)).mono fun e W' ⟨he, nw⟩ => ?_
  subst he
  have bel := nw.below
  exact ⟨_, rfl, _, _, _, [], _, [], hW', trodAll_mk1 (shut_bool Tryd.underlying4 _), (trodAll_cons_mk (Below.trod laidOut (by kernel_rfl) (of_decide_eq_true (by kernel_rfl)) k0 bel lt0) (trodAll_cons_mk (Below.trod laidOut (by kernel_rfl) (of_decide_eq_true (by kernel_rfl)) k1 bel lt1) (trodAll_cons_mk (Below.trod laidOut (by kernel_rfl) (of_decide_eq_true (by kernel_rfl)) k2 bel lt2) (trodAll_cons_mk (Below.trod laidOut (by kernel_rfl) (of_decide_eq_true (by kernel_rfl)) k3 bel lt3) (trodAll_cons_mk (Below.trod laidOut (by kernel_rfl) (of_decide_eq_true (by kernel_rfl)) k4 bel lt4) trodAll_mk0))))), rfl, bel.frame _, fun h => by cases h⟩

theorem over : Rows.namesOrderRow.holds Tryd.pinned (OpenSpec.ofChange Rows.namesOrderSpec) :=
  OpenClaim.holds_of_wide 6 Tryd.f6 rfl rfl rfl rfl rfl rfl rfl ⟨rfl, rfl, rfl, rfl, rfl⟩ rfl rfl rfl rfl rfl (by kernel_rfl) Tryd.func6 (by kernel_rfl)
    (of_decide_eq_true (by kernel_rfl)) (by unfold Func.isWrapper; first | (rw [if_pos (by decide +kernel)]; kernel_rfl) | (rw [if_neg (by decide +kernel)]; exact ⟨rfl, rfl⟩))
    (fun os started H enc _ => lifted os started H enc)

/-- The card. -/
theorem proved : Rows.NamesOrderCardSaid :=
  Claim7.holds_tied_plain_at .later [] [.data, .pinned] true (true, "04e1e6a3c9611c5bcd1e667b9ead19988a3bb8c17afb6c9bf6160bab7356be63") false
    over (fun _ h => by cases h) (by kernel_rfl) (fun _ h => by cases h) namesOrder_row_tie rfl ⟨rfl, rfl⟩ (by kernel_rfl) rfl
    (fun f fn hf hfn => by
      obtain rfl : f = 6 := Option.some.inj ((show Tryd.prog.funcNamed "indelible/indeliblelaw12.NamesOrder" = some 6 by kernel_rfl).symm.trans hf) |>.symm
      obtain rfl : fn = Tryd.f6 := (Option.some.inj (Tryd.func6.symm.trans hfn)).symm
      exact ⟨by kernel_rfl, fun j t ht => by
        rw [Tryd.params6] at ht
        have hm : t ∈ [25, 25, 25, 42, 43] := by simpa using Array.mem_of_getElem? ht
        have hall : ([25, 25, 25, 42, 43].all fun u => !Tryd.prog.wantsStandIn u) = true := by kernel_rfl
        exact (show Tryd.prog.wantsStandIn t = false by simpa using List.all_eq_true.1 hall t hm)⟩)
    (by kernel_rfl)
#print axioms proved
end Go.Proofs.YtnibgjpbijlhbaaDoor.namesOrder
