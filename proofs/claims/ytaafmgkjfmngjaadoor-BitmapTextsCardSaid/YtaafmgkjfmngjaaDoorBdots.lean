/-
  bitmap.dots: the dots of a bitmap, as an iterator.
-/
import Derived.Test.YtaafmgkjfmngjaaDoorBhas
import Derived.Test.YtaafmgkjfmngjaaDoorImP
import Derived.RangeFuncNested
import Derived.RangeFuncBound
import Derived.RangeFuncCalls
import Derived.RangeFuncLeaves
import Derived.Shelf.Abstract
import Derived.Shelf.RegionOpen
import Derived.OwnWalkIn
import Derived.TacticsInMore
import Derived.LoopNIn
import Derived.LoopIn
namespace Go.Proofs.YtaafmgkjfmngjaaDoor
open Go.RowKit Go.Shelf
attribute [local go_sem] Oper.semAt_some
set_option linter.unusedVariables false
set_option linter.unusedSimpArgs false
set_option maxRecDepth 100000

/-- The dots among the first k places, the lowest row first. -/
def dotsTo (b : Bm) : Nat → List (Int × Int)
  | 0 => []
  | k + 1 => if (b.2.2[k]?).getD false = true then dotsTo b k ++ [((k : Int) % b.1, (k : Int) / b.1)] else dotsTo b k
def dotsB (b : Bm) : List (Int × Int) := if bmE b = 0 then dotsTo b b.2.2.length else []
theorem dotsTo_len (b : Bm) (k : Nat) : (dotsTo b k).length ≤ k := by
  induction k with
  | zero => exact Nat.le_refl _
  | succ k ih =>
    unfold dotsTo
    split
    · simp; omega
    · omega
theorem Nw.grown {w w' : World} (h : Nw w w') : w.grownBy w' none := ⟨h.os, h.tape, h.output, h.size, fun k hk _ => h.block k hk id⟩
def encD (x : Int × Int) : Array Value := #[.agg #[.int .i64 x.1, .int .i64 x.2]]

set_option maxHeartbeats 4000000 in
theorem dots1_in (n : Nat) (hn : 1 ≤ n) (l Bs lo : Nat) (Fp : Nat → Prop) (s : Value) (b : Bm) (J Jx : List (Int × Int) → World → Prop)
    (hJ : ∀ pre W W', J pre W → Nw W W' → J pre W') (hFB : ¬ Fp Bs) (hFl : ∀ k, k < lo → ¬ Fp k)
    (hY : ∀ pre x W, J pre W → pre.length < b.2.2.length → YieldAt Fence.wide (n - 1) Tryd.prog l #[.agg #[.int .i64 x.1, .int .i64 x.2]] W fun e W' =>
      (e = .returned (.bool true) ∧ J (pre ++ [x]) W' ∧ Ch Fp W W') ∨ (e = .returned (.bool false) ∧ Jx (pre ++ [x]) W'))
    (W : World) (hBs : W.heap[Bs]? = some (.cells #[.int .i64 b.1, .int .i64 b.2.1, s] 28 (0, 0))) (hb : IsBm W lo (.agg #[.int .i64 b.1, .int .i64 b.2.1, s]) b) (h0 : J [] W) :
    CallsIn Fence.wide n Tryd.prog 49 #[.func (.yield l) #[] #[], .pointer (some ⟨Bs, 0, none⟩)] W fun e W' => (∃ v, e = .returned v) ∧
      ((∃ ys, ys = dotsB b ∧ J ys W') ∨ (∃ pre, True ∧ Jx pre W')) := by
  have HB := Lib.hid hb
  have HJ := Lib.hid hJ
  have HY := Lib.hid hY
  have HBX := Lib.hid hBs
  have HFl := Lib.hid hFl
  have hro : (Fence.wide).round = none := rfl
  have hfc : (Fence.wide).fn 21 := trivial
  have k0 : W.cell? ⟨Bs, 0, none⟩ = some (.int .i64 b.1) := by rw [cell_of hBs]; rfl
  have k1 : W.cell? ⟨Bs, 1, none⟩ = some (.int .i64 b.2.1) := by rw [cell_of hBs]; rfl
  have k2 : W.cell? ⟨Bs, 2, none⟩ = some s := by rw [cell_of hBs]; rfl
  obtain ⟨s', e, ⟨A, cap, rfl, ⟨hlc, hl⟩, hel⟩, hw, hh⟩ := hb
  simp at e
  subst e
  have HEL := Lib.hid hel
  clear hJ hY hBs hFl hel
  generalize hbw : b.1 = bw at *
  generalize hbh : b.2.1 = bh at *
  generalize hbl : b.2.2 = L at *
  have HBW := Lib.hid hbw
  have HBH := Lib.hid hbh
  have HBL := Lib.hid hbl
  clear hbw hbh hbl
  unfold wfI at hw hh
  refine callsIn_of_wp Tryd.func49 rfl trivial ?_ hro
  simp only [Tryd.ntmps49, List.size_toArray, List.length_cons, List.length_nil, Nat.reduceAdd, Nat.reduceSub, Array.replicate_succ, Array.replicate_zero, List.push_toArray, List.append_toArray, List.nil_append, List.cons_append]
  by_cases hE : bmE b = 0
  · have HE := Lib.hid hE
    obtain ⟨e1, e2, e3⟩ := bmE_ok hE
    rw [HBW.out] at e1 e3
    rw [HBH.out] at e2 e3
    rw [HBL.out] at e3
    obtain ⟨e11, e12⟩ := e1
    obtain ⟨e21, e22⟩ := e2
    have E3 := Lib.hid e3
    have hl10 : L.length ≤ 10000 := by
      have := (mul96 (a := bw) (b := bh) ⟨e11, by omega⟩ ⟨e21, by omega⟩).2
      omega
    clear hE e3
    gi_wp2_with (gi_at_call 21; refine callsIn_wide.2 (bmCheck_ok lo _ b _ _ HB.out HE.out ?_); intro w1 n1; (have N1 := Lib.hid n1); (have k0 := n1.cell k0 id); (have k1 := n1.cell k1 id); (have k2 := n1.cell k2 id); (have HJ1 := Lib.hid (HJ.out _ _ _ h0 n1)); clear n1 h0)
    clear k0 k1
    gi_loopw [3, 4, 11] (fun _ _ s11 wr => ∃ (k : Nat), s11 = .int .i64 k ∧ k ≤ L.length ∧ Hid (J (dotsTo b k) wr) ∧ Hid (Ch Fp W wr)) (fun _ _ s11 _ => L.length - (intOf s11).toNat)
    case atStart => exact ⟨0, rfl, Nat.zero_le _, HJ1, Lib.hid (N1.out.mono (fun _ _ h => h.elim))⟩
    case round =>
      obtain ⟨k, rfl, hk, HJS, HC⟩ := hrel
      have i0 : (0 : Int) ≤ (k : Int) := by omega
      by_cases hlt : k < L.length
      · have i1 : (k : Int) < (L.length : Int) := by omega
        obtain ⟨d, hd⟩ : ∃ d, L[k]? = some d := ⟨_, List.getElem?_eq_getElem hlt⟩
        obtain ⟨pk, po, hpk, rfl, hcell⟩ := HEL.out k d hd
        have hcell := HC.out.cell hcell (HFl.out _ hpk)
        have q0 : wr.cell? ⟨Bs, 0, none⟩ = some (.int .i64 bw) := HC.out.cell (by rw [cell_of HBX.out]; rfl) hFB
        have hstep : dotsTo b (k + 1) = if d = true then dotsTo b k ++ [((k : Int) % bw, (k : Int) / bw)] else dotsTo b k := by
          show (if (b.2.2[k]?).getD false = true then _ else _) = _
          rw [HBL.out, hd, HBW.out]
          rfl
        have HST := Lib.hid hstep
        have hlen := dotsTo_len b k
        have wpos : 0 < bw := grid_pos (k := (k : Int)) (W := bw) (H := bh) i0 (by have := E3.out; omega) e11
        have wz : ¬ bw = 0 := by omega
        have m0 : (k : Int).tmod bw = (k : Int) % bw := Int.tmod_eq_emod_of_nonneg i0
        have m1 : (k : Int).tdiv bw = (k : Int) / bw := Int.tdiv_eq_ediv_of_nonneg i0
        have g0 := Int.emod_nonneg (k : Int) wz
        have g1 := Int.emod_lt_of_pos (k : Int) wpos
        have g2 := Int.ediv_nonneg i0 e11
        have g3 : (k : Int) / bw ≤ (k : Int) := Int.ediv_le_self _ i0
        have ew : IntKind.i64.wrap ((k : Int) / bw) = (k : Int) / bw := by rw [IntKind.wrap_i64]; omega
        clear hd hstep
        cases d with
        | true =>
          gi_wp2
          have hj1 : J (dotsTo b k) wr.drew := HJ.out _ _ _ HJS.out ((Ch.refl _ _).drew)
          obtain ⟨fn, tmps, assign, body, hy, hR⟩ := HY.out (dotsTo b k) ((k : Int) % bw, (k : Int) / bw) wr.drew hj1 (by omega)
          dsimp only at hy
          have hR2 := hR.mono (R' := fun e W' => ∃ bb, e = .returned (.bool bb) ∧ Hid ((bb = true ∧ J (dotsTo b k ++ [((k : Int) % bw, (k : Int) / bw)]) W' ∧ Ch Fp wr.drew W') ∨ (bb = false ∧ Jx (dotsTo b k ++ [((k : Int) % bw, (k : Int) / bw)]) W'))) (by
            rintro e W3 (⟨rfl, h1, h2⟩ | ⟨rfl, h1⟩)
            · exact ⟨true, rfl, Lib.hid (.inl ⟨rfl, h1, h2⟩)⟩
            · exact ⟨false, rfl, Lib.hid (.inr ⟨rfl, h1⟩)⟩)
          clear hR
          have hmo : Tryd.prog.follows .mixedOrders = true := by kernel_rfl
          gi_region_with_o (refine hR2.mono ?_; rintro e W3 ⟨bb, rfl, hb3⟩)
          all_goals
            have hb4 := hb3.out
            clear hb3
            cases bb with
            | true =>
              obtain ⟨-, hJ3, hk3⟩ | ⟨h, -⟩ := hb4
              · gi_wp2
                refine ⟨⟨k + 1, by go_num, by omega, Lib.hid (by rw [HST.out]; simpa using hJ3), Lib.hid (HC.out.trans (hk3.undrew))⟩, ?_⟩
                simp [intOf]; omega
              · cases h
            | false =>
              obtain ⟨h, -⟩ | ⟨-, hJx3⟩ := hb4
              · cases h
              · gi_wp2
                refine bodyPost_ret (results_none rfl _ _ _) rfl ?_
                first | exact ⟨⟨_, rfl⟩, .inr ⟨_, trivial, hJx3⟩⟩ | exact ⟨⟨_, rfl⟩, .inr ⟨_, hJx3⟩⟩
        | false =>
          gi_wp2
          have hmo : Tryd.prog.follows .mixedOrders = true := by kernel_rfl
          refine wpIn_region_any hmo ?_
          try (change wpAnyIn _ _ _ _ _ _ _ _ _ (World.drew _))
          first | (refine wpAnyIn_take (i := 0) (v := ?_) rfl rfl (by kernel_rfl) (by kernel_rfl) (by kernel_rfl) (fun _ _ _ h => h) ⟨Or.inl ⟨by rfl, ?hy⟩, fun _ => rfl⟩ ?_; case hy => (intro w; go_simp; (try with_reducible rfl))) | (refine wpAnyIn_take (i := 0) (v := _) rfl rfl (by kernel_rfl) (by kernel_rfl) (by kernel_rfl) (fun _ _ _ h => h) ⟨Or.inr ⟨by rfl, rfl⟩, fun _ => rfl⟩ ?_)
          try simp only [Act.put, List.getElem_toArray, List.getElem_cons_succ, List.getElem_cons_zero, List.setIfInBounds_toArray, List.set_cons_zero, List.set_cons_succ]
          first | (refine wpAnyIn_take (i := 1) (v := ?_) rfl rfl (by kernel_rfl) (by kernel_rfl) (by kernel_rfl) (fun _ _ _ h => h) ⟨Or.inl ⟨by rfl, ?hy⟩, fun _ => rfl⟩ ?_; case hy => (intro w; go_simp; (try with_reducible rfl))) | (refine wpAnyIn_take (i := 1) (v := _) rfl rfl (by kernel_rfl) (by kernel_rfl) (by kernel_rfl) (fun _ _ _ h => h) ⟨Or.inr ⟨by rfl, rfl⟩, fun _ => rfl⟩ ?_)
          try simp only [Act.put, List.getElem_toArray, List.getElem_cons_succ, List.getElem_cons_zero, List.setIfInBounds_toArray, List.set_cons_zero, List.set_cons_succ]
          first | (refine wpAnyIn_take (i := 2) (v := ?_) rfl rfl (by kernel_rfl) (by kernel_rfl) (by kernel_rfl) (fun _ _ _ h => h) ⟨Or.inl ⟨by rfl, ?hy⟩, fun _ => rfl⟩ ?_; case hy => (intro w; go_simp; (try with_reducible rfl))) | (refine wpAnyIn_take (i := 2) (v := _) rfl rfl (by kernel_rfl) (by kernel_rfl) (by kernel_rfl) (fun _ _ _ h => h) ⟨Or.inr ⟨by rfl, rfl⟩, fun _ => rfl⟩ ?_)
          try simp only [Act.put, List.getElem_toArray, List.getElem_cons_succ, List.getElem_cons_zero, List.setIfInBounds_toArray, List.set_cons_zero, List.set_cons_succ]
          first | (refine wpAnyIn_take (i := 3) (v := ?_) rfl rfl (by kernel_rfl) (by kernel_rfl) (by kernel_rfl) (fun _ _ _ h => h) ⟨Or.inl ⟨by rfl, ?hy⟩, fun _ => rfl⟩ ?_; case hy => (intro w; go_simp; (try with_reducible rfl))) | (refine wpAnyIn_take (i := 3) (v := _) rfl rfl (by kernel_rfl) (by kernel_rfl) (by kernel_rfl) (fun _ _ _ h => h) ⟨Or.inr ⟨by rfl, rfl⟩, fun _ => rfl⟩ ?_)
          try simp only [Act.put, List.getElem_toArray, List.getElem_cons_succ, List.getElem_cons_zero, List.setIfInBounds_toArray, List.set_cons_zero, List.set_cons_succ]
          first | (refine wpAnyIn_take (i := 4) (v := ?_) rfl rfl (by kernel_rfl) (by kernel_rfl) (by kernel_rfl) (fun _ _ _ h => h) ⟨Or.inl ⟨by rfl, ?hy⟩, fun _ => rfl⟩ ?_; case hy => (intro w; go_simp; (try with_reducible rfl))) | (refine wpAnyIn_take (i := 4) (v := _) rfl rfl (by kernel_rfl) (by kernel_rfl) (by kernel_rfl) (fun _ _ _ h => h) ⟨Or.inr ⟨by rfl, rfl⟩, fun _ => rfl⟩ ?_)
          try simp only [Act.put, List.getElem_toArray, List.getElem_cons_succ, List.getElem_cons_zero, List.setIfInBounds_toArray, List.set_cons_zero, List.set_cons_succ]
          first | (refine wpAnyIn_take (i := 5) (v := ?_) rfl rfl (by kernel_rfl) (by kernel_rfl) (by kernel_rfl) (fun _ _ _ h => h) ⟨Or.inl ⟨by rfl, ?hy⟩, fun _ => rfl⟩ ?_; case hy => (intro w; go_simp; (try with_reducible rfl))) | (refine wpAnyIn_take (i := 5) (v := _) rfl rfl (by kernel_rfl) (by kernel_rfl) (by kernel_rfl) (fun _ _ _ h => h) ⟨Or.inr ⟨by rfl, rfl⟩, fun _ => rfl⟩ ?_)
          try simp only [Act.put, List.getElem_toArray, List.getElem_cons_succ, List.getElem_cons_zero, List.setIfInBounds_toArray, List.set_cons_zero, List.set_cons_succ]
          first | (refine wpAnyIn_take (i := 6) (v := ?_) rfl rfl (by kernel_rfl) (by kernel_rfl) (by kernel_rfl) (fun _ _ _ h => h) ⟨Or.inl ⟨by rfl, ?hy⟩, fun _ => rfl⟩ ?_; case hy => (intro w; go_simp; (try with_reducible rfl))) | (refine wpAnyIn_take (i := 6) (v := _) rfl rfl (by kernel_rfl) (by kernel_rfl) (by kernel_rfl) (fun _ _ _ h => h) ⟨Or.inr ⟨by rfl, rfl⟩, fun _ => rfl⟩ ?_)
          try simp only [Act.put, List.getElem_toArray, List.getElem_cons_succ, List.getElem_cons_zero, List.setIfInBounds_toArray, List.set_cons_zero, List.set_cons_succ]
          first | (refine wpAnyIn_take (i := 7) (v := ?_) rfl rfl (by kernel_rfl) (by kernel_rfl) (by kernel_rfl) (fun _ _ _ h => h) ⟨Or.inl ⟨by rfl, ?hy⟩, fun _ => rfl⟩ ?_; case hy => (intro w; go_simp; (try with_reducible rfl))) | (refine wpAnyIn_take (i := 7) (v := _) rfl rfl (by kernel_rfl) (by kernel_rfl) (by kernel_rfl) (fun _ _ _ h => h) ⟨Or.inr ⟨by rfl, rfl⟩, fun _ => rfl⟩ ?_)
          try simp only [Act.put, List.getElem_toArray, List.getElem_cons_succ, List.getElem_cons_zero, List.setIfInBounds_toArray, List.set_cons_zero, List.set_cons_succ]
          first | (refine wpAnyIn_take (i := 8) (v := ?_) rfl rfl (by kernel_rfl) (by kernel_rfl) (by kernel_rfl) (fun _ _ _ h => h) ⟨Or.inl ⟨by rfl, ?hy⟩, fun _ => rfl⟩ ?_; case hy => (intro w; go_simp; (try with_reducible rfl))) | (refine wpAnyIn_take (i := 8) (v := _) rfl rfl (by kernel_rfl) (by kernel_rfl) (by kernel_rfl) (fun _ _ _ h => h) ⟨Or.inr ⟨by rfl, rfl⟩, fun _ => rfl⟩ ?_)
          try simp only [Act.put, List.getElem_toArray, List.getElem_cons_succ, List.getElem_cons_zero, List.setIfInBounds_toArray, List.set_cons_zero, List.set_cons_succ]
          first | (refine wpAnyIn_take (i := 9) (v := ?_) rfl rfl (by kernel_rfl) (by kernel_rfl) (by kernel_rfl) (fun _ _ _ h => h) ⟨Or.inl ⟨by rfl, ?hy⟩, fun _ => rfl⟩ ?_; case hy => (intro w; go_simp; (try with_reducible rfl))) | (refine wpAnyIn_take (i := 9) (v := _) rfl rfl (by kernel_rfl) (by kernel_rfl) (by kernel_rfl) (fun _ _ _ h => h) ⟨Or.inr ⟨by rfl, rfl⟩, fun _ => rfl⟩ ?_)
          try simp only [Act.put, List.getElem_toArray, List.getElem_cons_succ, List.getElem_cons_zero, List.setIfInBounds_toArray, List.set_cons_zero, List.set_cons_succ]
          first | (refine wpAnyIn_take (i := 10) (v := ?_) rfl rfl (by kernel_rfl) (by kernel_rfl) (by kernel_rfl) (fun _ _ _ h => h) ⟨Or.inl ⟨by rfl, ?hy⟩, fun _ => rfl⟩ ?_; case hy => (intro w; go_simp; (try with_reducible rfl))) | (refine wpAnyIn_take (i := 10) (v := _) rfl rfl (by kernel_rfl) (by kernel_rfl) (by kernel_rfl) (fun _ _ _ h => h) ⟨Or.inr ⟨by rfl, rfl⟩, fun _ => rfl⟩ ?_)
          try simp only [Act.put, List.getElem_toArray, List.getElem_cons_succ, List.getElem_cons_zero, List.setIfInBounds_toArray, List.set_cons_zero, List.set_cons_succ]
          first | (refine wpAnyIn_take (i := 11) (v := ?_) rfl rfl (by kernel_rfl) (by kernel_rfl) (by kernel_rfl) (fun _ _ _ h => h) ⟨Or.inl ⟨by rfl, ?hy⟩, fun _ => rfl⟩ ?_; case hy => (intro w; go_simp; (try with_reducible rfl))) | (refine wpAnyIn_take (i := 11) (v := _) rfl rfl (by kernel_rfl) (by kernel_rfl) (by kernel_rfl) (fun _ _ _ h => h) ⟨Or.inr ⟨by rfl, rfl⟩, fun _ => rfl⟩ ?_)
          try simp only [Act.put, List.getElem_toArray, List.getElem_cons_succ, List.getElem_cons_zero, List.setIfInBounds_toArray, List.set_cons_zero, List.set_cons_succ]
          first | (refine wpAnyIn_take (i := 12) (v := ?_) rfl rfl (by kernel_rfl) (by kernel_rfl) (by kernel_rfl) (fun _ _ _ h => h) ⟨Or.inl ⟨by rfl, ?hy⟩, fun _ => rfl⟩ ?_; case hy => (intro w; go_simp; (try with_reducible rfl))) | (refine wpAnyIn_take (i := 12) (v := _) rfl rfl (by kernel_rfl) (by kernel_rfl) (by kernel_rfl) (fun _ _ _ h => h) ⟨Or.inr ⟨by rfl, rfl⟩, fun _ => rfl⟩ ?_)
          try simp only [Act.put, List.getElem_toArray, List.getElem_cons_succ, List.getElem_cons_zero, List.setIfInBounds_toArray, List.set_cons_zero, List.set_cons_succ]
          first | (refine wpAnyIn_take (i := 13) (v := ?_) rfl rfl (by kernel_rfl) (by kernel_rfl) (by kernel_rfl) (fun _ _ _ h => h) ⟨Or.inl ⟨by rfl, ?hy⟩, fun _ => rfl⟩ ?_; case hy => (intro w; go_simp; (try with_reducible rfl))) | (refine wpAnyIn_take (i := 13) (v := _) rfl rfl (by kernel_rfl) (by kernel_rfl) (by kernel_rfl) (fun _ _ _ h => h) ⟨Or.inr ⟨by rfl, rfl⟩, fun _ => rfl⟩ ?_)
          try simp only [Act.put, List.getElem_toArray, List.getElem_cons_succ, List.getElem_cons_zero, List.setIfInBounds_toArray, List.set_cons_zero, List.set_cons_succ]
          first | (refine wpAnyIn_take (i := 14) (v := ?_) rfl rfl (by kernel_rfl) (by kernel_rfl) (by kernel_rfl) (fun _ _ _ h => h) ⟨Or.inl ⟨by rfl, ?hy⟩, fun _ => rfl⟩ ?_; case hy => (intro w; go_simp; (try with_reducible rfl))) | (refine wpAnyIn_take (i := 14) (v := _) rfl rfl (by kernel_rfl) (by kernel_rfl) (by kernel_rfl) (fun _ _ _ h => h) ⟨Or.inr ⟨by rfl, rfl⟩, fun _ => rfl⟩ ?_)
          try simp only [Act.put, List.getElem_toArray, List.getElem_cons_succ, List.getElem_cons_zero, List.setIfInBounds_toArray, List.set_cons_zero, List.set_cons_succ]
          refine wpAnyIn_done (by kernel_rfl) ?_ _
          gi_wp2
          refine ⟨⟨k + 1, by go_num, by omega, Lib.hid (by rw [HST.out]; simpa using HJ.out _ _ _ HJS.out ((Ch.refl _ _).drew)), Lib.hid HC.out.drew⟩, ?_⟩
          simp [intOf]; omega
      · have i1 : ¬ (k : Int) < (L.length : Int) := by omega
        gi_wp2
        go_end0
        refine ⟨⟨_, rfl⟩, .inl ?_⟩
        have hd : dotsB b = dotsTo b k := by unfold dotsB; rw [if_pos HE.out, HBL.out, show L.length = k by omega]
        first | exact ⟨_, hd.symm, HJS.out⟩ | (rw [hd]; exact HJS.out)
  · have HE := Lib.hid hE
    have t0 : (bmE b != 0) = true := by simp [hE]
    gi_wp2_with (gi_at_call 21; refine callsIn_wide.2 (bmCheck_any lo _ b _ _ HB.out ?_); intro w1 n1; (have N1 := Lib.hid n1); (have HJ1 := Lib.hid (HJ.out _ _ _ h0 n1)); clear n1 h0)
    refine bodyPost_ret (results_none rfl _ _ _) rfl ?_
    have hd : dotsB b = [] := by unfold dotsB; rw [if_neg HE.out]
    refine ⟨⟨_, rfl⟩, .inl ?_⟩
    first | exact ⟨_, hd.symm, HJ1.out⟩ | (rw [hd]; exact HJ1.out)

theorem dots_in (n : Nat) (a b : Int) (s : Option Addr) (len cap : Nat) (w : World) :
    CallsIn Fence.wide n Tryd.prog 36 #[.agg #[.int .i64 a, .int .i64 b, .slice s len cap]] w fun e w' => e = .returned (.func (.func 49) #[] #[.pointer (some ⟨w.heap.size, 0, none⟩)]) ∧ w' = w.alloc (.cells #[.int .i64 a, .int .i64 b, .slice s len cap] 28) := by
  refine callsIn_of_wp Tryd.func36 rfl trivial ?_ rfl
  simp only [Tryd.ntmps36, List.size_toArray, List.length_cons, List.length_nil, Nat.reduceAdd, Nat.reduceSub, Array.replicate_succ, Array.replicate_zero, List.push_toArray, List.append_toArray, List.nil_append, List.cons_append]
  gi_wp2
  go_ret
  exact ⟨rfl, rfl⟩

abbrev FpD (nb M : Nat) (k : Nat) : Prop := k = nb ∨ M ≤ k
theorem ch_putObj {nb M : Nat} (W : World) (l : Nat) (o' : Obj) (hl : M ≤ l) : Ch (FpD nb M) W (W.putObj l o') :=
  ⟨rfl, rfl, rfl, by simp, fun k _ hf => World.putObj_heap_other (fun e => hf (Or.inr (by subst e; exact hl)))⟩
theorem dots_stops (n : Nat) (hn : 1 ≤ n) (Bs lo nb M : Nat) (s : Value) (b : Bm) (w : World) (hBs : w.heap[Bs]? = some (.cells #[.int .i64 b.1, .int .i64 b.2.1, s] 28 (0, 0))) (hb : IsBm w lo (.agg #[.int .i64 b.1, .int .i64 b.2.1, s]) b)
    (hlo : lo ≤ w.heap.size) (hFB : ¬ FpD nb M Bs) (hFl : ∀ k, k < lo → ¬ FpD nb M k) :
    SeqStopsK Fence.wide n Tryd.prog 49 #[.pointer (some ⟨Bs, 0, none⟩)] encD (Ch (FpD nb M)) (fun ys => ys = dotsB b) (fun _ => True) b.2.2.length w := fun l J Jx W hW hJ _ hY h0 =>
  have hc : Nw w W := ⟨hW.os, hW.tape, hW.output, hW.size, fun k hk _ => hW.block k hk⟩
  dots1_in n hn l Bs lo (FpD nb M) s b J Jx (fun pre W W' h hn => hJ pre W W' none h hn.grown (fun r e => by cases e)) hFB hFl hY W (hc.heap hBs id) (hb.kept hc (fun _ _ e => e)) h0

def cntD (b : Bm) (p : Int × Int → Bool) : Nat := ((dotsB b).filter p).length
theorem dotsB_len (b : Bm) : (dotsB b).length ≤ b.2.2.length := by
  unfold dotsB
  split
  · exact dotsTo_len b _
  · simp

set_option maxHeartbeats 4000000 in
theorem bcount_any (lo : Nat) (v : Value) (b : Bm) (g : Nat) (lb : Array Value) (p : Int × Int → Bool) (w : World) (R : Ending → World → Prop) (hb : IsBm w lo v b) (hlo : lo ≤ w.heap.size) (h63 : b.2.2.length ≤ 1000000000)
    (eg : ∀ args w, (callFunc g args).run Tryd.prog w = .ok (.enter g args) w)
    (hp : ∀ (w' : World) (x : Int × Int) (R' : Ending → World → Prop), Nw w w' → (∀ w'', Nw w' w'' → R' (.returned (.bool (p x))) w'') → Calls Tryd.prog g (#[.agg #[.int .i64 x.1, .int .i64 x.2]] ++ lb) w' R')
    (hR : ∀ w', Nw w w' → R (.returned (.int .i64 (cntD b p))) w') : Calls Tryd.prog 38 #[v, .func (.func g) #[] lb] w R := by
  have HR := Lib.hid hR
  have HP := Lib.hid hp
  have HB := Lib.hid hb
  clear hR hp
  obtain ⟨s, rfl, ⟨A, cap, rfl, -, -⟩, -, -⟩ := hb
  generalize hbw : b.1 = bw at *
  generalize hbh : b.2.1 = bh at *
  have HBW := Lib.hid hbw
  have HBH := Lib.hid hbh
  clear hbw hbh
  refine (callsIn_wide (n := 4)).1 ?_
  have hro : (Fence.wide).round = none := rfl
  have hf1 : (Fence.wide).fn 36 := trivial
  have hf2 : (Fence.wide).fn 49 := trivial
  refine callsIn_of_wp_marks Tryd.func38 rfl trivial ?_ hro
  simp only [Tryd.ntmps38, List.size_toArray, List.length_cons, List.length_nil, Nat.reduceAdd, Nat.reduceSub, Array.replicate_succ, Array.replicate_zero, List.push_toArray, List.append_toArray, List.nil_append, List.cons_append]
  gi_wp2_with (gi_at_call 36; refine (dots_in _ _ _ _ _ _ _).mono ?_; rintro e w' ⟨rfl, rfl⟩)
  obtain ⟨w0, hw0⟩ : ∃ w0 : World, w0 = ((((w.alloc (.cells #[.int .i64 bw, .int .i64 bh, .slice A b.2.2.length cap] 28)).alloc (.cells #[.func (.func g) #[] lb] 70)).alloc (.cells #[.int .i64 0] 3)).alloc (.cells #[.int .i64 bw, .int .i64 bh, .slice A b.2.2.length cap] 28)) := ⟨_, rfl⟩
  rw [← hw0]
  have HBH1 := Lib.hid (show w0.heap[w.heap.size + 1]? = some (.cells #[.func (.func g) #[] lb] 70 (0, 0)) from by rw [hw0]; exact heap_alloc_old' _ (heap_alloc_old' _ (heap_alloc_eq _ (by simp only [alloc_size]))))
  have HBN := Lib.hid (show w0.heap[w.heap.size + 2]? = some (.cells #[.int .i64 0] 3 (0, 0)) from by rw [hw0]; exact heap_alloc_old' _ (heap_alloc_eq _ (by simp only [alloc_size])))
  have HBD := Lib.hid (show w0.heap[w.heap.size + 3]? = some (.cells #[.int .i64 bw, .int .i64 bh, .slice A b.2.2.length cap] 28 (0, 0)) from by rw [hw0]; exact heap_alloc_eq _ (by simp only [alloc_size]))
  have HN0 := Lib.hid (show Nw w w0 from by rw [hw0]; exact ((((Ch.refl _ _).alloc _).alloc _).alloc _).alloc _)
  have hsz : w0.heap.size = w.heap.size + 4 := by rw [hw0]; simp only [alloc_size]
  clear hw0
  have hrng : (dotsB b).length ≤ b.2.2.length := dotsB_len b
  refine wpIn_rangeFunc_ownH hro (by omega) (gf := 49) (lb := #[.pointer (some ⟨w.heap.size + 3, 0, none⟩)]) rfl hf2 (enters_of Tryd.func49 (by kernel_rfl) rfl)
    (dots_stops 3 (by omega) (w.heap.size + 3) lo (w.heap.size + 2) (w.heap.size + 4) _ b w0 (by rw [HBW.out, HBH.out]; exact HBD.out) (by rw [HBW.out, HBH.out]; exact HB.out.kept HN0.out nof) (by omega) (by rintro (h | h) <;> omega) (fun k hk => by rintro (h | h) <;> omega))
    (fun h k => h.trans k) (fun W l o o' hl _ _ _ => ch_putObj W l o' (by omega)) (Below.refl _ _) (fun _ => rfl)
    (fun pre W => W.heap[w.heap.size + 2]? = some (.cells #[.int .i64 ((pre.filter p).length : Int)] 3 (0, 0)) ∧ Ch (FpD (w.heap.size + 2) (w.heap.size + 4)) w0 W)
    (fun _ _ _ => False) ?own (fun _ _ _ _ _ h _ _ => h) ⟨HBN.out, Ch.refl _ _⟩
    (fun x a' W => ∃ (db : Nat) (d8 : Value), w.heap.size + 4 ≤ db ∧ W.heap[db]? = some (.cells #[.int .i64 x.1, .int .i64 x.2] 67 (0, 0)) ∧ a' = { tmps := #[.agg #[.int .i64 bw, .int .i64 bh, .slice A b.2.2.length cap], .func (.func g) #[] lb, .pointer (some ⟨w.heap.size, 0, none⟩), .pointer (some ⟨w.heap.size + 1, 0, none⟩), .int .i64 0, .pointer (some ⟨w.heap.size + 2, 0, none⟩), .pointer (some ⟨db, 0, none⟩), .agg #[.int .i64 bw, .int .i64 bh, .slice A b.2.2.length cap], .func (.func 49) #[] #[.pointer (some ⟨w.heap.size + 3, 0, none⟩)], .agg #[.int .i64 x.1, .int .i64 x.2], undef, undef, undef, undef, undef, undef], defers := [] })
    ?axo ?assign ?body ?done ?stop
  case own =>
    intro pre W W' row h hg hr
    refine ⟨?_, h.2.grown hg (fun k e hk => by have := (hr k e).1; omega)⟩
    rw [hg.block _ (lt_of_heap h.1) (fun e => by have := (hr _ e.symm).1; omega)]
    exact h.1
  case axo =>
    intro x a' u W W' row h hg hr
    obtain ⟨db, d8, h1, h2, h3⟩ := h
    refine ⟨db, d8, h1, ?_, h3⟩
    rw [hg.block _ (lt_of_heap h2) (fun e => by
      obtain ⟨-, o, ho, hc⟩ := hr _ e.symm
      rw [h2] at ho
      cases ho
      cases hc)]
    exact h2
  case assign =>
    intro l pre x W K hI hK
    have htm : ((#[9].zip (encD x)).foldl (fun t (p, v) => t.setIfInBounds p v) #[Value.agg #[.int .i64 bw, .int .i64 bh, .slice A b.2.2.length cap], .func (.func g) #[] lb, .pointer (some ⟨w.heap.size, 0, none⟩), .pointer (some ⟨w.heap.size + 1, 0, none⟩), .int .i64 0, .pointer (some ⟨w.heap.size + 1 + 1, 0, none⟩), undef, .agg #[.int .i64 bw, .int .i64 bh, .slice A b.2.2.length cap], .func (.func 49) #[] #[.pointer (some ⟨w.heap.size + 1 + 1 + 1, 0, none⟩)], undef, undef, undef, undef, undef, undef, undef]) = #[Value.agg #[.int .i64 bw, .int .i64 bh, .slice A b.2.2.length cap], .func (.func g) #[] lb, .pointer (some ⟨w.heap.size, 0, none⟩), .pointer (some ⟨w.heap.size + 1, 0, none⟩), .int .i64 0, .pointer (some ⟨w.heap.size + 1 + 1, 0, none⟩), undef, .agg #[.int .i64 bw, .int .i64 bh, .slice A b.2.2.length cap], .func (.func 49) #[] #[.pointer (some ⟨w.heap.size + 1 + 1 + 1, 0, none⟩)], .agg #[.int .i64 x.1, .int .i64 x.2], undef, undef, undef, undef, undef, undef] := by simp [encD]
    rw [htm]
    clear htm
    gi_wp2
    refine hK _ _ ((KeepsOthers.alloc W _).from _) ((Ch.refl _ _).alloc _) ⟨heap_alloc_old' _ hI.1, hI.2.alloc _⟩ ⟨W.heap.size, undef, ?_, heap_alloc_eq _ rfl, rfl⟩
    have := hI.2.size
    omega
  case body =>
    rintro l pre x a' W hl hlp ⟨hc, hch⟩ ⟨db, d8, hdb, hbx, rfl⟩ hlt
    have hb1 := hch.heap HBH1.out (by rintro (h | h) <;> omega)
    have k1 : W.cell? ⟨w.heap.size + 1, 0, none⟩ = some (.func (.func g) #[] lb) := by rw [cell_of hb1]; rfl
    have k2 : W.cell? ⟨db, 0, none⟩ = some (.int .i64 x.1) := by rw [cell_of hbx]; rfl
    have k3 : W.cell? ⟨db, 1, none⟩ = some (.int .i64 x.2) := by rw [cell_of hbx]; rfl
    have hnw : Nw w W := HN0.out.trans' hch (fun j hj e => by rcases e with h | h <;> omega)
    gi_wp2_with (fail)
    have hfl : (pre ++ [x]).filter p = if p x = true then pre.filter p ++ [x] else pre.filter p := by
      rw [List.filter_append]
      by_cases h : p x = true <;> simp [h]
    have HFL := Lib.hid hfl
    have HC := Lib.hid hc
    have HCH := Lib.hid hch
    have hpl : (pre.filter p).length ≤ pre.length := List.length_filter_le _ _
    clear hc hch hfl k1 k2 k3 hb1
    refine ⟨trivial, CallsIn.inRound l ((callsIn_wide (n := 1)).2 (HP.out W x _ hnw ?_))⟩
    intro W2 n2
    have HC := Lib.hid (n2.heap HC.out id)
    have k5 : W2.cell? ⟨w.heap.size + 2, 0, none⟩ = some (.int .i64 ((pre.filter p).length : Int)) := by rw [cell_of HC.out]; rfl
    have f5 : W2.frozen? ⟨w.heap.size + 2, 0, none⟩ = false := frozen_of HC.out
    have hw6 : IntKind.i64.wrap (((pre.filter p).length : Int) + 1) = ((pre.filter p).length : Int) + 1 := by rw [IntKind.wrap_i64]; omega
    have ko : KeepsOthers W W2 := ⟨n2.size, fun k o hk _ => n2.heap hk id⟩
    cases hpx : p x with
    | true =>
      gi_wp2
      refine ⟨(ko.trans (KeepsOthers.setCell _ _ _)).from _, (n2.mono (fun _ _ h => h.elim)).setb (fun _ => Or.inl rfl) _, ?_, (HCH.out.trans (n2.mono (fun _ _ h => h.elim))).setb (fun _ => Or.inl rfl) _⟩
      rw [HFL.out, if_pos hpx, List.length_append]
      exact heap_setCell_eq _ HC.out
    | false =>
      gi_wp2
      refine ⟨ko.from _, n2.mono (fun _ _ h => h.elim), ?_, HCH.out.trans (n2.mono (fun _ _ h => h.elim))⟩
      rw [HFL.out, if_neg (by rw [hpx]; simp)]
      exact HC.out
  case done =>
    rintro D ys W hD rfl ⟨hc, hch⟩ hK
    have k5 : W.cell? ⟨w.heap.size + 1 + 1, 0, none⟩ = some (.int .i64 (((dotsB b).filter p).length : Int)) := by rw [cell_of hc]; rfl
    have HCH := Lib.hid hch
    clear hch hc
    gi_wp2
    refine ⟨by simp, .inl ⟨_, _, rfl, run_takeDeferred hK, ?_⟩⟩
    refine ⟨_, results_tmp rfl _ _ _, ?_⟩
    show R (.returned (.int .i64 (cntD b p : Nat))) _
    refine HR.out _ ?_
    exact (HN0.out.trans' HCH.out (fun j hj e => by rcases e with h | h <;> omega)).trans' (ch_putObj (nb := w.heap.size + 2) (M := w.heap.size + 4) W D _ (by omega)) (fun j hj e => by rcases e with h | h <;> omega)
  case stop =>
    rintro D c pre W _ _ h _
    exact h.elim
end Go.Proofs.YtaafmgkjfmngjaaDoor
