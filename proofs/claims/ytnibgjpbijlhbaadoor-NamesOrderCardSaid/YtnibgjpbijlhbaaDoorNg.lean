/-
  names.ranges: the largest ranges of a string, as an iterator of two values.
-/
import Derived.Test.YtnibgjpbijlhbaaDoorNk
import Derived.RangeFuncNested
import Derived.RangeFuncBound
import Derived.RangeFuncCalls
import Derived.RangeFuncLeaves
import Derived.Shelf.Abstract
import Derived.Shelf.RegionOpen
import Derived.OwnWalkIn
import Derived.TacticsInMore
import Derived.LoopNIn
import Derived.LoopIn
namespace Go.Proofs.YtnibgjpbijlhbaaDoor
open Go.RowKit Go.Shelf
attribute [local go_sem] Oper.semAt_some
set_option linter.unusedVariables false
set_option linter.unusedSimpArgs false
set_option maxRecDepth 100000

theorem Nw.grown {w w' : World} (h : Nw w w') : w.grownBy w' none := ⟨h.os, h.tape, h.output, h.size, fun k hk _ => h.block k hk id⟩
/-- A range within n bytes. -/
abbrev Rg (n : Nat) := { x : Nat × Nat // x.1 < x.2 ∧ x.2 ≤ n }
def encR (x : Nat × Nat) : Array Value := #[.int .i64 (x.1 : Nat), .int .i64 (x.2 : Nat)]

set_option maxHeartbeats 4000000 in
theorem ranges1_in (n : Nat) (hn : 1 ≤ n) (l Bs Bg : Nat) (Fp : Nat → Prop) (s : ByteArray) (g : Nat) (goes : UInt8 → UInt8 → Bool) (J Jx : List (Rg s.size) → World → Prop)
    (eg : entersB Tryd.prog g = true) (hs : s.size ≤ 1000000)
    (hp : ∀ (w' : World) (x y : UInt8) (R' : Ending → World → Prop), (∀ w'', Nw w' w'' → R' (.returned (.bool (goes x y))) w'') → Calls Tryd.prog g #[.int .u8 (x.toNat : Nat), .int .u8 (y.toNat : Nat)] w' R')
    (hJ : ∀ pre W W', J pre W → Nw W W' → J pre W') (hFB : ¬ Fp Bs) (hFG : ¬ Fp Bg)
    (hY : ∀ pre x W, J pre W → pre.length < s.size → YieldAt Fence.wide (n - 1) Tryd.prog l (encR x.1) W fun e W' =>
      (e = .returned (.bool true) ∧ J (pre ++ [x]) W' ∧ Ch Fp W W') ∨ (e = .returned (.bool false) ∧ Jx (pre ++ [x]) W'))
    (W : World) (hBs : W.heap[Bs]? = some (.cells #[.string s] 9 (0, 0))) (hBg : W.heap[Bg]? = some (.cells #[.func (.func g) #[] #[]] 55 (0, 0))) (h0 : J [] W) :
    CallsIn Fence.wide n Tryd.prog 45 #[.func (.yield l) #[] #[], .pointer (some ⟨Bs, 0, none⟩), .pointer (some ⟨Bg, 0, none⟩)] W fun e W' => (∃ v, e = .returned v) ∧
      ((∃ ys : List (Rg s.size), ys.map Subtype.val = ranges goes s.data.toList ∧ J ys W') ∨ (∃ pre, True ∧ Jx pre W')) := by
  have HJ := Lib.hid hJ
  have HY := Lib.hid hY
  have HBX := Lib.hid hBs
  have HBG := Lib.hid hBg
  have HP := Lib.hid hp
  have HEG := Lib.hid eg
  have hro : (Fence.wide).round = none := rfl
  obtain ⟨L, hL⟩ : ∃ L, s.data.toList = L := ⟨_, rfl⟩
  have hlen : L.length = s.size := by rw [← hL]; exact ba_len s
  have HAT := Lib.hid (show ∀ (k : Nat) (h : k < s.size), s[k]'h = at0 L k from fun k h => by rw [← hL]; exact ba_at s h)
  rw [hL]
  clear hJ hY hBs hBg hp eg hL
  refine callsIn_of_wp Tryd.func45 rfl trivial ?_ hro
  simp only [Tryd.ntmps45, List.size_toArray, List.length_cons, List.length_nil, Nat.reduceAdd, Nat.reduceSub, Array.replicate_succ, Array.replicate_zero, List.push_toArray, List.append_toArray, List.nil_append, List.cons_append]
  gi_wp2
  gi_loopw [4, 5] (fun s4 s5 wr => ∃ (k : Nat) (pre : List (Rg s.size)), s5 = .int .i64 ((k : Int) + 1) ∧ k ≤ s.size ∧ s4 = .int .i64 ((rngTo goes L k).2 : Nat) ∧ Hid (pre.map Subtype.val = (rngTo goes L k).1) ∧ Hid (J pre wr) ∧ Hid (Ch Fp W wr)) (fun _ s5 _ => s.size + 1 - (intOf s5).toNat)
  case atStart => exact ⟨0, [], rfl, Nat.zero_le _, rfl, Lib.hid rfl, Lib.hid h0, Lib.hid (Ch.refl _ _)⟩
  case round =>
    clear h0
    obtain ⟨k, pre, rfl, hk, rfl, HPR, HJS, HC⟩ := hrel
    have k0 : (0 : Int) ≤ (k : Int) := by omega
    have hle := rngTo_le goes L k
    have hpl := rngTo_len goes L k
    rw [← HPR.out, List.length_map] at hpl
    obtain ⟨f, hf⟩ : ∃ f, (rngTo goes L k).2 = f := ⟨_, rfl⟩
    rw [hf] at hle ⊢
    have HF := Lib.hid hf
    clear hf
    have q0 : wr.cell? ⟨Bs, 0, none⟩ = some (.string s) := HC.out.cell (by rw [cell_of HBX.out]; rfl) hFB
    have q1 : wr.cell? ⟨Bg, 0, none⟩ = some (.func (.func g) #[] #[]) := HC.out.cell (by rw [cell_of HBG.out]; rfl) hFG
    by_cases hlt : k < s.size
    · have k1 : (k : Int) + 1 ≤ (s.size : Int) := by omega
      by_cases hlast : k + 1 < s.size
      · have k2 : (k : Int) + 1 < (s.size : Int) := by omega
        obtain ⟨x, hx⟩ : ∃ x, s[k]'hlt = x := ⟨_, rfl⟩
        obtain ⟨y, hy⟩ : ∃ y, s[k + 1]'hlast = y := ⟨_, rfl⟩
        have hx' : at0 L k = x := by rw [← HAT.out k hlt, hx]
        have hy' : at0 L (k + 1) = y := by rw [← HAT.out (k + 1) hlast, hy]
        have HXX := Lib.hid hx'
        have HYY := Lib.hid hy'
        clear hx' hy'
        have HBX2 := Lib.hid (HC.out.heap HBX.out hFB)
        have HBG2 := Lib.hid (HC.out.heap HBG.out hFG)
        have u1 : IntKind.i64.wrap ((k : Int) + 1 - 1) = (k : Int) := by rw [IntKind.wrap_i64]; omega
        have u2 : IntKind.i64.wrap (k : Int) = (k : Int) := by rw [IntKind.wrap_i64]; omega
        have hxs : s.data.toList[k]? = some x := by rw [← hx, List.getElem?_eq_getElem (by simpa using hlt)]; simp [ByteArray.getElem_eq_getElem_data]
        have hys : s.data.toList[k + 1]? = some y := by rw [← hy, List.getElem?_eq_getElem (by simpa using hlast)]; simp [ByteArray.getElem_eq_getElem_data]
        clear q0 q1 hx hy
        cases hg : goes x y with
        | true =>
          have HG := Lib.hid hg
          clear hg
          skip
          have kk0 : wr.cell? ⟨Bs, 0, none⟩ = some (.string s) := by rw [cell_of HBX2.out]; rfl
          gi_wp2
          clear kk0
          refine wpIn_wide.2 ?_
          refine wp_named ?_
          intro W1 hW
          have n : Nw wr W1 := by rw [hW]; first | exact Ch.refl _ _ | exact (Ch.refl _ _).alloc _
          replace HC := Lib.hid (HC.out.trans' n (fun _ _ e => e.elim))
          replace HJS := Lib.hid (HJ.out _ _ _ HJS.out n)
          replace HBX2 := Lib.hid (n.heap HBX2.out id)
          replace HBG2 := Lib.hid (n.heap HBG2.out id)
          clear hW n
          refine wp_region_V (F := fun w' => w'.cell? ⟨Bs, 0, none⟩ = some (.string s) ∧ w'.cell? ⟨Bg, 0, none⟩ = some (.func (.func g) #[] #[])) (opsOf Tryd.f45 4) 15 15 (by kernel_rfl) (by kernel_rfl) (by kernel_rfl) (fun w w' h n => ⟨n.cell h.1 id, n.cell h.2 id⟩) ⟨by show W1.cell? _ = _; rw [cell_of HBX2.out]; rfl, by show W1.cell? _ = _; rw [cell_of HBG2.out]; rfl⟩ (fun HOPS HCL hHeld => ?_)
          refine wpU_named ?_
          intro W2 hW
          try rw [← hW] at hHeld
          have n : Nw W1 W2 := by rw [hW]; exact (Ch.refl _ _).drew
          replace HC := Lib.hid (HC.out.trans' n (fun _ _ e => e.elim))
          replace HJS := Lib.hid (HJ.out _ _ _ HJS.out n)
          replace HBX2 := Lib.hid (n.heap HBX2.out id)
          replace HBG2 := Lib.hid (n.heap HBG2.out id)
          clear hW n
          first | (refine wpU_takeB (i := 0) (v := ?_) HOPS rfl (by kernel_rfl) (fun _ _ _ h => h) HCL (goes_read (by rfl) ?hy) ?_; case hy => (intro w hSw; (try dsimp only at hSw); go_simp; (try with_reducible rfl))) | (refine wpU_takeB (i := 0) (v := _) HOPS rfl (by kernel_rfl) (fun _ _ _ h => h) HCL (goes_not (by rfl)) ?_)
          try simp only [Act.put, List.getElem_toArray, List.getElem_cons_succ, List.getElem_cons_zero, List.setIfInBounds_toArray, List.set_cons_zero, List.set_cons_succ]
          first | (refine wpU_takeB (i := 1) (v := ?_) HOPS rfl (by kernel_rfl) (fun _ _ _ h => h) HCL (goes_read (by rfl) ?hy) ?_; case hy => (intro w hSw; (try dsimp only at hSw); go_simp; (try with_reducible rfl))) | (refine wpU_takeB (i := 1) (v := _) HOPS rfl (by kernel_rfl) (fun _ _ _ h => h) HCL (goes_not (by rfl)) ?_)
          try simp only [Act.put, List.getElem_toArray, List.getElem_cons_succ, List.getElem_cons_zero, List.setIfInBounds_toArray, List.set_cons_zero, List.set_cons_succ]
          first | (refine wpU_takeB (i := 2) (v := ?_) HOPS rfl (by kernel_rfl) (fun _ _ _ h => h) HCL (goes_read (by rfl) ?hy) ?_; case hy => (intro w hSw; (try dsimp only at hSw); go_simp; (try with_reducible rfl))) | (refine wpU_takeB (i := 2) (v := _) HOPS rfl (by kernel_rfl) (fun _ _ _ h => h) HCL (goes_not (by rfl)) ?_)
          try simp only [Act.put, List.getElem_toArray, List.getElem_cons_succ, List.getElem_cons_zero, List.setIfInBounds_toArray, List.set_cons_zero, List.set_cons_succ]
          first | (refine wpU_takeB (i := 3) (v := ?_) HOPS rfl (by kernel_rfl) (fun _ _ _ h => h) HCL (goes_read (by rfl) ?hy) ?_; case hy => (intro w hSw; (try dsimp only at hSw); go_simp; (try with_reducible rfl))) | (refine wpU_takeB (i := 3) (v := _) HOPS rfl (by kernel_rfl) (fun _ _ _ h => h) HCL (goes_not (by rfl)) ?_)
          try simp only [Act.put, List.getElem_toArray, List.getElem_cons_succ, List.getElem_cons_zero, List.setIfInBounds_toArray, List.set_cons_zero, List.set_cons_succ]
          first | (refine wpU_takeB (i := 4) (v := ?_) HOPS rfl (by kernel_rfl) (fun _ _ _ h => h) HCL (goes_read (by rfl) ?hy) ?_; case hy => (intro w hSw; (try dsimp only at hSw); go_simp; (try with_reducible rfl))) | (refine wpU_takeB (i := 4) (v := _) HOPS rfl (by kernel_rfl) (fun _ _ _ h => h) HCL (goes_not (by rfl)) ?_)
          try simp only [Act.put, List.getElem_toArray, List.getElem_cons_succ, List.getElem_cons_zero, List.setIfInBounds_toArray, List.set_cons_zero, List.set_cons_succ]
          first | (refine wpU_takeB (i := 5) (v := ?_) HOPS rfl (by kernel_rfl) (fun _ _ _ h => h) HCL (goes_read (by rfl) ?hy) ?_; case hy => (intro w hSw; (try dsimp only at hSw); go_simp; (try with_reducible rfl))) | (refine wpU_takeB (i := 5) (v := _) HOPS rfl (by kernel_rfl) (fun _ _ _ h => h) HCL (goes_not (by rfl)) ?_)
          try simp only [Act.put, List.getElem_toArray, List.getElem_cons_succ, List.getElem_cons_zero, List.setIfInBounds_toArray, List.set_cons_zero, List.set_cons_succ]
          first | (refine wpU_takeB (i := 6) (v := ?_) HOPS rfl (by kernel_rfl) (fun _ _ _ h => h) HCL (goes_read (by rfl) ?hy) ?_; case hy => (intro w hSw; (try dsimp only at hSw); go_simp; (try with_reducible rfl))) | (refine wpU_takeB (i := 6) (v := _) HOPS rfl (by kernel_rfl) (fun _ _ _ h => h) HCL (goes_not (by rfl)) ?_)
          try simp only [Act.put, List.getElem_toArray, List.getElem_cons_succ, List.getElem_cons_zero, List.setIfInBounds_toArray, List.set_cons_zero, List.set_cons_succ]
          first | (refine wpU_takeB (i := 7) (v := ?_) HOPS rfl (by kernel_rfl) (fun _ _ _ h => h) HCL (goes_read (by rfl) ?hy) ?_; case hy => (intro w hSw; (try dsimp only at hSw); go_simp; (try with_reducible rfl))) | (refine wpU_takeB (i := 7) (v := _) HOPS rfl (by kernel_rfl) (fun _ _ _ h => h) HCL (goes_not (by rfl)) ?_)
          try simp only [Act.put, List.getElem_toArray, List.getElem_cons_succ, List.getElem_cons_zero, List.setIfInBounds_toArray, List.set_cons_zero, List.set_cons_succ]
          first | (refine wpU_takeB (i := 8) (v := ?_) HOPS rfl (by kernel_rfl) (fun _ _ _ h => h) HCL (goes_read (by rfl) ?hy) ?_; case hy => (intro w hSw; (try dsimp only at hSw); go_simp; (try with_reducible rfl))) | (refine wpU_takeB (i := 8) (v := _) HOPS rfl (by kernel_rfl) (fun _ _ _ h => h) HCL (goes_not (by rfl)) ?_)
          try simp only [Act.put, List.getElem_toArray, List.getElem_cons_succ, List.getElem_cons_zero, List.setIfInBounds_toArray, List.set_cons_zero, List.set_cons_succ]
          first | (refine wpU_takeB (i := 10) (v := ?_) HOPS rfl (by kernel_rfl) (fun _ _ _ h => h) HCL (goes_read (by rfl) ?hy) ?_; case hy => (intro w hSw; (try dsimp only at hSw); go_simp; (try with_reducible rfl))) | (refine wpU_takeB (i := 10) (v := _) HOPS rfl (by kernel_rfl) (fun _ _ _ h => h) HCL (goes_not (by rfl)) ?_)
          try simp only [Act.put, List.getElem_toArray, List.getElem_cons_succ, List.getElem_cons_zero, List.setIfInBounds_toArray, List.set_cons_zero, List.set_cons_succ]
          first | (refine wpU_takeB (i := 11) (v := ?_) HOPS rfl (by kernel_rfl) (fun _ _ _ h => h) HCL (goes_read (by rfl) ?hy) ?_; case hy => (intro w hSw; (try dsimp only at hSw); go_simp; (try with_reducible rfl))) | (refine wpU_takeB (i := 11) (v := _) HOPS rfl (by kernel_rfl) (fun _ _ _ h => h) HCL (goes_not (by rfl)) ?_)
          try simp only [Act.put, List.getElem_toArray, List.getElem_cons_succ, List.getElem_cons_zero, List.setIfInBounds_toArray, List.set_cons_zero, List.set_cons_succ]
          refine wpU_takeB (i := 9) HOPS rfl (by kernel_rfl) (fun _ _ _ h => h) HCL (goes_idx _ _ _ s k x _ (by rfl) rfl Tryd.underlying9 (by rfl) (by rfl) hxs rfl) ?_
          try simp only [Act.put, List.getElem_toArray, List.getElem_cons_succ, List.getElem_cons_zero, List.setIfInBounds_toArray, List.set_cons_zero, List.set_cons_succ]
          refine wpU_takeB (i := 12) HOPS rfl (by kernel_rfl) (fun _ _ _ h => h) HCL (goes_idx _ _ _ s (k + 1) y _ (by rfl) rfl Tryd.underlying9 (by rfl) (by rfl) hys rfl) ?_
          try simp only [Act.put, List.getElem_toArray, List.getElem_cons_succ, List.getElem_cons_zero, List.setIfInBounds_toArray, List.set_cons_zero, List.set_cons_succ]
          refine wpU_takeB (i := 13) HOPS rfl (by kernel_rfl) (fun _ _ _ h => h) HCL (goes_fn (v := .bool true) g _ _ _ #[.int .u8 (x.toNat : Nat), .int .u8 (y.toNat : Nat)] (by rfl) rfl (by kernel_rfl) (by kernel_rfl) HEG.out (fun wq n R hR => HP.out wq x y R (fun w2 n2 => by rw [HG.out]; exact hR w2 n2))) ?_
          try simp only [Act.put, List.getElem_toArray, List.getElem_cons_succ, List.getElem_cons_zero, List.setIfInBounds_toArray, List.set_cons_zero, List.set_cons_succ]
          first | (refine wpU_takeB (i := 14) (v := ?_) HOPS rfl (by kernel_rfl) (fun _ _ _ h => h) HCL (goes_read (by rfl) ?hy) ?_; case hy => (intro w hSw; (try dsimp only at hSw); go_simp; (try with_reducible rfl))) | (refine wpU_takeB (i := 14) (v := _) HOPS rfl (by kernel_rfl) (fun _ _ _ h => h) HCL (goes_not (by rfl)) ?_)
          try simp only [Act.put, List.getElem_toArray, List.getElem_cons_succ, List.getElem_cons_zero, List.setIfInBounds_toArray, List.set_cons_zero, List.set_cons_succ]
          refine wpU_done (by kernel_rfl) (fun w3 hle => ?_) _
          have n := (hle.ahead (by kernel_rfl)).1
          replace HC := Lib.hid (HC.out.trans' n (fun _ _ e => e.elim))
          replace HJS := Lib.hid (HJ.out _ _ _ HJS.out n)
          replace HBX2 := Lib.hid (n.heap HBX2.out id)
          replace HBG2 := Lib.hid (n.heap HBG2.out id)
          clear n
          clear HOPS HCL hle
          repeat clear hHeld
          have HST := Lib.hid (show rngTo goes L (k + 1) = rngTo goes L k from rngTo_go (by rw [hlen]; exact hlast) (by rw [HXX.out, HYY.out]; exact HG.out))
          gi_wp2
          refine ⟨⟨k + 1, pre, by go_num, by omega, by rw [HST.out, HF.out], Lib.hid (by rw [HST.out]; exact HPR.out), HJS, Lib.hid HC.out⟩, ?_⟩
          simp [intOf]; omega
        | false =>
          have HG := Lib.hid hg
          clear hg
          skip
          have kk0 : wr.cell? ⟨Bs, 0, none⟩ = some (.string s) := by rw [cell_of HBX2.out]; rfl
          gi_wp2
          clear kk0
          refine wpIn_wide.2 ?_
          refine wp_named ?_
          intro W4 hW
          have n : Nw wr W4 := by rw [hW]; first | exact Ch.refl _ _ | exact (Ch.refl _ _).alloc _
          replace HC := Lib.hid (HC.out.trans' n (fun _ _ e => e.elim))
          replace HJS := Lib.hid (HJ.out _ _ _ HJS.out n)
          replace HBX2 := Lib.hid (n.heap HBX2.out id)
          replace HBG2 := Lib.hid (n.heap HBG2.out id)
          clear hW n
          refine wp_region_V (F := fun w' => w'.cell? ⟨Bs, 0, none⟩ = some (.string s) ∧ w'.cell? ⟨Bg, 0, none⟩ = some (.func (.func g) #[] #[])) (opsOf Tryd.f45 4) 15 15 (by kernel_rfl) (by kernel_rfl) (by kernel_rfl) (fun w w' h n => ⟨n.cell h.1 id, n.cell h.2 id⟩) ⟨by show W4.cell? _ = _; rw [cell_of HBX2.out]; rfl, by show W4.cell? _ = _; rw [cell_of HBG2.out]; rfl⟩ (fun HOPS HCL hHeld => ?_)
          refine wpU_named ?_
          intro W5 hW
          try rw [← hW] at hHeld
          have n : Nw W4 W5 := by rw [hW]; exact (Ch.refl _ _).drew
          replace HC := Lib.hid (HC.out.trans' n (fun _ _ e => e.elim))
          replace HJS := Lib.hid (HJ.out _ _ _ HJS.out n)
          replace HBX2 := Lib.hid (n.heap HBX2.out id)
          replace HBG2 := Lib.hid (n.heap HBG2.out id)
          clear hW n
          first | (refine wpU_takeB (i := 0) (v := ?_) HOPS rfl (by kernel_rfl) (fun _ _ _ h => h) HCL (goes_read (by rfl) ?hy) ?_; case hy => (intro w hSw; (try dsimp only at hSw); go_simp; (try with_reducible rfl))) | (refine wpU_takeB (i := 0) (v := _) HOPS rfl (by kernel_rfl) (fun _ _ _ h => h) HCL (goes_not (by rfl)) ?_)
          try simp only [Act.put, List.getElem_toArray, List.getElem_cons_succ, List.getElem_cons_zero, List.setIfInBounds_toArray, List.set_cons_zero, List.set_cons_succ]
          first | (refine wpU_takeB (i := 1) (v := ?_) HOPS rfl (by kernel_rfl) (fun _ _ _ h => h) HCL (goes_read (by rfl) ?hy) ?_; case hy => (intro w hSw; (try dsimp only at hSw); go_simp; (try with_reducible rfl))) | (refine wpU_takeB (i := 1) (v := _) HOPS rfl (by kernel_rfl) (fun _ _ _ h => h) HCL (goes_not (by rfl)) ?_)
          try simp only [Act.put, List.getElem_toArray, List.getElem_cons_succ, List.getElem_cons_zero, List.setIfInBounds_toArray, List.set_cons_zero, List.set_cons_succ]
          first | (refine wpU_takeB (i := 2) (v := ?_) HOPS rfl (by kernel_rfl) (fun _ _ _ h => h) HCL (goes_read (by rfl) ?hy) ?_; case hy => (intro w hSw; (try dsimp only at hSw); go_simp; (try with_reducible rfl))) | (refine wpU_takeB (i := 2) (v := _) HOPS rfl (by kernel_rfl) (fun _ _ _ h => h) HCL (goes_not (by rfl)) ?_)
          try simp only [Act.put, List.getElem_toArray, List.getElem_cons_succ, List.getElem_cons_zero, List.setIfInBounds_toArray, List.set_cons_zero, List.set_cons_succ]
          first | (refine wpU_takeB (i := 3) (v := ?_) HOPS rfl (by kernel_rfl) (fun _ _ _ h => h) HCL (goes_read (by rfl) ?hy) ?_; case hy => (intro w hSw; (try dsimp only at hSw); go_simp; (try with_reducible rfl))) | (refine wpU_takeB (i := 3) (v := _) HOPS rfl (by kernel_rfl) (fun _ _ _ h => h) HCL (goes_not (by rfl)) ?_)
          try simp only [Act.put, List.getElem_toArray, List.getElem_cons_succ, List.getElem_cons_zero, List.setIfInBounds_toArray, List.set_cons_zero, List.set_cons_succ]
          first | (refine wpU_takeB (i := 4) (v := ?_) HOPS rfl (by kernel_rfl) (fun _ _ _ h => h) HCL (goes_read (by rfl) ?hy) ?_; case hy => (intro w hSw; (try dsimp only at hSw); go_simp; (try with_reducible rfl))) | (refine wpU_takeB (i := 4) (v := _) HOPS rfl (by kernel_rfl) (fun _ _ _ h => h) HCL (goes_not (by rfl)) ?_)
          try simp only [Act.put, List.getElem_toArray, List.getElem_cons_succ, List.getElem_cons_zero, List.setIfInBounds_toArray, List.set_cons_zero, List.set_cons_succ]
          first | (refine wpU_takeB (i := 5) (v := ?_) HOPS rfl (by kernel_rfl) (fun _ _ _ h => h) HCL (goes_read (by rfl) ?hy) ?_; case hy => (intro w hSw; (try dsimp only at hSw); go_simp; (try with_reducible rfl))) | (refine wpU_takeB (i := 5) (v := _) HOPS rfl (by kernel_rfl) (fun _ _ _ h => h) HCL (goes_not (by rfl)) ?_)
          try simp only [Act.put, List.getElem_toArray, List.getElem_cons_succ, List.getElem_cons_zero, List.setIfInBounds_toArray, List.set_cons_zero, List.set_cons_succ]
          first | (refine wpU_takeB (i := 6) (v := ?_) HOPS rfl (by kernel_rfl) (fun _ _ _ h => h) HCL (goes_read (by rfl) ?hy) ?_; case hy => (intro w hSw; (try dsimp only at hSw); go_simp; (try with_reducible rfl))) | (refine wpU_takeB (i := 6) (v := _) HOPS rfl (by kernel_rfl) (fun _ _ _ h => h) HCL (goes_not (by rfl)) ?_)
          try simp only [Act.put, List.getElem_toArray, List.getElem_cons_succ, List.getElem_cons_zero, List.setIfInBounds_toArray, List.set_cons_zero, List.set_cons_succ]
          first | (refine wpU_takeB (i := 7) (v := ?_) HOPS rfl (by kernel_rfl) (fun _ _ _ h => h) HCL (goes_read (by rfl) ?hy) ?_; case hy => (intro w hSw; (try dsimp only at hSw); go_simp; (try with_reducible rfl))) | (refine wpU_takeB (i := 7) (v := _) HOPS rfl (by kernel_rfl) (fun _ _ _ h => h) HCL (goes_not (by rfl)) ?_)
          try simp only [Act.put, List.getElem_toArray, List.getElem_cons_succ, List.getElem_cons_zero, List.setIfInBounds_toArray, List.set_cons_zero, List.set_cons_succ]
          first | (refine wpU_takeB (i := 8) (v := ?_) HOPS rfl (by kernel_rfl) (fun _ _ _ h => h) HCL (goes_read (by rfl) ?hy) ?_; case hy => (intro w hSw; (try dsimp only at hSw); go_simp; (try with_reducible rfl))) | (refine wpU_takeB (i := 8) (v := _) HOPS rfl (by kernel_rfl) (fun _ _ _ h => h) HCL (goes_not (by rfl)) ?_)
          try simp only [Act.put, List.getElem_toArray, List.getElem_cons_succ, List.getElem_cons_zero, List.setIfInBounds_toArray, List.set_cons_zero, List.set_cons_succ]
          first | (refine wpU_takeB (i := 10) (v := ?_) HOPS rfl (by kernel_rfl) (fun _ _ _ h => h) HCL (goes_read (by rfl) ?hy) ?_; case hy => (intro w hSw; (try dsimp only at hSw); go_simp; (try with_reducible rfl))) | (refine wpU_takeB (i := 10) (v := _) HOPS rfl (by kernel_rfl) (fun _ _ _ h => h) HCL (goes_not (by rfl)) ?_)
          try simp only [Act.put, List.getElem_toArray, List.getElem_cons_succ, List.getElem_cons_zero, List.setIfInBounds_toArray, List.set_cons_zero, List.set_cons_succ]
          first | (refine wpU_takeB (i := 11) (v := ?_) HOPS rfl (by kernel_rfl) (fun _ _ _ h => h) HCL (goes_read (by rfl) ?hy) ?_; case hy => (intro w hSw; (try dsimp only at hSw); go_simp; (try with_reducible rfl))) | (refine wpU_takeB (i := 11) (v := _) HOPS rfl (by kernel_rfl) (fun _ _ _ h => h) HCL (goes_not (by rfl)) ?_)
          try simp only [Act.put, List.getElem_toArray, List.getElem_cons_succ, List.getElem_cons_zero, List.setIfInBounds_toArray, List.set_cons_zero, List.set_cons_succ]
          refine wpU_takeB (i := 9) HOPS rfl (by kernel_rfl) (fun _ _ _ h => h) HCL (goes_idx _ _ _ s k x _ (by rfl) rfl Tryd.underlying9 (by rfl) (by rfl) hxs rfl) ?_
          try simp only [Act.put, List.getElem_toArray, List.getElem_cons_succ, List.getElem_cons_zero, List.setIfInBounds_toArray, List.set_cons_zero, List.set_cons_succ]
          refine wpU_takeB (i := 12) HOPS rfl (by kernel_rfl) (fun _ _ _ h => h) HCL (goes_idx _ _ _ s (k + 1) y _ (by rfl) rfl Tryd.underlying9 (by rfl) (by rfl) hys rfl) ?_
          try simp only [Act.put, List.getElem_toArray, List.getElem_cons_succ, List.getElem_cons_zero, List.setIfInBounds_toArray, List.set_cons_zero, List.set_cons_succ]
          refine wpU_takeB (i := 13) HOPS rfl (by kernel_rfl) (fun _ _ _ h => h) HCL (goes_fn (v := .bool false) g _ _ _ #[.int .u8 (x.toNat : Nat), .int .u8 (y.toNat : Nat)] (by rfl) rfl (by kernel_rfl) (by kernel_rfl) HEG.out (fun wq n R hR => HP.out wq x y R (fun w2 n2 => by rw [HG.out]; exact hR w2 n2))) ?_
          try simp only [Act.put, List.getElem_toArray, List.getElem_cons_succ, List.getElem_cons_zero, List.setIfInBounds_toArray, List.set_cons_zero, List.set_cons_succ]
          first | (refine wpU_takeB (i := 14) (v := ?_) HOPS rfl (by kernel_rfl) (fun _ _ _ h => h) HCL (goes_read (by rfl) ?hy) ?_; case hy => (intro w hSw; (try dsimp only at hSw); go_simp; (try with_reducible rfl))) | (refine wpU_takeB (i := 14) (v := _) HOPS rfl (by kernel_rfl) (fun _ _ _ h => h) HCL (goes_not (by rfl)) ?_)
          try simp only [Act.put, List.getElem_toArray, List.getElem_cons_succ, List.getElem_cons_zero, List.setIfInBounds_toArray, List.set_cons_zero, List.set_cons_succ]
          refine wpU_done (by kernel_rfl) (fun w6 hle => ?_) _
          have n := (hle.ahead (by kernel_rfl)).1
          replace HC := Lib.hid (HC.out.trans' n (fun _ _ e => e.elim))
          replace HJS := Lib.hid (HJ.out _ _ _ HJS.out n)
          replace HBX2 := Lib.hid (n.heap HBX2.out id)
          replace HBG2 := Lib.hid (n.heap HBG2.out id)
          clear n
          clear HOPS HCL hle
          repeat clear hHeld
          have HST := Lib.hid (show rngTo goes L (k + 1) = ((rngTo goes L k).1 ++ [(f, k + 1)], k + 1) from by rw [rngTo_cut (fun h => by rw [HXX.out, HYY.out, HG.out] at h; cases h.2), HF.out])
          have hrg : f < k + 1 ∧ k + 1 ≤ s.size := by omega
          obtain ⟨fn, tmps, assign, body, hy, hR⟩ := HY.out pre ⟨(f, k + 1), hrg⟩ w6 HJS.out (by omega)
          try dsimp only at hy
          have hR2 := hR.mono (R' := fun e W' => ∃ bb, e = .returned (.bool bb) ∧ Hid ((bb = true ∧ J (pre ++ [⟨(f, k + 1), hrg⟩]) W' ∧ Ch Fp w6 W') ∨ (bb = false ∧ Jx (pre ++ [⟨(f, k + 1), hrg⟩]) W'))) (by
            rintro e W3 (⟨rfl, h1, h2⟩ | ⟨rfl, h1⟩)
            · exact ⟨true, rfl, Lib.hid (.inl ⟨rfl, h1, h2⟩)⟩
            · exact ⟨false, rfl, Lib.hid (.inr ⟨rfl, h1⟩)⟩)
          clear hR
          rw [show encR (f, k + 1) = #[.int .i64 (f : Nat), .int .i64 ((k : Int) + 1)] from by simp [encR]] at hy
          gi_wp2_with (refine hR2.mono ?_; rintro e W3 ⟨bb, rfl, hb3⟩)
          all_goals
            have hb4 := hb3.out
            clear hb3
            rcases hb4 with ⟨rfl, hJ3, hk3⟩ | ⟨rfl, hJx3⟩
            · first
              | exact absurd ‹(!true) = true› (by decide)
              | (refine ⟨⟨k + 1, _, by go_num, by omega, by rw [HST.out]; go_num, Lib.hid (by rw [HST.out, ← HPR.out, List.map_append]; rfl), Lib.hid hJ3, Lib.hid (HC.out.trans hk3)⟩, ?_⟩; simp [intOf]; omega)
            · first
              | exact absurd ‹(!false) = false› (by decide)
              | (refine bodyPost_ret (results_none rfl _ _ _) rfl ?_; first | exact ⟨⟨_, rfl⟩, .inr ⟨_, trivial, hJx3⟩⟩ | exact ⟨⟨_, rfl⟩, .inr ⟨_, hJx3⟩⟩)
      · have k2 : decide ((k : Int) + 1 < (s.size : Int)) = false := decide_eq_false (by omega)
        have HST := Lib.hid (show rngTo goes L (k + 1) = ((rngTo goes L k).1 ++ [(f, k + 1)], k + 1) from by rw [rngTo_cut (fun h => by rw [hlen] at h; exact hlast h.1), HF.out])
        have HBX2 := Lib.hid (HC.out.heap HBX.out hFB)
        have HBG2 := Lib.hid (HC.out.heap HBG.out hFG)
        clear q0 q1
        have kk0 : wr.cell? ⟨Bs, 0, none⟩ = some (.string s) := by rw [cell_of HBX2.out]; rfl
        gi_wp2
        clear kk0
        refine wpIn_wide.2 ?_
        refine wp_named ?_
        intro W7 hW
        have n : Nw wr W7 := by rw [hW]; first | exact Ch.refl _ _ | exact (Ch.refl _ _).alloc _
        replace HC := Lib.hid (HC.out.trans' n (fun _ _ e => e.elim))
        replace HJS := Lib.hid (HJ.out _ _ _ HJS.out n)
        replace HBX2 := Lib.hid (n.heap HBX2.out id)
        replace HBG2 := Lib.hid (n.heap HBG2.out id)
        clear hW n
        refine wp_region_V (F := fun w' => w'.cell? ⟨Bs, 0, none⟩ = some (.string s) ∧ w'.cell? ⟨Bg, 0, none⟩ = some (.func (.func g) #[] #[])) (opsOf Tryd.f45 4) 15 15 (by kernel_rfl) (by kernel_rfl) (by kernel_rfl) (fun w w' h n => ⟨n.cell h.1 id, n.cell h.2 id⟩) ⟨by show W7.cell? _ = _; rw [cell_of HBX2.out]; rfl, by show W7.cell? _ = _; rw [cell_of HBG2.out]; rfl⟩ (fun HOPS HCL hHeld => ?_)
        refine wpU_named ?_
        intro W8 hW
        try rw [← hW] at hHeld
        have n : Nw W7 W8 := by rw [hW]; exact (Ch.refl _ _).drew
        replace HC := Lib.hid (HC.out.trans' n (fun _ _ e => e.elim))
        replace HJS := Lib.hid (HJ.out _ _ _ HJS.out n)
        replace HBX2 := Lib.hid (n.heap HBX2.out id)
        replace HBG2 := Lib.hid (n.heap HBG2.out id)
        clear hW n
        first | (refine wpU_takeB (i := 0) (v := ?_) HOPS rfl (by kernel_rfl) (fun _ _ _ h => h) HCL (goes_read (by rfl) ?hy) ?_; case hy => (intro w hSw; (try dsimp only at hSw); go_simp; (try with_reducible rfl))) | (refine wpU_takeB (i := 0) (v := _) HOPS rfl (by kernel_rfl) (fun _ _ _ h => h) HCL (goes_not (by rfl)) ?_)
        try simp only [Act.put, List.getElem_toArray, List.getElem_cons_succ, List.getElem_cons_zero, List.setIfInBounds_toArray, List.set_cons_zero, List.set_cons_succ]
        first | (refine wpU_takeB (i := 1) (v := ?_) HOPS rfl (by kernel_rfl) (fun _ _ _ h => h) HCL (goes_read (by rfl) ?hy) ?_; case hy => (intro w hSw; (try dsimp only at hSw); go_simp; (try with_reducible rfl))) | (refine wpU_takeB (i := 1) (v := _) HOPS rfl (by kernel_rfl) (fun _ _ _ h => h) HCL (goes_not (by rfl)) ?_)
        try simp only [Act.put, List.getElem_toArray, List.getElem_cons_succ, List.getElem_cons_zero, List.setIfInBounds_toArray, List.set_cons_zero, List.set_cons_succ]
        first | (refine wpU_takeB (i := 2) (v := ?_) HOPS rfl (by kernel_rfl) (fun _ _ _ h => h) HCL (goes_read (by rfl) ?hy) ?_; case hy => (intro w hSw; (try dsimp only at hSw); go_simp; (try with_reducible rfl))) | (refine wpU_takeB (i := 2) (v := _) HOPS rfl (by kernel_rfl) (fun _ _ _ h => h) HCL (goes_not (by rfl)) ?_)
        try simp only [Act.put, List.getElem_toArray, List.getElem_cons_succ, List.getElem_cons_zero, List.setIfInBounds_toArray, List.set_cons_zero, List.set_cons_succ]
        first | (refine wpU_takeB (i := 3) (v := ?_) HOPS rfl (by kernel_rfl) (fun _ _ _ h => h) HCL (goes_read (by rfl) ?hy) ?_; case hy => (intro w hSw; (try dsimp only at hSw); go_simp; (try with_reducible rfl))) | (refine wpU_takeB (i := 3) (v := _) HOPS rfl (by kernel_rfl) (fun _ _ _ h => h) HCL (goes_not (by rfl)) ?_)
        try simp only [Act.put, List.getElem_toArray, List.getElem_cons_succ, List.getElem_cons_zero, List.setIfInBounds_toArray, List.set_cons_zero, List.set_cons_succ]
        first | (refine wpU_takeB (i := 4) (v := ?_) HOPS rfl (by kernel_rfl) (fun _ _ _ h => h) HCL (goes_read (by rfl) ?hy) ?_; case hy => (intro w hSw; (try dsimp only at hSw); go_simp; (try with_reducible rfl))) | (refine wpU_takeB (i := 4) (v := _) HOPS rfl (by kernel_rfl) (fun _ _ _ h => h) HCL (goes_not (by rfl)) ?_)
        try simp only [Act.put, List.getElem_toArray, List.getElem_cons_succ, List.getElem_cons_zero, List.setIfInBounds_toArray, List.set_cons_zero, List.set_cons_succ]
        first | (refine wpU_takeB (i := 5) (v := ?_) HOPS rfl (by kernel_rfl) (fun _ _ _ h => h) HCL (goes_read (by rfl) ?hy) ?_; case hy => (intro w hSw; (try dsimp only at hSw); go_simp; (try with_reducible rfl))) | (refine wpU_takeB (i := 5) (v := _) HOPS rfl (by kernel_rfl) (fun _ _ _ h => h) HCL (goes_not (by rfl)) ?_)
        try simp only [Act.put, List.getElem_toArray, List.getElem_cons_succ, List.getElem_cons_zero, List.setIfInBounds_toArray, List.set_cons_zero, List.set_cons_succ]
        first | (refine wpU_takeB (i := 6) (v := ?_) HOPS rfl (by kernel_rfl) (fun _ _ _ h => h) HCL (goes_read (by rfl) ?hy) ?_; case hy => (intro w hSw; (try dsimp only at hSw); go_simp; (try with_reducible rfl))) | (refine wpU_takeB (i := 6) (v := _) HOPS rfl (by kernel_rfl) (fun _ _ _ h => h) HCL (goes_not (by rfl)) ?_)
        try simp only [Act.put, List.getElem_toArray, List.getElem_cons_succ, List.getElem_cons_zero, List.setIfInBounds_toArray, List.set_cons_zero, List.set_cons_succ]
        first | (refine wpU_takeB (i := 7) (v := ?_) HOPS rfl (by kernel_rfl) (fun _ _ _ h => h) HCL (goes_read (by rfl) ?hy) ?_; case hy => (intro w hSw; (try dsimp only at hSw); go_simp; (try with_reducible rfl))) | (refine wpU_takeB (i := 7) (v := _) HOPS rfl (by kernel_rfl) (fun _ _ _ h => h) HCL (goes_not (by rfl)) ?_)
        try simp only [Act.put, List.getElem_toArray, List.getElem_cons_succ, List.getElem_cons_zero, List.setIfInBounds_toArray, List.set_cons_zero, List.set_cons_succ]
        first | (refine wpU_takeB (i := 8) (v := ?_) HOPS rfl (by kernel_rfl) (fun _ _ _ h => h) HCL (goes_read (by rfl) ?hy) ?_; case hy => (intro w hSw; (try dsimp only at hSw); go_simp; (try with_reducible rfl))) | (refine wpU_takeB (i := 8) (v := _) HOPS rfl (by kernel_rfl) (fun _ _ _ h => h) HCL (goes_not (by rfl)) ?_)
        try simp only [Act.put, List.getElem_toArray, List.getElem_cons_succ, List.getElem_cons_zero, List.setIfInBounds_toArray, List.set_cons_zero, List.set_cons_succ]
        first | (refine wpU_takeB (i := 9) (v := ?_) HOPS rfl (by kernel_rfl) (fun _ _ _ h => h) HCL (goes_read (by rfl) ?hy) ?_; case hy => (intro w hSw; (try dsimp only at hSw); go_simp; (try with_reducible rfl))) | (refine wpU_takeB (i := 9) (v := _) HOPS rfl (by kernel_rfl) (fun _ _ _ h => h) HCL (goes_not (by rfl)) ?_)
        try simp only [Act.put, List.getElem_toArray, List.getElem_cons_succ, List.getElem_cons_zero, List.setIfInBounds_toArray, List.set_cons_zero, List.set_cons_succ]
        first | (refine wpU_takeB (i := 10) (v := ?_) HOPS rfl (by kernel_rfl) (fun _ _ _ h => h) HCL (goes_read (by rfl) ?hy) ?_; case hy => (intro w hSw; (try dsimp only at hSw); go_simp; (try with_reducible rfl))) | (refine wpU_takeB (i := 10) (v := _) HOPS rfl (by kernel_rfl) (fun _ _ _ h => h) HCL (goes_not (by rfl)) ?_)
        try simp only [Act.put, List.getElem_toArray, List.getElem_cons_succ, List.getElem_cons_zero, List.setIfInBounds_toArray, List.set_cons_zero, List.set_cons_succ]
        first | (refine wpU_takeB (i := 11) (v := ?_) HOPS rfl (by kernel_rfl) (fun _ _ _ h => h) HCL (goes_read (by rfl) ?hy) ?_; case hy => (intro w hSw; (try dsimp only at hSw); go_simp; (try with_reducible rfl))) | (refine wpU_takeB (i := 11) (v := _) HOPS rfl (by kernel_rfl) (fun _ _ _ h => h) HCL (goes_not (by rfl)) ?_)
        try simp only [Act.put, List.getElem_toArray, List.getElem_cons_succ, List.getElem_cons_zero, List.setIfInBounds_toArray, List.set_cons_zero, List.set_cons_succ]
        first | (refine wpU_takeB (i := 12) (v := ?_) HOPS rfl (by kernel_rfl) (fun _ _ _ h => h) HCL (goes_read (by rfl) ?hy) ?_; case hy => (intro w hSw; (try dsimp only at hSw); go_simp; (try with_reducible rfl))) | (refine wpU_takeB (i := 12) (v := _) HOPS rfl (by kernel_rfl) (fun _ _ _ h => h) HCL (goes_not (by rfl)) ?_)
        try simp only [Act.put, List.getElem_toArray, List.getElem_cons_succ, List.getElem_cons_zero, List.setIfInBounds_toArray, List.set_cons_zero, List.set_cons_succ]
        first | (refine wpU_takeB (i := 13) (v := ?_) HOPS rfl (by kernel_rfl) (fun _ _ _ h => h) HCL (goes_read (by rfl) ?hy) ?_; case hy => (intro w hSw; (try dsimp only at hSw); go_simp; (try with_reducible rfl))) | (refine wpU_takeB (i := 13) (v := _) HOPS rfl (by kernel_rfl) (fun _ _ _ h => h) HCL (goes_not (by rfl)) ?_)
        try simp only [Act.put, List.getElem_toArray, List.getElem_cons_succ, List.getElem_cons_zero, List.setIfInBounds_toArray, List.set_cons_zero, List.set_cons_succ]
        first | (refine wpU_takeB (i := 14) (v := ?_) HOPS rfl (by kernel_rfl) (fun _ _ _ h => h) HCL (goes_read (by rfl) ?hy) ?_; case hy => (intro w hSw; (try dsimp only at hSw); go_simp; (try with_reducible rfl))) | (refine wpU_takeB (i := 14) (v := _) HOPS rfl (by kernel_rfl) (fun _ _ _ h => h) HCL (goes_not (by rfl)) ?_)
        try simp only [Act.put, List.getElem_toArray, List.getElem_cons_succ, List.getElem_cons_zero, List.setIfInBounds_toArray, List.set_cons_zero, List.set_cons_succ]
        refine wpU_done (by kernel_rfl) (fun w9 hle => ?_) _
        have n := (hle.ahead (by kernel_rfl)).1
        replace HC := Lib.hid (HC.out.trans' n (fun _ _ e => e.elim))
        replace HJS := Lib.hid (HJ.out _ _ _ HJS.out n)
        replace HBX2 := Lib.hid (n.heap HBX2.out id)
        replace HBG2 := Lib.hid (n.heap HBG2.out id)
        clear n
        clear HOPS HCL hle
        repeat clear hHeld
        have hrg : f < k + 1 ∧ k + 1 ≤ s.size := by omega
        obtain ⟨fn, tmps, assign, body, hy, hR⟩ := HY.out pre ⟨(f, k + 1), hrg⟩ w9 HJS.out (by omega)
        try dsimp only at hy
        have hR2 := hR.mono (R' := fun e W' => ∃ bb, e = .returned (.bool bb) ∧ Hid ((bb = true ∧ J (pre ++ [⟨(f, k + 1), hrg⟩]) W' ∧ Ch Fp w9 W') ∨ (bb = false ∧ Jx (pre ++ [⟨(f, k + 1), hrg⟩]) W'))) (by
          rintro e W3 (⟨rfl, h1, h2⟩ | ⟨rfl, h1⟩)
          · exact ⟨true, rfl, Lib.hid (.inl ⟨rfl, h1, h2⟩)⟩
          · exact ⟨false, rfl, Lib.hid (.inr ⟨rfl, h1⟩)⟩)
        clear hR
        rw [show encR (f, k + 1) = #[.int .i64 (f : Nat), .int .i64 ((k : Int) + 1)] from by simp [encR]] at hy
        gi_wp2_with (refine hR2.mono ?_; rintro e W3 ⟨bb, rfl, hb3⟩)
        all_goals
          have hb4 := hb3.out
          clear hb3
          rcases hb4 with ⟨rfl, hJ3, hk3⟩ | ⟨rfl, hJx3⟩
          · first
            | exact absurd ‹(!true) = true› (by decide)
            | (refine ⟨⟨k + 1, _, by go_num, by omega, by rw [HST.out]; go_num, Lib.hid (by rw [HST.out, ← HPR.out, List.map_append]; rfl), Lib.hid hJ3, Lib.hid (HC.out.trans hk3)⟩, ?_⟩; simp [intOf]; omega)
          · first
            | exact absurd ‹(!false) = false› (by decide)
            | (refine bodyPost_ret (results_none rfl _ _ _) rfl ?_; first | exact ⟨⟨_, rfl⟩, .inr ⟨_, trivial, hJx3⟩⟩ | exact ⟨⟨_, rfl⟩, .inr ⟨_, hJx3⟩⟩)
    · have k1 : ¬ (k : Int) + 1 ≤ (s.size : Int) := by omega
      gi_wp2
      go_end0
      refine ⟨⟨_, rfl⟩, .inl ?_⟩
      have hk2 : k = L.length := by omega
      have hd : (rngTo goes L k).1 = ranges goes L := by unfold ranges; rw [hk2]
      exact ⟨pre, by rw [HPR.out, hd], HJS.out⟩

theorem ranges_in (n : Nat) (s : ByteArray) (g : Nat) (w : World) :
    CallsIn Fence.wide n Tryd.prog 31 #[.string s, .func (.func g) #[] #[]] w fun e w' => e = .returned (.func (.func 45) #[] #[.pointer (some ⟨w.heap.size, 0, none⟩), .pointer (some ⟨w.heap.size + 1, 0, none⟩)]) ∧ w' = (w.alloc (.cells #[.string s] 9)).alloc (.cells #[.func (.func g) #[] #[]] 55) := by
  refine callsIn_of_wp Tryd.func31 rfl trivial ?_ rfl
  simp only [Tryd.ntmps31, List.size_toArray, List.length_cons, List.length_nil, Nat.reduceAdd, Nat.reduceSub, Array.replicate_succ, Array.replicate_zero, List.push_toArray, List.append_toArray, List.nil_append, List.cons_append]
  gi_wp2
  go_ret
  exact ⟨rfl, rfl⟩

abbrev FpD (nb M : Nat) (k : Nat) : Prop := k = nb ∨ M ≤ k
theorem ch_putObj {nb M : Nat} (W : World) (l : Nat) (o' : Obj) (hl : M ≤ l) : Ch (FpD nb M) W (W.putObj l o') :=
  ⟨rfl, rfl, rfl, by simp, fun k _ hf => World.putObj_heap_other (fun e => hf (Or.inr (by subst e; exact hl)))⟩
/-- The iterator keeps its word, whatever block nb the body may write. -/
theorem ranges_stops (n : Nat) (hn : 1 ≤ n) (Bs Bg : Nat) (Fp : Nat → Prop) (s : ByteArray) (g : Nat) (goes : UInt8 → UInt8 → Bool) (w : World) (hBs : w.heap[Bs]? = some (.cells #[.string s] 9 (0, 0))) (hBg : w.heap[Bg]? = some (.cells #[.func (.func g) #[] #[]] 55 (0, 0)))
    (eg : entersB Tryd.prog g = true) (hs : s.size ≤ 1000000) (hp : ∀ (w' : World) (x y : UInt8) (R' : Ending → World → Prop), (∀ w'', Nw w' w'' → R' (.returned (.bool (goes x y))) w'') → Calls Tryd.prog g #[.int .u8 (x.toNat : Nat), .int .u8 (y.toNat : Nat)] w' R')
    (hFB : ¬ Fp Bs) (hFG : ¬ Fp Bg) :
    SeqStopsK Fence.wide n Tryd.prog 45 #[.pointer (some ⟨Bs, 0, none⟩), .pointer (some ⟨Bg, 0, none⟩)] (fun x : Rg s.size => encR x.1) (Ch Fp) (fun ys => ys.map Subtype.val = ranges goes s.data.toList) (fun _ => True) s.size w := fun l J Jx W hW hJ _ hY h0 =>
  have hc : Nw w W := ⟨hW.os, hW.tape, hW.output, hW.size, fun k hk _ => hW.block k hk⟩
  ranges1_in n hn l Bs Bg Fp s g goes J Jx eg hs hp (fun pre W W' h hn => hJ pre W W' none h hn.grown (fun r e => by cases e)) hFB hFG hY W (hc.heap hBs id) (hc.heap hBg id) h0

end Go.Proofs.YtnibgjpbijlhbaaDoor
