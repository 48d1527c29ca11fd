/-
  outline.Count: a range over a function that visits all points.
-/
import Derived.Test.YtlgcijafjcfnhaaDoorScale
import Derived.RangeFuncNested
import Derived.RangeFuncBound
import Derived.RangeFuncCalls
import Derived.RangeFuncLeaves
import Derived.Shelf.Abstract
import Derived.Shelf.RegionOpen
import Derived.OwnWalkIn
import Derived.TacticsInMore
import Derived.LoopNIn
import Derived.LoopIn
namespace Go.Proofs.YtlgcijafjcfnhaaDoor
open Go.RowKit Go.Shelf
attribute [local go_sem] Oper.semAt_some
set_option linter.unusedVariables false
set_option linter.unusedSimpArgs false

theorem vcell_new (W : World) (v : Value) (t : TypeId) : (W.alloc (.cells #[v] t)).cell? ⟨W.heap.size, 0, none⟩ = some v ∧ (W.alloc (.cells #[v] t)).frozen? ⟨W.heap.size, 0, none⟩ = false :=
  ⟨cell_alloc_new rfl rfl, frozen_of (heap_alloc_eq _ rfl)⟩
def encP (x : Nat × Pt) : Array Value := #[.int .i64 (x.1 : Int), .agg #[.int .i64 x.2.1, .int .i64 x.2.2.1, .bool x.2.2.2]]

set_option maxRecDepth 100000 in
set_option maxHeartbeats 4000000 in
theorem points1_in (F : Fence) (n : Nat) (h34 : F.fn 34) (hro : F.round = none) (hn : 1 ≤ n) (l Bs n₀ cap : Nat) (A : Option Addr) (o : List (List Pt)) (J Jx : List (Nat × Pt) → World → Prop)
    (hJ : ∀ pre W o, J pre W → J pre (W.alloc o))
    (hY : ∀ pre x W, J pre W → pre.length < o.flatten.length → YieldAt F (n - 1) Tryd.prog l #[.int .i64 (x.1 : Int), .agg #[.int .i64 x.2.1, .int .i64 x.2.2.1, .bool x.2.2.2]] W fun e W' =>
      (e = .returned (.bool true) ∧ J (pre ++ [x]) W' ∧ Below n₀ W W') ∨ (e = .returned (.bool false) ∧ Jx (pre ++ [x]) W'))
    (W : World) (hBs : W.cell? ⟨Bs, 0, none⟩ = some (.slice A o.length cap)) (ho : IsOut W n₀ (.slice A o.length cap) o) (hn0 : n₀ ≤ W.heap.size) (h0 : J [] W) :
    CallsIn F n Tryd.prog 34 #[.func (.yield l) #[] #[], .pointer (some ⟨Bs, 0, none⟩)] W fun e W' => (∃ v, e = .returned v) ∧
      ((∃ ys, ys.length = o.flatten.length ∧ J ys W') ∨ (∃ pre, True ∧ Jx pre W')) := by
  have HO := Lib.hid ho
  have HJ := Lib.hid hJ
  have HY := Lib.hid hY
  have hl64 : o.length ≤ 64 := by obtain ⟨A, cap, e, h, -⟩ := ho; exact h
  clear ho hJ hY
  refine callsIn_of_wp Tryd.func34 rfl h34 ?_ hro
  simp only [Tryd.ntmps34, List.size_toArray, List.length_cons, List.length_nil, Nat.reduceAdd, Nat.reduceSub, Array.replicate_succ, Array.replicate_zero, List.push_toArray, List.append_toArray, List.nil_append, List.cons_append]
  gi_wp2
  gi_loopw [3, 10] (fun s3 s10 wr => ∃ (k : Nat) (pre : List (Nat × Pt)), k ≤ o.length ∧ s10 = .int .i64 k ∧ s3 = .int .i64 pre.length ∧ pre.length = (o.take k).flatten.length ∧ J pre wr ∧ Below n₀ W wr) (fun _ s10 _ => o.length - (intOf s10).toNat)
  case atStart => exact ⟨0, [], Nat.zero_le _, rfl, rfl, by simp, h0, Below.refl _ _⟩
  case round =>
    obtain ⟨k, pre, hk, rfl, rfl, hpre, hJs, hnx⟩ := hrel
    have HPRE := Lib.hid hpre
    have HJS := Lib.hid hJs
    have HNX := Lib.hid hnx
    clear hpre hJs hnx
    have k0 : (0 : Int) ≤ (k : Int) := by omega
    by_cases hlt : k < o.length
    · have k1 : (k : Int) < (o.length : Int) := by omega
      obtain ⟨c, hc⟩ : ∃ c, o[k]? = some c := ⟨_, List.getElem?_eq_getElem hlt⟩
      have hck : (o.take (k + 1)).flatten.length = (o.take k).flatten.length + c.length := by
        rw [List.take_add_one, hc]; simp
      have hall : (o.take (k + 1)).flatten.length ≤ o.flatten.length := by
        have := (List.take_append_drop (k + 1) o)
        rw [← this, List.flatten_append, List.length_append]
        simp [List.take_take]
      obtain ⟨A', cap', he, -, hel⟩ := HO.out
      obtain ⟨hc64, hwf, bk, bo, vi, hb1, hb2, hb3, A2, cap2, rfl, hz2, hpts⟩ := hel k c hc
      injection he with e1 e2 e3
      subst e1 e3 hb2
      have hcell := (HNX.out.cell (p := ⟨bk, bo + k, none⟩) hb1).trans hb3
      have HPT := Lib.hid hpts
      have HCK := Lib.hid hck
      have HALL := Lib.hid hall
      clear hck hall hel hpts hz2 hwf hc
      gi_wp2
      gi_loopw [3, 16] (fun s3 s16 wq => ∃ (i : Nat) (pre' : List (Nat × Pt)), i ≤ c.length ∧ s16 = .int .i64 i ∧ s3 = .int .i64 pre'.length ∧ pre'.length = pre.length + i ∧ J pre' wq ∧ Below n₀ W wq) (fun _ s16 _ => c.length - (intOf s16).toNat)
      case atStart => exact ⟨0, pre, Nat.zero_le _, rfl, rfl, by omega, HJS.out, HNX.out⟩
      case round =>
        obtain ⟨i, pre', hi, rfl, rfl, hpre', hJq, hnq⟩ := hrel
        have HJQ := Lib.hid hJq
        have HNQ := Lib.hid hnq
        have HPQ := Lib.hid hpre'
        have hlen := HPRE.out
        clear hpre' hJq hnq
        have i0 : (0 : Int) ≤ (i : Int) := by omega
        by_cases hil : i < c.length
        · have i1 : (i : Int) < (c.length : Int) := by omega
          obtain ⟨q, hq⟩ : ∃ q, c[i]? = some q := ⟨_, List.getElem?_eq_getElem hil⟩
          obtain ⟨pk, po, hpk, rfl, q0, q1, q2⟩ := HPT.out i q hq
          have q0 := (HNQ.out.cell (p := ⟨pk, po + i * 3, none⟩) hpk).trans q0
          have q1 := (HNQ.out.cell (p := ⟨pk, po + i * 3 + 1, none⟩) hpk).trans q1
          have q2 := (HNQ.out.cell (p := ⟨pk, po + i * 3 + 2, none⟩) hpk).trans q2
          have hll : pre'.length < o.flatten.length := by rw [HPQ.out, HPRE.out]; have := HCK.out; have := HALL.out; omega
          have HNB := Lib.hid (show Below n₀ W (wr.alloc (.cells #[.int .i64 q.1, .int .i64 q.2.1, .bool q.2.2] 72)) from HNQ.out.alloc (by have := HNQ.out.size; omega) _)
          have hb64 : pre'.length ≤ 4096 := by
            have h1 := flat_le (o := o) (fun c hc => by obtain ⟨_, _, _, _, h⟩ := HO.out; obtain ⟨j, hj⟩ := List.mem_iff_getElem?.1 hc; exact (h j c hj).1)
            have := Nat.mul_le_mul_left 64 hl64
            omega
          obtain ⟨fn, tmps, assign, body, hy, hR⟩ := HY.out pre' (pre'.length, q) (wr.alloc (.cells #[.int .i64 q.1, .int .i64 q.2.1, .bool q.2.2] 72)) (HJ.out _ _ _ HJQ.out) hll
          dsimp only at hy
          clear hq hll
          gi_wp2
          refine hR.mono ?_
          rintro e W3 (⟨rfl, hJ3, hk3⟩ | ⟨rfl, hJx3⟩)
          · gi_wp2
            go_roundw
            case rel => exact ⟨i + 1, pre' ++ [(pre'.length, q)], by omega, by go_num, by simp, by rw [List.length_append, HPQ.out]; simp; omega, hJ3, HNB.out.trans hk3⟩
            case measure => simp [intOf]; omega
          · gi_wp2
            refine bodyPost_ret (results_none rfl _ _ _) rfl ?_
            exact ⟨⟨_, rfl⟩, .inr ⟨_, trivial, hJx3⟩⟩
        · have i1 : ¬ (i : Int) < (c.length : Int) := by omega
          gi_wp2
          go_roundw
          case rel => exact ⟨k + 1, pre', by omega, by go_num, rfl, by rw [HPQ.out, HCK.out, HPRE.out]; omega, HJQ.out, HNQ.out⟩
          case measure => simp [intOf]; omega
    · have k1 : ¬ (k : Int) < (o.length : Int) := by omega
      gi_wp2
      go_end0
      exact ⟨⟨_, rfl⟩, .inl ⟨pre, by rw [HPRE.out, List.take_of_length_le (by omega)]; simp, HJS.out⟩⟩

set_option maxRecDepth 100000 in
theorem points_in (F : Fence) (n : Nat) (h : F.fn 22) (hro : F.round = none) (A : Option Addr) (len cap : Nat) (w : World) :
    CallsIn F n Tryd.prog 22 #[.slice A len cap] w fun e w' => e = .returned (.func (.func 34) #[] #[.pointer (some ⟨w.heap.size, 0, none⟩)]) ∧ w' = w.alloc (.cells #[.slice A len cap] 29) := by
  refine callsIn_of_wp Tryd.func22 rfl h ?_ hro
  simp only [Tryd.ntmps22, List.size_toArray, List.length_cons, List.length_nil, Nat.reduceAdd, Nat.reduceSub, Array.replicate_succ, Array.replicate_zero, List.push_toArray, List.append_toArray, List.nil_append, List.cons_append]
  gi_wp2
  go_ret
  exact ⟨rfl, rfl⟩

theorem points_stops (F : Fence) (n : Nat) (h34 : F.fn 34) (hro : F.round = none) (hn : 1 ≤ n) (Bs n₀ cap : Nat) (A : Option Addr) (o : List (List Pt)) (w : World) (hBs : Bs < w.heap.size) (hn₀ : n₀ ≤ w.heap.size)
    (hc : w.cell? ⟨Bs, 0, none⟩ = some (.slice A o.length cap)) (hI : IsOut w n₀ (.slice A o.length cap) o) :
    SeqStopsK F n Tryd.prog 34 #[.pointer (some ⟨Bs, 0, none⟩)] encP (Below n₀) (fun ys => ys.length = o.flatten.length) (fun _ => True) o.flatten.length w := fun l J Jx W hW hJ _ hY h0 => by
  have hc' := (hW.cell (p := ⟨Bs, 0, none⟩) hBs).trans hc
  have hI' : IsOut W n₀ (.slice A o.length cap) o := hI.kept (F := fun k => w.heap.size ≤ k) ⟨hW.os, hW.tape, hW.output, hW.size, fun k hk hf => hW.block k (by omega)⟩ (fun k hk => by omega)
  exact points1_in F n h34 hro hn l Bs n₀ cap A o J Jx (fun pre W' o' h => hJ pre W' _ none h (World.grownBy_alloc W' o' none) (fun r e => by cases e)) hY W hc' hI' (Nat.le_trans hn₀ hW.size) h0

set_option maxRecDepth 100000 in
set_option maxHeartbeats 4000000 in
theorem Count_in (F : Fence) (n : Nat) (h8 : F.fn 8) (h22 : F.fn 22) (h34 : F.fn 34) (hro : F.round = none) (hn : 3 ≤ n) (cap : Nat) (A : Option Addr) (o : List (List Pt)) (w : World) (ho : IsOut w w.heap.size (.slice A o.length cap) o) :
    CallsIn F n Tryd.prog 8 #[.slice A o.length cap] w fun e W' => e = .returned (.int .i64 o.flatten.length) ∧ Below w.heap.size w W' := by
  have h1 : 1 ≤ n := by omega
  have HO := Lib.hid ho
  clear ho
  refine callsIn_of_wp_marks Tryd.func8 rfl h8 ?_ hro
  simp only [Tryd.ntmps8, List.size_toArray, List.length_cons, List.length_nil, Nat.reduceAdd, Nat.reduceSub, Array.replicate_succ, Array.replicate_zero, List.push_toArray, List.append_toArray, List.nil_append, List.cons_append]
  gi_wp2_with (gi_at_call 22; refine (points_in F (n - 1) h22 hro _ _ _ _).mono ?_; rintro e w' ⟨rfl, rfl⟩)
  have hs := vcell_new w (.int .i64 0) 3
  have hb := vcell_new (w.alloc (.cells #[.int .i64 0] 3)) (.slice A o.length cap) 29
  rw [World.size_alloc] at hb
  have hB0 : Below w.heap.size w ((w.alloc (.cells #[.int .i64 0] 3)).alloc (.cells #[.slice A o.length cap] 29)) := ((Below.refl _ w).alloc (Nat.le_refl _) _).alloc (by simp) _
  have hfl := flat_le (o := o) (fun c hc => by obtain ⟨_, _, _, _, h⟩ := HO.out; obtain ⟨j, hj⟩ := List.mem_iff_getElem?.1 hc; exact (h j c hj).1)
  have hl64 : o.length ≤ 64 := by obtain ⟨A, cap, e, h, -⟩ := HO.out; exact h
  have hf4 : o.flatten.length ≤ 4096 := by have := Nat.mul_le_mul_left 64 hl64; omega
  have HF4 := Lib.hid hf4
  clear hfl hf4
  refine wpIn_rangeFunc_ownF hro h1 (gf := 34) (lb := #[.pointer (some ⟨w.heap.size + 1, 0, none⟩)]) rfl h34 (enters_of Tryd.func34 (by kernel_rfl) rfl)
    (points_stops F (n - 1) h34 hro (by omega) (w.heap.size + 1) w.heap.size cap A o _ (by simp) (by simp; omega) hb.1 (HO.out.kept (F := fun k => w.heap.size ≤ k) ⟨hB0.os, hB0.tape, hB0.output, hB0.size, fun k hk hf => hB0.block k hk⟩ (fun k hk => by omega))) belowK_t (belowK_b (by simp; omega)) (Below.refl _ _) (fun _ => rfl)
    (fun pre W => (W.cell? ⟨w.heap.size, 0, none⟩ = some (.int .i64 (pre.length : Int)) ∧ W.frozen? ⟨w.heap.size, 0, none⟩ = false) ∧ Below w.heap.size w W)
    (fun _ _ _ => False)
    (OwnFrom.and (Own.from (fun s A B row hs hg hr => ⟨cell_kept hs.1 hg hr, (frozen_kept hs.1 hg hr).trans hs.2⟩) _) (ownFrom_below (Nat.le_refl _) (by simp; omega)))
    (fun _ _ _ _ _ hs _ _ => hs)
    ⟨⟨cell_alloc_old _ hs.1, (frozen_kept hs.1 (World.grownBy_alloc _ _ none) (fun r e => by cases e)).trans hs.2⟩, hB0⟩
    (fun x => { tmps := #[.slice A o.length cap, undef, .int .i64 0, .pointer (some ⟨w.heap.size, 0, none⟩), .slice A o.length cap, .func (.func 34) #[] #[.pointer (some ⟨w.heap.size + 1, 0, none⟩)], .int .i64 (x.1 : Int), .agg #[.int .i64 x.2.1, .int .i64 x.2.2.1, .bool x.2.2.2], undef, undef, undef], defers := [] }) ?assign ?body ?done ?stop
  case assign =>
    intro l x W K hK
    gi_wp2
    first | exact hK | (simp [encP] at hK ⊢; exact hK) | (simp [encP]; exact hK) | (show K _ W; exact hK)
  case body =>
    rintro l pre x W ⟨⟨hc, hf⟩, hB⟩ hlt
    have hp4 : pre.length ≤ 4096 := by have := HF4.out; omega
    gi_wp2
    exact ⟨KeepsOthers.setCell _ _ _, (Below.refl w.heap.size W).setCell (p := ⟨w.heap.size, 0, none⟩) (Nat.le_refl _) _, ⟨by rw [List.length_append, List.length_singleton]; exact World.cell?_setCell_same' _ _ _ (by rw [hc]; rfl), by rw [World.frozen?_setCell]; exact hf⟩, hB.setCell (p := ⟨w.heap.size, 0, none⟩) (Nat.le_refl _) _⟩
  case done =>
    rintro D ys W hD hS ⟨⟨hc, _⟩, hB⟩ hK
    rw [hS] at hc
    gi_wp2
    refine ⟨by simp, .inl ⟨_, _, rfl, run_takeDeferred hK, ?_⟩⟩
    exact ⟨_, results_tmp rfl _ _ _, by simp, hB.trans (belowK_b (w := w) (Nat.le_refl _) W D _ _ (by simp at hD; omega) hK rfl rfl)⟩
  case stop =>
    rintro D c pre W _ _ h _
    exact h.elim

theorem oCount_any (lo : Nat) (v : Value) (o : List (List Pt)) (w : World) (R : Ending → World → Prop) (ho : IsOut w lo v o) (hlo : lo ≤ w.heap.size) (hR : ∀ w', Nw w w' → R (.returned (.int .i64 o.flatten.length)) w') : Calls Tryd.prog 8 #[v] w R := by
  have HI := ho.hi hlo
  obtain ⟨A, cap, rfl, -⟩ := ho
  refine ((callsIn_wide (n := 3)).1 (Count_in Fence.wide 3 trivial trivial trivial rfl (by omega) cap A o w HI)).mono ?_
  rintro e w' ⟨rfl, hb⟩
  exact hR _ ⟨hb.os, hb.tape, hb.output, hb.size, fun k hk _ => hb.block k hk⟩
end Go.Proofs.YtlgcijafjcfnhaaDoor
