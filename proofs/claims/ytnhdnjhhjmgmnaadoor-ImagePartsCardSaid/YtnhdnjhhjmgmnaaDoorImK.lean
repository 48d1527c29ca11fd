/-
  image.count, image.Known, indelibleref22.Known, slices.Equal at []int, image.Same.
-/
import Derived.Test.YtnhdnjhhjmgmnaaDoorImI
import Derived.Shelf.GgClosure.Gives
namespace Go.Proofs.YtnhdnjhhjmgmnaaDoor
open Go.RowKit
set_option linter.unusedVariables false
set_option linter.unusedSimpArgs false
set_option maxRecDepth 100000

theorem count_any (lo : Nat) (v : Value) (l : List Int) (g : Nat) (lb : Array Value) (p : Nat → Int → Bool) (w : World) (R : Ending → World → Prop) (h : IsInts w lo v l) (hlen : l.length ≤ 1000000)
    (eg : ∀ args w, (callFunc g args).run Tryd.prog w = .ok (.enter g args) w)
    (hp : ∀ (k : Nat) (x : Int) (R' : Ending → World → Prop), l[k]? = some x → R' (.returned (.bool (p k x))) w → Calls Tryd.prog g (#[.int .i64 k, .int .i64 x] ++ lb) w R')
    (hR : R (.returned (.int .i64 (cnt (fun k => p k (px l k)) l.length))) w) : Calls Tryd.prog 41 #[v, .func (.func g) #[] lb] w R := by
  have HR := Lib.hid hR
  have HP := Lib.hid hp
  clear hR hp
  obtain ⟨A, cap, rfl, ⟨hlc, hl⟩, hel⟩ := h
  have HEL := Lib.hid hel
  clear hel
  go_enter Tryd.func41, Tryd.ntmps41
  go_wp2_with fail
  go_loop [5, 6, 7, 10] (fun s5 _ _ s10 => ∃ k : Nat, s10 = .int .i64 k ∧ s5 = .int .i64 (cnt (fun k => p k (px l k)) k) ∧ k ≤ l.length) (fun _ _ _ s10 => l.length - (intOf s10).toNat)
  case atStart => exact ⟨0, rfl, rfl, Nat.zero_le _⟩
  case round =>
    obtain ⟨k, rfl, rfl, hk⟩ := hrel
    have k0 : (0 : Int) ≤ (k : Int) := by omega
    have hc := cnt_le (fun k => p k (px l k)) k
    by_cases hlt : k < l.length
    · obtain ⟨x, hx⟩ : ∃ x, l[k]? = some x := ⟨_, List.getElem?_eq_getElem hlt⟩
      obtain ⟨hwx, pk, po, hpk, rfl, h0⟩ := HEL.out k x hx
      have k1 : (k : Int) < (l.length : Int) := by omega
      have hstep : cnt (fun k => p k (px l k)) (k + 1) = cnt (fun k => p k (px l k)) k + if p k x = true then 1 else 0 := by simp only [cnt, px_get hx]
      have HS := Lib.hid hstep
      have HX := Lib.hid hx
      have HC := Lib.hid (fun R' => HP.out k x R' hx)
      clear hstep hx
      generalize cnt (fun k => p k (px l k)) k = c at hc HS
      have hc' : (c : Int) ≤ 1000000 := by omega
      have hc0 : (0 : Int) ≤ (c : Int) := by omega
      cases hb : p k x with
      | true =>
        rw [hb] at HC HS
        go_wp2_with (go_at_fn g; refine HC.out _ ?_)
        go_round
        case rel => exact ⟨k + 1, by go_num, by rw [HS.out]; simp, by omega⟩
        case measure => simp [intOf]; omega
      | false =>
        rw [hb] at HC HS
        go_wp2_with (go_at_fn g; refine HC.out _ ?_)
        go_round
        case rel => exact ⟨k + 1, by go_num, by rw [HS.out]; simp, by omega⟩
        case measure => simp [intOf]; omega
    · obtain rfl : k = l.length := by omega
      go_wp2_with fail
      exact HR.out

theorem imKnown_any (lo : Nat) (v : Value) (x : Im) (w : World) (R : Ending → World → Prop) (h : IsIm w lo v x)
    (hR : ∀ w', Nw w w' → R (.returned (.int .i64 (knownM x))) w') : Calls Tryd.prog 24 #[v] w R := by
  have HR := Lib.hid hR
  clear hR
  have HX := Lib.hid h
  obtain ⟨W, H, l⟩ := x
  obtain ⟨s, rfl, hi, hw, hh⟩ := h
  have HI := Lib.hid hi
  obtain ⟨A, cap, rfl, ⟨hlc, hl⟩, -⟩ := hi
  have HN := Lib.hid (show Nw w (w.alloc (.cells #[.int .i64 W, .int .i64 H, .slice A l.length cap] 25)) from (Ch.refl _ _).alloc _)
  have HX2 := Lib.hid (HX.out.kept HN.out nof)
  by_cases hE : imOk (W, H, l)
  · have HE := Lib.hid hE
    have hlen := imOk_len hE
    simp only at hlen
    clear hE
    go_enter Tryd.func24, Tryd.ntmps24
    go_wp2_with (first | (go_at_call 22; refine imCheck_ok lo _ _ _ _ HX2.out HE.out ?_; intro w1 n1; (have p2 : w1.cell? ⟨w.heap.size, 2, none⟩ = some (.slice A l.length cap) := n1.cell (cell_alloc_new rfl rfl) id); (have N1 := Lib.hid (HN.out.trans n1)); clear n1) | (go_at_call 41; refine count_any lo _ l 47 #[] knP _ _ (HI.out.kept N1.out nof) (by show l.length ≤ _; omega) (enters_of Tryd.func47 (by kernel_rfl) rfl) ?hp ?_))
    case hp =>
      intro k x R' hx hR'
      have HR' := Lib.hid hR'
      clear hR' hx
      by_cases e : x = 2
      · subst e
        go_enter Tryd.func47, Tryd.ntmps47
        go_wp2
        exact HR'.out
      · have t1 : (x != 2) = true := by simp [e]
        rw [show knP k x = true from by simp [knP, e]] at HR'
        go_enter Tryd.func47, Tryd.ntmps47
        go_wp2
        exact HR'.out
    go_wp2
    refine ret_i (HR.out _ N1.out) ?_
    unfold knownM
    rw [if_pos HE.out]
    rfl
  · have HE := Lib.hid hE
    clear hE
    go_enter Tryd.func24, Tryd.ntmps24
    go_wp2_with (go_at_call 22; refine imCheck_bad lo _ _ _ _ HX2.out HE.out ?_; intro w1 n1; (have N1 := Lib.hid (HN.out.trans n1)); clear n1)
    refine ret_i (HR.out _ N1.out) ?_
    unfold knownM
    rw [if_neg HE.out]

set_option maxHeartbeats 1000000 in
theorem riKnown_any (lo : Nat) (v : Value) (x : Im) (w : World) (R : Ending → World → Prop) (h : IsIm w lo v x)
    (hR : ∀ w', Nw w w' → R (.returned (.int .i64 (knownM x))) w') : Calls Tryd.prog 25 #[v] w R := by
  have HR := Lib.hid hR
  clear hR
  have HX := Lib.hid h
  obtain ⟨W, H, l⟩ := x
  obtain ⟨s, rfl, hi, hw, hh⟩ := h
  obtain ⟨A, cap, rfl, ⟨hlc, hl⟩, hel⟩ := hi
  simp only at hl hel
  have HEL := Lib.hid hel
  clear hel
  have HN := Lib.hid (show Nw w (w.alloc (.cells #[.int .i64 W, .int .i64 H, .slice A l.length cap] 25)) from (Ch.refl _ _).alloc _)
  by_cases hE : imOk (W, H, l)
  · have HE := Lib.hid hE
    have hlen := imOk_len hE
    simp only at hlen
    clear hE
    go_enter Tryd.func25, Tryd.ntmps25
    go_wp2_with fail
    go_loopw [3, 4] (fun s3 s4 wr => ∃ k : Nat, s4 = .int .i64 k ∧ s3 = .int .i64 (cnt (fun k => knP k (px l k)) k) ∧ k ≤ l.length ∧ Hid (Nw (w.alloc (.cells #[.int .i64 W, .int .i64 H, .slice A l.length cap] 25)) wr)) (fun _ s4 _ => l.length - (intOf s4).toNat)
    case atStart => exact ⟨0, rfl, rfl, Nat.zero_le _, Lib.hid (Ch.refl _ _)⟩
    case round =>
      obtain ⟨k, rfl, rfl, hk, HC⟩ := hrel
      have k0 : (0 : Int) ≤ (k : Int) := by omega
      have hc := cnt_le (fun k => knP k (px l k)) k
      have c0 : wr.cell? ⟨w.heap.size, 0, none⟩ = some (.int .i64 W) := HC.out.cell (cell_alloc_new rfl rfl) id
      have c1 : wr.cell? ⟨w.heap.size, 1, none⟩ = some (.int .i64 H) := HC.out.cell (cell_alloc_new rfl rfl) id
      have c2 : wr.cell? ⟨w.heap.size, 2, none⟩ = some (.slice A l.length cap) := HC.out.cell (cell_alloc_new rfl rfl) id
      have HX3 := Lib.hid (HX.out.kept (HN.out.trans HC.out) nof)
      by_cases hlt : k < l.length
      · obtain ⟨x, hx⟩ : ∃ x, l[k]? = some x := ⟨_, List.getElem?_eq_getElem hlt⟩
        obtain ⟨hwx, pk, po, hpk, rfl, h0⟩ := HEL.out k x hx
        have h0 := HC.out.cell (HN.out.cell h0 id) id
        have k1 : (k : Int) < (l.length : Int) := by omega
        have hstep : cnt (fun k => knP k (px l k)) (k + 1) = cnt (fun k => knP k (px l k)) k + if knP k x = true then 1 else 0 := by simp only [cnt, px_get hx]
        have HS := Lib.hid hstep
        clear hstep hx
        generalize cnt (fun k => knP k (px l k)) k = c at hc HS
        have hc' : (c : Int) ≤ 1000000 := by omega
        have hc0 : (0 : Int) ≤ (c : Int) := by omega
        by_cases e : x = 2
        · subst e
          go_wp2_with (go_at_call 23; refine riCheck_ok lo _ _ _ _ HX3.out HE.out ?_; intro w1 n1; (have d2 := n1.cell c2 id); (have d3 := n1.cell h0 id); (have N1 := Lib.hid (HC.out.trans n1)); clear n1)
          refine ⟨⟨k + 1, by go_num, by rw [HS.out]; simp [knP], by omega, N1⟩, ?_⟩
          simp [intOf]; omega
        · have t1 : (x != 2) = true := by simp [e]
          have E := Lib.hid e
          clear e
          go_wp2_with (go_at_call 23; refine riCheck_ok lo _ _ _ _ HX3.out HE.out ?_; intro w1 n1; (have d2 := n1.cell c2 id); (have d3 := n1.cell h0 id); (have N1 := Lib.hid (HC.out.trans n1)); clear n1)
          refine ⟨⟨k + 1, by go_num, by rw [HS.out, if_pos (by simp [knP, E.out])]; simp, by omega, N1⟩, ?_⟩
          simp [intOf]; omega
      · obtain rfl : k = l.length := by omega
        go_wp2_with (go_at_call 23; refine riCheck_ok lo _ _ _ _ HX3.out HE.out ?_; intro w1 n1; (have d2 := n1.cell c2 id); (have N1 := Lib.hid (HC.out.trans n1)); clear n1)
        refine ret_i (HR.out _ (HN.out.trans N1.out)) ?_
        unfold knownM
        rw [if_pos HE.out]
        rfl
  · have HE := Lib.hid hE
    have HX2 := Lib.hid (HX.out.kept HN.out nof)
    clear hE
    go_enter Tryd.func25, Tryd.ntmps25
    go_wp2_with fail
    go_loopw [3, 4] (fun s3 s4 wr => s4 = .int .i64 0 ∧ s3 = .int .i64 0 ∧ wr = w.alloc (.cells #[.int .i64 W, .int .i64 H, .slice A l.length cap] 25)) (fun _ s4 _ => 0)
    case atStart => exact ⟨rfl, rfl, rfl⟩
    case round =>
      obtain ⟨rfl, rfl, rfl⟩ := hrel
      go_wp2_with (go_at_call 23; refine riCheck_bad lo _ _ _ _ HX2.out HE.out ?_; intro w1 n1; (have N1 := Lib.hid (HN.out.trans n1)); clear n1)
      refine ret_i (HR.out _ N1.out) ?_
      unfold knownM
      rw [if_neg HE.out]

theorem equal_any (lo : Nat) (va vb : Value) (a b : List Int) (w : World) (R : Ending → World → Prop) (ha : IsInts w lo va a) (hb : IsInts w lo vb b)
    (hR : ∀ d, R (.returned (.bool (decide (a = b)))) (w.drewN d)) : Calls Tryd.prog 50 #[va, vb] w R := by
  have HR := Lib.hid hR
  clear hR
  obtain ⟨A, cap, rfl, ⟨hlc, hl⟩, hel⟩ := ha
  obtain ⟨A', cap', rfl, ⟨hlc', hl'⟩, hel'⟩ := hb
  have HEL := Lib.hid hel
  have HEL' := Lib.hid hel'
  clear hel hel'
  by_cases e3 : a.length = b.length
  · have l1 : a.length ≤ b.length := by omega
    have l2 : b.length ≤ a.length := by omega
    have t3 : ((a.length : Int) != (b.length : Int)) = false := by simp [e3]
    clear e3
    go_enter Tryd.func50, Tryd.ntmps50
    go_wp2
    go_loopw [5, 13] (fun _ s13 wr => ∃ (k d : Nat), s13 = .int .i64 k ∧ k ≤ a.length ∧ wr = w.drewN d ∧ Hid (a.take k = b.take k)) (fun _ s13 _ => a.length - (intOf s13).toNat)
    case atStart => exact ⟨0, 0, rfl, Nat.zero_le _, rfl, Lib.hid rfl⟩
    case round =>
      obtain ⟨k, d, rfl, hk, rfl, HT⟩ := hrel
      have k0 : (0 : Int) ≤ (k : Int) := by omega
      by_cases hlt : k < a.length
      · obtain ⟨x, hx⟩ : ∃ x, a[k]? = some x := ⟨_, List.getElem?_eq_getElem hlt⟩
        obtain ⟨y, hy⟩ : ∃ x, b[k]? = some x := ⟨_, List.getElem?_eq_getElem (by omega)⟩
        obtain ⟨hwx, pk, po, hpk, rfl, h0⟩ := HEL.out k x hx
        obtain ⟨hwy, pk', po', hpk', rfl, h0'⟩ := HEL'.out k y hy
        have HX := Lib.hid hx
        have HY := Lib.hid hy
        have k1 : (k : Int) < (a.length : Int) := by omega
        have k2 : (k : Int) < (b.length : Int) := by omega
        clear hx hy hwx hwy
        by_cases hxy : x = y
        · have t1 : (x != y) = false := by simp [hxy]
          have HXY := Lib.hid hxy
          clear hxy
          go_wp2
          go_quiet (fail)
          go_wp2
          go_roundw
          case rel => exact ⟨k + 1, _, by go_num, by omega, rfl, Lib.hid (take_eq HT.out HX.out (by rw [HXY.out]; exact HY.out))⟩
          case measure => simp [intOf]; omega
        · have t1 : (x != y) = true := by simp [hxy]
          have HXY := Lib.hid hxy
          clear hxy
          go_wp2
          go_quiet (fail)
          go_wp2
          rw [World.drewN_drewN]
          exact ret_b (HR.out _) (decide_eq_false fun e => take_ne HX.out HY.out HXY.out e)
      · obtain rfl : k = a.length := by omega
        go_wp2
        refine ret_b (HR.out _) (decide_eq_true ?_)
        have h := HT.out
        rw [List.take_length, List.take_of_length_le (by omega)] at h
        exact h
  · have t3 : ((a.length : Int) != (b.length : Int)) = true := by simp; omega
    go_enter Tryd.func50, Tryd.ntmps50
    go_wp2
    exact ret_b (HR.out 0) (decide_eq_false fun e => e3 (by rw [e]))

theorem imSame_any (lo : Nat) (va vb : Value) (a b : Im) (w : World) (R : Ending → World → Prop) (ha : IsIm w lo va a) (hb : IsIm w lo vb b)
    (hR : ∀ w', Nw w w' → R (.returned (.bool (decide (a = b)))) w') : Calls Tryd.prog 28 #[va, vb] w R := by
  have HR := Lib.hid hR
  clear hR
  obtain ⟨W, H, l⟩ := a
  obtain ⟨W', H', l'⟩ := b
  obtain ⟨s, rfl, hi, -, -⟩ := ha
  obtain ⟨s', rfl, hi', -, -⟩ := hb
  have HI := Lib.hid hi
  have HI' := Lib.hid hi'
  obtain ⟨A, cap, rfl, -, -⟩ := hi
  obtain ⟨A', cap', rfl, -, -⟩ := hi'
  have N0 := Lib.hid (show Nw w ((w.alloc (.cells #[.int .i64 W, .int .i64 H, .slice A l.length cap] 25)).alloc (.cells #[.int .i64 W', .int .i64 H', .slice A' l'.length cap'] 25)) from ((Ch.refl _ _).alloc _).alloc _)
  by_cases e1 : W = W'
  · by_cases e2 : H = H'
    · subst e1 e2
      by_cases e3 : l = l'
      · subst e3
        go_enter Tryd.func28, Tryd.ntmps28
        go_wp2_with (go_at_call 50; refine equal_any lo _ _ l l _ _ (HI.out.kept N0.out nof) (HI'.out.kept N0.out nof) ?_; rw [decide_eq_true rfl]; intro d)
        exact ret_b (HR.out _ (N0.out.drewN _)) (by simp)
      · have E := Lib.hid e3
        clear e3
        go_enter Tryd.func28, Tryd.ntmps28
        go_wp2_with (go_at_call 50; refine equal_any lo _ _ l l' _ _ (HI.out.kept N0.out nof) (HI'.out.kept N0.out nof) ?_; rw [decide_eq_false E.out]; intro d)
        exact ret_b (HR.out _ (N0.out.drewN _)) (decide_eq_false fun e => E.out (by injection e with _ e; injection e))
    · have t2 : (H == H') = false := by simp [e2]
      subst e1
      go_enter Tryd.func28, Tryd.ntmps28
      go_wp2
      exact ret_b (HR.out _ N0.out) (decide_eq_false fun e => e2 (by injection e with _ e; injection e))
  · have t1 : (W == W') = false := by simp [e1]
    go_enter Tryd.func28, Tryd.ntmps28
    go_wp2
    exact ret_b (HR.out _ N0.out) (decide_eq_false fun e => e1 (by injection e))
end Go.Proofs.YtnhdnjhhjmgmnaaDoor
