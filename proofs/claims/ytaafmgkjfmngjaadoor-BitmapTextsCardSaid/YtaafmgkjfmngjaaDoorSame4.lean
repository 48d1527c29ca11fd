/-
  indelibleref04.Same, bitmap.Same, slices.Equal and slices.Clone at bools.
-/
import Derived.Test.YtaafmgkjfmngjaaDoorBRow
import Derived.Test.YtaafmgkjfmngjaaDoorClone
import Derived.Lib.SliceRun
namespace Go.Proofs.YtaafmgkjfmngjaaDoor
open Go.RowKit
set_option linter.unusedVariables false
set_option linter.unusedSimpArgs false
set_option maxRecDepth 100000

set_option maxHeartbeats 1000000 in
theorem rbSame_any (lo : Nat) (va vb : Value) (a b : Bm) (w : World) (R : Ending → World → Prop) (ha : IsBm w lo va a) (hb : IsBm w lo vb b)
    (hR : ∀ w', Nw w w' → R (.returned (.bool (decide (a = b)))) w') : Calls Tryd.prog 11 #[va, vb] w R := by
  have HR := Lib.hid hR
  clear hR
  obtain ⟨W, H, l⟩ := a
  obtain ⟨W', H', l'⟩ := b
  obtain ⟨s, rfl, ⟨A, cap, rfl, ⟨hlc, hl⟩, hel⟩, hw, hh⟩ := ha
  obtain ⟨s', rfl, ⟨A', cap', rfl, ⟨hlc', hl'⟩, hel'⟩, hw', hh'⟩ := hb
  simp only at hl hel hl' hel'
  have HEL := Lib.hid hel
  have HEL' := Lib.hid hel'
  have N0 := Lib.hid (show Nw w ((w.alloc (.cells #[.int .i64 W, .int .i64 H, .slice A l.length cap] 28)).alloc (.cells #[.int .i64 W', .int .i64 H', .slice A' l'.length cap'] 28)) from ((Ch.refl _ _).alloc _).alloc _)
  clear hel hel' hw hh hw' hh'
  by_cases e1 : W = W'
  · by_cases e2 : H = H'
    · by_cases e3 : l.length = l'.length
      · subst e1 e2
        have l1 : l.length ≤ l'.length := by omega
        have l2 : l'.length ≤ l.length := by omega
        have t3 : ((l.length : Int) != (l'.length : Int)) = false := by simp [e3]
        clear e3
        go_enter Tryd.func11, Tryd.ntmps11
        go_wp2
        refine wp_named ?_
        intro W1 hW
        have p2 : W1.cell? ⟨w.heap.size, 2, none⟩ = some (.slice A l.length cap) := by rw [hW]; exact cell_alloc_old _ (cell_alloc_new rfl rfl)
        have p3 : W1.cell? ⟨w.heap.size + 1, 2, none⟩ = some (.slice A' l'.length cap') := by rw [hW]; exact cell_alloc_new (by simp) rfl
        have N1 := Lib.hid (show Nw w W1 from by rw [hW]; exact N0.out)
        clear hW N0
        go_loopw [5] (fun s5 wr => ∃ (k d : Nat), s5 = .int .i64 k ∧ k ≤ l.length ∧ wr = W1.drewN d ∧ Hid (l.take k = l'.take k)) (fun s5 _ => l.length - (intOf s5).toNat)
        case atStart => exact ⟨0, 0, rfl, Nat.zero_le _, rfl, Lib.hid rfl⟩
        case round =>
          obtain ⟨k, d, rfl, hk, rfl, HT⟩ := hrel
          have k0 : (0 : Int) ≤ (k : Int) := by omega
          by_cases hlt : k < l.length
          · obtain ⟨x, hx⟩ : ∃ x, l[k]? = some x := ⟨_, List.getElem?_eq_getElem hlt⟩
            obtain ⟨y, hy⟩ : ∃ x, l'[k]? = some x := ⟨_, List.getElem?_eq_getElem (by omega)⟩
            obtain ⟨pk, po, hpk, rfl, h0⟩ := HEL.out k x hx
            obtain ⟨pk', po', hpk', rfl, h0'⟩ := HEL'.out k y hy
            have h0 := N1.out.cell h0 id
            have h0' := N1.out.cell h0' id
            have HX := Lib.hid hx
            have HY := Lib.hid hy
            have k1 : (k : Int) < (l.length : Int) := by omega
            have k2 : (k : Int) < (l'.length : Int) := by omega
            clear hx hy
            by_cases hxy : x = y
            · have t1 : (!(x == y)) = false := by simp [hxy]
              have HXY := Lib.hid hxy
              clear hxy
              go_wp2
              go_quiet (fail)
              go_wp2
              go_roundw
              case rel => exact ⟨k + 1, _, by go_num, by omega, rfl, Lib.hid (take_eq HT.out HX.out (by rw [HXY.out]; exact HY.out))⟩
              case measure => simp [intOf]; omega
            · have t1 : (!(x == y)) = true := by simp [hxy]
              have HXY := Lib.hid hxy
              clear hxy
              go_wp2
              go_quiet (fail)
              go_wp2
              refine ret_b (HR.out _ ?_) (decide_eq_false fun e => ?_)
              · exact (N1.out.drewN _).drewN _
              · injection e with _ e
                injection e with _ e
                exact take_ne HX.out HY.out HXY.out e
          · obtain rfl : k = l.length := by omega
            go_wp2
            refine ret_b (HR.out _ (N1.out.drewN _)) (decide_eq_true ?_)
            have h := HT.out
            rw [List.take_length, List.take_of_length_le (by omega)] at h
            rw [h]
      · have t3 : ((l.length : Int) != (l'.length : Int)) = true := by simp; omega
        subst e1 e2
        go_enter Tryd.func11, Tryd.ntmps11
        go_wp2
        exact ret_b (HR.out _ N0.out) (decide_eq_false fun e => e3 (by injection e with _ e; injection e with _ e; rw [e]))
    · have t2 : (H != H') = true := by simp [e2]
      subst e1
      go_enter Tryd.func11, Tryd.ntmps11
      go_wp2
      exact ret_b (HR.out _ N0.out) (decide_eq_false fun e => e2 (by injection e with _ e; injection e))
  · have t1 : (W != W') = true := by simp [e1]
    go_enter Tryd.func11, Tryd.ntmps11
    go_wp2
    exact ret_b (HR.out _ N0.out) (decide_eq_false fun e => e1 (by injection e))

theorem equalB_any (lo : Nat) (va vb : Value) (a b : List Bool) (w : World) (R : Ending → World → Prop) (ha : IsBools w lo va a) (hb : IsBools w lo vb b)
    (hR : ∀ d, R (.returned (.bool (decide (a = b)))) (w.drewN d)) : Calls Tryd.prog 46 #[va, vb] w R := by
  have HR := Lib.hid hR
  clear hR
  obtain ⟨A, cap, rfl, ⟨hlc, hl⟩, hel⟩ := ha
  obtain ⟨A', cap', rfl, ⟨hlc', hl'⟩, hel'⟩ := hb
  have HEL := Lib.hid hel
  have HEL' := Lib.hid hel'
  clear hel hel'
  by_cases e3 : a.length = b.length
  · have l1 : a.length ≤ b.length := by omega
    have l2 : b.length ≤ a.length := by omega
    have t3 : ((a.length : Int) != (b.length : Int)) = false := by simp [e3]
    clear e3
    go_enter Tryd.func46, Tryd.ntmps46
    go_wp2
    go_loopw [5, 13] (fun _ s13 wr => ∃ (k d : Nat), s13 = .int .i64 k ∧ k ≤ a.length ∧ wr = w.drewN d ∧ Hid (a.take k = b.take k)) (fun _ s13 _ => a.length - (intOf s13).toNat)
    case atStart => exact ⟨0, 0, rfl, Nat.zero_le _, rfl, Lib.hid rfl⟩
    case round =>
      obtain ⟨k, d, rfl, hk, rfl, HT⟩ := hrel
      have k0 : (0 : Int) ≤ (k : Int) := by omega
      by_cases hlt : k < a.length
      · obtain ⟨x, hx⟩ : ∃ x, a[k]? = some x := ⟨_, List.getElem?_eq_getElem hlt⟩
        obtain ⟨y, hy⟩ : ∃ x, b[k]? = some x := ⟨_, List.getElem?_eq_getElem (by omega)⟩
        obtain ⟨pk, po, hpk, rfl, h0⟩ := HEL.out k x hx
        obtain ⟨pk', po', hpk', rfl, h0'⟩ := HEL'.out k y hy
        have HX := Lib.hid hx
        have HY := Lib.hid hy
        have k1 : (k : Int) < (a.length : Int) := by omega
        have k2 : (k : Int) < (b.length : Int) := by omega
        clear hx hy
        by_cases hxy : x = y
        · have t1 : (!(x == y)) = false := by simp [hxy]
          have HXY := Lib.hid hxy
          clear hxy
          go_wp2
          go_quiet (fail)
          go_wp2
          go_roundw
          case rel => exact ⟨k + 1, _, by go_num, by omega, rfl, Lib.hid (take_eq HT.out HX.out (by rw [HXY.out]; exact HY.out))⟩
          case measure => simp [intOf]; omega
        · have t1 : (!(x == y)) = true := by simp [hxy]
          have HXY := Lib.hid hxy
          clear hxy
          go_wp2
          go_quiet (fail)
          go_wp2
          rw [World.drewN_drewN]
          exact ret_b (HR.out _) (decide_eq_false fun e => take_ne HX.out HY.out HXY.out e)
      · obtain rfl : k = a.length := by omega
        go_wp2
        refine ret_b (HR.out _) (decide_eq_true ?_)
        have h := HT.out
        rw [List.take_length, List.take_of_length_le (by omega)] at h
        exact h
  · have t3 : ((a.length : Int) != (b.length : Int)) = true := by simp; omega
    go_enter Tryd.func46, Tryd.ntmps46
    go_wp2
    exact ret_b (HR.out 0) (decide_eq_false fun e => e3 (by rw [e]))

theorem bSame_any (lo : Nat) (va vb : Value) (a b : Bm) (w : World) (R : Ending → World → Prop) (ha : IsBm w lo va a) (hb : IsBm w lo vb b)
    (hR : ∀ w', Nw w w' → R (.returned (.bool (decide (a = b)))) w') : Calls Tryd.prog 26 #[va, vb] w R := by
  have HR := Lib.hid hR
  clear hR
  obtain ⟨W, H, l⟩ := a
  obtain ⟨W', H', l'⟩ := b
  obtain ⟨s, rfl, hi, -, -⟩ := ha
  obtain ⟨s', rfl, hi', -, -⟩ := hb
  have HI := Lib.hid hi
  have HI' := Lib.hid hi'
  obtain ⟨A, cap, rfl, -, -⟩ := hi
  obtain ⟨A', cap', rfl, -, -⟩ := hi'
  have N0 := Lib.hid (show Nw w ((w.alloc (.cells #[.int .i64 W, .int .i64 H, .slice A l.length cap] 28)).alloc (.cells #[.int .i64 W', .int .i64 H', .slice A' l'.length cap'] 28)) from ((Ch.refl _ _).alloc _).alloc _)
  by_cases e1 : W = W'
  · by_cases e2 : H = H'
    · subst e1 e2
      by_cases e3 : l = l'
      · subst e3
        go_enter Tryd.func26, Tryd.ntmps26
        go_wp2_with (go_at_call 46; refine equalB_any lo _ _ l l _ _ (HI.out.kept N0.out nof) (HI'.out.kept N0.out nof) ?_; rw [decide_eq_true rfl]; intro d)
        exact ret_b (HR.out _ (N0.out.drewN _)) (by simp)
      · have E := Lib.hid e3
        clear e3
        go_enter Tryd.func26, Tryd.ntmps26
        go_wp2_with (go_at_call 46; refine equalB_any lo _ _ l l' _ _ (HI.out.kept N0.out nof) (HI'.out.kept N0.out nof) ?_; rw [decide_eq_false E.out]; intro d)
        exact ret_b (HR.out _ (N0.out.drewN _)) (decide_eq_false fun e => E.out (by injection e with _ e; injection e))
    · have t2 : (H == H') = false := by simp [e2]
      subst e1
      go_enter Tryd.func26, Tryd.ntmps26
      go_wp2
      exact ret_b (HR.out _ N0.out) (decide_eq_false fun e => e2 (by injection e with _ e; injection e))
  · have t1 : (W == W') = false := by simp [e1]
    go_enter Tryd.func26, Tryd.ntmps26
    go_wp2
    exact ret_b (HR.out _ N0.out) (decide_eq_false fun e => e1 (by injection e))

/-- 'append(s, x...)' onto an empty slice with a block of its own, whatever the number: at numbers. -/
theorem app_copyB {ops : Array Oper} {rest : List Oper} {oo : Oper} {a : Act} {Q : Exit → Act → World → Prop} (w : World) (hgd : oo.guard = none) (s x : Operand)
    (ho : oo.op = .call { callee := .builtin .append, args := #[s, x], argTypes := #[26, 26] })
    (B g0 : Nat) (hs : a.eval s = .slice (some ⟨g0, 0, none⟩) 0 0) (hown : w.ownsRow B 4 1 (.slice (some ⟨g0, 0, none⟩) 0 0) 0 [])
    (lo : Nat) (v : Value) (l : List Bool) (hx : a.eval x = v) (hi : IsBools w lo v l) (hA : ∃ ad n c, v = .slice (some ad) n c) (hl : l.length ≤ 1000000) (hB : B ≤ w.heap.size)
    (h : ∀ g cap w', BRow w' B (.slice (some ⟨g, 0, none⟩) l.length cap) l.length l → w.grownBy w' (some g0) → (g0 = g ∨ g = w.heap.size) → wpList Tryd.prog ops Q rest (a.put oo.dst (.slice (some ⟨g, 0, none⟩) l.length cap)) w') :
    wpList Tryd.prog ops Q (oo :: rest) a w := by
  obtain ⟨i, hi1, hz, hs1, hb⟩ := info_parts info_bool
  obtain ⟨A, c, rfl, -, hel⟩ := hi
  obtain ⟨ad, n', c', e⟩ := hA
  injection e with e1 e2 e3
  subst e1 e2 e3
  by_cases hm : l.length = 0
  · have hn : l = [] := List.eq_nil_of_length_eq_zero hm
    subst hn
    refine wpList_append_fits_any w hgd s x 26 ho B 4 i 1 Tryd.underlying26 hi1 hs1 g0 0 0 [] hs hown (some ad) 0 c [] hx rfl (fun h => by cases h) (fun _ _ j u hj => by cases hj) (fun u hu => by cases hu) (by omega) ?_
    intro w' h1 h2
    exact h g0 0 w' h1 h2 (Or.inl rfl)
  · refine wpList_append_lies w hgd s x 26 ho B 4 i _ 1 1 Tryd.underlying26 hi1 hz hs1 hb rfl (by omega) _ 0 [] hs hown ad l.length c (l.map Value.bool) hx (by simp) ?_ ?_ (by omega) (by unfold maxLen; omega) (by omega) hB _ rfl ?_
    · intro j u hj
      rw [List.getElem?_map] at hj
      obtain ⟨y, hy, rfl⟩ := Option.map_eq_some_iff.1 hj
      obtain ⟨pk, po, -, ea, h0⟩ := hel j y hy
      injection ea with ea
      subst ea
      have hadd : (⟨pk, po, none⟩ : Addr).add j = ⟨pk, po + j, none⟩ := by unfold Addr.add; split <;> simp_all
      rw [hadd]; exact h0
    · intro u hu
      obtain ⟨y, -, rfl⟩ := List.mem_map.1 hu
      rfl
    · intro g cap w' h1 h2 h3 _
      simp only [Nat.zero_add, List.nil_append] at h1 ⊢
      refine h g cap w' h1 h2 ?_
      rcases h3 with h3 | h3
      · injection h3 with h3; exact Or.inl h3
      · exact Or.inr h3

theorem cloneB_any (lo : Nat) (v : Value) (l : List Bool) (w : World) (R : Ending → World → Prop) (h : IsBools w lo v l) (hl : l.length ≤ 1000000)
    (hR : ∀ w' v', BRow w' w.heap.size v' l.length l → Nw w w' → R (.returned v') w') : Calls Tryd.prog 35 #[v] w R := by
  have HR := Lib.hid hR
  clear hR
  have HI := Lib.hid h
  obtain ⟨A, cap, rfl, -, hel⟩ := h
  have q22 : ∀ (w : World) (a : Option Addr) (n c n' c' : Nat), (binOp .eql 26 (.slice a n c) (.slice none n' c')).run Tryd.prog w = .ok (.bool a.isNone) w := fun w a n c n' c' => Lib.run_eql_slice_nil w _ _ a n c n' c' Tryd.underlying26
  cases A with
  | none =>
    have hn : l = [] := by
      cases l with
      | nil => rfl
      | cons x l => obtain ⟨pk, po, -, e, -⟩ := hel 0 x rfl; cases e
    subst hn
    clear hel
    go_enter Tryd.func35, Tryd.ntmps35
    go_wp2
    exact HR.out _ _ (BRow.nil _ _) (Ch.refl _ _)
  | some ad =>
    clear hel
    go_enter Tryd.func35, Tryd.ntmps35
    go_wp2_with (first | (at_builtin; refine app_copyB _ rfl (.tmp 5) (.tmp 6) rfl w.heap.size w.heap.size (by rfl) ?h1 lo _ l (by rfl) (HI.out.kept ((Ch.refl (fun _ => False) w).alloc _) nof) ⟨_, _, _, rfl⟩ hl ?h2 ?_))
    case h1 => exact World.ownsRow_made _ _ _ (Nat.le_refl _) (by unfold maxLen; omega) rfl
    case h2 => rw [alloc_size]; omega
    intro g cap2 w2 h1 h2 h3
    have H1 := Lib.hid h1
    have H2 := Lib.hid h2
    clear h1 h2 h3
    go_wp2
    exact HR.out _ _ H1.out (((Ch.refl (fun _ => False) w).alloc _).grown H2.out (fun k hk hl => by injection hk with hk; omega))
end Go.Proofs.YtaafmgkjfmngjaaDoor
