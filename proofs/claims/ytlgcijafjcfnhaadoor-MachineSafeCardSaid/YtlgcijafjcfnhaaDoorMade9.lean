/-
  indelibleref09.Made: a program that numbers make, right for a number of points.
-/
import Derived.Test.YtlgcijafjcfnhaaDoorUnit
import Derived.Deep.DeepCutAuto
import Derived.Deep.CutBlock
namespace Go.Proofs.YtlgcijafjcfnhaaDoor
open Go.RowKit
set_option linter.unusedVariables false
set_option linter.unusedSimpArgs false

set_option maxRecDepth 100000 in
set_option maxHeartbeats 4000000 in
theorem Made9_any (lo : Nat) (v : Value) (l : List Int) (np : Nat) (w : World) (R : Ending → World → Prop) (hlo : lo ≤ w.heap.size) (hi : IsInts w lo v l) (hn' : np ≤ 1000000)
    (hR : ∀ w' p vp m, m ≤ 3 → IsMade np m p → OwnOps w' w.heap.size vp p → Nw w w' → R (.returned vp) w') : Calls Tryd.prog 16 #[v, .int .i64 np] w R := by
  have HR := Lib.hid hR
  have HI := Lib.hid hi
  clear hR
  obtain ⟨A, capl, rfl, hl, -⟩ := hi
  rcases Nat.eq_zero_or_pos np with hz | hz
  · subst hz
    go_enter Tryd.func16, Tryd.ntmps16
    go_wp2
    exact HR.out _ [] _ 0 (by omega) .nil ⟨rfl, .inl ⟨rfl, rfl⟩⟩ (Ch.refl _ _)
  · have hz1 : ¬ (np : Int) < 1 := by omega
    go_enter Tryd.func16, Tryd.ntmps16
    go_wp2_with (go_at_call 27; fail)
    have D0 : DS (w.alloc (.cells #[.slice A l.length capl, .int .i64 0] 77)) lo w.heap.size (.slice A l.length capl) l 0 := ⟨heap_alloc_eq _ rfl, HI.out.kept ((Ch.refl (fun _ => False) w).alloc _) (fun _ _ x => x), Nat.zero_le _, by omega⟩
    refine Next_ex lo w.heap.size _ l 0 4 _ _ D0 (by omega) (by omega) ?_
    intro w1 many k1 m1 m2 d1 c1
    have b1 : w.heap.size < w1.heap.size := lt_of_heap d1.blk
    have D1 := Lib.hid d1
    have C1 := Lib.hid (show Nw w w1 from ((Ch.refl (fun _ => False) w).alloc _).trans' c1 (fun n hn e => by omega))
    clear D0 d1 c1
    go_wp2
    go_loopw [5, 8] (fun s5 s8 wr => ∃ (k : Nat) (p : List Op3) (vp : Value) (kk : Nat), s8 = .int .i64 k ∧ vp = s5 ∧ (k : Int) ≤ many ∧ IsMade np k p ∧ OwnOps wr w1.heap.size vp p ∧ DS wr lo w.heap.size (.slice A l.length capl) l kk ∧ Ch (· = w.heap.size) w1 wr)
      (fun _ s8 _ => many.toNat - (intOf s8).toNat)
    case atStart => exact ⟨0, [], _, _, rfl, rfl, by omega, .nil, ⟨rfl, .inl ⟨rfl, rfl⟩⟩, D1.out, Ch.refl _ _⟩
    case round =>
      obtain ⟨k, p, vp, kk, rfl, rfl, hk, hmade, hown, hds, hch⟩ := hrel
      have HM := Lib.hid hmade
      have HO := Lib.hid hown
      have HD := Lib.hid hds
      have HC := Lib.hid hch
      clear hmade hown hds hch
      have k0 : (0 : Int) ≤ (k : Int) := by omega
      by_cases hlt : (k : Int) < many
      · go_wp2_with (go_at_call 28; fail)
        refine unit_any lo w.heap.size _ l kk np _ _ HD.out hz hn' ?_
        intro w2 u vu k2 hu ho2 d2 c2
        have HU := Lib.hid hu
        obtain ⟨g, capu, rfl, -⟩ := ho2.form hu.len.1
        have O2 := Lib.hid ho2
        have D2 := Lib.hid d2
        have C2 := Lib.hid c2
        clear hu ho2 d2 c2
        obtain ⟨wo, rfl⟩ : ∃ wo : World, wo = wr := ⟨_, rfl⟩
        go_upto_if 28 with (go_at_call 27; fail)
        refine Next_ex lo w.heap.size _ l k2 3 _ _ D2.out (by omega) (by omega) ?_
        intro w3 x k3 x1 x2 d3 c3
        have D3 := Lib.hid d3
        have C3 := Lib.hid (C2.out.trans c3)
        have hO3 := O2.out.ch c3 (fun j hj e => by have := (O2.out.lt j hj).1; have := HC.out.size; omega)
        have O3 := Lib.hid hO3
        clear d3 c3 hO3 D2 C2 O2
        go_upto_if 28 with (go_at_call 27; fail)
        go_cut [9] (fun s9 wx => ∃ (u : List Op3) (g cap kk : Nat), s9 = .slice (some ⟨g, 0, none⟩) u.length cap ∧ IsCond np u ∧ OwnOps wx wo.heap.size (.slice (some ⟨g, 0, none⟩) u.length cap) u ∧ DS wx lo w.heap.size (.slice A l.length capl) l kk ∧ Ch (· = w.heap.size) wo wx)
        case first =>
          by_cases hx : x = 0
          · subst hx
            go_wp2_with (go_at_call 27; fail)
            refine Next_ex lo w.heap.size _ l k3 14 _ _ D3.out (by omega) (by omega) ?_
            intro w4 y k4 y1 y2 d4 c4
            have D4 := Lib.hid d4
            have C4 := Lib.hid (C3.out.trans c4)
            have O4 := Lib.hid (O3.out.ch c4 (fun j hj e => by have := (O3.out.lt j hj).1; have := HC.out.size; omega))
            clear d4 c4
            go_wp2_with (first | (at_builtin; refine wpList_append_ops _ rfl (.tmp 38) (.tmp 39) (by rfl) wo.heap.size (.slice (some ⟨w4.heap.size, 0, none⟩) 4 4) (.slice (some ⟨g, 0, none⟩) u.length capu) [(9, 0, 0), (1, 6 + y, 0), (3, 0, 0), (14, (u.length : Int), 0)] u (by rfl) (by rfl) ?h1 (lo := w4.heap.size) ?h2 ?h3 ?h4 ?h5 ?_))
            case h1 => exact own_lit [(9, 0, 0), (1, 6 + y, 0), (3, 0, 0), (14, (u.length : Int), 0)] C4.out.size (by simp)
            case h2 => exact (O4.out.isOps (by have := HU.out.len; omega)).kept ((Ch.refl (fun _ => False) w4).alloc _) nof
            case h3 => exact HU.out.len.1
            case h4 => have := HU.out.len; simp; omega
            case h5 => have := C4.out.size; simp only [alloc_size]; omega
            intro g5 cap5 w5 ho5 hg5 hor5
            have ch5 : Nw w4 w5 := ((Ch.refl (fun _ => False) w4).alloc _).grown hg5 (fun j hj hl => by injection hj with hj; simp only at hj; omega)
            have D5 := Lib.hid (D4.out.kept ch5 (fun _ _ x => x))
            have C5 := Lib.hid (C4.out.trans' ch5 (fun n hn e => e.elim))
            have O5 := Lib.hid ho5
            clear ho5 hg5 hor5 ch5
            go_wp2
            go_meet
            exact ⟨_, g5, cap5, k4, rfl, .inr ⟨u, 6 + y, HU.out, rfl⟩, O5.out, D5.out, C5.out⟩
          · have hx0 : (x == 0) = false := beq_eq_false_iff_ne.2 hx
            go_wp2
            go_meet
            exact ⟨u, g, capu, k3, rfl, .inl HU.out, O3.out, D3.out, C3.out⟩
        case rest =>
          clear D3 C3 O3 HU
          obtain ⟨u2, g2, cap2, kk2, rfl, hu2, ho2, d2, c2⟩ := hcut
          have HU := Lib.hid hu2
          have O2 := Lib.hid ho2
          have D2 := Lib.hid d2
          have C2 := Lib.hid c2
          clear hu2 ho2 d2 c2
          go_upto_if 43 with (go_at_call 27; fail)
          refine Next_ex lo w.heap.size _ l kk2 3 _ _ D2.out (by omega) (by omega) ?_
          intro w3 x k3 x1 x2 d3 c3
          have D3 := Lib.hid d3
          have C3 := Lib.hid (C2.out.trans c3)
          have hO3 := O2.out.ch c3 (fun j hj e => by have := (O2.out.lt j hj).1; have := HC.out.size; omega)
          have O3 := Lib.hid hO3
          clear d3 c3 hO3 D2 C2 O2
          go_upto_if 43 with (go_at_call 27; fail)
          go_cut [9] (fun s9 wx => ∃ (u : List Op3) (g cap kk : Nat), s9 = .slice (some ⟨g, 0, none⟩) u.length cap ∧ IsPart np u ∧ OwnOps wx wo.heap.size (.slice (some ⟨g, 0, none⟩) u.length cap) u ∧ DS wx lo w.heap.size (.slice A l.length capl) l kk ∧ Ch (· = w.heap.size) wo wx)
          case first =>
            by_cases hx : x = 0
            · subst hx
              go_wp2_with (go_at_call 27; fail)
              refine Next_ex lo w.heap.size _ l k3 3 _ _ D3.out (by omega) (by omega) ?_
              intro w4 y k4 y1 y2 d4 c4
              have D4 := Lib.hid d4
              have C4 := Lib.hid (C3.out.trans c4)
              have O4 := Lib.hid (O3.out.ch c4 (fun j hj e => by have := (O3.out.lt j hj).1; have := HC.out.size; omega))
              clear d4 c4
              go_wp2_with (first | (at_builtin; refine wpList_append_ops _ rfl (.tmp 50) (.tmp 51) (by rfl) wo.heap.size (.slice (some ⟨w4.heap.size, 0, none⟩) 1 1) (.slice (some ⟨g2, 0, none⟩) u2.length cap2) [(15, 1 + y, (u2.length : Int))] u2 (by rfl) (by rfl) ?h1 (lo := w4.heap.size) ?h2 ?h3 ?h4 ?h5 ?_))
              case h1 => exact own_lit [(15, 1 + y, (u2.length : Int))] C4.out.size (by simp)
              case h2 => exact (O4.out.isOps (by have := HU.out.len; omega)).kept ((Ch.refl (fun _ => False) w4).alloc _) nof
              case h3 => exact HU.out.len.1
              case h4 => have := HU.out.len; simp; omega
              case h5 => have := C4.out.size; simp only [alloc_size]; omega
              intro g5 cap5 w5 ho5 hg5 hor5
              have ch5 : Nw w4 w5 := ((Ch.refl (fun _ => False) w4).alloc _).grown hg5 (fun j hj hl => by injection hj with hj; simp only at hj; omega)
              have D5 := Lib.hid (D4.out.kept ch5 (fun _ _ x => x))
              have C5 := Lib.hid (C4.out.trans' ch5 (fun n hn e => e.elim))
              have O5 := Lib.hid ho5
              clear ho5 hg5 hor5 ch5
              go_wp2
              go_meet
              exact ⟨_, g5, cap5, k4, rfl, .inr ⟨u2, (1 + y).toNat, HU.out, by omega, by rw [Int.toNat_of_nonneg (by omega)]⟩, O5.out, D5.out, C5.out⟩
            · have hx0 : (x == 0) = false := beq_eq_false_iff_ne.2 hx
              go_wp2
              go_meet
              exact ⟨u2, g2, cap2, k3, rfl, .inl HU.out, O3.out, D3.out, C3.out⟩
          case rest =>
            clear D3 C3 O3 HU
            obtain ⟨u3, g3, cap3, kk3, rfl, hu3, ho3, d3, c3⟩ := hcut
            have HU := Lib.hid hu3
            have O3 := Lib.hid ho3
            have D3 := Lib.hid d3
            have C3 := Lib.hid c3
            clear hu3 ho3 d3 c3
            have k3b : k ≤ 3 := by omega
            go_wp2_with (first | (at_builtin; refine wpList_append_ops _ rfl (.tmp 53) (.tmp 54) (by rfl) w1.heap.size vp (.slice (some ⟨g3, 0, none⟩) u3.length cap3) p u3 (by rfl) (by rfl) ?h1 (lo := wc.heap.size) ?h2 ?h3 ?h4 ?h5 ?_))
            case h1 => exact HO.out.ch C3.out (fun j hj e => by have := (HO.out.lt j hj).1; omega)
            case h2 => exact O3.out.isOps (by have := HU.out.len; omega)
            case h3 => exact HU.out.len.1
            case h4 => have := HU.out.len; have := HM.out.len; omega
            case h5 => have := C3.out.size; have := HC.out.size; omega
            intro g5 cap5 w5 ho5 hg5 hor5
            have ch5 : Ch (fun j => vp.ownBlock = some j) wc w5 := (Ch.refl _ wc).grown hg5 (fun j hj _ => hj)
            have D5 := Lib.hid (D3.out.kept ch5 (fun j hj e => by have := (HO.out.lt j e).1; omega))
            have C5 := Lib.hid ((HC.out.trans C3.out).trans' ch5 (fun n hn e => by have := (HO.out.lt n e).1; omega))
            have O5 := Lib.hid ho5
            clear ho5 hg5 hor5 ch5
            go_wp2
            refine ⟨⟨k + 1, _, _, kk3, rfl, rfl, by omega, .snoc HM.out HU.out, O5.out, D5.out, C5.out⟩, ?_⟩
            simp [intOf]; omega
      · go_wp2
        exact HR.out _ p _ k (by omega) HM.out (HO.out.lo (by omega)) (C1.out.trans' HC.out (fun n hn e => by omega))
end Go.Proofs.YtlgcijafjcfnhaaDoor
