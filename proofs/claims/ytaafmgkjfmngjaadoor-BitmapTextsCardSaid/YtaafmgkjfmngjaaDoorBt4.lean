/-
  bitmap.Text: the rows of a bitmap.
-/
import Derived.Test.YtaafmgkjfmngjaaDoorBld
import Derived.Test.YtaafmgkjfmngjaaDoorBhas
import Derived.Test.YtaafmgkjfmngjaaDoorTx4
namespace Go.Proofs.YtaafmgkjfmngjaaDoor
open Go.RowKit
set_option linter.unusedVariables false
set_option linter.unusedSimpArgs false
set_option maxRecDepth 100000

set_option maxHeartbeats 4000000 in
theorem bText_any (lo : Nat) (v : Value) (x : Bm) (w : World) (R : Ending → World → Prop) (h : IsBm w lo v x) (hlo : lo ≤ w.heap.size)
    (hR : ∀ w', Nw w w' → R (.returned (.string ⟨(textB x).toArray⟩)) w') : Calls Tryd.prog 24 #[v] w R := by
  have HR := Lib.hid hR
  clear hR
  have HX := Lib.hid h
  obtain ⟨W, H, l⟩ := x
  obtain ⟨s, rfl, hi, hw, hh⟩ := h
  obtain ⟨A, cap, rfl, ⟨hlc, hl⟩, hel⟩ := hi
  simp only at hw hh hl hel hlc
  clear hel
  unfold wfI at hw hh
  have HN := Lib.hid (show Nw w (w.alloc (.cells #[.int .i64 W, .int .i64 H, .slice A l.length cap] 28)) from (Ch.refl _ _).alloc _)
  have HX2 := Lib.hid (HX.out.kept HN.out nof)
  by_cases hE : bmE (W, H, l) = 0
  · have HE := Lib.hid hE
    have hlen := bmOk_len hE
    have hnat := bmOk_nat (bmOk_iff.2 hE)
    obtain ⟨⟨c1, c2⟩, ⟨d1, d2⟩, b3⟩ := bmE_ok hE
    simp only at c1 c2 d1 d2 b3 hlen hnat
    clear b3 hE
    obtain ⟨Wn, hWn⟩ : ∃ Wn : Nat, W = Wn := ⟨W.toNat, by omega⟩
    obtain ⟨Hn, hHn⟩ : ∃ Hn : Nat, H = Hn := ⟨H.toNat, by omega⟩
    subst hWn hHn
    simp only [Int.toNat_natCast] at hnat
    have HNAT := Lib.hid hnat
    clear hnat
    obtain ⟨T, hT⟩ : ∃ T, T = textB ((Wn : Int), (Hn : Int), l) := ⟨_, rfl⟩
    have hT0 : join (rowsB Wn l Hn) = T := by rw [hT]; unfold textB; rw [if_pos (bmOk_iff.2 HE.out)]; rfl
    have hTl : T.length ≤ 9312 := by rw [hT]; exact textB_len (bmOk_iff.2 HE.out)
    have HT := Lib.hid hT
    have HT0 := Lib.hid hT0
    clear hT hT0
    go_enter Tryd.func24, Tryd.ntmps24
    go_wp2_with (go_at_call 21; refine bmCheck_ok lo _ _ _ _ HX2.out HE.out ?_; intro w1 n1; (have p0 : w1.cell? ⟨w.heap.size, 0, none⟩ = some (.int .i64 (Wn : Int)) := n1.cell (cell_alloc_new rfl rfl) id); (have p1 : w1.cell? ⟨w.heap.size, 1, none⟩ = some (.int .i64 (Hn : Int)) := n1.cell (cell_alloc_new rfl rfl) id); (have p2 : w1.cell? ⟨w.heap.size, 2, none⟩ = some (.slice A l.length cap) := n1.cell (cell_alloc_new rfl rfl) id); (have z0 : w.heap.size < w1.heap.size := World.block_lt_of_cell? _ _ p0); (have HX3 := Lib.hid (HX2.out.kept n1 nof)); (have N1 := Lib.hid (HN.out.trans n1)); clear n1)
    have sz1 : w.heap.size < w1.heap.size := World.block_lt_of_cell? _ _ p0
    refine wp_named ?_
    intro W1 hW
    have a0 := Lib.hid (show W1.cell? ⟨w.heap.size, 0, none⟩ = some (.int .i64 (Wn : Int)) from by rw [hW]; exact cell_alloc_old _ p0)
    have a1 := Lib.hid (show W1.cell? ⟨w.heap.size, 1, none⟩ = some (.int .i64 (Hn : Int)) from by rw [hW]; exact cell_alloc_old _ p1)
    have a2 := Lib.hid (show W1.cell? ⟨w.heap.size, 2, none⟩ = some (.slice A l.length cap) from by rw [hW]; exact cell_alloc_old _ p2)
    have N2 := Lib.hid (show Nw w W1 from by rw [hW]; exact N1.out.alloc _)
    have HX4 := Lib.hid (show IsBm W1 lo (.agg #[.int .i64 (Wn : Int), .int .i64 (Hn : Int), .slice A l.length cap]) ((Wn : Int), (Hn : Int), l) from by rw [hW]; exact HX3.out.kept ((Ch.refl (fun _ => False) w1).alloc _) nof)
    have BB := Lib.hid (show Bld W1 w1.heap.size w1.heap.size [] from by rw [hW]; exact .inl ⟨Nat.le_refl _, _, heap_alloc_eq _ rfl, World.ownsRow_nil _ _ _ _, fun e => by cases e⟩)
    have SZ : W1.heap.size = w1.heap.size + 1 := by rw [hW]; exact Array.size_push _
    clear hW p0 p1 p2 HX2 HX3
    go_loopw [4, 5, 6] (fun s4 _ _ wr => ∃ (m : Nat) (acc : List UInt8), s4 = .int .i64 ((m : Int) - 1) ∧ m ≤ Hn ∧ Hid (acc ++ join (rowsB Wn l m) = T) ∧ Hid (Bld wr w1.heap.size w1.heap.size acc) ∧ Hid (Ch (fun j => w1.heap.size ≤ j) W1 wr)) (fun s4 _ _ _ => (intOf s4 + 1).toNat)
    case atStart => exact ⟨Hn, [], rfl, Nat.le_refl _, Lib.hid (by rw [List.nil_append]; exact HT0.out), BB, Lib.hid (Ch.refl _ _)⟩
    case round =>
      obtain ⟨m, acc, hs4, hm, HA, HB, HC⟩ := hrel
      cases m with
      | zero =>
        obtain rfl : u4 = .int .i64 (-1) := hs4
        have hacc : acc = T := by have := HA.out; simpa [rowsB, join] using this
        have HACC := Lib.hid hacc
        clear hacc
        have szr := HC.out.size
        go_wp2_with (go_at_call 45; refine bString_any w1.heap.size w1.heap.size acc _ _ HB.out (by omega) ?_; intro w9 c9; (have C9 := Lib.hid c9); clear c9)
        rw [HACC.out, HT.out]
        exact HR.out _ ((N2.out.trans' HC.out (fun n hn e => by omega)).trans' C9.out (fun n hn e => by omega))
      | succ y =>
        obtain rfl : u4 = .int .i64 (y : Int) := by rw [hs4]; congr 1; omega
        clear hs4
        have y0 : (0 : Int) ≤ (y : Int) := by omega
        have y1 : (y : Int) ≤ 100 := by omega
        have b0 := HC.out.cell a0.out (by show ¬ w1.heap.size ≤ w.heap.size; omega)
        obtain ⟨wo, rfl⟩ : ∃ wo : World, wo = wr := ⟨_, rfl⟩
        obtain ⟨a, ha⟩ : ∃ a : Nat, a = y * Wn := ⟨_, rfl⟩
        have ea : (y : Int) * (Wn : Int) = (a : Int) := by rw [ha]; simp
        have haW : a + Wn ≤ l.length := by
          have h1 := HNAT.out
          have h4 : (y + 1) * Wn ≤ Hn * Wn := Nat.mul_le_mul_right _ (by omega)
          rw [Nat.add_mul, Nat.one_mul, ← ha, Nat.mul_comm Hn Wn] at h4
          omega
        have HAY := Lib.hid ha
        have HEA := Lib.hid ea
        clear ha ea
        have accl : acc.length ≤ 10100 := by
          have h1 := congrArg List.length HA.out
          rw [List.length_append] at h1
          omega
        go_wp2_with fail
        go_loopw [5, 6, 19] (fun _ _ s19 wr => ∃ k : Nat, s19 = .int .i64 k ∧ k ≤ Wn ∧ Hid (Bld wr w1.heap.size w1.heap.size (acc ++ (rowB Wn l y).take k)) ∧ Hid (Ch (fun j => w1.heap.size ≤ j) W1 wr)) (fun _ _ s19 _ => Wn - (intOf s19).toNat)
        case atStart => exact ⟨0, rfl, Nat.zero_le _, Lib.hid (by rw [List.take_zero, List.append_nil]; exact HB.out), HC⟩
        case round =>
          clear HB HC b0
          obtain ⟨k, rfl, hk, HB, HC⟩ := hrel
          have k0 : (0 : Int) ≤ (k : Int) := by omega
          have szr := HC.out.size
          have rlen : (rowB Wn l y).length = Wn := rowB_len (H := Hn) HNAT.out (by omega)
          by_cases hlt : k < Wn
          · obtain ⟨p, hp⟩ : ∃ p, l[a + k]? = some p := ⟨_, List.getElem?_eq_getElem (by omega)⟩
            have k1 : (k : Int) < (Wn : Int) := by omega
            have hrk : (rowB Wn l y)[k]? = some (chrB p) := by
              have := HAY.out
              unfold rowB
              rw [List.getElem?_map, List.getElem?_take, if_pos hlt, List.getElem?_drop, ← this, hp]
              rfl
            have hgp : hasB ((Wn : Int), (Hn : Int), l) (k : Int) (y : Int) = p := by
              refine hasB_in ⟨k0, k1, y0, by show (y : Int) < (Hn : Int); omega⟩ ?_
              show l[((y : Int) * (Wn : Int) + (k : Int)).toNat]? = some p
              rw [HEA.out]
              rw [show ((a : Int) + (k : Int)).toNat = a + k by omega]
              exact hp
            have HRK := Lib.hid hrk
            have HGP := Lib.hid hgp
            have c0 := HC.out.cell a0.out (by show ¬ w1.heap.size ≤ w.heap.size; omega)
            have c1 := HC.out.cell a1.out (by show ¬ w1.heap.size ≤ w.heap.size; omega)
            have c2 := HC.out.cell a2.out (by show ¬ w1.heap.size ≤ w.heap.size; omega)
            have HX5 := Lib.hid (HX4.out.kept HC.out (fun j hj e => by omega))
            have al : (acc ++ (rowB Wn l y).take k).length ≤ 1000000 := by rw [List.length_append, List.length_take]; omega
            clear hp hrk rlen hgp
            cases p with
            | true =>
              go_wp2_with (first | (go_at_call 37; refine has_any lo _ _ _ _ _ _ HX5.out HE.out ?_; rw [HGP.out]; intro w7 n7; (have HB7 := Lib.hid (show Bld w7 w1.heap.size w1.heap.size (acc ++ (rowB Wn l y).take k) from bld_kept HB.out n7)); (have C7 := Lib.hid (HC.out.trans (n7.mono (fun _ _ h => h.elim)))); clear n7) | (go_at_call 44; refine WriteByte_any w1.heap.size w1.heap.size _ 35 _ _ HB7.out al ?_; intro w5 hb5 c5; (have HB5 := Lib.hid hb5); (have C5 := Lib.hid c5); clear hb5 c5))
              refine ⟨⟨k + 1, by go_num, by omega, Lib.hid ?_, Lib.hid (C7.out.trans' C5.out (fun n hn e => e))⟩, ?_⟩
              · have := HB5.out
                rw [List.append_assoc] at this
                rw [take_snoc4 HRK.out]
                exact this
              · simp [intOf]; omega
            | false =>
              go_wp2_with (first | (go_at_call 37; refine has_any lo _ _ _ _ _ _ HX5.out HE.out ?_; rw [HGP.out]; intro w7 n7; (have HB7 := Lib.hid (show Bld w7 w1.heap.size w1.heap.size (acc ++ (rowB Wn l y).take k) from bld_kept HB.out n7)); (have C7 := Lib.hid (HC.out.trans (n7.mono (fun _ _ h => h.elim)))); clear n7) | (go_at_call 44; refine WriteByte_any w1.heap.size w1.heap.size _ 46 _ _ HB7.out al ?_; intro w5 hb5 c5; (have HB5 := Lib.hid hb5); (have C5 := Lib.hid c5); clear hb5 c5))
              refine ⟨⟨k + 1, by go_num, by omega, Lib.hid ?_, Lib.hid (C7.out.trans' C5.out (fun n hn e => e))⟩, ?_⟩
              · have := HB5.out
                rw [List.append_assoc] at this
                rw [take_snoc4 HRK.out]
                exact this
              · simp [intOf]; omega
          · obtain rfl : k = Wn := by omega
            have al : (acc ++ rowB k l y).length ≤ 1000000 := by rw [List.length_append, rlen]; omega
            have HB4 := Lib.hid (show Bld wr w1.heap.size w1.heap.size (acc ++ rowB k l y) from by
              have h := HB.out
              rw [List.take_of_length_le (by omega)] at h
              exact h)
            clear HB rlen
            go_wp2_with (go_at_call 44; refine WriteByte_any w1.heap.size w1.heap.size _ 10 _ _ HB4.out al ?_; intro w5 hb5 c5; (have HB5 := Lib.hid hb5); (have C5 := Lib.hid c5); clear hb5 c5)
            refine ⟨⟨y, acc ++ rowB k l y ++ [10], ?_, by omega, Lib.hid ?_, HB5, Lib.hid (HC.out.trans' C5.out (fun n hn e => e))⟩, ?_⟩
            · go_num
            · have := HA.out
              rw [rowsB, join_cons] at this
              rw [← this]
              simp
            · simp [intOf]
  · obtain ⟨e, he, he2⟩ : ∃ e, bmE (W, H, l) = e ∧ (e = 5 ∨ e = 13) := ⟨_, rfl, (bmE_in _).resolve_left hE⟩
    have HE := Lib.hid he
    have HE0 := Lib.hid hE
    clear hE he
    rcases he2 with rfl | rfl
    all_goals
      go_enter Tryd.func24, Tryd.ntmps24
      go_wp2_with (go_at_call 21; refine bmCheck_any lo _ _ _ _ HX2.out ?_; rw [HE.out]; intro w1 n1; (have N1 := Lib.hid (HN.out.trans n1)); clear n1)
      have h0 := HR.out _ N1.out
      have e : textB (W, H, l) = [] := by unfold textB; rw [if_neg (fun h => HE0.out (bmOk_iff.1 h))]
      rw [e] at h0
      exact h0
end Go.Proofs.YtaafmgkjfmngjaaDoor
