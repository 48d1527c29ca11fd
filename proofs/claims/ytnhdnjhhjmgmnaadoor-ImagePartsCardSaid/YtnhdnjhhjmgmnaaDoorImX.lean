/-
  image.Text: the rows of an image.
-/
import Derived.Test.YtnhdnjhhjmgmnaaDoorImH
import Derived.Test.YtnhdnjhhjmgmnaaDoorBld
import Derived.Test.YtnhdnjhhjmgmnaaDoorTxt
namespace Go.Proofs.YtnhdnjhhjmgmnaaDoor
open Go.RowKit
set_option linter.unusedVariables false
set_option linter.unusedSimpArgs false
set_option maxRecDepth 100000

/-- The variable image.runes holds its three runes. -/
def RunesOk (w : World) : Prop := ∀ p : Int, 0 ≤ p → p ≤ 2 → w.cell? ⟨0, p.toNat, none⟩ = some (.int .i32 ((chrI p).toNat : Int))
theorem RunesOk.kept {w w' : World} {F : Nat → Prop} (h : RunesOk w) (hc : Ch F w w') (hF : ¬ F 0) : RunesOk w' := fun p h0 h1 => hc.cell (h p h0 h1) hF
theorem RunesOk.lt {w : World} (h : RunesOk w) : 0 < w.heap.size := World.block_lt_of_cell? w ⟨0, _, none⟩ (h 0 (by omega) (by omega))
theorem take_snocX {α : Type} {l : List α} {k : Nat} {x : α} (h : l[k]? = some x) : l.take (k + 1) = l.take k ++ [x] := by rw [List.take_add_one, h]; rfl
theorem chrI_lt (p : Int) : (chrI p).toNat < 128 := by unfold chrI; split <;> (try split) <;> decide

set_option maxHeartbeats 4000000 in
theorem imText_any (lo : Nat) (v : Value) (x : Im) (w : World) (R : Ending → World → Prop) (h : IsIm w lo v x) (hlo : lo ≤ w.heap.size) (hrn : RunesOk w)
    (hR : ∀ w', Nw w w' → R (.returned (.string ⟨(textM x).toArray⟩)) w') : Calls Tryd.prog 26 #[v] w R := by
  have HR := Lib.hid hR
  clear hR
  have HX := Lib.hid h
  have HRN := Lib.hid hrn
  have rl := hrn.lt
  clear hrn
  obtain ⟨W, H, l⟩ := x
  obtain ⟨s, rfl, hi, hw, hh⟩ := h
  obtain ⟨A, cap, rfl, ⟨hlc, hl⟩, hel⟩ := hi
  simp only at hw hh hl hel hlc
  have HEL := Lib.hid hel
  clear hel
  unfold wfI at hw hh
  have HN := Lib.hid (show Nw w (w.alloc (.cells #[.int .i64 W, .int .i64 H, .slice A l.length cap] 25)) from (Ch.refl _ _).alloc _)
  have HX2 := Lib.hid (HX.out.kept HN.out nof)
  by_cases hE : imOk (W, H, l)
  · have HE := Lib.hid hE
    have hlen := imOk_len hE
    have hnat := imOk_nat hE
    obtain ⟨⟨c1, c2⟩, ⟨d1, d2⟩, b3, b4⟩ := hE
    simp only at c1 c2 d1 d2 b3 b4 hlen hnat
    have HALL := Lib.hid b4
    clear b3 b4
    obtain ⟨Wn, hWn⟩ : ∃ Wn : Nat, W = Wn := ⟨W.toNat, by omega⟩
    obtain ⟨Hn, hHn⟩ : ∃ Hn : Nat, H = Hn := ⟨H.toNat, by omega⟩
    subst hWn hHn
    simp only [Int.toNat_natCast] at hnat
    have HNAT := Lib.hid hnat
    clear hnat
    obtain ⟨T, hT⟩ : ∃ T, T = textM ((Wn : Int), (Hn : Int), l) := ⟨_, rfl⟩
    have hT0 : join (rowsI Wn l Hn) = T := by rw [hT]; unfold textM; rw [if_pos HE.out]; rfl
    have hTl : T.length ≤ 10100 := by rw [hT]; exact textM_len HE.out
    have HT := Lib.hid hT
    have HT0 := Lib.hid hT0
    clear hT hT0
    go_enter Tryd.func26, Tryd.ntmps26
    go_wp2_with (go_at_call 22; refine imCheck_ok lo _ _ _ _ HX2.out HE.out ?_; intro w1 n1; (have p0 : w1.cell? ⟨w.heap.size, 0, none⟩ = some (.int .i64 (Wn : Int)) := n1.cell (cell_alloc_new rfl rfl) id); (have p1 : w1.cell? ⟨w.heap.size, 1, none⟩ = some (.int .i64 (Hn : Int)) := n1.cell (cell_alloc_new rfl rfl) id); (have p2 : w1.cell? ⟨w.heap.size, 2, none⟩ = some (.slice A l.length cap) := n1.cell (cell_alloc_new rfl rfl) id); (have z0 : w.heap.size < w1.heap.size := World.block_lt_of_cell? _ _ p0); (have N1 := Lib.hid (HN.out.trans n1)); clear n1)
    have sz1 : w.heap.size < w1.heap.size := World.block_lt_of_cell? _ _ p0
    refine wp_named ?_
    intro W1 hW
    have a0 := Lib.hid (show W1.cell? ⟨w.heap.size, 0, none⟩ = some (.int .i64 (Wn : Int)) from by rw [hW]; exact cell_alloc_old _ p0)
    have a2 := Lib.hid (show W1.cell? ⟨w.heap.size, 2, none⟩ = some (.slice A l.length cap) from by rw [hW]; exact cell_alloc_old _ p2)
    have N2 := Lib.hid (show Nw w W1 from by rw [hW]; exact N1.out.alloc _)
    have BB := Lib.hid (show Bld W1 w1.heap.size w1.heap.size [] from by rw [hW]; exact .inl ⟨Nat.le_refl _, _, heap_alloc_eq _ rfl, World.ownsRow_nil _ _ _ _, fun e => by cases e⟩)
    have SZ : W1.heap.size = w1.heap.size + 1 := by rw [hW]; exact Array.size_push _
    clear hW p0 p1 p2 HX2
    go_loopw [4, 6] (fun s4 _ wr => ∃ (m : Nat) (acc : List UInt8), s4 = .int .i64 ((m : Int) - 1) ∧ m ≤ Hn ∧ Hid (acc ++ join (rowsI Wn l m) = T) ∧ Hid (Bld wr w1.heap.size w1.heap.size acc) ∧ Hid (Ch (fun j => w1.heap.size ≤ j) W1 wr)) (fun s4 _ _ => (intOf s4 + 1).toNat)
    case atStart => exact ⟨Hn, [], rfl, Nat.le_refl _, Lib.hid (by rw [List.nil_append]; exact HT0.out), BB, Lib.hid (Ch.refl _ _)⟩
    case round =>
      obtain ⟨m, acc, hs4, hm, HA, HB, HC⟩ := hrel
      cases m with
      | zero =>
        obtain rfl : u4 = .int .i64 (-1) := hs4
        have hacc : acc = T := by have := HA.out; simpa [rowsI, join] using this
        have HACC := Lib.hid hacc
        clear hacc
        have szr := HC.out.size
        go_wp2_with (go_at_call 49; refine bString_any w1.heap.size w1.heap.size acc _ _ HB.out (by omega) ?_; intro w9 c9; (have C9 := Lib.hid c9); clear c9)
        rw [HACC.out, HT.out]
        exact HR.out _ ((N2.out.trans' HC.out (fun n hn e => by omega)).trans' C9.out (fun n hn e => by omega))
      | succ y =>
        obtain rfl : u4 = .int .i64 (y : Int) := by rw [hs4]; congr 1; omega
        clear hs4
        have y0 : (0 : Int) ≤ (y : Int) := by omega
        have y1 : (y : Int) ≤ 100 := by omega
        have b0 := HC.out.cell a0.out (by show ¬ w1.heap.size ≤ w.heap.size; omega)
        have b2 := HC.out.cell a2.out (by show ¬ w1.heap.size ≤ w.heap.size; omega)
        obtain ⟨wo, rfl⟩ : ∃ wo : World, wo = wr := ⟨_, rfl⟩
        obtain ⟨a, ha⟩ : ∃ a : Nat, a = y * Wn := ⟨_, rfl⟩
        have ea : (y : Int) * (Wn : Int) = (a : Int) := by rw [ha]; simp
        have eb : ((y : Int) + 1) * (Wn : Int) = ((a + Wn : Nat) : Int) := by rw [Int.add_mul, ea]; omega
        have haW : a + Wn ≤ l.length := by
          have h1 := HNAT.out
          have h4 : (y + 1) * Wn ≤ Hn * Wn := Nat.mul_le_mul_right _ (by omega)
          rw [Nat.add_mul, Nat.one_mul, ← ha, Nat.mul_comm Hn Wn] at h4
          omega
        have HAY := Lib.hid ha
        clear ha
        have accl : acc.length ≤ 10100 := by
          have h1 := congrArg List.length HA.out
          rw [List.length_append] at h1
          omega
        by_cases hW0 : Wn = 0
        · have rlen : rowI Wn l y = [] := by rw [hW0]; unfold rowI; simp
          have RLN := Lib.hid rlen
          have wz : ¬ ((0 : Int) < (Wn : Int)) := by omega
          clear rlen hW0
          cases A with
          | none =>
            rcases Decidable.em (a = cap) with rfl | hc0
            all_goals
              go_wp2_with fail
              try rw [show a + Wn - a = Wn from by omega]
              go_loop [6, 30] (fun _ s30 => s30 = .int .i64 0) (fun _ _ => 0)
              case atStart => rfl
              case round =>
                obtain rfl : u30 = .int .i64 0 := hrel
                have al : acc.length ≤ 1000000 := by omega
                go_wp2_with (go_at_call 48; refine WriteRune_any w1.heap.size w1.heap.size _ 10 _ _ HB.out (by decide) al ?_; intro w5 hb5 c5; (have HB5 := Lib.hid hb5); (have C5 := Lib.hid c5); clear hb5 c5)
                refine ⟨⟨y, acc ++ [10], ?_, by omega, Lib.hid ?_, HB5, Lib.hid (HC.out.trans' C5.out (fun n hn e => e))⟩, ?_⟩
                · go_num
                · have := HA.out
                  rw [rowsI, join_cons, RLN.out] at this
                  rw [← this]
                  simp
                · simp [intOf]
          | some ad =>
            rcases Decidable.em (a = cap) with rfl | hc0
            all_goals
              go_wp2_with fail
              try rw [show a + Wn - a = Wn from by omega]
              go_loop [6, 30] (fun _ s30 => s30 = .int .i64 0) (fun _ _ => 0)
              case atStart => rfl
              case round =>
                obtain rfl : u30 = .int .i64 0 := hrel
                have al : acc.length ≤ 1000000 := by omega
                go_wp2_with (go_at_call 48; refine WriteRune_any w1.heap.size w1.heap.size _ 10 _ _ HB.out (by decide) al ?_; intro w5 hb5 c5; (have HB5 := Lib.hid hb5); (have C5 := Lib.hid c5); clear hb5 c5)
                refine ⟨⟨y, acc ++ [10], ?_, by omega, Lib.hid ?_, HB5, Lib.hid (HC.out.trans' C5.out (fun n hn e => e))⟩, ?_⟩
                · go_num
                · have := HA.out
                  rw [rowsI, join_cons, RLN.out] at this
                  rw [← this]
                  simp
                · simp [intOf]
        · obtain ⟨pk, po, rfl, hpk⟩ : ∃ pk po, A = some ⟨pk, po, none⟩ ∧ pk < lo := by
            obtain ⟨x0, hx0⟩ : ∃ x0, l[a]? = some x0 := ⟨_, List.getElem?_eq_getElem (by omega)⟩
            obtain ⟨-, pk, po, h1, h2, -⟩ := HEL.out a x0 hx0
            exact ⟨pk, po, h2, h1⟩
          have hac : a ≠ cap := by omega
          go_wp2_with fail
          rw [show a + Wn - a = Wn from by omega]
          go_loopw [6, 30] (fun _ s30 wr => ∃ k : Nat, s30 = .int .i64 k ∧ k ≤ Wn ∧ Hid (Bld wr w1.heap.size w1.heap.size (acc ++ (rowI Wn l y).take k)) ∧ Hid (Ch (fun j => w1.heap.size ≤ j) W1 wr)) (fun _ s30 _ => Wn - (intOf s30).toNat)
          case atStart => exact ⟨0, rfl, Nat.zero_le _, Lib.hid (by rw [List.take_zero, List.append_nil]; exact HB.out), HC⟩
          case round =>
            clear HB HC b0 b2
            obtain ⟨k, rfl, hk, HB, HC⟩ := hrel
            have k0 : (0 : Int) ≤ (k : Int) := by omega
            have szr := HC.out.size
            have rlen : (rowI Wn l y).length = Wn := rowI_len (H := Hn) HNAT.out (by omega)
            by_cases hlt : k < Wn
            · obtain ⟨p, hp⟩ : ∃ p, l[a + k]? = some p := ⟨_, List.getElem?_eq_getElem (by omega)⟩
              obtain ⟨hwp, pk', po', hpk', e', h0⟩ := HEL.out _ p hp
              injection e' with e'
              injection e' with e1 e2
              subst e1 e2
              have h0 := HC.out.cell (N2.out.cell h0 id) (by show ¬ w1.heap.size ≤ pk; omega)
              rw [← Nat.add_assoc] at h0
              obtain ⟨q0, q1⟩ := HALL.out p (List.mem_of_getElem? hp)
              have h3 := (HRN.out.kept (N2.out) id) p q0 q1
              have h3 := HC.out.cell h3 (by show ¬ w1.heap.size ≤ 0; omega)
              have q2 : p < 3 := by omega
              have k1 : (k : Int) < (Wn : Int) := by omega
              have hrk : (rowI Wn l y)[k]? = some (chrI p) := by
                have := HAY.out
                unfold rowI
                rw [List.getElem?_map, List.getElem?_take, if_pos hlt, List.getElem?_drop, ← this, hp]
                rfl
              have HRK := Lib.hid hrk
              have al : (acc ++ (rowI Wn l y).take k).length ≤ 1000000 := by rw [List.length_append, List.length_take]; omega
              clear hp hrk rlen
              unfold wfI at hwp
              go_wp2_with (go_at_call 48; refine WriteRune_any w1.heap.size w1.heap.size _ (chrI p) _ _ HB.out (chrI_lt p) al ?_; intro w5 hb5 c5; (have HB5 := Lib.hid hb5); (have C5 := Lib.hid c5); clear hb5 c5)
              refine ⟨⟨k + 1, by go_num, by omega, Lib.hid ?_, Lib.hid (HC.out.trans' C5.out (fun n hn e => e))⟩, ?_⟩
              · have := HB5.out
                rw [List.append_assoc, ← take_snocX HRK.out] at this
                exact this
              · simp [intOf]; omega
            · obtain rfl : k = Wn := by omega
              have al : (acc ++ rowI k l y).length ≤ 1000000 := by rw [List.length_append, rlen]; omega
              have HB4 := Lib.hid (show Bld wr w1.heap.size w1.heap.size (acc ++ rowI k l y) from by
                have h := HB.out
                rw [List.take_of_length_le (by omega)] at h
                exact h)
              clear HB rlen
              go_wp2_with (go_at_call 48; refine WriteRune_any w1.heap.size w1.heap.size _ 10 _ _ HB4.out (by decide) al ?_; intro w5 hb5 c5; (have HB5 := Lib.hid hb5); (have C5 := Lib.hid c5); clear hb5 c5)
              refine ⟨⟨y, acc ++ rowI k l y ++ [10], ?_, by omega, Lib.hid ?_, HB5, Lib.hid (HC.out.trans' C5.out (fun n hn e => e))⟩, ?_⟩
              · go_num
              · have := HA.out
                rw [rowsI, join_cons] at this
                rw [← this]
                simp
              · simp [intOf]
  · have HE := Lib.hid hE
    clear hE
    go_enter Tryd.func26, Tryd.ntmps26
    go_wp2_with (go_at_call 22; refine imCheck_bad lo _ _ _ _ HX2.out HE.out ?_; intro w1 n1; (have N1 := Lib.hid (HN.out.trans n1)); clear n1)
    have h0 := HR.out _ N1.out
    have e : textM (W, H, l) = [] := by unfold textM; rw [if_neg HE.out]
    rw [e] at h0
    exact h0
end Go.Proofs.YtnhdnjhhjmgmnaaDoor
