/-
  indelibleref04.Text: the rows of a bitmap.
-/
import Derived.Test.YtaafmgkjfmngjaaDoorImG
import Derived.Test.YtaafmgkjfmngjaaDoorTb
namespace Go.Proofs.YtaafmgkjfmngjaaDoor
open Go.RowKit
set_option linter.unusedVariables false
set_option linter.unusedSimpArgs false
set_option maxRecDepth 100000

theorem ba_append4 (a b : ByteArray) : (a ++ b).data.toList = a.data.toList ++ b.data.toList := by simp
theorem ba_len4 (b : ByteArray) : b.data.toList.length = b.size := Array.length_toList
theorem ba_eq4 {a : ByteArray} {l : List UInt8} (h : a.data.toList = l) : a = ⟨l.toArray⟩ := by subst h; simp
theorem take_snoc4 {α : Type} {l : List α} {k : Nat} {x : α} (h : l[k]? = some x) : l.take (k + 1) = l.take k ++ [x] := by rw [List.take_add_one, h]; rfl
theorem bmOk_len {b : Bm} (h : bmE b = 0) : b.2.2.length ≤ 10000 := by
  obtain ⟨h1, h2, h3⟩ := bmE_ok h
  have := (mul96 (a := b.1) (b := b.2.1) ⟨h1.1, by omega⟩ ⟨h2.1, by omega⟩).2
  omega

set_option maxHeartbeats 4000000 in
theorem rbText_any (lo : Nat) (v : Value) (x : Bm) (w : World) (R : Ending → World → Prop) (h : IsBm w lo v x) (hlo : lo ≤ w.heap.size)
    (hR : ∀ w', Nw w w' → R (.returned (.string ⟨(textB x).toArray⟩)) w') : Calls Tryd.prog 25 #[v] w R := by
  have HR := Lib.hid hR
  clear hR
  have HX := Lib.hid h
  obtain ⟨W, H, l⟩ := x
  obtain ⟨s, rfl, hi, hw, hh⟩ := h
  obtain ⟨A, cap, rfl, ⟨hlc, hl⟩, hel⟩ := hi
  simp only at hw hh hl hel hlc
  clear hel
  unfold wfI at hw hh
  have HN := Lib.hid (show Nw w (w.alloc (.cells #[.int .i64 W, .int .i64 H, .slice A l.length cap] 28)) from (Ch.refl _ _).alloc _)
  have HX2 := Lib.hid (HX.out.kept HN.out nof)
  by_cases hE : bmE (W, H, l) = 0
  · have HE := Lib.hid hE
    have hlen := bmOk_len hE
    have hnat := bmOk_nat (bmOk_iff.2 hE)
    obtain ⟨⟨c1, c2⟩, ⟨d1, d2⟩, b3⟩ := bmE_ok hE
    simp only at c1 c2 d1 d2 b3 hlen hnat
    clear b3
    obtain ⟨Wn, hWn⟩ : ∃ Wn : Nat, W = Wn := ⟨W.toNat, by omega⟩
    obtain ⟨Hn, hHn⟩ : ∃ Hn : Nat, H = Hn := ⟨H.toNat, by omega⟩
    subst hWn hHn
    simp only [Int.toNat_natCast] at hnat
    have HNAT := Lib.hid hnat
    clear hnat
    obtain ⟨T, hT⟩ : ∃ T, T = textB ((Wn : Int), (Hn : Int), l) := ⟨_, rfl⟩
    have hT0 : join (rowsB Wn l Hn) = T := by rw [hT]; unfold textB; rw [if_pos (bmOk_iff.2 HE.out)]; rfl
    have hTl : T.length ≤ 9312 := by rw [hT]; exact textB_len (bmOk_iff.2 HE.out)
    have HT := Lib.hid hT
    have HT0 := Lib.hid hT0
    clear hT hT0 hE
    go_enter Tryd.func25, Tryd.ntmps25
    go_wp2_with fail
    refine wp_named ?_
    intro W1 hW
    have a0 := Lib.hid (show W1.cell? ⟨w.heap.size, 0, none⟩ = some (.int .i64 (Wn : Int)) from by rw [hW]; exact cell_alloc_new rfl rfl)
    have a1 := Lib.hid (show W1.cell? ⟨w.heap.size, 1, none⟩ = some (.int .i64 (Hn : Int)) from by rw [hW]; exact cell_alloc_new rfl rfl)
    have a2 := Lib.hid (show W1.cell? ⟨w.heap.size, 2, none⟩ = some (.slice A l.length cap) from by rw [hW]; exact cell_alloc_new rfl rfl)
    have N2 := Lib.hid (show Nw w W1 from by rw [hW]; exact HN.out)
    have HX3 := Lib.hid (show IsBm W1 lo (.agg #[.int .i64 (Wn : Int), .int .i64 (Hn : Int), .slice A l.length cap]) ((Wn : Int), (Hn : Int), l) from by rw [hW]; exact HX2.out)
    clear hW HX2
    go_loopw [3, 4, 5] (fun s3 s4 _ wr => ∃ (m : Nat) (b : ByteArray), s4 = .int .i64 ((m : Int) - 1) ∧ s3 = .string b ∧ m ≤ Hn ∧ Hid (b.data.toList ++ join (rowsB Wn l m) = T) ∧ Hid (Nw W1 wr)) (fun _ s4 _ _ => (intOf s4 + 1).toNat)
    case atStart => exact ⟨Hn, _, rfl, rfl, Nat.le_refl _, Lib.hid (by show [] ++ _ = _; rw [List.nil_append]; exact HT0.out), Lib.hid (Ch.refl _ _)⟩
    case round =>
      obtain ⟨m, b, hs4, rfl, hm, HA, HC⟩ := hrel
      have b0 := HC.out.cell a0.out id
      have b1 := HC.out.cell a1.out id
      have b2 := HC.out.cell a2.out id
      have HX4 := Lib.hid (HX3.out.kept HC.out nof)
      cases m with
      | zero =>
        obtain rfl : u4 = .int .i64 (-1) := hs4
        have hacc : b.data.toList = T := by have := HA.out; simpa [rowsB, join] using this
        have HACC := Lib.hid hacc
        clear hacc
        go_wp2_with (go_at_call 22; refine rbCheck_ok lo _ _ _ _ HX4.out HE.out ?_; intro w5 n5; (have N5 := Lib.hid (N2.out.trans (HC.out.trans n5))); clear n5)
        have := HR.out _ N5.out
        rw [← HT.out, ← ba_eq4 HACC.out] at this
        exact this
      | succ y =>
        obtain rfl : u4 = .int .i64 (y : Int) := by rw [hs4]; congr 1; omega
        clear hs4
        have y0 : (0 : Int) ≤ (y : Int) := by omega
        have y1 : (y : Int) ≤ 100 := by omega
        obtain ⟨a, ha⟩ : ∃ a : Nat, a = y * Wn := ⟨_, rfl⟩
        have ea : (y : Int) * (Wn : Int) = (a : Int) := by rw [ha]; simp
        have haW : a + Wn ≤ l.length := by
          have h1 := HNAT.out
          have h4 : (y + 1) * Wn ≤ Hn * Wn := Nat.mul_le_mul_right _ (by omega)
          rw [Nat.add_mul, Nat.one_mul, ← ha, Nat.mul_comm Hn Wn] at h4
          omega
        have HAY := Lib.hid ha
        have HEA := Lib.hid ea
        clear ha ea
        have accl : b.size ≤ 10100 := by
          have h1 := congrArg List.length HA.out
          rw [List.length_append] at h1
          have h2 := ba_len4 b
          omega
        have ACCL := Lib.hid accl
        go_wp2_with (go_at_call 22; refine rbCheck_ok lo _ _ _ _ HX4.out HE.out ?_; intro w5 n5; (have k0 := n5.cell b0 id); (have k1 := n5.cell b1 id); (have k2 := n5.cell b2 id); (have HX5 := Lib.hid (HX4.out.kept n5 nof)); (have C5 := Lib.hid (HC.out.trans n5)); clear n5)
        go_loopw [3, 5] (fun s3 s5 wr => ∃ (k : Nat) (b' : ByteArray), s5 = .int .i64 k ∧ s3 = .string b' ∧ k ≤ Wn ∧ Hid (Nw w5 wr) ∧ Hid (b'.data.toList = b.data.toList ++ (rowB Wn l y).take k)) (fun _ s5 _ => Wn - (intOf s5).toNat)
        case atStart => exact ⟨0, b, rfl, rfl, Nat.zero_le _, Lib.hid (Ch.refl _ _), Lib.hid (by rw [List.take_zero, List.append_nil])⟩
        case round =>
          obtain ⟨k, b', rfl, rfl, hk, HC6, HB⟩ := hrel
          have q0 : (0 : Int) ≤ (k : Int) := by omega
          have rlen : (rowB Wn l y).length = Wn := rowB_len (H := Hn) HNAT.out (by omega)
          have bl : b'.size ≤ 1000000 := by
            have h1 := congrArg List.length HB.out
            rw [List.length_append, List.length_take] at h1
            have h2 := ba_len4 b
            have h3 := ba_len4 b'
            omega
          have k0 := HC6.out.cell k0 id
          have k1 := HC6.out.cell k1 id
          have k2 := HC6.out.cell k2 id
          have HX6 := Lib.hid (HX5.out.kept HC6.out nof)
          by_cases hlt : k < Wn
          · obtain ⟨p, hp⟩ : ∃ p, l[a + k]? = some p := ⟨_, List.getElem?_eq_getElem (by omega)⟩
            have q1 : (k : Int) < (Wn : Int) := by omega
            have hrk : (rowB Wn l y)[k]? = some (chrB p) := by
              have := HAY.out
              unfold rowB
              rw [List.getElem?_map, List.getElem?_take, if_pos hlt, List.getElem?_drop, ← this, hp]
              rfl
            have hgp : getB ((Wn : Int), (Hn : Int), l) (k : Int) (y : Int) = p := by
              refine getB_in HE.out ⟨q0, q1, y0, by show (y : Int) < (Hn : Int); omega⟩ ?_
              show l[((y : Int) * (Wn : Int) + (k : Int)).toNat]? = some p
              rw [HEA.out]
              rw [show ((a : Int) + (k : Int)).toNat = a + k by omega]
              exact hp
            have HRK := Lib.hid hrk
            have HGP := Lib.hid hgp
            clear hp hrk rlen hgp
            cases p with
            | true =>
              go_wp2_with (go_at_call 30; refine rGet_any lo _ _ _ _ _ _ HX6.out ?_; rw [HGP.out]; intro w7 n7; (have C7 := Lib.hid (HC6.out.trans n7)); clear n7)
              refine ⟨⟨k + 1, _, by go_num, rfl, by omega, C7, Lib.hid ?_⟩, ?_⟩
              · rw [ba_append4, HB.out, take_snoc4 HRK.out, ← List.append_assoc]
                rfl
              · simp [intOf]; omega
            | false =>
              go_wp2_with (go_at_call 30; refine rGet_any lo _ _ _ _ _ _ HX6.out ?_; rw [HGP.out]; intro w7 n7; (have C7 := Lib.hid (HC6.out.trans n7)); clear n7)
              refine ⟨⟨k + 1, _, by go_num, rfl, by omega, C7, Lib.hid ?_⟩, ?_⟩
              · rw [ba_append4, HB.out, take_snoc4 HRK.out, ← List.append_assoc]
                rfl
              · simp [intOf]; omega
          · obtain rfl : k = Wn := by omega
            go_wp2_with fail
            refine ⟨⟨y, b' ++ ⟨#[10]⟩, ?_, rfl, by omega, Lib.hid ?_, Lib.hid (C5.out.trans HC6.out)⟩, ?_⟩
            · go_num
            · have := HA.out
              have hB := HB.out
              rw [List.take_of_length_le (by omega)] at hB
              rw [rowsB, join_cons] at this
              rw [ba_append4, hB, ← this]
              simp
            · simp [intOf]
  · obtain ⟨e, he, he2⟩ : ∃ e, bmE (W, H, l) = e ∧ (e = 5 ∨ e = 13) := ⟨_, rfl, (bmE_in _).resolve_left hE⟩
    have HE := Lib.hid he
    have HE0 := Lib.hid hE
    clear hE he
    rcases he2 with rfl | rfl
    all_goals
      go_enter Tryd.func25, Tryd.ntmps25
      go_wp2_with fail
      go_loop [3, 4, 5] (fun s3 _ _ => s3 = .string ⟨#[]⟩) (fun _ _ _ => 0)
      case atStart => rfl
      case round =>
        obtain rfl := hrel
        go_wp2_with (go_at_call 22; refine rbCheck_any lo _ _ _ _ HX2.out ?_; rw [HE.out]; intro w1 n1; (have N1 := Lib.hid (HN.out.trans n1)); clear n1)
        have h0 := HR.out _ N1.out
        have e : textB (W, H, l) = [] := by unfold textB; rw [if_neg (fun h => HE0.out (bmOk_iff.1 h))]
        rw [e] at h0
        exact h0
end Go.Proofs.YtaafmgkjfmngjaaDoor
