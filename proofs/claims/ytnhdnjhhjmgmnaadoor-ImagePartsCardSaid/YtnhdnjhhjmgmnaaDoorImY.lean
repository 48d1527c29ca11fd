/-
  indelibleref22.Text: the rows of an image.
-/
import Derived.Test.YtnhdnjhhjmgmnaaDoorImX
namespace Go.Proofs.YtnhdnjhhjmgmnaaDoor
open Go.RowKit
set_option linter.unusedVariables false
set_option linter.unusedSimpArgs false
set_option maxRecDepth 100000

theorem ba_append (a b : ByteArray) : (a ++ b).data.toList = a.data.toList ++ b.data.toList := by simp
theorem ba_len (b : ByteArray) : b.data.toList.length = b.size := Array.length_toList
theorem ba_eq {a : ByteArray} {l : List UInt8} (h : a.data.toList = l) : a = ⟨l.toArray⟩ := by subst h; simp

set_option maxHeartbeats 4000000 in
theorem riText_any (lo : Nat) (v : Value) (x : Im) (w : World) (R : Ending → World → Prop) (h : IsIm w lo v x) (hlo : lo ≤ w.heap.size)
    (hR : ∀ w', Nw w w' → R (.returned (.string ⟨(textM x).toArray⟩)) w') : Calls Tryd.prog 27 #[v] w R := by
  have HR := Lib.hid hR
  clear hR
  have HX := Lib.hid h
  obtain ⟨W, H, l⟩ := x
  obtain ⟨s, rfl, hi, hw, hh⟩ := h
  obtain ⟨A, cap, rfl, ⟨hlc, hl⟩, hel⟩ := hi
  simp only at hw hh hl hel hlc
  have HEL := Lib.hid hel
  clear hel
  unfold wfI at hw hh
  have HN := Lib.hid (show Nw w (w.alloc (.cells #[.int .i64 W, .int .i64 H, .slice A l.length cap] 25)) from (Ch.refl _ _).alloc _)
  have HX2 := Lib.hid (HX.out.kept HN.out nof)
  by_cases hE : imOk (W, H, l)
  · have HE := Lib.hid hE
    have hlen := imOk_len hE
    have hnat := imOk_nat hE
    obtain ⟨⟨c1, c2⟩, ⟨d1, d2⟩, b3, b4⟩ := hE
    simp only at c1 c2 d1 d2 b3 b4 hlen hnat
    have HALL := Lib.hid b4
    clear b3 b4
    obtain ⟨Wn, hWn⟩ : ∃ Wn : Nat, W = Wn := ⟨W.toNat, by omega⟩
    obtain ⟨Hn, hHn⟩ : ∃ Hn : Nat, H = Hn := ⟨H.toNat, by omega⟩
    subst hWn hHn
    simp only [Int.toNat_natCast] at hnat
    have HNAT := Lib.hid hnat
    clear hnat
    obtain ⟨T, hT⟩ : ∃ T, T = textM ((Wn : Int), (Hn : Int), l) := ⟨_, rfl⟩
    have hT0 : join (rowsI Wn l Hn) = T := by rw [hT]; unfold textM; rw [if_pos HE.out]; rfl
    have hTl : T.length ≤ 10100 := by rw [hT]; exact textM_len HE.out
    have HT := Lib.hid hT
    have HT0 := Lib.hid hT0
    clear hT hT0
    go_enter Tryd.func27, Tryd.ntmps27
    go_wp2_with fail
    refine wp_named ?_
    intro W1 hW
    have a0 := Lib.hid (show W1.cell? ⟨w.heap.size, 0, none⟩ = some (.int .i64 (Wn : Int)) from by rw [hW]; exact cell_alloc_new rfl rfl)
    have a1 := Lib.hid (show W1.cell? ⟨w.heap.size, 1, none⟩ = some (.int .i64 (Hn : Int)) from by rw [hW]; exact cell_alloc_new rfl rfl)
    have a2 := Lib.hid (show W1.cell? ⟨w.heap.size, 2, none⟩ = some (.slice A l.length cap) from by rw [hW]; exact cell_alloc_new rfl rfl)
    have N2 := Lib.hid (show Nw w W1 from by rw [hW]; exact HN.out)
    have HX3 := Lib.hid (show IsIm W1 lo (.agg #[.int .i64 (Wn : Int), .int .i64 (Hn : Int), .slice A l.length cap]) ((Wn : Int), (Hn : Int), l) from by rw [hW]; exact HX2.out)
    clear hW HX2
    go_loopw [3, 4, 5] (fun s3 s4 _ wr => ∃ (m : Nat) (b : ByteArray), s4 = .int .i64 ((m : Int) - 1) ∧ s3 = .string b ∧ m ≤ Hn ∧ Hid (b.data.toList ++ join (rowsI Wn l m) = T) ∧ Hid (Nw W1 wr)) (fun _ s4 _ _ => (intOf s4 + 1).toNat)
    case atStart => exact ⟨Hn, _, rfl, rfl, Nat.le_refl _, Lib.hid (by show [] ++ _ = _; rw [List.nil_append]; exact HT0.out), Lib.hid (Ch.refl _ _)⟩
    case round =>
      obtain ⟨m, b, hs4, rfl, hm, HA, HC⟩ := hrel
      have b0 := HC.out.cell a0.out id
      have b1 := HC.out.cell a1.out id
      have b2 := HC.out.cell a2.out id
      have HX4 := Lib.hid (HX3.out.kept HC.out nof)
      cases m with
      | zero =>
        obtain rfl : u4 = .int .i64 (-1) := hs4
        have hacc : b.data.toList = T := by have := HA.out; simpa [rowsI, join] using this
        have HACC := Lib.hid hacc
        clear hacc
        go_wp2_with (go_at_call 23; refine riCheck_ok lo _ _ _ _ HX4.out HE.out ?_; intro w5 n5; (have N5 := Lib.hid (N2.out.trans (HC.out.trans n5))); clear n5)
        have := HR.out _ N5.out
        rw [← HT.out, ← ba_eq HACC.out] at this
        exact this
      | succ y =>
        obtain rfl : u4 = .int .i64 (y : Int) := by rw [hs4]; congr 1; omega
        clear hs4
        have y0 : (0 : Int) ≤ (y : Int) := by omega
        have y1 : (y : Int) ≤ 100 := by omega
        obtain ⟨a, ha⟩ : ∃ a : Nat, a = y * Wn := ⟨_, rfl⟩
        have ea : (y : Int) * (Wn : Int) = (a : Int) := by rw [ha]; simp
        have haW : a + Wn ≤ l.length := by
          have h1 := HNAT.out
          have h4 : (y + 1) * Wn ≤ Hn * Wn := Nat.mul_le_mul_right _ (by omega)
          rw [Nat.add_mul, Nat.one_mul, ← ha, Nat.mul_comm Hn Wn] at h4
          omega
        have HAY := Lib.hid ha
        clear ha
        have accl : b.size ≤ 10100 := by
          have h1 := congrArg List.length HA.out
          rw [List.length_append] at h1
          have h2 := ba_len b
          omega
        have ACCL := Lib.hid accl
        go_wp2_with (go_at_call 23; refine riCheck_ok lo _ _ _ _ HX4.out HE.out ?_; intro w5 n5; (have k0 := n5.cell b0 id); (have k1 := n5.cell b1 id); (have k2 := n5.cell b2 id); (have C5 := Lib.hid (HC.out.trans n5)); clear n5)
        go_loopw [3, 5] (fun s3 s5 wr => ∃ (k : Nat) (b' : ByteArray), s5 = .int .i64 k ∧ s3 = .string b' ∧ k ≤ Wn ∧ wr = w5 ∧ Hid (b'.data.toList = b.data.toList ++ (rowI Wn l y).take k)) (fun _ s5 _ => Wn - (intOf s5).toNat)
        case atStart => exact ⟨0, b, rfl, rfl, Nat.zero_le _, rfl, Lib.hid (by rw [List.take_zero, List.append_nil])⟩
        case round =>
          obtain ⟨k, b', rfl, rfl, hk, rfl, HB⟩ := hrel
          have q0 : (0 : Int) ≤ (k : Int) := by omega
          have rlen : (rowI Wn l y).length = Wn := rowI_len (H := Hn) HNAT.out (by omega)
          have bl : b'.size ≤ 1000000 := by
            have h1 := congrArg List.length HB.out
            rw [List.length_append, List.length_take] at h1
            have h2 := ba_len b
            have h3 := ba_len b'
            omega
          by_cases hlt : k < Wn
          · obtain ⟨p, hp⟩ : ∃ p, l[a + k]? = some p := ⟨_, List.getElem?_eq_getElem (by omega)⟩
            obtain ⟨hwp, pk', po', hpk', rfl, h0⟩ := HEL.out _ p hp
            have h0 := C5.out.cell (N2.out.cell h0 id) id
            obtain ⟨z0, z1⟩ := HALL.out p (List.mem_of_getElem? hp)
            have q1 : (k : Int) < (Wn : Int) := by omega
            have hrk : (rowI Wn l y)[k]? = some (chrI p) := by
              have := HAY.out
              unfold rowI
              rw [List.getElem?_map, List.getElem?_take, if_pos hlt, List.getElem?_drop, ← this, hp]
              rfl
            have HRK := Lib.hid hrk
            clear hp hrk rlen hwp
            have hp3 : p = 0 ∨ p = 1 ∨ p = 2 := by omega
            rcases hp3 with rfl | rfl | rfl
            all_goals
              go_wp2_with fail
              refine ⟨⟨k + 1, _, by go_num, rfl, by omega, trivial, Lib.hid ?_⟩, ?_⟩
              · rw [ba_append, HB.out, take_snocX HRK.out, ← List.append_assoc]
                rfl
              · simp [intOf]; omega
          · obtain rfl : k = Wn := by omega
            go_wp2_with fail
            refine ⟨⟨y, b' ++ ⟨#[10]⟩, ?_, rfl, by omega, Lib.hid ?_, C5⟩, ?_⟩
            · go_num
            · have := HA.out
              have hB := HB.out
              rw [List.take_of_length_le (by omega)] at hB
              rw [rowsI, join_cons] at this
              rw [ba_append, hB, ← this]
              simp
            · simp [intOf]
  · have HE := Lib.hid hE
    clear hE
    go_enter Tryd.func27, Tryd.ntmps27
    go_wp2_with fail
    go_loop [3, 4, 5] (fun s3 _ _ => s3 = .string ⟨#[]⟩) (fun _ _ _ => 0)
    case atStart => rfl
    case round =>
      obtain rfl := hrel
      go_wp2_with (go_at_call 23; refine riCheck_bad lo _ _ _ _ HX2.out HE.out ?_; intro w1 n1; (have N1 := Lib.hid (HN.out.trans n1)); clear n1)
      have h0 := HR.out _ N1.out
      have e : textM (W, H, l) = [] := by unfold textM; rw [if_neg HE.out]
      rw [e] at h0
      exact h0
end Go.Proofs.YtnhdnjhhjmgmnaaDoor
