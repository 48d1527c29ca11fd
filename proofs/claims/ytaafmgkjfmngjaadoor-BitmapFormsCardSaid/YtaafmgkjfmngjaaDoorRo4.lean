/-
  indelibleref04.Count and Only: dots that are counted.
-/
import Derived.Test.YtaafmgkjfmngjaaDoorFl4
import Derived.Test.YtaafmgkjfmngjaaDoorImG
import Derived.Test.YtaafmgkjfmngjaaDoorBm4
import Derived.Test.YtaafmgkjfmngjaaDoorRegU
namespace Go.Proofs.YtaafmgkjfmngjaaDoor
open Go.RowKit
set_option linter.unusedVariables false
set_option linter.unusedSimpArgs false
set_option maxRecDepth 100000

set_option maxHeartbeats 4000000 in
theorem rCount_any (lo : Nat) (v : Value) (b : Bm) (w : World) (R : Ending → World → Prop) (h : IsBm w lo v b) (hlo : lo ≤ w.heap.size) (h63 : b.2.2.length ≤ 1000000000)
    (hR : ∀ w', Nw w w' → R (.returned (.int .i64 (cntD b (fun _ => true)))) w') : Calls Tryd.prog 23 #[v] w R := by
  have HR := Lib.hid hR
  clear hR
  have HB := Lib.hid (h.hi hlo)
  have HEL := Lib.hid h
  obtain ⟨W, H, l⟩ := b
  obtain ⟨sv, rfl, ⟨A, cap, rfl, ⟨hlc, -⟩, hel⟩, -, -⟩ := h
  simp only at HB HR h63 hlc hel ⊢
  have HE1 := Lib.hid hel
  clear hel HEL
  have NX := Lib.hid (Ch.refl (fun _ => False) w)
  by_cases hE : bmE (W, H, l) = 0
  · have HE := Lib.hid hE
    have HCD := Lib.hid (cntD_ok hE (fun _ => true))
    clear hE
    go_enter Tryd.func23, Tryd.ntmps23
    go_wp2_with (fail)
    refine wp_named ?_
    intro W1 hW
    have n : Nw w W1 := by rw [hW]; exact (Ch.refl _ _).alloc _
    replace NX := Lib.hid (NX.out.trans n)
    replace HB := Lib.hid (HB.out.kept n nof)
    have HB0 := Lib.hid (show W1.heap[w.heap.size]? = some (.cells #[.int .i64 W, .int .i64 H, .slice A l.length cap] 28 (0, 0)) from by rw [hW]; exact heap_alloc_eq _ rfl)
    clear hW n
    go_loopw [3, 4] (fun s3 s4 wr => ∃ k : Nat, s4 = .int .i64 k ∧ s3 = .int .i64 (cnt (cntP (W, H, l) (fun _ => true)) k : Nat) ∧ k ≤ l.length ∧ Hid (Nw W1 wr)) (fun _ s4 _ => l.length - (intOf s4).toNat)
    case atStart => exact ⟨0, rfl, rfl, Nat.zero_le _, Lib.hid (Ch.refl _ _)⟩
    case round =>
      obtain ⟨k, rfl, rfl, hk, HC⟩ := hrel
      have k0 : (0 : Int) ≤ (k : Int) := by omega
      obtain ⟨wk, hwk⟩ : ∃ W : World, W = wr := ⟨_, rfl⟩
      subst hwk
      replace NX := Lib.hid (NX.out.trans HC.out)
      replace HB := Lib.hid (HB.out.kept HC.out nof)
      replace HB0 := Lib.hid (HC.out.heap HB0.out id)
      by_cases hlt : k < l.length
      · obtain ⟨p, hp⟩ : ∃ p, l[k]? = some p := ⟨_, List.getElem?_eq_getElem hlt⟩
        have k1 : (k : Int) < (l.length : Int) := by omega
        obtain ⟨pk, po, hpk, rfl, h0⟩ := HE1.out k p hp
        have h0 := NX.out.cell h0 id
        have hcs : cnt (cntP (W, H, l) (fun _ => true)) (k + 1) = cnt (cntP (W, H, l) (fun _ => true)) k + if p = true then 1 else 0 := by rw [cnt_succ]; unfold cntP; simp only [hp, Option.getD_some, Bool.and_true]
        have hcl := cnt_le (cntP (W, H, l) (fun _ => true)) k
        generalize hcN : cnt (cntP (W, H, l) (fun _ => true)) k = cN at hcs hcl ⊢
        have HCS := Lib.hid hcs
        clear hcs hcN hp
        have h0x : Hid (wk.cell? ⟨pk, po + k, none⟩ = some (.bool p)) := Lib.hid h0
        clear h0
        cases p with
        | true =>
          have kHB00 : wk.cell? ⟨w.heap.size, 0, none⟩ = some (.int .i64 W) := by rw [cell_of HB0.out]; rfl
          have jHB00 : ∀ o, (wk.alloc o).cell? ⟨w.heap.size, 0, none⟩ = some (.int .i64 W) := fun o => cell_alloc_old o kHB00
          have kHB01 : wk.cell? ⟨w.heap.size, 1, none⟩ = some (.int .i64 H) := by rw [cell_of HB0.out]; rfl
          have jHB01 : ∀ o, (wk.alloc o).cell? ⟨w.heap.size, 1, none⟩ = some (.int .i64 H) := fun o => cell_alloc_old o kHB01
          have kHB02 : wk.cell? ⟨w.heap.size, 2, none⟩ = some (.slice (some ⟨pk, po, none⟩) l.length cap) := by rw [cell_of HB0.out]; rfl
          have jHB02 : ∀ o, (wk.alloc o).cell? ⟨w.heap.size, 2, none⟩ = some (.slice (some ⟨pk, po, none⟩) l.length cap) := fun o => cell_alloc_old o kHB02
          go_wp2_with (fail)
          clear kHB00 jHB00 kHB01 jHB01 kHB02 jHB02
          refine Calls_nm ?_
          intro W2 hW
          have n : Nw wk W2 := by rw [hW]; first | exact Ch.refl _ _ | exact (Ch.refl _ _).alloc _ | exact ((Ch.refl _ _).alloc _).alloc _
          replace NX := Lib.hid (NX.out.trans n)
          replace HB := Lib.hid (HB.out.kept n nof)
          replace HB0 := Lib.hid (n.heap HB0.out id)
          replace HC := Lib.hid (HC.out.trans n)
          replace h0x := Lib.hid (n.cell h0x.out id)
          clear hW n
          refine rbCheck_ok w.heap.size _ (W, H, l) _ _ HB.out HE.out ?_
          intro w3 n
          replace NX := Lib.hid (NX.out.trans n)
          replace HB := Lib.hid (HB.out.kept n nof)
          replace HB0 := Lib.hid (n.heap HB0.out id)
          replace HC := Lib.hid (HC.out.trans n)
          replace h0x := Lib.hid (n.cell h0x.out id)
          clear n
          have kHB00 : w3.cell? ⟨w.heap.size, 0, none⟩ = some (.int .i64 W) := by rw [cell_of HB0.out]; rfl
          have kHB01 : w3.cell? ⟨w.heap.size, 1, none⟩ = some (.int .i64 H) := by rw [cell_of HB0.out]; rfl
          have kHB02 : w3.cell? ⟨w.heap.size, 2, none⟩ = some (.slice (some ⟨pk, po, none⟩) l.length cap) := by rw [cell_of HB0.out]; rfl
          have h0 := h0x.out
          go_wp2_with (fail)
          refine ⟨⟨k + 1, by go_num, by rw [HCS.out]; simp, by omega, HC⟩, ?_⟩
          simp [intOf]; omega
        | false =>
          have kHB00 : wk.cell? ⟨w.heap.size, 0, none⟩ = some (.int .i64 W) := by rw [cell_of HB0.out]; rfl
          have jHB00 : ∀ o, (wk.alloc o).cell? ⟨w.heap.size, 0, none⟩ = some (.int .i64 W) := fun o => cell_alloc_old o kHB00
          have kHB01 : wk.cell? ⟨w.heap.size, 1, none⟩ = some (.int .i64 H) := by rw [cell_of HB0.out]; rfl
          have jHB01 : ∀ o, (wk.alloc o).cell? ⟨w.heap.size, 1, none⟩ = some (.int .i64 H) := fun o => cell_alloc_old o kHB01
          have kHB02 : wk.cell? ⟨w.heap.size, 2, none⟩ = some (.slice (some ⟨pk, po, none⟩) l.length cap) := by rw [cell_of HB0.out]; rfl
          have jHB02 : ∀ o, (wk.alloc o).cell? ⟨w.heap.size, 2, none⟩ = some (.slice (some ⟨pk, po, none⟩) l.length cap) := fun o => cell_alloc_old o kHB02
          go_wp2_with (fail)
          clear kHB00 jHB00 kHB01 jHB01 kHB02 jHB02
          refine Calls_nm ?_
          intro W4 hW
          have n : Nw wk W4 := by rw [hW]; first | exact Ch.refl _ _ | exact (Ch.refl _ _).alloc _ | exact ((Ch.refl _ _).alloc _).alloc _
          replace NX := Lib.hid (NX.out.trans n)
          replace HB := Lib.hid (HB.out.kept n nof)
          replace HB0 := Lib.hid (n.heap HB0.out id)
          replace HC := Lib.hid (HC.out.trans n)
          replace h0x := Lib.hid (n.cell h0x.out id)
          clear hW n
          refine rbCheck_ok w.heap.size _ (W, H, l) _ _ HB.out HE.out ?_
          intro w5 n
          replace NX := Lib.hid (NX.out.trans n)
          replace HB := Lib.hid (HB.out.kept n nof)
          replace HB0 := Lib.hid (n.heap HB0.out id)
          replace HC := Lib.hid (HC.out.trans n)
          replace h0x := Lib.hid (n.cell h0x.out id)
          clear n
          have kHB00 : w5.cell? ⟨w.heap.size, 0, none⟩ = some (.int .i64 W) := by rw [cell_of HB0.out]; rfl
          have kHB01 : w5.cell? ⟨w.heap.size, 1, none⟩ = some (.int .i64 H) := by rw [cell_of HB0.out]; rfl
          have kHB02 : w5.cell? ⟨w.heap.size, 2, none⟩ = some (.slice (some ⟨pk, po, none⟩) l.length cap) := by rw [cell_of HB0.out]; rfl
          have h0 := h0x.out
          go_wp2_with (fail)
          refine ⟨⟨k + 1, by go_num, by rw [HCS.out]; simp, by omega, HC⟩, ?_⟩
          simp [intOf]; omega
      · obtain rfl : k = l.length := by omega
        have kHB00 : wk.cell? ⟨w.heap.size, 0, none⟩ = some (.int .i64 W) := by rw [cell_of HB0.out]; rfl
        have jHB00 : ∀ o, (wk.alloc o).cell? ⟨w.heap.size, 0, none⟩ = some (.int .i64 W) := fun o => cell_alloc_old o kHB00
        have kHB01 : wk.cell? ⟨w.heap.size, 1, none⟩ = some (.int .i64 H) := by rw [cell_of HB0.out]; rfl
        have jHB01 : ∀ o, (wk.alloc o).cell? ⟨w.heap.size, 1, none⟩ = some (.int .i64 H) := fun o => cell_alloc_old o kHB01
        have kHB02 : wk.cell? ⟨w.heap.size, 2, none⟩ = some (.slice A l.length cap) := by rw [cell_of HB0.out]; rfl
        have jHB02 : ∀ o, (wk.alloc o).cell? ⟨w.heap.size, 2, none⟩ = some (.slice A l.length cap) := fun o => cell_alloc_old o kHB02
        go_wp2_with (fail)
        clear kHB00 jHB00 kHB01 jHB01 kHB02 jHB02
        refine Calls_nm ?_
        intro W6 hW
        have n : Nw wk W6 := by rw [hW]; first | exact Ch.refl _ _ | exact (Ch.refl _ _).alloc _ | exact ((Ch.refl _ _).alloc _).alloc _
        replace NX := Lib.hid (NX.out.trans n)
        replace HB := Lib.hid (HB.out.kept n nof)
        replace HB0 := Lib.hid (n.heap HB0.out id)
        replace HC := Lib.hid (HC.out.trans n)
        clear hW n
        refine rbCheck_ok w.heap.size _ (W, H, l) _ _ HB.out HE.out ?_
        intro w7 n
        replace NX := Lib.hid (NX.out.trans n)
        replace HB := Lib.hid (HB.out.kept n nof)
        replace HB0 := Lib.hid (n.heap HB0.out id)
        replace HC := Lib.hid (HC.out.trans n)
        clear n
        have kHB00 : w7.cell? ⟨w.heap.size, 0, none⟩ = some (.int .i64 W) := by rw [cell_of HB0.out]; rfl
        have kHB01 : w7.cell? ⟨w.heap.size, 1, none⟩ = some (.int .i64 H) := by rw [cell_of HB0.out]; rfl
        have kHB02 : w7.cell? ⟨w.heap.size, 2, none⟩ = some (.slice A l.length cap) := by rw [cell_of HB0.out]; rfl
        go_wp2_with (fail)
        have h0 := HR.out _ NX.out
        rw [HCD.out] at h0
        exact h0
  · obtain ⟨e, he, he2⟩ : ∃ e, bmE (W, H, l) = e ∧ (e = 5 ∨ e = 13) := ⟨_, rfl, (bmE_in _).resolve_left hE⟩
    have HEE := Lib.hid he
    have HCD := Lib.hid (cntD_bad hE (fun _ => true))
    clear he hE
    rcases he2 with rfl | rfl
    · go_enter Tryd.func23, Tryd.ntmps23
      go_wp2_with (fail)
      refine wp_named ?_
      intro W8 hW
      have n : Nw w W8 := by rw [hW]; exact (Ch.refl _ _).alloc _
      replace NX := Lib.hid (NX.out.trans n)
      replace HB := Lib.hid (HB.out.kept n nof)
      have HB0 := Lib.hid (show W8.heap[w.heap.size]? = some (.cells #[.int .i64 W, .int .i64 H, .slice A l.length cap] 28 (0, 0)) from by rw [hW]; exact heap_alloc_eq _ rfl)
      clear hW n
      go_loopw [3, 4] (fun s3 _ wr => s3 = .int .i64 0 ∧ wr = W8) (fun _ _ _ => 0)
      case atStart => exact ⟨rfl, rfl⟩
      case round =>
        obtain ⟨rfl, rfl⟩ := hrel
        have kHB00 : wr.cell? ⟨w.heap.size, 0, none⟩ = some (.int .i64 W) := by rw [cell_of HB0.out]; rfl
        have jHB00 : ∀ o, (wr.alloc o).cell? ⟨w.heap.size, 0, none⟩ = some (.int .i64 W) := fun o => cell_alloc_old o kHB00
        have kHB01 : wr.cell? ⟨w.heap.size, 1, none⟩ = some (.int .i64 H) := by rw [cell_of HB0.out]; rfl
        have jHB01 : ∀ o, (wr.alloc o).cell? ⟨w.heap.size, 1, none⟩ = some (.int .i64 H) := fun o => cell_alloc_old o kHB01
        have kHB02 : wr.cell? ⟨w.heap.size, 2, none⟩ = some (.slice A l.length cap) := by rw [cell_of HB0.out]; rfl
        have jHB02 : ∀ o, (wr.alloc o).cell? ⟨w.heap.size, 2, none⟩ = some (.slice A l.length cap) := fun o => cell_alloc_old o kHB02
        go_wp2_with (fail)
        clear kHB00 jHB00 kHB01 jHB01 kHB02 jHB02
        refine Calls_nm ?_
        intro W9 hW
        have n : Nw wr W9 := by rw [hW]; first | exact Ch.refl _ _ | exact (Ch.refl _ _).alloc _ | exact ((Ch.refl _ _).alloc _).alloc _
        replace NX := Lib.hid (NX.out.trans n)
        replace HB := Lib.hid (HB.out.kept n nof)
        replace HB0 := Lib.hid (n.heap HB0.out id)
        clear hW n
        refine rbCheck_any w.heap.size _ (W, H, l) _ _ HB.out ?_
        rw [HEE.out]
        intro w10 n
        replace NX := Lib.hid (NX.out.trans n)
        replace HB := Lib.hid (HB.out.kept n nof)
        replace HB0 := Lib.hid (n.heap HB0.out id)
        clear n
        go_wp2_with (fail)
        have h0 := HR.out _ NX.out
        rw [HCD.out] at h0
        exact h0
    · go_enter Tryd.func23, Tryd.ntmps23
      go_wp2_with (fail)
      refine wp_named ?_
      intro W11 hW
      have n : Nw w W11 := by rw [hW]; exact (Ch.refl _ _).alloc _
      replace NX := Lib.hid (NX.out.trans n)
      replace HB := Lib.hid (HB.out.kept n nof)
      have HB0 := Lib.hid (show W11.heap[w.heap.size]? = some (.cells #[.int .i64 W, .int .i64 H, .slice A l.length cap] 28 (0, 0)) from by rw [hW]; exact heap_alloc_eq _ rfl)
      clear hW n
      go_loopw [3, 4] (fun s3 _ wr => s3 = .int .i64 0 ∧ wr = W11) (fun _ _ _ => 0)
      case atStart => exact ⟨rfl, rfl⟩
      case round =>
        obtain ⟨rfl, rfl⟩ := hrel
        have kHB00 : wr.cell? ⟨w.heap.size, 0, none⟩ = some (.int .i64 W) := by rw [cell_of HB0.out]; rfl
        have jHB00 : ∀ o, (wr.alloc o).cell? ⟨w.heap.size, 0, none⟩ = some (.int .i64 W) := fun o => cell_alloc_old o kHB00
        have kHB01 : wr.cell? ⟨w.heap.size, 1, none⟩ = some (.int .i64 H) := by rw [cell_of HB0.out]; rfl
        have jHB01 : ∀ o, (wr.alloc o).cell? ⟨w.heap.size, 1, none⟩ = some (.int .i64 H) := fun o => cell_alloc_old o kHB01
        have kHB02 : wr.cell? ⟨w.heap.size, 2, none⟩ = some (.slice A l.length cap) := by rw [cell_of HB0.out]; rfl
        have jHB02 : ∀ o, (wr.alloc o).cell? ⟨w.heap.size, 2, none⟩ = some (.slice A l.length cap) := fun o => cell_alloc_old o kHB02
        go_wp2_with (fail)
        clear kHB00 jHB00 kHB01 jHB01 kHB02 jHB02
        refine Calls_nm ?_
        intro W12 hW
        have n : Nw wr W12 := by rw [hW]; first | exact Ch.refl _ _ | exact (Ch.refl _ _).alloc _ | exact ((Ch.refl _ _).alloc _).alloc _
        replace NX := Lib.hid (NX.out.trans n)
        replace HB := Lib.hid (HB.out.kept n nof)
        replace HB0 := Lib.hid (n.heap HB0.out id)
        clear hW n
        refine rbCheck_any w.heap.size _ (W, H, l) _ _ HB.out ?_
        rw [HEE.out]
        intro w13 n
        replace NX := Lib.hid (NX.out.trans n)
        replace HB := Lib.hid (HB.out.kept n nof)
        replace HB0 := Lib.hid (n.heap HB0.out id)
        clear n
        go_wp2_with (fail)
        have h0 := HR.out _ NX.out
        rw [HCD.out] at h0
        exact h0

set_option maxHeartbeats 8000000 in
theorem rOnly_any (lo : Nat) (v vc : Value) (b c : Bm) (dx dy fr tl : Int) (w : World) (R : Ending → World → Prop) (h : IsBm w lo v b) (hc : IsBm w lo vc c) (hlo : lo ≤ w.heap.size) (h63 : b.2.2.length ≤ 1000000000)
    (hR : ∀ w', Nw w w' → R (.returned (.int .i64 (cntD b (onlyP (validB c) dx dy fr tl)))) w') : Calls Tryd.prog 17 #[v, vc, .int .i64 dx, .int .i64 dy, .int .i64 fr, .int .i64 tl] w R := by
  have HR := Lib.hid hR
  clear hR
  have HB := Lib.hid (h.hi hlo)
  have HCc := Lib.hid (hc.hi hlo)
  obtain ⟨W, H, l⟩ := b
  obtain ⟨cW, cH, lc⟩ := c
  obtain ⟨sv, rfl, ⟨A, cap, rfl, -, -⟩, -, -⟩ := h
  obtain ⟨sc, rfl, ⟨Ac, capc, rfl, -, -⟩, -, -⟩ := hc
  simp only at HB HCc HR h63 ⊢
  clear hlo
  have NX := Lib.hid (Ch.refl (fun _ => False) w)
  obtain ⟨P, hP⟩ : ∃ P, onlyP (validB (cW, cH, lc)) dx dy fr tl = P := ⟨_, rfl⟩
  rw [hP] at HR
  have HP := Lib.hid hP
  clear hP
  by_cases hE : bmE (W, H, l) = 0
  · have HE := Lib.hid hE
    have HCD := Lib.hid (cntD_ok hE P)
    obtain ⟨⟨w0, w1'⟩, ⟨h0', h1'⟩, hl0⟩ := bmE_ok hE
    simp only at w0 w1' h0' h1' hl0
    have HL0 := Lib.hid hl0
    clear hE hl0
    have hln : l.length ≤ 10000 := bmE_len HE.out
    obtain ⟨N, hN⟩ : ∃ N : Nat → Nat, N = cnt (cntP (W, H, l) P) := ⟨_, rfl⟩
    have HN := Lib.hid hN
    have hNl : ∀ k, N k ≤ k := fun k => by rw [hN]; exact cnt_le _ _
    have HNL := Lib.hid hNl
    clear hN hNl
    go_enter Tryd.func17, Tryd.ntmps17
    go_wp2_with (fail)
    refine wp_named ?_
    intro W1 hW
    have n : Nw w W1 := by rw [hW]; exact ((Ch.refl _ _).alloc _).alloc _
    replace NX := Lib.hid (NX.out.trans n)
    replace HB := Lib.hid (HB.out.kept n nof)
    replace HCc := Lib.hid (HCc.out.kept n nof)
    have HB0 := Lib.hid (show W1.heap[w.heap.size]? = some (.cells #[.int .i64 W, .int .i64 H, .slice A l.length cap] 28 (0, 0)) from by rw [hW]; exact heap_alloc_old' _ (heap_alloc_eq _ rfl))
    have HB1 := Lib.hid (show W1.heap[w.heap.size + 1]? = some (.cells #[.int .i64 cW, .int .i64 cH, .slice Ac lc.length capc] 28 (0, 0)) from by rw [hW]; exact heap_alloc_eq _ (by simp only [alloc_size]))
    clear hW n
    go_loopw [13, 14, 15] (fun s13 s14 _ wr => ∃ (j : Int) (k : Nat), s14 = .int .i64 j ∧ 0 ≤ j ∧ j ≤ H ∧ Hid ((k : Int) = j * W) ∧ s13 = .int .i64 (N k : Nat) ∧ Hid (Nw W1 wr)) (fun _ s14 _ _ => (H - intOf s14).toNat)
    case atStart => exact ⟨0, 0, rfl, by omega, h0', Lib.hid (by rw [Int.zero_mul]; rfl), by rw [HN.out]; rfl, Lib.hid (Ch.refl _ _)⟩
    case round =>
      obtain ⟨j, k, rfl, j0, j1, HK, rfl, HC⟩ := hrel
      obtain ⟨wj, hwj⟩ : ∃ W : World, W = wr := ⟨_, rfl⟩
      subst hwj
      replace NX := Lib.hid (NX.out.trans HC.out)
      replace HB := Lib.hid (HB.out.kept HC.out nof)
      replace HCc := Lib.hid (HCc.out.kept HC.out nof)
      replace HB0 := Lib.hid (HC.out.heap HB0.out id)
      replace HB1 := Lib.hid (HC.out.heap HB1.out id)
      by_cases hj : j < H
      · have hkW : (k : Int) + W ≤ (l.length : Int) := by
          have h1 : (j + 1) * W ≤ H * W := Int.mul_le_mul_of_nonneg_right (by omega) w0
          rw [Int.add_mul, Int.one_mul, Int.mul_comm H W] at h1
          have := HK.out
          have := HL0.out
          omega
        have hNk := HNL.out k
        have kHB00 : wj.cell? ⟨w.heap.size, 0, none⟩ = some (.int .i64 W) := by rw [cell_of HB0.out]; rfl
        have jHB00 : ∀ o, (wj.alloc o).cell? ⟨w.heap.size, 0, none⟩ = some (.int .i64 W) := fun o => cell_alloc_old o kHB00
        have kHB01 : wj.cell? ⟨w.heap.size, 1, none⟩ = some (.int .i64 H) := by rw [cell_of HB0.out]; rfl
        have jHB01 : ∀ o, (wj.alloc o).cell? ⟨w.heap.size, 1, none⟩ = some (.int .i64 H) := fun o => cell_alloc_old o kHB01
        have kHB02 : wj.cell? ⟨w.heap.size, 2, none⟩ = some (.slice A l.length cap) := by rw [cell_of HB0.out]; rfl
        have jHB02 : ∀ o, (wj.alloc o).cell? ⟨w.heap.size, 2, none⟩ = some (.slice A l.length cap) := fun o => cell_alloc_old o kHB02
        go_wp2_with (fail)
        clear kHB00 jHB00 kHB01 jHB01 kHB02 jHB02
        refine Calls_nm ?_
        intro W2 hW
        have n : Nw wj W2 := by rw [hW]; first | exact Ch.refl _ _ | exact (Ch.refl _ _).alloc _ | exact ((Ch.refl _ _).alloc _).alloc _
        replace NX := Lib.hid (NX.out.trans n)
        replace HB := Lib.hid (HB.out.kept n nof)
        replace HCc := Lib.hid (HCc.out.kept n nof)
        replace HB0 := Lib.hid (n.heap HB0.out id)
        replace HB1 := Lib.hid (n.heap HB1.out id)
        replace HC := Lib.hid (HC.out.trans n)
        clear hW n
        refine rbCheck_ok w.heap.size _ (W, H, l) _ _ HB.out HE.out ?_
        intro w3 n
        replace NX := Lib.hid (NX.out.trans n)
        replace HB := Lib.hid (HB.out.kept n nof)
        replace HCc := Lib.hid (HCc.out.kept n nof)
        replace HB0 := Lib.hid (n.heap HB0.out id)
        replace HB1 := Lib.hid (n.heap HB1.out id)
        replace HC := Lib.hid (HC.out.trans n)
        clear n
        have kHB00 : w3.cell? ⟨w.heap.size, 0, none⟩ = some (.int .i64 W) := by rw [cell_of HB0.out]; rfl
        have kHB01 : w3.cell? ⟨w.heap.size, 1, none⟩ = some (.int .i64 H) := by rw [cell_of HB0.out]; rfl
        have kHB02 : w3.cell? ⟨w.heap.size, 2, none⟩ = some (.slice A l.length cap) := by rw [cell_of HB0.out]; rfl
        go_wp2_with (fail)
        clear kHB00 kHB01 kHB02
        refine wp_named ?_
        intro W4 hW
        have n : Nw w3 W4 := by rw [hW]; first | exact Ch.refl _ _ | exact (Ch.refl _ _).alloc _ | exact ((Ch.refl _ _).alloc _).alloc _
        replace NX := Lib.hid (NX.out.trans n)
        replace HB := Lib.hid (HB.out.kept n nof)
        replace HCc := Lib.hid (HCc.out.kept n nof)
        replace HB0 := Lib.hid (n.heap HB0.out id)
        replace HB1 := Lib.hid (n.heap HB1.out id)
        replace HC := Lib.hid (HC.out.trans n)
        clear hW n
        go_loopw [13, 15] (fun s13 s15 wr => ∃ (i : Nat), s15 = .int .i64 i ∧ (i : Int) ≤ W ∧ s13 = .int .i64 (N (k + i) : Nat) ∧ Hid (Nw W4 wr)) (fun _ s15 _ => (W - intOf s15).toNat)
        case atStart => exact ⟨0, rfl, w0, rfl, Lib.hid (Ch.refl _ _)⟩
        case round =>
          obtain ⟨i, rfl, i1, rfl, HCI⟩ := hrel
          have i0 : (0 : Int) ≤ (i : Int) := by omega
          obtain ⟨wi, hwi⟩ : ∃ W : World, W = wr := ⟨_, rfl⟩
          subst hwi
          replace NX := Lib.hid (NX.out.trans HCI.out)
          replace HB := Lib.hid (HB.out.kept HCI.out nof)
          replace HCc := Lib.hid (HCc.out.kept HCI.out nof)
          replace HB0 := Lib.hid (HCI.out.heap HB0.out id)
          replace HB1 := Lib.hid (HCI.out.heap HB1.out id)
          replace HC := Lib.hid (HC.out.trans HCI.out)
          by_cases hi : (i : Int) < W
          · have hNi := HNL.out (k + i)
            obtain ⟨dd, hdd⟩ : ∃ d, l[k + i]? = some d := ⟨_, List.getElem?_eq_getElem (by omega)⟩
            have hg1 : getB (W, H, l) (i : Int) j = dd := by
              refine getB_in HE.out ⟨i0, hi, j0, hj⟩ ?_
              show l[(j * W + (i : Int)).toNat]? = some dd
              rw [← HK.out, show ((k : Int) + (i : Int)).toNat = k + i by omega]
              exact hdd
            obtain ⟨u, hu⟩ : ∃ u, (i : Int) - dx = u := ⟨_, rfl⟩
            obtain ⟨v, hv⟩ : ∃ v, j - dy = v := ⟨_, rfl⟩
            obtain ⟨dc, hdc⟩ : ∃ d, getB (cW, cH, lc) (wrap64 ((i : Int) - dx)) (wrap64 (j - dy)) = d := ⟨_, rfl⟩
            have hm := grid_mod (x := (i : Int)) (y := j) (W := W) ⟨i0, hi⟩
            have hcs : N (k + i + 1) = N (k + i) + if (dd && ((decide ((i : Int) < fr) || decide (tl ≤ (i : Int))) && !dc)) = true then 1 else 0 := by
              rw [HN.out, cnt_succ]
              have e1 : ((k + i : Nat) : Int) % W = (i : Int) := by have := HK.out; rw [Int.natCast_add, this]; exact hm.1
              have e2 : ((k + i : Nat) : Int) / W = j := by have := HK.out; rw [Int.natCast_add, this]; exact hm.2
              have e3 : cntP (W, H, l) P (k + i) = (dd && ((decide ((i : Int) < fr) || decide (tl ≤ (i : Int))) && !dc)) := by
                unfold cntP
                simp only [e1, e2, hdd, Option.getD_some]
                rw [← HP.out]
                unfold onlyP
                rw [getB_valid, hdc]
              rw [e3]
            obtain ⟨cN, hcN⟩ : ∃ c, N (k + i) = c := ⟨_, rfl⟩
            rw [hcN] at hcs hNi
            rw [hcN]
            have HCS := Lib.hid hcs
            have HG1 := Lib.hid hg1
            have HDC := Lib.hid hdc
            clear hcs hcN hdd hg1 hdc hm hu hv
            cases dd with
            | false =>
              have HC2 := Lib.hid (show N (k + i + 1) = cN + 0 from by rw [HCS.out]; simp [])
              have kHB00 : wi.cell? ⟨w.heap.size, 0, none⟩ = some (.int .i64 W) := by rw [cell_of HB0.out]; rfl
              have jHB00 : ∀ o, (wi.alloc o).cell? ⟨w.heap.size, 0, none⟩ = some (.int .i64 W) := fun o => cell_alloc_old o kHB00
              have kHB01 : wi.cell? ⟨w.heap.size, 1, none⟩ = some (.int .i64 H) := by rw [cell_of HB0.out]; rfl
              have jHB01 : ∀ o, (wi.alloc o).cell? ⟨w.heap.size, 1, none⟩ = some (.int .i64 H) := fun o => cell_alloc_old o kHB01
              have kHB02 : wi.cell? ⟨w.heap.size, 2, none⟩ = some (.slice A l.length cap) := by rw [cell_of HB0.out]; rfl
              have jHB02 : ∀ o, (wi.alloc o).cell? ⟨w.heap.size, 2, none⟩ = some (.slice A l.length cap) := fun o => cell_alloc_old o kHB02
              go_wp2_with (fail)
              clear kHB00 jHB00 kHB01 jHB01 kHB02 jHB02
              refine Calls_nm ?_
              intro W5 hW
              have n : Nw wi W5 := by rw [hW]; first | exact Ch.refl _ _ | exact (Ch.refl _ _).alloc _ | exact ((Ch.refl _ _).alloc _).alloc _
              replace NX := Lib.hid (NX.out.trans n)
              replace HB := Lib.hid (HB.out.kept n nof)
              replace HCc := Lib.hid (HCc.out.kept n nof)
              replace HB0 := Lib.hid (n.heap HB0.out id)
              replace HB1 := Lib.hid (n.heap HB1.out id)
              replace HC := Lib.hid (HC.out.trans n)
              replace HCI := Lib.hid (HCI.out.trans n)
              clear hW n
              refine rGet_any _ _ (W, H, l) _ _ _ _ HB.out ?_
              rw [HG1.out]
              intro w6 n
              replace NX := Lib.hid (NX.out.trans n)
              replace HB := Lib.hid (HB.out.kept n nof)
              replace HCc := Lib.hid (HCc.out.kept n nof)
              replace HB0 := Lib.hid (n.heap HB0.out id)
              replace HB1 := Lib.hid (n.heap HB1.out id)
              replace HC := Lib.hid (HC.out.trans n)
              replace HCI := Lib.hid (HCI.out.trans n)
              clear n
              have kHB00 : w6.cell? ⟨w.heap.size, 0, none⟩ = some (.int .i64 W) := by rw [cell_of HB0.out]; rfl
              have kHB01 : w6.cell? ⟨w.heap.size, 1, none⟩ = some (.int .i64 H) := by rw [cell_of HB0.out]; rfl
              have kHB02 : w6.cell? ⟨w.heap.size, 2, none⟩ = some (.slice A l.length cap) := by rw [cell_of HB0.out]; rfl
              have kHB10 : w6.cell? ⟨w.heap.size + 1, 0, none⟩ = some (.int .i64 cW) := by rw [cell_of HB1.out]; rfl
              have kHB11 : w6.cell? ⟨w.heap.size + 1, 1, none⟩ = some (.int .i64 cH) := by rw [cell_of HB1.out]; rfl
              have kHB12 : w6.cell? ⟨w.heap.size + 1, 2, none⟩ = some (.slice Ac lc.length capc) := by rw [cell_of HB1.out]; rfl
              go_wp2_with (fail)
              refine ⟨⟨i + 1, by go_num, by omega, by rw [← Nat.add_assoc, HC2.out]; simp, HCI⟩, ?_⟩
              simp [intOf]; omega
            | true =>
              obtain h1 | ⟨h1, h2⟩ | ⟨h1, h2⟩ : (i : Int) < fr ∨ (¬ (i : Int) < fr ∧ tl ≤ (i : Int)) ∨ (¬ (i : Int) < fr ∧ ¬ tl ≤ (i : Int)) := by omega
              · cases dc with
                | true =>
                  have HC2 := Lib.hid (show N (k + i + 1) = cN + 0 from by rw [HCS.out]; simp [h1])
                  have kHB00 : wi.cell? ⟨w.heap.size, 0, none⟩ = some (.int .i64 W) := by rw [cell_of HB0.out]; rfl
                  have jHB00 : ∀ o, (wi.alloc o).cell? ⟨w.heap.size, 0, none⟩ = some (.int .i64 W) := fun o => cell_alloc_old o kHB00
                  have kHB01 : wi.cell? ⟨w.heap.size, 1, none⟩ = some (.int .i64 H) := by rw [cell_of HB0.out]; rfl
                  have jHB01 : ∀ o, (wi.alloc o).cell? ⟨w.heap.size, 1, none⟩ = some (.int .i64 H) := fun o => cell_alloc_old o kHB01
                  have kHB02 : wi.cell? ⟨w.heap.size, 2, none⟩ = some (.slice A l.length cap) := by rw [cell_of HB0.out]; rfl
                  have jHB02 : ∀ o, (wi.alloc o).cell? ⟨w.heap.size, 2, none⟩ = some (.slice A l.length cap) := fun o => cell_alloc_old o kHB02
                  go_wp2_with (fail)
                  clear kHB00 jHB00 kHB01 jHB01 kHB02 jHB02
                  refine Calls_nm ?_
                  intro W7 hW
                  have n : Nw wi W7 := by rw [hW]; first | exact Ch.refl _ _ | exact (Ch.refl _ _).alloc _ | exact ((Ch.refl _ _).alloc _).alloc _
                  replace NX := Lib.hid (NX.out.trans n)
                  replace HB := Lib.hid (HB.out.kept n nof)
                  replace HCc := Lib.hid (HCc.out.kept n nof)
                  replace HB0 := Lib.hid (n.heap HB0.out id)
                  replace HB1 := Lib.hid (n.heap HB1.out id)
                  replace HC := Lib.hid (HC.out.trans n)
                  replace HCI := Lib.hid (HCI.out.trans n)
                  clear hW n
                  refine rGet_any _ _ (W, H, l) _ _ _ _ HB.out ?_
                  rw [HG1.out]
                  intro w8 n
                  replace NX := Lib.hid (NX.out.trans n)
                  replace HB := Lib.hid (HB.out.kept n nof)
                  replace HCc := Lib.hid (HCc.out.kept n nof)
                  replace HB0 := Lib.hid (n.heap HB0.out id)
                  replace HB1 := Lib.hid (n.heap HB1.out id)
                  replace HC := Lib.hid (HC.out.trans n)
                  replace HCI := Lib.hid (HCI.out.trans n)
                  clear n
                  have kHB00 : w8.cell? ⟨w.heap.size, 0, none⟩ = some (.int .i64 W) := by rw [cell_of HB0.out]; rfl
                  have jHB00 : ∀ o, (w8.alloc o).cell? ⟨w.heap.size, 0, none⟩ = some (.int .i64 W) := fun o => cell_alloc_old o kHB00
                  have kHB01 : w8.cell? ⟨w.heap.size, 1, none⟩ = some (.int .i64 H) := by rw [cell_of HB0.out]; rfl
                  have jHB01 : ∀ o, (w8.alloc o).cell? ⟨w.heap.size, 1, none⟩ = some (.int .i64 H) := fun o => cell_alloc_old o kHB01
                  have kHB02 : w8.cell? ⟨w.heap.size, 2, none⟩ = some (.slice A l.length cap) := by rw [cell_of HB0.out]; rfl
                  have jHB02 : ∀ o, (w8.alloc o).cell? ⟨w.heap.size, 2, none⟩ = some (.slice A l.length cap) := fun o => cell_alloc_old o kHB02
                  have kHB10 : w8.cell? ⟨w.heap.size + 1, 0, none⟩ = some (.int .i64 cW) := by rw [cell_of HB1.out]; rfl
                  have jHB10 : ∀ o, (w8.alloc o).cell? ⟨w.heap.size + 1, 0, none⟩ = some (.int .i64 cW) := fun o => cell_alloc_old o kHB10
                  have kHB11 : w8.cell? ⟨w.heap.size + 1, 1, none⟩ = some (.int .i64 cH) := by rw [cell_of HB1.out]; rfl
                  have jHB11 : ∀ o, (w8.alloc o).cell? ⟨w.heap.size + 1, 1, none⟩ = some (.int .i64 cH) := fun o => cell_alloc_old o kHB11
                  have kHB12 : w8.cell? ⟨w.heap.size + 1, 2, none⟩ = some (.slice Ac lc.length capc) := by rw [cell_of HB1.out]; rfl
                  have jHB12 : ∀ o, (w8.alloc o).cell? ⟨w.heap.size + 1, 2, none⟩ = some (.slice Ac lc.length capc) := fun o => cell_alloc_old o kHB12
                  go_wp2_with (fail)
                  clear kHB00 jHB00 kHB01 jHB01 kHB02 jHB02 kHB10 jHB10 kHB11 jHB11 kHB12 jHB12
                  refine Calls_nm ?_
                  intro W9 hW
                  have n : Nw w8 W9 := by rw [hW]; first | exact Ch.refl _ _ | exact (Ch.refl _ _).alloc _ | exact ((Ch.refl _ _).alloc _).alloc _
                  replace NX := Lib.hid (NX.out.trans n)
                  replace HB := Lib.hid (HB.out.kept n nof)
                  replace HCc := Lib.hid (HCc.out.kept n nof)
                  replace HB0 := Lib.hid (n.heap HB0.out id)
                  replace HB1 := Lib.hid (n.heap HB1.out id)
                  replace HC := Lib.hid (HC.out.trans n)
                  replace HCI := Lib.hid (HCI.out.trans n)
                  clear hW n
                  refine rGet_any _ _ (cW, cH, lc) _ _ _ _ HCc.out ?_
                  rw [show getB (cW, cH, lc) _ _ = true from HDC.out]
                  intro w10 n
                  replace NX := Lib.hid (NX.out.trans n)
                  replace HB := Lib.hid (HB.out.kept n nof)
                  replace HCc := Lib.hid (HCc.out.kept n nof)
                  replace HB0 := Lib.hid (n.heap HB0.out id)
                  replace HB1 := Lib.hid (n.heap HB1.out id)
                  replace HC := Lib.hid (HC.out.trans n)
                  replace HCI := Lib.hid (HCI.out.trans n)
                  clear n
                  go_wp2_with (fail)
                  refine ⟨⟨i + 1, by go_num, by omega, by rw [← Nat.add_assoc, HC2.out]; simp, HCI⟩, ?_⟩
                  simp [intOf]; omega
                | false =>
                  have HC2 := Lib.hid (show N (k + i + 1) = cN + 1 from by rw [HCS.out]; simp [h1])
                  have kHB00 : wi.cell? ⟨w.heap.size, 0, none⟩ = some (.int .i64 W) := by rw [cell_of HB0.out]; rfl
                  have jHB00 : ∀ o, (wi.alloc o).cell? ⟨w.heap.size, 0, none⟩ = some (.int .i64 W) := fun o => cell_alloc_old o kHB00
                  have kHB01 : wi.cell? ⟨w.heap.size, 1, none⟩ = some (.int .i64 H) := by rw [cell_of HB0.out]; rfl
                  have jHB01 : ∀ o, (wi.alloc o).cell? ⟨w.heap.size, 1, none⟩ = some (.int .i64 H) := fun o => cell_alloc_old o kHB01
                  have kHB02 : wi.cell? ⟨w.heap.size, 2, none⟩ = some (.slice A l.length cap) := by rw [cell_of HB0.out]; rfl
                  have jHB02 : ∀ o, (wi.alloc o).cell? ⟨w.heap.size, 2, none⟩ = some (.slice A l.length cap) := fun o => cell_alloc_old o kHB02
                  go_wp2_with (fail)
                  clear kHB00 jHB00 kHB01 jHB01 kHB02 jHB02
                  refine Calls_nm ?_
                  intro W11 hW
                  have n : Nw wi W11 := by rw [hW]; first | exact Ch.refl _ _ | exact (Ch.refl _ _).alloc _ | exact ((Ch.refl _ _).alloc _).alloc _
                  replace NX := Lib.hid (NX.out.trans n)
                  replace HB := Lib.hid (HB.out.kept n nof)
                  replace HCc := Lib.hid (HCc.out.kept n nof)
                  replace HB0 := Lib.hid (n.heap HB0.out id)
                  replace HB1 := Lib.hid (n.heap HB1.out id)
                  replace HC := Lib.hid (HC.out.trans n)
                  replace HCI := Lib.hid (HCI.out.trans n)
                  clear hW n
                  refine rGet_any _ _ (W, H, l) _ _ _ _ HB.out ?_
                  rw [HG1.out]
                  intro w12 n
                  replace NX := Lib.hid (NX.out.trans n)
                  replace HB := Lib.hid (HB.out.kept n nof)
                  replace HCc := Lib.hid (HCc.out.kept n nof)
                  replace HB0 := Lib.hid (n.heap HB0.out id)
                  replace HB1 := Lib.hid (n.heap HB1.out id)
                  replace HC := Lib.hid (HC.out.trans n)
                  replace HCI := Lib.hid (HCI.out.trans n)
                  clear n
                  have kHB00 : w12.cell? ⟨w.heap.size, 0, none⟩ = some (.int .i64 W) := by rw [cell_of HB0.out]; rfl
                  have jHB00 : ∀ o, (w12.alloc o).cell? ⟨w.heap.size, 0, none⟩ = some (.int .i64 W) := fun o => cell_alloc_old o kHB00
                  have kHB01 : w12.cell? ⟨w.heap.size, 1, none⟩ = some (.int .i64 H) := by rw [cell_of HB0.out]; rfl
                  have jHB01 : ∀ o, (w12.alloc o).cell? ⟨w.heap.size, 1, none⟩ = some (.int .i64 H) := fun o => cell_alloc_old o kHB01
                  have kHB02 : w12.cell? ⟨w.heap.size, 2, none⟩ = some (.slice A l.length cap) := by rw [cell_of HB0.out]; rfl
                  have jHB02 : ∀ o, (w12.alloc o).cell? ⟨w.heap.size, 2, none⟩ = some (.slice A l.length cap) := fun o => cell_alloc_old o kHB02
                  have kHB10 : w12.cell? ⟨w.heap.size + 1, 0, none⟩ = some (.int .i64 cW) := by rw [cell_of HB1.out]; rfl
                  have jHB10 : ∀ o, (w12.alloc o).cell? ⟨w.heap.size + 1, 0, none⟩ = some (.int .i64 cW) := fun o => cell_alloc_old o kHB10
                  have kHB11 : w12.cell? ⟨w.heap.size + 1, 1, none⟩ = some (.int .i64 cH) := by rw [cell_of HB1.out]; rfl
                  have jHB11 : ∀ o, (w12.alloc o).cell? ⟨w.heap.size + 1, 1, none⟩ = some (.int .i64 cH) := fun o => cell_alloc_old o kHB11
                  have kHB12 : w12.cell? ⟨w.heap.size + 1, 2, none⟩ = some (.slice Ac lc.length capc) := by rw [cell_of HB1.out]; rfl
                  have jHB12 : ∀ o, (w12.alloc o).cell? ⟨w.heap.size + 1, 2, none⟩ = some (.slice Ac lc.length capc) := fun o => cell_alloc_old o kHB12
                  go_wp2_with (fail)
                  clear kHB00 jHB00 kHB01 jHB01 kHB02 jHB02 kHB10 jHB10 kHB11 jHB11 kHB12 jHB12
                  refine Calls_nm ?_
                  intro W13 hW
                  have n : Nw w12 W13 := by rw [hW]; first | exact Ch.refl _ _ | exact (Ch.refl _ _).alloc _ | exact ((Ch.refl _ _).alloc _).alloc _
                  replace NX := Lib.hid (NX.out.trans n)
                  replace HB := Lib.hid (HB.out.kept n nof)
                  replace HCc := Lib.hid (HCc.out.kept n nof)
                  replace HB0 := Lib.hid (n.heap HB0.out id)
                  replace HB1 := Lib.hid (n.heap HB1.out id)
                  replace HC := Lib.hid (HC.out.trans n)
                  replace HCI := Lib.hid (HCI.out.trans n)
                  clear hW n
                  refine rGet_any _ _ (cW, cH, lc) _ _ _ _ HCc.out ?_
                  rw [show getB (cW, cH, lc) _ _ = false from HDC.out]
                  intro w14 n
                  replace NX := Lib.hid (NX.out.trans n)
                  replace HB := Lib.hid (HB.out.kept n nof)
                  replace HCc := Lib.hid (HCc.out.kept n nof)
                  replace HB0 := Lib.hid (n.heap HB0.out id)
                  replace HB1 := Lib.hid (n.heap HB1.out id)
                  replace HC := Lib.hid (HC.out.trans n)
                  replace HCI := Lib.hid (HCI.out.trans n)
                  clear n
                  go_wp2_with (fail)
                  refine ⟨⟨i + 1, by go_num, by omega, by rw [← Nat.add_assoc, HC2.out]; simp, HCI⟩, ?_⟩
                  simp [intOf]; omega
              · cases dc with
                | true =>
                  have HC2 := Lib.hid (show N (k + i + 1) = cN + 0 from by rw [HCS.out]; simp [h1, h2])
                  have kHB00 : wi.cell? ⟨w.heap.size, 0, none⟩ = some (.int .i64 W) := by rw [cell_of HB0.out]; rfl
                  have jHB00 : ∀ o, (wi.alloc o).cell? ⟨w.heap.size, 0, none⟩ = some (.int .i64 W) := fun o => cell_alloc_old o kHB00
                  have kHB01 : wi.cell? ⟨w.heap.size, 1, none⟩ = some (.int .i64 H) := by rw [cell_of HB0.out]; rfl
                  have jHB01 : ∀ o, (wi.alloc o).cell? ⟨w.heap.size, 1, none⟩ = some (.int .i64 H) := fun o => cell_alloc_old o kHB01
                  have kHB02 : wi.cell? ⟨w.heap.size, 2, none⟩ = some (.slice A l.length cap) := by rw [cell_of HB0.out]; rfl
                  have jHB02 : ∀ o, (wi.alloc o).cell? ⟨w.heap.size, 2, none⟩ = some (.slice A l.length cap) := fun o => cell_alloc_old o kHB02
                  go_wp2_with (fail)
                  clear kHB00 jHB00 kHB01 jHB01 kHB02 jHB02
                  refine Calls_nm ?_
                  intro W15 hW
                  have n : Nw wi W15 := by rw [hW]; first | exact Ch.refl _ _ | exact (Ch.refl _ _).alloc _ | exact ((Ch.refl _ _).alloc _).alloc _
                  replace NX := Lib.hid (NX.out.trans n)
                  replace HB := Lib.hid (HB.out.kept n nof)
                  replace HCc := Lib.hid (HCc.out.kept n nof)
                  replace HB0 := Lib.hid (n.heap HB0.out id)
                  replace HB1 := Lib.hid (n.heap HB1.out id)
                  replace HC := Lib.hid (HC.out.trans n)
                  replace HCI := Lib.hid (HCI.out.trans n)
                  clear hW n
                  refine rGet_any _ _ (W, H, l) _ _ _ _ HB.out ?_
                  rw [HG1.out]
                  intro w16 n
                  replace NX := Lib.hid (NX.out.trans n)
                  replace HB := Lib.hid (HB.out.kept n nof)
                  replace HCc := Lib.hid (HCc.out.kept n nof)
                  replace HB0 := Lib.hid (n.heap HB0.out id)
                  replace HB1 := Lib.hid (n.heap HB1.out id)
                  replace HC := Lib.hid (HC.out.trans n)
                  replace HCI := Lib.hid (HCI.out.trans n)
                  clear n
                  have kHB00 : w16.cell? ⟨w.heap.size, 0, none⟩ = some (.int .i64 W) := by rw [cell_of HB0.out]; rfl
                  have jHB00 : ∀ o, (w16.alloc o).cell? ⟨w.heap.size, 0, none⟩ = some (.int .i64 W) := fun o => cell_alloc_old o kHB00
                  have kHB01 : w16.cell? ⟨w.heap.size, 1, none⟩ = some (.int .i64 H) := by rw [cell_of HB0.out]; rfl
                  have jHB01 : ∀ o, (w16.alloc o).cell? ⟨w.heap.size, 1, none⟩ = some (.int .i64 H) := fun o => cell_alloc_old o kHB01
                  have kHB02 : w16.cell? ⟨w.heap.size, 2, none⟩ = some (.slice A l.length cap) := by rw [cell_of HB0.out]; rfl
                  have jHB02 : ∀ o, (w16.alloc o).cell? ⟨w.heap.size, 2, none⟩ = some (.slice A l.length cap) := fun o => cell_alloc_old o kHB02
                  have kHB10 : w16.cell? ⟨w.heap.size + 1, 0, none⟩ = some (.int .i64 cW) := by rw [cell_of HB1.out]; rfl
                  have jHB10 : ∀ o, (w16.alloc o).cell? ⟨w.heap.size + 1, 0, none⟩ = some (.int .i64 cW) := fun o => cell_alloc_old o kHB10
                  have kHB11 : w16.cell? ⟨w.heap.size + 1, 1, none⟩ = some (.int .i64 cH) := by rw [cell_of HB1.out]; rfl
                  have jHB11 : ∀ o, (w16.alloc o).cell? ⟨w.heap.size + 1, 1, none⟩ = some (.int .i64 cH) := fun o => cell_alloc_old o kHB11
                  have kHB12 : w16.cell? ⟨w.heap.size + 1, 2, none⟩ = some (.slice Ac lc.length capc) := by rw [cell_of HB1.out]; rfl
                  have jHB12 : ∀ o, (w16.alloc o).cell? ⟨w.heap.size + 1, 2, none⟩ = some (.slice Ac lc.length capc) := fun o => cell_alloc_old o kHB12
                  go_wp2_with (fail)
                  clear kHB00 jHB00 kHB01 jHB01 kHB02 jHB02 kHB10 jHB10 kHB11 jHB11 kHB12 jHB12
                  refine Calls_nm ?_
                  intro W17 hW
                  have n : Nw w16 W17 := by rw [hW]; first | exact Ch.refl _ _ | exact (Ch.refl _ _).alloc _ | exact ((Ch.refl _ _).alloc _).alloc _
                  replace NX := Lib.hid (NX.out.trans n)
                  replace HB := Lib.hid (HB.out.kept n nof)
                  replace HCc := Lib.hid (HCc.out.kept n nof)
                  replace HB0 := Lib.hid (n.heap HB0.out id)
                  replace HB1 := Lib.hid (n.heap HB1.out id)
                  replace HC := Lib.hid (HC.out.trans n)
                  replace HCI := Lib.hid (HCI.out.trans n)
                  clear hW n
                  refine rGet_any _ _ (cW, cH, lc) _ _ _ _ HCc.out ?_
                  rw [show getB (cW, cH, lc) _ _ = true from HDC.out]
                  intro w18 n
                  replace NX := Lib.hid (NX.out.trans n)
                  replace HB := Lib.hid (HB.out.kept n nof)
                  replace HCc := Lib.hid (HCc.out.kept n nof)
                  replace HB0 := Lib.hid (n.heap HB0.out id)
                  replace HB1 := Lib.hid (n.heap HB1.out id)
                  replace HC := Lib.hid (HC.out.trans n)
                  replace HCI := Lib.hid (HCI.out.trans n)
                  clear n
                  go_wp2_with (fail)
                  refine ⟨⟨i + 1, by go_num, by omega, by rw [← Nat.add_assoc, HC2.out]; simp, HCI⟩, ?_⟩
                  simp [intOf]; omega
                | false =>
                  have HC2 := Lib.hid (show N (k + i + 1) = cN + 1 from by rw [HCS.out]; simp [h1, h2])
                  have kHB00 : wi.cell? ⟨w.heap.size, 0, none⟩ = some (.int .i64 W) := by rw [cell_of HB0.out]; rfl
                  have jHB00 : ∀ o, (wi.alloc o).cell? ⟨w.heap.size, 0, none⟩ = some (.int .i64 W) := fun o => cell_alloc_old o kHB00
                  have kHB01 : wi.cell? ⟨w.heap.size, 1, none⟩ = some (.int .i64 H) := by rw [cell_of HB0.out]; rfl
                  have jHB01 : ∀ o, (wi.alloc o).cell? ⟨w.heap.size, 1, none⟩ = some (.int .i64 H) := fun o => cell_alloc_old o kHB01
                  have kHB02 : wi.cell? ⟨w.heap.size, 2, none⟩ = some (.slice A l.length cap) := by rw [cell_of HB0.out]; rfl
                  have jHB02 : ∀ o, (wi.alloc o).cell? ⟨w.heap.size, 2, none⟩ = some (.slice A l.length cap) := fun o => cell_alloc_old o kHB02
                  go_wp2_with (fail)
                  clear kHB00 jHB00 kHB01 jHB01 kHB02 jHB02
                  refine Calls_nm ?_
                  intro W19 hW
                  have n : Nw wi W19 := by rw [hW]; first | exact Ch.refl _ _ | exact (Ch.refl _ _).alloc _ | exact ((Ch.refl _ _).alloc _).alloc _
                  replace NX := Lib.hid (NX.out.trans n)
                  replace HB := Lib.hid (HB.out.kept n nof)
                  replace HCc := Lib.hid (HCc.out.kept n nof)
                  replace HB0 := Lib.hid (n.heap HB0.out id)
                  replace HB1 := Lib.hid (n.heap HB1.out id)
                  replace HC := Lib.hid (HC.out.trans n)
                  replace HCI := Lib.hid (HCI.out.trans n)
                  clear hW n
                  refine rGet_any _ _ (W, H, l) _ _ _ _ HB.out ?_
                  rw [HG1.out]
                  intro w20 n
                  replace NX := Lib.hid (NX.out.trans n)
                  replace HB := Lib.hid (HB.out.kept n nof)
                  replace HCc := Lib.hid (HCc.out.kept n nof)
                  replace HB0 := Lib.hid (n.heap HB0.out id)
                  replace HB1 := Lib.hid (n.heap HB1.out id)
                  replace HC := Lib.hid (HC.out.trans n)
                  replace HCI := Lib.hid (HCI.out.trans n)
                  clear n
                  have kHB00 : w20.cell? ⟨w.heap.size, 0, none⟩ = some (.int .i64 W) := by rw [cell_of HB0.out]; rfl
                  have jHB00 : ∀ o, (w20.alloc o).cell? ⟨w.heap.size, 0, none⟩ = some (.int .i64 W) := fun o => cell_alloc_old o kHB00
                  have kHB01 : w20.cell? ⟨w.heap.size, 1, none⟩ = some (.int .i64 H) := by rw [cell_of HB0.out]; rfl
                  have jHB01 : ∀ o, (w20.alloc o).cell? ⟨w.heap.size, 1, none⟩ = some (.int .i64 H) := fun o => cell_alloc_old o kHB01
                  have kHB02 : w20.cell? ⟨w.heap.size, 2, none⟩ = some (.slice A l.length cap) := by rw [cell_of HB0.out]; rfl
                  have jHB02 : ∀ o, (w20.alloc o).cell? ⟨w.heap.size, 2, none⟩ = some (.slice A l.length cap) := fun o => cell_alloc_old o kHB02
                  have kHB10 : w20.cell? ⟨w.heap.size + 1, 0, none⟩ = some (.int .i64 cW) := by rw [cell_of HB1.out]; rfl
                  have jHB10 : ∀ o, (w20.alloc o).cell? ⟨w.heap.size + 1, 0, none⟩ = some (.int .i64 cW) := fun o => cell_alloc_old o kHB10
                  have kHB11 : w20.cell? ⟨w.heap.size + 1, 1, none⟩ = some (.int .i64 cH) := by rw [cell_of HB1.out]; rfl
                  have jHB11 : ∀ o, (w20.alloc o).cell? ⟨w.heap.size + 1, 1, none⟩ = some (.int .i64 cH) := fun o => cell_alloc_old o kHB11
                  have kHB12 : w20.cell? ⟨w.heap.size + 1, 2, none⟩ = some (.slice Ac lc.length capc) := by rw [cell_of HB1.out]; rfl
                  have jHB12 : ∀ o, (w20.alloc o).cell? ⟨w.heap.size + 1, 2, none⟩ = some (.slice Ac lc.length capc) := fun o => cell_alloc_old o kHB12
                  go_wp2_with (fail)
                  clear kHB00 jHB00 kHB01 jHB01 kHB02 jHB02 kHB10 jHB10 kHB11 jHB11 kHB12 jHB12
                  refine Calls_nm ?_
                  intro W21 hW
                  have n : Nw w20 W21 := by rw [hW]; first | exact Ch.refl _ _ | exact (Ch.refl _ _).alloc _ | exact ((Ch.refl _ _).alloc _).alloc _
                  replace NX := Lib.hid (NX.out.trans n)
                  replace HB := Lib.hid (HB.out.kept n nof)
                  replace HCc := Lib.hid (HCc.out.kept n nof)
                  replace HB0 := Lib.hid (n.heap HB0.out id)
                  replace HB1 := Lib.hid (n.heap HB1.out id)
                  replace HC := Lib.hid (HC.out.trans n)
                  replace HCI := Lib.hid (HCI.out.trans n)
                  clear hW n
                  refine rGet_any _ _ (cW, cH, lc) _ _ _ _ HCc.out ?_
                  rw [show getB (cW, cH, lc) _ _ = false from HDC.out]
                  intro w22 n
                  replace NX := Lib.hid (NX.out.trans n)
                  replace HB := Lib.hid (HB.out.kept n nof)
                  replace HCc := Lib.hid (HCc.out.kept n nof)
                  replace HB0 := Lib.hid (n.heap HB0.out id)
                  replace HB1 := Lib.hid (n.heap HB1.out id)
                  replace HC := Lib.hid (HC.out.trans n)
                  replace HCI := Lib.hid (HCI.out.trans n)
                  clear n
                  go_wp2_with (fail)
                  refine ⟨⟨i + 1, by go_num, by omega, by rw [← Nat.add_assoc, HC2.out]; simp, HCI⟩, ?_⟩
                  simp [intOf]; omega
              · have HC2 := Lib.hid (show N (k + i + 1) = cN + 0 from by rw [HCS.out]; simp [h1, h2])
                have kHB00 : wi.cell? ⟨w.heap.size, 0, none⟩ = some (.int .i64 W) := by rw [cell_of HB0.out]; rfl
                have jHB00 : ∀ o, (wi.alloc o).cell? ⟨w.heap.size, 0, none⟩ = some (.int .i64 W) := fun o => cell_alloc_old o kHB00
                have kHB01 : wi.cell? ⟨w.heap.size, 1, none⟩ = some (.int .i64 H) := by rw [cell_of HB0.out]; rfl
                have jHB01 : ∀ o, (wi.alloc o).cell? ⟨w.heap.size, 1, none⟩ = some (.int .i64 H) := fun o => cell_alloc_old o kHB01
                have kHB02 : wi.cell? ⟨w.heap.size, 2, none⟩ = some (.slice A l.length cap) := by rw [cell_of HB0.out]; rfl
                have jHB02 : ∀ o, (wi.alloc o).cell? ⟨w.heap.size, 2, none⟩ = some (.slice A l.length cap) := fun o => cell_alloc_old o kHB02
                go_wp2_with (fail)
                clear kHB00 jHB00 kHB01 jHB01 kHB02 jHB02
                refine Calls_nm ?_
                intro W23 hW
                have n : Nw wi W23 := by rw [hW]; first | exact Ch.refl _ _ | exact (Ch.refl _ _).alloc _ | exact ((Ch.refl _ _).alloc _).alloc _
                replace NX := Lib.hid (NX.out.trans n)
                replace HB := Lib.hid (HB.out.kept n nof)
                replace HCc := Lib.hid (HCc.out.kept n nof)
                replace HB0 := Lib.hid (n.heap HB0.out id)
                replace HB1 := Lib.hid (n.heap HB1.out id)
                replace HC := Lib.hid (HC.out.trans n)
                replace HCI := Lib.hid (HCI.out.trans n)
                clear hW n
                refine rGet_any _ _ (W, H, l) _ _ _ _ HB.out ?_
                rw [HG1.out]
                intro w24 n
                replace NX := Lib.hid (NX.out.trans n)
                replace HB := Lib.hid (HB.out.kept n nof)
                replace HCc := Lib.hid (HCc.out.kept n nof)
                replace HB0 := Lib.hid (n.heap HB0.out id)
                replace HB1 := Lib.hid (n.heap HB1.out id)
                replace HC := Lib.hid (HC.out.trans n)
                replace HCI := Lib.hid (HCI.out.trans n)
                clear n
                have kHB00 : w24.cell? ⟨w.heap.size, 0, none⟩ = some (.int .i64 W) := by rw [cell_of HB0.out]; rfl
                have kHB01 : w24.cell? ⟨w.heap.size, 1, none⟩ = some (.int .i64 H) := by rw [cell_of HB0.out]; rfl
                have kHB02 : w24.cell? ⟨w.heap.size, 2, none⟩ = some (.slice A l.length cap) := by rw [cell_of HB0.out]; rfl
                have kHB10 : w24.cell? ⟨w.heap.size + 1, 0, none⟩ = some (.int .i64 cW) := by rw [cell_of HB1.out]; rfl
                have kHB11 : w24.cell? ⟨w.heap.size + 1, 1, none⟩ = some (.int .i64 cH) := by rw [cell_of HB1.out]; rfl
                have kHB12 : w24.cell? ⟨w.heap.size + 1, 2, none⟩ = some (.slice Ac lc.length capc) := by rw [cell_of HB1.out]; rfl
                go_wp2_with (fail)
                refine ⟨⟨i + 1, by go_num, by omega, by rw [← Nat.add_assoc, HC2.out]; simp, HCI⟩, ?_⟩
                simp [intOf]; omega
          · obtain rfl : W = (i : Int) := by omega
            have kHB00 : wi.cell? ⟨w.heap.size, 0, none⟩ = some (.int .i64 (i : Int)) := by rw [cell_of HB0.out]; rfl
            go_wp2_with (fail)
            refine ⟨⟨j + 1, k + i, by go_num, by omega, by omega, Lib.hid ?_, rfl, HC⟩, ?_⟩
            · rw [Int.natCast_add, HK.out, Int.add_mul, Int.one_mul]
            · simp [intOf]; omega
      · obtain rfl : j = H := by omega
        have kHB00 : wj.cell? ⟨w.heap.size, 0, none⟩ = some (.int .i64 W) := by rw [cell_of HB0.out]; rfl
        have jHB00 : ∀ o, (wj.alloc o).cell? ⟨w.heap.size, 0, none⟩ = some (.int .i64 W) := fun o => cell_alloc_old o kHB00
        have kHB01 : wj.cell? ⟨w.heap.size, 1, none⟩ = some (.int .i64 j) := by rw [cell_of HB0.out]; rfl
        have jHB01 : ∀ o, (wj.alloc o).cell? ⟨w.heap.size, 1, none⟩ = some (.int .i64 j) := fun o => cell_alloc_old o kHB01
        have kHB02 : wj.cell? ⟨w.heap.size, 2, none⟩ = some (.slice A l.length cap) := by rw [cell_of HB0.out]; rfl
        have jHB02 : ∀ o, (wj.alloc o).cell? ⟨w.heap.size, 2, none⟩ = some (.slice A l.length cap) := fun o => cell_alloc_old o kHB02
        go_wp2_with (fail)
        clear kHB00 jHB00 kHB01 jHB01 kHB02 jHB02
        refine Calls_nm ?_
        intro W25 hW
        have n : Nw wj W25 := by rw [hW]; first | exact Ch.refl _ _ | exact (Ch.refl _ _).alloc _ | exact ((Ch.refl _ _).alloc _).alloc _
        replace NX := Lib.hid (NX.out.trans n)
        replace HB := Lib.hid (HB.out.kept n nof)
        replace HCc := Lib.hid (HCc.out.kept n nof)
        replace HB0 := Lib.hid (n.heap HB0.out id)
        replace HB1 := Lib.hid (n.heap HB1.out id)
        replace HC := Lib.hid (HC.out.trans n)
        clear hW n
        refine rbCheck_ok w.heap.size _ (W, j, l) _ _ HB.out HE.out ?_
        intro w26 n
        replace NX := Lib.hid (NX.out.trans n)
        replace HB := Lib.hid (HB.out.kept n nof)
        replace HCc := Lib.hid (HCc.out.kept n nof)
        replace HB0 := Lib.hid (n.heap HB0.out id)
        replace HB1 := Lib.hid (n.heap HB1.out id)
        replace HC := Lib.hid (HC.out.trans n)
        clear n
        have kHB01 : w26.cell? ⟨w.heap.size, 1, none⟩ = some (.int .i64 j) := by rw [cell_of HB0.out]; rfl
        go_wp2_with (fail)
        have h0 := HR.out _ NX.out
        rw [HCD.out, ← HN.out] at h0
        have e : l.length = k := by have := HK.out; have := HL0.out; rw [Int.mul_comm] at this; omega
        simp only [e] at h0
        exact h0
  · obtain ⟨e, he, he2⟩ : ∃ e, bmE (W, H, l) = e ∧ (e = 5 ∨ e = 13) := ⟨_, rfl, (bmE_in _).resolve_left hE⟩
    have HEE := Lib.hid he
    have HCD := Lib.hid (cntD_bad hE P)
    clear he hE
    rcases he2 with rfl | rfl
    · go_enter Tryd.func17, Tryd.ntmps17
      go_wp2_with (fail)
      refine wp_named ?_
      intro W27 hW
      have n : Nw w W27 := by rw [hW]; exact ((Ch.refl _ _).alloc _).alloc _
      replace NX := Lib.hid (NX.out.trans n)
      replace HB := Lib.hid (HB.out.kept n nof)
      replace HCc := Lib.hid (HCc.out.kept n nof)
      have HB0 := Lib.hid (show W27.heap[w.heap.size]? = some (.cells #[.int .i64 W, .int .i64 H, .slice A l.length cap] 28 (0, 0)) from by rw [hW]; exact heap_alloc_old' _ (heap_alloc_eq _ rfl))
      have HB1 := Lib.hid (show W27.heap[w.heap.size + 1]? = some (.cells #[.int .i64 cW, .int .i64 cH, .slice Ac lc.length capc] 28 (0, 0)) from by rw [hW]; exact heap_alloc_eq _ (by simp only [alloc_size]))
      clear hW n
      go_loopw [13, 14, 15] (fun s13 _ _ wr => s13 = .int .i64 0 ∧ wr = W27) (fun _ _ _ _ => 0)
      case atStart => exact ⟨rfl, rfl⟩
      case round =>
        obtain ⟨rfl, rfl⟩ := hrel
        have kHB00 : wr.cell? ⟨w.heap.size, 0, none⟩ = some (.int .i64 W) := by rw [cell_of HB0.out]; rfl
        have jHB00 : ∀ o, (wr.alloc o).cell? ⟨w.heap.size, 0, none⟩ = some (.int .i64 W) := fun o => cell_alloc_old o kHB00
        have kHB01 : wr.cell? ⟨w.heap.size, 1, none⟩ = some (.int .i64 H) := by rw [cell_of HB0.out]; rfl
        have jHB01 : ∀ o, (wr.alloc o).cell? ⟨w.heap.size, 1, none⟩ = some (.int .i64 H) := fun o => cell_alloc_old o kHB01
        have kHB02 : wr.cell? ⟨w.heap.size, 2, none⟩ = some (.slice A l.length cap) := by rw [cell_of HB0.out]; rfl
        have jHB02 : ∀ o, (wr.alloc o).cell? ⟨w.heap.size, 2, none⟩ = some (.slice A l.length cap) := fun o => cell_alloc_old o kHB02
        go_wp2_with (fail)
        clear kHB00 jHB00 kHB01 jHB01 kHB02 jHB02
        refine Calls_nm ?_
        intro W28 hW
        have n : Nw wr W28 := by rw [hW]; first | exact Ch.refl _ _ | exact (Ch.refl _ _).alloc _ | exact ((Ch.refl _ _).alloc _).alloc _
        replace NX := Lib.hid (NX.out.trans n)
        replace HB := Lib.hid (HB.out.kept n nof)
        replace HCc := Lib.hid (HCc.out.kept n nof)
        replace HB0 := Lib.hid (n.heap HB0.out id)
        replace HB1 := Lib.hid (n.heap HB1.out id)
        clear hW n
        refine rbCheck_any w.heap.size _ (W, H, l) _ _ HB.out ?_
        rw [HEE.out]
        intro w29 n
        replace NX := Lib.hid (NX.out.trans n)
        replace HB := Lib.hid (HB.out.kept n nof)
        replace HCc := Lib.hid (HCc.out.kept n nof)
        replace HB0 := Lib.hid (n.heap HB0.out id)
        replace HB1 := Lib.hid (n.heap HB1.out id)
        clear n
        go_wp2_with (fail)
        have h0 := HR.out _ NX.out
        rw [HCD.out] at h0
        exact h0
    · go_enter Tryd.func17, Tryd.ntmps17
      go_wp2_with (fail)
      refine wp_named ?_
      intro W30 hW
      have n : Nw w W30 := by rw [hW]; exact ((Ch.refl _ _).alloc _).alloc _
      replace NX := Lib.hid (NX.out.trans n)
      replace HB := Lib.hid (HB.out.kept n nof)
      replace HCc := Lib.hid (HCc.out.kept n nof)
      have HB0 := Lib.hid (show W30.heap[w.heap.size]? = some (.cells #[.int .i64 W, .int .i64 H, .slice A l.length cap] 28 (0, 0)) from by rw [hW]; exact heap_alloc_old' _ (heap_alloc_eq _ rfl))
      have HB1 := Lib.hid (show W30.heap[w.heap.size + 1]? = some (.cells #[.int .i64 cW, .int .i64 cH, .slice Ac lc.length capc] 28 (0, 0)) from by rw [hW]; exact heap_alloc_eq _ (by simp only [alloc_size]))
      clear hW n
      go_loopw [13, 14, 15] (fun s13 _ _ wr => s13 = .int .i64 0 ∧ wr = W30) (fun _ _ _ _ => 0)
      case atStart => exact ⟨rfl, rfl⟩
      case round =>
        obtain ⟨rfl, rfl⟩ := hrel
        have kHB00 : wr.cell? ⟨w.heap.size, 0, none⟩ = some (.int .i64 W) := by rw [cell_of HB0.out]; rfl
        have jHB00 : ∀ o, (wr.alloc o).cell? ⟨w.heap.size, 0, none⟩ = some (.int .i64 W) := fun o => cell_alloc_old o kHB00
        have kHB01 : wr.cell? ⟨w.heap.size, 1, none⟩ = some (.int .i64 H) := by rw [cell_of HB0.out]; rfl
        have jHB01 : ∀ o, (wr.alloc o).cell? ⟨w.heap.size, 1, none⟩ = some (.int .i64 H) := fun o => cell_alloc_old o kHB01
        have kHB02 : wr.cell? ⟨w.heap.size, 2, none⟩ = some (.slice A l.length cap) := by rw [cell_of HB0.out]; rfl
        have jHB02 : ∀ o, (wr.alloc o).cell? ⟨w.heap.size, 2, none⟩ = some (.slice A l.length cap) := fun o => cell_alloc_old o kHB02
        go_wp2_with (fail)
        clear kHB00 jHB00 kHB01 jHB01 kHB02 jHB02
        refine Calls_nm ?_
        intro W31 hW
        have n : Nw wr W31 := by rw [hW]; first | exact Ch.refl _ _ | exact (Ch.refl _ _).alloc _ | exact ((Ch.refl _ _).alloc _).alloc _
        replace NX := Lib.hid (NX.out.trans n)
        replace HB := Lib.hid (HB.out.kept n nof)
        replace HCc := Lib.hid (HCc.out.kept n nof)
        replace HB0 := Lib.hid (n.heap HB0.out id)
        replace HB1 := Lib.hid (n.heap HB1.out id)
        clear hW n
        refine rbCheck_any w.heap.size _ (W, H, l) _ _ HB.out ?_
        rw [HEE.out]
        intro w32 n
        replace NX := Lib.hid (NX.out.trans n)
        replace HB := Lib.hid (HB.out.kept n nof)
        replace HCc := Lib.hid (HCc.out.kept n nof)
        replace HB0 := Lib.hid (n.heap HB0.out id)
        replace HB1 := Lib.hid (n.heap HB1.out id)
        clear n
        go_wp2_with (fail)
        have h0 := HR.out _ NX.out
        rw [HCD.out] at h0
        exact h0
end Go.Proofs.YtaafmgkjfmngjaaDoor
