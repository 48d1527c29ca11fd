/-
  bitmap.Parse: the bitmap with given rows.
-/
import Derived.Test.YtaafmgkjfmngjaaDoorSpl4
import Derived.Test.YtaafmgkjfmngjaaDoorNew4
import Derived.Test.YtaafmgkjfmngjaaDoorTri4
import Derived.Test.YtaafmgkjfmngjaaDoorPr4
import Derived.Test.YtaafmgkjfmngjaaDoorRegU
namespace Go.Proofs.YtaafmgkjfmngjaaDoor
open Go.RowKit
set_option linter.unusedVariables false
set_option linter.unusedSimpArgs false
set_option maxRecDepth 100000

set_option maxHeartbeats 16000000 in
theorem bParse_any (s : ByteArray) (w : World) (R : Ending → World → Prop) (hmx : MaxOk w) (hs : s.size ≤ 500000)
    (hR : ∀ w' v', IsBm w' w'.heap.size v' (parseB s.data.toList).1 → Nw w w' → R (.returned (.tuple #[v', .bool (parseB s.data.toList).2])) w') : Calls Tryd.prog 31 #[.string s] w R := by
  have HR := Lib.hid hR
  clear hR
  have MX := Lib.hid hmx
  have hm0 := hmx.lt
  clear hmx
  have NX := Lib.hid (Ch.refl (fun _ => False) w)
  go_enter Tryd.func31, Tryd.ntmps31
  go_wp2_with (fail)
  refine Calls_nm ?_
  intro W1 hW
  have n : Nw w W1 := by rw [hW]; exact (Ch.refl _ _).alloc _
  replace NX := Lib.hid (NX.out.trans n)
  replace MX := Lib.hid (MX.out.kept n id)
  have RB := Lib.hid (show W1.heap[w.heap.size]? = some (.cells #[.int .i64 0, .int .i64 0, .slice none 0 0] 28 (0, 0)) from by rw [hW]; exact heap_alloc_eq _ rfl)
  clear hW n
  have SZ : w.heap.size < W1.heap.size := lt_of_heap RB.out
  have SZb := SZ
  refine split_any s _ _ MX.out (by omega) ?_
  intro w2 b h rows hrl hrows hcell hb n
  replace NX := Lib.hid (NX.out.trans n)
  replace MX := Lib.hid (MX.out.kept n id)
  replace RB := Lib.hid (n.heap RB.out id)
  replace SZ := Nat.lt_of_lt_of_le SZ n.size
  have HCEL := Lib.hid hcell
  obtain ⟨L, hL⟩ : ∃ L, s.data.toList = L := ⟨_, rfl⟩
  have hLs : L.length = s.size := by rw [← hL]; exact ba_len4 s
  rw [hL] at hrows HR
  have hcnt := lines_count L
  have hlr : (lines L).length = h + 1 := by rw [← hrows, List.length_map]; exact hrl
  have hh : h ≤ 500000 := by omega
  have hsz : ∀ (k : Nat) (r : ByteArray), rows[k]? = some r → r.size ≤ 500000 := fun k r hk => by
    have hm : r.data.toList ∈ lines L := by rw [← hrows]; exact List.mem_map.2 ⟨r, List.mem_of_getElem? hk, rfl⟩
    have := line_size hm
    rw [ba_len4] at this
    omega
  have HSZ := Lib.hid hsz
  obtain ⟨r0, hr0⟩ : ∃ r, rows[0]? = some r := ⟨_, List.getElem?_eq_getElem (by omega)⟩
  obtain ⟨t, ht⟩ : ∃ r, rows[h]? = some r := ⟨_, List.getElem?_eq_getElem (by omega)⟩
  obtain ⟨Q, hQ⟩ : ∃ Q : List (List UInt8), (rows.take h).map (·.data.toList) = Q := ⟨_, rfl⟩
  have hlines : lines L = Q ++ [t.data.toList] := by rw [← hQ, ← hrows, ← List.map_singleton (f := fun x : ByteArray => x.data.toList), ← List.map_append]; congr 1; rw [← take_snoc4 ht, List.take_of_length_le (by omega)]
  have hQl : Q.length = h := by rw [← hQ, List.length_map, List.length_take]; omega
  have hQk : ∀ (k : Nat) (r : ByteArray), k < h → rows[k]? = some r → Q[k]? = some r.data.toList := fun k r hk hr => by rw [← hQ, List.getElem?_map, List.getElem?_take, if_pos hk, hr]; rfl
  have PL := Lib.hid (parse_linesB hlines)
  have HQK := Lib.hid hQk
  have HQL := Lib.hid hQl
  have hz0 := hsz 0 r0 hr0
  have hzt := hsz h t ht
  have HR0 := Lib.hid hr0
  have HTT := Lib.hid ht
  have HRL := Lib.hid hrl
  clear n hcell hrows hcnt hlr hlines hQ hQk hQl hsz hr0 ht hrl hL
  have c0 := HCEL.out 0 r0 HR0.out
  have ct := HCEL.out h t HTT.out
  have hi1 : (h : Int) + 1 - 1 = (h : Int) := by omega
  have h0 : (0 : Int) ≤ (h : Int) := by omega
  have hl1 : (h : Int) < ((h + 1 : Nat) : Int) := by omega
  by_cases hok : t.size = 0 ∧ 1 ≤ r0.size ∧ 1 ≤ h
  · obtain ⟨k1, k2, k3⟩ := hok
    have te := (nil_or t).1 k1
    have HTE := Lib.hid k1
    obtain ⟨wN, hwN⟩ : ∃ n : Nat, r0.size = n := ⟨_, rfl⟩
    have HWN := Lib.hid hwN
    rw [hwN] at k2 hz0
    clear k1
    have HQ0 := Lib.hid (show Q.headD [] = r0.data.toList from by
      have := HQK.out 0 r0 (by omega) HR0.out
      rw [List.headD_eq_head?_getD, List.head?_eq_getElem?, this]
      rfl)
    have z1 : ¬ (wN : Int) < 1 := by omega
    have z2 : ¬ (h : Int) < 1 := by omega
    by_cases hS : wN ≤ 96 ∧ h ≤ 96
    · obtain ⟨s1, s2⟩ := hS
      have hm : wN * h ≤ 96 * 96 := Nat.mul_le_mul s1 s2
      obtain ⟨nD, hnD⟩ : ∃ n : Nat, n = wN * h := ⟨_, rfl⟩
      have HNN := Lib.hid (show (nD : Int) = (wN : Int) * (h : Int) from by rw [hnD]; norm_cast)
      have nD1 : nD ≤ 10000 := by omega
      clear hm hnD
      obtain ⟨F, hF⟩ : ∃ F, rowF Q (h : Int) = F := ⟨_, rfl⟩
      have HF := Lib.hid hF
      clear hF
      go_wp2_with (fail)
      try simp only [HWN.out]
      refine Calls_nm ?_
      intro W3 hW
      have n : Nw w2 W3 := by rw [hW]; first | exact Ch.refl _ _ | exact (Ch.refl _ _).alloc _ | exact ((Ch.refl _ _).alloc _).alloc _
      replace NX := Lib.hid (NX.out.trans n)
      replace MX := Lib.hid (MX.out.kept n id)
      replace RB := Lib.hid (n.heap RB.out id)
      replace SZ := Nat.lt_of_lt_of_le SZ n.size
      replace HCEL := Lib.hid (fun k r h => n.cell (HCEL.out k r h) id)
      clear hW n
      refine bNew_ok (wN : Int) (h : Int) nD _ _ ⟨by omega, by omega⟩ ⟨by omega, by omega⟩ HNN.out ?_
      intro w5 g hg hlo5 n
      have SZg := W3.heap.size
      have Sx := lt_of_heap RB.out
      have hgl := lt_of_heap hg
      have hbg : b < W3.heap.size := World.block_lt_of_cell? _ _ (HCEL.out 0 r0 HR0.out)
      have HG := Lib.hid hg
      clear hg c0 ct
      replace NX := Lib.hid (NX.out.trans n)
      replace MX := Lib.hid (MX.out.kept n id)
      replace RB := Lib.hid (n.heap RB.out id)
      replace SZ := Nat.lt_of_lt_of_le SZ n.size
      replace HCEL := Lib.hid (fun k r h => n.cell (HCEL.out k r h) id)
      clear n
      go_wp2_with (fail)
      refine wp_named ?_
      intro W4 hW
      have n : Nw w5 W4 := by rw [hW]; exact (Ch.refl _ _).alloc _
      replace NX := Lib.hid (NX.out.trans n)
      replace MX := Lib.hid (MX.out.kept n id)
      replace RB := Lib.hid (n.heap RB.out id)
      replace SZ := Nat.lt_of_lt_of_le SZ n.size
      replace HCEL := Lib.hid (fun k r h => n.cell (HCEL.out k r h) id)
      replace HG := Lib.hid (n.heap HG.out id)
      have OB := Lib.hid (show W4.heap[w5.heap.size]? = some (.cells #[.int .i64 (wN : Int), .int .i64 (h : Int), .slice (some ⟨g, 0, none⟩) nD nD] 28 (0, 0)) from by rw [hW]; exact heap_alloc_eq _ rfl)
      clear hW n
      replace HG := Lib.hid (show W4.heap[g]? = some (.cells (boolC (topS (wN : Int) (h : Int) F (((0 : Nat) : Int) * (wN : Int)))) 4 (0, 0)) from by rw [Int.natCast_zero, Int.zero_mul, topS_zero F (by omega), show ((wN : Int) * (h : Int)).toNat = nD from by have := HNN.out; omega]; exact HG.out)
      clear hwN
      go_loopw [9, 10, 11, 48] (fun _ _ _ s48 wr => ∃ k : Nat, s48 = .int .i64 k ∧ k ≤ h ∧ Hid (∀ (i : Nat) (r : ByteArray), i < k → rows[i]? = some r → r.size = wN ∧ allOk r) ∧ Hid (wr.heap[g]? = some (.cells (boolC (topS (wN : Int) (h : Int) F ((k : Int) * (wN : Int)))) 4 (0, 0))) ∧ Hid (Ch (· = g) W4 wr)) (fun _ _ _ s48 _ => h - (intOf s48).toNat)
      case atStart => exact ⟨0, rfl, Nat.zero_le _, Lib.hid (fun i r hi => by omega), HG, Lib.hid (Ch.refl _ _)⟩
      case round =>
        obtain ⟨k, rfl, hk, HALL, HGK, HC⟩ := hrel
        have kk0 : (0 : Int) ≤ (k : Int) := by omega
        obtain ⟨wk, hwk⟩ : ∃ W : World, W = wr := ⟨_, rfl⟩
        subst hwk
        clear HG
        replace NX := Lib.hid (NX.out.trans' HC.out (fun i hi e => by have e' : i = g := e; omega))
        replace MX := Lib.hid (MX.out.kept HC.out (by show 0 ≠ g; omega))
        replace RB := Lib.hid (HC.out.heap RB.out (by show w.heap.size ≠ g; omega))
        replace SZ := Nat.lt_of_lt_of_le SZ HC.out.size
        replace HCEL := Lib.hid (fun k r h => HC.out.cell (HCEL.out k r h) (by show b ≠ g; omega))
        replace OB := Lib.hid (HC.out.heap OB.out (by show w5.heap.size ≠ g; omega))
        by_cases hlt : k < h
        · obtain ⟨r, hr⟩ : ∃ r, rows[k]? = some r := ⟨_, List.getElem?_eq_getElem (by have := HRL.out; omega)⟩
          have kk1 : (k : Int) < (h : Int) := by omega
          have kk2 : (k : Int) < ((h + 1 : Nat) : Int) := by omega
          have hrz := HSZ.out k r hr
          have hcr := HCEL.out k r hr
          have HRK := Lib.hid hr
          have HQR := Lib.hid (HQK.out k r hlt hr)
          clear hr
          by_cases hrw : r.size = wN
          · have HRW := Lib.hid hrw
            have t1 : ((r.size : Int) != (wN : Int)) = false := by simp [hrw]
            clear hrw
            go_wp2_with (fail)
            refine Calls_nm ?_
            intro W5 hW
            have n : Nw wk W5 := by rw [hW]; first | exact Ch.refl _ _ | exact (Ch.refl _ _).alloc _ | exact ((Ch.refl _ _).alloc _).alloc _
            replace NX := Lib.hid (NX.out.trans n)
            replace MX := Lib.hid (MX.out.kept n id)
            replace RB := Lib.hid (n.heap RB.out id)
            replace SZ := Nat.lt_of_lt_of_le SZ n.size
            replace HCEL := Lib.hid (fun k r h => n.cell (HCEL.out k r h) id)
            replace OB := Lib.hid (n.heap OB.out id)
            replace HC := Lib.hid (HC.out.trans' n (fun _ _ e => e.elim))
            replace HGK := Lib.hid (n.heap HGK.out id)
            clear hW n
            refine Trim_any r _ _ (by omega) ?_
            intro w6 t2 ht2 n
            replace NX := Lib.hid (NX.out.trans n)
            replace MX := Lib.hid (MX.out.kept n id)
            replace RB := Lib.hid (n.heap RB.out id)
            replace SZ := Nat.lt_of_lt_of_le SZ n.size
            replace HCEL := Lib.hid (fun k r h => n.cell (HCEL.out k r h) id)
            replace OB := Lib.hid (n.heap OB.out id)
            replace HC := Lib.hid (HC.out.trans' n (fun _ _ e => e.elim))
            replace HGK := Lib.hid (n.heap HGK.out id)
            clear n
            by_cases hao : allOk r
            · have HAO := Lib.hid hao
              have te2 := (nil_or t2).1 (ht2.2 hao)
              clear ht2 hao hcr t1
              go_wp2_with (fail)
              refine wp_named ?_
              intro W7 hW
              have n : Nw w6 W7 := by rw [hW]; first | exact Ch.refl _ _ | exact (Ch.refl _ _).alloc _ | exact ((Ch.refl _ _).alloc _).alloc _
              replace NX := Lib.hid (NX.out.trans n)
              replace MX := Lib.hid (MX.out.kept n id)
              replace RB := Lib.hid (n.heap RB.out id)
              replace SZ := Nat.lt_of_lt_of_le SZ n.size
              replace HCEL := Lib.hid (fun k r h => n.cell (HCEL.out k r h) id)
              replace OB := Lib.hid (n.heap OB.out id)
              replace HC := Lib.hid (HC.out.trans' n (fun _ _ e => e.elim))
              replace HGK := Lib.hid (n.heap HGK.out id)
              clear hW n
              go_loopw [11, 64] (fun _ s64 wr => ∃ x : Nat, s64 = .int .i64 x ∧ x ≤ wN ∧ Hid (wr.heap[g]? = some (.cells (boolC (topS (wN : Int) (h : Int) F ((k : Int) * (wN : Int) + (x : Int)))) 4 (0, 0))) ∧ Hid (Ch (· = g) W7 wr)) (fun _ s64 _ => wN - (intOf s64).toNat)
              case atStart => exact ⟨0, rfl, Nat.zero_le _, by rw [Int.natCast_zero, Int.add_zero]; exact HGK, Lib.hid (Ch.refl _ _)⟩
              case round =>
                clear HGK
                obtain ⟨x, rfl, hx, HGX, HCX⟩ := hrel
                have x0 : (0 : Int) ≤ (x : Int) := by omega
                obtain ⟨wx, hwx⟩ : ∃ W : World, W = wr := ⟨_, rfl⟩
                subst hwx
                replace NX := Lib.hid (NX.out.trans' HCX.out (fun i hi e => by have e' : i = g := e; omega))
                replace MX := Lib.hid (MX.out.kept HCX.out (by show 0 ≠ g; omega))
                replace RB := Lib.hid (HCX.out.heap RB.out (by show w.heap.size ≠ g; omega))
                replace SZ := Nat.lt_of_lt_of_le SZ HCX.out.size
                replace HCEL := Lib.hid (fun k r h => HCX.out.cell (HCEL.out k r h) (by show b ≠ g; omega))
                replace OB := Lib.hid (HCX.out.heap OB.out (by show w5.heap.size ≠ g; omega))
                by_cases hxw : x < wN
                · obtain ⟨c, hc⟩ : ∃ c, r[x]'(by have := HRW.out; omega) = c := ⟨_, rfl⟩
                  have hrx : x < r.size := by have := HRW.out; omega
                  have HCX2 := Lib.hid (show r.data.toList[x]? = some c from by rw [ba_get4 r x hrx, hc])
                  have x1 : (x : Int) < (r.size : Int) := by omega
                  have x2 : (x : Int) < (wN : Int) := by omega
                  obtain ⟨y, hy⟩ : ∃ y : Nat, y + 1 + k = h := ⟨h - 1 - k, by omega⟩
                  obtain ⟨P, hP⟩ : ∃ P : Nat, P = y * wN := ⟨_, rfl⟩
                  obtain ⟨p, hp⟩ : ∃ p : Nat, p = P + x := ⟨_, rfl⟩
                  have hyP : (y : Int) * (wN : Int) = (P : Int) := by rw [hP]; norm_cast
                  have hpn : p < nD := by
                    have h1 := HNN.out
                    have h4 : (y + 1) * wN ≤ h * wN := Nat.mul_le_mul_right _ (by omega)
                    rw [Nat.add_mul, Nat.one_mul, ← hP, Nat.mul_comm h wN] at h4
                    have h5 : (nD : Int) = ((wN * h : Nat) : Int) := by rw [h1]; norm_cast
                    omega
                  have wy1 : IntKind.i64.wrap ((h : Int) - 1) = (h : Int) - 1 := by rw [IntKind.wrap_i64]; omega
                  have wy2 : IntKind.i64.wrap ((h : Int) - 1 - (k : Int)) = (y : Int) := by rw [IntKind.wrap_i64]; omega
                  have wy5 : IntKind.i64.wrap (P : Int) = (P : Int) := by rw [IntKind.wrap_i64]; omega
                  have wy6 : IntKind.i64.wrap ((P : Int) + (x : Int)) = (p : Int) := by rw [IntKind.wrap_i64]; omega
                  have pp0 : (0 : Int) ≤ (p : Int) := by omega
                  have pp1 : (p : Int) < (nD : Int) := by omega
                  have hFx : F (x : Int) (y : Int) = dotC c := by rw [← HF.out]; exact rowF_at HQR.out HCX2.out (by omega)
                  have HFX := Lib.hid hFx
                  have HYP := Lib.hid (show (y : Int) * (wN : Int) + (x : Int) = (p : Int) from by rw [hyP]; omega)
                  obtain ⟨od, hod⟩ : ∃ od, (topS (wN : Int) (h : Int) F ((k : Int) * (wN : Int) + (x : Int)))[p]? = some od := ⟨_, List.getElem?_eq_getElem (by rw [topS_len]; have := HNN.out; omega)⟩
                  have HOD := Lib.hid hod
                  clear hod hFx hp hP
                  have hcc : (((c.toNat : Int) == 35) = true ∧ dotC c = true) ∨ (((c.toNat : Int) == 35) = false ∧ dotC c = false) := by
                    by_cases e : c = 35
                    · left; rw [e]; exact ⟨rfl, rfl⟩
                    · right
                      refine ⟨?_, by unfold dotC; simpa using e⟩
                      simp only [beq_eq_false_iff_ne, ne_eq]
                      intro h9
                      exact e (UInt8.toNat_inj.1 (by simpa using (show c.toNat = 35 by omega)))
                  rcases hcc with ⟨v1, v2⟩ | ⟨v1, v2⟩
                  · as_aux_lemma =>
                    go_upto_region 16 with (fail)
                    refine wp_named ?_
                    intro W8 hW
                    have n : Nw wx W8 := by rw [hW]; first | exact Ch.refl _ _ | exact (Ch.refl _ _).alloc _
                    replace NX := Lib.hid (NX.out.trans n)
                    replace MX := Lib.hid (MX.out.kept n id)
                    replace RB := Lib.hid (n.heap RB.out id)
                    replace SZ := Nat.lt_of_lt_of_le SZ n.size
                    replace HCEL := Lib.hid (fun k r h => n.cell (HCEL.out k r h) id)
                    replace OB := Lib.hid (n.heap OB.out id)
                    replace HGX := Lib.hid (n.heap HGX.out id)
                    replace HCX := Lib.hid (HCX.out.trans' n (fun _ _ e => e.elim))
                    clear hW n
                    refine wp_region_V (F := fun w' => w'.cell? ⟨w5.heap.size, 2, none⟩ = some (.slice (some ⟨g, 0, none⟩) nD nD)) (opsOf Tryd.f31 16) 15 16 (by kernel_rfl) (by kernel_rfl) (by kernel_rfl) (fun w w' h n => (n.cell h id)) (by show W8.cell? _ = _; rw [cell_of OB.out]; rfl) (fun HOPS HCL hHeld => ?_)
                    refine wpU_named ?_
                    intro W9 hW
                    try rw [← hW] at hHeld
                    have n : Nw W8 W9 := by rw [hW]; exact (Ch.refl _ _).drew
                    replace NX := Lib.hid (NX.out.trans n)
                    replace MX := Lib.hid (MX.out.kept n id)
                    replace RB := Lib.hid (n.heap RB.out id)
                    replace SZ := Nat.lt_of_lt_of_le SZ n.size
                    replace HCEL := Lib.hid (fun k r h => n.cell (HCEL.out k r h) id)
                    replace OB := Lib.hid (n.heap OB.out id)
                    replace HGX := Lib.hid (n.heap HGX.out id)
                    replace HCX := Lib.hid (HCX.out.trans' n (fun _ _ e => e.elim))
                    clear hW n
                    first | (refine wpU_takeB (i := 0) (v := ?_) HOPS rfl (by kernel_rfl) (fun _ _ _ h => h) HCL (goes_read (by rfl) ?hy) ?_; case hy => (intro w hSw; (try dsimp only at hSw); go_simp; (try with_reducible rfl))) | (refine wpU_takeB (i := 0) (v := _) HOPS rfl (by kernel_rfl) (fun _ _ _ h => h) HCL (goes_not (by rfl)) ?_)
                    try simp only [Act.put, List.getElem_toArray, List.getElem_cons_succ, List.getElem_cons_zero, List.setIfInBounds_toArray, List.set_cons_zero, List.set_cons_succ]
                    first | (refine wpU_takeB (i := 1) (v := ?_) HOPS rfl (by kernel_rfl) (fun _ _ _ h => h) HCL (goes_read (by rfl) ?hy) ?_; case hy => (intro w hSw; (try dsimp only at hSw); go_simp; (try with_reducible rfl))) | (refine wpU_takeB (i := 1) (v := _) HOPS rfl (by kernel_rfl) (fun _ _ _ h => h) HCL (goes_not (by rfl)) ?_)
                    try simp only [Act.put, List.getElem_toArray, List.getElem_cons_succ, List.getElem_cons_zero, List.setIfInBounds_toArray, List.set_cons_zero, List.set_cons_succ]
                    first | (refine wpU_takeB (i := 2) (v := ?_) HOPS rfl (by kernel_rfl) (fun _ _ _ h => h) HCL (goes_read (by rfl) ?hy) ?_; case hy => (intro w hSw; (try dsimp only at hSw); go_simp; (try with_reducible rfl))) | (refine wpU_takeB (i := 2) (v := _) HOPS rfl (by kernel_rfl) (fun _ _ _ h => h) HCL (goes_not (by rfl)) ?_)
                    try simp only [Act.put, List.getElem_toArray, List.getElem_cons_succ, List.getElem_cons_zero, List.setIfInBounds_toArray, List.set_cons_zero, List.set_cons_succ]
                    first | (refine wpU_takeB (i := 3) (v := ?_) HOPS rfl (by kernel_rfl) (fun _ _ _ h => h) HCL (goes_read (by rfl) ?hy) ?_; case hy => (intro w hSw; (try dsimp only at hSw); go_simp; (try with_reducible rfl))) | (refine wpU_takeB (i := 3) (v := _) HOPS rfl (by kernel_rfl) (fun _ _ _ h => h) HCL (goes_not (by rfl)) ?_)
                    try simp only [Act.put, List.getElem_toArray, List.getElem_cons_succ, List.getElem_cons_zero, List.setIfInBounds_toArray, List.set_cons_zero, List.set_cons_succ]
                    first | (refine wpU_takeB (i := 4) (v := ?_) HOPS rfl (by kernel_rfl) (fun _ _ _ h => h) HCL (goes_read (by rfl) ?hy) ?_; case hy => (intro w hSw; (try dsimp only at hSw); go_simp; (try with_reducible rfl))) | (refine wpU_takeB (i := 4) (v := _) HOPS rfl (by kernel_rfl) (fun _ _ _ h => h) HCL (goes_not (by rfl)) ?_)
                    try simp only [Act.put, List.getElem_toArray, List.getElem_cons_succ, List.getElem_cons_zero, List.setIfInBounds_toArray, List.set_cons_zero, List.set_cons_succ]
                    first | (refine wpU_takeB (i := 5) (v := ?_) HOPS rfl (by kernel_rfl) (fun _ _ _ h => h) HCL (goes_read (by rfl) ?hy) ?_; case hy => (intro w hSw; (try dsimp only at hSw); go_simp; (try with_reducible rfl))) | (refine wpU_takeB (i := 5) (v := _) HOPS rfl (by kernel_rfl) (fun _ _ _ h => h) HCL (goes_not (by rfl)) ?_)
                    try simp only [Act.put, List.getElem_toArray, List.getElem_cons_succ, List.getElem_cons_zero, List.setIfInBounds_toArray, List.set_cons_zero, List.set_cons_succ]
                    first | (refine wpU_takeB (i := 6) (v := ?_) HOPS rfl (by kernel_rfl) (fun _ _ _ h => h) HCL (goes_read (by rfl) ?hy) ?_; case hy => (intro w hSw; (try dsimp only at hSw); go_simp; (try with_reducible rfl))) | (refine wpU_takeB (i := 6) (v := _) HOPS rfl (by kernel_rfl) (fun _ _ _ h => h) HCL (goes_not (by rfl)) ?_)
                    try simp only [Act.put, List.getElem_toArray, List.getElem_cons_succ, List.getElem_cons_zero, List.setIfInBounds_toArray, List.set_cons_zero, List.set_cons_succ]
                    first | (refine wpU_takeB (i := 7) (v := ?_) HOPS rfl (by kernel_rfl) (fun _ _ _ h => h) HCL (goes_read (by rfl) ?hy) ?_; case hy => (intro w hSw; (try dsimp only at hSw); go_simp; (try with_reducible rfl))) | (refine wpU_takeB (i := 7) (v := _) HOPS rfl (by kernel_rfl) (fun _ _ _ h => h) HCL (goes_not (by rfl)) ?_)
                    try simp only [Act.put, List.getElem_toArray, List.getElem_cons_succ, List.getElem_cons_zero, List.setIfInBounds_toArray, List.set_cons_zero, List.set_cons_succ]
                    first | (refine wpU_takeB (i := 8) (v := ?_) HOPS rfl (by kernel_rfl) (fun _ _ _ h => h) HCL (goes_read (by rfl) ?hy) ?_; case hy => (intro w hSw; (try dsimp only at hSw); go_simp; (try with_reducible rfl))) | (refine wpU_takeB (i := 8) (v := _) HOPS rfl (by kernel_rfl) (fun _ _ _ h => h) HCL (goes_not (by rfl)) ?_)
                    try simp only [Act.put, List.getElem_toArray, List.getElem_cons_succ, List.getElem_cons_zero, List.setIfInBounds_toArray, List.set_cons_zero, List.set_cons_succ]
                    first | (refine wpU_takeB (i := 9) (v := ?_) HOPS rfl (by kernel_rfl) (fun _ _ _ h => h) HCL (goes_read (by rfl) ?hy) ?_; case hy => (intro w hSw; (try dsimp only at hSw); go_simp; (try with_reducible rfl))) | (refine wpU_takeB (i := 9) (v := _) HOPS rfl (by kernel_rfl) (fun _ _ _ h => h) HCL (goes_not (by rfl)) ?_)
                    try simp only [Act.put, List.getElem_toArray, List.getElem_cons_succ, List.getElem_cons_zero, List.setIfInBounds_toArray, List.set_cons_zero, List.set_cons_succ]
                    first | (refine wpU_takeB (i := 10) (v := ?_) HOPS rfl (by kernel_rfl) (fun _ _ _ h => h) HCL (goes_read (by rfl) ?hy) ?_; case hy => (intro w hSw; (try dsimp only at hSw); go_simp; (try with_reducible rfl))) | (refine wpU_takeB (i := 10) (v := _) HOPS rfl (by kernel_rfl) (fun _ _ _ h => h) HCL (goes_not (by rfl)) ?_)
                    try simp only [Act.put, List.getElem_toArray, List.getElem_cons_succ, List.getElem_cons_zero, List.setIfInBounds_toArray, List.set_cons_zero, List.set_cons_succ]
                    first | (refine wpU_takeB (i := 11) (v := ?_) HOPS rfl (by kernel_rfl) (fun _ _ _ h => h) HCL (goes_read (by rfl) ?hy) ?_; case hy => (intro w hSw; (try dsimp only at hSw); go_simp; (try with_reducible rfl))) | (refine wpU_takeB (i := 11) (v := _) HOPS rfl (by kernel_rfl) (fun _ _ _ h => h) HCL (goes_not (by rfl)) ?_)
                    try simp only [Act.put, List.getElem_toArray, List.getElem_cons_succ, List.getElem_cons_zero, List.setIfInBounds_toArray, List.set_cons_zero, List.set_cons_succ]
                    first | (refine wpU_takeB (i := 12) (v := ?_) HOPS rfl (by kernel_rfl) (fun _ _ _ h => h) HCL (goes_read (by rfl) ?hy) ?_; case hy => (intro w hSw; (try dsimp only at hSw); go_simp; (try with_reducible rfl))) | (refine wpU_takeB (i := 12) (v := _) HOPS rfl (by kernel_rfl) (fun _ _ _ h => h) HCL (goes_not (by rfl)) ?_)
                    try simp only [Act.put, List.getElem_toArray, List.getElem_cons_succ, List.getElem_cons_zero, List.setIfInBounds_toArray, List.set_cons_zero, List.set_cons_succ]
                    first | (refine wpU_takeB (i := 13) (v := ?_) HOPS rfl (by kernel_rfl) (fun _ _ _ h => h) HCL (goes_read (by rfl) ?hy) ?_; case hy => (intro w hSw; (try dsimp only at hSw); go_simp; (try with_reducible rfl))) | (refine wpU_takeB (i := 13) (v := _) HOPS rfl (by kernel_rfl) (fun _ _ _ h => h) HCL (goes_not (by rfl)) ?_)
                    try simp only [Act.put, List.getElem_toArray, List.getElem_cons_succ, List.getElem_cons_zero, List.setIfInBounds_toArray, List.set_cons_zero, List.set_cons_succ]
                    first | (refine wpU_takeB (i := 14) (v := ?_) HOPS rfl (by kernel_rfl) (fun _ _ _ h => h) HCL (goes_read (by rfl) ?hy) ?_; case hy => (intro w hSw; (try dsimp only at hSw); go_simp; (try with_reducible rfl))) | (refine wpU_takeB (i := 14) (v := _) HOPS rfl (by kernel_rfl) (fun _ _ _ h => h) HCL (goes_not (by rfl)) ?_)
                    try simp only [Act.put, List.getElem_toArray, List.getElem_cons_succ, List.getElem_cons_zero, List.setIfInBounds_toArray, List.set_cons_zero, List.set_cons_succ]
                    refine wpU_ready (rs := [15]) (by kernel_rfl) (by simp) ?_
                    intro w10 hle
                    obtain ⟨n, hHeld⟩ := hle.ahead (by kernel_rfl)
                    clear hle
                    replace NX := Lib.hid (NX.out.trans n)
                    replace MX := Lib.hid (MX.out.kept n id)
                    replace RB := Lib.hid (n.heap RB.out id)
                    replace SZ := Nat.lt_of_lt_of_le SZ n.size
                    replace HCEL := Lib.hid (fun k r h => n.cell (HCEL.out k r h) id)
                    replace OB := Lib.hid (n.heap OB.out id)
                    replace HGX := Lib.hid (n.heap HGX.out id)
                    replace HCX := Lib.hid (HCX.out.trans' n (fun _ _ e => e.elim))
                    clear n
                    refine ReadyU.last HOPS rfl (by rfl) (by kernel_rfl) (fun K hK => ?_) ReadyU.nil
                    have gc : w10.cell? ⟨g, p, none⟩ = some (.bool od) := by rw [cell_of HGX.out]; exact boolC_get HOD.out
                    have gf : w10.frozen? ⟨g, p, none⟩ = false := frozen_of HGX.out
                    go_simp
                    refine hK.out _ _ ?_
                    clear hK K
                    try simp only [Act.put, List.getElem_toArray, List.getElem_cons_succ, List.getElem_cons_zero, List.setIfInBounds_toArray, List.set_cons_zero, List.set_cons_succ]
                    refine wpU_done (by kernel_rfl) (fun w11 hle => ?_) _
                    rw [hle.behind (by kernel_rfl)]
                    clear HOPS HCL hle
                    repeat clear hHeld
                    go_wp2_with (fail)
                    refine ⟨⟨x + 1, by go_num, by omega, Lib.hid ?_, Lib.hid (HCX.out.setb (fun _ => rfl) _)⟩, ?_⟩
                    · rw [Int.natCast_add, Int.natCast_one, ← Int.add_assoc, topS_step (i := (x : Int)) (j := (y : Int)) ⟨x0, x2⟩ ⟨by omega, by omega⟩ (by omega), HFX.out, HYP.out, Int.toNat_natCast, v2, ← boolC_set]
                      exact heap_setCell_eq _ HGX.out
                    · simp [intOf]; omega
                  · as_aux_lemma =>
                    go_upto_region 16 with (fail)
                    refine wp_named ?_
                    intro W12 hW
                    have n : Nw wx W12 := by rw [hW]; first | exact Ch.refl _ _ | exact (Ch.refl _ _).alloc _
                    replace NX := Lib.hid (NX.out.trans n)
                    replace MX := Lib.hid (MX.out.kept n id)
                    replace RB := Lib.hid (n.heap RB.out id)
                    replace SZ := Nat.lt_of_lt_of_le SZ n.size
                    replace HCEL := Lib.hid (fun k r h => n.cell (HCEL.out k r h) id)
                    replace OB := Lib.hid (n.heap OB.out id)
                    replace HGX := Lib.hid (n.heap HGX.out id)
                    replace HCX := Lib.hid (HCX.out.trans' n (fun _ _ e => e.elim))
                    clear hW n
                    refine wp_region_V (F := fun w' => w'.cell? ⟨w5.heap.size, 2, none⟩ = some (.slice (some ⟨g, 0, none⟩) nD nD)) (opsOf Tryd.f31 16) 15 16 (by kernel_rfl) (by kernel_rfl) (by kernel_rfl) (fun w w' h n => (n.cell h id)) (by show W12.cell? _ = _; rw [cell_of OB.out]; rfl) (fun HOPS HCL hHeld => ?_)
                    refine wpU_named ?_
                    intro W13 hW
                    try rw [← hW] at hHeld
                    have n : Nw W12 W13 := by rw [hW]; exact (Ch.refl _ _).drew
                    replace NX := Lib.hid (NX.out.trans n)
                    replace MX := Lib.hid (MX.out.kept n id)
                    replace RB := Lib.hid (n.heap RB.out id)
                    replace SZ := Nat.lt_of_lt_of_le SZ n.size
                    replace HCEL := Lib.hid (fun k r h => n.cell (HCEL.out k r h) id)
                    replace OB := Lib.hid (n.heap OB.out id)
                    replace HGX := Lib.hid (n.heap HGX.out id)
                    replace HCX := Lib.hid (HCX.out.trans' n (fun _ _ e => e.elim))
                    clear hW n
                    first | (refine wpU_takeB (i := 0) (v := ?_) HOPS rfl (by kernel_rfl) (fun _ _ _ h => h) HCL (goes_read (by rfl) ?hy) ?_; case hy => (intro w hSw; (try dsimp only at hSw); go_simp; (try with_reducible rfl))) | (refine wpU_takeB (i := 0) (v := _) HOPS rfl (by kernel_rfl) (fun _ _ _ h => h) HCL (goes_not (by rfl)) ?_)
                    try simp only [Act.put, List.getElem_toArray, List.getElem_cons_succ, List.getElem_cons_zero, List.setIfInBounds_toArray, List.set_cons_zero, List.set_cons_succ]
                    first | (refine wpU_takeB (i := 1) (v := ?_) HOPS rfl (by kernel_rfl) (fun _ _ _ h => h) HCL (goes_read (by rfl) ?hy) ?_; case hy => (intro w hSw; (try dsimp only at hSw); go_simp; (try with_reducible rfl))) | (refine wpU_takeB (i := 1) (v := _) HOPS rfl (by kernel_rfl) (fun _ _ _ h => h) HCL (goes_not (by rfl)) ?_)
                    try simp only [Act.put, List.getElem_toArray, List.getElem_cons_succ, List.getElem_cons_zero, List.setIfInBounds_toArray, List.set_cons_zero, List.set_cons_succ]
                    first | (refine wpU_takeB (i := 2) (v := ?_) HOPS rfl (by kernel_rfl) (fun _ _ _ h => h) HCL (goes_read (by rfl) ?hy) ?_; case hy => (intro w hSw; (try dsimp only at hSw); go_simp; (try with_reducible rfl))) | (refine wpU_takeB (i := 2) (v := _) HOPS rfl (by kernel_rfl) (fun _ _ _ h => h) HCL (goes_not (by rfl)) ?_)
                    try simp only [Act.put, List.getElem_toArray, List.getElem_cons_succ, List.getElem_cons_zero, List.setIfInBounds_toArray, List.set_cons_zero, List.set_cons_succ]
                    first | (refine wpU_takeB (i := 3) (v := ?_) HOPS rfl (by kernel_rfl) (fun _ _ _ h => h) HCL (goes_read (by rfl) ?hy) ?_; case hy => (intro w hSw; (try dsimp only at hSw); go_simp; (try with_reducible rfl))) | (refine wpU_takeB (i := 3) (v := _) HOPS rfl (by kernel_rfl) (fun _ _ _ h => h) HCL (goes_not (by rfl)) ?_)
                    try simp only [Act.put, List.getElem_toArray, List.getElem_cons_succ, List.getElem_cons_zero, List.setIfInBounds_toArray, List.set_cons_zero, List.set_cons_succ]
                    first | (refine wpU_takeB (i := 4) (v := ?_) HOPS rfl (by kernel_rfl) (fun _ _ _ h => h) HCL (goes_read (by rfl) ?hy) ?_; case hy => (intro w hSw; (try dsimp only at hSw); go_simp; (try with_reducible rfl))) | (refine wpU_takeB (i := 4) (v := _) HOPS rfl (by kernel_rfl) (fun _ _ _ h => h) HCL (goes_not (by rfl)) ?_)
                    try simp only [Act.put, List.getElem_toArray, List.getElem_cons_succ, List.getElem_cons_zero, List.setIfInBounds_toArray, List.set_cons_zero, List.set_cons_succ]
                    first | (refine wpU_takeB (i := 5) (v := ?_) HOPS rfl (by kernel_rfl) (fun _ _ _ h => h) HCL (goes_read (by rfl) ?hy) ?_; case hy => (intro w hSw; (try dsimp only at hSw); go_simp; (try with_reducible rfl))) | (refine wpU_takeB (i := 5) (v := _) HOPS rfl (by kernel_rfl) (fun _ _ _ h => h) HCL (goes_not (by rfl)) ?_)
                    try simp only [Act.put, List.getElem_toArray, List.getElem_cons_succ, List.getElem_cons_zero, List.setIfInBounds_toArray, List.set_cons_zero, List.set_cons_succ]
                    first | (refine wpU_takeB (i := 6) (v := ?_) HOPS rfl (by kernel_rfl) (fun _ _ _ h => h) HCL (goes_read (by rfl) ?hy) ?_; case hy => (intro w hSw; (try dsimp only at hSw); go_simp; (try with_reducible rfl))) | (refine wpU_takeB (i := 6) (v := _) HOPS rfl (by kernel_rfl) (fun _ _ _ h => h) HCL (goes_not (by rfl)) ?_)
                    try simp only [Act.put, List.getElem_toArray, List.getElem_cons_succ, List.getElem_cons_zero, List.setIfInBounds_toArray, List.set_cons_zero, List.set_cons_succ]
                    first | (refine wpU_takeB (i := 7) (v := ?_) HOPS rfl (by kernel_rfl) (fun _ _ _ h => h) HCL (goes_read (by rfl) ?hy) ?_; case hy => (intro w hSw; (try dsimp only at hSw); go_simp; (try with_reducible rfl))) | (refine wpU_takeB (i := 7) (v := _) HOPS rfl (by kernel_rfl) (fun _ _ _ h => h) HCL (goes_not (by rfl)) ?_)
                    try simp only [Act.put, List.getElem_toArray, List.getElem_cons_succ, List.getElem_cons_zero, List.setIfInBounds_toArray, List.set_cons_zero, List.set_cons_succ]
                    first | (refine wpU_takeB (i := 8) (v := ?_) HOPS rfl (by kernel_rfl) (fun _ _ _ h => h) HCL (goes_read (by rfl) ?hy) ?_; case hy => (intro w hSw; (try dsimp only at hSw); go_simp; (try with_reducible rfl))) | (refine wpU_takeB (i := 8) (v := _) HOPS rfl (by kernel_rfl) (fun _ _ _ h => h) HCL (goes_not (by rfl)) ?_)
                    try simp only [Act.put, List.getElem_toArray, List.getElem_cons_succ, List.getElem_cons_zero, List.setIfInBounds_toArray, List.set_cons_zero, List.set_cons_succ]
                    first | (refine wpU_takeB (i := 9) (v := ?_) HOPS rfl (by kernel_rfl) (fun _ _ _ h => h) HCL (goes_read (by rfl) ?hy) ?_; case hy => (intro w hSw; (try dsimp only at hSw); go_simp; (try with_reducible rfl))) | (refine wpU_takeB (i := 9) (v := _) HOPS rfl (by kernel_rfl) (fun _ _ _ h => h) HCL (goes_not (by rfl)) ?_)
                    try simp only [Act.put, List.getElem_toArray, List.getElem_cons_succ, List.getElem_cons_zero, List.setIfInBounds_toArray, List.set_cons_zero, List.set_cons_succ]
                    first | (refine wpU_takeB (i := 10) (v := ?_) HOPS rfl (by kernel_rfl) (fun _ _ _ h => h) HCL (goes_read (by rfl) ?hy) ?_; case hy => (intro w hSw; (try dsimp only at hSw); go_simp; (try with_reducible rfl))) | (refine wpU_takeB (i := 10) (v := _) HOPS rfl (by kernel_rfl) (fun _ _ _ h => h) HCL (goes_not (by rfl)) ?_)
                    try simp only [Act.put, List.getElem_toArray, List.getElem_cons_succ, List.getElem_cons_zero, List.setIfInBounds_toArray, List.set_cons_zero, List.set_cons_succ]
                    first | (refine wpU_takeB (i := 11) (v := ?_) HOPS rfl (by kernel_rfl) (fun _ _ _ h => h) HCL (goes_read (by rfl) ?hy) ?_; case hy => (intro w hSw; (try dsimp only at hSw); go_simp; (try with_reducible rfl))) | (refine wpU_takeB (i := 11) (v := _) HOPS rfl (by kernel_rfl) (fun _ _ _ h => h) HCL (goes_not (by rfl)) ?_)
                    try simp only [Act.put, List.getElem_toArray, List.getElem_cons_succ, List.getElem_cons_zero, List.setIfInBounds_toArray, List.set_cons_zero, List.set_cons_succ]
                    first | (refine wpU_takeB (i := 12) (v := ?_) HOPS rfl (by kernel_rfl) (fun _ _ _ h => h) HCL (goes_read (by rfl) ?hy) ?_; case hy => (intro w hSw; (try dsimp only at hSw); go_simp; (try with_reducible rfl))) | (refine wpU_takeB (i := 12) (v := _) HOPS rfl (by kernel_rfl) (fun _ _ _ h => h) HCL (goes_not (by rfl)) ?_)
                    try simp only [Act.put, List.getElem_toArray, List.getElem_cons_succ, List.getElem_cons_zero, List.setIfInBounds_toArray, List.set_cons_zero, List.set_cons_succ]
                    first | (refine wpU_takeB (i := 13) (v := ?_) HOPS rfl (by kernel_rfl) (fun _ _ _ h => h) HCL (goes_read (by rfl) ?hy) ?_; case hy => (intro w hSw; (try dsimp only at hSw); go_simp; (try with_reducible rfl))) | (refine wpU_takeB (i := 13) (v := _) HOPS rfl (by kernel_rfl) (fun _ _ _ h => h) HCL (goes_not (by rfl)) ?_)
                    try simp only [Act.put, List.getElem_toArray, List.getElem_cons_succ, List.getElem_cons_zero, List.setIfInBounds_toArray, List.set_cons_zero, List.set_cons_succ]
                    first | (refine wpU_takeB (i := 14) (v := ?_) HOPS rfl (by kernel_rfl) (fun _ _ _ h => h) HCL (goes_read (by rfl) ?hy) ?_; case hy => (intro w hSw; (try dsimp only at hSw); go_simp; (try with_reducible rfl))) | (refine wpU_takeB (i := 14) (v := _) HOPS rfl (by kernel_rfl) (fun _ _ _ h => h) HCL (goes_not (by rfl)) ?_)
                    try simp only [Act.put, List.getElem_toArray, List.getElem_cons_succ, List.getElem_cons_zero, List.setIfInBounds_toArray, List.set_cons_zero, List.set_cons_succ]
                    refine wpU_ready (rs := [15]) (by kernel_rfl) (by simp) ?_
                    intro w14 hle
                    obtain ⟨n, hHeld⟩ := hle.ahead (by kernel_rfl)
                    clear hle
                    replace NX := Lib.hid (NX.out.trans n)
                    replace MX := Lib.hid (MX.out.kept n id)
                    replace RB := Lib.hid (n.heap RB.out id)
                    replace SZ := Nat.lt_of_lt_of_le SZ n.size
                    replace HCEL := Lib.hid (fun k r h => n.cell (HCEL.out k r h) id)
                    replace OB := Lib.hid (n.heap OB.out id)
                    replace HGX := Lib.hid (n.heap HGX.out id)
                    replace HCX := Lib.hid (HCX.out.trans' n (fun _ _ e => e.elim))
                    clear n
                    refine ReadyU.last HOPS rfl (by rfl) (by kernel_rfl) (fun K hK => ?_) ReadyU.nil
                    have gc : w14.cell? ⟨g, p, none⟩ = some (.bool od) := by rw [cell_of HGX.out]; exact boolC_get HOD.out
                    have gf : w14.frozen? ⟨g, p, none⟩ = false := frozen_of HGX.out
                    go_simp
                    refine hK.out _ _ ?_
                    clear hK K
                    try simp only [Act.put, List.getElem_toArray, List.getElem_cons_succ, List.getElem_cons_zero, List.setIfInBounds_toArray, List.set_cons_zero, List.set_cons_succ]
                    refine wpU_done (by kernel_rfl) (fun w15 hle => ?_) _
                    rw [hle.behind (by kernel_rfl)]
                    clear HOPS HCL hle
                    repeat clear hHeld
                    go_wp2_with (fail)
                    refine ⟨⟨x + 1, by go_num, by omega, Lib.hid ?_, Lib.hid (HCX.out.setb (fun _ => rfl) _)⟩, ?_⟩
                    · rw [Int.natCast_add, Int.natCast_one, ← Int.add_assoc, topS_step (i := (x : Int)) (j := (y : Int)) ⟨x0, x2⟩ ⟨by omega, by omega⟩ (by omega), HFX.out, HYP.out, Int.toNat_natCast, v2, ← boolC_set]
                      exact heap_setCell_eq _ HGX.out
                    · simp [intOf]; omega
                · obtain rfl : x = wN := by omega
                  go_wp2_with (fail)
                  refine ⟨⟨k + 1, by go_num, by omega, Lib.hid ?_, Lib.hid ?_, Lib.hid (HC.out.trans HCX.out)⟩, ?_⟩
                  · intro i r' hi hr'
                    by_cases e : i = k
                    · subst e; rw [HRK.out] at hr'; injection hr' with hr'; subst hr'; exact ⟨HRW.out, HAO.out⟩
                    · exact HALL.out i r' (by omega) hr'
                  · rw [Int.natCast_add, Int.natCast_one, Int.add_mul, Int.one_mul]; exact HGX.out
                  · simp [intOf]; omega
            · have te2 := (nil_or t2).2 (by have := mt ht2.1 hao; omega)
              have NO := Lib.hid (show parseB L = (zeroB, false) from by
                rw [PL.out, if_neg]
                rintro ⟨⟨-, -, g4⟩, g3⟩
                have g5 := g4 _ (List.mem_of_getElem? HQR.out)
                refine hao fun c hc => g5.2 c hc)
              have r0 : w6.cell? ⟨w.heap.size, 0, none⟩ = some (.int .i64 0) := by rw [cell_of RB.out]; rfl
              have r1 : w6.cell? ⟨w.heap.size, 1, none⟩ = some (.int .i64 0) := by rw [cell_of RB.out]; rfl
              have r2 : w6.cell? ⟨w.heap.size, 2, none⟩ = some (.slice none 0 0) := by rw [cell_of RB.out]; rfl
              have q0 : w6.frozen? ⟨w.heap.size, 0, none⟩ = false := frozen_of RB.out
              have q1 : w6.frozen? ⟨w.heap.size, 1, none⟩ = false := frozen_of RB.out
              have q2 : w6.frozen? ⟨w.heap.size, 2, none⟩ = false := frozen_of RB.out
              go_wp2
              refine bodyPost_ret (v := .tuple #[.agg #[.int .i64 0, .int .i64 0, .slice none 0 0], .bool false]) (by simp [results, Tryd.results31, go_sem, r0, r1, r2]) rfl ?_
              have h9 := fun W' => HR.out W' (.agg #[.int .i64 0, .int .i64 0, .slice none 0 0])
              rw [NO.out] at h9
              exact h9 _ (isBm_zero _ _) (((NX.out.setb (fun h => by omega) _).setb (fun h => by omega) _).setb (fun h => by omega) _)
          · have t1 : ((r.size : Int) != (wN : Int)) = true := by simp; omega
            have NO := Lib.hid (show parseB L = (zeroB, false) from by
              rw [PL.out, if_neg]
              rintro ⟨⟨-, -, g4⟩, g3⟩
              have g5 := g4 _ (List.mem_of_getElem? HQR.out)
              rw [HQ0.out, ba_len4, ba_len4, HWN.out] at g5
              exact hrw g5.1)
            have r0 : wk.cell? ⟨w.heap.size, 0, none⟩ = some (.int .i64 0) := by rw [cell_of RB.out]; rfl
            have r1 : wk.cell? ⟨w.heap.size, 1, none⟩ = some (.int .i64 0) := by rw [cell_of RB.out]; rfl
            have r2 : wk.cell? ⟨w.heap.size, 2, none⟩ = some (.slice none 0 0) := by rw [cell_of RB.out]; rfl
            have q0 : wk.frozen? ⟨w.heap.size, 0, none⟩ = false := frozen_of RB.out
            have q1 : wk.frozen? ⟨w.heap.size, 1, none⟩ = false := frozen_of RB.out
            have q2 : wk.frozen? ⟨w.heap.size, 2, none⟩ = false := frozen_of RB.out
            go_wp2
            refine bodyPost_ret (v := .tuple #[.agg #[.int .i64 0, .int .i64 0, .slice none 0 0], .bool false]) (by simp [results, Tryd.results31, go_sem, r0, r1, r2]) rfl ?_
            have h9 := fun W' => HR.out W' (.agg #[.int .i64 0, .int .i64 0, .slice none 0 0])
            rw [NO.out] at h9
            exact h9 _ (isBm_zero _ _) (((NX.out.setb (fun h => by omega) _).setb (fun h => by omega) _).setb (fun h => by omega) _)
        · obtain rfl : k = h := by omega
          have hRall : ∀ r ∈ Q, r.length = wN ∧ ∀ c ∈ r, okB c = true := fun r hr => by
            obtain ⟨i, hi⟩ := List.getElem?_of_mem hr
            have hil : i < k := by have := (List.getElem?_eq_some_iff.1 hi).1; have := HQL.out; omega
            obtain ⟨r', hr'⟩ : ∃ r', rows[i]? = some r' := ⟨_, List.getElem?_eq_getElem (by have := HRL.out; omega)⟩
            have e := HQK.out i r' hil hr'
            rw [hi] at e
            injection e with e
            subst e
            obtain ⟨e1, e2⟩ := HALL.out i r' hil hr'
            exact ⟨by rw [ba_len4]; exact e1, e2⟩
          have YES := Lib.hid (show parseB L = (((wN : Int), (k : Int), topS (wN : Int) (k : Int) F ((k : Int) * (wN : Int))), true) from by
            have ht0 : t.data.toList = [] := List.eq_nil_of_length_eq_zero (by rw [ba_len4]; exact HTE.out)
            rw [PL.out, if_pos ⟨⟨⟨by rw [HQL.out]; omega, by rw [HQL.out]; omega⟩, ⟨by rw [HQ0.out, ba_len4, HWN.out]; omega, by rw [HQ0.out, ba_len4, HWN.out]; omega⟩, fun r hr => ⟨by rw [HQ0.out, ba_len4, HWN.out]; exact (hRall r hr).1, (hRall r hr).2⟩⟩, ht0⟩]
            unfold bmR
            rw [HQ0.out, ba_len4, HWN.out, HQL.out, topS_all F (by omega) (Int.le_refl _), ← HF.out]
            have := dots_rows (w := wN) (fun r hr => (hRall r hr).1) k2
            rw [HQL.out] at this
            rw [this])
          have r0 : wk.cell? ⟨w.heap.size, 0, none⟩ = some (.int .i64 0) := by rw [cell_of RB.out]; rfl
          have r1 : wk.cell? ⟨w.heap.size, 1, none⟩ = some (.int .i64 0) := by rw [cell_of RB.out]; rfl
          have r2 : wk.cell? ⟨w.heap.size, 2, none⟩ = some (.slice none 0 0) := by rw [cell_of RB.out]; rfl
          have q0 : wk.frozen? ⟨w.heap.size, 0, none⟩ = false := frozen_of RB.out
          have q1 : wk.frozen? ⟨w.heap.size, 1, none⟩ = false := frozen_of RB.out
          have q2 : wk.frozen? ⟨w.heap.size, 2, none⟩ = false := frozen_of RB.out
          have kOB0 : wk.cell? ⟨w5.heap.size, 0, none⟩ = some (.int .i64 (wN : Int)) := by rw [cell_of OB.out]; rfl
          have kOB1 : wk.cell? ⟨w5.heap.size, 1, none⟩ = some (.int .i64 (k : Int)) := by rw [cell_of OB.out]; rfl
          have kOB2 : wk.cell? ⟨w5.heap.size, 2, none⟩ = some (.slice (some ⟨g, 0, none⟩) nD nD) := by rw [cell_of OB.out]; rfl
          go_wp2
          refine bodyPost_ret (v := .tuple #[.agg #[.int .i64 (wN : Int), .int .i64 (k : Int), .slice (some ⟨g, 0, none⟩) nD nD], .bool true]) (by simp [results, Tryd.results31, go_sem, r0, r1, r2]) rfl ?_
          have h9 := fun W' => HR.out W' (.agg #[.int .i64 (wN : Int), .int .i64 (k : Int), .slice (some ⟨g, 0, none⟩) nD nD])
          rw [YES.out] at h9
          refine h9 _ ?_ (((NX.out.setb (fun h => by omega) _).setb (fun h => by omega) _).setb (fun h => by omega) _)
          have hb9 := Ch.heap ((((Ch.refl (· = w.heap.size) wk).setb (b := w.heap.size) (o := 0) (fun _ => rfl) (.int .i64 (wN : Int))).setb (b := w.heap.size) (o := 1) (fun _ => rfl) (.int .i64 (k : Int))).setb (b := w.heap.size) (o := 2) (fun _ => rfl) (.slice (some ⟨g, 0, none⟩) nD nD)) HGK.out (by show g ≠ w.heap.size; omega)
          have hpl : (topS (wN : Int) (k : Int) F ((k : Int) * (wN : Int))).length = nD := by rw [topS_len]; have := HNN.out; omega
          have hi := isBools_block (cap := nD) hb9 (lt_of_heap hb9) ⟨by rw [hpl]; exact Nat.le_refl _, by rw [hpl]; omega⟩
          rw [hpl] at hi
          exact ⟨_, rfl, hi, by unfold wfI; simp only; omega, by unfold wfI; simp only; omega⟩
    · have NO := Lib.hid (show parseB L = (zeroB, false) from by
        rw [PL.out, if_neg]
        rintro ⟨⟨⟨-, g1⟩, ⟨-, g2⟩, -⟩, g3⟩
        rw [HQL.out] at g1
        rw [HQ0.out, ba_len4, HWN.out] at g2
        exact hS ⟨g2, g1⟩)
      go_wp2_with (fail)
      try simp only [HWN.out]
      refine Calls_nm ?_
      intro W16 hW
      have n : Nw w2 W16 := by rw [hW]; first | exact Ch.refl _ _ | exact (Ch.refl _ _).alloc _ | exact ((Ch.refl _ _).alloc _).alloc _
      replace NX := Lib.hid (NX.out.trans n)
      replace MX := Lib.hid (MX.out.kept n id)
      replace RB := Lib.hid (n.heap RB.out id)
      replace SZ := Nat.lt_of_lt_of_le SZ n.size
      replace HCEL := Lib.hid (fun k r h => n.cell (HCEL.out k r h) id)
      clear hW n
      refine bNew_bad (wN : Int) (h : Int) _ _ (fun e => hS (by omega)) (by unfold wfI; omega) (by unfold wfI; omega) ?_
      intro w5 n
      replace NX := Lib.hid (NX.out.trans n)
      replace MX := Lib.hid (MX.out.kept n id)
      replace RB := Lib.hid (n.heap RB.out id)
      replace SZ := Nat.lt_of_lt_of_le SZ n.size
      replace HCEL := Lib.hid (fun k r h => n.cell (HCEL.out k r h) id)
      clear n c0 ct
      have Sx := lt_of_heap RB.out
      go_upto_region 6 with (fail)
      refine wp_named ?_
      intro W17 hW
      have n : Nw w5 W17 := by rw [hW]; exact (Ch.refl _ _).alloc _
      replace NX := Lib.hid (NX.out.trans n)
      replace MX := Lib.hid (MX.out.kept n id)
      replace RB := Lib.hid (n.heap RB.out id)
      replace SZ := Nat.lt_of_lt_of_le SZ n.size
      replace HCEL := Lib.hid (fun k r h => n.cell (HCEL.out k r h) id)
      clear hW n
      have r0 : W17.cell? ⟨w.heap.size, 0, none⟩ = some (.int .i64 0) := by rw [cell_of RB.out]; rfl
      have r1 : W17.cell? ⟨w.heap.size, 1, none⟩ = some (.int .i64 0) := by rw [cell_of RB.out]; rfl
      have r2 : W17.cell? ⟨w.heap.size, 2, none⟩ = some (.slice none 0 0) := by rw [cell_of RB.out]; rfl
      have q0 : W17.frozen? ⟨w.heap.size, 0, none⟩ = false := frozen_of RB.out
      have q1 : W17.frozen? ⟨w.heap.size, 1, none⟩ = false := frozen_of RB.out
      have q2 : W17.frozen? ⟨w.heap.size, 2, none⟩ = false := frozen_of RB.out
      go_wp2
      refine bodyPost_ret (v := .tuple #[.agg #[.int .i64 0, .int .i64 0, .slice none 0 0], .bool false]) (by simp [results, Tryd.results31, go_sem, r0, r1, r2]) rfl ?_
      have h9 := fun W' => HR.out W' (.agg #[.int .i64 0, .int .i64 0, .slice none 0 0])
      rw [NO.out] at h9
      exact h9 _ (isBm_zero _ _) (((NX.out.setb (fun h => by omega) _).setb (fun h => by omega) _).setb (fun h => by omega) _)
  · have NO := Lib.hid (show parseB L = (zeroB, false) from by
      rw [PL.out, if_neg]
      rintro ⟨⟨⟨g1, -⟩, ⟨g2, -⟩, -⟩, g3⟩
      rw [HQL.out] at g1
      have e1 : t.size = 0 := by rw [← ba_len4, g3]; rfl
      have e2 : Q.headD [] = r0.data.toList := by
        have := HQK.out 0 r0 (by omega) HR0.out
        rw [List.headD_eq_head?_getD, List.head?_eq_getElem?, this]
        rfl
      rw [e2, ba_len4] at g2
      exact hok ⟨e1, g2, g1⟩)
    have hcs : (0 < t.size) ∨ (t.size = 0 ∧ r0.size = 0) ∨ (t.size = 0 ∧ 1 ≤ r0.size ∧ h = 0) := by omega
    clear hok
    rcases hcs with k1 | ⟨k1, k2⟩ | ⟨k1, k2, k3⟩
    · have te := (nil_or t).2 k1
      have r0 : w2.cell? ⟨w.heap.size, 0, none⟩ = some (.int .i64 0) := by rw [cell_of RB.out]; rfl
      have r1 : w2.cell? ⟨w.heap.size, 1, none⟩ = some (.int .i64 0) := by rw [cell_of RB.out]; rfl
      have r2 : w2.cell? ⟨w.heap.size, 2, none⟩ = some (.slice none 0 0) := by rw [cell_of RB.out]; rfl
      have q0 : w2.frozen? ⟨w.heap.size, 0, none⟩ = false := frozen_of RB.out
      have q1 : w2.frozen? ⟨w.heap.size, 1, none⟩ = false := frozen_of RB.out
      have q2 : w2.frozen? ⟨w.heap.size, 2, none⟩ = false := frozen_of RB.out
      go_wp2
      refine bodyPost_ret (v := .tuple #[.agg #[.int .i64 0, .int .i64 0, .slice none 0 0], .bool false]) (by simp [results, Tryd.results31, go_sem, r0, r1, r2]) rfl ?_
      have h9 := fun W' => HR.out W' (.agg #[.int .i64 0, .int .i64 0, .slice none 0 0])
      rw [NO.out] at h9
      exact h9 _ (isBm_zero _ _) (((NX.out.setb (fun h => by omega) _).setb (fun h => by omega) _).setb (fun h => by omega) _)
    · have te := (nil_or t).1 k1
      have z1 : (r0.size : Int) < 1 := by omega
      have r0 : w2.cell? ⟨w.heap.size, 0, none⟩ = some (.int .i64 0) := by rw [cell_of RB.out]; rfl
      have r1 : w2.cell? ⟨w.heap.size, 1, none⟩ = some (.int .i64 0) := by rw [cell_of RB.out]; rfl
      have r2 : w2.cell? ⟨w.heap.size, 2, none⟩ = some (.slice none 0 0) := by rw [cell_of RB.out]; rfl
      have q0 : w2.frozen? ⟨w.heap.size, 0, none⟩ = false := frozen_of RB.out
      have q1 : w2.frozen? ⟨w.heap.size, 1, none⟩ = false := frozen_of RB.out
      have q2 : w2.frozen? ⟨w.heap.size, 2, none⟩ = false := frozen_of RB.out
      go_wp2
      refine bodyPost_ret (v := .tuple #[.agg #[.int .i64 0, .int .i64 0, .slice none 0 0], .bool false]) (by simp [results, Tryd.results31, go_sem, r0, r1, r2]) rfl ?_
      have h9 := fun W' => HR.out W' (.agg #[.int .i64 0, .int .i64 0, .slice none 0 0])
      rw [NO.out] at h9
      exact h9 _ (isBm_zero _ _) (((NX.out.setb (fun h => by omega) _).setb (fun h => by omega) _).setb (fun h => by omega) _)
    · have te := (nil_or t).1 k1
      have e := HTT.out
      rw [k3, HR0.out] at e
      injection e with e
      rw [e] at k2
      omega
end Go.Proofs.YtaafmgkjfmngjaaDoor
