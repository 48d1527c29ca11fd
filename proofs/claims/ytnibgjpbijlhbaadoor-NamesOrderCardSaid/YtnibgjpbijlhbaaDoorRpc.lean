/-
  ref12.piece: the piece of a string at a place.
-/
import Derived.Test.YtnibgjpbijlhbaaDoorPc
namespace Go.Proofs.YtnibgjpbijlhbaaDoor
open Go.RowKit Go.Shelf
set_option linter.unusedVariables false
set_option linter.unusedSimpArgs false
set_option maxRecDepth 100000

theorem dw_sb (L : List UInt8) : ∀ (n z e : Nat), z + n = e → e ≤ L.length → (e = z ∨ at0 L z ≠ 48) → (sub L z e).dropWhile (· == 48) = sub L z e
  | 0, z, e, h, _, _ => by
    rw [show e = z by omega]
    simp [sub]
  | n + 1, z, e, h, hl, hz => by
    have hne : at0 L z ≠ 48 := by rcases hz with h' | h'; omega; exact h'
    have hs : sub L z e = at0 L z :: sub L (z + 1) e := by
      unfold sub
      rw [drop_at (by omega), show e - z = (e - (z + 1)) + 1 by omega, List.take_succ_cons]
    rw [hs, List.dropWhile_cons, if_neg (by simp [hne])]
theorem dw_zs (L : List UInt8) (e : Nat) (he : e ≤ L.length) : ∀ (n a : Nat), a + n ≤ e → (∀ j, a ≤ j → j < a + n → at0 L j = 48) → (sub L a e).dropWhile (· == 48) = (sub L (a + n) e).dropWhile (· == 48)
  | 0, a, _, _ => rfl
  | n + 1, a, h, hz => by
    have hs : sub L a e = at0 L a :: sub L (a + 1) e := by
      unfold sub
      rw [drop_at (by omega), show e - a = (e - (a + 1)) + 1 by omega, List.take_succ_cons]
    rw [hs, List.dropWhile_cons, if_pos (by simp [hz a (Nat.le_refl _) (by omega)]), dw_zs L e he n (a + 1) (by omega) (fun j h1 h2 => hz j (by omega) (by omega)), show a + 1 + n = a + (n + 1) by omega]
theorem piece_num {L : List UInt8} {p z k : Nat} (hp : p < L.length) (hk : k ≤ L.length) (hpk : p ≤ k) (h0 : isD (at0 L p) = true) (hd : ∀ j, p ≤ j → j < k → isD (at0 L j) = true) (hn : k < L.length → isD (at0 L k) = false) (hz : p ≤ z) (hzk : z ≤ k) (h48 : ∀ j, p ≤ j → j < z → at0 L j = 48) (hx : k = z ∨ at0 L z ≠ 48) :
    p < k ∧ pcs (L.drop p) = (!true, (if true = true then (sub L z k).length else 0), sub L z k) :: pcs (L.drop k) := by
  have hlt : p < k := by
    rcases Nat.lt_or_ge p k with h | h
    · exact h
    · obtain rfl : p = k := by omega
      rw [hn hp] at h0
      cases h0
  refine ⟨hlt, ?_⟩
  have h := pcs_cut (s := L) (a := p) (n := k - p) (by omega) (by omega) h0 (fun j h1 h2 => hd j h1 (by omega)) (fun h => by rw [show p + (k - p) = k by omega] at h ⊢; exact hn h)
  rw [show p + (k - p) = k by omega] at h
  have h2 := dw_zs L k hk (z - p) p (by omega) (fun j h1 h2 => h48 j h1 (by omega))
  rw [show p + (z - p) = z by omega, dw_sb L (k - z) z k (by omega) hk hx] at h2
  rw [h, numP, h2]
  rfl
theorem sub_len (L : List UInt8) (a b : Nat) : (sub L a b).length ≤ L.length := by unfold sub; rw [List.length_take, List.length_drop]; omega

set_option maxHeartbeats 4000000 in
theorem rpiece_any (s : ByteArray) (p : Nat) (w : World) (R : Ending → World → Prop) (hs : s.size ≤ 1000000) (hp : p < s.size)
    (hR : ∀ (t : List UInt8) (one : Bool) (m : Nat), p < m → m ≤ s.size → t.length ≤ s.size → pcs (s.data.toList.drop p) = (!one, (if one = true then t.length else 0), t) :: pcs (s.data.toList.drop m) → R (.returned (.tuple #[.string ⟨t.toArray⟩, .bool one, .int .i64 (m : Nat)])) w) :
    Calls Tryd.prog 39 #[.string s, .int .i64 (p : Nat)] w R := by
  have HR := Lib.hid hR
  clear hR
  obtain ⟨L, hL⟩ : ∃ L, s.data.toList = L := ⟨_, rfl⟩
  have hlen : L.length = s.size := by rw [← hL]; exact ba_len s
  have HL := Lib.hid hL
  rw [hL] at HR
  clear hL
  have p0 : (0 : Int) ≤ (p : Int) := by omega
  have p1 : (p : Int) < (s.size : Int) := by omega
  obtain ⟨c, hc⟩ : ∃ c, s[p]'hp = c := ⟨_, rfl⟩
  have HCC := Lib.hid (show at0 L p = c from by rw [← HL.out, ← ba_at s hp, hc])
  obtain ⟨x, hx⟩ : ∃ x : Nat, scr c = x := ⟨_, rfl⟩
  have HX := Lib.hid hx
  have HD := Lib.hid (show isD c = true ↔ x = 2 from by rw [← hx]; exact (scr_two c).symm)
  clear hx
  by_cases h2 : x = 2
  · as_aux_lemma =>
    have e2 : ((x : Int) != 2) = false := by simp; omega
    have hdc := HD.out.2 h2
    have HDC := Lib.hid (show isD (at0 L p) = true from by rw [HCC.out]; exact hdc)
    clear h2 hdc
    go_enter Tryd.func39, Tryd.ntmps39
    go_wp2_with (go_at_call 19; refine rscript_any c _ _ ?_; rw [HX.out])
    clear hc e2
    go_loopw [7] (fun s7 wr => Hid (wr = w) ∧ ∃ k : Nat, s7 = .int .i64 k ∧ p ≤ k ∧ k ≤ s.size ∧ Hid (∀ j, p ≤ j → j < k → isD (at0 L j) = true)) (fun s7 _ => s.size - (intOf s7).toNat)
    case atStart => exact ⟨Lib.hid rfl, p, rfl, Nat.le_refl _, by omega, Lib.hid fun j h1 h2 => by omega⟩
    case round =>
      obtain ⟨hwr, k, rfl, hpk, hk, HK⟩ := hrel
      obtain rfl := hwr.out
      have k0 : (0 : Int) ≤ (k : Int) := by omega
      have hgo : ∀ (e : Nat), e = k → ((k : Int) < (s.size : Int)) ∨ ¬ ((k : Int) < (s.size : Int)) := fun _ _ => by omega
      clear hgo
      by_cases hlt : k < s.size
      · as_aux_lemma =>
        have k1 : (k : Int) < (s.size : Int) := by omega
        obtain ⟨d, hd⟩ : ∃ d, s[k]'hlt = d := ⟨_, rfl⟩
        have HDD := Lib.hid (show at0 L k = d from by rw [← HL.out, ← ba_at s hlt, hd])
        obtain ⟨y, hy⟩ : ∃ y : Nat, scr d = y := ⟨_, rfl⟩
        have HY := Lib.hid hy
        have HYD := Lib.hid (show isD d = true ↔ y = 2 from by rw [← hy]; exact (scr_two d).symm)
        clear hy
        by_cases hy2 : y = 2
        · as_aux_lemma =>
          have e2 : ((y : Int) == 2) = true := by simp; omega
          have ST := Lib.hid (HYD.out.2 hy2)
          clear hy2
          go_wp2_with (go_at_call 19; refine rscript_any d _ _ ?_; rw [HY.out])
          refine ⟨⟨Lib.hid (by first | rfl | trivial), k + 1, by go_num, by omega, by omega, Lib.hid fun j h1 h2 => ?_⟩, by simp [intOf]; omega⟩
          by_cases e : j = k
          · rw [e, HDD.out]; exact ST.out
          · exact HK.out j h1 (by omega)
        · as_aux_lemma =>
          have e2 : ((y : Int) == 2) = false := by simp; omega
          have ST := Lib.hid (show isD (at0 L k) = false from by rw [HDD.out]; simpa using fun h => hy2 (HYD.out.1 h))
          clear hy2
          go_wp2_with (go_at_call 19; refine rscript_any d _ _ ?_; rw [HY.out])
          have E1 := Lib.hid (show k < L.length → isD (at0 L k) = false from fun _ => ST.out)
          clear hd e2
          clear p0 p1
          go_loopw [1] (fun s1 wr' => Hid (wr' = wr) ∧ ∃ z : Nat, s1 = .int .i64 z ∧ p ≤ z ∧ z ≤ k ∧ Hid (∀ j, p ≤ j → j < z → at0 L j = 48)) (fun s1 _ => k - (intOf s1).toNat)
          case atStart => exact ⟨Lib.hid (by first | rfl | trivial), p, rfl, Nat.le_refl _, hpk, Lib.hid fun j h1 h2 => by omega⟩
          case round =>
            obtain ⟨hwr, z, rfl, hpz, hzk, HZ⟩ := hrel
            obtain rfl := hwr.out
            have z0 : (0 : Int) ≤ (z : Int) := by omega
            by_cases hzl : z < k
            · as_aux_lemma =>
              have z1 : (z : Int) < (k : Int) := by omega
              have z2 : (z : Int) < (s.size : Int) := by omega
              obtain ⟨f, hf⟩ : ∃ f, s[z]'(by omega) = f := ⟨_, rfl⟩
              have HF := Lib.hid (show at0 L z = f from by rw [← HL.out, ← ba_at s (by omega), hf])
              by_cases hf4 : f = 48
              · as_aux_lemma =>
                have e3 : ((f.toNat : Int) == 48) = true := by rw [hf4]; rfl
                have ST := Lib.hid hf4
                clear hf4
                go_wp2
                refine ⟨⟨Lib.hid (by first | rfl | trivial), z + 1, by go_num, by omega, by omega, Lib.hid fun j h1 h2 => ?_⟩, by simp [intOf]; omega⟩
                by_cases e : j = z
                · rw [e, HF.out]; exact ST.out
                · exact HZ.out j h1 (by omega)
              · as_aux_lemma =>
                have e3 : ((f.toNat : Int) == 48) = false := by rw [show (48 : Int) = ((48 : Nat) : Int) from rfl, toNat_eq f 48 (by omega)]; simpa using hf4
                have E2 := Lib.hid (show k = z ∨ at0 L z ≠ 48 from Or.inr (by rw [HF.out]; exact hf4))
                clear hf4
                have y0 : (0 : Int) ≤ (z : Int) := by omega
                have y1 : (z : Int) ≤ (k : Int) := by omega
                have y2 : (k : Int) ≤ (s.size : Int) := by omega
                obtain ⟨T, hT⟩ : ∃ T, s.extract z k = T := ⟨_, rfl⟩
                have HT := Lib.hid (show T = ⟨(sub L z k).toArray⟩ from by rw [← hT, extract_sub, HL.out])
                go_wp2
                obtain ⟨hlt9, hpc⟩ := piece_num (L := L) (p := p) (z := z) (k := k) (by omega) (by omega) hpk HDC.out HK.out E1.out hpz hzk HZ.out E2.out
                refine bodyPost_ret (v := .tuple #[.string T, .bool true, .int .i64 (k : Nat)]) (by simp [results, Tryd.results39, go_sem]) rfl ?_
                rw [HT.out]
                exact HR.out _ true k hlt9 hk (by have := sub_len L z k; omega) hpc
            · as_aux_lemma =>
              have z1 : ¬ (z : Int) < (k : Int) := by omega
              have E2 := Lib.hid (show k = z ∨ at0 L z ≠ 48 from Or.inl (by omega))
              have y0 : (0 : Int) ≤ (z : Int) := by omega
              have y1 : (z : Int) ≤ (k : Int) := by omega
              have y2 : (k : Int) ≤ (s.size : Int) := by omega
              obtain ⟨T, hT⟩ : ∃ T, s.extract z k = T := ⟨_, rfl⟩
              have HT := Lib.hid (show T = ⟨(sub L z k).toArray⟩ from by rw [← hT, extract_sub, HL.out])
              go_wp2
              obtain ⟨hlt9, hpc⟩ := piece_num (L := L) (p := p) (z := z) (k := k) (by omega) (by omega) hpk HDC.out HK.out E1.out hpz hzk HZ.out E2.out
              refine bodyPost_ret (v := .tuple #[.string T, .bool true, .int .i64 (k : Nat)]) (by simp [results, Tryd.results39, go_sem]) rfl ?_
              rw [HT.out]
              exact HR.out _ true k hlt9 hk (by have := sub_len L z k; omega) hpc
      · as_aux_lemma =>
        have k1 : ¬ (k : Int) < (s.size : Int) := by omega
        have E1 := Lib.hid (show k < L.length → isD (at0 L k) = false from fun h => by omega)
        go_wp2_with (fail)
        clear k1
        clear p0 p1
        go_loopw [1] (fun s1 wr' => Hid (wr' = wr) ∧ ∃ z : Nat, s1 = .int .i64 z ∧ p ≤ z ∧ z ≤ k ∧ Hid (∀ j, p ≤ j → j < z → at0 L j = 48)) (fun s1 _ => k - (intOf s1).toNat)
        case atStart => exact ⟨Lib.hid (by first | rfl | trivial), p, rfl, Nat.le_refl _, hpk, Lib.hid fun j h1 h2 => by omega⟩
        case round =>
          obtain ⟨hwr, z, rfl, hpz, hzk, HZ⟩ := hrel
          obtain rfl := hwr.out
          have z0 : (0 : Int) ≤ (z : Int) := by omega
          by_cases hzl : z < k
          · as_aux_lemma =>
            have z1 : (z : Int) < (k : Int) := by omega
            have z2 : (z : Int) < (s.size : Int) := by omega
            obtain ⟨f, hf⟩ : ∃ f, s[z]'(by omega) = f := ⟨_, rfl⟩
            have HF := Lib.hid (show at0 L z = f from by rw [← HL.out, ← ba_at s (by omega), hf])
            by_cases hf4 : f = 48
            · as_aux_lemma =>
              have e3 : ((f.toNat : Int) == 48) = true := by rw [hf4]; rfl
              have ST := Lib.hid hf4
              clear hf4
              go_wp2
              refine ⟨⟨Lib.hid (by first | rfl | trivial), z + 1, by go_num, by omega, by omega, Lib.hid fun j h1 h2 => ?_⟩, by simp [intOf]; omega⟩
              by_cases e : j = z
              · rw [e, HF.out]; exact ST.out
              · exact HZ.out j h1 (by omega)
            · as_aux_lemma =>
              have e3 : ((f.toNat : Int) == 48) = false := by rw [show (48 : Int) = ((48 : Nat) : Int) from rfl, toNat_eq f 48 (by omega)]; simpa using hf4
              have E2 := Lib.hid (show k = z ∨ at0 L z ≠ 48 from Or.inr (by rw [HF.out]; exact hf4))
              clear hf4
              have y0 : (0 : Int) ≤ (z : Int) := by omega
              have y1 : (z : Int) ≤ (k : Int) := by omega
              have y2 : (k : Int) ≤ (s.size : Int) := by omega
              obtain ⟨T, hT⟩ : ∃ T, s.extract z k = T := ⟨_, rfl⟩
              have HT := Lib.hid (show T = ⟨(sub L z k).toArray⟩ from by rw [← hT, extract_sub, HL.out])
              go_wp2
              obtain ⟨hlt9, hpc⟩ := piece_num (L := L) (p := p) (z := z) (k := k) (by omega) (by omega) hpk HDC.out HK.out E1.out hpz hzk HZ.out E2.out
              refine bodyPost_ret (v := .tuple #[.string T, .bool true, .int .i64 (k : Nat)]) (by simp [results, Tryd.results39, go_sem]) rfl ?_
              rw [HT.out]
              exact HR.out _ true k hlt9 hk (by have := sub_len L z k; omega) hpc
          · as_aux_lemma =>
            have z1 : ¬ (z : Int) < (k : Int) := by omega
            have E2 := Lib.hid (show k = z ∨ at0 L z ≠ 48 from Or.inl (by omega))
            have y0 : (0 : Int) ≤ (z : Int) := by omega
            have y1 : (z : Int) ≤ (k : Int) := by omega
            have y2 : (k : Int) ≤ (s.size : Int) := by omega
            obtain ⟨T, hT⟩ : ∃ T, s.extract z k = T := ⟨_, rfl⟩
            have HT := Lib.hid (show T = ⟨(sub L z k).toArray⟩ from by rw [← hT, extract_sub, HL.out])
            go_wp2
            obtain ⟨hlt9, hpc⟩ := piece_num (L := L) (p := p) (z := z) (k := k) (by omega) (by omega) hpk HDC.out HK.out E1.out hpz hzk HZ.out E2.out
            refine bodyPost_ret (v := .tuple #[.string T, .bool true, .int .i64 (k : Nat)]) (by simp [results, Tryd.results39, go_sem]) rfl ?_
            rw [HT.out]
            exact HR.out _ true k hlt9 hk (by have := sub_len L z k; omega) hpc
  · as_aux_lemma =>
    have e2 : ((x : Int) != 2) = true := by simp; omega
    have HDC := Lib.hid (show isD (at0 L p) = false from by rw [HCC.out]; simpa using fun h => h2 (HD.out.1 h))
    obtain ⟨T, hT⟩ : ∃ T, s.extract p (p + 1) = T := ⟨_, rfl⟩
    have HT := Lib.hid (show T = ⟨(sub L p (p + 1)).toArray⟩ from by rw [← hT, extract_sub, HL.out])
    clear h2
    go_enter Tryd.func39, Tryd.ntmps39
    have a1 : (p : Int) ≤ (p : Int) + 1 := by omega
    have a2 : (p : Int) + 1 ≤ (s.size : Int) := by omega
    go_wp2_with (go_at_call 19; refine rscript_any c _ _ ?_; rw [HX.out])
    refine bodyPost_ret (v := .tuple #[.string T, .bool false, .int .i64 ((p + 1 : Nat) : Int)]) (by simp [results, Tryd.results39, go_sem]) rfl ?_
    rw [HT.out]
    exact HR.out _ false (p + 1) (by omega) (by omega) (by have := sub_len L p (p + 1); omega) (by rw [pcs_other (by omega) HDC.out]; rfl)

end Go.Proofs.YtnibgjpbijlhbaaDoor
