/-
  ref12.Made: some string of at most four bytes.
-/
import Derived.Test.YtnibgjpbijlhbaaDoorStr1
import Derived.Test.YtnibgjpbijlhbaaDoorDrw
namespace Go.Proofs.YtnibgjpbijlhbaaDoor
open Go.RowKit Go.Shelf
set_option linter.unusedVariables false
set_option linter.unusedSimpArgs false
set_option maxRecDepth 100000

theorem abc_at (j : Int) (h0 : 0 ≤ j) (h1 : j < 9) : ∃ c : UInt8, ∃ (i : Nat) (hi : i < 9), (i : Int) = j ∧ (⟨#[97, 98, 99, 100, 101, 102, 48, 49, 45]⟩ : ByteArray)[i]'hi = c := ⟨_, j.toNat, by omega, by omega, rfl⟩

/-- The byte that is taken: no hyphen at the ends or behind a hyphen. -/
def mkC (L : List UInt8) (k N : Nat) (c : UInt8) : UInt8 := if c = 45 ∧ (k = 0 ∨ k + 1 = N ∨ at0 L (k - 1) = 45) then 97 else c
/-- The first k bytes, and how many numbers are taken behind them. -/
def madeTo (l : List Int) (N kn : Nat) : Nat → ByteArray × Nat
  | 0 => (⟨#[]⟩, kn)
  | k + 1 => ((madeTo l N kn k).1 ++ ⟨#[mkC (madeTo l N kn k).1.data.toList k N (at0 [97, 98, 99, 100, 101, 102, 48, 49, 45] (nx l (madeTo l N kn k).2 9).toNat)]⟩, nk l (madeTo l N kn k).2)
/-- The string that numbers make. -/
def made12 (l : List Int) : ByteArray := (madeTo l (1 + nx l 0 4).toNat (nk l 0) (1 + nx l 0 4).toNat).1
theorem made_step {l : List Int} {N kn k kr kq : Nat} {s : ByteArray} {j : Int} {c c' : UInt8} (h : madeTo l N kn k = (s, kr)) (hj : nx l kr 9 = j) (hk : nk l kr = kq) (hc : at0 [97, 98, 99, 100, 101, 102, 48, 49, 45] j.toNat = c) (hm : mkC s.data.toList k N c = c') :
    madeTo l N kn (k + 1) = (s ++ ⟨#[c']⟩, kq) := by
  rw [madeTo, h]
  simp only [hj, hk, hc, hm]

set_option maxHeartbeats 4000000 in
theorem made_det (v : Value) (l : List Int) (w : World) (R : Ending → World → Prop) (h : IsInts w w.heap.size v l)
    (hR : ∀ w', (made12 l).size ≤ 4 → Nw w w' → R (.returned (.string (made12 l))) w') : Calls Tryd.prog 25 #[v] w R := by
  have HR := Lib.hid hR
  have HI := Lib.hid h
  obtain ⟨A, cap, rfl⟩ : ∃ A cap, v = .slice A l.length cap := by obtain ⟨A, c, e, -⟩ := h; exact ⟨A, c, e⟩
  clear hR h
  go_enter Tryd.func25, Tryd.ntmps25
  go_wp2_with (go_at_call 40; fail)
  refine Calls_nm ?_
  intro W1 hW
  have HD := Lib.hid (show DS W1 w.heap.size w.heap.size (.slice A l.length cap) l 0 from by rw [hW]; exact ⟨heap_alloc_eq _ rfl, HI.out.kept ((Ch.refl (fun _ => False) w).alloc _) nof, Nat.zero_le _, Nat.le_refl _⟩)
  have HN := Lib.hid (show Nw w W1 from by rw [hW]; exact (Ch.refl _ _).alloc _)
  clear hW
  refine Next_any w.heap.size w.heap.size _ l 0 4 _ _ HD.out (by omega) (by omega) ?_
  intro W2 hd hc
  have HN2 := Lib.hid (HN.out.trans' hc (fun j hj e => by have e' : j = w.heap.size := e; omega))
  have HD2 := Lib.hid hd
  obtain ⟨n0, n1⟩ := nx_in l 0 4 (by omega)
  have HMD := Lib.hid (show made12 l = (madeTo l (1 + nx l 0 4).toNat (nk l 0) (1 + nx l 0 4).toNat).1 from rfl)
  generalize nx l 0 4 = nn at n0 n1 HMD ⊢
  generalize nk l 0 = kn at HD2 HMD
  clear hd hc HD HN
  obtain ⟨N, hN⟩ : ∃ N : Nat, (N : Int) = 1 + nn := ⟨(1 + nn).toNat, by omega⟩
  rw [show (1 + nn).toNat = N by omega] at HMD
  have N1 : 1 ≤ N := by omega
  have N4 : N ≤ 4 := by omega
  go_wp2_with (fail)
  rw [← hN]
  clear n0 n1 hN
  go_loopw [4, 6, 7] (fun s4 s6 _ wr => ∃ (k : Nat) (s : ByteArray) (kr : Nat), s6 = .int .i64 k ∧ s4 = .string s ∧ k ≤ N ∧ s.size = k ∧ Hid (madeTo l N kn k = (s, kr)) ∧ Hid (DS wr w.heap.size w.heap.size (.slice A l.length cap) l kr) ∧ Hid (Nw w wr)) (fun _ s6 _ _ => N - (intOf s6).toNat)
  case atStart => exact ⟨0, _, kn, rfl, rfl, Nat.zero_le _, rfl, Lib.hid rfl, HD2, HN2⟩
  case round =>
    clear HN2 HD2
    obtain ⟨k, s, kr, rfl, rfl, hk, hs, HT, HD, HN⟩ := hrel
    have k0 : (0 : Int) ≤ (k : Int) := by omega
    by_cases hlt : k < N
    · have k1 : (k : Int) < (N : Int) := by omega
      go_wp2_with (go_at_call 40; fail)
      refine Next_any w.heap.size w.heap.size _ l kr 9 _ _ HD.out (by omega) (by omega) ?_
      intro W2 hd hc
      have HN2 := Lib.hid (HN.out.trans' hc (fun j hj e => by have e' : j = w.heap.size := e; omega))
      have HD2 := Lib.hid hd
      obtain ⟨n0, n1⟩ := nx_in l kr 9 (by omega)
      obtain ⟨j, hj⟩ : ∃ j, nx l kr 9 = j := ⟨_, rfl⟩
      obtain ⟨kq, hkq⟩ : ∃ n, nk l kr = n := ⟨_, rfl⟩
      rw [hj] at n0 n1 ⊢
      rw [hkq] at HD2
      have HJ := Lib.hid hj
      have HK := Lib.hid hkq
      clear hd hc HD HN hj hkq
      obtain ⟨i, rfl⟩ : ∃ i : Nat, j = (i : Int) := ⟨j.toNat, by omega⟩
      have i9 : i < 9 := by omega
      obtain ⟨c, hc⟩ : ∃ c, (⟨#[97, 98, 99, 100, 101, 102, 48, 49, 45]⟩ : ByteArray)[i]'(by exact i9) = c := ⟨_, rfl⟩
      have HC := Lib.hid (show at0 [97, 98, 99, 100, 101, 102, 48, 49, 45] (i : Int).toNat = c from by rw [← hc, ba_at _ (by exact i9)]; rfl)
      have ST := Lib.hid (fun c' => made_step (c' := c') HT.out HJ.out HK.out HC.out)
      have h97 := str_one 97 97 rfl
      have hcc := str_one c c.toNat rfl
      by_cases hc4 : c = 45
      · as_aux_lemma =>
        have e1 : ((c.toNat : Int) == 45) = true := by rw [hc4]; rfl
        rcases k with _ | p
        · as_aux_lemma =>
          have HM := Lib.hid (show mkC s.data.toList 0 N c = 97 from if_pos ⟨hc4, Or.inl rfl⟩)
          clear hc4
          go_wp2_with (fail)
          refine ⟨⟨0 + 1, _, kq, by go_num, rfl, by omega, by rw [ByteArray.size_append, hs]; rfl, Lib.hid (ST.out _ HM.out), Lib.hid (HD2.out.kept ((Ch.refl (fun _ => False) _).alloc _) (fun _ _ e => e)), Lib.hid (HN2.out.alloc _)⟩, by simp [intOf]; omega⟩
        · as_aux_lemma =>
          have q0 : ((p : Int) + 1 == 0) = false := by simp; omega
          have q1 : (0 : Int) ≤ (p : Int) + 1 := by omega
          have q3 : (p : Int) < (s.size : Int) := by omega
          have q4 : (0 : Int) ≤ (p : Int) := by omega
          by_cases hpn : p + 1 + 1 = N
          · as_aux_lemma =>
            have q2 : ((p : Int) + 1 == (N : Int) - 1) = true := by simp; omega
            have HM := Lib.hid (show mkC s.data.toList (p + 1) N c = 97 from if_pos ⟨hc4, Or.inr (Or.inl hpn)⟩)
            clear hc4 hpn
            go_wp2_with (fail)
            refine ⟨⟨p + 1 + 1, _, kq, by go_num, rfl, by omega, by rw [ByteArray.size_append, hs]; rfl, Lib.hid (ST.out _ HM.out), Lib.hid (HD2.out.kept ((Ch.refl (fun _ => False) _).alloc _) (fun _ _ e => e)), Lib.hid (HN2.out.alloc _)⟩, by simp [intOf]; omega⟩
          · as_aux_lemma =>
            have q2 : ((p : Int) + 1 == (N : Int) - 1) = false := by simp; omega
            obtain ⟨d, hd⟩ : ∃ d, s[p]'(by omega) = d := ⟨_, rfl⟩
            have HDD := Lib.hid (show at0 s.data.toList (p + 1 - 1) = d from by rw [Nat.add_sub_cancel, ← ba_at s (by omega), hd])
            by_cases hd4 : d = 45
            · as_aux_lemma =>
              have q5 : ((d.toNat : Int) == 45) = true := by rw [hd4]; rfl
              have HM := Lib.hid (show mkC s.data.toList (p + 1) N c = 97 from if_pos ⟨hc4, Or.inr (Or.inr (by rw [HDD.out, hd4]))⟩)
              clear hc4 hpn hd4
              go_wp2_with (fail)
              refine ⟨⟨p + 1 + 1, _, kq, by go_num, rfl, by omega, by rw [ByteArray.size_append, hs]; rfl, Lib.hid (ST.out _ HM.out), Lib.hid (HD2.out.kept ((Ch.refl (fun _ => False) _).alloc _) (fun _ _ e => e)), Lib.hid (HN2.out.alloc _)⟩, by simp [intOf]; omega⟩
            · as_aux_lemma =>
              have q5 : ((d.toNat : Int) == 45) = false := by rw [show (45 : Int) = ((45 : Nat) : Int) from rfl, toNat_eq d 45 (by omega)]; simpa using hd4
              have HM := Lib.hid (show mkC s.data.toList (p + 1) N c = c from if_neg (fun h0 => by rcases h0 with ⟨-, h | h | h⟩ <;> first | exact hpn h | exact hd4 (HDD.out.symm.trans h) | omega))
              clear hc4 hpn hd4
              go_wp2_with (fail)
              refine ⟨⟨p + 1 + 1, _, kq, by go_num, rfl, by omega, by rw [ByteArray.size_append, hs]; rfl, Lib.hid (ST.out _ HM.out), Lib.hid (HD2.out.kept ((Ch.refl (fun _ => False) _).alloc _) (fun _ _ e => e)), Lib.hid (HN2.out.alloc _)⟩, by simp [intOf]; omega⟩
      · as_aux_lemma =>
        have e1 : ((c.toNat : Int) == 45) = false := by rw [show (45 : Int) = ((45 : Nat) : Int) from rfl, toNat_eq c 45 (by omega)]; simpa using hc4
        have HM := Lib.hid (show mkC s.data.toList k N c = c from if_neg (by rintro ⟨h, -⟩; exact hc4 h))
        clear hc4
        go_wp2_with (fail)
        refine ⟨⟨k + 1, _, kq, by go_num, rfl, by omega, by rw [ByteArray.size_append, hs]; rfl, Lib.hid (ST.out _ HM.out), Lib.hid (HD2.out.kept ((Ch.refl (fun _ => False) _).alloc _) (fun _ _ e => e)), Lib.hid (HN2.out.alloc _)⟩, by simp [intOf]; omega⟩
    · have k1 : ¬ (k : Int) < (N : Int) := by omega
      obtain rfl : k = N := by omega
      have e9 := HMD.out
      rw [HT.out] at e9
      simp only at e9
      subst e9
      go_wp2
      exact HR.out _ (by omega) HN.out
theorem made_any (v : Value) (l : List Int) (w : World) (R : Ending → World → Prop) (h : IsInts w w.heap.size v l)
    (hR : ∀ w' (s : ByteArray), s.size ≤ 4 → Nw w w' → R (.returned (.string s)) w') : Calls Tryd.prog 25 #[v] w R :=
  made_det v l w R h fun w' h n => hR w' _ h n

end Go.Proofs.YtnibgjpbijlhbaaDoor
