/-
  names.Less: which of two strings precedes.
-/
import Derived.Test.YtnibgjpbijlhbaaDoorPcmp
namespace Go.Proofs.YtnibgjpbijlhbaaDoor
open Go.RowKit Go.Shelf
set_option linter.unusedVariables false
set_option linter.unusedSimpArgs false
set_option maxRecDepth 100000

theorem pcC_at : ∀ (X : List Pc) (k : Nat) (p : Pc), X[k]? = some p → (pcC X)[k * 3]? = some (.bool p.1) ∧ (pcC X)[k * 3 + 1]? = some (.int .i64 (p.2.1 : Nat)) ∧ (pcC X)[k * 3 + 2]? = some (.string ⟨p.2.2.toArray⟩)
  | x :: X, 0, p, h => by
    simp only [List.getElem?_cons_zero, Option.some.injEq] at h
    subst h
    exact ⟨rfl, rfl, rfl⟩
  | x :: X, k + 1, p, h => by
    have := pcC_at X k p (by simpa using h)
    rw [show (k + 1) * 3 = k * 3 + 3 by omega]
    exact this
  | [], _, _, h => by cases h

theorem pcs_len : ∀ (n : Nat) (l : List UInt8), l.length ≤ n → (pcs l).length ≤ l.length
  | _, [], _ => by simp [pcs]
  | 0, _ :: _, h => absurd h (by simp)
  | n + 1, c :: l, h => by
    simp only [List.length_cons] at h
    rw [pcs]
    split
    · have h1 : (l.dropWhile isD).length ≤ l.length := (List.dropWhile_suffix isD).length_le
      have := pcs_len n (l.dropWhile isD) (by omega)
      simp only [List.length_cons]
      omega
    · have := pcs_len n l (by omega)
      simp only [List.length_cons]
      omega
theorem isC_pc {w : World} {lo n : Nat} {A : Option Addr} {c : Nat} {X : List Pc} {k : Nat} {p : Pc} (h : IsC w lo (.slice A n c) n 3 (pcC X)) (hp : X[k]? = some p) :
    ∃ g, w.cell? ⟨g, k * 3, none⟩ = some (.bool p.1) ∧ w.cell? ⟨g, k * 3 + 1, none⟩ = some (.int .i64 (p.2.1 : Nat)) ∧ w.cell? ⟨g, k * 3 + 2, none⟩ = some (.string ⟨p.2.2.toArray⟩) ∧ A = some ⟨g, 0, none⟩ := by
  obtain ⟨A', c', e, -, -, h⟩ := h
  cases e
  obtain ⟨h0, h1, h2⟩ := pcC_at X k p hp
  obtain ⟨g, -, e, q0⟩ := h _ _ h0
  obtain ⟨g', -, e', q1⟩ := h _ _ h1
  obtain ⟨g'', -, e'', q2⟩ := h _ _ h2
  obtain rfl : g = g' := by rw [e] at e'; cases e'; rfl
  obtain rfl : g = g'' := by rw [e] at e''; cases e''; rfl
  exact ⟨g, q0, q1, q2, e⟩
theorem isC2_at {w : World} {lo lo' n n' : Nat} {A B : Option Addr} {c c' : Nat} {X Y : List Pc} {k : Nat} {p q : Pc} (h : IsC w lo (.slice A n c) n 3 (pcC X)) (h' : IsC w lo' (.slice B n' c') n' 3 (pcC Y)) (hp : X[k]? = some p) (hq : Y[k]? = some q) :
    ∃ g1 g2, w.cell? ⟨g1, k * 3, none⟩ = some (.bool p.1) ∧ w.cell? ⟨g1, k * 3 + 1, none⟩ = some (.int .i64 (p.2.1 : Nat)) ∧ w.cell? ⟨g1, k * 3 + 2, none⟩ = some (.string ⟨p.2.2.toArray⟩) ∧ w.cell? ⟨g2, k * 3, none⟩ = some (.bool q.1) ∧ w.cell? ⟨g2, k * 3 + 1, none⟩ = some (.int .i64 (q.2.1 : Nat)) ∧ w.cell? ⟨g2, k * 3 + 2, none⟩ = some (.string ⟨q.2.2.toArray⟩) ∧ A = some ⟨g1, 0, none⟩ ∧ B = some ⟨g2, 0, none⟩ := by
  obtain ⟨g, a0, a1, a2, e⟩ := isC_pc h hp
  obtain ⟨g', b0, b1, b2, e'⟩ := isC_pc h' hq
  exact ⟨g, g', a0, a1, a2, b0, b1, b2, e, e'⟩
set_option maxHeartbeats 8000000 in
theorem nless_any (a b : ByteArray) (w : World) (R : Ending → World → Prop) (ha : a.size ≤ 1000000) (hb : b.size ≤ 1000000)
    (hR : ∀ w', Nw w w' → R (.returned (.bool (lessB a.data.toList b.data.toList))) w') : Calls Tryd.prog 20 #[.string a, .string b] w R := by
  have HR := Lib.hid hR
  clear hR
  have NX := Lib.hid (Ch.refl (fun _ => False) w)
  obtain ⟨X, hX⟩ : ∃ X, pcs a.data.toList = X := ⟨_, rfl⟩
  obtain ⟨Y, hY⟩ : ∃ Y, pcs b.data.toList = Y := ⟨_, rfl⟩
  have HX := Lib.hid hX
  have HY := Lib.hid hY
  clear hX hY
  go_enter Tryd.func20, Tryd.ntmps20
  go_wp2_with (fail)
  go_wp2_with (go_at_call 34; fail)
  refine npieces_any a _ _ ha ?_
  intro w1 v1 hr1 n
  rw [HX.out] at hr1
  replace NX := Lib.hid (NX.out.trans n)
  have HC1 := Lib.hid hr1.isC
  clear hr1 n
  obtain ⟨A1, c1, rfl⟩ : ∃ A c, v1 = .slice A X.length c := by obtain ⟨A, c, e, -⟩ := HC1.out; exact ⟨A, c, e⟩
  go_wp2_with (go_at_call 34; fail)
  refine npieces_any b _ _ hb ?_
  intro w2 v2 hr2 n
  rw [HY.out] at hr2
  replace NX := Lib.hid (NX.out.trans n)
  replace HC1 := Lib.hid ((HC1.out.kept n nof).hi n.size)
  have HC2 := Lib.hid hr2.isC
  clear hr2 n
  obtain ⟨A2, c2, rfl⟩ : ∃ A c, v2 = .slice A Y.length c := by obtain ⟨A, c, e, -⟩ := HC2.out; exact ⟨A, c, e⟩
  obtain ⟨m, hm⟩ : ∃ m : Nat, min X.length Y.length = m := ⟨_, rfl⟩
  have em : min (X.length : Int) (Y.length : Int) = (m : Int) := by omega
  have hm6 : m ≤ 1000000 := by have h1 := pcs_len _ a.data.toList (Nat.le_refl _); rw [HX.out, ba_len] at h1; omega
  have HM := Lib.hid hm
  clear hm
  go_wp2_with (fail)
  go_loopw [7, 8, 18] (fun _ _ s18 wr => Hid (Nw w2 wr) ∧ ∃ k : Nat, s18 = .int .i64 k ∧ k ≤ m ∧ Hid (∀ j, j < k → X[j]? = Y[j]?)) (fun _ _ s18 _ => m - (intOf s18).toNat)
  case atStart => exact ⟨Lib.hid (Ch.refl _ _), 0, rfl, Nat.zero_le _, Lib.hid fun j hj => by omega⟩
  case round =>
    obtain ⟨hwr, k, rfl, hk, HK⟩ := hrel
    have n := hwr.out
    have HWR := hwr
    clear hwr
    replace NX := Lib.hid (NX.out.trans n)
    replace HC1 := Lib.hid ((HC1.out.kept n nof).hi n.size)
    replace HC2 := Lib.hid ((HC2.out.kept n nof).hi n.size)
    clear n
    have k0 : (0 : Int) ≤ (k : Int) := by omega
    by_cases hlt : k < m
    · as_aux_lemma =>
        have k1 : (k : Int) < (m : Int) := by omega
        obtain ⟨p, hp⟩ : ∃ p, X[k]? = some p := ⟨_, List.getElem?_eq_getElem (by have := HM.out; omega)⟩
        obtain ⟨q, hq⟩ : ∃ q, Y[k]? = some q := ⟨_, List.getElem?_eq_getElem (by have := HM.out; omega)⟩
        have k2 : (k : Int) < (X.length : Int) := by have := HM.out; omega
        have k3 : (k : Int) < (Y.length : Int) := by have := HM.out; omega
        obtain ⟨g1, g2, c10, c11, c12, c20, c21, c22, rfl, rfl⟩ : ∃ g1 g2, wr.cell? ⟨g1, k * 3, none⟩ = some (.bool p.1) ∧ wr.cell? ⟨g1, k * 3 + 1, none⟩ = some (.int .i64 (p.2.1 : Nat)) ∧ wr.cell? ⟨g1, k * 3 + 2, none⟩ = some (.string ⟨p.2.2.toArray⟩) ∧ wr.cell? ⟨g2, k * 3, none⟩ = some (.bool q.1) ∧ wr.cell? ⟨g2, k * 3 + 1, none⟩ = some (.int .i64 (q.2.1 : Nat)) ∧ wr.cell? ⟨g2, k * 3 + 2, none⟩ = some (.string ⟨q.2.2.toArray⟩) ∧ A1 = some ⟨g1, 0, none⟩ ∧ A2 = some ⟨g2, 0, none⟩ := isC2_at HC1.out HC2.out hp hq
        have HP := Lib.hid hp
        have HQ := Lib.hid hq
        obtain ⟨d, hd⟩ : ∃ d, cmpP p q = d := ⟨_, rfl⟩
        have HD := Lib.hid hd
        clear hp hq hd
        have Hc10 := Lib.hid c10
        have Hc11 := Lib.hid c11
        have Hc12 := Lib.hid c12
        have Hc20 := Lib.hid c20
        have Hc21 := Lib.hid c21
        have Hc22 := Lib.hid c22
        clear c10 c11 c12 c20 c21 c22
        go_wp2_with (fail)
        refine wp_named ?_
        intro W1 hW
        have n : Nw wr W1 := by rw [hW]; first | exact Ch.refl _ _ | exact (Ch.refl _ _).alloc _
        replace NX := Lib.hid (NX.out.trans n)
        replace HC1 := Lib.hid ((HC1.out.kept n nof).hi n.size)
        replace HC2 := Lib.hid ((HC2.out.kept n nof).hi n.size)
        replace HWR := Lib.hid (HWR.out.trans n)
        replace Hc10 := Lib.hid (n.cell Hc10.out id)
        replace Hc11 := Lib.hid (n.cell Hc11.out id)
        replace Hc12 := Lib.hid (n.cell Hc12.out id)
        replace Hc20 := Lib.hid (n.cell Hc20.out id)
        replace Hc21 := Lib.hid (n.cell Hc21.out id)
        replace Hc22 := Lib.hid (n.cell Hc22.out id)
        clear hW n
        refine wp_region_V (F := fun w' => w'.cell? ⟨g1, k * 3, none⟩ = some (.bool p.1) ∧ w'.cell? ⟨g1, k * 3 + 1, none⟩ = some (.int .i64 (p.2.1 : Nat)) ∧ w'.cell? ⟨g1, k * 3 + 2, none⟩ = some (.string ⟨p.2.2.toArray⟩) ∧ w'.cell? ⟨g2, k * 3, none⟩ = some (.bool q.1) ∧ w'.cell? ⟨g2, k * 3 + 1, none⟩ = some (.int .i64 (q.2.1 : Nat)) ∧ w'.cell? ⟨g2, k * 3 + 2, none⟩ = some (.string ⟨q.2.2.toArray⟩)) (opsOf Tryd.f20 5) 10 10 (by kernel_rfl) (by kernel_rfl) (by kernel_rfl) (fun w w' h n => (⟨n.cell h.1 id, n.cell h.2.1 id, n.cell h.2.2.1 id, n.cell h.2.2.2.1 id, n.cell h.2.2.2.2.1 id, n.cell h.2.2.2.2.2 id⟩)) (⟨Hc10.out, Hc11.out, Hc12.out, Hc20.out, Hc21.out, Hc22.out⟩) (fun HOPS HCL hHeld => ?_)
        refine wpU_named ?_
        intro W2 hW
        try rw [← hW] at hHeld
        have n : Nw W1 W2 := by rw [hW]; exact (Ch.refl _ _).drew
        replace NX := Lib.hid (NX.out.trans n)
        replace HC1 := Lib.hid ((HC1.out.kept n nof).hi n.size)
        replace HC2 := Lib.hid ((HC2.out.kept n nof).hi n.size)
        replace HWR := Lib.hid (HWR.out.trans n)
        replace Hc10 := Lib.hid (n.cell Hc10.out id)
        replace Hc11 := Lib.hid (n.cell Hc11.out id)
        replace Hc12 := Lib.hid (n.cell Hc12.out id)
        replace Hc20 := Lib.hid (n.cell Hc20.out id)
        replace Hc21 := Lib.hid (n.cell Hc21.out id)
        replace Hc22 := Lib.hid (n.cell Hc22.out id)
        clear hW n
        first | (refine wpU_takeB (i := 0) (v := ?_) HOPS rfl (by kernel_rfl) (fun _ _ _ h => h) HCL (goes_read (by rfl) ?hy) ?_; case hy => (intro w hSw; (try dsimp only at hSw); go_simp; (try with_reducible rfl))) | (refine wpU_takeB (i := 0) (v := _) HOPS rfl (by kernel_rfl) (fun _ _ _ h => h) HCL (goes_not (by rfl)) ?_)
        try simp only [Act.put, List.getElem_toArray, List.getElem_cons_succ, List.getElem_cons_zero, List.setIfInBounds_toArray, List.set_cons_zero, List.set_cons_succ]
        first | (refine wpU_takeB (i := 1) (v := ?_) HOPS rfl (by kernel_rfl) (fun _ _ _ h => h) HCL (goes_read (by rfl) ?hy) ?_; case hy => (intro w hSw; (try dsimp only at hSw); go_simp; (try with_reducible rfl))) | (refine wpU_takeB (i := 1) (v := _) HOPS rfl (by kernel_rfl) (fun _ _ _ h => h) HCL (goes_not (by rfl)) ?_)
        try simp only [Act.put, List.getElem_toArray, List.getElem_cons_succ, List.getElem_cons_zero, List.setIfInBounds_toArray, List.set_cons_zero, List.set_cons_succ]
        first | (refine wpU_takeB (i := 2) (v := ?_) HOPS rfl (by kernel_rfl) (fun _ _ _ h => h) HCL (goes_read (by rfl) ?hy) ?_; case hy => (intro w hSw; (try dsimp only at hSw); go_simp; (try with_reducible rfl))) | (refine wpU_takeB (i := 2) (v := _) HOPS rfl (by kernel_rfl) (fun _ _ _ h => h) HCL (goes_not (by rfl)) ?_)
        try simp only [Act.put, List.getElem_toArray, List.getElem_cons_succ, List.getElem_cons_zero, List.setIfInBounds_toArray, List.set_cons_zero, List.set_cons_succ]
        first | (refine wpU_takeB (i := 3) (v := ?_) HOPS rfl (by kernel_rfl) (fun _ _ _ h => h) HCL (goes_read (by rfl) ?hy) ?_; case hy => (intro w hSw; (try dsimp only at hSw); go_simp; (try with_reducible rfl))) | (refine wpU_takeB (i := 3) (v := _) HOPS rfl (by kernel_rfl) (fun _ _ _ h => h) HCL (goes_not (by rfl)) ?_)
        try simp only [Act.put, List.getElem_toArray, List.getElem_cons_succ, List.getElem_cons_zero, List.setIfInBounds_toArray, List.set_cons_zero, List.set_cons_succ]
        first | (refine wpU_takeB (i := 4) (v := ?_) HOPS rfl (by kernel_rfl) (fun _ _ _ h => h) HCL (goes_read (by rfl) ?hy) ?_; case hy => (intro w hSw; (try dsimp only at hSw); go_simp; (try with_reducible rfl))) | (refine wpU_takeB (i := 4) (v := _) HOPS rfl (by kernel_rfl) (fun _ _ _ h => h) HCL (goes_not (by rfl)) ?_)
        try simp only [Act.put, List.getElem_toArray, List.getElem_cons_succ, List.getElem_cons_zero, List.setIfInBounds_toArray, List.set_cons_zero, List.set_cons_succ]
        first | (refine wpU_takeB (i := 5) (v := ?_) HOPS rfl (by kernel_rfl) (fun _ _ _ h => h) HCL (goes_read (by rfl) ?hy) ?_; case hy => (intro w hSw; (try dsimp only at hSw); go_simp; (try with_reducible rfl))) | (refine wpU_takeB (i := 5) (v := _) HOPS rfl (by kernel_rfl) (fun _ _ _ h => h) HCL (goes_not (by rfl)) ?_)
        try simp only [Act.put, List.getElem_toArray, List.getElem_cons_succ, List.getElem_cons_zero, List.setIfInBounds_toArray, List.set_cons_zero, List.set_cons_succ]
        first | (refine wpU_takeB (i := 6) (v := ?_) HOPS rfl (by kernel_rfl) (fun _ _ _ h => h) HCL (goes_read (by rfl) ?hy) ?_; case hy => (intro w hSw; (try dsimp only at hSw); go_simp; (try with_reducible rfl))) | (refine wpU_takeB (i := 6) (v := _) HOPS rfl (by kernel_rfl) (fun _ _ _ h => h) HCL (goes_not (by rfl)) ?_)
        try simp only [Act.put, List.getElem_toArray, List.getElem_cons_succ, List.getElem_cons_zero, List.setIfInBounds_toArray, List.set_cons_zero, List.set_cons_succ]
        first | (refine wpU_takeB (i := 7) (v := ?_) HOPS rfl (by kernel_rfl) (fun _ _ _ h => h) HCL (goes_read (by rfl) ?hy) ?_; case hy => (intro w hSw; (try dsimp only at hSw); go_simp; (try with_reducible rfl))) | (refine wpU_takeB (i := 7) (v := _) HOPS rfl (by kernel_rfl) (fun _ _ _ h => h) HCL (goes_not (by rfl)) ?_)
        try simp only [Act.put, List.getElem_toArray, List.getElem_cons_succ, List.getElem_cons_zero, List.setIfInBounds_toArray, List.set_cons_zero, List.set_cons_succ]
        refine wpU_takeB (i := 8) HOPS rfl (by kernel_rfl) (fun _ _ _ h => h) HCL (goes_fn (v := .int .i64 d) 35 _ _ _ #[pvV p, pvV q] (by rfl) rfl (by kernel_rfl) (by kernel_rfl) (by kernel_rfl) (fun wq n R hR => ?_)) ?_
        · exact compare_any p q _ _ (fun w' n => by rw [HD.out]; exact hR _ n)
        try simp only [Act.put, List.getElem_toArray, List.getElem_cons_succ, List.getElem_cons_zero, List.setIfInBounds_toArray, List.set_cons_zero, List.set_cons_succ]
        first | (refine wpU_takeB (i := 9) (v := ?_) HOPS rfl (by kernel_rfl) (fun _ _ _ h => h) HCL (goes_read (by rfl) ?hy) ?_; case hy => (intro w hSw; (try dsimp only at hSw); go_simp; (try with_reducible rfl))) | (refine wpU_takeB (i := 9) (v := _) HOPS rfl (by kernel_rfl) (fun _ _ _ h => h) HCL (goes_not (by rfl)) ?_)
        try simp only [Act.put, List.getElem_toArray, List.getElem_cons_succ, List.getElem_cons_zero, List.setIfInBounds_toArray, List.set_cons_zero, List.set_cons_succ]
        refine wpU_done (by kernel_rfl) (fun w3 hle => ?_) _
        have n := (hle.ahead (by kernel_rfl)).1
        replace NX := Lib.hid (NX.out.trans n)
        replace HC1 := Lib.hid ((HC1.out.kept n nof).hi n.size)
        replace HC2 := Lib.hid ((HC2.out.kept n nof).hi n.size)
        replace HWR := Lib.hid (HWR.out.trans n)
        replace Hc10 := Lib.hid (n.cell Hc10.out id)
        replace Hc11 := Lib.hid (n.cell Hc11.out id)
        replace Hc12 := Lib.hid (n.cell Hc12.out id)
        replace Hc20 := Lib.hid (n.cell Hc20.out id)
        replace Hc21 := Lib.hid (n.cell Hc21.out id)
        replace Hc22 := Lib.hid (n.cell Hc22.out id)
        clear n
        clear HOPS HCL hle
        repeat clear hHeld
        by_cases hz : d = 0
        · as_aux_lemma =>
            have e0 : (d != 0) = false := by simp [hz]
            have HZ := Lib.hid hz
            clear hz
            go_wp2
            refine ⟨⟨HWR, k + 1, by go_num, by omega, Lib.hid fun j hj => ?_⟩, by simp [intOf]; omega⟩
            by_cases e : j = k
            · rw [e, HP.out, HQ.out]
              congr 1
              have h1 := HD.out
              rw [HZ.out] at h1
              unfold cmpP at h1
              split at h1
              · assumption
              · split at h1 <;> simp at h1
            · exact HK.out j (by omega)
        · as_aux_lemma =>
            have e0 : (d != 0) = true := by simp [hz]
            have HZ := Lib.hid hz
            clear hz
            go_wp2
            exact ret_b (HR.out _ NX.out) (by unfold lessB; rw [HX.out, HY.out, ← HD.out]; exact first_less k X Y p q _ HK.out HP.out HQ.out (fun e => HZ.out (by rw [← HD.out, e]; exact cmpP_self q)))
    · as_aux_lemma =>
        have k1 : ¬ (k : Int) < (m : Int) := by omega
        obtain ⟨x, hx⟩ : ∃ x, Lib.compareInt X.length Y.length = x := ⟨_, rfl⟩
        obtain ⟨y, hy⟩ : ∃ y, Lib.compareBytes a.data.toList b.data.toList = y := ⟨_, rfl⟩
        have HXX := Lib.hid hx
        have HYY := Lib.hid hy
        clear hx hy
        go_wp2_with (first | (go_at_call 37; refine (Tryd.cmp_Compare_int _ _ _).mono ?_; rintro e w' ⟨rfl, hw⟩; obtain rfl := hw.symm; rw [HXX.out]) | (go_at_call 38; refine (Tryd.strings_Compare _ _ _).mono ?_; rintro e w' ⟨rfl, hw⟩; obtain rfl := hw.symm; rw [HYY.out]) | (go_at_call 36; refine or2_any x y _ _ _ _ (heap_alloc_eq _ rfl) ?_))
        exact ret_b (HR.out _ (NX.out.alloc _)) (by unfold lessB; rw [HX.out, HY.out, ← HXX.out, ← HYY.out]; exact (last_less X Y _ _ (fun j p q h1 h2 => by have := HK.out j (by have := HM.out; have := (List.getElem?_eq_some_iff.1 h1).1; have := (List.getElem?_eq_some_iff.1 h2).1; omega); rw [h1, h2] at this; exact Option.some.inj this)).symm)

end Go.Proofs.YtnibgjpbijlhbaaDoor
