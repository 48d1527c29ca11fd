/-
  ref08: block: the operations from one to another are checked.
-/
import Derived.Test.YtdpbdcaefdcooaaGreatDoorR8b
namespace Go.Proofs.YtdpbdcaefdcooaaGreatDoor
open Go.RowKit
set_option linter.unusedVariables false
set_option linter.unusedSimpArgs false
set_option maxRecDepth 100000

def subL (L : List VOp) (fr t : Nat) : List VOp := (L.drop fr).take (t - fr)
theorem subL_len {L : List VOp} {fr t : Nat} (h : t ≤ L.length) : (subL L fr t).length = t - fr := by unfold subL; rw [List.length_take, List.length_drop]; omega
theorem subL_cons {L : List VOp} {i t : Nat} {o : VOp} (h : L[i]? = some o) (ht : i < t) : subL L i t = o :: subL L (i + 1) t := by
  obtain ⟨h1, h2⟩ := List.getElem?_eq_some_iff.1 h
  unfold subL
  rw [List.drop_eq_getElem_cons h1, h2, show t - i = (t - (i + 1)) + 1 by omega, List.take_succ_cons]
theorem subL_nil (L : List VOp) (t : Nat) : subL L t t = [] := by unfold subL; rw [Nat.sub_self, List.take_zero]
theorem subL_take {L : List VOp} {i t n : Nat} (h : i + n ≤ t) : (subL L i t).take n = subL L i (i + n) := by
  unfold subL
  rw [List.take_take, Nat.min_eq_left (by omega), show i + n - i = n by omega]
theorem subL_drop {L : List VOp} {i t n : Nat} (h : i + n ≤ t) : (subL L i t).drop n = subL L (i + n) t := by
  unfold subL
  rw [List.drop_take, List.drop_drop, show t - i - n = t - (i + n) by omega]

set_option maxHeartbeats 8000000 in
theorem rblk_any (np : Int) (lo b : Nat) (hlo : lo ≤ b) (L : List VOp) (p : Value) (h64 : L.length ≤ 64) (N : Nat) : ∀ (fr t nest : Nat) (s : VS) (w : World) (R : Ending → World → Prop), t - fr < N → fr ≤ t → t ≤ L.length → nest ≤ 3 →
    IsProg w lo p L → IsSt w b p np s.h s.d → s.h ≤ 8 → s.d ≤ 8 →
    (∀ w' e, V np (subL L fr t) nest 0 s = .error e → Ch (· = b) w w' → R (.returned (.tuple #[.int .i64 0, .int .i64 e])) w') →
    (∀ w' k s', V np (subL L fr t) nest 0 s = .ok (k, s') → IsSt w' b p np s'.h s'.d → Ch (· = b) w w' → R (.returned (.tuple #[.int .i64 k, .int .i64 0])) w') →
    Calls Tryz.prog 24 #[.pointer (some ⟨b, 0, none⟩), .int .i64 fr, .int .i64 t, .int .i64 nest] w R := by
  induction N with
  | zero => intro fr t nest s w R hN; omega
  | succ N ih =>
  intro fr t nest s w R hN hft htl hn3 hp hs hh hd hE hK
  have IH := Lib.hid ih
  have HE := Lib.hid hE
  have HK := Lib.hid hK
  have HP := Lib.hid hp
  have HST := Lib.hid hs
  clear ih hE hK hp hs
  obtain ⟨A, cap, rfl⟩ : ∃ A cap, p = .slice A L.length cap := by obtain ⟨A, c, e, -⟩ := HP.out; exact ⟨A, c, e⟩
  go_enter Tryz.func24, Tryz.ntmps24
  go_wp2_with (fail)
  go_loopw [10, 11] (fun s10 s11 wr => ∃ (i : Nat) (a : Int) (s' : VS), s10 = .int .i64 a ∧ s11 = .int .i64 i ∧ (fr ≤ i ∧ i ≤ t) ∧ (0 ≤ a ∧ a ≤ i * 4096) ∧ s'.h ≤ 8 ∧ s'.d ≤ 8 ∧ Hid (V np (subL L fr t) nest 0 s = V np (subL L i t) nest a s') ∧ Hid (IsSt wr b (.slice A L.length cap) np s'.h s'.d) ∧ Hid (Ch (· = b) w wr)) (fun _ s11 _ => t - (intOf s11).toNat)
  case atStart => exact ⟨fr, 0, s, rfl, rfl, ⟨Nat.le_refl _, hft⟩, by omega, hh, hd, Lib.hid rfl, HST, Lib.hid (Ch.refl _ _)⟩
  case round =>
    clear HST hh hd
    obtain ⟨i, a, s1, rfl, rfl, ⟨hfi, hit⟩, ⟨ha0, ha1⟩, hh1, hd1, HV, HST, HCH⟩ := hrel
    obtain ⟨w0, hw0⟩ : ∃ W : World, W = wr := ⟨_, rfl⟩
    subst hw0
    have HP0 := HP
    replace HP := Lib.hid (HP.out.kept HCH.out (fun k hk e => by have e' : k = b := e; omega))
    have i0 : (0 : Int) ≤ (i : Int) := by omega
    by_cases hlt : i < t
    · as_aux_lemma =>
      have i1 : (i : Int) < (t : Int) := by omega
      have i2 : (i : Int) < (L.length : Int) := by omega
      have hb0 : b < w0.heap.size := lt_of_heap HST.out
      obtain ⟨⟨c, x, y⟩, hq⟩ : ∃ q, L[i]? = some q := ⟨_, List.getElem?_eq_getElem (by omega)⟩
      have hsc := subL_cons hq hlt
      have hsl : (subL L (i + 1) t).length + 1 = t - i := by rw [subL_len htl]; omega
      have hv := HV.out
      rw [hsc] at hv
      replace HV := Lib.hid hv
      have HQ := Lib.hid hq
      clear hsc hv hq
      go_wp2_with (go_at_call 43; fail)
      refine one_any np lo b hlo L _ i t nest s1.h s1.d c x y HQ.out hlt htl (by omega) hn3 _ _ HP.out HST.out hh1 hd1 ?_ ?_
      · as_aux_lemma =>
        intro w1 e he n
        have en : (e != 0) = true := by simp; exact vchk_ne he
        have hvv : V np (subL L fr t) nest 0 s = .error e := by rw [HV.out]; exact V_bad (by rw [hsl]; exact he)
        have HVV := Lib.hid hvv
        clear he hvv
        go_wp2
        exact HE.out _ e HVV.out (HCH.out.trans' n (fun _ _ e => e.elim))
      · as_aux_lemma =>
        intro w1 hk hs1 c1
        obtain ⟨q1, q2, q3, q4, q5, q6⟩ := vchk_none hk
        obtain ⟨s2, hs2⟩ : ∃ z, vown c x s1 = z := ⟨_, rfl⟩
        have e1 : s1.h - vtakes c + vputs c = s2.h := by rw [← hs2]; rfl
        have e2 : max s1.d (s1.h - vtakes c + vputs c) = s2.d := by rw [← hs2]; rfl
        have z1 : s2.h ≤ 8 := by omega
        have z2 : s2.d ≤ 8 := by omega
        rw [e2, e1] at hs1
        have HS2 := Lib.hid hs2
        have HKN := Lib.hid (show vchk c x y ((subL L (i + 1) t).length + 1) nest np s1.h = none from by rw [hsl]; exact hk)
        clear hk e1 e2 hs2 q4 q5 q6
        replace HP := Lib.hid (HP.out.kept c1 (fun k hk e => by have e' : k = b := e; omega))
        replace HCH := Lib.hid (HCH.out.trans c1)
        replace HST := Lib.hid (show w1.heap[b]? = some (.cells #[.slice A L.length cap, .int .i64 np, .int .i64 s2.h, .int .i64 s2.d] 60 (0, 0)) from hs1)
        have hb1 : b < w1.heap.size := lt_of_heap hs1
        clear c1 hs1
        have cr := q1.1
        obtain ⟨h2, hh2⟩ : ∃ z, s2.h = z := ⟨_, rfl⟩
        obtain ⟨d2, hd2⟩ : ∃ z, s2.d = z := ⟨_, rfl⟩
        rw [hh2, hd2] at HST
        have HH2 := Lib.hid hh2
        have HD2 := Lib.hid hd2
        clear hh2 hd2
        obtain ⟨A', cap', e9, -, -, hel⟩ := HP.out
        cases e9
        obtain ⟨pk, po, hpk, rfl, c0, c1, c2⟩ := hel i c x y HQ.out
        clear hel
        by_cases h14 : c < 14
        · as_aux_lemma =>
          have kHST0 : w1.cell? ⟨b, 0, none⟩ = some (.slice (some ⟨pk, po, none⟩) L.length cap) := by rw [cell_of HST.out]; rfl
          have kHST1 : w1.cell? ⟨b, 1, none⟩ = some (.int .i64 np) := by rw [cell_of HST.out]; rfl
          have kHST2 : w1.cell? ⟨b, 2, none⟩ = some (.int .i64 h2) := by rw [cell_of HST.out]; rfl
          have kHST3 : w1.cell? ⟨b, 3, none⟩ = some (.int .i64 d2) := by rw [cell_of HST.out]; rfl
          go_wp2_with (fail)
          exact ⟨⟨i + 1, a + 1, s2, by first | rfl | go_num, by go_num, by omega, by omega, z1, z2, Lib.hid (by rw [HV.out, V_plain HKN.out h14, HS2.out]), Lib.hid (by unfold IsSt; rw [HH2.out, HD2.out]; exact heap_alloc_old' _ HST.out), Lib.hid (HCH.out.alloc _)⟩, by simp [intOf]; omega⟩
        · as_aux_lemma =>
          obtain ⟨⟨v1, v2⟩, nn⟩ := q3 (by omega)
          obtain ⟨ln, hln⟩ : ∃ n : Nat, vlen c x y = (n : Int) := ⟨(vlen c x y).toNat, by omega⟩
          rw [hln] at v1 v2
          have hlt2 : (vlen c x y).toNat = ln := by omega
          have l1 : 1 ≤ ln := by omega
          have l2 : i + 1 + ln ≤ t := by omega
          have HLN := Lib.hid hln
          have HLT := Lib.hid hlt2
          clear hln hlt2 v1 v2
          have kHST0 : w1.cell? ⟨b, 0, none⟩ = some (.slice (some ⟨pk, po, none⟩) L.length cap) := by rw [cell_of HST.out]; rfl
          have jHST0 : ∀ o, (w1.alloc o).cell? ⟨b, 0, none⟩ = some (.slice (some ⟨pk, po, none⟩) L.length cap) := fun o => cell_alloc_old o kHST0
          have kHST1 : w1.cell? ⟨b, 1, none⟩ = some (.int .i64 np) := by rw [cell_of HST.out]; rfl
          have jHST1 : ∀ o, (w1.alloc o).cell? ⟨b, 1, none⟩ = some (.int .i64 np) := fun o => cell_alloc_old o kHST1
          have kHST2 : w1.cell? ⟨b, 2, none⟩ = some (.int .i64 h2) := by rw [cell_of HST.out]; rfl
          have jHST2 : ∀ o, (w1.alloc o).cell? ⟨b, 2, none⟩ = some (.int .i64 h2) := fun o => cell_alloc_old o kHST2
          have kHST3 : w1.cell? ⟨b, 3, none⟩ = some (.int .i64 d2) := by rw [cell_of HST.out]; rfl
          have jHST3 : ∀ o, (w1.alloc o).cell? ⟨b, 3, none⟩ = some (.int .i64 d2) := fun o => cell_alloc_old o kHST3
          go_wp2_with (go_at_call 43; fail)
          clear kHST0 jHST0 kHST1 jHST1 kHST2 jHST2 kHST3 jHST3
          refine Calls_nm ?_
          intro W1 hW
          have n : Nw w1 W1 := by rw [hW]; first | exact Ch.refl _ _ | exact (Ch.refl _ _).alloc _ | exact ((Ch.refl _ _).alloc _).alloc _
          replace HP := Lib.hid (HP.out.kept n nof)
          replace HCH := Lib.hid (HCH.out.trans' n (fun _ _ e => e.elim))
          replace HST := Lib.hid (n.heap HST.out id)
          have HOB := Lib.hid (show W1.heap[w1.heap.size]? = some (.cells #[.int .i64 c, .int .i64 x, .int .i64 y] 49 (0, 0)) from by rw [hW]; exact heap_alloc_eq _ rfl)
          clear hW n
          clear c0 c1 c2
          refine blk_any c x y _ _ ?_
          intro w2 n
          replace HP := Lib.hid (HP.out.kept n nof)
          replace HCH := Lib.hid (HCH.out.trans' n (fun _ _ e => e.elim))
          replace HST := Lib.hid (n.heap HST.out id)
          replace HOB := Lib.hid (n.heap HOB.out id)
          clear n
          rw [HLN.out]
          have kHST0 : w2.cell? ⟨b, 0, none⟩ = some (.slice (some ⟨pk, po, none⟩) L.length cap) := by rw [cell_of HST.out]; rfl
          have jHST0 : ∀ o, (w2.alloc o).cell? ⟨b, 0, none⟩ = some (.slice (some ⟨pk, po, none⟩) L.length cap) := fun o => cell_alloc_old o kHST0
          have kHST1 : w2.cell? ⟨b, 1, none⟩ = some (.int .i64 np) := by rw [cell_of HST.out]; rfl
          have jHST1 : ∀ o, (w2.alloc o).cell? ⟨b, 1, none⟩ = some (.int .i64 np) := fun o => cell_alloc_old o kHST1
          have kHST2 : w2.cell? ⟨b, 2, none⟩ = some (.int .i64 h2) := by rw [cell_of HST.out]; rfl
          have jHST2 : ∀ o, (w2.alloc o).cell? ⟨b, 2, none⟩ = some (.int .i64 h2) := fun o => cell_alloc_old o kHST2
          have kHST3 : w2.cell? ⟨b, 3, none⟩ = some (.int .i64 d2) := by rw [cell_of HST.out]; rfl
          have jHST3 : ∀ o, (w2.alloc o).cell? ⟨b, 3, none⟩ = some (.int .i64 d2) := fun o => cell_alloc_old o kHST3
          go_wp2_with (go_at_call 42; fail)
          clear kHST0 jHST0 kHST1 jHST1 kHST2 jHST2 kHST3 jHST3
          refine Calls_nm ?_
          intro W3 hW
          have n : Nw w2 W3 := by rw [hW]; first | exact Ch.refl _ _ | exact (Ch.refl _ _).alloc _ | exact ((Ch.refl _ _).alloc _).alloc _
          replace HP := Lib.hid (HP.out.kept n nof)
          replace HCH := Lib.hid (HCH.out.trans' n (fun _ _ e => e.elim))
          replace HST := Lib.hid (n.heap HST.out id)
          replace HOB := Lib.hid (n.heap HOB.out id)
          clear hW n
          have IH2 := IH.out (i + 1) (i + 1 + ln) (nest + 1) s2 W3
          rw [show ((i + 1 + ln : Nat) : Int) = (i : Int) + 1 + (ln : Int) by omega, show ((i + 1 : Nat) : Int) = (i : Int) + 1 by omega, show ((nest + 1 : Nat) : Int) = (nest : Int) + 1 by omega] at IH2
          refine IH2 _ (by omega) (by omega) (by omega) (by omega) HP.out (by unfold IsSt; rw [HH2.out, HD2.out]; exact HST.out) z1 z2 ?_ ?_
          all_goals clear IH2
          · as_aux_lemma =>
            intro w6 e hi cc
            have en : (e != 0) = true := by simp; exact V_err_ne hi
            have HVV := Lib.hid (show V np (subL L fr t) nest 0 s = .error e from by rw [HV.out]; exact V_inner HKN.out (by omega) (by rw [HLT.out, subL_take (by omega), HS2.out]; exact hi))
            clear hi
            go_wp2
            exact HE.out _ e HVV.out (HCH.out.trans cc)
          · as_aux_lemma =>
            intro w6 k s3 hi hs3 cc
            obtain ⟨h3, hh3⟩ : ∃ z, s3.h = z := ⟨_, rfl⟩
            obtain ⟨d3, hd3⟩ : ∃ z, s3.d = z := ⟨_, rfl⟩
            have hs3' : w6.heap[b]? = some (.cells #[.slice (some ⟨pk, po, none⟩) L.length cap, .int .i64 np, .int .i64 s3.h, .int .i64 s3.d] 60 (0, 0)) := hs3
            rw [hh3, hd3] at hs3'
            have HH3 := Lib.hid hh3
            have HD3 := Lib.hid hd3
            clear hs3 hh3 hd3
            obtain ⟨⟨k0, k1⟩, k2, -, k3, -⟩ := V_bound hi (by omega) z1 z2
            rw [subL_len (by omega), show i + 1 + ln - (i + 1) = ln by omega] at k1
            rw [HH3.out] at k2
            rw [HD3.out] at k3
            have HI := Lib.hid hi
            clear hi
            replace HP := Lib.hid (HP.out.kept cc (fun k hk e => by have e' : k = b := e; omega))
            replace HCH := Lib.hid (HCH.out.trans cc)
            replace HOB := Lib.hid (cc.heap HOB.out (by show ¬ w1.heap.size = b; omega))
            replace HST := Lib.hid hs3'
            clear cc hs3'
            by_cases hne : h3 = h2
            · as_aux_lemma =>
              have e3 : ((h3 : Int) != (h2 : Int)) = false := by simp [hne]
              have HNE := Lib.hid (show s3.h = (vown c x s1).h from by rw [HS2.out, HH3.out, HH2.out]; exact hne)
              have hon : V np (subL L fr t) nest 0 s = V np (subL L (i + 1 + ln) t) nest (a + 1 + vrounds c x * k) s3 := by rw [HV.out, V_on HKN.out (by omega) (by rw [HLT.out, subL_take (by omega), HS2.out]; exact HI.out) HNE.out, HLT.out, subL_drop (by omega)]
              have hcs := vcost (vrounds_le (c := c) (n := x) q2) (show 0 ≤ k by omega) (show k ≤ (ln : Int) * vmax (nest + 1) by omega) (show nest < 3 by omega)
              obtain ⟨q, hq⟩ : ∃ z, vrounds c x * k = z := ⟨_, rfl⟩
              rw [hq] at hon hcs
              have HON := Lib.hid hon
              clear hon hne
              obtain hc | hc : c = 15 ∨ c = 14 := by omega
              · as_aux_lemma =>
                have t15 : (c == 15) = true := by simp [hc]
                have qk : k * x = q := by rw [← hq, Int.mul_comm]; unfold vrounds; rw [if_pos hc]
                clear hq hc
                have kHST0 : w6.cell? ⟨b, 0, none⟩ = some (.slice (some ⟨pk, po, none⟩) L.length cap) := by rw [cell_of HST.out]; rfl
                have jHST0 : ∀ o, (w6.alloc o).cell? ⟨b, 0, none⟩ = some (.slice (some ⟨pk, po, none⟩) L.length cap) := fun o => cell_alloc_old o kHST0
                have kHST1 : w6.cell? ⟨b, 1, none⟩ = some (.int .i64 np) := by rw [cell_of HST.out]; rfl
                have jHST1 : ∀ o, (w6.alloc o).cell? ⟨b, 1, none⟩ = some (.int .i64 np) := fun o => cell_alloc_old o kHST1
                have kHST2 : w6.cell? ⟨b, 2, none⟩ = some (.int .i64 h3) := by rw [cell_of HST.out]; rfl
                have jHST2 : ∀ o, (w6.alloc o).cell? ⟨b, 2, none⟩ = some (.int .i64 h3) := fun o => cell_alloc_old o kHST2
                have kHST3 : w6.cell? ⟨b, 3, none⟩ = some (.int .i64 d3) := by rw [cell_of HST.out]; rfl
                have jHST3 : ∀ o, (w6.alloc o).cell? ⟨b, 3, none⟩ = some (.int .i64 d3) := fun o => cell_alloc_old o kHST3
                have kHOB0 : w6.cell? ⟨w1.heap.size, 0, none⟩ = some (.int .i64 c) := by rw [cell_of HOB.out]; rfl
                have jHOB0 : ∀ o, (w6.alloc o).cell? ⟨w1.heap.size, 0, none⟩ = some (.int .i64 c) := fun o => cell_alloc_old o kHOB0
                have kHOB1 : w6.cell? ⟨w1.heap.size, 1, none⟩ = some (.int .i64 x) := by rw [cell_of HOB.out]; rfl
                have jHOB1 : ∀ o, (w6.alloc o).cell? ⟨w1.heap.size, 1, none⟩ = some (.int .i64 x) := fun o => cell_alloc_old o kHOB1
                have kHOB2 : w6.cell? ⟨w1.heap.size, 2, none⟩ = some (.int .i64 y) := by rw [cell_of HOB.out]; rfl
                have jHOB2 : ∀ o, (w6.alloc o).cell? ⟨w1.heap.size, 2, none⟩ = some (.int .i64 y) := fun o => cell_alloc_old o kHOB2
                go_wp2_with (go_at_call 42; fail)
                clear kHST0 jHST0 kHST1 jHST1 kHST2 jHST2 kHST3 jHST3 kHOB0 jHOB0 kHOB1 jHOB1 kHOB2 jHOB2
                refine Calls_nm ?_
                intro W4 hW
                have n : Nw w6 W4 := by rw [hW]; first | exact Ch.refl _ _ | exact (Ch.refl _ _).alloc _ | exact ((Ch.refl _ _).alloc _).alloc _
                replace HP := Lib.hid (HP.out.kept n nof)
                replace HCH := Lib.hid (HCH.out.trans' n (fun _ _ e => e.elim))
                replace HST := Lib.hid (n.heap HST.out id)
                replace HOB := Lib.hid (n.heap HOB.out id)
                clear hW n
                refine blk_any c x y _ _ ?_
                intro w5 n
                replace HP := Lib.hid (HP.out.kept n nof)
                replace HCH := Lib.hid (HCH.out.trans' n (fun _ _ e => e.elim))
                replace HST := Lib.hid (n.heap HST.out id)
                replace HOB := Lib.hid (n.heap HOB.out id)
                clear n
                rw [HLN.out]
                go_wp2_with (fail)
                exact ⟨⟨i + 1 + ln, a + 1 + q, s3, by first | rfl | go_num, by go_num, by omega, by omega, by rw [HH3.out]; exact k2, by rw [HD3.out]; exact k3, HON, Lib.hid (by unfold IsSt; rw [HH3.out, HD3.out]; exact HST.out), HCH⟩, by simp [intOf]; omega⟩
              · as_aux_lemma =>
                have t15 : (c == 15) = false := by simp [hc]
                have qk : k = q := by rw [← hq]; unfold vrounds; rw [if_neg (by omega), Int.one_mul]
                subst qk
                clear hq hc
                have kHST0 : w6.cell? ⟨b, 0, none⟩ = some (.slice (some ⟨pk, po, none⟩) L.length cap) := by rw [cell_of HST.out]; rfl
                have jHST0 : ∀ o, (w6.alloc o).cell? ⟨b, 0, none⟩ = some (.slice (some ⟨pk, po, none⟩) L.length cap) := fun o => cell_alloc_old o kHST0
                have kHST1 : w6.cell? ⟨b, 1, none⟩ = some (.int .i64 np) := by rw [cell_of HST.out]; rfl
                have jHST1 : ∀ o, (w6.alloc o).cell? ⟨b, 1, none⟩ = some (.int .i64 np) := fun o => cell_alloc_old o kHST1
                have kHST2 : w6.cell? ⟨b, 2, none⟩ = some (.int .i64 h3) := by rw [cell_of HST.out]; rfl
                have jHST2 : ∀ o, (w6.alloc o).cell? ⟨b, 2, none⟩ = some (.int .i64 h3) := fun o => cell_alloc_old o kHST2
                have kHST3 : w6.cell? ⟨b, 3, none⟩ = some (.int .i64 d3) := by rw [cell_of HST.out]; rfl
                have jHST3 : ∀ o, (w6.alloc o).cell? ⟨b, 3, none⟩ = some (.int .i64 d3) := fun o => cell_alloc_old o kHST3
                have kHOB0 : w6.cell? ⟨w1.heap.size, 0, none⟩ = some (.int .i64 c) := by rw [cell_of HOB.out]; rfl
                have jHOB0 : ∀ o, (w6.alloc o).cell? ⟨w1.heap.size, 0, none⟩ = some (.int .i64 c) := fun o => cell_alloc_old o kHOB0
                have kHOB1 : w6.cell? ⟨w1.heap.size, 1, none⟩ = some (.int .i64 x) := by rw [cell_of HOB.out]; rfl
                have jHOB1 : ∀ o, (w6.alloc o).cell? ⟨w1.heap.size, 1, none⟩ = some (.int .i64 x) := fun o => cell_alloc_old o kHOB1
                have kHOB2 : w6.cell? ⟨w1.heap.size, 2, none⟩ = some (.int .i64 y) := by rw [cell_of HOB.out]; rfl
                have jHOB2 : ∀ o, (w6.alloc o).cell? ⟨w1.heap.size, 2, none⟩ = some (.int .i64 y) := fun o => cell_alloc_old o kHOB2
                go_wp2_with (go_at_call 42; fail)
                clear kHST0 jHST0 kHST1 jHST1 kHST2 jHST2 kHST3 jHST3 kHOB0 jHOB0 kHOB1 jHOB1 kHOB2 jHOB2
                refine Calls_nm ?_
                intro W6 hW
                have n : Nw w6 W6 := by rw [hW]; first | exact Ch.refl _ _ | exact (Ch.refl _ _).alloc _ | exact ((Ch.refl _ _).alloc _).alloc _
                replace HP := Lib.hid (HP.out.kept n nof)
                replace HCH := Lib.hid (HCH.out.trans' n (fun _ _ e => e.elim))
                replace HST := Lib.hid (n.heap HST.out id)
                replace HOB := Lib.hid (n.heap HOB.out id)
                clear hW n
                refine blk_any c x y _ _ ?_
                intro w7 n
                replace HP := Lib.hid (HP.out.kept n nof)
                replace HCH := Lib.hid (HCH.out.trans' n (fun _ _ e => e.elim))
                replace HST := Lib.hid (n.heap HST.out id)
                replace HOB := Lib.hid (n.heap HOB.out id)
                clear n
                rw [HLN.out]
                go_wp2_with (fail)
                exact ⟨⟨i + 1 + ln, a + 1 + k, s3, by first | rfl | go_num, by go_num, by omega, by omega, by rw [HH3.out]; exact k2, by rw [HD3.out]; exact k3, HON, Lib.hid (by unfold IsSt; rw [HH3.out, HD3.out]; exact HST.out), HCH⟩, by simp [intOf]; omega⟩
            · as_aux_lemma =>
              have e3 : ((h3 : Int) != (h2 : Int)) = true := by simp; omega
              have HNE := Lib.hid (show s3.h ≠ (vown c x s1).h from by rw [HS2.out, HH3.out, HH2.out]; exact hne)
              have HVV := Lib.hid (show V np (subL L fr t) nest 0 s = .error 20 from by rw [HV.out]; exact V_height HKN.out (by omega) (by rw [HLT.out, subL_take (by omega), HS2.out]; exact HI.out) HNE.out)
              clear hne
              have kHST0 : w6.cell? ⟨b, 0, none⟩ = some (.slice (some ⟨pk, po, none⟩) L.length cap) := by rw [cell_of HST.out]; rfl
              have kHST1 : w6.cell? ⟨b, 1, none⟩ = some (.int .i64 np) := by rw [cell_of HST.out]; rfl
              have kHST2 : w6.cell? ⟨b, 2, none⟩ = some (.int .i64 h3) := by rw [cell_of HST.out]; rfl
              have kHST3 : w6.cell? ⟨b, 3, none⟩ = some (.int .i64 d3) := by rw [cell_of HST.out]; rfl
              go_wp2
              exact HE.out _ 20 HVV.out HCH.out
    · as_aux_lemma =>
      have i1 : ¬ (i : Int) < (t : Int) := by omega
      obtain rfl : i = t := by omega
      have hv := HV.out
      rw [subL_nil, V_nil] at hv
      have HVV := Lib.hid hv
      clear hv
      go_wp2
      exact HK.out _ a s1 HVV.out HST.out HCH.out

end Go.Proofs.YtdpbdcaefdcooaaGreatDoor
