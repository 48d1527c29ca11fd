/-
  indeliblelaw09.MachineSizes: a program without OpSize has the same effect at two sizes.
-/
import Derived.Test.YtlgcijafjcfnhaaFour
namespace Go.Proofs.Ytlgcijafjcfnhaa
open Go.RowKit
set_option linter.unusedVariables false
set_option linter.unusedSimpArgs false

theorem own_size {s1 s2 c n : Int} (hc : c ≠ 9) (st : St) : own s1 c n st = own s2 c n st := by
  have : ∀ o s, doOp s1 c n o s = doOp s2 c n o s := by
    intro o s
    unfold doOp
    simp only [if_neg hc]
  unfold own
  rw [this]
theorem exec_size (l : List Op3) (h : l.any (fun q => q.1 == 9) = false) (s1 s2 : Int) : ∀ fuel : Nat, exec l s1 fuel = exec l s2 fuel := by
  intro fuel
  induction fuel with
  | zero => rfl
  | succ fuel ih =>
    funext i e nest st
    unfold exec
    rw [ih]
    have hq : (l.getD i default).1 ≠ 9 := by
      rw [List.getD_eq_getElem?_getD]
      cases hi : l[i]? with
      | none => decide
      | some q =>
        intro e9
        have := List.any_eq_false.1 h q (List.mem_of_getElem? hi)
        simp only [Option.getD_some] at e9
        simp [e9] at this
    generalize l.getD i default = op at hq ⊢
    obtain ⟨c, n, m⟩ := op
    simp only at hq ⊢
    rw [own_size (s2 := s2) hq]
theorem runM_size (l : List Op3) (h : l.any (fun q => q.1 == 9) = false) (s1 s2 : Int) (o : List (List Pt)) : runM l s1 o = runM l s2 o := by
  unfold runM
  rw [exec_size l h s1 s2]
theorem any_op {l : List Op3} {j : Nat} {q : Op3} (h : l[j]? = some q) : (l.take (j + 1)).any (fun q => q.1 == 9) = ((l.take j).any (fun q => q.1 == 9) || q.1 == 9) := by
  rw [List.take_add_one, h]
  simp
theorem isOut_nil (w : World) (lo : Nat) : IsOut w lo (.slice none 0 0) [] := ⟨_, _, rfl, by simp, fun k c h => by cases h⟩

/-- The four programs in the array at block g. -/
def AllOps (w : World) (g : Nat) : Prop := ∀ j, j < 4 → ∃ v l, w.cell? ⟨g, j, none⟩ = some v ∧ IsOps w w.heap.size v l
theorem AllOps.kept {w w' : World} {g : Nat} (h : AllOps w g) (hc : Nw w w') : AllOps w' g := fun j hj => by
  obtain ⟨v, l, h1, h2⟩ := h j hj
  exact ⟨v, l, hc.cell h1 id, (h2.kept hc nof).hi hc.size⟩

set_option maxRecDepth 100000 in
set_option maxHeartbeats 1000000 in
theorem Sizes_any (lo : Nat) (v : Value) (c : CaseD) (vr : Value) (raw : List Op3) (one two : Int) (w : World) (R : Ending → World → Prop) (hlo : lo ≤ w.heap.size) (hc : IsCase w lo v c) (hr : IsOpsR w lo vr raw)
    (hz : -9223372036854775808 ≤ one ∧ one ≤ 9223372036854775807) (hz' : -9223372036854775808 ≤ two ∧ two ≤ 9223372036854775807)
    (hR : ∀ w', Nw w w' → R (.returned (.bool true)) w') : Calls Try.prog 6 #[v, vr, .int .i64 one, .int .i64 two] w R := by
  have HR := Lib.hid hR
  have HC := Lib.hid hc
  have HRAW := Lib.hid hr
  clear hR hz hz' hr
  obtain ⟨vo, vp, rfl, -⟩ := hc
  go_enter Try.func6, Try.ntmps6
  go_wp2_with (go_at_call 9; fail)
  refine sanity_any _ _ ?_
  intro w1 hn
  obtain ⟨p0, p1, p2, p3, p4⟩ := case_alloc (lo := lo) hn
  have N1 := Lib.hid (show Nw w w1 from ((Ch.refl (fun _ => False) w).alloc _).trans hn)
  clear hn
  go_wp2_with (go_at_call 9; fail)
  refine made_any lo _ c _ _ (by have := N1.out.size; omega) (HC.out.kept N1.out nof) ?_
  intro w2 vo2 vp2 p m hm hmade hout hown hn
  have p0 := hn.cell p0 id
  have p1 := hn.cell p1 id
  have p2 := hn.cell p2 id
  have p3 := hn.cell p3 id
  have p4 := hn.cell p4 id
  have HO := Lib.hid hout
  have N2 := Lib.hid (N1.out.trans hn)
  clear hmade hout hown hn
  go_wp2_with (go_at_call 9; fail)
  refine programs_any lo _ c _ raw _ _ (by have := N2.out.size; omega) (HC.out.kept N2.out nof) (HRAW.out.kept N2.out nof) ?_
  intro w3 v0 v1 v2 v3 l0 l1 l2 l3 m' hm' hmade hlen h0 h1 h2 h3 hn
  have N3 := Lib.hid (N2.out.trans hn)
  have HO3 := Lib.hid ((HO.out.kept hn nof).hi hn.size)
  generalize outC c = o at HO3
  obtain ⟨A0, c0, e0, -⟩ := id h0
  obtain ⟨A1, c1, e1, -⟩ := id h1
  obtain ⟨A2, c2, e2, -⟩ := id h2
  obtain ⟨A3, c3, e3, -⟩ := id h3
  subst e0 e1 e2 e3
  have H0 := Lib.hid h0
  have H1 := Lib.hid h1
  have H2 := Lib.hid h2
  have H3 := Lib.hid h3
  clear p0 p1 p2 p3 p4 hmade hlen h0 h1 h2 h3 hn HO
  go_wp2
  go_loopw [13] (fun s13 wr => ∃ k : Nat, s13 = .int .i64 k ∧ k ≤ 4 ∧ AllOps wr w3.heap.size ∧ IsOut wr wr.heap.size vo2 o ∧ Nw w wr) (fun s13 _ => 4 - (intOf s13).toNat)
  case atStart =>
    have C : Nw w3 (w3.alloc (.cells #[.slice A0 l0.length c0, .slice A1 l1.length c1, .slice A2 l2.length c2, .slice A3 l3.length c3] 33)) := (Ch.refl (fun _ => False) w3).alloc _
    have B : (w3.alloc (.cells #[.slice A0 l0.length c0, .slice A1 l1.length c1, .slice A2 l2.length c2, .slice A3 l3.length c3] 33)).heap[w3.heap.size]? = some (.cells #[.slice A0 l0.length c0, .slice A1 l1.length c1, .slice A2 l2.length c2, .slice A3 l3.length c3] 33 (0, 0)) := heap_alloc_eq _ rfl
    have sz := C.size
    refine ⟨0, rfl, by omega, ?_, (HO3.out.kept C nof).hi sz, N3.out.trans C⟩
    intro j hj
    match j, hj with
    | 0, _ => exact ⟨_, l0, by rw [cell_of B]; rfl, (H0.out.kept C nof).hi sz⟩
    | 1, _ => exact ⟨_, l1, by rw [cell_of B]; rfl, (H1.out.kept C nof).hi sz⟩
    | 2, _ => exact ⟨_, l2, by rw [cell_of B]; rfl, (H2.out.kept C nof).hi sz⟩
    | 3, _ => exact ⟨_, l3, by rw [cell_of B]; rfl, (H3.out.kept C nof).hi sz⟩
  case round =>
    obtain ⟨k, rfl, hk, hall, hout, hnw⟩ := hrel
    have HALL := Lib.hid hall
    have HOR := Lib.hid hout
    have HNW := Lib.hid hnw
    clear hall hout hnw
    have k0 : (0 : Int) ≤ (k : Int) := by omega
    by_cases hlt : k < 4
    · have k1 : (k : Int) < 4 := by omega
      obtain ⟨vk, l, hcell, hops⟩ := HALL.out k hlt
      obtain ⟨Ak, ck, ek, hl63, hel⟩ := id hops
      subst ek
      have HOPS := Lib.hid hops
      have HEL := Lib.hid hel
      clear hops hel
      obtain ⟨wo, rfl⟩ : ∃ wo : World, wo = wr := ⟨_, rfl⟩
      go_wp2
      go_loopw [14, 15] (fun s14 s15 wr => ∃ (i : Nat) (sz : Bool), s15 = .int .i64 i ∧ s14 = .bool sz ∧ sz = (l.take i).any (fun q => q.1 == 9) ∧ i ≤ l.length ∧ wr = wo) (fun _ s15 _ => l.length - (intOf s15).toNat)
      case atStart => exact ⟨0, false, rfl, rfl, by simp, Nat.zero_le _, rfl⟩
      case round =>
        obtain ⟨i, sz, rfl, rfl, hsz, hi, rfl⟩ := hrel
        have HSZ := Lib.hid hsz
        clear hsz
        have i0 : (0 : Int) ≤ (i : Int) := by omega
        by_cases hil : i < l.length
        · obtain ⟨⟨cc, nn, mm⟩, hq⟩ : ∃ q, l[i]? = some q := ⟨_, List.getElem?_eq_getElem hil⟩
          obtain ⟨pk, po, -, rfl, b0, b1, b2⟩ := HEL.out i cc nn mm hq
          have HQ := Lib.hid hq
          have i1 : (i : Int) < (l.length : Int) := by omega
          clear hq
          cases sz with
          | true =>
            go_wp2
            refine ⟨⟨i + 1, true, rfl, rfl, ?_, by omega, trivial⟩, ?_⟩
            · rw [any_op HQ.out, ← HSZ.out]; rfl
            · simp [intOf]; omega
          | false =>
            go_wp2
            refine ⟨⟨i + 1, _, rfl, rfl, ?_, by omega, trivial⟩, ?_⟩
            · rw [any_op HQ.out, ← HSZ.out]; rfl
            · simp [intOf]; omega
        · have i1 : ¬ (i : Int) < (l.length : Int) := by omega
          obtain rfl : i = l.length := by omega
          cases sz with
          | true =>
            go_wp2
            refine ⟨⟨k + 1, rfl, by omega, HALL.out, HOR.out, HNW.out⟩, ?_⟩
            simp [intOf]; omega
          | false =>
            have hno : l.any (fun q => q.1 == 9) = false := by have := HSZ.out; rw [List.take_length] at this; exact this.symm
            have EQ := Lib.hid (runM_size l hno one two o)
            clear hno
            cases he0 : runM l one o with
            | error x =>
              have E1 := Lib.hid he0
              have E2 := Lib.hid (EQ.out.symm.trans he0)
              clear he0
              have hx0 : (x != x) = false := by simp
              go_wp2_with (go_at_call 9; fail)
              refine Run_any wr.heap.size _ _ l o one _ _ HOPS.out HOR.out (Nat.le_refl _) ?_ (by intro w' v' o' st he; rw [E1.out] at he; cases he)
              intro w5 x' he hn
              rw [E1.out] at he
              cases he
              have HOP5 := Lib.hid ((HOPS.out.kept hn nof).hi hn.size)
              have HOR5 := Lib.hid ((HOR.out.kept hn nof).hi hn.size)
              have HA5 := Lib.hid (HALL.out.kept hn)
              have NW5 := Lib.hid (HNW.out.trans hn)
              have hcell := hn.cell hcell id
              clear hn
              go_wp2_with (go_at_call 9; fail)
              refine Run_any w5.heap.size _ _ l o two _ _ HOP5.out HOR5.out (Nat.le_refl _) ?_ (by intro w' v' o' st he; rw [E2.out] at he; cases he)
              intro w6 x' he hn
              rw [E2.out] at he
              cases he
              have HOR6 := Lib.hid ((HOR5.out.kept hn nof).hi hn.size)
              have HA6 := Lib.hid (HA5.out.kept hn)
              have NW6 := Lib.hid (NW5.out.trans hn)
              clear hn
              go_wp2_with (go_at_call 9; fail)
              refine Same_true w6.heap.size _ _ [] _ _ (isOut_nil _ _) (isOut_nil _ _) ?_
              intro d
              go_wp2
              refine ⟨⟨k + 1, rfl, by omega, HA6.out.kept ((Ch.refl _ _).drewN _), HOR6.out.kept ((Ch.refl (fun _ => False) _).drewN _) nof, NW6.out.drewN _⟩, ?_⟩
              simp [intOf]; omega
            | ok r =>
              obtain ⟨a, n⟩ := r
              have E1 := Lib.hid he0
              have E2 := Lib.hid (EQ.out.symm.trans he0)
              clear he0
              have hx0 : (n != n) = false := by simp
              go_wp2_with (go_at_call 9; fail)
              refine Run_any wr.heap.size _ _ l o one _ _ HOPS.out HOR.out (Nat.le_refl _) (by intro w' x he; rw [E1.out] at he; cases he) ?_
              intro w5 va oa sa he hout hn
              rw [E1.out] at he
              injection he with he
              injection he with he1 he2
              subst he1 he2
              have HA := Lib.hid hout
              have HOP5 := Lib.hid ((HOPS.out.kept hn nof).hi hn.size)
              have HOR5 := Lib.hid ((HOR.out.kept hn nof).hi hn.size)
              have HA5 := Lib.hid (HALL.out.kept hn)
              have NW5 := Lib.hid (HNW.out.trans hn)
              have hcell := hn.cell hcell id
              clear hn hout
              go_wp2_with (go_at_call 9; fail)
              refine Run_any w5.heap.size _ _ l o two _ _ HOP5.out HOR5.out (Nat.le_refl _) (by intro w' x he; rw [E2.out] at he; cases he) ?_
              intro w6 vb ob sb he hout hn
              rw [E2.out] at he
              injection he with he
              injection he with he1 he2
              subst he1 he2
              have HB := Lib.hid hout
              have HAA := Lib.hid ((HA.out.kept hn nof).hi hn.size)
              have HOR6 := Lib.hid ((HOR5.out.kept hn nof).hi hn.size)
              have HA6 := Lib.hid (HA5.out.kept hn)
              have NW6 := Lib.hid (NW5.out.trans hn)
              clear hn hout
              go_wp2_with (go_at_call 9; fail)
              refine Same_true w6.heap.size _ _ a _ _ HAA.out HB.out ?_
              intro d
              go_wp2
              refine ⟨⟨k + 1, rfl, by omega, HA6.out.kept ((Ch.refl _ _).drewN _), HOR6.out.kept ((Ch.refl (fun _ => False) _).drewN _) nof, NW6.out.drewN _⟩, ?_⟩
              simp [intOf]; omega
    · have k1 : ¬ (k : Int) < 4 := by omega
      go_wp2
      exact HR.out _ HNW.out
end Go.Proofs.Ytlgcijafjcfnhaa
