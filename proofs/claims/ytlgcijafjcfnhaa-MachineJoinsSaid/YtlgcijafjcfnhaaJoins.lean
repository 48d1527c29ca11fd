/-
  indeliblelaw09.MachineJoins: two made programs, one after the other, have the effect of both.
-/
import Derived.Test.YtlgcijafjcfnhaaCase
import Derived.Test.YtlgcijafjcfnhaaOpen
namespace Go.Proofs.Ytlgcijafjcfnhaa
open Go.RowKit
set_option linter.unusedVariables false
set_option linter.unusedSimpArgs false


set_option maxRecDepth 100000 in
set_option maxHeartbeats 4000000 in
theorem Joins_any (lo : Nat) (v : Value) (c : CaseD) (vm : Value) (l : List Int) (size : Int) (w : World) (R : Ending → World → Prop) (hlo : lo ≤ w.heap.size) (hc : IsCase w lo v c) (hl : IsInts w lo vm l) (hz : -9223372036854775808 ≤ size ∧ size ≤ 9223372036854775807)
    (hR : ∀ w', Nw w w' → R (.returned (.bool true)) w') : Calls Try.prog 4 #[v, vm, .int .i64 size] w R := by
  have HR := Lib.hid hR
  have HC := Lib.hid hc
  have HL := Lib.hid hl
  clear hR hl hz
  obtain ⟨vo, vp, rfl, -⟩ := hc
  go_enter Try.func4, Try.ntmps4
  go_wp2_with (go_at_call 9; fail)
  refine sanity_any _ _ ?_
  intro w1 hn
  obtain ⟨p0, p1, p2, p3, p4⟩ := case_alloc (lo := lo) hn
  have N1 := Lib.hid (show Nw w w1 from ((Ch.refl (fun _ => False) w).alloc _).trans hn)
  clear hn
  go_wp2_with (go_at_call 9; fail)
  refine made_any lo _ c _ _ (by have := N1.out.size; omega) (HC.out.kept N1.out nof) ?_
  intro w2 vo2 vp2 p m hm hmade hout hown hn
  generalize outC c = o at hmade hout
  obtain ⟨np, hnp⟩ : ∃ np : Nat, np = o.flatten.length := ⟨_, rfl⟩
  rw [← hnp] at hmade
  have HNP := Lib.hid hnp
  have hnb : np ≤ 1000000 := by
    rw [hnp]
    obtain ⟨_, _, _, h1, h2⟩ := hout
    have := flat_le (o := o) (fun d hd => by obtain ⟨j, hj⟩ := List.mem_iff_getElem?.1 hd; exact (h2 j d hj).1)
    omega
  have HM := Lib.hid hmade
  have HO := Lib.hid hout
  have HW := Lib.hid hown
  have N2 := Lib.hid (N1.out.trans hn)
  clear p0 p1 p2 p3 p4 hnp hmade hout hown hn
  go_wp2_with (go_at_call 9; fail)
  refine Count_any w2.heap.size _ o _ _ HO.out ?_
  rw [← HNP.out]
  go_wp2_with (go_at_call 9; fail)
  refine Made9_any lo _ l np _ _ (by have := N2.out.size; omega) (HL.out.kept N2.out nof) hnb ?_
  intro w3 q vq m' hm' hmade hown hn
  have HM' := Lib.hid hmade
  have HW' := Lib.hid hown
  have HW3 := Lib.hid (HW.out.ch hn nof')
  have HO3 := Lib.hid ((HO.out.kept hn nof).hi hn.size)
  have N3 := Lib.hid (N2.out.trans hn)
  obtain ⟨a, n, b, k, e1, e2, e3, hnr, hkr⟩ := joins_plain size HNP.out HM.out HM'.out hm hm'
  obtain ⟨n1, n2⟩ := hnr
  obtain ⟨k1, k2⟩ := hkr
  have E1 := Lib.hid e1
  have E2 := Lib.hid e2
  have E3 := Lib.hid e3
  have PL := HM.out.len
  have QL := HM'.out.len
  clear hmade hown hn e1 e2 e3
  go_wp2_with (go_at_call 9; fail)
  refine Run_any w3.heap.size _ _ p o size _ _ (HW3.out.isOps (by omega)) HO3.out (Nat.le_refl _) (by intro w' x he; rw [E1.out] at he; cases he) ?_
  intro w4 va oa sa he hout hn
  rw [E1.out] at he
  injection he with he
  injection he with he1 he2
  subst he1 he2
  have HA := Lib.hid hout
  have HW4 := Lib.hid (HW3.out.ch hn nof')
  have HQ4 := Lib.hid (HW'.out.ch hn nof')
  have HO4 := Lib.hid ((HO3.out.kept hn nof).hi hn.size)
  have N4 := Lib.hid (N3.out.trans hn)
  clear hout hn
  go_wp2_with (go_at_call 9; fail)
  refine Run_any w4.heap.size _ _ q a size _ _ (HQ4.out.isOps (by omega)) HA.out (Nat.le_refl _) (by intro w' x he; rw [E2.out] at he; cases he) ?_
  intro w5 vb ob sb he hout hn
  rw [E2.out] at he
  injection he with he
  injection he with he1 he2
  subst he1 he2
  have HB := Lib.hid hout
  have HW5 := Lib.hid (HW4.out.ch hn nof')
  have HQ5 := Lib.hid (HQ4.out.ch hn nof')
  have HO5 := Lib.hid ((HO4.out.kept hn nof).hi hn.size)
  have N5 := Lib.hid (N4.out.trans hn)
  clear hout hn
  go_wp2_with (first | (at_builtin; refine wpList_append_any _ rfl (.tmp 47) (.tmp 48) (by rfl) w5.heap.size w5.heap.size 0 vp2 [] p (by rfl) (by rfl) ?h1 (lo := w5.heap.size) ?h2 ?h3 ?h4 ?h5 ?_))
  case h1 => exact own_lit [] (Nat.le_refl _) (by simp)
  case h2 => exact (HW5.out.isOps (by omega)).kept ((Ch.refl (fun _ => False) w5).alloc _) nof
  case h3 => exact HW5.out.nil_of
  case h4 => simp; omega
  case h5 => simp only [alloc_size]; omega
  intro g1 cap1 w6 ho6 hg6 hor6
  have ch6 : Nw w5 w6 := ((Ch.refl (fun _ => False) w5).alloc _).grown hg6 (fun j hj hl => by injection hj with hj; omega)
  have hq6 := HQ5.out.ch ch6 nof'
  have H6 := Lib.hid ho6
  have HQ6 := Lib.hid hq6
  have C6 := Lib.hid ch6
  clear ho6 hg6 hor6 ch6 hq6
  go_wp2_with (first | (at_builtin; refine wpList_append_any _ rfl (.tmp 49) (.tmp 50) (by rfl) w5.heap.size g1 cap1 vq p q (by rfl) (by rfl) ?h1 (lo := w6.heap.size) ?h2 ?h3 ?h4 ?h5 ?_))
  case h1 => exact H6.out
  case h2 => exact HQ6.out.isOps (by omega)
  case h3 => exact HQ6.out.nil_of
  case h4 => omega
  case h5 => exact C6.out.size
  intro g2 cap2 w7 ho7 hg7 hor7
  have ch7 : Nw w5 w7 := C6.out.trans' ((Ch.refl (fun j => j = g1) w6).grown hg7 (fun j hj hl => by injection hj with hj; exact hj.symm)) (fun n hn e => by have := (H6.out.lt g1 rfl).1; omega)
  have H7 := Lib.hid ho7
  have C7 := Lib.hid ch7
  clear ho7 hg7 hor7 ch7
  have HO7 := Lib.hid ((HO5.out.kept C7.out nof).hi C7.out.size)
  have HB7 := Lib.hid ((HB.out.kept C7.out nof).hi C7.out.size)
  go_wp2_with (go_at_call 9; fail)
  refine Run_any w7.heap.size _ _ (p ++ q) o size _ _ (H7.out.isOps (by rw [List.length_append]; omega)) HO7.out (Nat.le_refl _) (by intro w' x he; rw [E3.out] at he; cases he) ?_
  intro w8 vc oc sc he hout hn
  rw [E3.out] at he
  injection he with he
  injection he with he1 he2
  subst he1 he2
  have HC8 := Lib.hid hout
  have HB8 := Lib.hid ((HB7.out.kept hn nof).hi hn.size)
  have N8 := Lib.hid ((N5.out.trans C7.out).trans hn)
  clear hout hn
  go_wp2_with (go_at_call 9; fail)
  refine Same_true w8.heap.size _ _ b _ _ HC8.out HB8.out ?_
  intro d
  go_wp2
  exact HR.out _ (N8.out.drewN _)
end Go.Proofs.Ytlgcijafjcfnhaa
