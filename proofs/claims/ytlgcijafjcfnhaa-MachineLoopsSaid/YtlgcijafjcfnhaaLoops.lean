/-
  indeliblelaw09.MachineLoops: a loop has the effect of its block, written as often, and takes one step more.
-/
import Derived.Test.YtlgcijafjcfnhaaJoins
namespace Go.Proofs.Ytlgcijafjcfnhaa
open Go.RowKit
set_option linter.unusedVariables false
set_option linter.unusedSimpArgs false

set_option maxRecDepth 100000 in
set_option maxHeartbeats 4000000 in
theorem Loops_any (lo : Nat) (v : Value) (c : CaseD) (rr size : Int) (w : World) (R : Ending → World → Prop) (hlo : lo ≤ w.heap.size) (hc : IsCase w lo v c) (hr : 0 ≤ rr ∧ rr ≤ 255) (hz : -9223372036854775808 ≤ size ∧ size ≤ 9223372036854775807)
    (hR : ∀ w', Nw w w' → R (.returned (.bool true)) w') : Calls Try.prog 5 #[v, .int .u8 rr, .int .i64 size] w R := by
  have HR := Lib.hid hR
  have HC := Lib.hid hc
  clear hR hz
  obtain ⟨vo, vp, rfl, -⟩ := hc
  obtain ⟨hr1, hr2⟩ := hr
  go_enter Try.func5, Try.ntmps5
  go_wp2_with (go_at_call 9; fail)
  refine sanity_any _ _ ?_
  intro w1 hn
  obtain ⟨p0, p1, p2, p3, p4⟩ := case_alloc (lo := lo) hn
  have N1 := Lib.hid (show Nw w w1 from ((Ch.refl (fun _ => False) w).alloc _).trans hn)
  clear hn
  go_wp2_with (go_at_call 9; fail)
  refine made_any lo _ c _ _ (by have := N1.out.size; omega) (HC.out.kept N1.out nof) ?_
  intro w2 vo2 vp2 p m hm hmade hout hown hn
  generalize outC c = o at hmade hout
  obtain ⟨np, hnp⟩ : ∃ np : Nat, np = o.flatten.length := ⟨_, rfl⟩
  rw [← hnp] at hmade
  have HNP := Lib.hid hnp
  have HM := Lib.hid hmade
  have HO := Lib.hid (hout)
  have HW := Lib.hid hown
  have N2 := Lib.hid (N1.out.trans hn)
  clear p0 p1 p2 p3 p4 hnp hmade hout hown hn
  have PL := HM.out.len
  rcases Nat.eq_zero_or_pos p.length with hz | hz
  · have hp0 := List.eq_nil_of_length_eq_zero hz
    subst hp0
    obtain ⟨A0, c0, hv⟩ : ∃ A c, vp2 = .slice A 0 c := by
      rcases HW.out.2 with ⟨h1, -⟩ | ⟨g, cap, cur, h1, -⟩
      · exact ⟨_, _, h1⟩
      · exact ⟨_, _, h1⟩
    subst hv
    go_wp2
    exact HR.out _ N2.out
  · obtain ⟨g, cap, rfl, -⟩ := HW.out.form hz
    have hz1 : ((p.length : Int) == 0) = false := beq_eq_false_iff_ne.2 (by omega)
    have hq1 : 0 ≤ rr % 4 := by omega
    have hq2 : rr % 4 ≤ 3 := by omega
    obtain ⟨n, hn⟩ : ∃ n : Nat, (n : Int) = 1 + rr % 4 := ⟨(1 + rr % 4).toNat, by omega⟩
    obtain ⟨b, y, e1, e2, y1, y2⟩ := loops_plain size HNP.out HM.out hm hz n (by omega)
    have e3 : runM ([(15, 1 + rr % 4, (p.length : Int))] ++ p) size o = .ok (b, y + 1) := by rw [← hn, Int.add_comm]; exact e1
    have E1 := Lib.hid e3
    have E2 := Lib.hid e2
    have HN := Lib.hid hn
    clear e3
    clear e1 e2 hn
    go_wp2_with (first | (at_builtin; refine wpList_append_ops _ rfl (.tmp 38) (.tmp 39) (by rfl) w2.heap.size (.slice (some ⟨w2.heap.size, 0, none⟩) 1 1) (.slice (some ⟨g, 0, none⟩) p.length cap) [(15, 1 + rr % 4, (p.length : Int))] p (by rfl) (by rfl) ?h1 (lo := w2.heap.size) ?h2 ?h3 ?h4 ?h5 ?_))
    case h1 => exact own_lit [(15, 1 + rr % 4, (p.length : Int))] (Nat.le_refl _) (by simp)
    case h2 => exact (HW.out.isOps (by omega)).kept ((Ch.refl (fun _ => False) w2).alloc _) nof
    case h3 => exact hz
    case h4 => simp; omega
    case h5 => simp only [alloc_size]; omega
    intro g3 cap3 w3 ho3 hg3 hor3
    have ch3 : Nw w2 w3 := ((Ch.refl (fun _ => False) w2).alloc _).grown hg3 (fun j hj hl => by injection hj with hj; simp only at hj; omega)
    have hw3 := HW.out.ch ch3 nof'
    have H3 := Lib.hid ho3
    have HW3 := Lib.hid hw3
    have N3 := Lib.hid (N2.out.trans ch3)
    have HO3 := Lib.hid ((HO.out.kept ch3 nof).hi ch3.size)
    clear ho3 hg3 hor3 ch3 hw3
    go_wp2
    go_loopw [12, 13] (fun s12 s13 wr => ∃ (k : Nat) (vl : Value), s13 = .int .i64 k ∧ vl = s12 ∧ k ≤ n ∧ OwnOps wr w3.heap.size vl (rep p k) ∧ Nw w3 wr) (fun _ s13 _ => n - (intOf s13).toNat)
    case atStart => exact ⟨0, _, rfl, rfl, Nat.zero_le _, ⟨rfl, .inl ⟨rfl, rfl⟩⟩, Ch.refl _ _⟩
    case round =>
      obtain ⟨k, vl, rfl, rfl, hk, hown, hnw⟩ := hrel
      have HV := Lib.hid hown
      have HNW := Lib.hid hnw
      clear hown hnw
      have k0 : (0 : Int) ≤ (k : Int) := by omega
      have hnn := HN.out
      have RL := rep_length p k
      have hkp : k * p.length ≤ 4 * 33 := Nat.mul_le_mul (by omega) (by omega)
      by_cases hlt : k < n
      · have k1 : (k : Int) < 1 + rr % 4 := by omega
        clear hnn
        go_wp2_with (first | (at_builtin; refine wpList_append_ops _ rfl (.tmp 46) (.tmp 47) (by rfl) w3.heap.size vl (.slice (some ⟨g, 0, none⟩) p.length cap) (rep p k) p (by rfl) (by rfl) ?h1 (lo := wr.heap.size) ?h2 ?h3 ?h4 ?h5 ?_))
        case h1 => exact HV.out
        case h2 => exact (HW3.out.ch HNW.out nof').isOps (by omega)
        case h3 => exact hz
        case h4 => omega
        case h5 => exact HNW.out.size
        intro g4 cap4 w4 ho4 hg4 hor4
        have ch4 : Nw w3 w4 := HNW.out.trans' ((Ch.refl (fun j => vl.ownBlock = some j) wr).grown hg4 (fun j hj _ => hj)) (fun n hn e => by have := (HV.out.lt n e).1; omega)
        have H4 := Lib.hid ho4
        have C4 := Lib.hid ch4
        clear ho4 hg4 hor4 ch4
        go_wp2
        refine ⟨⟨k + 1, _, rfl, rfl, by omega, H4.out, C4.out⟩, ?_⟩
        simp [intOf]; omega
      · have k1 : ¬ (k : Int) < 1 + rr % 4 := by omega
        obtain rfl : k = n := by omega
        clear hnn
        have HO4 := Lib.hid ((HO3.out.kept HNW.out nof).hi HNW.out.size)
        have H4 := Lib.hid (H3.out.ch HNW.out nof')
        go_wp2_with (go_at_call 9; fail)
        refine Run_any wr.heap.size _ _ ([(15, 1 + rr % 4, (p.length : Int))] ++ p) o size _ _ (H4.out.isOps (by simp; omega)) HO4.out (Nat.le_refl _) (by intro w' x he; rw [E1.out] at he; cases he) ?_
        intro w5 va oa sa he hout hn
        rw [E1.out] at he
        injection he with he
        injection he with he1 he2
        subst he1 he2
        have HA := Lib.hid hout
        have HV5 := Lib.hid (HV.out.ch hn nof')
        have HO5 := Lib.hid ((HO4.out.kept hn nof).hi hn.size)
        have N5 := Lib.hid ((N3.out.trans HNW.out).trans hn)
        clear hout hn
        go_wp2_with (go_at_call 9; fail)
        refine Run_any w5.heap.size _ _ (rep p k) o size _ _ (HV5.out.isOps (by omega)) HO5.out (Nat.le_refl _) (by intro w' x he; rw [E2.out] at he; cases he) ?_
        intro w6 vb ob sb he hout hn
        rw [E2.out] at he
        injection he with he
        injection he with he1 he2
        subst he1 he2
        have HB := Lib.hid hout
        have HA6 := Lib.hid ((HA.out.kept hn nof).hi hn.size)
        have N6 := Lib.hid (N5.out.trans hn)
        clear hout hn
        go_wp2_with (go_at_call 9; fail)
        refine Same_true w6.heap.size _ _ b _ _ HA6.out HB.out ?_
        intro d
        go_wp2
        exact HR.out _ (N6.out.drewN _)
end Go.Proofs.Ytlgcijafjcfnhaa
