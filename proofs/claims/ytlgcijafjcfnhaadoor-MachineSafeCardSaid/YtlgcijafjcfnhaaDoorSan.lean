/-
  indeliblelaw09.sanity: the chapter's examples hold.
-/
import Derived.Test.YtlgcijafjcfnhaaDoorEx
import Derived.Test.YtlgcijafjcfnhaaDoorRunAll
import Derived.Test.YtlgcijafjcfnhaaDoorSame
namespace Go.Proofs.YtlgcijafjcfnhaaDoor
open Go.RowKit
set_option linter.unusedVariables false
set_option linter.unusedSimpArgs false

def pRound : List Op3 := [(10, 1, 0), (8, 0, 0), (12, 1, 0)]
def pChoose : List Op3 := [(9, 0, 0), (1, 10, 0), (3, 0, 0), (14, 2, 0), (1, 7, 0), (13, 0, 0)]
def pLoop : List Op3 := [(15, 3, 4), (10, 2, 0), (1, 2, 0), (3, 0, 0), (12, 2, 0)]
def pOne : List Op3 := [(2, 0, 0)]
def pTwo : List Op3 := [(10, 3, 0)]
def pThree : List Op3 := [(1, 1, 1)]
def pFour : List Op3 := [(14, 2, 0), (1, 1, 0)]
theorem e_round : runM pRound 12 [ex] = .ok ([ex.set 1 (128, 50, true)], 3) := by kernel_rfl
theorem e_choose : runM pChoose 12 [ex] = .ok ([ex.set 0 (10, 7, true)], 6) := by kernel_rfl
theorem e_choose' : runM pChoose 10 [ex] = .ok ([ex], 4) := by kernel_rfl
theorem e_loop : runM pLoop 0 [ex] = .ok ([ex.set 2 (-37, 7, true)], 13) := by kernel_rfl
theorem e_one : (runM pOne 0 [ex]) = .error 20 := by kernel_rfl
theorem e_two : (runM pTwo 0 [ex]) = .error 22 := by kernel_rfl
theorem e_three : (runM pThree 0 [ex]) = .error 5 := by kernel_rfl
theorem e_four : (runM pFour 0 [ex]) = .error 5 := by kernel_rfl

def opCells : List Op3 → List Value
  | [] => []
  | q :: l => .int .i64 q.1 :: .int .i64 q.2.1 :: .int .i64 q.2.2 :: opCells l
theorem opCells_get {l : List Op3} {i : Nat} {q : Op3} (h : l[i]? = some q) :
    (opCells l)[i * 3]? = some (.int .i64 q.1) ∧ (opCells l)[i * 3 + 1]? = some (.int .i64 q.2.1) ∧ (opCells l)[i * 3 + 2]? = some (.int .i64 q.2.2) := by
  induction l generalizing i with
  | nil => cases h
  | cons p l ih =>
    cases i with
    | zero => simp at h; subst h; exact ⟨rfl, rfl, rfl⟩
    | succ i =>
      have := ih (i := i) (by simpa using h)
      rw [show (i + 1) * 3 = i * 3 + 1 + 1 + 1 from by omega]
      simpa [opCells] using this
theorem isOps_lit {w : World} {lo b cap : Nat} {T : TypeId} {fz : Nat × Nat} (l : List Op3) (hb : w.heap[b]? = some (.cells (opCells l).toArray T fz)) (hlo : b < lo) (h63 : l.length ≤ 4611686018427387904) :
    IsOps w lo (.slice (some ⟨b, 0, none⟩) l.length cap) l := by
  refine ⟨_, _, rfl, h63, fun i c n m hi => ⟨b, 0, hlo, rfl, ?_⟩⟩
  have := opCells_get hi
  rw [cell_of hb, cell_of hb, cell_of hb, Nat.zero_add]
  simpa using this

theorem IsOps.hi {w : World} {lo lo' : Nat} {p : Value} {l : List Op3} (h : IsOps w lo p l) (hl : lo ≤ lo') : IsOps w lo' p l := by
  obtain ⟨A, cap, e, hl', h⟩ := h
  refine ⟨A, cap, e, hl', fun i c n m hi => ?_⟩
  obtain ⟨pk, po, h1, h2⟩ := h i c n m hi
  exact ⟨pk, po, by omega, h2⟩
theorem Same_true (lo : Nat) (va vb : Value) (a : List (List Pt)) (w : World) (R : Ending → World → Prop) (ha : IsOut w lo va a) (hb : IsOut w lo vb a)
    (hR : ∀ d, R (.returned (.bool true)) (w.drewN d)) : Calls Tryd.prog 12 #[va, vb] w R :=
  Same_any lo va vb a a w R ha hb fun d => by rw [decide_eq_true rfl]; exact hR d
theorem Calls_named {P : Program} {f : FuncId} {args : Array Value} {w : World} {R : Ending → World → Prop} (h : ∀ W, W = w → Calls P f args W R) : Calls P f args w R := h _ rfl
theorem nof {L : Nat} : ∀ k : Nat, k < L → ¬ (fun _ : Nat => False) k := fun _ _ h => h

set_option maxRecDepth 100000 in
set_option maxHeartbeats 1000000 in
theorem sanity_any (w : World) (R : Ending → World → Prop) (hR : ∀ w', Nw w w' → R (.returned (.bool true)) w') : Calls Tryd.prog 4 #[] w R := by
  have HR := Lib.hid hR
  clear hR
  go_enter Tryd.func4, Tryd.ntmps4
  go_wp2_with (go_at_call 11; refine example_any _ _ ?_; intro w1 v1 h1 n1; have H1 := Lib.hid h1; have N1 := Lib.hid n1; clear h1 n1)
  refine Calls_named ?_
  intro W1 hW
  have P1 := Lib.hid (show IsOps W1 W1.heap.size (.slice (some ⟨w1.heap.size, 0, none⟩) 3 3) pRound from by rw [hW]; exact isOps_lit pRound (by repeat (first | exact heap_alloc_eq _ (by simp only [alloc_size]) | refine heap_alloc_old' _ ?_)) (by simp only [alloc_size]; omega) (by decide))
  have P2 := Lib.hid (show IsOps W1 W1.heap.size (.slice (some ⟨w1.heap.size + 1, 0, none⟩) 6 6) pChoose from by rw [hW]; exact isOps_lit pChoose (by repeat (first | exact heap_alloc_eq _ (by simp only [alloc_size]) | refine heap_alloc_old' _ ?_)) (by simp only [alloc_size]; omega) (by decide))
  have P3 := Lib.hid (show IsOps W1 W1.heap.size (.slice (some ⟨w1.heap.size + 1 + 1, 0, none⟩) 5 5) pLoop from by rw [hW]; exact isOps_lit pLoop (by repeat (first | exact heap_alloc_eq _ (by simp only [alloc_size]) | refine heap_alloc_old' _ ?_)) (by simp only [alloc_size]; omega) (by decide))
  have C1 := Lib.hid (show Nw w1 W1 from by rw [hW]; exact (((Ch.refl _ _).alloc _).alloc _).alloc _)
  have H0 := Lib.hid (show IsOut W1 W1.heap.size v1 [ex] from (H1.out.kept C1.out nof).hi C1.out.size)
  clear hW
  refine Run_any W1.heap.size _ _ pRound [ex] 12 _ _ P1.out H0.out (Nat.le_refl _) (by intro w' x he; rw [e_round] at he; cases he) ?_
  intro w2 va oa sa he hout hn
  rw [e_round] at he
  cases he
  have HA := Lib.hid hout
  have N2 := Lib.hid hn
  clear hout hn
  go_wp2_with (go_at_call 11; fail)
  refine Run_any W1.heap.size _ _ pChoose [ex] 12 _ _ (P2.out.kept N2.out nof) (H0.out.kept N2.out nof) N2.out.size (by intro w' x he; rw [e_choose] at he; cases he) ?_
  intro w3 vb ob sb he hout hn
  rw [e_choose] at he
  cases he
  have HB := Lib.hid hout
  have N3' := Lib.hid hn
  have N3 := Lib.hid (N2.out.trans hn)
  clear hout hn
  go_wp2_with (go_at_call 11; fail)
  refine Run_any W1.heap.size _ _ pChoose [ex] 10 _ _ (P2.out.kept N3.out nof) (H0.out.kept N3.out nof) N3.out.size (by intro w' x he; rw [e_choose'] at he; cases he) ?_
  intro w4 vc oc sc he hout hn
  rw [e_choose'] at he
  cases he
  have HC := Lib.hid hout
  have N4' := Lib.hid hn
  have N4 := Lib.hid (N3.out.trans hn)
  clear hout hn
  go_wp2_with (go_at_call 11; fail)
  refine Run_any W1.heap.size _ _ pLoop [ex] 0 _ _ (P3.out.kept N4.out nof) (H0.out.kept N4.out nof) N4.out.size (by intro w' x he; rw [e_loop] at he; cases he) ?_
  intro w5 vd od sd he hout hn
  rw [e_loop] at he
  cases he
  have HD := Lib.hid hout
  have N5' := Lib.hid hn
  have N5 := Lib.hid (N4.out.trans hn)
  clear hout hn
  go_wp2_with (go_at_call 11; fail)
  have MA5 := Lib.hid (show Nw w2 w5 from N3'.out.trans (N4'.out.trans N5'.out))
  have MB5 := Lib.hid (show Nw w3 w5 from N4'.out.trans N5'.out)
  have MC5 := Lib.hid (show Nw w4 w5 from N5'.out)
  have MD5 := Lib.hid (show Nw w5 w5 from Ch.refl _ _)
  refine Calls_named ?_
  intro X6 hX
  have PX := Lib.hid (show IsOps X6 X6.heap.size (.slice (some ⟨w5.heap.size, 0, none⟩) 1 1) pOne from by rw [hX]; exact isOps_lit pOne (by repeat (first | exact heap_alloc_eq _ (by simp only [alloc_size]) | refine heap_alloc_old' _ ?_)) (by simp only [alloc_size]; omega) (by decide))
  have NX := Lib.hid (show Nw w5 X6 from by rw [hX]; exact (Ch.refl _ _).alloc _)
  have NY := Lib.hid (N5.out.trans NX.out)
  clear hX
  refine Run_any X6.heap.size _ _ pOne [ex] 0 _ _ PX.out ((H0.out.kept NY.out nof).hi NY.out.size) (Nat.le_refl _) ?_ (by intro w' v' o' st he; rw [e_one] at he; cases he)
  intro w6 x he hn
  rw [e_one] at he
  cases he
  have N6 := Lib.hid (NY.out.trans hn)
  have MA6 := Lib.hid (MA5.out.trans (NX.out.trans hn))
  have MB6 := Lib.hid (MB5.out.trans (NX.out.trans hn))
  have MC6 := Lib.hid (MC5.out.trans (NX.out.trans hn))
  have MD6 := Lib.hid (MD5.out.trans (NX.out.trans hn))
  clear PX NX NY hn
  go_wp2_with (go_at_call 11; fail)
  refine Calls_named ?_
  intro X7 hX
  have PX := Lib.hid (show IsOps X7 X7.heap.size (.slice (some ⟨w6.heap.size, 0, none⟩) 1 1) pTwo from by rw [hX]; exact isOps_lit pTwo (by repeat (first | exact heap_alloc_eq _ (by simp only [alloc_size]) | refine heap_alloc_old' _ ?_)) (by simp only [alloc_size]; omega) (by decide))
  have NX := Lib.hid (show Nw w6 X7 from by rw [hX]; exact (Ch.refl _ _).alloc _)
  have NY := Lib.hid (N6.out.trans NX.out)
  clear hX
  refine Run_any X7.heap.size _ _ pTwo [ex] 0 _ _ PX.out ((H0.out.kept NY.out nof).hi NY.out.size) (Nat.le_refl _) ?_ (by intro w' v' o' st he; rw [e_two] at he; cases he)
  intro w7 x he hn
  rw [e_two] at he
  cases he
  have N7 := Lib.hid (NY.out.trans hn)
  have MA7 := Lib.hid (MA6.out.trans (NX.out.trans hn))
  have MB7 := Lib.hid (MB6.out.trans (NX.out.trans hn))
  have MC7 := Lib.hid (MC6.out.trans (NX.out.trans hn))
  have MD7 := Lib.hid (MD6.out.trans (NX.out.trans hn))
  clear PX NX NY hn
  go_wp2_with (go_at_call 11; fail)
  refine Calls_named ?_
  intro X8 hX
  have PX := Lib.hid (show IsOps X8 X8.heap.size (.slice (some ⟨w7.heap.size, 0, none⟩) 1 1) pThree from by rw [hX]; exact isOps_lit pThree (by repeat (first | exact heap_alloc_eq _ (by simp only [alloc_size]) | refine heap_alloc_old' _ ?_)) (by simp only [alloc_size]; omega) (by decide))
  have NX := Lib.hid (show Nw w7 X8 from by rw [hX]; exact (Ch.refl _ _).alloc _)
  have NY := Lib.hid (N7.out.trans NX.out)
  clear hX
  refine Run_any X8.heap.size _ _ pThree [ex] 0 _ _ PX.out ((H0.out.kept NY.out nof).hi NY.out.size) (Nat.le_refl _) ?_ (by intro w' v' o' st he; rw [e_three] at he; cases he)
  intro w8 x he hn
  rw [e_three] at he
  cases he
  have N8 := Lib.hid (NY.out.trans hn)
  have MA8 := Lib.hid (MA7.out.trans (NX.out.trans hn))
  have MB8 := Lib.hid (MB7.out.trans (NX.out.trans hn))
  have MC8 := Lib.hid (MC7.out.trans (NX.out.trans hn))
  have MD8 := Lib.hid (MD7.out.trans (NX.out.trans hn))
  clear PX NX NY hn
  go_wp2_with (go_at_call 11; fail)
  refine Calls_named ?_
  intro X9 hX
  have PX := Lib.hid (show IsOps X9 X9.heap.size (.slice (some ⟨w8.heap.size, 0, none⟩) 2 2) pFour from by rw [hX]; exact isOps_lit pFour (by repeat (first | exact heap_alloc_eq _ (by simp only [alloc_size]) | refine heap_alloc_old' _ ?_)) (by simp only [alloc_size]; omega) (by decide))
  have NX := Lib.hid (show Nw w8 X9 from by rw [hX]; exact (Ch.refl _ _).alloc _)
  have NY := Lib.hid (N8.out.trans NX.out)
  clear hX
  refine Run_any X9.heap.size _ _ pFour [ex] 0 _ _ PX.out ((H0.out.kept NY.out nof).hi NY.out.size) (Nat.le_refl _) ?_ (by intro w' v' o' st he; rw [e_four] at he; cases he)
  intro w9 x he hn
  rw [e_four] at he
  cases he
  have N9 := Lib.hid (NY.out.trans hn)
  have MA9 := Lib.hid (MA8.out.trans (NX.out.trans hn))
  have MB9 := Lib.hid (MB8.out.trans (NX.out.trans hn))
  have MC9 := Lib.hid (MC8.out.trans (NX.out.trans hn))
  have MD9 := Lib.hid (MD8.out.trans (NX.out.trans hn))
  clear PX NX NY hn
  go_wp2_with (go_at_call 11; fail)
  refine with_any _ ex 1 (100, 50, true) 128 50 _ _ ((H0.out.kept N9.out nof).hi N9.out.size) rfl (by unfold wfI; decide) ?_
  intro w10 vr hr hn
  have HRR := Lib.hid hr
  have N10 := Lib.hid (N9.out.trans hn)
  have MA10 := Lib.hid (MA9.out.trans hn)
  have MB10 := Lib.hid (MB9.out.trans hn)
  have MC10 := Lib.hid (MC9.out.trans hn)
  have MD10 := Lib.hid (MD9.out.trans hn)
  clear hr hn
  go_wp2_with (go_at_call 11; fail)
  refine Same_true _ _ _ _ _ _ ((HA.out.kept MA10.out nof).hi MA10.out.size) HRR.out ?_
  intro d11
  have N11 := Lib.hid (N10.out.drewN d11)
  have MA11 := Lib.hid (MA10.out.drewN d11)
  have MB11 := Lib.hid (MB10.out.drewN d11)
  have MC11 := Lib.hid (MC10.out.drewN d11)
  have MD11 := Lib.hid (MD10.out.drewN d11)
  go_wp2_with (go_at_call 11; fail)
  refine with_any _ ex 0 (10, 0, true) 10 7 _ _ ((H0.out.kept N11.out nof).hi N11.out.size) rfl (by unfold wfI; decide) ?_
  intro w12 vr hr hn
  have HRR := Lib.hid hr
  have N12 := Lib.hid (N11.out.trans hn)
  have MA12 := Lib.hid (MA11.out.trans hn)
  have MB12 := Lib.hid (MB11.out.trans hn)
  have MC12 := Lib.hid (MC11.out.trans hn)
  have MD12 := Lib.hid (MD11.out.trans hn)
  clear hr hn
  go_wp2_with (go_at_call 11; fail)
  refine Same_true _ _ _ _ _ _ ((HB.out.kept MB12.out nof).hi MB12.out.size) HRR.out ?_
  intro d13
  have N13 := Lib.hid (N12.out.drewN d13)
  have MA13 := Lib.hid (MA12.out.drewN d13)
  have MB13 := Lib.hid (MB12.out.drewN d13)
  have MC13 := Lib.hid (MC12.out.drewN d13)
  have MD13 := Lib.hid (MD12.out.drewN d13)
  go_wp2_with (go_at_call 11; fail)
  refine Same_true _ _ _ _ _ _ ((HC.out.kept MC13.out nof).hi MC13.out.size) ((H0.out.kept N13.out nof).hi N13.out.size) ?_
  intro d14
  have N14 := Lib.hid (N12.out.drewN (d13 + d14))
  have MA14 := Lib.hid (MA12.out.drewN (d13 + d14))
  have MB14 := Lib.hid (MB12.out.drewN (d13 + d14))
  have MC14 := Lib.hid (MC12.out.drewN (d13 + d14))
  have MD14 := Lib.hid (MD12.out.drewN (d13 + d14))
  go_wp2_with (go_at_call 11; fail)
  refine with_any _ ex 2 (-31, 7, true) (-37) 7 _ _ ((H0.out.kept N14.out nof).hi N14.out.size) rfl (by unfold wfI; decide) ?_
  intro w15 vr hr hn
  have HRR := Lib.hid hr
  have N15 := Lib.hid (N14.out.trans hn)
  have MA15 := Lib.hid (MA14.out.trans hn)
  have MB15 := Lib.hid (MB14.out.trans hn)
  have MC15 := Lib.hid (MC14.out.trans hn)
  have MD15 := Lib.hid (MD14.out.trans hn)
  clear hr hn
  go_wp2_with (go_at_call 11; fail)
  refine Same_true _ _ _ _ _ _ ((HD.out.kept MD15.out nof).hi MD15.out.size) HRR.out ?_
  intro d16
  have N16 := Lib.hid (N15.out.drewN d16)
  have MA16 := Lib.hid (MA15.out.drewN d16)
  have MB16 := Lib.hid (MB15.out.drewN d16)
  have MC16 := Lib.hid (MC15.out.drewN d16)
  have MD16 := Lib.hid (MD15.out.drewN d16)
  go_wp2_with (go_at_call 11; fail)
  exact HR.out _ (N1.out.trans (C1.out.trans N16.out))
end Go.Proofs.YtlgcijafjcfnhaaDoor
