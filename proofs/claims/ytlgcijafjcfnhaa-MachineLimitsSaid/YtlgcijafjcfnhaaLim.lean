/-
  indeliblelaw09.MachineLimits: it answers true.
-/
import Derived.Test.YtlgcijafjcfnhaaSan
import Derived.Deep.DeepCutAuto
import Derived.Deep.CutBlock
import Derived.Deep.RegionHeld3
import Derived.Deep.RegionLaw
import Derived.Deep.DrawnRows
import Derived.Deep.AppendLies
import Derived.BigGuardPart
namespace Go.Proofs.Ytlgcijafjcfnhaa
open Go.RowKit
set_option linter.unusedVariables false
set_option linter.unnecessarySimpa false

/-- The programs of the law: the operation c behind its pushes. -/
def pLim (k : Nat) (a b : Int) : List Op3 :=
  match k with
  | 0 => [(1, a, 0), (1, b, 0), (2, 0, 0), (13, 1, 0)]
  | 1 => [(1, a, 0), (1, b, 0), (3, 0, 0), (13, 1, 0)]
  | 2 => [(1, a, 0), (1, b, 0), (4, 0, 0), (13, 1, 0)]
  | 3 => [(1, a, 0), (1, b, 0), (5, 0, 0), (13, 1, 0)]
  | 4 => [(1, a, 0), (6, 0, 0), (13, 1, 0)]
  | 5 => [(1, a, 0), (7, 0, 0), (13, 1, 0)]
  | _ => [(9, 0, 0), (13, 1, 0)]
def wLim (k : Nat) (a b : Int) : Int :=
  match k with
  | 0 => lim (lim a + lim b)
  | 1 => lim (lim a - lim b)
  | 2 => lim (min (lim a) (lim b))
  | 3 => lim (max (lim a) (lim b))
  | 4 => lim (-lim a)
  | 5 => lim (lim a / 2)
  | _ => lim a
theorem IsOps.hi {w : World} {lo lo' : Nat} {p : Value} {l : List Op3} (h : IsOps w lo p l) (hl : lo ≤ lo') : IsOps w lo' p l := by
  obtain ⟨A, cap, e, hl', h⟩ := h
  refine ⟨A, cap, e, hl', fun i c n m hi => ?_⟩
  obtain ⟨pk, po, h1, h2⟩ := h i c n m hi
  exact ⟨pk, po, by omega, h2⟩
theorem wLim_wf (k : Nat) (a b : Int) : wfI 100 ∧ wfI (wLim k a b) := by
  refine ⟨by unfold wfI; omega, ?_⟩
  unfold wfI wLim lim
  split <;> omega
theorem isOps_app {w : World} {lo b cap : Nat} {T : TypeId} {fz : Nat × Nat} {more : Array Value} (l : List Op3) (hb : w.heap[b]? = some (.cells ((opCells l).toArray ++ more) T fz)) (hlo : b < lo) (h63 : l.length ≤ 4611686018427387904) :
    IsOps w lo (.slice (some ⟨b, 0, none⟩) l.length cap) l := by
  refine ⟨_, _, rfl, h63, fun i c n m hi => ⟨b, 0, hlo, rfl, ?_⟩⟩
  have h := opCells_get hi
  have hg : ∀ (j : Nat) (u : Value), (opCells l)[j]? = some u → ((opCells l).toArray ++ more)[j]? = some u := by
    intro j u hj
    have hl := (List.getElem?_eq_some_iff.1 hj).1
    rw [Array.getElem?_append_left (by simpa using hl)]
    simpa using hj
  rw [cell_of hb, cell_of hb, cell_of hb, Nat.zero_add]
  exact ⟨hg _ _ h.1, hg _ _ h.2.1, hg _ _ h.2.2⟩
theorem news_at {w : World} {B o : Nat} {cs : Array Value} {t : TypeId} {fr : Nat × Nat} {news : List Value} (hb : w.heap[B]? = some (.cells cs t fr)) (h : ∀ j u, news[j]? = some u → cs[o + j]? = some u) :
    ∀ j u, news[j]? = some u → w.cell? ((⟨B, o, none⟩ : Addr).add j) = some u := by
  intro j u hj
  have hadd : (⟨B, o, none⟩ : Addr).add j = ⟨B, o + j, none⟩ := by unfold Addr.add; split <;> simp_all
  rw [hadd, cell_of hb]
  exact h j u hj
theorem own_empty (w : World) (B base : Nat) (e : TypeId) (h : w.heap.size = B) (hb : base ≤ B) : (w.alloc (.cells #[] e)).ownsRow base e 3 (.slice (some ⟨B, 0, none⟩) 0 0) 0 [] := by
  subst h
  exact World.ownsRow_made _ _ _ hb (by unfold maxLen; omega) rfl
theorem isOps_row {w : World} {B : Nat} {T : TypeId} {v : Value} (l : List Op3) (h : w.ownsRow B T 3 v l.length (opCells l)) (h63 : l.length ≤ 4611686018427387904) (hl : 0 < l.length) : IsOps w w.heap.size v l := by
  obtain ⟨-, h1 | ⟨g, cap, cur, rfl, -, hh, -, -, -, ht⟩⟩ := h
  · omega
  refine ⟨_, _, rfl, h63, fun i c n m hi => ⟨g, 0, lt_of_heap hh, rfl, ?_⟩⟩
  have h := opCells_get hi
  have hg : ∀ (j : Nat) (u : Value), (opCells l)[j]? = some u → cur[j]? = some u := by
    intro j u hj
    rw [← ht, List.getElem?_take] at hj
    split at hj
    · rw [← Array.getElem?_toList]; exact hj
    · cases hj
  rw [cell_of hh, cell_of hh, cell_of hh, Nat.zero_add]
  exact ⟨hg _ _ h.1, hg _ _ h.2.1, hg _ _ h.2.2⟩
theorem chk_push (a : Int) {room nest npts h : Nat} {s : Int} (hs : s < 2000) (hh : h < 8) : chk 1 a 0 room nest npts h s = none := by
  have e1 : isNum 1 = true := rfl
  have e2 : isPt 1 = false := rfl
  have e3 : isBlk 1 = false := rfl
  have e4 : pops 1 = 0 := rfl
  have e5 : pushes 1 = 1 := rfl
  have e6 : ¬ bad 1 := by unfold bad; omega
  unfold chk
  rw [if_neg (by omega), if_neg e6, if_neg (by omega), if_neg (by rw [e1]; simp), if_neg (by omega), if_neg (by rw [e3]; simp), if_neg (by rw [e3]; simp), if_neg (by rw [e4]; omega), if_neg (by rw [e4, e5]; omega), if_neg (by rw [e2]; simp)]
theorem exec_push {l : List Op3} {size a : Int} {fuel i e nest : Nat} {o : List Pt} {stk : List Int} {s : Int} (hi : i < e) (hg : l.getD i default = (1, a, 0)) (hs : s < 2000) (hh : stk.length < 8) :
    exec l size (fuel + 1) i e nest (o, stk, s) = exec l size fuel (i + 1) e nest (o, stk ++ [lim a], s + 1) := by
  rw [exec, if_pos hi, hg]
  simp only [chk_push a hs hh]
  rfl
theorem two_push {l : List Op3} {size a b : Int} {e : Nat} {o : List Pt} (he : 2 ≤ e) (h0 : l.getD 0 default = (1, a, 0)) (h1 : l.getD 1 default = (1, b, 0)) :
    exec l size 2001 0 e 0 (o, [], 0) = exec l size 1999 2 e 0 (o, [lim a, lim b], 2) := by
  rw [exec_push (fuel := 2000) (by omega) h0 (by omega) (by decide), exec_push (fuel := 1999) (by omega) h1 (by omega) (by simp)]
  rfl
theorem one_push {l : List Op3} {size a : Int} {e : Nat} {o : List Pt} (he : 1 ≤ e) (h0 : l.getD 0 default = (1, a, 0)) :
    exec l size 2001 0 e 0 (o, [], 0) = exec l size 2000 1 e 0 (o, [lim a], 1) := by
  rw [exec_push (fuel := 2000) (by omega) h0 (by omega) (by decide)]
  rfl
def cLim (k : Nat) : Int :=
  match k with
  | 0 => 2
  | 1 => 3
  | 2 => 4
  | 3 => 5
  | 4 => 6
  | 5 => 7
  | _ => 9
theorem runLim (k : Nat) (hk : k < 7) (a b : Int) : runM (pLim k a b) a [ex] = .ok ([ex.set 1 (100, wLim k a b, true)], ((pLim k a b).length : Int)) := by
  match k, hk with
  | 0, _ => unfold runM; rw [two_push (by simp [pLim]) rfl rfl]; rfl
  | 1, _ => unfold runM; rw [two_push (by simp [pLim]) rfl rfl]; rfl
  | 2, _ => unfold runM; rw [two_push (by simp [pLim]) rfl rfl]; rfl
  | 3, _ => unfold runM; rw [two_push (by simp [pLim]) rfl rfl]; rfl
  | 4, _ => unfold runM; rw [one_push (by simp [pLim]) rfl]; rfl
  | 5, _ => unfold runM; rw [one_push (by simp [pLim]) rfl]; rfl
  | 6, _ => rfl

theorem lim_to {x y : Int} (h : y = x) (h1 : -1073741824 ≤ x) (h2 : x ≤ 1073741824) : y = lim x := by unfold lim; omega
attribute [local go_sem ↓] Go.wp_at_zero Go.wp_at_succ
theorem ret_v {x y : Int} (h : x = y) : Value.int .i64 x = .int .i64 y := by rw [h]
set_option maxRecDepth 100000 in
set_option maxHeartbeats 20000000 in
theorem Limits_any (a b : Int) (w : World) (R : Ending → World → Prop) (hR : ∀ w', Nw w w' → R (.returned (.bool true)) w') : Calls Try.prog 8 #[.int .i64 a, .int .i64 b] w R := by
  have HR := Lib.hid hR
  clear hR
  go_enter Try.func8, Try.ntmps8
  go_wp2_with (go_at_call 21; fail)
  refine sanity_any _ _ ?_
  intro w1 hn
  have N1 := Lib.hid hn
  clear hn
  have la : -1073741824 ≤ lim a ∧ lim a ≤ 1073741824 := by unfold lim; omega
  have lb : -1073741824 ≤ lim b ∧ lim b ≤ 1073741824 := by unfold lim; omega
  obtain ⟨la1, la2⟩ := la
  obtain ⟨lb1, lb2⟩ := lb
  have HQ := Lib.hid (tdiv_tmod (lim a) 2 (by omega))
  have q6 : -536870912 ≤ (lim a).tdiv 2 := by have := HQ.out; omega
  have q7 : (lim a).tdiv 2 ≤ 536870912 := by have := HQ.out; omega
  go_upto_if 25 with (first | (go_at_call 20; refine limited_any _ _ _ ?_) | (go_at_call 21; fail))
  go_cut [8] (fun s8 wx => s8 = .int .i64 (lim a / 2) ∧ Nw w wx)
  case first =>
    go_wp2
    · go_meet
      exact ⟨ret_v (by have := HQ.out; omega), N1.out⟩
    · go_meet
      exact ⟨ret_v (by have := HQ.out; omega), N1.out⟩
  case rest =>
    obtain ⟨rfl, n2⟩ := hcut
    have N2 := Lib.hid n2
    have hz : -536870912 ≤ lim a / 2 ∧ lim a / 2 ≤ 536870912 := by omega
    clear n2 HQ q6 q7
    have z1 := hz.1
    have z2 := hz.2
    clear hz
    go_upto_region 6 with (first | (go_at_call 20; refine limited_any _ _ _ ?_) | (go_at_call 21; fail))
    go_cut [9] (fun s9 wx => ∃ g, s9 = .pointer (some ⟨g, 0, none⟩) ∧ (∀ k, k < 7 → wx.cell? ⟨g, k, none⟩ = some (.int .i64 (wLim k a b))) ∧ Nw w wx)
    case first =>
      go_wp2_with (first | (go_at_call 20; refine limited_any _ _ _ ?_) | (go_at_call 21; fail))
      all_goals go_meet
      all_goals refine ⟨_, rfl, fun k hk => ?_, ?_⟩
      all_goals first | exact N2.out.alloc _ | (refine cell_alloc_new rfl ?_)
      all_goals
        obtain rfl | rfl | rfl | rfl | rfl | rfl | rfl : k = 0 ∨ k = 1 ∨ k = 2 ∨ k = 3 ∨ k = 4 ∨ k = 5 ∨ k = 6 := by omega
        all_goals first | rfl | exact congrArg some (ret_v (by simp only [wLim]; refine lim_to ?_ ?_ ?_ <;> omega))
    case rest =>
      obtain ⟨g, rfl, hw, n3⟩ := hcut
      have HW := Lib.hid hw
      have N3 := Lib.hid n3
      clear hw n3 N2
      go_upto_region 8 with (go_at_call 21; fail)
      go_wp2_with (go_at_call 21; fail)
      have HK := Lib.hid (show ∀ k, k < 7 → (wc.alloc (.cells #[.int .i64 2, .int .i64 3, .int .i64 4, .int .i64 5, .int .i64 6, .int .i64 7, .int .i64 9] 56)).cell? ⟨wc.heap.size, k, none⟩ = some (.int .i64 (cLim k)) from fun k hk => cell_alloc_new rfl (by
        obtain rfl | rfl | rfl | rfl | rfl | rfl | rfl : k = 0 ∨ k = 1 ∨ k = 2 ∨ k = 3 ∨ k = 4 ∨ k = 5 ∨ k = 6 := by omega
        all_goals rfl))
      have NA := Lib.hid (N3.out.alloc (.cells #[.int .i64 2, .int .i64 3, .int .i64 4, .int .i64 5, .int .i64 6, .int .i64 7, .int .i64 9] 56))
      have NB := Lib.hid ((Ch.refl (fun _ => False) wc).alloc (.cells #[.int .i64 2, .int .i64 3, .int .i64 4, .int .i64 5, .int .i64 6, .int .i64 7, .int .i64 9] 56))
      go_loopw [11] (fun s11 wr => ∃ k : Nat, s11 = .int .i64 k ∧ k ≤ 7 ∧ Nw (wc.alloc (.cells #[.int .i64 2, .int .i64 3, .int .i64 4, .int .i64 5, .int .i64 6, .int .i64 7, .int .i64 9] 56)) wr) (fun s11 _ => 7 - (intOf s11).toNat)
      case atStart => exact ⟨0, rfl, by omega, Ch.refl _ _⟩
      case round =>
        obtain ⟨k, rfl, hk, hnr⟩ := hrel
        have NR := Lib.hid hnr
        clear hnr
        by_cases hlt : k < 7
        · have hwk := NR.out.cell (NB.out.cell (HW.out k hlt) id) id
          have hck := NR.out.cell (HK.out k hlt) id
          obtain rfl | rfl | rfl | rfl | rfl | rfl | rfl : k = 0 ∨ k = 1 ∨ k = 2 ∨ k = 3 ∨ k = 4 ∨ k = 5 ∨ k = 6 := by omega
          · simp only [cLim] at hck
            go_wp2_with (go_at_call 9; fail)
            refine Calls_named ?_
            intro W hW
            have P := Lib.hid (show IsOps W W.heap.size (.slice (some ⟨wr.heap.size, 0, none⟩) 4 4) (pLim 0 a b) from by rw [hW]; exact isOps_lit (pLim 0 a b) (by repeat (first | exact heap_alloc_eq _ (by simp only [alloc_size]) | refine heap_alloc_old' _ ?_)) (by simp only [alloc_size]; omega) (by simp [pLim]))
            have NW := Lib.hid (show Nw wr W from by rw [hW]; exact (Ch.refl _ _).alloc _)
            clear hW
            have he0 := Lib.hid (show runM (pLim 0 a b) a [ex] = .ok ([ex.set 1 (100, wLim 0 a b, true)], 4) from runLim 0 (by omega) a b)
            refine example_any _ _ ?_
            intro w2 v2 h2 n2
            have H2 := Lib.hid h2
            have N2 := Lib.hid n2
            clear h2 n2
            go_wp2_with (go_at_call 9; fail)
            refine Run_any w2.heap.size _ _ (pLim 0 a b) [ex] a _ _ ((P.out.kept N2.out nof).hi N2.out.size) H2.out (Nat.le_refl _) (by intro w' x he; rw [he0.out] at he; cases he) ?_
            intro w3 v3 o3 s3 he h3 n3
            rw [he0.out] at he
            cases he
            have H3 := Lib.hid h3
            have N3 := Lib.hid n3
            clear h3 n3
            have hw3 := N3.out.cell (N2.out.cell (NW.out.cell hwk id) id) id
            go_wp2_with (go_at_call 9; fail)
            go_region_held3 (fun w' => w'.cell? ⟨g, 0, none⟩ = some (.int .i64 (wLim 0 a b))) (first | (exact hw3) | (exact N4.out.cell hw3 id) | (exact N5.out.cell hw3 id)) (first | (go_at_call 21; refine example_any _ _ ?_; intro w4 v4 h4 n4; have H4 := Lib.hid h4; have N4 := Lib.hid (show Nw w3 w4 from by first | exact n4 | exact n4.undrewN | exact n4.undrew); clear h4 n4) | (go_at_call 22; refine with_any _ ex 1 (100, 50, true) 100 (wLim 0 a b) _ _ (by exact H4.out) rfl (by exact wLim_wf 0 a b) ?_; intro w5 v5 h5 n5; have H5 := Lib.hid h5; have N5 := Lib.hid (show Nw w3 w5 from by first | exact N4.out.trans n5 | exact N4.out.trans n5.undrewN | exact N4.out.trans n5.undrew); clear h5 n5) | (go_at_call 14; refine Same_true w5.heap.size _ _ [ex.set 1 (100, wLim 0 a b, true)] _ _ (by exact (H3.out.kept N5.out nof).hi N5.out.size) (by exact H5.out) ?_; intro dd))
            go_wp2_with (go_at_call 9; fail)
            refine ⟨⟨1, rfl, by omega, NR.out.trans (NW.out.trans (N2.out.trans (N3.out.trans (N5.out.drewN dd))))⟩, ?_⟩
            simp [intOf]
          · simp only [cLim] at hck
            go_wp2_with (go_at_call 9; fail)
            refine Calls_named ?_
            intro W hW
            have P := Lib.hid (show IsOps W W.heap.size (.slice (some ⟨wr.heap.size, 0, none⟩) 4 4) (pLim 1 a b) from by rw [hW]; exact isOps_lit (pLim 1 a b) (by repeat (first | exact heap_alloc_eq _ (by simp only [alloc_size]) | refine heap_alloc_old' _ ?_)) (by simp only [alloc_size]; omega) (by simp [pLim]))
            have NW := Lib.hid (show Nw wr W from by rw [hW]; exact (Ch.refl _ _).alloc _)
            clear hW
            have he0 := Lib.hid (show runM (pLim 1 a b) a [ex] = .ok ([ex.set 1 (100, wLim 1 a b, true)], 4) from runLim 1 (by omega) a b)
            refine example_any _ _ ?_
            intro w2 v2 h2 n2
            have H2 := Lib.hid h2
            have N2 := Lib.hid n2
            clear h2 n2
            go_wp2_with (go_at_call 9; fail)
            refine Run_any w2.heap.size _ _ (pLim 1 a b) [ex] a _ _ ((P.out.kept N2.out nof).hi N2.out.size) H2.out (Nat.le_refl _) (by intro w' x he; rw [he0.out] at he; cases he) ?_
            intro w3 v3 o3 s3 he h3 n3
            rw [he0.out] at he
            cases he
            have H3 := Lib.hid h3
            have N3 := Lib.hid n3
            clear h3 n3
            have hw3 := N3.out.cell (N2.out.cell (NW.out.cell hwk id) id) id
            go_wp2_with (go_at_call 9; fail)
            go_region_held3 (fun w' => w'.cell? ⟨g, 1, none⟩ = some (.int .i64 (wLim 1 a b))) (first | (exact hw3) | (exact N4.out.cell hw3 id) | (exact N5.out.cell hw3 id)) (first | (go_at_call 21; refine example_any _ _ ?_; intro w4 v4 h4 n4; have H4 := Lib.hid h4; have N4 := Lib.hid (show Nw w3 w4 from by first | exact n4 | exact n4.undrewN | exact n4.undrew); clear h4 n4) | (go_at_call 22; refine with_any _ ex 1 (100, 50, true) 100 (wLim 1 a b) _ _ (by exact H4.out) rfl (by exact wLim_wf 1 a b) ?_; intro w5 v5 h5 n5; have H5 := Lib.hid h5; have N5 := Lib.hid (show Nw w3 w5 from by first | exact N4.out.trans n5 | exact N4.out.trans n5.undrewN | exact N4.out.trans n5.undrew); clear h5 n5) | (go_at_call 14; refine Same_true w5.heap.size _ _ [ex.set 1 (100, wLim 1 a b, true)] _ _ (by exact (H3.out.kept N5.out nof).hi N5.out.size) (by exact H5.out) ?_; intro dd))
            go_wp2_with (go_at_call 9; fail)
            refine ⟨⟨2, rfl, by omega, NR.out.trans (NW.out.trans (N2.out.trans (N3.out.trans (N5.out.drewN dd))))⟩, ?_⟩
            simp [intOf]
          · simp only [cLim] at hck
            go_wp2_with (go_at_call 9; fail)
            refine Calls_named ?_
            intro W hW
            have P := Lib.hid (show IsOps W W.heap.size (.slice (some ⟨wr.heap.size, 0, none⟩) 4 4) (pLim 2 a b) from by rw [hW]; exact isOps_lit (pLim 2 a b) (by repeat (first | exact heap_alloc_eq _ (by simp only [alloc_size]) | refine heap_alloc_old' _ ?_)) (by simp only [alloc_size]; omega) (by simp [pLim]))
            have NW := Lib.hid (show Nw wr W from by rw [hW]; exact (Ch.refl _ _).alloc _)
            clear hW
            have he0 := Lib.hid (show runM (pLim 2 a b) a [ex] = .ok ([ex.set 1 (100, wLim 2 a b, true)], 4) from runLim 2 (by omega) a b)
            refine example_any _ _ ?_
            intro w2 v2 h2 n2
            have H2 := Lib.hid h2
            have N2 := Lib.hid n2
            clear h2 n2
            go_wp2_with (go_at_call 9; fail)
            refine Run_any w2.heap.size _ _ (pLim 2 a b) [ex] a _ _ ((P.out.kept N2.out nof).hi N2.out.size) H2.out (Nat.le_refl _) (by intro w' x he; rw [he0.out] at he; cases he) ?_
            intro w3 v3 o3 s3 he h3 n3
            rw [he0.out] at he
            cases he
            have H3 := Lib.hid h3
            have N3 := Lib.hid n3
            clear h3 n3
            have hw3 := N3.out.cell (N2.out.cell (NW.out.cell hwk id) id) id
            go_wp2_with (go_at_call 9; fail)
            go_region_held3 (fun w' => w'.cell? ⟨g, 2, none⟩ = some (.int .i64 (wLim 2 a b))) (first | (exact hw3) | (exact N4.out.cell hw3 id) | (exact N5.out.cell hw3 id)) (first | (go_at_call 21; refine example_any _ _ ?_; intro w4 v4 h4 n4; have H4 := Lib.hid h4; have N4 := Lib.hid (show Nw w3 w4 from by first | exact n4 | exact n4.undrewN | exact n4.undrew); clear h4 n4) | (go_at_call 22; refine with_any _ ex 1 (100, 50, true) 100 (wLim 2 a b) _ _ (by exact H4.out) rfl (by exact wLim_wf 2 a b) ?_; intro w5 v5 h5 n5; have H5 := Lib.hid h5; have N5 := Lib.hid (show Nw w3 w5 from by first | exact N4.out.trans n5 | exact N4.out.trans n5.undrewN | exact N4.out.trans n5.undrew); clear h5 n5) | (go_at_call 14; refine Same_true w5.heap.size _ _ [ex.set 1 (100, wLim 2 a b, true)] _ _ (by exact (H3.out.kept N5.out nof).hi N5.out.size) (by exact H5.out) ?_; intro dd))
            go_wp2_with (go_at_call 9; fail)
            refine ⟨⟨3, rfl, by omega, NR.out.trans (NW.out.trans (N2.out.trans (N3.out.trans (N5.out.drewN dd))))⟩, ?_⟩
            simp [intOf]
          · simp only [cLim] at hck
            go_wp2_with (go_at_call 9; fail)
            refine Calls_named ?_
            intro W hW
            have P := Lib.hid (show IsOps W W.heap.size (.slice (some ⟨wr.heap.size, 0, none⟩) 4 4) (pLim 3 a b) from by rw [hW]; exact isOps_lit (pLim 3 a b) (by repeat (first | exact heap_alloc_eq _ (by simp only [alloc_size]) | refine heap_alloc_old' _ ?_)) (by simp only [alloc_size]; omega) (by simp [pLim]))
            have NW := Lib.hid (show Nw wr W from by rw [hW]; exact (Ch.refl _ _).alloc _)
            clear hW
            have he0 := Lib.hid (show runM (pLim 3 a b) a [ex] = .ok ([ex.set 1 (100, wLim 3 a b, true)], 4) from runLim 3 (by omega) a b)
            refine example_any _ _ ?_
            intro w2 v2 h2 n2
            have H2 := Lib.hid h2
            have N2 := Lib.hid n2
            clear h2 n2
            go_wp2_with (go_at_call 9; fail)
            refine Run_any w2.heap.size _ _ (pLim 3 a b) [ex] a _ _ ((P.out.kept N2.out nof).hi N2.out.size) H2.out (Nat.le_refl _) (by intro w' x he; rw [he0.out] at he; cases he) ?_
            intro w3 v3 o3 s3 he h3 n3
            rw [he0.out] at he
            cases he
            have H3 := Lib.hid h3
            have N3 := Lib.hid n3
            clear h3 n3
            have hw3 := N3.out.cell (N2.out.cell (NW.out.cell hwk id) id) id
            go_wp2_with (go_at_call 9; fail)
            go_region_held3 (fun w' => w'.cell? ⟨g, 3, none⟩ = some (.int .i64 (wLim 3 a b))) (first | (exact hw3) | (exact N4.out.cell hw3 id) | (exact N5.out.cell hw3 id)) (first | (go_at_call 21; refine example_any _ _ ?_; intro w4 v4 h4 n4; have H4 := Lib.hid h4; have N4 := Lib.hid (show Nw w3 w4 from by first | exact n4 | exact n4.undrewN | exact n4.undrew); clear h4 n4) | (go_at_call 22; refine with_any _ ex 1 (100, 50, true) 100 (wLim 3 a b) _ _ (by exact H4.out) rfl (by exact wLim_wf 3 a b) ?_; intro w5 v5 h5 n5; have H5 := Lib.hid h5; have N5 := Lib.hid (show Nw w3 w5 from by first | exact N4.out.trans n5 | exact N4.out.trans n5.undrewN | exact N4.out.trans n5.undrew); clear h5 n5) | (go_at_call 14; refine Same_true w5.heap.size _ _ [ex.set 1 (100, wLim 3 a b, true)] _ _ (by exact (H3.out.kept N5.out nof).hi N5.out.size) (by exact H5.out) ?_; intro dd))
            go_wp2_with (go_at_call 9; fail)
            refine ⟨⟨4, rfl, by omega, NR.out.trans (NW.out.trans (N2.out.trans (N3.out.trans (N5.out.drewN dd))))⟩, ?_⟩
            simp [intOf]
          · simp only [cLim] at hck
            go_upto_if 67 with (go_at_call 9; fail)
            go_cut [12] (fun s12 wx => ∃ A cap, s12 = .slice A 3 cap ∧ IsOps wx wx.heap.size s12 (pLim 4 a b) ∧ Nw wr wx)
            case first =>
              go_wp2_with (go_at_call 9; fail)
              obtain ⟨tio, io1, io2, io3, io4⟩ := info_parts (show (Try.prog.info? 45).map (fun i => (i.zero, i.size, i.bytes)) = some (some (.agg #[.int .i64 0, .int .i64 0, .int .i64 0]), 3, 24) by kernel_rfl)
              have HL := Lib.hid (heap_alloc_eq (w := wr) (k := wr.heap.size) (.cells #[.int .i64 1, .int .i64 a, .int .i64 0, .int .i64 1, .int .i64 b, .int .i64 0, .int .i64 6, .int .i64 0, .int .i64 0, .int .i64 13, .int .i64 1, .int .i64 0] 45) rfl)
              go_region_law ((first | (refine step_append_lies _ rfl (.tmp 68) (.tmp 72) _ rfl (wr.heap.size + 1) 45 tio _ 3 24 Try.underlying27 io1 io2 io3 io4 rfl (by omega) (.slice (some ⟨wr.heap.size + 1, 0, none⟩) 0 0) 0 [] rfl (by refine (World.ownsRow.alloc ?_ _).drew; exact own_empty _ _ _ _ (by rw [alloc_size]) (Nat.le_refl _)) ⟨wr.heap.size + 1 + 1, 0, none⟩ 1 1 [.int .i64 1, .int .i64 a, .int .i64 0] rfl rfl (by exact World.news_of_block (cs := #[.int .i64 1, .int .i64 a, .int .i64 0]) (t := 45) (fr := (0, 0)) (heap_alloc_eq _ (by simp only [alloc_size]))) (by simp [Value.oneCell']) (by omega) (by unfold maxLen; omega) (by omega) (by simp only [alloc_size, heap_drew]; omega) (wr.heap.size + 1 + 1 + 1) (by simp only [alloc_size, heap_drew]) ?_; intro g1 cap1 w4 ho1 hg1 ha1 hl1; (have HO1 := Lib.hid ho1); (have HG1 := Lib.hid hg1); (have HA1 := Lib.hid ha1); clear ho1 hg1 ha1; (have N4 := Lib.hid (show Nw (wr.alloc _) w4 from (((Ch.refl _ _).alloc _).alloc _).drew.grown HG1.out (by intro k hk hlt; injection hk with hk; rw [alloc_size] at hlt; exact absurd hlt (by rw [← hk]; exact Nat.lt_irrefl _)))); (have hL4 := N4.out.heap HL.out id)) | (refine step_append_lies _ rfl (.tmp 68) (.tmp 72) _ rfl (wr.heap.size + 1) 45 tio _ 3 24 Try.underlying27 io1 io2 io3 io4 rfl (by omega) (.slice (some ⟨wr.heap.size + 1 + 1, 0, none⟩) 0 0) 0 [] rfl (by refine World.ownsRow.drew ?_; exact own_empty _ _ _ _ (by simp only [alloc_size]) (by omega)) ⟨wr.heap.size + 1, 0, none⟩ 1 1 [.int .i64 1, .int .i64 a, .int .i64 0] rfl rfl (by exact World.news_of_block (cs := #[.int .i64 1, .int .i64 a, .int .i64 0]) (t := 45) (fr := (0, 0)) (heap_alloc_old' _ (heap_alloc_eq _ (by simp only [alloc_size])))) (by simp [Value.oneCell']) (by omega) (by unfold maxLen; omega) (by omega) (by simp only [alloc_size, heap_drew]; omega) (wr.heap.size + 1 + 1 + 1) (by simp only [alloc_size, heap_drew]) ?_; intro g1 cap1 w4 ho1 hg1 ha1 hl1; (have HO1 := Lib.hid ho1); (have HG1 := Lib.hid hg1); (have HA1 := Lib.hid ha1); clear ho1 hg1 ha1; (have N4 := Lib.hid (show Nw (wr.alloc _) w4 from (((Ch.refl _ _).alloc _).alloc _).drew.grown HG1.out (by intro k hk hlt; injection hk with hk; rw [alloc_size] at hlt; have hk2 : wr.heap.size + 1 + 1 = k := hk; omega))); (have hL4 := N4.out.heap HL.out id)) | (refine step_append_lies _ rfl (.tmp 73) (.tmp 75) _ rfl (wr.heap.size + 1) 45 tio _ 3 24 Try.underlying27 io1 io2 io3 io4 rfl (by omega) (.slice (some ⟨g1, 0, none⟩) 1 cap1) 1 [.int .i64 1, .int .i64 a, .int .i64 0] (by rfl) (by exact HO1.out) ⟨wr.heap.size, 6, none⟩ 2 2 [.int .i64 6, .int .i64 0, .int .i64 0, .int .i64 13, .int .i64 1, .int .i64 0] (by rfl) (by rfl) (by exact news_at (cs := #[.int .i64 1, .int .i64 a, .int .i64 0, .int .i64 1, .int .i64 b, .int .i64 0, .int .i64 6, .int .i64 0, .int .i64 0, .int .i64 13, .int .i64 1, .int .i64 0]) hL4 (by intro j u hj; rcases j with _ | _ | _ | _ | _ | _ | j <;> simpa using hj)) (by simp [Value.oneCell']) (by omega) (by unfold maxLen; omega) (by omega) (by have := N4.out.size; rw [alloc_size] at this; first | omega | (simp only [heap_drew]; omega)) _ rfl ?_; intro g2 cap2 w5 ho2 hg2 ha2 hl2)))
              all_goals go_wp2_with (go_at_call 9; fail)
              all_goals go_meet
              all_goals exact ⟨_, _, rfl, isOps_row (pLim 4 a b) ho2 (by simp [pLim]) (by simp [pLim]), ((Ch.refl (fun _ => False) wr).alloc _).trans (N4.out.grown hg2 (by intro k hk hlt; injection hk with hk; have h3 := (HO1.out.lt _ rfl).1; have h4 : g1 = k := hk; have h5 : wr.heap.size + 1 ≤ g1 := h3; rw [alloc_size] at hlt; omega))⟩
            case rest =>
            obtain ⟨A12, cap12, rfl, p12, n12⟩ := hcut
            have P12 := Lib.hid p12
            have N12 := Lib.hid n12
            clear p12 n12
            go_wp2_with (go_at_call 9; fail)
            refine Calls_named ?_
            intro W hW
            have P := Lib.hid (show IsOps W W.heap.size _ (pLim 4 a b) from by rw [hW]; exact P12.out)
            have NW := Lib.hid (show Nw wr W from by rw [hW]; exact N12.out)
            clear hW
            have he0 := Lib.hid (show runM (pLim 4 a b) a [ex] = .ok ([ex.set 1 (100, wLim 4 a b, true)], 3) from runLim 4 (by omega) a b)
            refine example_any _ _ ?_
            intro w2 v2 h2 n2
            have H2 := Lib.hid h2
            have N2 := Lib.hid n2
            clear h2 n2
            go_wp2_with (go_at_call 9; fail)
            refine Run_any w2.heap.size _ _ (pLim 4 a b) [ex] a _ _ ((P.out.kept N2.out nof).hi N2.out.size) H2.out (Nat.le_refl _) (by intro w' x he; rw [he0.out] at he; cases he) ?_
            intro w3 v3 o3 s3 he h3 n3
            rw [he0.out] at he
            cases he
            have H3 := Lib.hid h3
            have N3 := Lib.hid n3
            clear h3 n3
            have hw3 := N3.out.cell (N2.out.cell (NW.out.cell hwk id) id) id
            go_wp2_with (go_at_call 9; fail)
            go_region_held3 (fun w' => w'.cell? ⟨g, 4, none⟩ = some (.int .i64 (wLim 4 a b))) (first | (exact hw3) | (exact N4.out.cell hw3 id) | (exact N5.out.cell hw3 id)) (first | (go_at_call 21; refine example_any _ _ ?_; intro w4 v4 h4 n4; have H4 := Lib.hid h4; have N4 := Lib.hid (show Nw w3 w4 from by first | exact n4 | exact n4.undrewN | exact n4.undrew); clear h4 n4) | (go_at_call 22; refine with_any _ ex 1 (100, 50, true) 100 (wLim 4 a b) _ _ (by exact H4.out) rfl (by exact wLim_wf 4 a b) ?_; intro w5 v5 h5 n5; have H5 := Lib.hid h5; have N5 := Lib.hid (show Nw w3 w5 from by first | exact N4.out.trans n5 | exact N4.out.trans n5.undrewN | exact N4.out.trans n5.undrew); clear h5 n5) | (go_at_call 14; refine Same_true w5.heap.size _ _ [ex.set 1 (100, wLim 4 a b, true)] _ _ (by exact (H3.out.kept N5.out nof).hi N5.out.size) (by exact H5.out) ?_; intro dd))
            go_wp2_with (go_at_call 9; fail)
            refine ⟨⟨5, rfl, by omega, NR.out.trans (NW.out.trans (N2.out.trans (N3.out.trans (N5.out.drewN dd))))⟩, ?_⟩
            simp [intOf]
          · simp only [cLim] at hck
            go_upto_if 67 with (go_at_call 9; fail)
            go_cut [12] (fun s12 wx => ∃ A cap, s12 = .slice A 3 cap ∧ IsOps wx wx.heap.size s12 (pLim 5 a b) ∧ Nw wr wx)
            case first =>
              go_wp2_with (go_at_call 9; fail)
              obtain ⟨tio, io1, io2, io3, io4⟩ := info_parts (show (Try.prog.info? 45).map (fun i => (i.zero, i.size, i.bytes)) = some (some (.agg #[.int .i64 0, .int .i64 0, .int .i64 0]), 3, 24) by kernel_rfl)
              have HL := Lib.hid (heap_alloc_eq (w := wr) (k := wr.heap.size) (.cells #[.int .i64 1, .int .i64 a, .int .i64 0, .int .i64 1, .int .i64 b, .int .i64 0, .int .i64 7, .int .i64 0, .int .i64 0, .int .i64 13, .int .i64 1, .int .i64 0] 45) rfl)
              go_region_law ((first | (refine step_append_lies _ rfl (.tmp 68) (.tmp 72) _ rfl (wr.heap.size + 1) 45 tio _ 3 24 Try.underlying27 io1 io2 io3 io4 rfl (by omega) (.slice (some ⟨wr.heap.size + 1, 0, none⟩) 0 0) 0 [] rfl (by refine (World.ownsRow.alloc ?_ _).drew; exact own_empty _ _ _ _ (by rw [alloc_size]) (Nat.le_refl _)) ⟨wr.heap.size + 1 + 1, 0, none⟩ 1 1 [.int .i64 1, .int .i64 a, .int .i64 0] rfl rfl (by exact World.news_of_block (cs := #[.int .i64 1, .int .i64 a, .int .i64 0]) (t := 45) (fr := (0, 0)) (heap_alloc_eq _ (by simp only [alloc_size]))) (by simp [Value.oneCell']) (by omega) (by unfold maxLen; omega) (by omega) (by simp only [alloc_size, heap_drew]; omega) (wr.heap.size + 1 + 1 + 1) (by simp only [alloc_size, heap_drew]) ?_; intro g1 cap1 w4 ho1 hg1 ha1 hl1; (have HO1 := Lib.hid ho1); (have HG1 := Lib.hid hg1); (have HA1 := Lib.hid ha1); clear ho1 hg1 ha1; (have N4 := Lib.hid (show Nw (wr.alloc _) w4 from (((Ch.refl _ _).alloc _).alloc _).drew.grown HG1.out (by intro k hk hlt; injection hk with hk; rw [alloc_size] at hlt; exact absurd hlt (by rw [← hk]; exact Nat.lt_irrefl _)))); (have hL4 := N4.out.heap HL.out id)) | (refine step_append_lies _ rfl (.tmp 68) (.tmp 72) _ rfl (wr.heap.size + 1) 45 tio _ 3 24 Try.underlying27 io1 io2 io3 io4 rfl (by omega) (.slice (some ⟨wr.heap.size + 1 + 1, 0, none⟩) 0 0) 0 [] rfl (by refine World.ownsRow.drew ?_; exact own_empty _ _ _ _ (by simp only [alloc_size]) (by omega)) ⟨wr.heap.size + 1, 0, none⟩ 1 1 [.int .i64 1, .int .i64 a, .int .i64 0] rfl rfl (by exact World.news_of_block (cs := #[.int .i64 1, .int .i64 a, .int .i64 0]) (t := 45) (fr := (0, 0)) (heap_alloc_old' _ (heap_alloc_eq _ (by simp only [alloc_size])))) (by simp [Value.oneCell']) (by omega) (by unfold maxLen; omega) (by omega) (by simp only [alloc_size, heap_drew]; omega) (wr.heap.size + 1 + 1 + 1) (by simp only [alloc_size, heap_drew]) ?_; intro g1 cap1 w4 ho1 hg1 ha1 hl1; (have HO1 := Lib.hid ho1); (have HG1 := Lib.hid hg1); (have HA1 := Lib.hid ha1); clear ho1 hg1 ha1; (have N4 := Lib.hid (show Nw (wr.alloc _) w4 from (((Ch.refl _ _).alloc _).alloc _).drew.grown HG1.out (by intro k hk hlt; injection hk with hk; rw [alloc_size] at hlt; have hk2 : wr.heap.size + 1 + 1 = k := hk; omega))); (have hL4 := N4.out.heap HL.out id)) | (refine step_append_lies _ rfl (.tmp 73) (.tmp 75) _ rfl (wr.heap.size + 1) 45 tio _ 3 24 Try.underlying27 io1 io2 io3 io4 rfl (by omega) (.slice (some ⟨g1, 0, none⟩) 1 cap1) 1 [.int .i64 1, .int .i64 a, .int .i64 0] (by rfl) (by exact HO1.out) ⟨wr.heap.size, 6, none⟩ 2 2 [.int .i64 7, .int .i64 0, .int .i64 0, .int .i64 13, .int .i64 1, .int .i64 0] (by rfl) (by rfl) (by exact news_at (cs := #[.int .i64 1, .int .i64 a, .int .i64 0, .int .i64 1, .int .i64 b, .int .i64 0, .int .i64 7, .int .i64 0, .int .i64 0, .int .i64 13, .int .i64 1, .int .i64 0]) hL4 (by intro j u hj; rcases j with _ | _ | _ | _ | _ | _ | j <;> simpa using hj)) (by simp [Value.oneCell']) (by omega) (by unfold maxLen; omega) (by omega) (by have := N4.out.size; rw [alloc_size] at this; first | omega | (simp only [heap_drew]; omega)) _ rfl ?_; intro g2 cap2 w5 ho2 hg2 ha2 hl2)))
              all_goals go_wp2_with (go_at_call 9; fail)
              all_goals go_meet
              all_goals exact ⟨_, _, rfl, isOps_row (pLim 5 a b) ho2 (by simp [pLim]) (by simp [pLim]), ((Ch.refl (fun _ => False) wr).alloc _).trans (N4.out.grown hg2 (by intro k hk hlt; injection hk with hk; have h3 := (HO1.out.lt _ rfl).1; have h4 : g1 = k := hk; have h5 : wr.heap.size + 1 ≤ g1 := h3; rw [alloc_size] at hlt; omega))⟩
            case rest =>
            obtain ⟨A12, cap12, rfl, p12, n12⟩ := hcut
            have P12 := Lib.hid p12
            have N12 := Lib.hid n12
            clear p12 n12
            go_wp2_with (go_at_call 9; fail)
            refine Calls_named ?_
            intro W hW
            have P := Lib.hid (show IsOps W W.heap.size _ (pLim 5 a b) from by rw [hW]; exact P12.out)
            have NW := Lib.hid (show Nw wr W from by rw [hW]; exact N12.out)
            clear hW
            have he0 := Lib.hid (show runM (pLim 5 a b) a [ex] = .ok ([ex.set 1 (100, wLim 5 a b, true)], 3) from runLim 5 (by omega) a b)
            refine example_any _ _ ?_
            intro w2 v2 h2 n2
            have H2 := Lib.hid h2
            have N2 := Lib.hid n2
            clear h2 n2
            go_wp2_with (go_at_call 9; fail)
            refine Run_any w2.heap.size _ _ (pLim 5 a b) [ex] a _ _ ((P.out.kept N2.out nof).hi N2.out.size) H2.out (Nat.le_refl _) (by intro w' x he; rw [he0.out] at he; cases he) ?_
            intro w3 v3 o3 s3 he h3 n3
            rw [he0.out] at he
            cases he
            have H3 := Lib.hid h3
            have N3 := Lib.hid n3
            clear h3 n3
            have hw3 := N3.out.cell (N2.out.cell (NW.out.cell hwk id) id) id
            go_wp2_with (go_at_call 9; fail)
            go_region_held3 (fun w' => w'.cell? ⟨g, 5, none⟩ = some (.int .i64 (wLim 5 a b))) (first | (exact hw3) | (exact N4.out.cell hw3 id) | (exact N5.out.cell hw3 id)) (first | (go_at_call 21; refine example_any _ _ ?_; intro w4 v4 h4 n4; have H4 := Lib.hid h4; have N4 := Lib.hid (show Nw w3 w4 from by first | exact n4 | exact n4.undrewN | exact n4.undrew); clear h4 n4) | (go_at_call 22; refine with_any _ ex 1 (100, 50, true) 100 (wLim 5 a b) _ _ (by exact H4.out) rfl (by exact wLim_wf 5 a b) ?_; intro w5 v5 h5 n5; have H5 := Lib.hid h5; have N5 := Lib.hid (show Nw w3 w5 from by first | exact N4.out.trans n5 | exact N4.out.trans n5.undrewN | exact N4.out.trans n5.undrew); clear h5 n5) | (go_at_call 14; refine Same_true w5.heap.size _ _ [ex.set 1 (100, wLim 5 a b, true)] _ _ (by exact (H3.out.kept N5.out nof).hi N5.out.size) (by exact H5.out) ?_; intro dd))
            go_wp2_with (go_at_call 9; fail)
            refine ⟨⟨6, rfl, by omega, NR.out.trans (NW.out.trans (N2.out.trans (N3.out.trans (N5.out.drewN dd))))⟩, ?_⟩
            simp [intOf]
          · simp only [cLim] at hck
            go_wp2_with (go_at_call 9; fail)
            refine Calls_named ?_
            intro W hW
            have P := Lib.hid (show IsOps W W.heap.size (.slice (some ⟨wr.heap.size + 1 + 1, 0, none⟩) 2 ((Question.appendCap 2 0 45).cut (wr.tape wr.drawn (Question.appendCap 2 0 45)))) (pLim 6 a b) from by rw [hW]; exact isOps_app (pLim 6 a b) (by simp only [heap_drew]; repeat (first | exact heap_alloc_eq _ (by simp only [alloc_size]) | refine heap_alloc_old' _ ?_)) (by simp only [alloc_size, heap_drew]; omega) (by simp [pLim]))
            have NW := Lib.hid (show Nw wr W from by rw [hW]; exact ((((Ch.refl _ _).alloc _).alloc _).alloc _).drew)
            clear hW
            have he0 := Lib.hid (show runM (pLim 6 a b) a [ex] = .ok ([ex.set 1 (100, wLim 6 a b, true)], 2) from runLim 6 (by omega) a b)
            refine example_any _ _ ?_
            intro w2 v2 h2 n2
            have H2 := Lib.hid h2
            have N2 := Lib.hid n2
            clear h2 n2
            go_wp2_with (go_at_call 9; fail)
            refine Run_any w2.heap.size _ _ (pLim 6 a b) [ex] a _ _ ((P.out.kept N2.out nof).hi N2.out.size) H2.out (Nat.le_refl _) (by intro w' x he; rw [he0.out] at he; cases he) ?_
            intro w3 v3 o3 s3 he h3 n3
            rw [he0.out] at he
            cases he
            have H3 := Lib.hid h3
            have N3 := Lib.hid n3
            clear h3 n3
            have hw3 := N3.out.cell (N2.out.cell (NW.out.cell hwk id) id) id
            go_wp2_with (go_at_call 9; fail)
            go_region_held3 (fun w' => w'.cell? ⟨g, 6, none⟩ = some (.int .i64 (wLim 6 a b))) (first | (exact hw3) | (exact N4.out.cell hw3 id) | (exact N5.out.cell hw3 id)) (first | (go_at_call 21; refine example_any _ _ ?_; intro w4 v4 h4 n4; have H4 := Lib.hid h4; have N4 := Lib.hid (show Nw w3 w4 from by first | exact n4 | exact n4.undrewN | exact n4.undrew); clear h4 n4) | (go_at_call 22; refine with_any _ ex 1 (100, 50, true) 100 (wLim 6 a b) _ _ (by exact H4.out) rfl (by exact wLim_wf 6 a b) ?_; intro w5 v5 h5 n5; have H5 := Lib.hid h5; have N5 := Lib.hid (show Nw w3 w5 from by first | exact N4.out.trans n5 | exact N4.out.trans n5.undrewN | exact N4.out.trans n5.undrew); clear h5 n5) | (go_at_call 14; refine Same_true w5.heap.size _ _ [ex.set 1 (100, wLim 6 a b, true)] _ _ (by exact (H3.out.kept N5.out nof).hi N5.out.size) (by exact H5.out) ?_; intro dd))
            go_wp2_with (go_at_call 9; fail)
            refine ⟨⟨7, rfl, by omega, NR.out.trans (NW.out.trans (N2.out.trans (N3.out.trans (N5.out.drewN dd))))⟩, ?_⟩
            simp [intOf]
        · go_wp2_with (go_at_call 9; fail)
          exact HR.out _ (NA.out.trans NR.out)
end Go.Proofs.Ytlgcijafjcfnhaa
