/-
  ref12.Runs: the runs of a string, byte by byte.
-/
import Derived.Test.YtnibgjpbijlhbaaDoorRn
import Derived.Deep.Cut
namespace Go.Proofs.YtnibgjpbijlhbaaDoor
open Go.RowKit Go.Shelf
set_option linter.unusedVariables false
set_option linter.unusedSimpArgs false
set_option maxRecDepth 100000

theorem ba_get (s : ByteArray) {k : Nat} {x : UInt8} (h : k < s.size) (e : s.data.toList[k]? = some x) : s[k]'h = x := by
  rw [ba_at s h]; exact at0_get e
theorem runsTo_ne (s : List UInt8) : ∀ k, 0 < k → ∃ R a b c, runsTo s k = R ++ [(a, b, c)]
  | 0, h => absurd h (Nat.lt_irrefl _)
  | k + 1, _ => by
    rw [runsTo]
    split
    · exact ⟨_, _, _, _, rfl⟩
    · exact ⟨_, _, _, _, rfl⟩
theorem runsTo_le (s : List UInt8) : ∀ k, (runsTo s k).length ≤ k
  | 0 => Nat.le_refl _
  | k + 1 => by
    have := runsTo_le s k
    rw [runsTo]
    split
    · rw [List.length_append, List.length_singleton]; omega
    · rename_i h
      have hk : 0 < k := by omega
      obtain ⟨R, a, b, c, e⟩ := runsTo_ne s k hk
      rw [e] at this ⊢
      simp at this ⊢
      omega
theorem runsTo_new {s : List UInt8} {k : Nat} (h : k = 0 ∨ scr (at0 s k) ≠ scr (at0 s (k - 1))) : runsTo s (k + 1) = runsTo s k ++ [(scr (at0 s k), k, k + 1)] := by rw [runsTo, if_pos h]
theorem runsTo_go {s : List UInt8} {k : Nat} {R : List Rn} {a b c : Nat} (h : ¬ (k = 0 ∨ scr (at0 s k) ≠ scr (at0 s (k - 1)))) (e : runsTo s k = R ++ [(a, b, c)]) : runsTo s (k + 1) = R ++ [(a, b, k + 1)] := by
  rw [runsTo, if_neg h, e]
  simp
theorem runC_len : ∀ R : List Rn, (runC R).length = R.length * 3
  | [] => rfl
  | r :: R => by
    have := runC_len R
    unfold runC at this ⊢
    rw [List.flatMap_cons, List.length_append, this]
    simp only [List.length_cons, List.length_nil]
    omega
theorem runC_snoc (R : List Rn) (a b c : Nat) : runC (R ++ [(a, b, c)]) = runC R ++ [.int .i64 (a : Nat), .int .i64 (b : Nat), .int .i64 (c : Nat)] := by simp [runC]
theorem runC_set (R : List Rn) (a b c d : Nat) : (runC (R ++ [(a, b, c)])).set (R.length * 3 + 2) (.int .i64 (d : Nat)) = runC (R ++ [(a, b, d)]) := by
  rw [runC_snoc, runC_snoc, List.set_append, if_neg (by rw [runC_len]; omega), runC_len]
  rw [show R.length * 3 + 2 - R.length * 3 = 2 by omega]
  rfl
theorem runC_till (R : List Rn) (a b c : Nat) : (runC (R ++ [(a, b, c)]))[R.length * 3 + 2]? = some (.int .i64 (c : Nat)) := by
  rw [runC_snoc, List.getElem?_append_right (by rw [runC_len]; omega), runC_len, show R.length * 3 + 2 - R.length * 3 = 2 by omega]
  rfl
theorem CRow.cell {w : World} {T : TypeId} {z B g n cap : Nat} {l : List Value} (h : CRow w T z B (.slice (some ⟨g, 0, none⟩) n cap) n l) {j : Nat} {y : Value} (hj : l[j]? = some y) : w.cell? ⟨g, j, none⟩ = some y := by
  have hjl := (List.getElem?_eq_some_iff.1 hj).1
  have hn := h.len
  have := World.ownsRow.cellAt h j (by omega)
  have hadd : (⟨g, 0, none⟩ : Addr).add j = ⟨g, j, none⟩ := by unfold Addr.add; split <;> simp_all
  rw [this]
  simp [hj]
theorem CRow.some {w : World} {T : TypeId} {z B n c : Nat} {A : Option Addr} {l : List Value} (h : CRow w T z B (.slice A n c) n l) (hn : 0 < n) : ∃ g, A = some ⟨g, 0, none⟩ := by
  rcases h.2 with ⟨h1, h2⟩ | ⟨g, cap, cur, e, -⟩
  · omega
  · cases e; exact ⟨g, rfl⟩
/-- The last run ends one byte further. -/
theorem row_till {w : World} {g n cap B : Nat} {R : List Rn} {a b c : Nat} (h : CRow w 37 3 B (.slice (some ⟨g, 0, none⟩) n cap) n (runC (R ++ [(a, b, c)]))) (d : Nat) (e : Int) (he : e = (d : Int)) :
    B ≤ g ∧ n = R.length + 1 ∧ w.cell? ⟨g, R.length * 3 + 2, none⟩ = some (.int .i64 (c : Nat)) ∧ w.frozen? ⟨g, R.length * 3 + 2, none⟩ = false ∧
    CRow (w.setCell ⟨g, R.length * 3 + 2, none⟩ (.int .i64 e)) 37 3 B (.slice (some ⟨g, 0, none⟩) n cap) n (runC (R ++ [(a, b, d)])) := by
  subst he
  have hl := h.len
  rw [runC_len, List.length_append, List.length_singleton] at hl
  refine ⟨(h.lt g rfl).1, by omega, h.cell (runC_till _ _ _ _), World.ownsRow.frozenAt h _, ?_⟩
  have := (World.ownsRow.stored h (R.length * 3 + 2) (.int .i64 (d : Nat))).1
  rw [runC_set] at this
  exact this

set_option maxHeartbeats 8000000 in
theorem rruns_any (s : ByteArray) (w : World) (R : Ending → World → Prop) (hs : s.size ≤ 900000)
    (hR : ∀ w' v, CRow w' 37 3 w.heap.size v (runsM s.data.toList).length (runC (runsM s.data.toList)) → Nw w w' → R (.returned v) w') : Calls Tryd.prog 15 #[.string s] w R := by
  have HR := Lib.hid hR
  clear hR
  obtain ⟨L, hL⟩ : ∃ L, s.data.toList = L := ⟨_, rfl⟩
  have hlen : L.length = s.size := by rw [← hL]; exact ba_len s
  have HL := Lib.hid hL
  rw [hL, ← runsTo_all, hlen] at HR
  clear hL
  go_enter Tryd.func15, Tryd.ntmps15
  go_wp2_with (fail)
  go_loopw [3, 4] (fun s3 s4 wr => ∃ k : Nat, s4 = .int .i64 k ∧ k ≤ s.size ∧ Hid (CRow wr 37 3 w.heap.size s3 (runsTo L k).length (runC (runsTo L k))) ∧ Hid (Nw w wr)) (fun _ s4 _ => s.size - (intOf s4).toNat)
  case atStart => exact ⟨0, rfl, Nat.zero_le _, Lib.hid (CRow.nil _ _), Lib.hid (Ch.refl _ _)⟩
  case round =>
    obtain ⟨k, rfl, hk, HI, HN⟩ := hrel
    obtain ⟨rl, hrl⟩ : ∃ n, (runsTo L k).length = n := ⟨_, rfl⟩
    rw [hrl] at HI
    have RL := Lib.hid hrl
    clear hrl
    obtain ⟨A, c, rfl⟩ := HI.out.form
    have k0 : (0 : Int) ≤ (k : Int) := by omega
    by_cases hlt : k < s.size
    · as_aux_lemma =>
      have k1 : (k : Int) < (s.size : Int) := by omega
      have hw : w.heap.size ≤ wr.heap.size := HN.out.size
      obtain ⟨x, hx⟩ : ∃ x, L[k]? = some x := ⟨_, List.getElem?_eq_getElem (by omega)⟩
      have HXX := Lib.hid hx
      have HX0 := Lib.hid (at0_get hx)
      obtain ⟨xa, hxa⟩ : ∃ n, scr x = n := ⟨_, rfl⟩
      have HXA := Lib.hid hxa
      have rl9 : rl ≤ k := by rw [← RL.out]; exact runsTo_le _ _
      clear hx hxa
      by_cases hk0 : k = 0
      · as_aux_lemma =>
        have kz : ((k : Int) == 0) = true := by simp [hk0]
        have HST := Lib.hid (show runsTo L (k + 1) = runsTo L k ++ [(xa, k, k + 1)] from by rw [runsTo_new (Or.inl hk0), HX0.out, HXA.out])
        clear hk0
        go_upto_region 5 with (fail)
        refine wp_named ?_
        intro W1 hW
        have n : Nw wr W1 := by rw [hW]; first | exact Ch.refl _ _ | exact (Ch.refl _ _).alloc _
        replace HI := Lib.hid (HI.out.ch n (fun _ _ e => e))
        replace HN := Lib.hid (HN.out.trans n)
        replace hw := Nat.le_trans hw n.size
        clear hW n
        refine wp_region_V (F := fun w' => True) (opsOf Tryd.f15 5) 14 14 (by kernel_rfl) (by kernel_rfl) (by kernel_rfl) (fun w w' h n => True.intro) True.intro (fun HOPS HCL hHeld => ?_)
        refine wpU_named ?_
        intro W2 hW
        try rw [← hW] at hHeld
        have n : Nw W1 W2 := by rw [hW]; exact (Ch.refl _ _).drew
        replace HI := Lib.hid (HI.out.ch n (fun _ _ e => e))
        replace HN := Lib.hid (HN.out.trans n)
        replace hw := Nat.le_trans hw n.size
        clear hW n
        first | (refine wpU_takeB (i := 0) (v := ?_) HOPS rfl (by kernel_rfl) (fun _ _ _ h => h) HCL (goes_read (by rfl) ?hy) ?_; case hy => (intro w hSw; (try dsimp only at hSw); go_simp; (try with_reducible rfl))) | (refine wpU_takeB (i := 0) (v := _) HOPS rfl (by kernel_rfl) (fun _ _ _ h => h) HCL (goes_not (by rfl)) ?_)
        try simp only [Act.put, List.getElem_toArray, List.getElem_cons_succ, List.getElem_cons_zero, List.setIfInBounds_toArray, List.set_cons_zero, List.set_cons_succ]
        first | (refine wpU_takeB (i := 1) (v := ?_) HOPS rfl (by kernel_rfl) (fun _ _ _ h => h) HCL (goes_read (by rfl) ?hy) ?_; case hy => (intro w hSw; (try dsimp only at hSw); go_simp; (try with_reducible rfl))) | (refine wpU_takeB (i := 1) (v := _) HOPS rfl (by kernel_rfl) (fun _ _ _ h => h) HCL (goes_not (by rfl)) ?_)
        try simp only [Act.put, List.getElem_toArray, List.getElem_cons_succ, List.getElem_cons_zero, List.setIfInBounds_toArray, List.set_cons_zero, List.set_cons_succ]
        first | (refine wpU_takeB (i := 2) (v := ?_) HOPS rfl (by kernel_rfl) (fun _ _ _ h => h) HCL (goes_read (by rfl) ?hy) ?_; case hy => (intro w hSw; (try dsimp only at hSw); go_simp; (try with_reducible rfl))) | (refine wpU_takeB (i := 2) (v := _) HOPS rfl (by kernel_rfl) (fun _ _ _ h => h) HCL (goes_not (by rfl)) ?_)
        try simp only [Act.put, List.getElem_toArray, List.getElem_cons_succ, List.getElem_cons_zero, List.setIfInBounds_toArray, List.set_cons_zero, List.set_cons_succ]
        first | (refine wpU_takeB (i := 3) (v := ?_) HOPS rfl (by kernel_rfl) (fun _ _ _ h => h) HCL (goes_read (by rfl) ?hy) ?_; case hy => (intro w hSw; (try dsimp only at hSw); go_simp; (try with_reducible rfl))) | (refine wpU_takeB (i := 3) (v := _) HOPS rfl (by kernel_rfl) (fun _ _ _ h => h) HCL (goes_not (by rfl)) ?_)
        try simp only [Act.put, List.getElem_toArray, List.getElem_cons_succ, List.getElem_cons_zero, List.setIfInBounds_toArray, List.set_cons_zero, List.set_cons_succ]
        first | (refine wpU_takeB (i := 4) (v := ?_) HOPS rfl (by kernel_rfl) (fun _ _ _ h => h) HCL (goes_read (by rfl) ?hy) ?_; case hy => (intro w hSw; (try dsimp only at hSw); go_simp; (try with_reducible rfl))) | (refine wpU_takeB (i := 4) (v := _) HOPS rfl (by kernel_rfl) (fun _ _ _ h => h) HCL (goes_not (by rfl)) ?_)
        try simp only [Act.put, List.getElem_toArray, List.getElem_cons_succ, List.getElem_cons_zero, List.setIfInBounds_toArray, List.set_cons_zero, List.set_cons_succ]
        first | (refine wpU_takeB (i := 5) (v := ?_) HOPS rfl (by kernel_rfl) (fun _ _ _ h => h) HCL (goes_read (by rfl) ?hy) ?_; case hy => (intro w hSw; (try dsimp only at hSw); go_simp; (try with_reducible rfl))) | (refine wpU_takeB (i := 5) (v := _) HOPS rfl (by kernel_rfl) (fun _ _ _ h => h) HCL (goes_not (by rfl)) ?_)
        try simp only [Act.put, List.getElem_toArray, List.getElem_cons_succ, List.getElem_cons_zero, List.setIfInBounds_toArray, List.set_cons_zero, List.set_cons_succ]
        first | (refine wpU_takeB (i := 6) (v := ?_) HOPS rfl (by kernel_rfl) (fun _ _ _ h => h) HCL (goes_read (by rfl) ?hy) ?_; case hy => (intro w hSw; (try dsimp only at hSw); go_simp; (try with_reducible rfl))) | (refine wpU_takeB (i := 6) (v := _) HOPS rfl (by kernel_rfl) (fun _ _ _ h => h) HCL (goes_not (by rfl)) ?_)
        try simp only [Act.put, List.getElem_toArray, List.getElem_cons_succ, List.getElem_cons_zero, List.setIfInBounds_toArray, List.set_cons_zero, List.set_cons_succ]
        first | (refine wpU_takeB (i := 7) (v := ?_) HOPS rfl (by kernel_rfl) (fun _ _ _ h => h) HCL (goes_read (by rfl) ?hy) ?_; case hy => (intro w hSw; (try dsimp only at hSw); go_simp; (try with_reducible rfl))) | (refine wpU_takeB (i := 7) (v := _) HOPS rfl (by kernel_rfl) (fun _ _ _ h => h) HCL (goes_not (by rfl)) ?_)
        try simp only [Act.put, List.getElem_toArray, List.getElem_cons_succ, List.getElem_cons_zero, List.setIfInBounds_toArray, List.set_cons_zero, List.set_cons_succ]
        first | (refine wpU_takeB (i := 8) (v := ?_) HOPS rfl (by kernel_rfl) (fun _ _ _ h => h) HCL (goes_read (by rfl) ?hy) ?_; case hy => (intro w hSw; (try dsimp only at hSw); go_simp; (try with_reducible rfl))) | (refine wpU_takeB (i := 8) (v := _) HOPS rfl (by kernel_rfl) (fun _ _ _ h => h) HCL (goes_not (by rfl)) ?_)
        try simp only [Act.put, List.getElem_toArray, List.getElem_cons_succ, List.getElem_cons_zero, List.setIfInBounds_toArray, List.set_cons_zero, List.set_cons_succ]
        first | (refine wpU_takeB (i := 9) (v := ?_) HOPS rfl (by kernel_rfl) (fun _ _ _ h => h) HCL (goes_read (by rfl) ?hy) ?_; case hy => (intro w hSw; (try dsimp only at hSw); go_simp; (try with_reducible rfl))) | (refine wpU_takeB (i := 9) (v := _) HOPS rfl (by kernel_rfl) (fun _ _ _ h => h) HCL (goes_not (by rfl)) ?_)
        try simp only [Act.put, List.getElem_toArray, List.getElem_cons_succ, List.getElem_cons_zero, List.setIfInBounds_toArray, List.set_cons_zero, List.set_cons_succ]
        first | (refine wpU_takeB (i := 10) (v := ?_) HOPS rfl (by kernel_rfl) (fun _ _ _ h => h) HCL (goes_read (by rfl) ?hy) ?_; case hy => (intro w hSw; (try dsimp only at hSw); go_simp; (try with_reducible rfl))) | (refine wpU_takeB (i := 10) (v := _) HOPS rfl (by kernel_rfl) (fun _ _ _ h => h) HCL (goes_not (by rfl)) ?_)
        try simp only [Act.put, List.getElem_toArray, List.getElem_cons_succ, List.getElem_cons_zero, List.setIfInBounds_toArray, List.set_cons_zero, List.set_cons_succ]
        first | (refine wpU_takeB (i := 11) (v := ?_) HOPS rfl (by kernel_rfl) (fun _ _ _ h => h) HCL (goes_read (by rfl) ?hy) ?_; case hy => (intro w hSw; (try dsimp only at hSw); go_simp; (try with_reducible rfl))) | (refine wpU_takeB (i := 11) (v := _) HOPS rfl (by kernel_rfl) (fun _ _ _ h => h) HCL (goes_not (by rfl)) ?_)
        try simp only [Act.put, List.getElem_toArray, List.getElem_cons_succ, List.getElem_cons_zero, List.setIfInBounds_toArray, List.set_cons_zero, List.set_cons_succ]
        first | (refine wpU_takeB (i := 12) (v := ?_) HOPS rfl (by kernel_rfl) (fun _ _ _ h => h) HCL (goes_read (by rfl) ?hy) ?_; case hy => (intro w hSw; (try dsimp only at hSw); go_simp; (try with_reducible rfl))) | (refine wpU_takeB (i := 12) (v := _) HOPS rfl (by kernel_rfl) (fun _ _ _ h => h) HCL (goes_not (by rfl)) ?_)
        try simp only [Act.put, List.getElem_toArray, List.getElem_cons_succ, List.getElem_cons_zero, List.setIfInBounds_toArray, List.set_cons_zero, List.set_cons_succ]
        first | (refine wpU_takeB (i := 13) (v := ?_) HOPS rfl (by kernel_rfl) (fun _ _ _ h => h) HCL (goes_read (by rfl) ?hy) ?_; case hy => (intro w hSw; (try dsimp only at hSw); go_simp; (try with_reducible rfl))) | (refine wpU_takeB (i := 13) (v := _) HOPS rfl (by kernel_rfl) (fun _ _ _ h => h) HCL (goes_not (by rfl)) ?_)
        try simp only [Act.put, List.getElem_toArray, List.getElem_cons_succ, List.getElem_cons_zero, List.setIfInBounds_toArray, List.set_cons_zero, List.set_cons_succ]
        refine wpU_done (by kernel_rfl) (fun w3 hle => ?_) _
        have n := (hle.ahead (by kernel_rfl)).1
        replace HI := Lib.hid (HI.out.ch n (fun _ _ e => e))
        replace HN := Lib.hid (HN.out.trans n)
        replace hw := Nat.le_trans hw n.size
        clear n
        clear HOPS HCL hle
        repeat clear hHeld
        go_upto_region 6 with (fail)
        refine wp_region_lit ?_
        refine wpList_plain rfl fun K hK => ?_
        go_simp
        refine hK _ _ ?_
        clear hK K
        try simp only [Act.put, List.getElem_toArray, List.getElem_cons_succ, List.getElem_cons_zero, List.setIfInBounds_toArray, List.set_cons_zero, List.set_cons_succ]
        refine wpList_plain rfl fun K hK => ?_
        go_simp
        refine hK _ _ ?_
        clear hK K
        try simp only [Act.put, List.getElem_toArray, List.getElem_cons_succ, List.getElem_cons_zero, List.setIfInBounds_toArray, List.set_cons_zero, List.set_cons_succ]
        refine wpList_plain rfl fun K hK => ?_
        go_simp
        refine hK _ _ ?_
        clear hK K
        try simp only [Act.put, List.getElem_toArray, List.getElem_cons_succ, List.getElem_cons_zero, List.setIfInBounds_toArray, List.set_cons_zero, List.set_cons_succ]
        have ik : k < s.size := hlt
        have hsx : s[k]'ik = x := by have h := HXX.out; rw [← HL.out] at h; exact ba_get s ik h
        refine wpList_plain rfl fun K hK => ?_
        go_simp
        try rw [hsx]
        refine hK _ _ ?_
        clear hK K hsx
        try simp only [Act.put, List.getElem_toArray, List.getElem_cons_succ, List.getElem_cons_zero, List.setIfInBounds_toArray, List.set_cons_zero, List.set_cons_succ]
        refine wpList_plain rfl fun K hK => ?_
        go_simp
        go_at_call 19
        refine rscript_any x _ _ ?_
        rw [HXA.out]
        refine hK _ _ ?_
        clear hK K
        try simp only [Act.put, List.getElem_toArray, List.getElem_cons_succ, List.getElem_cons_zero, List.setIfInBounds_toArray, List.set_cons_zero, List.set_cons_succ]
        refine wpList_plain rfl fun K hK => ?_
        go_simp
        refine hK _ _ ?_
        clear hK K
        try simp only [Act.put, List.getElem_toArray, List.getElem_cons_succ, List.getElem_cons_zero, List.setIfInBounds_toArray, List.set_cons_zero, List.set_cons_succ]
        refine wpList_plain rfl fun K hK => ?_
        go_simp
        refine hK _ _ ?_
        clear hK K
        try simp only [Act.put, List.getElem_toArray, List.getElem_cons_succ, List.getElem_cons_zero, List.setIfInBounds_toArray, List.set_cons_zero, List.set_cons_succ]
        refine wpList_plain rfl fun K hK => ?_
        refine wp_lit1x3 32 37 _ rfl Tryd.underlying32 (by kernel_rfl) (by rfl) ?_
        refine hK _ _ ?_
        clear hK K
        try simp only [Act.put, List.getElem_toArray, List.getElem_cons_succ, List.getElem_cons_zero, List.setIfInBounds_toArray, List.set_cons_zero, List.set_cons_succ]
        refine wpList_plain rfl fun K hK => ?_
        refine wp_app _ (.tmp 25) (.tmp 32) 32 37 3 24 rfl Tryd.underlying32 (.agg #[.int .i64 0, .int .i64 0, .int .i64 0]) (by kernel_rfl) rfl (by omega) (by omega) w.heap.size _ rl _ (by rfl) (HI.out.ch ((Ch.refl (fun _ => False) _).alloc _) (fun _ _ e => e)) _ _ _ (by rfl) (heap_alloc_eq _ rfl) rfl (by intro u hu; simp at hu; rcases hu with rfl | rfl | rfl <;> rfl) (by omega) (by rw [alloc_size]; omega) ?_
        intro g9 c9 w9 hrow9 hgr9 hor9
        have HG9 := Lib.hid (show Nw w w9 from (HN.out.alloc _).grown hgr9 (fun j e hj => by have := (HI.out.lt j e).1; omega))
        have HRW := Lib.hid (show CRow w9 37 3 w.heap.size (.slice (some ⟨g9, 0, none⟩) (rl + 1) c9) (rl + 1) (runC (runsTo L k ++ [(xa, k, 0)])) from by rw [runC_snoc]; exact hrow9)
        clear hrow9 hgr9 hor9
        refine hK _ _ ?_
        clear hK K
        try simp only [Act.put, List.getElem_toArray, List.getElem_cons_succ, List.getElem_cons_zero, List.setIfInBounds_toArray, List.set_cons_zero, List.set_cons_succ]
        obtain ⟨R9, hR9⟩ : ∃ R, runsTo L k = R := ⟨_, rfl⟩
        rw [hR9] at HRW HST RL
        clear HI HN
        have HN := HG9
        have rl1 := RL.out
        clear hR9
        obtain ⟨hg7, hn7, d7, f7, hrow7⟩ := row_till HRW.out (k + 1) ((k : Int) + 1) (by omega)
        rw [rl1] at d7 f7 hrow7
        have HR7 := Lib.hid hrow7
        clear hrow7 rl1 hn7
        have p0 : (0 : Int) ≤ (rl : Int) := by omega
        have p1 : (rl : Int) < (rl : Int) + 1 := by omega
        have p9 : (rl : Int) ≤ (s.size : Int) := by omega
        go_wp2_with (fail)
        refine ⟨⟨k + 1, by go_num, by omega, Lib.hid ?_, Lib.hid (HN.out.setb (fun hb => by omega) _)⟩, by simp [intOf]; omega⟩
        rw [HST.out, List.length_append, List.length_singleton, RL.out]
        exact HR7.out
      · as_aux_lemma =>
        have kz : ((k : Int) == 0) = false := by simp [hk0]
        obtain ⟨j, hj⟩ : ∃ j, j + 1 = k := ⟨k - 1, by omega⟩
        have u1 : IntKind.i64.wrap ((k : Int) - 1) = (j : Int) := by rw [IntKind.wrap_i64]; omega
        have j0 : (0 : Int) ≤ (j : Int) := by omega
        have j1 : (j : Int) < (s.size : Int) := by omega
        obtain ⟨y, hy⟩ : ∃ y, L[j]? = some y := ⟨_, List.getElem?_eq_getElem (by omega)⟩
        have HYY := Lib.hid hy
        have HY0 := Lib.hid (show at0 L (k - 1) = y from by rw [show k - 1 = j by omega]; exact at0_get hy)
        obtain ⟨ya, hya⟩ : ∃ n, scr y = n := ⟨_, rfl⟩
        have HYA := Lib.hid hya
        clear hy hya
        by_cases hxy : xa = ya
        · as_aux_lemma =>
          have e2 : ((xa : Int) != (ya : Int)) = false := by simp [hxy]
          obtain ⟨R9, a9, b9, c9, hR9⟩ := runsTo_ne L k (by omega)
          have HST := Lib.hid (runsTo_go (by rw [HX0.out, HXA.out, HY0.out, HYA.out]; omega) hR9)
          rw [hR9] at HI
          have RR9 := hR9
          clear hxy hR9
          have rl1 := RL.out
          rw [RR9, List.length_append, List.length_singleton] at rl1
          obtain ⟨g8, rfl⟩ := HI.out.some (by omega)
          go_upto_region 5 with (fail)
          refine wp_named ?_
          intro W4 hW
          have n : Nw wr W4 := by rw [hW]; first | exact Ch.refl _ _ | exact (Ch.refl _ _).alloc _
          replace HI := Lib.hid (HI.out.ch n (fun _ _ e => e))
          replace HN := Lib.hid (HN.out.trans n)
          replace hw := Nat.le_trans hw n.size
          clear hW n
          refine wp_region_V (F := fun w' => True) (opsOf Tryd.f15 5) 14 14 (by kernel_rfl) (by kernel_rfl) (by kernel_rfl) (fun w w' h n => True.intro) True.intro (fun HOPS HCL hHeld => ?_)
          refine wpU_named ?_
          intro W5 hW
          try rw [← hW] at hHeld
          have n : Nw W4 W5 := by rw [hW]; exact (Ch.refl _ _).drew
          replace HI := Lib.hid (HI.out.ch n (fun _ _ e => e))
          replace HN := Lib.hid (HN.out.trans n)
          replace hw := Nat.le_trans hw n.size
          clear hW n
          first | (refine wpU_takeB (i := 0) (v := ?_) HOPS rfl (by kernel_rfl) (fun _ _ _ h => h) HCL (goes_read (by rfl) ?hy) ?_; case hy => (intro w hSw; (try dsimp only at hSw); go_simp; (try with_reducible rfl))) | (refine wpU_takeB (i := 0) (v := _) HOPS rfl (by kernel_rfl) (fun _ _ _ h => h) HCL (goes_not (by rfl)) ?_)
          try simp only [Act.put, List.getElem_toArray, List.getElem_cons_succ, List.getElem_cons_zero, List.setIfInBounds_toArray, List.set_cons_zero, List.set_cons_succ]
          first | (refine wpU_takeB (i := 1) (v := ?_) HOPS rfl (by kernel_rfl) (fun _ _ _ h => h) HCL (goes_read (by rfl) ?hy) ?_; case hy => (intro w hSw; (try dsimp only at hSw); go_simp; (try with_reducible rfl))) | (refine wpU_takeB (i := 1) (v := _) HOPS rfl (by kernel_rfl) (fun _ _ _ h => h) HCL (goes_not (by rfl)) ?_)
          try simp only [Act.put, List.getElem_toArray, List.getElem_cons_succ, List.getElem_cons_zero, List.setIfInBounds_toArray, List.set_cons_zero, List.set_cons_succ]
          first | (refine wpU_takeB (i := 2) (v := ?_) HOPS rfl (by kernel_rfl) (fun _ _ _ h => h) HCL (goes_read (by rfl) ?hy) ?_; case hy => (intro w hSw; (try dsimp only at hSw); go_simp; (try with_reducible rfl))) | (refine wpU_takeB (i := 2) (v := _) HOPS rfl (by kernel_rfl) (fun _ _ _ h => h) HCL (goes_not (by rfl)) ?_)
          try simp only [Act.put, List.getElem_toArray, List.getElem_cons_succ, List.getElem_cons_zero, List.setIfInBounds_toArray, List.set_cons_zero, List.set_cons_succ]
          first | (refine wpU_takeB (i := 3) (v := ?_) HOPS rfl (by kernel_rfl) (fun _ _ _ h => h) HCL (goes_read (by rfl) ?hy) ?_; case hy => (intro w hSw; (try dsimp only at hSw); go_simp; (try with_reducible rfl))) | (refine wpU_takeB (i := 3) (v := _) HOPS rfl (by kernel_rfl) (fun _ _ _ h => h) HCL (goes_not (by rfl)) ?_)
          try simp only [Act.put, List.getElem_toArray, List.getElem_cons_succ, List.getElem_cons_zero, List.setIfInBounds_toArray, List.set_cons_zero, List.set_cons_succ]
          first | (refine wpU_takeB (i := 4) (v := ?_) HOPS rfl (by kernel_rfl) (fun _ _ _ h => h) HCL (goes_read (by rfl) ?hy) ?_; case hy => (intro w hSw; (try dsimp only at hSw); go_simp; (try with_reducible rfl))) | (refine wpU_takeB (i := 4) (v := _) HOPS rfl (by kernel_rfl) (fun _ _ _ h => h) HCL (goes_not (by rfl)) ?_)
          try simp only [Act.put, List.getElem_toArray, List.getElem_cons_succ, List.getElem_cons_zero, List.setIfInBounds_toArray, List.set_cons_zero, List.set_cons_succ]
          first | (refine wpU_takeB (i := 7) (v := ?_) HOPS rfl (by kernel_rfl) (fun _ _ _ h => h) HCL (goes_read (by rfl) ?hy) ?_; case hy => (intro w hSw; (try dsimp only at hSw); go_simp; (try with_reducible rfl))) | (refine wpU_takeB (i := 7) (v := _) HOPS rfl (by kernel_rfl) (fun _ _ _ h => h) HCL (goes_not (by rfl)) ?_)
          try simp only [Act.put, List.getElem_toArray, List.getElem_cons_succ, List.getElem_cons_zero, List.setIfInBounds_toArray, List.set_cons_zero, List.set_cons_succ]
          first | (refine wpU_takeB (i := 8) (v := ?_) HOPS rfl (by kernel_rfl) (fun _ _ _ h => h) HCL (goes_read (by rfl) ?hy) ?_; case hy => (intro w hSw; (try dsimp only at hSw); go_simp; (try with_reducible rfl))) | (refine wpU_takeB (i := 8) (v := _) HOPS rfl (by kernel_rfl) (fun _ _ _ h => h) HCL (goes_not (by rfl)) ?_)
          try simp only [Act.put, List.getElem_toArray, List.getElem_cons_succ, List.getElem_cons_zero, List.setIfInBounds_toArray, List.set_cons_zero, List.set_cons_succ]
          first | (refine wpU_takeB (i := 9) (v := ?_) HOPS rfl (by kernel_rfl) (fun _ _ _ h => h) HCL (goes_read (by rfl) ?hy) ?_; case hy => (intro w hSw; (try dsimp only at hSw); go_simp; (try with_reducible rfl))) | (refine wpU_takeB (i := 9) (v := _) HOPS rfl (by kernel_rfl) (fun _ _ _ h => h) HCL (goes_not (by rfl)) ?_)
          try simp only [Act.put, List.getElem_toArray, List.getElem_cons_succ, List.getElem_cons_zero, List.setIfInBounds_toArray, List.set_cons_zero, List.set_cons_succ]
          refine wpU_takeB (i := 5) HOPS rfl (by kernel_rfl) (fun _ _ _ h => h) HCL (goes_idx _ _ _ s k x _ (by rfl) rfl Tryd.underlying9 (by rfl) (by rfl) (by rw [HL.out]; exact HXX.out) rfl) ?_
          try simp only [Act.put, List.getElem_toArray, List.getElem_cons_succ, List.getElem_cons_zero, List.setIfInBounds_toArray, List.set_cons_zero, List.set_cons_succ]
          refine wpU_takeB (i := 6) HOPS rfl (by kernel_rfl) (fun _ _ _ h => h) HCL (goes_fn (v := (.int .i64 (xa : Nat))) 19 _ _ _ #[.int .u8 (x.toNat : Nat)] (by rfl) rfl (by kernel_rfl) (by kernel_rfl) (by kernel_rfl) (fun wq n R hR => ?_)) ?_
          · exact rscript_any x _ _ (by rw [HXA.out]; exact hR _ (Ch.refl _ _))
          try simp only [Act.put, List.getElem_toArray, List.getElem_cons_succ, List.getElem_cons_zero, List.setIfInBounds_toArray, List.set_cons_zero, List.set_cons_succ]
          refine wpU_takeB (i := 10) HOPS rfl (by kernel_rfl) (fun _ _ _ h => h) HCL (goes_idx _ _ _ s j y _ (by rfl) rfl Tryd.underlying9 (by rfl) (by rfl) (by rw [HL.out]; exact HYY.out) rfl) ?_
          try simp only [Act.put, List.getElem_toArray, List.getElem_cons_succ, List.getElem_cons_zero, List.setIfInBounds_toArray, List.set_cons_zero, List.set_cons_succ]
          refine wpU_takeB (i := 11) HOPS rfl (by kernel_rfl) (fun _ _ _ h => h) HCL (goes_fn (v := (.int .i64 (ya : Nat))) 19 _ _ _ #[.int .u8 (y.toNat : Nat)] (by rfl) rfl (by kernel_rfl) (by kernel_rfl) (by kernel_rfl) (fun wq n R hR => ?_)) ?_
          · exact rscript_any y _ _ (by rw [HYA.out]; exact hR _ (Ch.refl _ _))
          try simp only [Act.put, List.getElem_toArray, List.getElem_cons_succ, List.getElem_cons_zero, List.setIfInBounds_toArray, List.set_cons_zero, List.set_cons_succ]
          first | (refine wpU_takeB (i := 12) (v := ?_) HOPS rfl (by kernel_rfl) (fun _ _ _ h => h) HCL (goes_read (by rfl) ?hy) ?_; case hy => (intro w hSw; (try dsimp only at hSw); go_simp; (try with_reducible rfl))) | (refine wpU_takeB (i := 12) (v := _) HOPS rfl (by kernel_rfl) (fun _ _ _ h => h) HCL (goes_not (by rfl)) ?_)
          try simp only [Act.put, List.getElem_toArray, List.getElem_cons_succ, List.getElem_cons_zero, List.setIfInBounds_toArray, List.set_cons_zero, List.set_cons_succ]
          first | (refine wpU_takeB (i := 13) (v := ?_) HOPS rfl (by kernel_rfl) (fun _ _ _ h => h) HCL (goes_read (by rfl) ?hy) ?_; case hy => (intro w hSw; (try dsimp only at hSw); go_simp; (try with_reducible rfl))) | (refine wpU_takeB (i := 13) (v := _) HOPS rfl (by kernel_rfl) (fun _ _ _ h => h) HCL (goes_not (by rfl)) ?_)
          try simp only [Act.put, List.getElem_toArray, List.getElem_cons_succ, List.getElem_cons_zero, List.setIfInBounds_toArray, List.set_cons_zero, List.set_cons_succ]
          refine wpU_done (by kernel_rfl) (fun w6 hle => ?_) _
          have n := (hle.ahead (by kernel_rfl)).1
          replace HI := Lib.hid (HI.out.ch n (fun _ _ e => e))
          replace HN := Lib.hid (HN.out.trans n)
          replace hw := Nat.le_trans hw n.size
          clear n
          clear HOPS HCL hle
          repeat clear hHeld
          have HRW := Lib.hid HI.out
          obtain ⟨q9, hq9⟩ : ∃ q, List.length R9 = q := ⟨_, rfl⟩
          rw [hq9] at rl1
          subst rl1
          clear RR9
          obtain ⟨hg7, hn7, d7, f7, hrow7⟩ := row_till HRW.out (k + 1) ((k : Int) + 1) (by omega)
          rw [hq9] at d7 f7 hrow7
          have HP := Lib.hid hq9
          have HR7 := Lib.hid hrow7
          clear hrow7 hq9 hn7
          have p0 : (0 : Int) ≤ (q9 : Int) := by omega
          have p1 : (q9 : Int) < (q9 : Int) + 1 := by omega
          have p9 : (q9 : Int) ≤ (s.size : Int) := by omega
          go_wp2_with (fail)
          refine ⟨⟨k + 1, by go_num, by omega, Lib.hid ?_, Lib.hid (HN.out.setb (fun hb => by omega) _)⟩, by simp [intOf]; omega⟩
          rw [HST.out, List.length_append, List.length_singleton, HP.out]
          exact HR7.out
        · as_aux_lemma =>
          have e2 : ((xa : Int) != (ya : Int)) = true := by simp; omega
          have HST := Lib.hid (show runsTo L (k + 1) = runsTo L k ++ [(xa, k, k + 1)] from by rw [runsTo_new (Or.inr (by rw [HX0.out, HXA.out, HY0.out, HYA.out]; exact hxy)), HX0.out, HXA.out])
          clear hxy
          go_upto_region 5 with (fail)
          refine wp_named ?_
          intro W7 hW
          have n : Nw wr W7 := by rw [hW]; first | exact Ch.refl _ _ | exact (Ch.refl _ _).alloc _
          replace HI := Lib.hid (HI.out.ch n (fun _ _ e => e))
          replace HN := Lib.hid (HN.out.trans n)
          replace hw := Nat.le_trans hw n.size
          clear hW n
          refine wp_region_V (F := fun w' => True) (opsOf Tryd.f15 5) 14 14 (by kernel_rfl) (by kernel_rfl) (by kernel_rfl) (fun w w' h n => True.intro) True.intro (fun HOPS HCL hHeld => ?_)
          refine wpU_named ?_
          intro W8 hW
          try rw [← hW] at hHeld
          have n : Nw W7 W8 := by rw [hW]; exact (Ch.refl _ _).drew
          replace HI := Lib.hid (HI.out.ch n (fun _ _ e => e))
          replace HN := Lib.hid (HN.out.trans n)
          replace hw := Nat.le_trans hw n.size
          clear hW n
          first | (refine wpU_takeB (i := 0) (v := ?_) HOPS rfl (by kernel_rfl) (fun _ _ _ h => h) HCL (goes_read (by rfl) ?hy) ?_; case hy => (intro w hSw; (try dsimp only at hSw); go_simp; (try with_reducible rfl))) | (refine wpU_takeB (i := 0) (v := _) HOPS rfl (by kernel_rfl) (fun _ _ _ h => h) HCL (goes_not (by rfl)) ?_)
          try simp only [Act.put, List.getElem_toArray, List.getElem_cons_succ, List.getElem_cons_zero, List.setIfInBounds_toArray, List.set_cons_zero, List.set_cons_succ]
          first | (refine wpU_takeB (i := 1) (v := ?_) HOPS rfl (by kernel_rfl) (fun _ _ _ h => h) HCL (goes_read (by rfl) ?hy) ?_; case hy => (intro w hSw; (try dsimp only at hSw); go_simp; (try with_reducible rfl))) | (refine wpU_takeB (i := 1) (v := _) HOPS rfl (by kernel_rfl) (fun _ _ _ h => h) HCL (goes_not (by rfl)) ?_)
          try simp only [Act.put, List.getElem_toArray, List.getElem_cons_succ, List.getElem_cons_zero, List.setIfInBounds_toArray, List.set_cons_zero, List.set_cons_succ]
          first | (refine wpU_takeB (i := 2) (v := ?_) HOPS rfl (by kernel_rfl) (fun _ _ _ h => h) HCL (goes_read (by rfl) ?hy) ?_; case hy => (intro w hSw; (try dsimp only at hSw); go_simp; (try with_reducible rfl))) | (refine wpU_takeB (i := 2) (v := _) HOPS rfl (by kernel_rfl) (fun _ _ _ h => h) HCL (goes_not (by rfl)) ?_)
          try simp only [Act.put, List.getElem_toArray, List.getElem_cons_succ, List.getElem_cons_zero, List.setIfInBounds_toArray, List.set_cons_zero, List.set_cons_succ]
          first | (refine wpU_takeB (i := 3) (v := ?_) HOPS rfl (by kernel_rfl) (fun _ _ _ h => h) HCL (goes_read (by rfl) ?hy) ?_; case hy => (intro w hSw; (try dsimp only at hSw); go_simp; (try with_reducible rfl))) | (refine wpU_takeB (i := 3) (v := _) HOPS rfl (by kernel_rfl) (fun _ _ _ h => h) HCL (goes_not (by rfl)) ?_)
          try simp only [Act.put, List.getElem_toArray, List.getElem_cons_succ, List.getElem_cons_zero, List.setIfInBounds_toArray, List.set_cons_zero, List.set_cons_succ]
          first | (refine wpU_takeB (i := 4) (v := ?_) HOPS rfl (by kernel_rfl) (fun _ _ _ h => h) HCL (goes_read (by rfl) ?hy) ?_; case hy => (intro w hSw; (try dsimp only at hSw); go_simp; (try with_reducible rfl))) | (refine wpU_takeB (i := 4) (v := _) HOPS rfl (by kernel_rfl) (fun _ _ _ h => h) HCL (goes_not (by rfl)) ?_)
          try simp only [Act.put, List.getElem_toArray, List.getElem_cons_succ, List.getElem_cons_zero, List.setIfInBounds_toArray, List.set_cons_zero, List.set_cons_succ]
          first | (refine wpU_takeB (i := 7) (v := ?_) HOPS rfl (by kernel_rfl) (fun _ _ _ h => h) HCL (goes_read (by rfl) ?hy) ?_; case hy => (intro w hSw; (try dsimp only at hSw); go_simp; (try with_reducible rfl))) | (refine wpU_takeB (i := 7) (v := _) HOPS rfl (by kernel_rfl) (fun _ _ _ h => h) HCL (goes_not (by rfl)) ?_)
          try simp only [Act.put, List.getElem_toArray, List.getElem_cons_succ, List.getElem_cons_zero, List.setIfInBounds_toArray, List.set_cons_zero, List.set_cons_succ]
          first | (refine wpU_takeB (i := 8) (v := ?_) HOPS rfl (by kernel_rfl) (fun _ _ _ h => h) HCL (goes_read (by rfl) ?hy) ?_; case hy => (intro w hSw; (try dsimp only at hSw); go_simp; (try with_reducible rfl))) | (refine wpU_takeB (i := 8) (v := _) HOPS rfl (by kernel_rfl) (fun _ _ _ h => h) HCL (goes_not (by rfl)) ?_)
          try simp only [Act.put, List.getElem_toArray, List.getElem_cons_succ, List.getElem_cons_zero, List.setIfInBounds_toArray, List.set_cons_zero, List.set_cons_succ]
          first | (refine wpU_takeB (i := 9) (v := ?_) HOPS rfl (by kernel_rfl) (fun _ _ _ h => h) HCL (goes_read (by rfl) ?hy) ?_; case hy => (intro w hSw; (try dsimp only at hSw); go_simp; (try with_reducible rfl))) | (refine wpU_takeB (i := 9) (v := _) HOPS rfl (by kernel_rfl) (fun _ _ _ h => h) HCL (goes_not (by rfl)) ?_)
          try simp only [Act.put, List.getElem_toArray, List.getElem_cons_succ, List.getElem_cons_zero, List.setIfInBounds_toArray, List.set_cons_zero, List.set_cons_succ]
          refine wpU_takeB (i := 5) HOPS rfl (by kernel_rfl) (fun _ _ _ h => h) HCL (goes_idx _ _ _ s k x _ (by rfl) rfl Tryd.underlying9 (by rfl) (by rfl) (by rw [HL.out]; exact HXX.out) rfl) ?_
          try simp only [Act.put, List.getElem_toArray, List.getElem_cons_succ, List.getElem_cons_zero, List.setIfInBounds_toArray, List.set_cons_zero, List.set_cons_succ]
          refine wpU_takeB (i := 6) HOPS rfl (by kernel_rfl) (fun _ _ _ h => h) HCL (goes_fn (v := (.int .i64 (xa : Nat))) 19 _ _ _ #[.int .u8 (x.toNat : Nat)] (by rfl) rfl (by kernel_rfl) (by kernel_rfl) (by kernel_rfl) (fun wq n R hR => ?_)) ?_
          · exact rscript_any x _ _ (by rw [HXA.out]; exact hR _ (Ch.refl _ _))
          try simp only [Act.put, List.getElem_toArray, List.getElem_cons_succ, List.getElem_cons_zero, List.setIfInBounds_toArray, List.set_cons_zero, List.set_cons_succ]
          refine wpU_takeB (i := 10) HOPS rfl (by kernel_rfl) (fun _ _ _ h => h) HCL (goes_idx _ _ _ s j y _ (by rfl) rfl Tryd.underlying9 (by rfl) (by rfl) (by rw [HL.out]; exact HYY.out) rfl) ?_
          try simp only [Act.put, List.getElem_toArray, List.getElem_cons_succ, List.getElem_cons_zero, List.setIfInBounds_toArray, List.set_cons_zero, List.set_cons_succ]
          refine wpU_takeB (i := 11) HOPS rfl (by kernel_rfl) (fun _ _ _ h => h) HCL (goes_fn (v := (.int .i64 (ya : Nat))) 19 _ _ _ #[.int .u8 (y.toNat : Nat)] (by rfl) rfl (by kernel_rfl) (by kernel_rfl) (by kernel_rfl) (fun wq n R hR => ?_)) ?_
          · exact rscript_any y _ _ (by rw [HYA.out]; exact hR _ (Ch.refl _ _))
          try simp only [Act.put, List.getElem_toArray, List.getElem_cons_succ, List.getElem_cons_zero, List.setIfInBounds_toArray, List.set_cons_zero, List.set_cons_succ]
          first | (refine wpU_takeB (i := 12) (v := ?_) HOPS rfl (by kernel_rfl) (fun _ _ _ h => h) HCL (goes_read (by rfl) ?hy) ?_; case hy => (intro w hSw; (try dsimp only at hSw); go_simp; (try with_reducible rfl))) | (refine wpU_takeB (i := 12) (v := _) HOPS rfl (by kernel_rfl) (fun _ _ _ h => h) HCL (goes_not (by rfl)) ?_)
          try simp only [Act.put, List.getElem_toArray, List.getElem_cons_succ, List.getElem_cons_zero, List.setIfInBounds_toArray, List.set_cons_zero, List.set_cons_succ]
          first | (refine wpU_takeB (i := 13) (v := ?_) HOPS rfl (by kernel_rfl) (fun _ _ _ h => h) HCL (goes_read (by rfl) ?hy) ?_; case hy => (intro w hSw; (try dsimp only at hSw); go_simp; (try with_reducible rfl))) | (refine wpU_takeB (i := 13) (v := _) HOPS rfl (by kernel_rfl) (fun _ _ _ h => h) HCL (goes_not (by rfl)) ?_)
          try simp only [Act.put, List.getElem_toArray, List.getElem_cons_succ, List.getElem_cons_zero, List.setIfInBounds_toArray, List.set_cons_zero, List.set_cons_succ]
          refine wpU_done (by kernel_rfl) (fun w9 hle => ?_) _
          have n := (hle.ahead (by kernel_rfl)).1
          replace HI := Lib.hid (HI.out.ch n (fun _ _ e => e))
          replace HN := Lib.hid (HN.out.trans n)
          replace hw := Nat.le_trans hw n.size
          clear n
          clear HOPS HCL hle
          repeat clear hHeld
          go_upto_region 6 with (fail)
          refine wp_region_lit ?_
          refine wpList_plain rfl fun K hK => ?_
          go_simp
          refine hK _ _ ?_
          clear hK K
          try simp only [Act.put, List.getElem_toArray, List.getElem_cons_succ, List.getElem_cons_zero, List.setIfInBounds_toArray, List.set_cons_zero, List.set_cons_succ]
          refine wpList_plain rfl fun K hK => ?_
          go_simp
          refine hK _ _ ?_
          clear hK K
          try simp only [Act.put, List.getElem_toArray, List.getElem_cons_succ, List.getElem_cons_zero, List.setIfInBounds_toArray, List.set_cons_zero, List.set_cons_succ]
          refine wpList_plain rfl fun K hK => ?_
          go_simp
          refine hK _ _ ?_
          clear hK K
          try simp only [Act.put, List.getElem_toArray, List.getElem_cons_succ, List.getElem_cons_zero, List.setIfInBounds_toArray, List.set_cons_zero, List.set_cons_succ]
          have ik : k < s.size := hlt
          have hsx : s[k]'ik = x := by have h := HXX.out; rw [← HL.out] at h; exact ba_get s ik h
          refine wpList_plain rfl fun K hK => ?_
          go_simp
          try rw [hsx]
          refine hK _ _ ?_
          clear hK K hsx
          try simp only [Act.put, List.getElem_toArray, List.getElem_cons_succ, List.getElem_cons_zero, List.setIfInBounds_toArray, List.set_cons_zero, List.set_cons_succ]
          refine wpList_plain rfl fun K hK => ?_
          go_simp
          go_at_call 19
          refine rscript_any x _ _ ?_
          rw [HXA.out]
          refine hK _ _ ?_
          clear hK K
          try simp only [Act.put, List.getElem_toArray, List.getElem_cons_succ, List.getElem_cons_zero, List.setIfInBounds_toArray, List.set_cons_zero, List.set_cons_succ]
          refine wpList_plain rfl fun K hK => ?_
          go_simp
          refine hK _ _ ?_
          clear hK K
          try simp only [Act.put, List.getElem_toArray, List.getElem_cons_succ, List.getElem_cons_zero, List.setIfInBounds_toArray, List.set_cons_zero, List.set_cons_succ]
          refine wpList_plain rfl fun K hK => ?_
          go_simp
          refine hK _ _ ?_
          clear hK K
          try simp only [Act.put, List.getElem_toArray, List.getElem_cons_succ, List.getElem_cons_zero, List.setIfInBounds_toArray, List.set_cons_zero, List.set_cons_succ]
          refine wpList_plain rfl fun K hK => ?_
          refine wp_lit1x3 32 37 _ rfl Tryd.underlying32 (by kernel_rfl) (by rfl) ?_
          refine hK _ _ ?_
          clear hK K
          try simp only [Act.put, List.getElem_toArray, List.getElem_cons_succ, List.getElem_cons_zero, List.setIfInBounds_toArray, List.set_cons_zero, List.set_cons_succ]
          refine wpList_plain rfl fun K hK => ?_
          refine wp_app _ (.tmp 25) (.tmp 32) 32 37 3 24 rfl Tryd.underlying32 (.agg #[.int .i64 0, .int .i64 0, .int .i64 0]) (by kernel_rfl) rfl (by omega) (by omega) w.heap.size _ rl _ (by rfl) (HI.out.ch ((Ch.refl (fun _ => False) _).alloc _) (fun _ _ e => e)) _ _ _ (by rfl) (heap_alloc_eq _ rfl) rfl (by intro u hu; simp at hu; rcases hu with rfl | rfl | rfl <;> rfl) (by omega) (by rw [alloc_size]; omega) ?_
          intro g9 c9 w9 hrow9 hgr9 hor9
          have HG9 := Lib.hid (show Nw w w9 from (HN.out.alloc _).grown hgr9 (fun j e hj => by have := (HI.out.lt j e).1; omega))
          have HRW := Lib.hid (show CRow w9 37 3 w.heap.size (.slice (some ⟨g9, 0, none⟩) (rl + 1) c9) (rl + 1) (runC (runsTo L k ++ [(xa, k, 0)])) from by rw [runC_snoc]; exact hrow9)
          clear hrow9 hgr9 hor9
          refine hK _ _ ?_
          clear hK K
          try simp only [Act.put, List.getElem_toArray, List.getElem_cons_succ, List.getElem_cons_zero, List.setIfInBounds_toArray, List.set_cons_zero, List.set_cons_succ]
          obtain ⟨R9, hR9⟩ : ∃ R, runsTo L k = R := ⟨_, rfl⟩
          rw [hR9] at HRW HST RL
          clear HI HN
          have HN := HG9
          have rl1 := RL.out
          clear hR9
          obtain ⟨hg7, hn7, d7, f7, hrow7⟩ := row_till HRW.out (k + 1) ((k : Int) + 1) (by omega)
          rw [rl1] at d7 f7 hrow7
          have HR7 := Lib.hid hrow7
          clear hrow7 rl1 hn7
          have p0 : (0 : Int) ≤ (rl : Int) := by omega
          have p1 : (rl : Int) < (rl : Int) + 1 := by omega
          have p9 : (rl : Int) ≤ (s.size : Int) := by omega
          go_wp2_with (fail)
          refine ⟨⟨k + 1, by go_num, by omega, Lib.hid ?_, Lib.hid (HN.out.setb (fun hb => by omega) _)⟩, by simp [intOf]; omega⟩
          rw [HST.out, List.length_append, List.length_singleton, RL.out]
          exact HR7.out
    · as_aux_lemma =>
      have k1 : ¬ (k : Int) < (s.size : Int) := by omega
      obtain rfl : k = s.size := by omega
      go_wp2
      rw [← RL.out] at HI ⊢
      exact HR.out _ _ HI.out HN.out

end Go.Proofs.YtnibgjpbijlhbaaDoor
