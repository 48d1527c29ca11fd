/-
  names.Edits: row by row, in one row.
-/
import Derived.Test.YtnibgjpbijlhbaaDoorPcmp
import Derived.Test.YtnibgjpbijlhbaaDoorNl
import Derived.Laws.MakeOwn
import Derived.StillTailTactics
namespace Go.Proofs.YtnibgjpbijlhbaaDoor
open Go.RowKit Go.Shelf
set_option linter.unusedVariables false
set_option linter.unusedSimpArgs false
set_option maxRecDepth 100000

def intC (l : List Int) : Array Value := (l.map (Value.int .i64)).toArray
theorem intC_get {l : List Int} {i : Nat} {x : Int} (h : l[i]? = some x) : (intC l)[i]? = some (.int .i64 x) := by simp [intC, h]
theorem intC_set (l : List Int) (i : Nat) (x : Int) : (intC l).setIfInBounds i (.int .i64 x) = intC (l.set i x) := by simp [intC]
theorem info_int : (Tryd.prog.info? 3).map (fun i => (i.zero, i.size, i.bytes)) = some (some (.int .i64 0), 1, 8) := by kernel_rfl
theorem made_ints (n : Nat) : madeCells (Value.int .i64 0).cells (n * 1) = intC (List.replicate n 0) := by
  rw [Nat.mul_one]
  apply Array.ext
  · simp [intC, size_madeCells]
  · intro i h1 h2
    simp [madeCells, intC, Value.cells, Nat.mod_one]
theorem make_ints (n : Nat) (hn : n ≤ 2000000) (w : World) :
    (Instr.makeSlice 22 (.int .i64 (n : Int)) (.int .i64 (n : Int))).run Tryd.prog w = .ok (.slice (some ⟨w.heap.size, 0, none⟩) n n) (w.alloc (.cells (intC (List.replicate n 0)) 3)) := by
  obtain ⟨i, hi, hz, hs, hb⟩ := info_parts info_int
  have hr := run_make (P := Tryd.prog) w 22 3 i _ Tryd.underlying22 hi hz .i64 .i64 n n (by omega) (by omega) (by rw [hb]; omega) (by omega)
  simp only [Int.toNat_natCast, hs, made_ints] at hr
  exact hr
/-- A row of integers: at each place up to n what f says. -/
def Lv (l : List Int) (n : Nat) (f : Nat → Int) : Prop := l.length = n + 1 ∧ ∀ j, j ≤ n → l[j]? = some (f j)
theorem Lv.set {l : List Int} {n : Nat} {f : Nat → Int} (h : Lv l n f) {i : Nat} (hi : i ≤ n) (x : Int) {f' : Nat → Int} (hf : ∀ j, f' j = if j = i then x else f j) : Lv (l.set i x) n f' := by
  refine ⟨by rw [List.length_set]; exact h.1, fun j hj => ?_⟩
  rw [hf j]
  by_cases e : j = i
  · subst e
    rw [if_pos rfl, List.getElem?_set_self (by rw [h.1]; omega)]
  · rw [if_neg e, List.getElem?_set_ne (fun k => e k.symm)]
    exact h.2 j hj
theorem setCell_ints {w : World} {g i : Nat} {l : List Int} {T : TypeId} {fz : Nat × Nat} {x : Int} (h : w.heap[g]? = some (.cells (intC l) T fz)) : (w.setCell ⟨g, i, none⟩ (.int .i64 x)).heap[g]? = some (.cells (intC (l.set i x)) T fz) := by
  rw [heap_setCell_eq _ h, intC_set]
/-- The row while row i + 1 is made: made up to place k. -/
def rowE (a b : List UInt8) (i k : Nat) (j : Nat) : Int := if j ≤ k then (levAt a b (i + 1) j : Nat) else (levAt a b i j : Nat)
theorem levAt_le (a b : List UInt8) (i k : Nat) : levAt a b i k ≤ a.length + b.length := by
  have h := lev_max (a.take i) (b.take k)
  have h1 := List.length_take_le i a
  have h2 := List.length_take_le k b
  have h3 := List.length_take (i := i) (l := a)
  have h4 := List.length_take (i := k) (l := b)
  unfold levAt
  omega

set_option maxHeartbeats 8000000 in
theorem nedits_any (a b : ByteArray) (w : World) (R : Ending → World → Prop) (ha : a.size ≤ 1000000) (hb : b.size ≤ 1000000)
    (hR : ∀ w', Nw w w' → R (.returned (.int .i64 (lev a.data.toList b.data.toList : Nat))) w') : Calls Tryd.prog 23 #[.string a, .string b] w R := by
  have HR := Lib.hid hR
  clear hR
  obtain ⟨L, hL⟩ : ∃ L, a.data.toList = L := ⟨_, rfl⟩
  obtain ⟨M, hM⟩ : ∃ M, b.data.toList = M := ⟨_, rfl⟩
  have hla : L.length = a.size := by rw [← hL]; exact ba_len a
  have hlb : M.length = b.size := by rw [← hM]; exact ba_len b
  rw [hL, hM] at HR
  have HL := Lib.hid hL
  have HM := Lib.hid hM
  clear hL hM
  have hmk := make_ints (b.size + 1) (by omega)
  rw [show ((b.size + 1 : Nat) : Int) = (b.size : Int) + 1 from by omega] at hmk
  go_enter Tryd.func23, Tryd.ntmps23
  go_wp2_with (fail)
  refine wp_named ?_
  intro W1 hW
  have HB := Lib.hid (show W1.heap[w.heap.size]? = some (.cells (intC (List.replicate (b.size + 1) 0)) 3 (0, 0)) from by rw [hW]; exact heap_alloc_eq _ rfl)
  have N1 := Lib.hid (show Nw w W1 from by rw [hW]; exact (Ch.refl _ _).alloc _)
  clear hW hmk
  obtain ⟨g, hg⟩ : ∃ g, w.heap.size = g := ⟨_, rfl⟩
  rw [hg] at HB ⊢
  have HG := Lib.hid hg
  clear hg
  go_loopw [6, 17] (fun _ s17 wr => ∃ (k : Nat) (l : List Int), s17 = .int .i64 k ∧ k ≤ b.size + 1 ∧ Hid (l.length = b.size + 1 ∧ ∀ j, j < k → l[j]? = some (j : Int)) ∧ Hid (wr.heap[g]? = some (.cells (intC l) 3 (0, 0))) ∧ Hid (Ch (· = g) W1 wr)) (fun _ s17 _ => b.size + 1 - (intOf s17).toNat)
  case atStart => exact ⟨0, _, rfl, Nat.zero_le _, Lib.hid ⟨List.length_replicate, fun j hj => by omega⟩, HB, Lib.hid (Ch.refl _ _)⟩
  case round =>
    obtain ⟨k, l, rfl, hk, Hl, Hb, Hc⟩ := hrel
    have k0 : (0 : Int) ≤ (k : Int) := by omega
    by_cases hlt : k < b.size + 1
    · as_aux_lemma =>
        have k1 : (k : Int) < (b.size : Int) + 1 := by omega
        obtain ⟨x, hx⟩ : ∃ x, l[k]? = some x := ⟨_, List.getElem?_eq_getElem (by rw [Hl.out.1]; exact hlt)⟩
        have ck : wr.cell? ⟨g, k, none⟩ = some (.int .i64 x) := by rw [cell_of Hb.out]; exact intC_get hx
        have fk : wr.frozen? ⟨g, k, none⟩ = false := frozen_of Hb.out
        clear hx
        go_wp2
        refine ⟨⟨k + 1, l.set k k, by go_num, by omega, Lib.hid ⟨by rw [List.length_set]; exact Hl.out.1, fun j hj => ?_⟩, Lib.hid (setCell_ints Hb.out), Lib.hid (Hc.out.setb (fun _ => rfl) _)⟩, by simp [intOf]; omega⟩
        by_cases e : j = k
        · subst e; rw [List.getElem?_set_self (by rw [Hl.out.1]; exact hlt)]
        · rw [List.getElem?_set_ne (fun h => e h.symm)]; exact Hl.out.2 j (by omega)
    · as_aux_lemma =>
        obtain rfl : k = b.size + 1 := by omega
        have k1 : ¬ ((b.size + 1 : Nat) : Int) < (b.size : Int) + 1 := by omega
        have HLv := Lib.hid (show Lv l b.size (fun j => (levAt L M 0 j : Nat)) from ⟨Hl.out.1, fun j hj => by show _ = some ((levAt L M 0 j : Nat) : Int); rw [Hl.out.2 j (by omega), levAt_zero, List.length_take]; congr 2; omega⟩)
        clear Hl
        go_wp2_with (fail)
        go_loopw [7, 8, 9, 10, 27] (fun _ _ _ _ s27 wr => ∃ (k : Nat) (l : List Int), s27 = .int .i64 k ∧ k ≤ a.size ∧ Hid (Lv l b.size (fun j => (levAt L M k j : Nat))) ∧ Hid (wr.heap[g]? = some (.cells (intC l) 3 (0, 0))) ∧ Hid (Ch (· = g) W1 wr)) (fun _ _ _ _ s27 _ => a.size - (intOf s27).toNat)
        case atStart => exact ⟨0, l, rfl, Nat.zero_le _, HLv, Hb, Hc⟩
        case round =>
          clear HLv Hb Hc k1 hlt k0 hk
          obtain ⟨i, r, rfl, hi, Hl, Hb, Hc⟩ := hrel
          have i0 : (0 : Int) ≤ (i : Int) := by omega
          by_cases hlt : i < a.size
          · as_aux_lemma =>
              have i1 : (i : Int) < (a.size : Int) := by omega
              obtain ⟨x, hx⟩ : ∃ x, L[i]? = some x := ⟨_, List.getElem?_eq_getElem (by rw [hla]; exact hlt)⟩
              have HXX := Lib.hid hx
              clear hx
              have z0 : levAt L M i 0 = i := by rw [levAt_zero', List.length_take, hla]; omega
              have z1 : levAt L M (i + 1) 0 = i + 1 := by rw [levAt_zero', List.length_take, hla]; omega
              have c0 : wr.cell? ⟨g, 0, none⟩ = some (.int .i64 (i : Int)) := by rw [cell_of Hb.out]; refine intC_get ?_; rw [Hl.out.2 0 (Nat.zero_le _)]; show some ((levAt L M i 0 : Nat) : Int) = _; rw [z0]
              have q0 : wr.frozen? ⟨g, 0, none⟩ = false := frozen_of Hb.out
              have Z0 := Lib.hid z0
              have Z1 := Lib.hid z1
              clear z0 z1
              go_wp2_with (fail)
              clear c0 q0
              go_loopw [8, 9, 10, 39] (fun s8 _ _ s39 wr' => ∃ (k : Nat) (l : List Int), s39 = .int .i64 k ∧ k ≤ b.size ∧ s8 = .int .i64 (levAt L M i k : Nat) ∧ Hid (Lv l b.size (rowE L M i k)) ∧ Hid (wr'.heap[g]? = some (.cells (intC l) 3 (0, 0))) ∧ Hid (Ch (· = g) W1 wr')) (fun _ _ _ s39 _ => b.size - (intOf s39).toNat)
              case atStart => exact ⟨0, _, rfl, Nat.zero_le _, by rw [Z0.out], Lib.hid (Hl.out.set (Nat.zero_le _) ((i : Int) + 1) (fun j => by unfold rowE; by_cases e : j = 0 <;> simp [e, Z1.out])), Lib.hid (setCell_ints Hb.out), Lib.hid (Hc.out.setb (fun _ => rfl) _)⟩
              case round =>
                clear Hl Hb Hc
                obtain ⟨k, l, rfl, hk, rfl, Hl, Hb, Hc⟩ := hrel
                have k0 : (0 : Int) ≤ (k : Int) := by omega
                by_cases hlk : k < b.size
                · as_aux_lemma =>
                    have k1 : (k : Int) < (b.size : Int) := by omega
                    obtain ⟨y, hy⟩ : ∃ y, M[k]? = some y := ⟨_, List.getElem?_eq_getElem (by rw [hlb]; exact hlk)⟩
                    have HY := Lib.hid hy
                    have HS := Lib.hid (levAt_step HXX.out hy)
                    clear hy
                    obtain ⟨A, hA⟩ : ∃ v : Nat, levAt L M i k = v := ⟨_, rfl⟩
                    obtain ⟨B, hB⟩ : ∃ v : Nat, levAt L M i (k + 1) = v := ⟨_, rfl⟩
                    obtain ⟨C, hC⟩ : ∃ v : Nat, levAt L M (i + 1) k = v := ⟨_, rfl⟩
                    have bA : A ≤ 2000000 := by have := levAt_le L M i k; omega
                    have bB : B ≤ 2000000 := by have := levAt_le L M i (k + 1); omega
                    have bC : C ≤ 2000000 := by have := levAt_le L M (i + 1) k; omega
                    have hlB : l[k + 1]? = some (B : Int) := by rw [Hl.out.2 (k + 1) (by omega), rowE, if_neg (by omega), hB]
                    have hlC : l[k]? = some (C : Int) := by rw [Hl.out.2 k (by omega), rowE, if_pos (Nat.le_refl _), hC]
                    have HLB := Lib.hid hlB
                    have HLC := Lib.hid hlC
                    clear hlB hlC
                    rw [hA]
                    rw [hA, hB, hC] at HS
                    have HB2 := Lib.hid hB
                    clear hA hB hC
                    by_cases hxy : x = y
                    · as_aux_lemma =>
                        have e2 : ((x.toNat : Int) != (y.toNat : Int)) = false := by simp [hxy]
                        have HD := Lib.hid (show dif x y = 0 from by simp [dif, hxy])
                        rw [HD.out] at HS
                        clear hxy
                        go_wp2_with (fail)
                        refine wp_named ?_
                        intro W1 hW
                        have n : Nw wr W1 := by rw [hW]; first | exact Ch.refl _ _ | exact (Ch.refl _ _).alloc _
                        replace Hb := Lib.hid (n.heap Hb.out id)
                        replace Hc := Lib.hid (Hc.out.trans' n (fun _ _ e => e.elim))
                        clear hW n
                        refine wp_region_V (F := fun w' => True) (opsOf Tryd.f23 16) 7 7 (by kernel_rfl) (by kernel_rfl) (by kernel_rfl) (fun w w' h n => True.intro) True.intro (fun HOPS HCL hHeld => ?_)
                        refine wpU_named ?_
                        intro W2 hW
                        try rw [← hW] at hHeld
                        have n : Nw W1 W2 := by rw [hW]; exact (Ch.refl _ _).drew
                        replace Hb := Lib.hid (n.heap Hb.out id)
                        replace Hc := Lib.hid (Hc.out.trans' n (fun _ _ e => e.elim))
                        clear hW n
                        first | (refine wpU_takeB (i := 0) (v := ?_) HOPS rfl (by kernel_rfl) (fun _ _ _ h => h) HCL (goes_read (by rfl) ?hy) ?_; case hy => (intro w hSw; (try dsimp only at hSw); go_simp; (try with_reducible rfl))) | (refine wpU_takeB (i := 0) (v := _) HOPS rfl (by kernel_rfl) (fun _ _ _ h => h) HCL (goes_not (by rfl)) ?_)
                        try simp only [Act.put, List.getElem_toArray, List.getElem_cons_succ, List.getElem_cons_zero, List.setIfInBounds_toArray, List.set_cons_zero, List.set_cons_succ]
                        first | (refine wpU_takeB (i := 1) (v := ?_) HOPS rfl (by kernel_rfl) (fun _ _ _ h => h) HCL (goes_read (by rfl) ?hy) ?_; case hy => (intro w hSw; (try dsimp only at hSw); go_simp; (try with_reducible rfl))) | (refine wpU_takeB (i := 1) (v := _) HOPS rfl (by kernel_rfl) (fun _ _ _ h => h) HCL (goes_not (by rfl)) ?_)
                        try simp only [Act.put, List.getElem_toArray, List.getElem_cons_succ, List.getElem_cons_zero, List.setIfInBounds_toArray, List.set_cons_zero, List.set_cons_succ]
                        first | (refine wpU_takeB (i := 3) (v := ?_) HOPS rfl (by kernel_rfl) (fun _ _ _ h => h) HCL (goes_read (by rfl) ?hy) ?_; case hy => (intro w hSw; (try dsimp only at hSw); go_simp; (try with_reducible rfl))) | (refine wpU_takeB (i := 3) (v := _) HOPS rfl (by kernel_rfl) (fun _ _ _ h => h) HCL (goes_not (by rfl)) ?_)
                        try simp only [Act.put, List.getElem_toArray, List.getElem_cons_succ, List.getElem_cons_zero, List.setIfInBounds_toArray, List.set_cons_zero, List.set_cons_succ]
                        first | (refine wpU_takeB (i := 4) (v := ?_) HOPS rfl (by kernel_rfl) (fun _ _ _ h => h) HCL (goes_read (by rfl) ?hy) ?_; case hy => (intro w hSw; (try dsimp only at hSw); go_simp; (try with_reducible rfl))) | (refine wpU_takeB (i := 4) (v := _) HOPS rfl (by kernel_rfl) (fun _ _ _ h => h) HCL (goes_not (by rfl)) ?_)
                        try simp only [Act.put, List.getElem_toArray, List.getElem_cons_succ, List.getElem_cons_zero, List.setIfInBounds_toArray, List.set_cons_zero, List.set_cons_succ]
                        refine wpU_takeB (i := 2) HOPS rfl (by kernel_rfl) (fun _ _ _ h => h) HCL (goes_idx _ _ _ a i x _ (by rfl) rfl Tryd.underlying9 (by rfl) (by rfl) (by rw [HL.out]; exact HXX.out) rfl) ?_
                        try simp only [Act.put, List.getElem_toArray, List.getElem_cons_succ, List.getElem_cons_zero, List.setIfInBounds_toArray, List.set_cons_zero, List.set_cons_succ]
                        refine wpU_takeB (i := 5) HOPS rfl (by kernel_rfl) (fun _ _ _ h => h) HCL (goes_idx _ _ _ b k y _ (by rfl) rfl Tryd.underlying9 (by rfl) (by rfl) (by rw [HM.out]; exact HY.out) rfl) ?_
                        try simp only [Act.put, List.getElem_toArray, List.getElem_cons_succ, List.getElem_cons_zero, List.setIfInBounds_toArray, List.set_cons_zero, List.set_cons_succ]
                        first | (refine wpU_takeB (i := 6) (v := ?_) HOPS rfl (by kernel_rfl) (fun _ _ _ h => h) HCL (goes_read (by rfl) ?hy) ?_; case hy => (intro w hSw; (try dsimp only at hSw); go_simp; (try with_reducible rfl))) | (refine wpU_takeB (i := 6) (v := _) HOPS rfl (by kernel_rfl) (fun _ _ _ h => h) HCL (goes_not (by rfl)) ?_)
                        try simp only [Act.put, List.getElem_toArray, List.getElem_cons_succ, List.getElem_cons_zero, List.setIfInBounds_toArray, List.set_cons_zero, List.set_cons_succ]
                        refine wpU_done (by kernel_rfl) (fun w3 hle => ?_) _
                        have n := (hle.ahead (by kernel_rfl)).1
                        replace Hb := Lib.hid (n.heap Hb.out id)
                        replace Hc := Lib.hid (Hc.out.trans' n (fun _ _ e => e.elim))
                        clear n
                        clear HOPS HCL hle
                        repeat clear hHeld
                        have cB : w3.cell? ⟨g, k + 1, none⟩ = some (.int .i64 (B : Nat)) := by rw [cell_of Hb.out]; exact intC_get HLB.out
                        have cC : w3.cell? ⟨g, k, none⟩ = some (.int .i64 (C : Nat)) := by rw [cell_of Hb.out]; exact intC_get HLC.out
                        have qB : w3.frozen? ⟨g, k + 1, none⟩ = false := frozen_of Hb.out
                        go_wp2_with (fail)
                        refine ⟨⟨k + 1, l.set (k + 1) _, by go_num, by omega, by rw [HB2.out], Lib.hid (Hl.out.set (by omega) _ (fun j => ?_)), Lib.hid (setCell_ints Hb.out), Lib.hid (Hc.out.setb (fun _ => rfl) _)⟩, by simp [intOf]; omega⟩
                        by_cases e : j = k + 1
                        · subst e
                          rw [if_pos rfl, rowE, if_pos (Nat.le_refl _), HS.out]
                          split <;> split at * <;> omega
                        · rw [if_neg e, rowE, rowE]
                          by_cases e1 : j ≤ k
                          · rw [if_pos e1, if_pos (by omega)]
                          · rw [if_neg e1, if_neg (by omega)]
                    · as_aux_lemma =>
                        have e2 : ((x.toNat : Int) != (y.toNat : Int)) = true := by simp only [bne_iff_ne]; intro h; exact hxy (UInt8.toNat_inj.1 (by omega))
                        have HD := Lib.hid (show dif x y = 1 from by simp [dif, hxy])
                        rw [HD.out] at HS
                        clear hxy
                        go_wp2_with (fail)
                        refine wp_named ?_
                        intro W4 hW
                        have n : Nw wr W4 := by rw [hW]; first | exact Ch.refl _ _ | exact (Ch.refl _ _).alloc _
                        replace Hb := Lib.hid (n.heap Hb.out id)
                        replace Hc := Lib.hid (Hc.out.trans' n (fun _ _ e => e.elim))
                        clear hW n
                        refine wp_region_V (F := fun w' => True) (opsOf Tryd.f23 16) 7 7 (by kernel_rfl) (by kernel_rfl) (by kernel_rfl) (fun w w' h n => True.intro) True.intro (fun HOPS HCL hHeld => ?_)
                        refine wpU_named ?_
                        intro W5 hW
                        try rw [← hW] at hHeld
                        have n : Nw W4 W5 := by rw [hW]; exact (Ch.refl _ _).drew
                        replace Hb := Lib.hid (n.heap Hb.out id)
                        replace Hc := Lib.hid (Hc.out.trans' n (fun _ _ e => e.elim))
                        clear hW n
                        first | (refine wpU_takeB (i := 0) (v := ?_) HOPS rfl (by kernel_rfl) (fun _ _ _ h => h) HCL (goes_read (by rfl) ?hy) ?_; case hy => (intro w hSw; (try dsimp only at hSw); go_simp; (try with_reducible rfl))) | (refine wpU_takeB (i := 0) (v := _) HOPS rfl (by kernel_rfl) (fun _ _ _ h => h) HCL (goes_not (by rfl)) ?_)
                        try simp only [Act.put, List.getElem_toArray, List.getElem_cons_succ, List.getElem_cons_zero, List.setIfInBounds_toArray, List.set_cons_zero, List.set_cons_succ]
                        first | (refine wpU_takeB (i := 1) (v := ?_) HOPS rfl (by kernel_rfl) (fun _ _ _ h => h) HCL (goes_read (by rfl) ?hy) ?_; case hy => (intro w hSw; (try dsimp only at hSw); go_simp; (try with_reducible rfl))) | (refine wpU_takeB (i := 1) (v := _) HOPS rfl (by kernel_rfl) (fun _ _ _ h => h) HCL (goes_not (by rfl)) ?_)
                        try simp only [Act.put, List.getElem_toArray, List.getElem_cons_succ, List.getElem_cons_zero, List.setIfInBounds_toArray, List.set_cons_zero, List.set_cons_succ]
                        first | (refine wpU_takeB (i := 3) (v := ?_) HOPS rfl (by kernel_rfl) (fun _ _ _ h => h) HCL (goes_read (by rfl) ?hy) ?_; case hy => (intro w hSw; (try dsimp only at hSw); go_simp; (try with_reducible rfl))) | (refine wpU_takeB (i := 3) (v := _) HOPS rfl (by kernel_rfl) (fun _ _ _ h => h) HCL (goes_not (by rfl)) ?_)
                        try simp only [Act.put, List.getElem_toArray, List.getElem_cons_succ, List.getElem_cons_zero, List.setIfInBounds_toArray, List.set_cons_zero, List.set_cons_succ]
                        first | (refine wpU_takeB (i := 4) (v := ?_) HOPS rfl (by kernel_rfl) (fun _ _ _ h => h) HCL (goes_read (by rfl) ?hy) ?_; case hy => (intro w hSw; (try dsimp only at hSw); go_simp; (try with_reducible rfl))) | (refine wpU_takeB (i := 4) (v := _) HOPS rfl (by kernel_rfl) (fun _ _ _ h => h) HCL (goes_not (by rfl)) ?_)
                        try simp only [Act.put, List.getElem_toArray, List.getElem_cons_succ, List.getElem_cons_zero, List.setIfInBounds_toArray, List.set_cons_zero, List.set_cons_succ]
                        refine wpU_takeB (i := 2) HOPS rfl (by kernel_rfl) (fun _ _ _ h => h) HCL (goes_idx _ _ _ a i x _ (by rfl) rfl Tryd.underlying9 (by rfl) (by rfl) (by rw [HL.out]; exact HXX.out) rfl) ?_
                        try simp only [Act.put, List.getElem_toArray, List.getElem_cons_succ, List.getElem_cons_zero, List.setIfInBounds_toArray, List.set_cons_zero, List.set_cons_succ]
                        refine wpU_takeB (i := 5) HOPS rfl (by kernel_rfl) (fun _ _ _ h => h) HCL (goes_idx _ _ _ b k y _ (by rfl) rfl Tryd.underlying9 (by rfl) (by rfl) (by rw [HM.out]; exact HY.out) rfl) ?_
                        try simp only [Act.put, List.getElem_toArray, List.getElem_cons_succ, List.getElem_cons_zero, List.setIfInBounds_toArray, List.set_cons_zero, List.set_cons_succ]
                        first | (refine wpU_takeB (i := 6) (v := ?_) HOPS rfl (by kernel_rfl) (fun _ _ _ h => h) HCL (goes_read (by rfl) ?hy) ?_; case hy => (intro w hSw; (try dsimp only at hSw); go_simp; (try with_reducible rfl))) | (refine wpU_takeB (i := 6) (v := _) HOPS rfl (by kernel_rfl) (fun _ _ _ h => h) HCL (goes_not (by rfl)) ?_)
                        try simp only [Act.put, List.getElem_toArray, List.getElem_cons_succ, List.getElem_cons_zero, List.setIfInBounds_toArray, List.set_cons_zero, List.set_cons_succ]
                        refine wpU_done (by kernel_rfl) (fun w6 hle => ?_) _
                        have n := (hle.ahead (by kernel_rfl)).1
                        replace Hb := Lib.hid (n.heap Hb.out id)
                        replace Hc := Lib.hid (Hc.out.trans' n (fun _ _ e => e.elim))
                        clear n
                        clear HOPS HCL hle
                        repeat clear hHeld
                        have cB : w6.cell? ⟨g, k + 1, none⟩ = some (.int .i64 (B : Nat)) := by rw [cell_of Hb.out]; exact intC_get HLB.out
                        have cC : w6.cell? ⟨g, k, none⟩ = some (.int .i64 (C : Nat)) := by rw [cell_of Hb.out]; exact intC_get HLC.out
                        have qB : w6.frozen? ⟨g, k + 1, none⟩ = false := frozen_of Hb.out
                        go_wp2_with (fail)
                        refine ⟨⟨k + 1, l.set (k + 1) _, by go_num, by omega, by rw [HB2.out], Lib.hid (Hl.out.set (by omega) _ (fun j => ?_)), Lib.hid (setCell_ints Hb.out), Lib.hid (Hc.out.setb (fun _ => rfl) _)⟩, by simp [intOf]; omega⟩
                        by_cases e : j = k + 1
                        · subst e
                          rw [if_pos rfl, rowE, if_pos (Nat.le_refl _), HS.out]
                          split <;> split at * <;> omega
                        · rw [if_neg e, rowE, rowE]
                          by_cases e1 : j ≤ k
                          · rw [if_pos e1, if_pos (by omega)]
                          · rw [if_neg e1, if_neg (by omega)]
                · as_aux_lemma =>
                  have k1 : ¬ (k : Int) < (b.size : Int) := by omega
                  obtain rfl : k = b.size := by omega
                  go_wp2_with (fail)
                  refine ⟨⟨i + 1, l, by go_num, by omega, Lib.hid ⟨Hl.out.1, fun j hj => by rw [Hl.out.2 j hj]; unfold rowE; rw [if_pos hj]⟩, Hb, Hc⟩, by simp [intOf]; omega⟩
          · as_aux_lemma =>
            have i1 : ¬ (i : Int) < (a.size : Int) := by omega
            obtain rfl : i = a.size := by omega
            have cE : wr.cell? ⟨g, b.size, none⟩ = some (.int .i64 (lev L M : Nat)) := by rw [cell_of Hb.out]; refine intC_get ?_; rw [Hl.out.2 _ (Nat.le_refl _)]; show some ((levAt L M a.size b.size : Nat) : Int) = _; rw [← hla, ← hlb, levAt_all]
            go_wp2
            exact HR.out _ (N1.out.trans' Hc.out (fun j hj e => by have e' : j = g := e; have := HG.out; omega))

end Go.Proofs.YtnibgjpbijlhbaaDoor
