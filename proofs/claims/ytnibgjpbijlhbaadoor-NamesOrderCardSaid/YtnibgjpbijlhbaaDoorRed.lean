/-
  ref12.Edits: row by row, each in a slice of its own.
-/
import Derived.Test.YtnibgjpbijlhbaaDoorIRw
namespace Go.Proofs.YtnibgjpbijlhbaaDoor
open Go.RowKit Go.Shelf
set_option linter.unusedVariables false
set_option linter.unusedSimpArgs false
set_option maxRecDepth 100000

/-- The first k levels of row i. -/
def rowT (a b : List UInt8) (i k : Nat) : List Int := (List.range k).map fun j => ((levAt a b i j : Nat) : Int)
theorem rowT_succ (a b : List UInt8) (i k : Nat) : rowT a b i (k + 1) = rowT a b i k ++ [((levAt a b i k : Nat) : Int)] := by unfold rowT; rw [List.range_succ, List.map_append]; rfl
theorem rowT_at {a b : List UInt8} {i k j : Nat} (h : j < k) : (rowT a b i k)[j]? = some ((levAt a b i j : Nat) : Int) := by
  unfold rowT
  rw [List.getElem?_map, List.getElem?_range h]
  rfl

theorem IRow.grown' {w w' : World} {row : Option Nat} {B : Nat} {v : Value} {n : Nat} {l : List Int} (h : IRow w B v n l) (hg : w.grownBy w' row) (hr : ∀ k, v.ownBlock = some k → row ≠ some k) : IRow w' B v n l := by
  refine ⟨h.1, ?_⟩
  rcases h.2 with hn | ⟨g, cap, cur, rfl, hb, hgg, rest⟩
  · exact .inl hn
  · refine .inr ⟨g, cap, cur, rfl, hb, ?_, rest⟩
    rw [hg.block g (lt_of_heap hgg) (fun e => hr g rfl e.symm)]
    exact hgg
/-- One number more is appended, in one step. -/
theorem app_int9 {o : Oper} {a : Act} {K : Act → World → Prop} {Q : Exit → Act → World → Prop} (w : World) (s x : Operand)
    (ho : o.op = .call { callee := .builtin .append, args := #[s, x], argTypes := #[22, 22] }) (B : Nat) (v : Value) (n : Nat) (l : List Int) (hs : a.eval s = v) (hown : IRow w B v n l)
    (g0 : Nat) (y : Int) (hx : a.eval x = .slice (some ⟨g0, 0, none⟩) 1 1) {fz : Nat × Nat} (hc : w.heap[g0]? = some (.cells #[.int .i64 y] 3 fz)) (hn : n ≤ 1000000) (hB : B ≤ w.heap.size)
    (h : ∀ g cap w', IRow w' B (.slice (some ⟨g, 0, none⟩) (n + 1) cap) (n + 1) (l ++ [y]) → w.grownBy w' v.ownBlock → K (a.put o.dst (.slice (some ⟨g, 0, none⟩) (n + 1) cap)) w') : o.wp Tryd.prog a w K Q :=
  wp_app w s x 22 3 1 8 ho Tryd.underlying22 (.int .i64 0) (by kernel_rfl) rfl (by omega) (by omega) B v n _ hs hown g0 #[.int .i64 y] fz hx hc rfl (by intro u hu; simp at hu; subst hu; rfl) hn hB (fun g cap w' h1 h2 _ => h g cap w' (by unfold IRow; rw [List.map_append]; exact h1) h2)

set_option maxHeartbeats 8000000 in
theorem redits_any (a b : ByteArray) (w : World) (R : Ending → World → Prop) (ha : a.size ≤ 900000) (hb : b.size ≤ 900000)
    (hR : ∀ w', Nw w w' → R (.returned (.int .i64 (lev a.data.toList b.data.toList : Nat))) w') : Calls Tryd.prog 24 #[.string a, .string b] w R := by
  have HR := Lib.hid hR
  clear hR
  obtain ⟨L, hL⟩ : ∃ L, a.data.toList = L := ⟨_, rfl⟩
  obtain ⟨M, hM⟩ : ∃ M, b.data.toList = M := ⟨_, rfl⟩
  have hla : L.length = a.size := by rw [← hL]; exact ba_len a
  have hlb : M.length = b.size := by rw [← hM]; exact ba_len b
  rw [hL, hM] at HR
  have HL := Lib.hid hL
  have HM := Lib.hid hM
  clear hL hM
  go_enter Tryd.func24, Tryd.ntmps24
  go_wp2_with (fail)
  go_loopw [5, 6] (fun s5 s6 wr => ∃ k : Nat, s6 = .int .i64 k ∧ k ≤ b.size + 1 ∧ Hid (IRow wr w.heap.size s5 k (rowT L M 0 k)) ∧ Hid (Nw w wr)) (fun _ s6 _ => b.size + 1 - (intOf s6).toNat)
  case atStart => exact ⟨0, rfl, Nat.zero_le _, Lib.hid (IRow.nil _ _), Lib.hid (Ch.refl _ _)⟩
  case round =>
    obtain ⟨k, rfl, hk, HI, HN⟩ := hrel
    obtain ⟨A, c, rfl⟩ := HI.out.form
    have k0 : (0 : Int) ≤ (k : Int) := by omega
    by_cases hlt : k < b.size + 1
    · as_aux_lemma =>
        have k1 : (k : Int) ≤ (b.size : Int) := by omega
        have hw : w.heap.size ≤ wr.heap.size := HN.out.size
        have e0 : levAt L M 0 k = k := by rw [levAt_zero, List.length_take]; omega
        go_wp2_with (at_builtin; refine app_int _ rfl (.tmp 17) (.tmp 19) rfl w.heap.size (.slice A k c) k _ (by rfl) (HI.out.ch ((Ch.refl (fun _ => False) _).alloc _) (fun _ _ e => e)) _ (k : Int) (by rfl) (cell_alloc_new rfl rfl) (by omega) (by rw [alloc_size]; omega) ?_; intro g9 c9 w9 hr9 hg9; (have HR9 := Lib.hid hr9); (have HG9 := Lib.hid hg9); clear hr9 hg9)
        refine ⟨⟨k + 1, by go_num, by omega, Lib.hid (by rw [rowT_succ, e0]; exact HR9.out), Lib.hid ((HN.out.alloc _).grown HG9.out (fun k e hk => by have := (HI.out.lt k e).1; omega))⟩, by simp [intOf]; omega⟩
    · as_aux_lemma =>
        have k1 : ¬ (k : Int) ≤ (b.size : Int) := by omega
        obtain rfl : k = b.size + 1 := by omega
        go_wp2_with (fail)
        go_loopw [5, 7, 8, 9, 10] (fun s5 s7 _ _ _ wr' => ∃ i : Nat, s7 = .int .i64 ((i : Int) + 1) ∧ i ≤ a.size ∧ Hid (IRow wr' w.heap.size s5 (b.size + 1) (rowT L M i (b.size + 1))) ∧ Hid (Nw w wr')) (fun _ s7 _ _ _ _ => a.size + 1 - (intOf s7).toNat)
        case atStart => exact ⟨0, rfl, Nat.zero_le _, HI, HN⟩
        case round =>
          clear HI HN k0 k1 hlt hk
          obtain ⟨i, rfl, hi, HI, HN⟩ := hrel
          obtain ⟨A1, c1, rfl⟩ := HI.out.form
          have i0 : (0 : Int) ≤ (i : Int) := by omega
          by_cases hlt : i < a.size
          · as_aux_lemma =>
              have i1 : (i : Int) + 1 ≤ (a.size : Int) := by omega
              have hw : w.heap.size ≤ wr.heap.size := HN.out.size
              go_wp2_with (fail)
              obtain ⟨x, hx⟩ : ∃ x, L[i]? = some x := ⟨_, List.getElem?_eq_getElem (by rw [hla]; exact hlt)⟩
              have HXX := Lib.hid hx
              clear hx
              have e0 : levAt L M (i + 1) 0 = i + 1 := by rw [levAt_zero', List.length_take, hla]; omega
              obtain ⟨G, hG⟩ : ∃ G, wr.heap.size = G := ⟨_, rfl⟩
              have IN0 := Lib.hid (show IRow (wr.alloc (.cells #[.int .i64 ((i : Int) + 1)] 3)) G (.slice (some ⟨G, 0, none⟩) 1 1) 1 (rowT L M (i + 1) 1) from ⟨rfl, Or.inr ⟨G, 1, #[.int .i64 ((i : Int) + 1)], rfl, Nat.le_refl _, by rw [← hG]; exact heap_alloc_eq _ rfl, Nat.le_refl _, by decide, rfl, by rw [rowT_succ, e0]; rfl⟩⟩)
              have IO0 := Lib.hid (HI.out.ch ((Ch.refl (fun _ => False) wr).alloc (.cells #[.int .i64 ((i : Int) + 1)] 3)) (fun _ _ e => e))
              rw [hG]
              rw [hG] at hw
              have IN1 := Lib.hid (show Nw wr (wr.alloc (.cells #[.int .i64 ((i : Int) + 1)] 3)) from (Ch.refl _ _).alloc _)
              have HG := Lib.hid hG
              clear hG e0
              have hAG : ∀ g, A1 = some g → g.block < G := fun g e => by rw [← HG.out]; exact (HI.out.lt g.block (by rw [e]; rfl)).2
              have HAG := Lib.hid hAG
              clear hAG
              go_loopw [8, 9, 10] (fun s8 s9 _ w' => ∃ k : Nat, s9 = .int .i64 ((k : Int) + 1) ∧ k ≤ b.size ∧ Hid (IRow w' G s8 (k + 1) (rowT L M (i + 1) (k + 1))) ∧ Hid (IRow w' w.heap.size (.slice A1 (b.size + 1) c1) (b.size + 1) (rowT L M i (b.size + 1))) ∧ Hid (Nw wr w')) (fun _ s9 _ _ => b.size + 1 - (intOf s9).toNat)
              case atStart => exact ⟨0, rfl, Nat.zero_le _, IN0, IO0, IN1⟩
              case round =>
                clear IN0 IO0 IN1
                rename_i wq _ _
                obtain ⟨k, rfl, hk, HR8, HI5, HN5⟩ := hrel
                obtain ⟨A2, c2, rfl⟩ := HR8.out.form
                have k0 : (0 : Int) ≤ (k : Int) := by omega
                by_cases hkl : k < b.size
                · as_aux_lemma =>
                    have k1 : (k : Int) + 1 ≤ (b.size : Int) := by omega
                    obtain ⟨y, hy⟩ : ∃ y, M[k]? = some y := ⟨_, List.getElem?_eq_getElem (by rw [hlb]; exact hkl)⟩
                    have HY := Lib.hid hy
                    have HS := Lib.hid (levAt_step HXX.out hy)
                    clear hy
                    obtain ⟨g1, rfl, hg1, d1⟩ := HI5.out.at (rowT_at (a := L) (b := M) (i := i) (j := k) (by omega))
                    obtain ⟨g1', e1, -, d2⟩ := HI5.out.at (rowT_at (a := L) (b := M) (i := i) (j := k + 1) (by omega))
                    cases e1
                    obtain ⟨g2, rfl, hg2, d3⟩ := HR8.out.at (rowT_at (a := L) (b := M) (i := i + 1) (j := k) (by omega))
                    have g1G : g1 < G := HAG.out ⟨g1, 0, none⟩ rfl
                    have g2w : g2 < wr.heap.size := (HR8.out.lt g2 rfl).2
                    obtain ⟨A, hA⟩ : ∃ v : Nat, levAt L M i k = v := ⟨_, rfl⟩
                    obtain ⟨B, hB⟩ : ∃ v : Nat, levAt L M i (k + 1) = v := ⟨_, rfl⟩
                    obtain ⟨C, hC⟩ : ∃ v : Nat, levAt L M (i + 1) k = v := ⟨_, rfl⟩
                    have bA : A ≤ 2000000 := by have := levAt_le L M i k; omega
                    have bB : B ≤ 2000000 := by have := levAt_le L M i (k + 1); omega
                    have bC : C ≤ 2000000 := by have := levAt_le L M (i + 1) k; omega
                    rw [hA] at d1 HS
                    rw [hB] at d2 HS
                    rw [hC] at d3 HS
                    clear hA hB hC
                    have D1 := Lib.hid d1
                    have D2 := Lib.hid d2
                    have D3 := Lib.hid d3
                    have wi : IntKind.i64.wrap (i : Int) = (i : Int) := by rw [IntKind.wrap_i64]; omega
                    have wk : IntKind.i64.wrap (k : Int) = (k : Int) := by rw [IntKind.wrap_i64]; omega
                    go_wp2_with (fail)
                    clear d1 d2 d3
                    by_cases hxy : x = y
                    · as_aux_lemma =>
                        have e2 : ((x.toNat : Int) != (y.toNat : Int)) = false := by simp [hxy]
                        have HD := Lib.hid (show dif x y = 0 from by simp [dif, hxy])
                        rw [HD.out] at HS
                        clear hxy
                        refine wp_named ?_
                        intro W1 hW
                        have n : Nw wr W1 := by rw [hW]; first | exact Ch.refl _ _ | exact (Ch.refl _ _).alloc _
                        replace HR8 := Lib.hid (HR8.out.ch n (fun _ _ e => e))
                        replace HI5 := Lib.hid (HI5.out.ch n (fun _ _ e => e))
                        replace HN5 := Lib.hid (HN5.out.trans n)
                        replace D1 := Lib.hid (n.cell D1.out id)
                        replace D2 := Lib.hid (n.cell D2.out id)
                        replace D3 := Lib.hid (n.cell D3.out id)
                        replace g2w := Nat.lt_of_lt_of_le g2w n.size
                        clear hW n
                        refine wp_region_V (F := fun w' => True) (opsOf Tryd.f24 14) 9 9 (by kernel_rfl) (by kernel_rfl) (by kernel_rfl) (fun w w' h n => True.intro) True.intro (fun HOPS HCL hHeld => ?_)
                        refine wpU_named ?_
                        intro W2 hW
                        try rw [← hW] at hHeld
                        have n : Nw W1 W2 := by rw [hW]; exact (Ch.refl _ _).drew
                        replace HR8 := Lib.hid (HR8.out.ch n (fun _ _ e => e))
                        replace HI5 := Lib.hid (HI5.out.ch n (fun _ _ e => e))
                        replace HN5 := Lib.hid (HN5.out.trans n)
                        replace D1 := Lib.hid (n.cell D1.out id)
                        replace D2 := Lib.hid (n.cell D2.out id)
                        replace D3 := Lib.hid (n.cell D3.out id)
                        replace g2w := Nat.lt_of_lt_of_le g2w n.size
                        clear hW n
                        first | (refine wpU_takeB (i := 0) (v := ?_) HOPS rfl (by kernel_rfl) (fun _ _ _ h => h) HCL (goes_read (by rfl) ?hy) ?_; case hy => (intro w hSw; (try dsimp only at hSw); go_simp; (try with_reducible rfl))) | (refine wpU_takeB (i := 0) (v := _) HOPS rfl (by kernel_rfl) (fun _ _ _ h => h) HCL (goes_not (by rfl)) ?_)
                        try simp only [Act.put, List.getElem_toArray, List.getElem_cons_succ, List.getElem_cons_zero, List.setIfInBounds_toArray, List.set_cons_zero, List.set_cons_succ]
                        first | (refine wpU_takeB (i := 1) (v := ?_) HOPS rfl (by kernel_rfl) (fun _ _ _ h => h) HCL (goes_read (by rfl) ?hy) ?_; case hy => (intro w hSw; (try dsimp only at hSw); go_simp; (try with_reducible rfl))) | (refine wpU_takeB (i := 1) (v := _) HOPS rfl (by kernel_rfl) (fun _ _ _ h => h) HCL (goes_not (by rfl)) ?_)
                        try simp only [Act.put, List.getElem_toArray, List.getElem_cons_succ, List.getElem_cons_zero, List.setIfInBounds_toArray, List.set_cons_zero, List.set_cons_succ]
                        first | (refine wpU_takeB (i := 2) (v := ?_) HOPS rfl (by kernel_rfl) (fun _ _ _ h => h) HCL (goes_read (by rfl) ?hy) ?_; case hy => (intro w hSw; (try dsimp only at hSw); go_simp; (try with_reducible rfl))) | (refine wpU_takeB (i := 2) (v := _) HOPS rfl (by kernel_rfl) (fun _ _ _ h => h) HCL (goes_not (by rfl)) ?_)
                        try simp only [Act.put, List.getElem_toArray, List.getElem_cons_succ, List.getElem_cons_zero, List.setIfInBounds_toArray, List.set_cons_zero, List.set_cons_succ]
                        first | (refine wpU_takeB (i := 4) (v := ?_) HOPS rfl (by kernel_rfl) (fun _ _ _ h => h) HCL (goes_read (by rfl) ?hy) ?_; case hy => (intro w hSw; (try dsimp only at hSw); go_simp; (try with_reducible rfl))) | (refine wpU_takeB (i := 4) (v := _) HOPS rfl (by kernel_rfl) (fun _ _ _ h => h) HCL (goes_not (by rfl)) ?_)
                        try simp only [Act.put, List.getElem_toArray, List.getElem_cons_succ, List.getElem_cons_zero, List.setIfInBounds_toArray, List.set_cons_zero, List.set_cons_succ]
                        first | (refine wpU_takeB (i := 5) (v := ?_) HOPS rfl (by kernel_rfl) (fun _ _ _ h => h) HCL (goes_read (by rfl) ?hy) ?_; case hy => (intro w hSw; (try dsimp only at hSw); go_simp; (try with_reducible rfl))) | (refine wpU_takeB (i := 5) (v := _) HOPS rfl (by kernel_rfl) (fun _ _ _ h => h) HCL (goes_not (by rfl)) ?_)
                        try simp only [Act.put, List.getElem_toArray, List.getElem_cons_succ, List.getElem_cons_zero, List.setIfInBounds_toArray, List.set_cons_zero, List.set_cons_succ]
                        first | (refine wpU_takeB (i := 6) (v := ?_) HOPS rfl (by kernel_rfl) (fun _ _ _ h => h) HCL (goes_read (by rfl) ?hy) ?_; case hy => (intro w hSw; (try dsimp only at hSw); go_simp; (try with_reducible rfl))) | (refine wpU_takeB (i := 6) (v := _) HOPS rfl (by kernel_rfl) (fun _ _ _ h => h) HCL (goes_not (by rfl)) ?_)
                        try simp only [Act.put, List.getElem_toArray, List.getElem_cons_succ, List.getElem_cons_zero, List.setIfInBounds_toArray, List.set_cons_zero, List.set_cons_succ]
                        refine wpU_takeB (i := 3) HOPS rfl (by kernel_rfl) (fun _ _ _ h => h) HCL (goes_idx _ _ _ a i x _ (by rfl) rfl Tryd.underlying9 (by rfl) (by rfl) (by rw [HL.out]; exact HXX.out) rfl) ?_
                        try simp only [Act.put, List.getElem_toArray, List.getElem_cons_succ, List.getElem_cons_zero, List.setIfInBounds_toArray, List.set_cons_zero, List.set_cons_succ]
                        refine wpU_takeB (i := 7) HOPS rfl (by kernel_rfl) (fun _ _ _ h => h) HCL (goes_idx _ _ _ b k y _ (by rfl) rfl Tryd.underlying9 (by rfl) (by rfl) (by rw [HM.out]; exact HY.out) rfl) ?_
                        try simp only [Act.put, List.getElem_toArray, List.getElem_cons_succ, List.getElem_cons_zero, List.setIfInBounds_toArray, List.set_cons_zero, List.set_cons_succ]
                        first | (refine wpU_takeB (i := 8) (v := ?_) HOPS rfl (by kernel_rfl) (fun _ _ _ h => h) HCL (goes_read (by rfl) ?hy) ?_; case hy => (intro w hSw; (try dsimp only at hSw); go_simp; (try with_reducible rfl))) | (refine wpU_takeB (i := 8) (v := _) HOPS rfl (by kernel_rfl) (fun _ _ _ h => h) HCL (goes_not (by rfl)) ?_)
                        try simp only [Act.put, List.getElem_toArray, List.getElem_cons_succ, List.getElem_cons_zero, List.setIfInBounds_toArray, List.set_cons_zero, List.set_cons_succ]
                        refine wpU_done (by kernel_rfl) (fun w3 hle => ?_) _
                        have n := (hle.ahead (by kernel_rfl)).1
                        replace HR8 := Lib.hid (HR8.out.ch n (fun _ _ e => e))
                        replace HI5 := Lib.hid (HI5.out.ch n (fun _ _ e => e))
                        replace HN5 := Lib.hid (HN5.out.trans n)
                        replace D1 := Lib.hid (n.cell D1.out id)
                        replace D2 := Lib.hid (n.cell D2.out id)
                        replace D3 := Lib.hid (n.cell D3.out id)
                        replace g2w := Nat.lt_of_lt_of_le g2w n.size
                        clear n
                        clear HOPS HCL hle
                        repeat clear hHeld
                        obtain ⟨V, hV⟩ : ∃ V : Nat, levAt L M (i + 1) (k + 1) = V := ⟨_, rfl⟩
                        rw [hV] at HS
                        have HV := Lib.hid hV
                        clear hV
                        have k9 : (k : Int) < (b.size : Int) := by omega
                        have k8 : (k : Int) + 1 < (b.size : Int) + 1 := by omega
                        have k7 : (0 : Int) ≤ (k : Int) + 1 := by omega
                        have k6 : (k : Int) < (k : Int) + 1 := by omega
                        have wB : IntKind.i64.wrap ((B : Int) + 1) = (B : Int) + 1 := by rw [IntKind.wrap_i64]; omega
                        have wC : IntKind.i64.wrap ((C : Int) + 1) = (C : Int) + 1 := by rw [IntKind.wrap_i64]; omega
                        go_wp2_with (fail)
                        refine wp_named ?_
                        intro W4 hW
                        have n : Nw w3 W4 := by rw [hW]; first | exact Ch.refl _ _ | exact (Ch.refl _ _).alloc _
                        replace HR8 := Lib.hid (HR8.out.ch n (fun _ _ e => e))
                        replace HI5 := Lib.hid (HI5.out.ch n (fun _ _ e => e))
                        replace HN5 := Lib.hid (HN5.out.trans n)
                        replace D1 := Lib.hid (n.cell D1.out id)
                        replace D2 := Lib.hid (n.cell D2.out id)
                        replace D3 := Lib.hid (n.cell D3.out id)
                        replace g2w := Nat.lt_of_lt_of_le g2w n.size
                        clear hW n
                        refine wp_region_V (F := fun w' => w'.cell? ⟨g1, k + 1, none⟩ = some (.int .i64 (B : Nat)) ∧ w'.cell? ⟨g2, k, none⟩ = some (.int .i64 (C : Nat))) (opsOf Tryd.f24 16) 15 17 (by kernel_rfl) (by kernel_rfl) (by kernel_rfl) (fun w w' h n => (⟨n.cell h.1 id, n.cell h.2 id⟩)) (⟨D2.out, D3.out⟩) (fun HOPS HCL hHeld => ?_)
                        refine wpU_named ?_
                        intro W5 hW
                        try rw [← hW] at hHeld
                        have n : Nw W4 W5 := by rw [hW]; exact (Ch.refl _ _).drew
                        replace HR8 := Lib.hid (HR8.out.ch n (fun _ _ e => e))
                        replace HI5 := Lib.hid (HI5.out.ch n (fun _ _ e => e))
                        replace HN5 := Lib.hid (HN5.out.trans n)
                        replace D1 := Lib.hid (n.cell D1.out id)
                        replace D2 := Lib.hid (n.cell D2.out id)
                        replace D3 := Lib.hid (n.cell D3.out id)
                        replace g2w := Nat.lt_of_lt_of_le g2w n.size
                        clear hW n
                        first | (refine wpU_takeA (i := 0) (v := ?_) HOPS rfl (by kernel_rfl) (fun _ _ _ h => h) HCL (goes_read (by rfl) ?hy) ?_; case hy => (intro w hSw; (try dsimp only at hSw); go_simp; (try with_reducible rfl))) | (refine wpU_takeA (i := 0) (v := _) HOPS rfl (by kernel_rfl) (fun _ _ _ h => h) HCL (goes_not (by rfl)) ?_)
                        try simp only [Act.put, List.getElem_toArray, List.getElem_cons_succ, List.getElem_cons_zero, List.setIfInBounds_toArray, List.set_cons_zero, List.set_cons_succ]
                        first | (refine wpU_takeA (i := 1) (v := ?_) HOPS rfl (by kernel_rfl) (fun _ _ _ h => h) HCL (goes_read (by rfl) ?hy) ?_; case hy => (intro w hSw; (try dsimp only at hSw); go_simp; (try with_reducible rfl))) | (refine wpU_takeA (i := 1) (v := _) HOPS rfl (by kernel_rfl) (fun _ _ _ h => h) HCL (goes_not (by rfl)) ?_)
                        try simp only [Act.put, List.getElem_toArray, List.getElem_cons_succ, List.getElem_cons_zero, List.setIfInBounds_toArray, List.set_cons_zero, List.set_cons_succ]
                        first | (refine wpU_takeA (i := 2) (v := ?_) HOPS rfl (by kernel_rfl) (fun _ _ _ h => h) HCL (goes_read (by rfl) ?hy) ?_; case hy => (intro w hSw; (try dsimp only at hSw); go_simp; (try with_reducible rfl))) | (refine wpU_takeA (i := 2) (v := _) HOPS rfl (by kernel_rfl) (fun _ _ _ h => h) HCL (goes_not (by rfl)) ?_)
                        try simp only [Act.put, List.getElem_toArray, List.getElem_cons_succ, List.getElem_cons_zero, List.setIfInBounds_toArray, List.set_cons_zero, List.set_cons_succ]
                        first | (refine wpU_takeA (i := 3) (v := ?_) HOPS rfl (by kernel_rfl) (fun _ _ _ h => h) HCL (goes_read (by rfl) ?hy) ?_; case hy => (intro w hSw; (try dsimp only at hSw); go_simp; (try with_reducible rfl))) | (refine wpU_takeA (i := 3) (v := _) HOPS rfl (by kernel_rfl) (fun _ _ _ h => h) HCL (goes_not (by rfl)) ?_)
                        try simp only [Act.put, List.getElem_toArray, List.getElem_cons_succ, List.getElem_cons_zero, List.setIfInBounds_toArray, List.set_cons_zero, List.set_cons_succ]
                        first | (refine wpU_takeA (i := 4) (v := ?_) HOPS rfl (by kernel_rfl) (fun _ _ _ h => h) HCL (goes_read (by rfl) ?hy) ?_; case hy => (intro w hSw; (try dsimp only at hSw); go_simp; (try with_reducible rfl))) | (refine wpU_takeA (i := 4) (v := _) HOPS rfl (by kernel_rfl) (fun _ _ _ h => h) HCL (goes_not (by rfl)) ?_)
                        try simp only [Act.put, List.getElem_toArray, List.getElem_cons_succ, List.getElem_cons_zero, List.setIfInBounds_toArray, List.set_cons_zero, List.set_cons_succ]
                        first | (refine wpU_takeA (i := 5) (v := ?_) HOPS rfl (by kernel_rfl) (fun _ _ _ h => h) HCL (goes_read (by rfl) ?hy) ?_; case hy => (intro w hSw; (try dsimp only at hSw); go_simp; (try with_reducible rfl))) | (refine wpU_takeA (i := 5) (v := _) HOPS rfl (by kernel_rfl) (fun _ _ _ h => h) HCL (goes_not (by rfl)) ?_)
                        try simp only [Act.put, List.getElem_toArray, List.getElem_cons_succ, List.getElem_cons_zero, List.setIfInBounds_toArray, List.set_cons_zero, List.set_cons_succ]
                        first | (refine wpU_takeA (i := 6) (v := ?_) HOPS rfl (by kernel_rfl) (fun _ _ _ h => h) HCL (goes_read (by rfl) ?hy) ?_; case hy => (intro w hSw; (try dsimp only at hSw); go_simp; (try with_reducible rfl))) | (refine wpU_takeA (i := 6) (v := _) HOPS rfl (by kernel_rfl) (fun _ _ _ h => h) HCL (goes_not (by rfl)) ?_)
                        try simp only [Act.put, List.getElem_toArray, List.getElem_cons_succ, List.getElem_cons_zero, List.setIfInBounds_toArray, List.set_cons_zero, List.set_cons_succ]
                        first | (refine wpU_takeA (i := 7) (v := ?_) HOPS rfl (by kernel_rfl) (fun _ _ _ h => h) HCL (goes_read (by rfl) ?hy) ?_; case hy => (intro w hSw; (try dsimp only at hSw); go_simp; (try with_reducible rfl))) | (refine wpU_takeA (i := 7) (v := _) HOPS rfl (by kernel_rfl) (fun _ _ _ h => h) HCL (goes_not (by rfl)) ?_)
                        try simp only [Act.put, List.getElem_toArray, List.getElem_cons_succ, List.getElem_cons_zero, List.setIfInBounds_toArray, List.set_cons_zero, List.set_cons_succ]
                        first | (refine wpU_takeA (i := 8) (v := ?_) HOPS rfl (by kernel_rfl) (fun _ _ _ h => h) HCL (goes_read (by rfl) ?hy) ?_; case hy => (intro w hSw; (try dsimp only at hSw); go_simp; (try with_reducible rfl))) | (refine wpU_takeA (i := 8) (v := _) HOPS rfl (by kernel_rfl) (fun _ _ _ h => h) HCL (goes_not (by rfl)) ?_)
                        try simp only [Act.put, List.getElem_toArray, List.getElem_cons_succ, List.getElem_cons_zero, List.setIfInBounds_toArray, List.set_cons_zero, List.set_cons_succ]
                        first | (refine wpU_takeA (i := 9) (v := ?_) HOPS rfl (by kernel_rfl) (fun _ _ _ h => h) HCL (goes_read (by rfl) ?hy) ?_; case hy => (intro w hSw; (try dsimp only at hSw); go_simp; (try with_reducible rfl))) | (refine wpU_takeA (i := 9) (v := _) HOPS rfl (by kernel_rfl) (fun _ _ _ h => h) HCL (goes_not (by rfl)) ?_)
                        try simp only [Act.put, List.getElem_toArray, List.getElem_cons_succ, List.getElem_cons_zero, List.setIfInBounds_toArray, List.set_cons_zero, List.set_cons_succ]
                        first | (refine wpU_takeA (i := 10) (v := ?_) HOPS rfl (by kernel_rfl) (fun _ _ _ h => h) HCL (goes_read (by rfl) ?hy) ?_; case hy => (intro w hSw; (try dsimp only at hSw); go_simp; (try with_reducible rfl))) | (refine wpU_takeA (i := 10) (v := _) HOPS rfl (by kernel_rfl) (fun _ _ _ h => h) HCL (goes_not (by rfl)) ?_)
                        try simp only [Act.put, List.getElem_toArray, List.getElem_cons_succ, List.getElem_cons_zero, List.setIfInBounds_toArray, List.set_cons_zero, List.set_cons_succ]
                        first | (refine wpU_takeA (i := 11) (v := ?_) HOPS rfl (by kernel_rfl) (fun _ _ _ h => h) HCL (goes_read (by rfl) ?hy) ?_; case hy => (intro w hSw; (try dsimp only at hSw); go_simp; (try with_reducible rfl))) | (refine wpU_takeA (i := 11) (v := _) HOPS rfl (by kernel_rfl) (fun _ _ _ h => h) HCL (goes_not (by rfl)) ?_)
                        try simp only [Act.put, List.getElem_toArray, List.getElem_cons_succ, List.getElem_cons_zero, List.setIfInBounds_toArray, List.set_cons_zero, List.set_cons_succ]
                        first | (refine wpU_takeA (i := 12) (v := ?_) HOPS rfl (by kernel_rfl) (fun _ _ _ h => h) HCL (goes_read (by rfl) ?hy) ?_; case hy => (intro w hSw; (try dsimp only at hSw); go_simp; (try with_reducible rfl))) | (refine wpU_takeA (i := 12) (v := _) HOPS rfl (by kernel_rfl) (fun _ _ _ h => h) HCL (goes_not (by rfl)) ?_)
                        try simp only [Act.put, List.getElem_toArray, List.getElem_cons_succ, List.getElem_cons_zero, List.setIfInBounds_toArray, List.set_cons_zero, List.set_cons_succ]
                        refine wpU_takeA (i := 13) HOPS rfl (by kernel_rfl) (fun _ _ _ h => h) HCL (goes_min3 _ _ _ _ (A : Int) ((B : Int) + 1) ((C : Int) + 1) (V : Int) (by rfl) rfl (by rfl) (by rfl) (by rfl) (by have h := HS.out; split <;> split at * <;> omega)) ?_
                        try simp only [Act.put, List.getElem_toArray, List.getElem_cons_succ, List.getElem_cons_zero, List.setIfInBounds_toArray, List.set_cons_zero, List.set_cons_succ]
                        refine wpU_ready (rs := [14]) (by kernel_rfl) (by simp) ?_
                        intro w6 hle
                        obtain ⟨n, hHeld⟩ := hle.ahead (by kernel_rfl)
                        clear hle
                        replace HR8 := Lib.hid (HR8.out.ch n (fun _ _ e => e))
                        replace HI5 := Lib.hid (HI5.out.ch n (fun _ _ e => e))
                        replace HN5 := Lib.hid (HN5.out.trans n)
                        replace D1 := Lib.hid (n.cell D1.out id)
                        replace D2 := Lib.hid (n.cell D2.out id)
                        replace D3 := Lib.hid (n.cell D3.out id)
                        replace g2w := Nat.lt_of_lt_of_le g2w n.size
                        clear n
                        refine ReadyU.cons HOPS rfl (by rfl) (fun K hK => ?_) ReadyU.nil
                        go_simp
                        refine hK.out _ _ ((Ch.refl _ _).alloc _) (⟨cell_alloc_old _ D2.out, cell_alloc_old _ D3.out⟩) (fun hHeld => ?_)
                        clear hK K
                        try simp only [Act.put, List.getElem_toArray, List.getElem_cons_succ, List.getElem_cons_zero, List.setIfInBounds_toArray, List.set_cons_zero, List.set_cons_succ]
                        have g2wAHEL := g2w
                        refine wpU_named ?_
                        intro W7 hW
                        try rw [← hW] at hHeld
                        have n : Nw w6 W7 := by rw [hW]; exact (Ch.refl _ _).alloc _
                        replace HR8 := Lib.hid (HR8.out.ch n (fun _ _ e => e))
                        replace HI5 := Lib.hid (HI5.out.ch n (fun _ _ e => e))
                        replace HN5 := Lib.hid (HN5.out.trans n)
                        replace D1 := Lib.hid (n.cell D1.out id)
                        replace D2 := Lib.hid (n.cell D2.out id)
                        replace D3 := Lib.hid (n.cell D3.out id)
                        replace g2w := Nat.lt_of_lt_of_le g2w n.size
                        have HEL := Lib.hid (show W7.heap[w6.heap.size]? = some (.cells #[.int .i64 (V : Nat)] 3 (0, 0)) from by rw [hW]; exact heap_alloc_eq _ rfl)
                        clear hW n
                        refine wpU_ready (rs := [15]) (by kernel_rfl) (by simp) ?_
                        intro w8 hle
                        obtain ⟨n, hHeld⟩ := hle.ahead (by kernel_rfl)
                        clear hle
                        replace HR8 := Lib.hid (HR8.out.ch n (fun _ _ e => e))
                        replace HI5 := Lib.hid (HI5.out.ch n (fun _ _ e => e))
                        replace HN5 := Lib.hid (HN5.out.trans n)
                        replace D1 := Lib.hid (n.cell D1.out id)
                        replace D2 := Lib.hid (n.cell D2.out id)
                        replace D3 := Lib.hid (n.cell D3.out id)
                        replace g2w := Nat.lt_of_lt_of_le g2w n.size
                        replace HEL := Lib.hid (n.heap HEL.out id)
                        clear n
                        refine ReadyU.last HOPS rfl (by rfl) (by kernel_rfl) (fun K hK => ?_) ReadyU.nil
                        refine app_int9 _ (.tmp 51) (.tmp 65) rfl G (.slice (some ⟨g2, 0, none⟩) (k + 1) c2) (k + 1) _ (by rfl) HR8.out _ (V : Int) (by rfl) HEL.out (by omega) (by omega) ?_
                        intro g9 c9 wz hr9 hg9
                        have HR9 := Lib.hid hr9
                        have HG9 := Lib.hid hg9
                        clear hr9 hg9
                        refine hK.out _ _ ?_
                        clear hK K
                        try simp only [Act.put, List.getElem_toArray, List.getElem_cons_succ, List.getElem_cons_zero, List.setIfInBounds_toArray, List.set_cons_zero, List.set_cons_succ]
                        refine wpU_ready (rs := [16]) (by kernel_rfl) (by simp) ?_
                        intro wq hle
                        rw [hle.behind (by kernel_rfl)]
                        clear hle wq
                        refine ReadyU.last HOPS rfl (by rfl) (by kernel_rfl) (fun K hK => ?_) ReadyU.nil
                        go_simp
                        refine hK.out _ _ ?_
                        clear hK K
                        try simp only [Act.put, List.getElem_toArray, List.getElem_cons_succ, List.getElem_cons_zero, List.setIfInBounds_toArray, List.set_cons_zero, List.set_cons_succ]
                        refine wpU_done (by kernel_rfl) (fun w9 hle => ?_) _
                        rw [hle.behind (by kernel_rfl)]
                        clear HOPS HCL hle
                        repeat clear hHeld
                        go_wp2_with (fail)
                        refine ⟨⟨k + 1, by go_num, by omega, Lib.hid (by rw [rowT_succ, HV.out]; exact HR9.out), Lib.hid (HI5.out.grown' HG9.out (fun j e1 e2 => by have h1 : g1 = j := Option.some.inj e1; have h2 : g2 = j := Option.some.inj e2; omega)), Lib.hid (HN5.out.grown HG9.out (fun j e hj => by have h2 : g2 = j := Option.some.inj e; have := HG.out; omega))⟩, by simp [intOf]; omega⟩
                    · as_aux_lemma =>
                        have e2 : ((x.toNat : Int) != (y.toNat : Int)) = true := by simp only [bne_iff_ne]; intro h; exact hxy (UInt8.toNat_inj.1 (by omega))
                        have HD := Lib.hid (show dif x y = 1 from by simp [dif, hxy])
                        rw [HD.out] at HS
                        clear hxy
                        refine wp_named ?_
                        intro W10 hW
                        have n : Nw wr W10 := by rw [hW]; first | exact Ch.refl _ _ | exact (Ch.refl _ _).alloc _
                        replace HR8 := Lib.hid (HR8.out.ch n (fun _ _ e => e))
                        replace HI5 := Lib.hid (HI5.out.ch n (fun _ _ e => e))
                        replace HN5 := Lib.hid (HN5.out.trans n)
                        replace D1 := Lib.hid (n.cell D1.out id)
                        replace D2 := Lib.hid (n.cell D2.out id)
                        replace D3 := Lib.hid (n.cell D3.out id)
                        replace g2w := Nat.lt_of_lt_of_le g2w n.size
                        clear hW n
                        refine wp_region_V (F := fun w' => True) (opsOf Tryd.f24 14) 9 9 (by kernel_rfl) (by kernel_rfl) (by kernel_rfl) (fun w w' h n => True.intro) True.intro (fun HOPS HCL hHeld => ?_)
                        refine wpU_named ?_
                        intro W11 hW
                        try rw [← hW] at hHeld
                        have n : Nw W10 W11 := by rw [hW]; exact (Ch.refl _ _).drew
                        replace HR8 := Lib.hid (HR8.out.ch n (fun _ _ e => e))
                        replace HI5 := Lib.hid (HI5.out.ch n (fun _ _ e => e))
                        replace HN5 := Lib.hid (HN5.out.trans n)
                        replace D1 := Lib.hid (n.cell D1.out id)
                        replace D2 := Lib.hid (n.cell D2.out id)
                        replace D3 := Lib.hid (n.cell D3.out id)
                        replace g2w := Nat.lt_of_lt_of_le g2w n.size
                        clear hW n
                        first | (refine wpU_takeB (i := 0) (v := ?_) HOPS rfl (by kernel_rfl) (fun _ _ _ h => h) HCL (goes_read (by rfl) ?hy) ?_; case hy => (intro w hSw; (try dsimp only at hSw); go_simp; (try with_reducible rfl))) | (refine wpU_takeB (i := 0) (v := _) HOPS rfl (by kernel_rfl) (fun _ _ _ h => h) HCL (goes_not (by rfl)) ?_)
                        try simp only [Act.put, List.getElem_toArray, List.getElem_cons_succ, List.getElem_cons_zero, List.setIfInBounds_toArray, List.set_cons_zero, List.set_cons_succ]
                        first | (refine wpU_takeB (i := 1) (v := ?_) HOPS rfl (by kernel_rfl) (fun _ _ _ h => h) HCL (goes_read (by rfl) ?hy) ?_; case hy => (intro w hSw; (try dsimp only at hSw); go_simp; (try with_reducible rfl))) | (refine wpU_takeB (i := 1) (v := _) HOPS rfl (by kernel_rfl) (fun _ _ _ h => h) HCL (goes_not (by rfl)) ?_)
                        try simp only [Act.put, List.getElem_toArray, List.getElem_cons_succ, List.getElem_cons_zero, List.setIfInBounds_toArray, List.set_cons_zero, List.set_cons_succ]
                        first | (refine wpU_takeB (i := 2) (v := ?_) HOPS rfl (by kernel_rfl) (fun _ _ _ h => h) HCL (goes_read (by rfl) ?hy) ?_; case hy => (intro w hSw; (try dsimp only at hSw); go_simp; (try with_reducible rfl))) | (refine wpU_takeB (i := 2) (v := _) HOPS rfl (by kernel_rfl) (fun _ _ _ h => h) HCL (goes_not (by rfl)) ?_)
                        try simp only [Act.put, List.getElem_toArray, List.getElem_cons_succ, List.getElem_cons_zero, List.setIfInBounds_toArray, List.set_cons_zero, List.set_cons_succ]
                        first | (refine wpU_takeB (i := 4) (v := ?_) HOPS rfl (by kernel_rfl) (fun _ _ _ h => h) HCL (goes_read (by rfl) ?hy) ?_; case hy => (intro w hSw; (try dsimp only at hSw); go_simp; (try with_reducible rfl))) | (refine wpU_takeB (i := 4) (v := _) HOPS rfl (by kernel_rfl) (fun _ _ _ h => h) HCL (goes_not (by rfl)) ?_)
                        try simp only [Act.put, List.getElem_toArray, List.getElem_cons_succ, List.getElem_cons_zero, List.setIfInBounds_toArray, List.set_cons_zero, List.set_cons_succ]
                        first | (refine wpU_takeB (i := 5) (v := ?_) HOPS rfl (by kernel_rfl) (fun _ _ _ h => h) HCL (goes_read (by rfl) ?hy) ?_; case hy => (intro w hSw; (try dsimp only at hSw); go_simp; (try with_reducible rfl))) | (refine wpU_takeB (i := 5) (v := _) HOPS rfl (by kernel_rfl) (fun _ _ _ h => h) HCL (goes_not (by rfl)) ?_)
                        try simp only [Act.put, List.getElem_toArray, List.getElem_cons_succ, List.getElem_cons_zero, List.setIfInBounds_toArray, List.set_cons_zero, List.set_cons_succ]
                        first | (refine wpU_takeB (i := 6) (v := ?_) HOPS rfl (by kernel_rfl) (fun _ _ _ h => h) HCL (goes_read (by rfl) ?hy) ?_; case hy => (intro w hSw; (try dsimp only at hSw); go_simp; (try with_reducible rfl))) | (refine wpU_takeB (i := 6) (v := _) HOPS rfl (by kernel_rfl) (fun _ _ _ h => h) HCL (goes_not (by rfl)) ?_)
                        try simp only [Act.put, List.getElem_toArray, List.getElem_cons_succ, List.getElem_cons_zero, List.setIfInBounds_toArray, List.set_cons_zero, List.set_cons_succ]
                        refine wpU_takeB (i := 3) HOPS rfl (by kernel_rfl) (fun _ _ _ h => h) HCL (goes_idx _ _ _ a i x _ (by rfl) rfl Tryd.underlying9 (by rfl) (by rfl) (by rw [HL.out]; exact HXX.out) rfl) ?_
                        try simp only [Act.put, List.getElem_toArray, List.getElem_cons_succ, List.getElem_cons_zero, List.setIfInBounds_toArray, List.set_cons_zero, List.set_cons_succ]
                        refine wpU_takeB (i := 7) HOPS rfl (by kernel_rfl) (fun _ _ _ h => h) HCL (goes_idx _ _ _ b k y _ (by rfl) rfl Tryd.underlying9 (by rfl) (by rfl) (by rw [HM.out]; exact HY.out) rfl) ?_
                        try simp only [Act.put, List.getElem_toArray, List.getElem_cons_succ, List.getElem_cons_zero, List.setIfInBounds_toArray, List.set_cons_zero, List.set_cons_succ]
                        first | (refine wpU_takeB (i := 8) (v := ?_) HOPS rfl (by kernel_rfl) (fun _ _ _ h => h) HCL (goes_read (by rfl) ?hy) ?_; case hy => (intro w hSw; (try dsimp only at hSw); go_simp; (try with_reducible rfl))) | (refine wpU_takeB (i := 8) (v := _) HOPS rfl (by kernel_rfl) (fun _ _ _ h => h) HCL (goes_not (by rfl)) ?_)
                        try simp only [Act.put, List.getElem_toArray, List.getElem_cons_succ, List.getElem_cons_zero, List.setIfInBounds_toArray, List.set_cons_zero, List.set_cons_succ]
                        refine wpU_done (by kernel_rfl) (fun w12 hle => ?_) _
                        have n := (hle.ahead (by kernel_rfl)).1
                        replace HR8 := Lib.hid (HR8.out.ch n (fun _ _ e => e))
                        replace HI5 := Lib.hid (HI5.out.ch n (fun _ _ e => e))
                        replace HN5 := Lib.hid (HN5.out.trans n)
                        replace D1 := Lib.hid (n.cell D1.out id)
                        replace D2 := Lib.hid (n.cell D2.out id)
                        replace D3 := Lib.hid (n.cell D3.out id)
                        replace g2w := Nat.lt_of_lt_of_le g2w n.size
                        clear n
                        clear HOPS HCL hle
                        repeat clear hHeld
                        obtain ⟨V, hV⟩ : ∃ V : Nat, levAt L M (i + 1) (k + 1) = V := ⟨_, rfl⟩
                        rw [hV] at HS
                        have HV := Lib.hid hV
                        clear hV
                        have k9 : (k : Int) < (b.size : Int) := by omega
                        have k8 : (k : Int) + 1 < (b.size : Int) + 1 := by omega
                        have k7 : (0 : Int) ≤ (k : Int) + 1 := by omega
                        have k6 : (k : Int) < (k : Int) + 1 := by omega
                        have wB : IntKind.i64.wrap ((B : Int) + 1) = (B : Int) + 1 := by rw [IntKind.wrap_i64]; omega
                        have wC : IntKind.i64.wrap ((C : Int) + 1) = (C : Int) + 1 := by rw [IntKind.wrap_i64]; omega
                        go_wp2_with (fail)
                        refine wp_named ?_
                        intro W13 hW
                        have n : Nw w12 W13 := by rw [hW]; first | exact Ch.refl _ _ | exact (Ch.refl _ _).alloc _
                        replace HR8 := Lib.hid (HR8.out.ch n (fun _ _ e => e))
                        replace HI5 := Lib.hid (HI5.out.ch n (fun _ _ e => e))
                        replace HN5 := Lib.hid (HN5.out.trans n)
                        replace D1 := Lib.hid (n.cell D1.out id)
                        replace D2 := Lib.hid (n.cell D2.out id)
                        replace D3 := Lib.hid (n.cell D3.out id)
                        replace g2w := Nat.lt_of_lt_of_le g2w n.size
                        clear hW n
                        refine wp_region_V (F := fun w' => w'.cell? ⟨g1, k + 1, none⟩ = some (.int .i64 (B : Nat)) ∧ w'.cell? ⟨g2, k, none⟩ = some (.int .i64 (C : Nat))) (opsOf Tryd.f24 16) 15 17 (by kernel_rfl) (by kernel_rfl) (by kernel_rfl) (fun w w' h n => (⟨n.cell h.1 id, n.cell h.2 id⟩)) (⟨D2.out, D3.out⟩) (fun HOPS HCL hHeld => ?_)
                        refine wpU_named ?_
                        intro W14 hW
                        try rw [← hW] at hHeld
                        have n : Nw W13 W14 := by rw [hW]; exact (Ch.refl _ _).drew
                        replace HR8 := Lib.hid (HR8.out.ch n (fun _ _ e => e))
                        replace HI5 := Lib.hid (HI5.out.ch n (fun _ _ e => e))
                        replace HN5 := Lib.hid (HN5.out.trans n)
                        replace D1 := Lib.hid (n.cell D1.out id)
                        replace D2 := Lib.hid (n.cell D2.out id)
                        replace D3 := Lib.hid (n.cell D3.out id)
                        replace g2w := Nat.lt_of_lt_of_le g2w n.size
                        clear hW n
                        first | (refine wpU_takeA (i := 0) (v := ?_) HOPS rfl (by kernel_rfl) (fun _ _ _ h => h) HCL (goes_read (by rfl) ?hy) ?_; case hy => (intro w hSw; (try dsimp only at hSw); go_simp; (try with_reducible rfl))) | (refine wpU_takeA (i := 0) (v := _) HOPS rfl (by kernel_rfl) (fun _ _ _ h => h) HCL (goes_not (by rfl)) ?_)
                        try simp only [Act.put, List.getElem_toArray, List.getElem_cons_succ, List.getElem_cons_zero, List.setIfInBounds_toArray, List.set_cons_zero, List.set_cons_succ]
                        first | (refine wpU_takeA (i := 1) (v := ?_) HOPS rfl (by kernel_rfl) (fun _ _ _ h => h) HCL (goes_read (by rfl) ?hy) ?_; case hy => (intro w hSw; (try dsimp only at hSw); go_simp; (try with_reducible rfl))) | (refine wpU_takeA (i := 1) (v := _) HOPS rfl (by kernel_rfl) (fun _ _ _ h => h) HCL (goes_not (by rfl)) ?_)
                        try simp only [Act.put, List.getElem_toArray, List.getElem_cons_succ, List.getElem_cons_zero, List.setIfInBounds_toArray, List.set_cons_zero, List.set_cons_succ]
                        first | (refine wpU_takeA (i := 2) (v := ?_) HOPS rfl (by kernel_rfl) (fun _ _ _ h => h) HCL (goes_read (by rfl) ?hy) ?_; case hy => (intro w hSw; (try dsimp only at hSw); go_simp; (try with_reducible rfl))) | (refine wpU_takeA (i := 2) (v := _) HOPS rfl (by kernel_rfl) (fun _ _ _ h => h) HCL (goes_not (by rfl)) ?_)
                        try simp only [Act.put, List.getElem_toArray, List.getElem_cons_succ, List.getElem_cons_zero, List.setIfInBounds_toArray, List.set_cons_zero, List.set_cons_succ]
                        first | (refine wpU_takeA (i := 3) (v := ?_) HOPS rfl (by kernel_rfl) (fun _ _ _ h => h) HCL (goes_read (by rfl) ?hy) ?_; case hy => (intro w hSw; (try dsimp only at hSw); go_simp; (try with_reducible rfl))) | (refine wpU_takeA (i := 3) (v := _) HOPS rfl (by kernel_rfl) (fun _ _ _ h => h) HCL (goes_not (by rfl)) ?_)
                        try simp only [Act.put, List.getElem_toArray, List.getElem_cons_succ, List.getElem_cons_zero, List.setIfInBounds_toArray, List.set_cons_zero, List.set_cons_succ]
                        first | (refine wpU_takeA (i := 4) (v := ?_) HOPS rfl (by kernel_rfl) (fun _ _ _ h => h) HCL (goes_read (by rfl) ?hy) ?_; case hy => (intro w hSw; (try dsimp only at hSw); go_simp; (try with_reducible rfl))) | (refine wpU_takeA (i := 4) (v := _) HOPS rfl (by kernel_rfl) (fun _ _ _ h => h) HCL (goes_not (by rfl)) ?_)
                        try simp only [Act.put, List.getElem_toArray, List.getElem_cons_succ, List.getElem_cons_zero, List.setIfInBounds_toArray, List.set_cons_zero, List.set_cons_succ]
                        first | (refine wpU_takeA (i := 5) (v := ?_) HOPS rfl (by kernel_rfl) (fun _ _ _ h => h) HCL (goes_read (by rfl) ?hy) ?_; case hy => (intro w hSw; (try dsimp only at hSw); go_simp; (try with_reducible rfl))) | (refine wpU_takeA (i := 5) (v := _) HOPS rfl (by kernel_rfl) (fun _ _ _ h => h) HCL (goes_not (by rfl)) ?_)
                        try simp only [Act.put, List.getElem_toArray, List.getElem_cons_succ, List.getElem_cons_zero, List.setIfInBounds_toArray, List.set_cons_zero, List.set_cons_succ]
                        first | (refine wpU_takeA (i := 6) (v := ?_) HOPS rfl (by kernel_rfl) (fun _ _ _ h => h) HCL (goes_read (by rfl) ?hy) ?_; case hy => (intro w hSw; (try dsimp only at hSw); go_simp; (try with_reducible rfl))) | (refine wpU_takeA (i := 6) (v := _) HOPS rfl (by kernel_rfl) (fun _ _ _ h => h) HCL (goes_not (by rfl)) ?_)
                        try simp only [Act.put, List.getElem_toArray, List.getElem_cons_succ, List.getElem_cons_zero, List.setIfInBounds_toArray, List.set_cons_zero, List.set_cons_succ]
                        first | (refine wpU_takeA (i := 7) (v := ?_) HOPS rfl (by kernel_rfl) (fun _ _ _ h => h) HCL (goes_read (by rfl) ?hy) ?_; case hy => (intro w hSw; (try dsimp only at hSw); go_simp; (try with_reducible rfl))) | (refine wpU_takeA (i := 7) (v := _) HOPS rfl (by kernel_rfl) (fun _ _ _ h => h) HCL (goes_not (by rfl)) ?_)
                        try simp only [Act.put, List.getElem_toArray, List.getElem_cons_succ, List.getElem_cons_zero, List.setIfInBounds_toArray, List.set_cons_zero, List.set_cons_succ]
                        first | (refine wpU_takeA (i := 8) (v := ?_) HOPS rfl (by kernel_rfl) (fun _ _ _ h => h) HCL (goes_read (by rfl) ?hy) ?_; case hy => (intro w hSw; (try dsimp only at hSw); go_simp; (try with_reducible rfl))) | (refine wpU_takeA (i := 8) (v := _) HOPS rfl (by kernel_rfl) (fun _ _ _ h => h) HCL (goes_not (by rfl)) ?_)
                        try simp only [Act.put, List.getElem_toArray, List.getElem_cons_succ, List.getElem_cons_zero, List.setIfInBounds_toArray, List.set_cons_zero, List.set_cons_succ]
                        first | (refine wpU_takeA (i := 9) (v := ?_) HOPS rfl (by kernel_rfl) (fun _ _ _ h => h) HCL (goes_read (by rfl) ?hy) ?_; case hy => (intro w hSw; (try dsimp only at hSw); go_simp; (try with_reducible rfl))) | (refine wpU_takeA (i := 9) (v := _) HOPS rfl (by kernel_rfl) (fun _ _ _ h => h) HCL (goes_not (by rfl)) ?_)
                        try simp only [Act.put, List.getElem_toArray, List.getElem_cons_succ, List.getElem_cons_zero, List.setIfInBounds_toArray, List.set_cons_zero, List.set_cons_succ]
                        first | (refine wpU_takeA (i := 10) (v := ?_) HOPS rfl (by kernel_rfl) (fun _ _ _ h => h) HCL (goes_read (by rfl) ?hy) ?_; case hy => (intro w hSw; (try dsimp only at hSw); go_simp; (try with_reducible rfl))) | (refine wpU_takeA (i := 10) (v := _) HOPS rfl (by kernel_rfl) (fun _ _ _ h => h) HCL (goes_not (by rfl)) ?_)
                        try simp only [Act.put, List.getElem_toArray, List.getElem_cons_succ, List.getElem_cons_zero, List.setIfInBounds_toArray, List.set_cons_zero, List.set_cons_succ]
                        first | (refine wpU_takeA (i := 11) (v := ?_) HOPS rfl (by kernel_rfl) (fun _ _ _ h => h) HCL (goes_read (by rfl) ?hy) ?_; case hy => (intro w hSw; (try dsimp only at hSw); go_simp; (try with_reducible rfl))) | (refine wpU_takeA (i := 11) (v := _) HOPS rfl (by kernel_rfl) (fun _ _ _ h => h) HCL (goes_not (by rfl)) ?_)
                        try simp only [Act.put, List.getElem_toArray, List.getElem_cons_succ, List.getElem_cons_zero, List.setIfInBounds_toArray, List.set_cons_zero, List.set_cons_succ]
                        first | (refine wpU_takeA (i := 12) (v := ?_) HOPS rfl (by kernel_rfl) (fun _ _ _ h => h) HCL (goes_read (by rfl) ?hy) ?_; case hy => (intro w hSw; (try dsimp only at hSw); go_simp; (try with_reducible rfl))) | (refine wpU_takeA (i := 12) (v := _) HOPS rfl (by kernel_rfl) (fun _ _ _ h => h) HCL (goes_not (by rfl)) ?_)
                        try simp only [Act.put, List.getElem_toArray, List.getElem_cons_succ, List.getElem_cons_zero, List.setIfInBounds_toArray, List.set_cons_zero, List.set_cons_succ]
                        refine wpU_takeA (i := 13) HOPS rfl (by kernel_rfl) (fun _ _ _ h => h) HCL (goes_min3 _ _ _ _ ((A : Int) + 1) ((B : Int) + 1) ((C : Int) + 1) (V : Int) (by rfl) rfl (by rfl) (by rfl) (by rfl) (by have h := HS.out; split <;> split at * <;> omega)) ?_
                        try simp only [Act.put, List.getElem_toArray, List.getElem_cons_succ, List.getElem_cons_zero, List.setIfInBounds_toArray, List.set_cons_zero, List.set_cons_succ]
                        refine wpU_ready (rs := [14]) (by kernel_rfl) (by simp) ?_
                        intro w15 hle
                        obtain ⟨n, hHeld⟩ := hle.ahead (by kernel_rfl)
                        clear hle
                        replace HR8 := Lib.hid (HR8.out.ch n (fun _ _ e => e))
                        replace HI5 := Lib.hid (HI5.out.ch n (fun _ _ e => e))
                        replace HN5 := Lib.hid (HN5.out.trans n)
                        replace D1 := Lib.hid (n.cell D1.out id)
                        replace D2 := Lib.hid (n.cell D2.out id)
                        replace D3 := Lib.hid (n.cell D3.out id)
                        replace g2w := Nat.lt_of_lt_of_le g2w n.size
                        clear n
                        refine ReadyU.cons HOPS rfl (by rfl) (fun K hK => ?_) ReadyU.nil
                        go_simp
                        refine hK.out _ _ ((Ch.refl _ _).alloc _) (⟨cell_alloc_old _ D2.out, cell_alloc_old _ D3.out⟩) (fun hHeld => ?_)
                        clear hK K
                        try simp only [Act.put, List.getElem_toArray, List.getElem_cons_succ, List.getElem_cons_zero, List.setIfInBounds_toArray, List.set_cons_zero, List.set_cons_succ]
                        have g2wAHEL := g2w
                        refine wpU_named ?_
                        intro W16 hW
                        try rw [← hW] at hHeld
                        have n : Nw w15 W16 := by rw [hW]; exact (Ch.refl _ _).alloc _
                        replace HR8 := Lib.hid (HR8.out.ch n (fun _ _ e => e))
                        replace HI5 := Lib.hid (HI5.out.ch n (fun _ _ e => e))
                        replace HN5 := Lib.hid (HN5.out.trans n)
                        replace D1 := Lib.hid (n.cell D1.out id)
                        replace D2 := Lib.hid (n.cell D2.out id)
                        replace D3 := Lib.hid (n.cell D3.out id)
                        replace g2w := Nat.lt_of_lt_of_le g2w n.size
                        have HEL := Lib.hid (show W16.heap[w15.heap.size]? = some (.cells #[.int .i64 (V : Nat)] 3 (0, 0)) from by rw [hW]; exact heap_alloc_eq _ rfl)
                        clear hW n
                        refine wpU_ready (rs := [15]) (by kernel_rfl) (by simp) ?_
                        intro w17 hle
                        obtain ⟨n, hHeld⟩ := hle.ahead (by kernel_rfl)
                        clear hle
                        replace HR8 := Lib.hid (HR8.out.ch n (fun _ _ e => e))
                        replace HI5 := Lib.hid (HI5.out.ch n (fun _ _ e => e))
                        replace HN5 := Lib.hid (HN5.out.trans n)
                        replace D1 := Lib.hid (n.cell D1.out id)
                        replace D2 := Lib.hid (n.cell D2.out id)
                        replace D3 := Lib.hid (n.cell D3.out id)
                        replace g2w := Nat.lt_of_lt_of_le g2w n.size
                        replace HEL := Lib.hid (n.heap HEL.out id)
                        clear n
                        refine ReadyU.last HOPS rfl (by rfl) (by kernel_rfl) (fun K hK => ?_) ReadyU.nil
                        refine app_int9 _ (.tmp 51) (.tmp 65) rfl G (.slice (some ⟨g2, 0, none⟩) (k + 1) c2) (k + 1) _ (by rfl) HR8.out _ (V : Int) (by rfl) HEL.out (by omega) (by omega) ?_
                        intro g9 c9 wz hr9 hg9
                        have HR9 := Lib.hid hr9
                        have HG9 := Lib.hid hg9
                        clear hr9 hg9
                        refine hK.out _ _ ?_
                        clear hK K
                        try simp only [Act.put, List.getElem_toArray, List.getElem_cons_succ, List.getElem_cons_zero, List.setIfInBounds_toArray, List.set_cons_zero, List.set_cons_succ]
                        refine wpU_ready (rs := [16]) (by kernel_rfl) (by simp) ?_
                        intro wq hle
                        rw [hle.behind (by kernel_rfl)]
                        clear hle wq
                        refine ReadyU.last HOPS rfl (by rfl) (by kernel_rfl) (fun K hK => ?_) ReadyU.nil
                        go_simp
                        refine hK.out _ _ ?_
                        clear hK K
                        try simp only [Act.put, List.getElem_toArray, List.getElem_cons_succ, List.getElem_cons_zero, List.setIfInBounds_toArray, List.set_cons_zero, List.set_cons_succ]
                        refine wpU_done (by kernel_rfl) (fun w18 hle => ?_) _
                        rw [hle.behind (by kernel_rfl)]
                        clear HOPS HCL hle
                        repeat clear hHeld
                        go_wp2_with (fail)
                        refine ⟨⟨k + 1, by go_num, by omega, Lib.hid (by rw [rowT_succ, HV.out]; exact HR9.out), Lib.hid (HI5.out.grown' HG9.out (fun j e1 e2 => by have h1 : g1 = j := Option.some.inj e1; have h2 : g2 = j := Option.some.inj e2; omega)), Lib.hid (HN5.out.grown HG9.out (fun j e hj => by have h2 : g2 = j := Option.some.inj e; have := HG.out; omega))⟩, by simp [intOf]; omega⟩
                · as_aux_lemma =>
                    have k1 : ¬ (k : Int) + 1 ≤ (b.size : Int) := by omega
                    obtain rfl : k = b.size := by omega
                    go_wp2_with (fail)
                    refine ⟨⟨i + 1, by go_num, by omega, Lib.hid (HR8.out.lo hw), Lib.hid (HN.out.trans HN5.out)⟩, by simp [intOf]; omega⟩
          · as_aux_lemma =>
              have i1 : ¬ (i : Int) + 1 ≤ (a.size : Int) := by omega
              obtain rfl : i = a.size := by omega
              obtain ⟨g, rfl, hg, cE⟩ := HI.out.at (rowT_at (a := L) (b := M) (i := a.size) (j := b.size) (Nat.lt_succ_self _))
              rw [← hla, ← hlb, levAt_all, hlb] at cE
              have b1 : (b.size : Int) < (b.size : Int) + 1 := by omega
              go_wp2
              exact HR.out _ HN.out

end Go.Proofs.YtnibgjpbijlhbaaDoor
