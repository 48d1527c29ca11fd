/-
  indelibleref04.Odd: some bitmap of at most one dot more.
-/
import Derived.Test.YtaafmgkjfmngjaaDoorClone
import Derived.Deep.RegionHeld3
import Derived.Deep.RegionLaw
import Derived.Test.YtaafmgkjfmngjaaDoorRegT
import Derived.Test.YtaafmgkjfmngjaaDoorImH
import Derived.Test.YtaafmgkjfmngjaaDoorBRow
namespace Go.Proofs.YtaafmgkjfmngjaaDoor
open Go.RowKit
set_option linter.unusedVariables false
set_option linter.unusedSimpArgs false
set_option maxRecDepth 100000

/-- 'append(s, x...)' onto an empty slice with a block of its own, in a drawn region. -/
theorem step_copyB {ops : Array Oper} {oo : Oper} {a : Act} {w : World} {K : Act → World → Prop} {Q : Exit → Act → World → Prop} {E : Prop} (hgd : oo.guard = none) (s x : Operand)
    (ho : oo.op = .call { callee := .builtin .append, args := #[s, x], argTypes := #[26, 26] })
    (B g0 : Nat) (hs : a.eval s = .slice (some ⟨g0, 0, none⟩) 0 0) (hown : w.ownsRow B 4 1 (.slice (some ⟨g0, 0, none⟩) 0 0) 0 [])
    (lo : Nat) (v : Value) (l : List Bool) (hx : a.eval x = v) (hi : IsBools w lo v l) (hnil : ∀ n c, v = .slice none n c → c = 0) (hl : l.length ≤ 1000000) (hB : B ≤ w.heap.size) (H : Nat) (hH : w.heap.size = H)
    (h : ∀ g cap w', BRow w' B (.slice (some ⟨g, 0, none⟩) l.length cap) l.length l → w.grownBy w' (some g0) → (g0 = g ∨ g = H) → K (a.put oo.dst (.slice (some ⟨g, 0, none⟩) l.length cap)) w') :
    if Region.wanted oo (yielded ops a.tmps) = true then Oper.wp Tryd.prog oo a w K Q else E := by
  subst hH
  obtain ⟨i, hi1, hz, hs1, hb⟩ := info_parts info_bool
  obtain ⟨A, c, rfl, -, hel⟩ := hi
  by_cases hm : l.length = 0
  · have hn : l = [] := List.eq_nil_of_length_eq_zero hm
    subst hn
    cases A with
    | some ad => exact step_append_room hgd s x 26 ho 4 i 1 Tryd.underlying26 hi1 hs1 g0 0 0 0 hs ad 0 c [] hx rfl (fun j u hj => nomatch hj) (fun u hu => nomatch hu) (by omega) (fun j hj => absurd hj (by simp)) (h g0 0 w hown (World.grownBy.refl _ _) (Or.inl rfl))
    | none =>
      have hc := hnil _ _ rfl
      subst hc
      have hw : Region.wanted oo (yielded ops a.tmps) = true := by simp [Region.wanted, hgd]
      rw [if_pos hw]
      have hrun := run_append_owned_none (P := Tryd.prog) w B 26 oo.type 4 i 1 Tryd.underlying26 hi1 _ 0 [] hown
      have := h g0 0 w hown (World.grownBy.refl _ _) (Or.inl rfl)
      unfold Oper.wp
      simp [execOp, ho, resolve, invoke, builtin, hs, hx, hrun, Result.andThen]
      exact this
  · obtain ⟨y0, hy0⟩ : ∃ y, l[0]? = some y := ⟨_, List.getElem?_eq_getElem (by omega)⟩
    obtain ⟨pk, po, -, rfl, -⟩ := hel 0 y0 hy0
    refine step_append_lies w hgd s x 26 ho B 4 i _ 1 1 Tryd.underlying26 hi1 hz hs1 hb rfl (by omega) _ 0 [] hs hown ⟨pk, po, none⟩ l.length c (l.map Value.bool) hx (by simp) ?_ ?_ (by omega) (by unfold maxLen; omega) (by omega) hB _ rfl ?_
    · intro j u hj
      rw [List.getElem?_map] at hj
      obtain ⟨y, hy, rfl⟩ := Option.map_eq_some_iff.1 hj
      obtain ⟨pk', po', -, ea, h0⟩ := hel j y hy
      injection ea with ea
      injection ea with e1 e2
      subst e1 e2
      have hadd : (⟨pk, po, none⟩ : Addr).add j = ⟨pk, po + j, none⟩ := by unfold Addr.add; split <;> simp_all
      rw [hadd]; exact h0
    · intro u hu
      obtain ⟨y, -, rfl⟩ := List.mem_map.1 hu
      rfl
    · intro g cap w' h1 h2 h3 _
      simp only [Nat.zero_add, List.nil_append] at h1 ⊢
      refine h g cap w' h1 h2 ?_
      rcases h3 with h3 | h3
      · injection h3 with h3; exact Or.inl h3
      · exact Or.inr h3

theorem takeB {w : World} {lo : Nat} {A : Option Addr} {cap : Nat} {l : List Bool} (k : Nat) (hk : k ≤ l.length) (h : IsBools w lo (.slice A l.length cap) l) : IsBools w lo (.slice A k cap) (l.take k) := by
  obtain ⟨A', cap', e, ⟨h1, h2⟩, h3⟩ := h
  injection e with e1 e2 e3
  subst e1 e3
  refine ⟨A, cap, by rw [List.length_take, Nat.min_eq_left hk], ⟨by rw [List.length_take]; omega, by rw [List.length_take]; omega⟩, fun i x hi => ?_⟩
  rw [List.getElem?_take] at hi
  split at hi
  · exact h3 i x hi
  · cases hi
theorem own0B {w : World} {B g : Nat} (h : w.heap[g]? = some (.cells #[] 4 (0, 0))) (hB : B ≤ g) : w.ownsRow B 4 1 (.slice (some ⟨g, 0, none⟩) 0 0) 0 [] :=
  ⟨rfl, .inr ⟨g, 0, #[], rfl, hB, h, Nat.le_refl _, by unfold maxLen; omega, rfl, rfl⟩⟩
theorem outRowB {P X w2 : World} {O row : Obj} (h : X.grownBy w2 (some (P.heap.size + 1))) (hX : X.heap = ((P.alloc O).alloc row).heap) : w2.heap[P.heap.size]? = some O :=
  (h.block P.heap.size (by rw [hX]; simp only [alloc_size]; omega) (by simp)).trans (by rw [hX]; exact heap_alloc_old' _ (heap_alloc_eq _ rfl))
theorem rowOutB {P X w2 : World} {O row : Obj} (h : X.grownBy w2 (some P.heap.size)) (hX : X.heap = ((P.alloc row).alloc O).heap) : w2.heap[P.heap.size + 1]? = some O :=
  (h.block (P.heap.size + 1) (by rw [hX]; simp only [alloc_size]; omega) (by simp)).trans (by rw [hX]; exact heap_alloc_eq _ (by simp only [alloc_size]))
abbrev Own3B (b : Nat) (W H : Int) (s : Value) (w : World) : Prop := w.cell? ⟨b, 0, none⟩ = some (.int .i64 W) ∧ w.cell? ⟨b, 1, none⟩ = some (.int .i64 H) ∧ w.cell? ⟨b, 2, none⟩ = some s
theorem Own3B.alloc {b : Nat} {W H : Int} {s : Value} {w : World} (h : Own3B b W H s w) (o : Obj) : Own3B b W H s (w.alloc o) := ⟨cell_alloc_old _ h.1, cell_alloc_old _ h.2.1, cell_alloc_old _ h.2.2⟩
theorem Own3B.grown {b : Nat} {W H : Int} {s : Value} {X w2 : World} {row : Option Nat} (h : Own3B b W H s X) (hg : X.grownBy w2 row) (hne : some b ≠ row) : Own3B b W H s w2 :=
  ⟨by rw [hg.cell_far _ (World.block_lt_of_cell? _ _ h.1) hne]; exact h.1, by rw [hg.cell_far _ (World.block_lt_of_cell? _ _ h.2.1) hne]; exact h.2.1, by rw [hg.cell_far _ (World.block_lt_of_cell? _ _ h.2.2) hne]; exact h.2.2⟩
theorem Own3B.drew {b : Nat} {W H : Int} {s : Value} {w : World} (h : Own3B b W H s w) : Own3B b W H s w.drew := h
theorem Own3B.stored {b g : Nat} {W H : Int} {s : Value} {w : World} (h : Own3B b W H s w) (x y z : Value) (hg : b ≠ g) : Own3B b W H s (((w.setCell ⟨g, 0, none⟩ x).setCell ⟨g, 1, none⟩ y).setCell ⟨g, 2, none⟩ z) :=
  ⟨cell_setCell_ne _ (cell_setCell_ne _ (cell_setCell_ne _ h.1 hg) hg) hg, cell_setCell_ne _ (cell_setCell_ne _ (cell_setCell_ne _ h.2.1 hg) hg) hg, cell_setCell_ne _ (cell_setCell_ne _ (cell_setCell_ne _ h.2.2 hg) hg) hg⟩
set_option maxHeartbeats 8000000 in
theorem bmOdd_any (lo : Nat) (v : Value) (x : Bm) (k : Int) (w : World) (R : Ending → World → Prop) (h : IsBm w lo v x) (hlo : lo ≤ w.heap.size) (hk : wfI k) (hlen : x.2.2.length ≤ 1000)
    (hnil : ∀ a b n c, v = .agg #[a, b, .slice none n c] → c = 0)
    (hR : ∀ w' v' x', IsBm w' w'.heap.size v' x' → x'.2.2.length ≤ x.2.2.length + 1 → Nw w w' → R (.returned v') w') : Calls Tryd.prog 34 #[v, .int .i64 k] w R := by
  have HR := Lib.hid hR
  clear hR
  obtain ⟨W, H, l⟩ := x
  obtain ⟨s, rfl, hi, hw, hh⟩ := h
  simp only at hw hh hi hlen HR
  have HI := Lib.hid hi
  obtain ⟨A, cap, rfl, ⟨hlc, hl⟩, -⟩ := hi
  have HNIL := Lib.hid (show ∀ n c, Value.slice A l.length cap = .slice none n c → c = 0 from fun n c e => hnil _ _ _ _ (by rw [e]))
  clear hnil
  have HN := Lib.hid (show Nw w ((w.alloc (.cells #[.int .i64 W, .int .i64 H, .slice A l.length cap] 28)).alloc (.cells #[.int .i64 0, .int .i64 0, .slice none 0 0] 28)) from ((Ch.refl _ _).alloc _).alloc _)
  go_enter Tryd.func34, Tryd.ntmps34
  go_upto_region 1 with (fail)
  go_cut [5] (fun s5 wx => ∃ (ob g cap' : Nat), s5 = .pointer (some ⟨ob, 0, none⟩) ∧ Hid (wx.heap[ob]? = some (.cells #[.int .i64 W, .int .i64 H, .slice (some ⟨g, 0, none⟩) l.length cap'] 28 (0, 0))) ∧ Hid (BRow wx (w.heap.size + 2) (.slice (some ⟨g, 0, none⟩) l.length cap') l.length l) ∧ g ≠ ob ∧ w.heap.size + 2 ≤ ob ∧ Hid (Nw ((w.alloc (.cells #[.int .i64 W, .int .i64 H, .slice A l.length cap] 28)).alloc (.cells #[.int .i64 0, .int .i64 0, .slice none 0 0] 28)) wx))
  case first => as_aux_lemma =>
    go_wp2_with fail
    refine wp_named ?_
    intro P hP
    have P3 : Own3B w.heap.size W H (.slice A l.length cap) P := by
      rw [hP]; exact ⟨cell_alloc_old _ (cell_alloc_new rfl rfl), cell_alloc_old _ (cell_alloc_new rfl rfl), cell_alloc_old _ (cell_alloc_new rfl rfl)⟩
    have HNP := Lib.hid (show Nw w P from by rw [hP]; exact HN.out)
    have zP : w.heap.size < P.heap.size := World.block_lt_of_cell? _ _ P3.1
    have HPE := Lib.hid hP
    clear hP HN
    go_region_held3 (fun w' => w'.cell? ⟨w.heap.size, 0, none⟩ = some (.int .i64 W) ∧ w'.cell? ⟨w.heap.size, 1, none⟩ = some (.int .i64 H) ∧ w'.cell? ⟨w.heap.size, 2, none⟩ = some (.slice A l.length cap)) (first | (with_reducible exact q3) | (with_reducible exact P3) | (with_reducible exact Own3B.drew P3) | (with_reducible exact q3.alloc _) | (with_reducible exact (Own3B.alloc P3 _).drew) | (with_reducible exact ((Own3B.alloc P3 _).alloc _).drew) | (with_reducible exact ((Own3B.alloc P3 _).drew).alloc _) | (with_reducible exact (Own3B.drew P3).alloc _) | (with_reducible exact ((Own3B.drew P3).alloc _).alloc _) | (with_reducible exact Own3B.alloc P3 _) | (with_reducible exact Own3B.stored q3 _ _ _ (by omega)) | (with_reducible exact Own3B.stored (q3.alloc _) _ _ _ (by omega)) | (with_reducible exact (q3.alloc _).drew) | (with_reducible exact q3.drew)) ((refine step_copyB rfl (.tmp 10) (.tmp 12) rfl P.heap.size _ rfl (by first | exact own0B (heap_alloc_eq _ rfl) (by omega) | exact World.ownsRow.drew (own0B (heap_alloc_eq _ rfl) (by omega)) | exact World.ownsRow.drew (own0B (heap_alloc_old' _ (heap_alloc_eq _ rfl)) (by omega)) | exact World.ownsRow.drew (own0B (heap_alloc_eq _ (by simp only [alloc_size])) (by omega)) | exact own0B (heap_alloc_old' _ (heap_alloc_eq _ rfl)) (by omega) | exact own0B (heap_alloc_eq _ (by simp only [alloc_size]; rfl)) (by omega)) lo _ l rfl (by first | exact HI.out.kept ((HNP.out.alloc _).drew) nof | exact HI.out.kept (((HNP.out.alloc _).alloc _).drew) nof | exact HI.out.kept (((HNP.out.alloc _).drew).alloc _) nof | exact HI.out.kept ((HNP.out.drew).alloc _) nof | exact HI.out.kept (((HNP.out.drew).alloc _).alloc _) nof) HNIL.out (by omega) (by first | (show P.heap.size ≤ (P.alloc _).heap.size; rw [alloc_size]; omega) | (show P.heap.size ≤ ((P.alloc _).alloc _).heap.size; simp only [alloc_size]; omega)) _ rfl ?_; intro g cap2 w2 c1 c2 c3; (have H1 := Lib.hid c1); (have H2 := Lib.hid c2); (have ne1 : some w.heap.size ≠ some P.heap.size := fun e => by injection e with e; omega); (have ne2 : some w.heap.size ≠ some (P.heap.size + 1) := fun e => by injection e with e; omega); (first | (have q3 : Own3B w.heap.size W H (.slice A l.length cap) w2 := Own3B.grown ((Own3B.alloc P3 _).drew) c2 ne1) | (have q3 : Own3B w.heap.size W H (.slice A l.length cap) w2 := Own3B.grown ((Own3B.alloc P3 _).drew) c2 ne2) | (have q3 : Own3B w.heap.size W H (.slice A l.length cap) w2 := Own3B.grown (((Own3B.alloc P3 _).alloc _).drew) c2 ne1) | (have q3 : Own3B w.heap.size W H (.slice A l.length cap) w2 := Own3B.grown (((Own3B.alloc P3 _).alloc _).drew) c2 ne2) | (have q3 : Own3B w.heap.size W H (.slice A l.length cap) w2 := Own3B.grown (((Own3B.alloc P3 _).drew).alloc _) c2 ne1) | (have q3 : Own3B w.heap.size W H (.slice A l.length cap) w2 := Own3B.grown (((Own3B.alloc P3 _).drew).alloc _) c2 ne2) | (have q3 : Own3B w.heap.size W H (.slice A l.length cap) w2 := Own3B.grown ((Own3B.drew P3).alloc _) c2 ne1) | (have q3 : Own3B w.heap.size W H (.slice A l.length cap) w2 := Own3B.grown ((Own3B.drew P3).alloc _) c2 ne2) | (have q3 : Own3B w.heap.size W H (.slice A l.length cap) w2 := Own3B.grown (((Own3B.drew P3).alloc _).alloc _) c2 ne1) | (have q3 : Own3B w.heap.size W H (.slice A l.length cap) w2 := Own3B.grown (((Own3B.drew P3).alloc _).alloc _) c2 ne2)); clear ne1 ne2; (have z0 : w.heap.size < w2.heap.size := World.block_lt_of_cell? _ _ q3.1); (first | (have fB := outRowB (P := P) (O := (.cells #[.int .i64 0, .int .i64 0, .slice none 0 0] 28)) (row := .cells #[] 4) c2 rfl; have b0 : w2.cell? ⟨P.heap.size, 0, none⟩ = some (.int .i64 0) := (by rw [cell_of fB]; rfl); have b1 : w2.cell? ⟨P.heap.size, 1, none⟩ = some (.int .i64 0) := (by rw [cell_of fB]; rfl); have b2 : w2.cell? ⟨P.heap.size, 2, none⟩ = some (.slice none 0 0) := (by rw [cell_of fB]; rfl); have d0 : w2.frozen? ⟨P.heap.size, 0, none⟩ = false := frozen_of fB; have d1 : w2.frozen? ⟨P.heap.size, 1, none⟩ = false := frozen_of fB; have d2 : w2.frozen? ⟨P.heap.size, 2, none⟩ = false := frozen_of fB) | (have fB := rowOutB (P := P) (O := (.cells #[.int .i64 0, .int .i64 0, .slice none 0 0] 28)) (row := .cells #[] 4) c2 rfl; have b0 : w2.cell? ⟨P.heap.size + 1, 0, none⟩ = some (.int .i64 0) := (by rw [cell_of fB]; rfl); have b1 : w2.cell? ⟨P.heap.size + 1, 1, none⟩ = some (.int .i64 0) := (by rw [cell_of fB]; rfl); have b2 : w2.cell? ⟨P.heap.size + 1, 2, none⟩ = some (.slice none 0 0) := (by rw [cell_of fB]; rfl); have d0 : w2.frozen? ⟨P.heap.size + 1, 0, none⟩ = false := frozen_of fB; have d1 : w2.frozen? ⟨P.heap.size + 1, 1, none⟩ = false := frozen_of fB; have d2 : w2.frozen? ⟨P.heap.size + 1, 2, none⟩ = false := frozen_of fB) | skip); clear c1 c2))
    all_goals
      go_wp2_with fail
      go_meet
      rw [← HPE.out]
      have hP2 : P.heap.size = w.heap.size + 2 := by rw [HPE.out]; simp only [alloc_size]
      have hg := H1.out.lt g rfl
      have hob := H1.out
      have n2 : Nw P w2 := by
        first
        | exact (((Ch.refl _ P).alloc _).drew).grown H2.out (fun k hk hl => by injection hk with hk; omega)
        | exact ((((Ch.refl _ P).alloc _).alloc _).drew).grown H2.out (fun k hk hl => by injection hk with hk; omega)
      have n2s := n2.size
      have key : ∀ ob, g ≠ ob → P.heap.size ≤ ob → BRow (((w2.setCell ⟨ob, 0, none⟩ (.int .i64 W)).setCell ⟨ob, 1, none⟩ (.int .i64 H)).setCell ⟨ob, 2, none⟩ (.slice (some ⟨g, 0, none⟩) l.length cap2)) (w.heap.size + 2) (.slice (some ⟨g, 0, none⟩) l.length cap2) l.length l := by
        intro ob h1 h2
        exact (hob.ch' ((((Ch.refl (· = ob) w2).setb (fun _ => rfl) _).setb (fun _ => rfl) _).setb (fun _ => rfl) _) (fun j hj e => h1 (by injection hj with hj; exact (show g = j from hj).trans e))).lo (by omega)
      have q9 : ∀ a b : Obj, ((P.alloc a).alloc b).drew.heap.size = P.heap.size + 2 := fun a b => by show ((P.alloc _).alloc _).heap.size = _; simp only [alloc_size]
      refine ⟨_, g, cap2, rfl, Lib.hid ?_, Lib.hid ?_, ?_, ?_, Lib.hid ?_⟩
      · first | exact heap_setCell_eq _ (heap_setCell_eq _ (heap_setCell_eq _ fB)) | exact heap_alloc_eq _ rfl
      · first
        | exact (hob.ch ((Ch.refl (fun _ => False) w2).alloc _) (fun _ _ e => e)).lo (by omega)
        | exact key _ (by rcases c3 with c3 | c3 <;> (try rw [q9] at c3) <;> omega) (by omega)
      · first
        | omega
        | (rcases c3 with c3 | c3 <;> (try rw [q9] at c3) <;> omega)
      · omega
      · first
        | exact n2.alloc _
        | exact ((n2.setb (fun h => by omega) _).setb (fun h => by omega) _).setb (fun h => by omega) _
  case rest => as_aux_lemma =>
    obtain ⟨ob, g, cap', rfl, HO, HRW, hne, hob, HNX⟩ := hcut
    obtain ⟨W1, rfl⟩ : ∃ W : World, W = wc := ⟨_, rfl⟩
    have NX := Lib.hid (show Nw w W1 from HN.out.trans HNX.out)
    have RB := Lib.hid (show W1.heap[w.heap.size + 1]? = some (.cells #[.int .i64 0, .int .i64 0, .slice none 0 0] 28 (0, 0)) from HNX.out.heap (heap_alloc_eq _ (by simp only [alloc_size])) id)
    have o0 : W1.cell? ⟨ob, 0, none⟩ = some (.int .i64 W) := by rw [cell_of HO.out]; rfl
    have o1 : W1.cell? ⟨ob, 1, none⟩ = some (.int .i64 H) := by rw [cell_of HO.out]; rfl
    have o2 : W1.cell? ⟨ob, 2, none⟩ = some (.slice (some ⟨g, 0, none⟩) l.length cap') := by rw [cell_of HO.out]; rfl
    have f0 : W1.frozen? ⟨ob, 0, none⟩ = false := frozen_of HO.out
    have f1 : W1.frozen? ⟨ob, 1, none⟩ = false := frozen_of HO.out
    have f2 : W1.frozen? ⟨ob, 2, none⟩ = false := frozen_of HO.out
    have r0 : W1.cell? ⟨w.heap.size + 1, 0, none⟩ = some (.int .i64 0) := by rw [cell_of RB.out]; rfl
    have r1 : W1.cell? ⟨w.heap.size + 1, 1, none⟩ = some (.int .i64 0) := by rw [cell_of RB.out]; rfl
    have r2 : W1.cell? ⟨w.heap.size + 1, 2, none⟩ = some (.slice none 0 0) := by rw [cell_of RB.out]; rfl
    have q0 : W1.frozen? ⟨w.heap.size + 1, 0, none⟩ = false := frozen_of RB.out
    have q1 : W1.frozen? ⟨w.heap.size + 1, 1, none⟩ = false := frozen_of RB.out
    have q2 : W1.frozen? ⟨w.heap.size + 1, 2, none⟩ = false := frozen_of RB.out
    obtain ⟨m, hm⟩ : ∃ m, k % 6 = m := ⟨_, rfl⟩
    have m0 : 0 ≤ m ∧ m < 6 := by omega
    have HM := Lib.hid hm
    have fin : ∀ (W2 : World) (W' H' : Int) (g' n c' j : Nat) (l' : List Bool), Nw w W2 → wfI W' → wfI H' → BRow W2 (w.heap.size + 2) (.slice (some ⟨g', 0, none⟩) n c') n l' → n ≤ l.length + 1 → j ≤ n → R (.returned (.agg #[.int .i64 W', .int .i64 H', .slice (some ⟨g', 0, none⟩) j c'])) (((W2.setCell ⟨w.heap.size + 1, 0, none⟩ (.int .i64 W')).setCell ⟨w.heap.size + 1, 1, none⟩ (.int .i64 H')).setCell ⟨w.heap.size + 1, 2, none⟩ (.slice (some ⟨g', 0, none⟩) j c')) := by
      intro W2 W' H' g' n c' j l' h1 h2 h3 h4 h6 h7
      have hn := h4.len
      have h8 := (h4.ch' ((((Ch.refl (· = w.heap.size + 1) W2).setb (o := 0) (fun _ => rfl) (.int .i64 W')).setb (o := 1) (fun _ => rfl) (.int .i64 H')).setb (o := 2) (fun _ => rfl) (.slice (some ⟨g', 0, none⟩) j c')) (fun i hi e => by
        have h9 := (h4.lt i hi).1
        have e' : i = w.heap.size + 1 := e
        omega)).isBools (by omega)
      rw [← hn] at h8
      refine HR.out _ _ (W', H', l'.take j) ⟨_, rfl, takeB j (by omega) h8, h2, h3⟩ (by simp only [List.length_take]; omega) (((h1.setb (fun h => by omega) _).setb (fun h => by omega) _).setb (fun h => by omega) _)
    have FIN := Lib.hid fin
    have wW : ∀ z, wfI (wrap64 z) := fun z => by unfold wfI wrap64; omega
    have WW := Lib.hid wW
    have hb2 : ¬ ob = w.heap.size + 1 := by omega
    have hb3 : ¬ w.heap.size + 1 = ob := by omega
    clear hm HN HNX fin wW
    obtain rfl | rfl | rfl | rfl | rfl | rfl : m = 0 ∨ m = 1 ∨ m = 2 ∨ m = 3 ∨ m = 4 ∨ m = 5 := by omega
    all_goals clear m0
    · go_wp2_with (go_at_call 20; refine Mod_any _ _ _ _ hk (by omega) (by omega) ?_; rw [HM.out])
      exact bodyPost_ret (by simp [results, Tryd.results34, go_sem, r0, r1, r2, hb2, hb3]) rfl (FIN.out _ _ _ g l.length cap' l.length l (NX.out.setb (fun h => by omega) _) (WW.out _) hh (HRW.out.ch' ((Ch.refl (· = ob) W1).setb (fun _ => rfl) _) (fun i hi e => hne (by injection hi with hi; exact (show g = i from hi).trans e))) (by omega) (Nat.le_refl _))
    · go_wp2_with (go_at_call 20; refine Mod_any _ _ _ _ hk (by omega) (by omega) ?_; rw [HM.out])
      exact bodyPost_ret (by simp [results, Tryd.results34, go_sem, r0, r1, r2, hb2, hb3]) rfl (FIN.out _ _ _ g l.length cap' l.length l (NX.out.setb (fun h => by omega) _) hw hk (HRW.out.ch' ((Ch.refl (· = ob) W1).setb (fun _ => rfl) _) (fun i hi e => hne (by injection hi with hi; exact (show g = i from hi).trans e))) (by omega) (Nat.le_refl _))
    · go_wp2_with (first | (go_at_call 20; refine Mod_any _ _ _ _ hk (by omega) (by omega) ?_; rw [HM.out]) | (at_builtin; refine app_bool _ rfl (.tmp 30) (.tmp 31) rfl (w.heap.size + 2) (.slice (some ⟨g, 0, none⟩) l.length cap') l.length l (by rfl) (HRW.out.ch ((Ch.refl (fun _ => False) _).alloc _) (fun _ _ e => e)) _ true (by rfl) (cell_alloc_new rfl rfl) (by omega) (by have := lt_of_heap HO.out; rw [alloc_size]; omega) ?_))
      intro g3 cap4 w3 hr3 hg3
      have n3 : Ch (· = g) W1 w3 := ((Ch.refl (· = g) W1).alloc _).grown hg3 (fun j hj _ => by injection hj with hj; exact hj.symm)
      have hgl := HRW.out.lt g rfl
      have O3 := n3.heap HO.out (by show ob ≠ g; omega)
      have RB3 := n3.heap RB.out (by show w.heap.size + 1 ≠ g; omega)
      have HR3 := Lib.hid hr3
      have N3 := Lib.hid (NX.out.trans' n3 (fun j hj e => by have e' : j = g := e; omega))
      have hg3o : g3 ≠ ob := by
        rintro rfl
        rcases hr3.2 with ⟨h, -⟩ | ⟨g', c', cur, h, -, hgg, -, -, hcs, ht⟩
        · cases h
        · cases h
          rw [O3] at hgg
          cases hgg
      clear n3 hr3 hg3 o0 o1 o2 f0 f1 f2 r0 r1 r2 q0 q1 q2
      have o0 : w3.cell? ⟨ob, 0, none⟩ = some (.int .i64 W) := by rw [cell_of O3]; rfl
      have o1 : w3.cell? ⟨ob, 1, none⟩ = some (.int .i64 H) := by rw [cell_of O3]; rfl
      have o2 : w3.cell? ⟨ob, 2, none⟩ = some (.slice (some ⟨g, 0, none⟩) l.length cap') := by rw [cell_of O3]; rfl
      have f2 : w3.frozen? ⟨ob, 2, none⟩ = false := frozen_of O3
      have r0 : w3.cell? ⟨w.heap.size + 1, 0, none⟩ = some (.int .i64 0) := by rw [cell_of RB3]; rfl
      have r1 : w3.cell? ⟨w.heap.size + 1, 1, none⟩ = some (.int .i64 0) := by rw [cell_of RB3]; rfl
      have r2 : w3.cell? ⟨w.heap.size + 1, 2, none⟩ = some (.slice none 0 0) := by rw [cell_of RB3]; rfl
      have q0 : w3.frozen? ⟨w.heap.size + 1, 0, none⟩ = false := frozen_of RB3
      have q1 : w3.frozen? ⟨w.heap.size + 1, 1, none⟩ = false := frozen_of RB3
      have q2 : w3.frozen? ⟨w.heap.size + 1, 2, none⟩ = false := frozen_of RB3
      clear O3 RB3
      go_wp2
      exact bodyPost_ret (by simp [results, Tryd.results34, go_sem, r0, r1, r2, hb2, hb3]) rfl (FIN.out _ _ _ g3 (l.length + 1) cap4 (l.length + 1) (l ++ [true]) (N3.out.setb (fun h => by omega) _) hw hh (HR3.out.ch' ((Ch.refl (· = ob) w3).setb (fun _ => rfl) _) (fun i hi e => hg3o (by injection hi with hi; exact (show g3 = i from hi).trans e))) (by omega) (Nat.le_refl _))
    · have hcl : l.length ≤ cap' ∧ cap' ≤ 9223372036854775807 := by
        rcases HRW.out.2 with ⟨h1, -⟩ | ⟨g', c2, cur, h1, hb, hgg, hnc, hcm, -⟩
        · cases h1
        · cases h1; unfold maxLen at hcm; exact ⟨hnc, hcm⟩
      obtain ⟨hc1, hc2⟩ := hcl
      go_wp2_with (go_at_call 20; refine Mod_any _ _ _ _ hk (by omega) (by omega) ?_; rw [HM.out])
      exact bodyPost_ret (by simp [results, Tryd.results34, go_sem, r0, r1, r2, hb2, hb3]) rfl (FIN.out _ _ _ g l.length cap' _ l (NX.out.setb (fun h => by omega) _) hw hh (HRW.out.ch' ((Ch.refl (· = ob) W1).setb (fun _ => rfl) _) (fun i hi e => hne (by injection hi with hi; exact (show g = i from hi).trans e))) (by omega) (by omega))
    · go_wp2_with (go_at_call 20; refine Mod_any _ _ _ _ hk (by omega) (by omega) ?_; rw [HM.out])
      exact bodyPost_ret (by simp [results, Tryd.results34, go_sem, r0, r1, r2, hb2, hb3]) rfl (FIN.out _ _ _ g l.length cap' l.length l ((NX.out.setb (fun h => by omega) _).setb (fun h => by omega) _) (WW.out _) (WW.out _) (HRW.out.ch' (((Ch.refl (· = ob) W1).setb (fun _ => rfl) _).setb (fun _ => rfl) _) (fun i hi e => hne (by injection hi with hi; exact (show g = i from hi).trans e))) (by omega) (Nat.le_refl _))
    · go_wp2_with (go_at_call 20; refine Mod_any _ _ _ _ hk (by omega) (by omega) ?_; rw [HM.out])
      exact bodyPost_ret (by simp [results, Tryd.results34, go_sem, r0, r1, r2, hb2, hb3]) rfl (FIN.out _ _ _ g l.length cap' l.length l NX.out hw hh HRW.out (by omega) (Nat.le_refl _))
end Go.Proofs.YtaafmgkjfmngjaaDoor
