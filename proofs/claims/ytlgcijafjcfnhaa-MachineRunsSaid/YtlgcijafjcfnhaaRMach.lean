/-
  The reference of the machine: its stack.
-/
import Derived.Test.YtlgcijafjcfnhaaRef
import Derived.Test.YtlgcijafjcfnhaaDraw
import Derived.Deep.RegionHeld3
import Derived.Deep.RegionLaw
import Derived.Deep.DrawnRows
import Derived.Deep.AppendLies
import Derived.BigGuardPart
import Derived.StillTailTactics
import Derived.Laws.OwnMore
namespace Go.Proofs.Ytlgcijafjcfnhaa
open Go.RowKit
set_option linter.unusedVariables false
set_option linter.unusedSimpArgs false
attribute [local go_sem ↓] Go.wp_at_zero Go.wp_at_succ

theorem wp_name {P : Program} {c : Code} {Q : Exit → Act → World → Prop} {a : Act} {w : World} (h : ∀ W, W = w → Code.wp P c Q a W) : Code.wp P c Q a w := h _ rfl
/-- Block b is a machine: its program, its outline, the size, the numbers on the stack, the steps. -/
def RS (w : World) (b : Nat) (vp vo : Value) (size : Int) (stk : List Int) (steps : Int) : Prop :=
  ∃ vs, w.heap[b]? = some (.cells #[vp, vo, .int .i64 size, vs, .int .i64 steps] 72 (0, 0)) ∧ w.ownsRow (b + 1) 3 1 vs stk.length (stk.map (Value.int .i64))

theorem row_ch {w w' : World} {F : Nat → Prop} {base size n : Nat} {e : TypeId} {v : Value} {xs : List Value} (h : w.ownsRow base e size v n xs) (hc : Ch F w w') (hF : ∀ k, v.ownBlock = some k → ¬ F k) : w'.ownsRow base e size v n xs := by
  refine ⟨h.1, ?_⟩
  rcases h.2 with hn | ⟨g, cap, cur, rfl, hb, hgg, rest⟩
  · exact .inl hn
  · exact .inr ⟨g, cap, cur, rfl, hb, hc.heap hgg (hF g rfl), rest⟩
theorem row_less {w : World} {base : Nat} {e : TypeId} {g n m cap : Nat} {xs ys : List Value} (hx : xs.length = n) (h : w.ownsRow base e 1 (.slice (some ⟨g, 0, none⟩) m cap) m (xs ++ ys)) : w.ownsRow base e 1 (.slice (some ⟨g, 0, none⟩) n cap) n xs := by
  refine ⟨by omega, ?_⟩
  have hl := h.1
  rw [List.length_append] at hl
  rcases h.2 with ⟨h1, -⟩ | ⟨g', cap', cur, h1, hb, hgg, hnc, hcm, hcs, ht⟩
  · cases h1
  · cases h1
    refine .inr ⟨g, cap, cur, rfl, hb, hgg, by omega, hcm, hcs, ?_⟩
    have : (cur.toList.take (m * 1)).take (n * 1) = (xs ++ ys).take (n * 1) := by rw [ht]
    rw [List.take_take, show min (n * 1) (m * 1) = n * 1 from by omega] at this
    rw [this, Nat.mul_one, ← hx, List.take_left']
    rfl

theorem heap_grow {w w' : World} {row : Option Nat} {k : Nat} {o : Obj} (hg : w.grownBy w' row) (h : w.heap[k]? = some o) (hne : some k ≠ row) : w'.heap[k]? = some o := (hg.block k (lt_of_heap h) hne).trans h

section
variable {w : World} {R : Ending → World → Prop} {b : Nat} {vp vo : Value} {size : Int} {stk : List Int} {steps : Int}

/-- What a change of the machine's own memory leaves: every block below b, but those of F. -/
def Far (b : Nat) (k : Nat) : Prop := b ≤ k

set_option maxRecDepth 100000 in
set_option maxHeartbeats 1000000 in
theorem rpop_any (x : Int) (h : RS w b vp vo size (stk ++ [x]) steps) (hl : stk.length ≤ 8) (hR : ∀ w', RS w' b vp vo size stk steps → Ch (· = b) w w' → R (.returned (.int .i64 x)) w') : Calls Try.prog 38 #[.pointer (some ⟨b, 0, none⟩)] w R := by
  have HR := Lib.hid hR
  clear hR
  obtain ⟨vs, hb, ho⟩ := h
  obtain ⟨g, cap, rfl, hg1, hg2⟩ := ho.form (by simp)
  have c3 : w.cell? ⟨b, 3, none⟩ = some (.slice (some ⟨g, 0, none⟩) (stk ++ [x]).length cap) := by rw [cell_of hb]; rfl
  have cx : w.cell? ⟨g, stk.length, none⟩ = some (.int .i64 x) := by
    rw [ho.cellAt stk.length (by simp)]
    simp
  have fz : w.frozen? ⟨b, 3, none⟩ = false := frozen_of hb
  rw [List.length_append, List.length_singleton] at c3
  have hcap : stk.length + 1 ≤ cap := by
    rcases ho.2 with ⟨h1, -⟩ | ⟨g', cap', cur, h1, -, -, hnc, -⟩
    · cases h1
    · cases h1; simpa using hnc
  have k0 : (0 : Int) ≤ (stk.length : Int) := by omega
  have k1 : (stk.length : Int) < (stk.length : Int) + 1 := by omega
  have k2 : stk.length ≤ cap := by omega
  have k3 : (stk.length : Int) ≤ (cap : Int) := by omega
  have HB := Lib.hid hb
  have HO := Lib.hid ho
  clear hb ho
  go_enter Try.func38, Try.ntmps38
  go_wp2
  go_quiet (fail)
  go_wp2
  refine wp_name ?_
  intro W1 hW
  have f3 : W1.cell? ⟨b, 3, none⟩ = some (.slice (some ⟨g, 0, none⟩) (stk.length + 1) cap) := by rw [hW]; exact c3
  have fz1 : W1.frozen? ⟨b, 3, none⟩ = false := by rw [hW]; exact fz
  have HW := Lib.hid hW
  have wr1 : IntKind.i64.wrap (stk.length : Int) = stk.length := by rw [IntKind.wrap_i64]; omega
  clear hW c3 fz
  go_still_tail 12, (by kernel_rfl)
  go_wp2
  have hb1 : W1.heap[b]? = some (.cells #[vp, vo, .int .i64 size, .slice (some ⟨g, 0, none⟩) (stk ++ [x]).length cap, .int .i64 steps] 72 (0, 0)) := by rw [HW.out]; exact HB.out
  have cw : Ch (· = b) w W1 := by rw [HW.out]; exact (Ch.refl (· = b) w).drewN _
  have ho1 : W1.ownsRow (b + 1) 3 1 (.slice (some ⟨g, 0, none⟩) stk.length cap) stk.length (stk.map (Value.int .i64)) := by
    have := row_less (n := stk.length) (ys := [.int .i64 x]) (xs := stk.map (Value.int .i64)) (by simp) (by rw [HW.out]; have h2 := HO.out; simp only [List.map_append, List.map_cons, List.map_nil, List.length_append, List.length_cons, List.length_nil] at h2; exact h2 : W1.ownsRow (b + 1) 3 1 (.slice (some ⟨g, 0, none⟩) (stk.length + 1) cap) (stk.length + 1) (stk.map (Value.int .i64) ++ [.int .i64 x]))
    exact this
  have cs : Ch (· = b) W1 ((W1.setCell ⟨b, 3, none⟩ (.slice (some ⟨g, 0, none⟩) stk.length cap)).drew) := ((Ch.refl (· = b) W1).setb (fun _ => rfl) _).drew
  exact HR.out _ ⟨_, heap_setCell_eq _ hb1, row_ch ho1 cs (fun k hk e => by have := (ho1.lt k hk).1; omega)⟩ (cw.trans cs)

theorem info_int : (Try.prog.info? 3).map (fun i => (i.zero, i.size, i.bytes)) = some (some (.int .i64 0), 1, 8) := by kernel_rfl

set_option maxRecDepth 100000 in
set_option maxHeartbeats 1000000 in
theorem rpush_any (n : Int) (h : RS w b vp vo size stk steps) (hl : stk.length ≤ 8) (hR : ∀ w', RS w' b vp vo size (stk ++ [lim n]) steps → Ch (fun k => b ≤ k) w w' → R (.returned (.tuple #[])) w') : Calls Try.prog 45 #[.pointer (some ⟨b, 0, none⟩), .int .i64 n] w R := by
  have HR := Lib.hid hR
  clear hR
  obtain ⟨vs, hb, ho⟩ := h
  obtain ⟨ti, hi1, hz1, hs1, hb1⟩ := info_parts info_int
  have c3 : w.cell? ⟨b, 3, none⟩ = some vs := by rw [cell_of hb]; rfl
  have lb := lt_of_heap hb
  have HB := Lib.hid hb
  have HO := Lib.hid ho
  obtain ⟨y, hy⟩ : ∃ y, y = lim n := ⟨_, rfl⟩
  rw [← hy] at HR
  have HY : ∀ (w : World) (R : Ending → World → Prop), R (.returned (.int .i64 y)) w → Calls Try.prog 64 #[.int .i64 n] w R := fun w R h => rlimited_any n (by rw [← hy]; exact h)
  have HLIM := Lib.hid HY
  obtain ⟨fA, fcap, hvs⟩ : ∃ A c, vs = .slice A stk.length c := by
    rcases ho.2 with ⟨h1, h2⟩ | ⟨g, cap, cur, h1, -⟩
    · exact ⟨none, 0, by rw [h2]; exact h1⟩
    · exact ⟨_, _, h1⟩
  subst hvs
  have NE : Hid (some b ≠ (Value.slice fA stk.length fcap).ownBlock) := fun e => by have := (HO.out.lt b e.symm).1; omega
  clear hy HY hb ho
  go_enter Try.func45, Try.ntmps45
  go_wp2_with fail
  go_region_law ((first | (refine step_append_lies _ rfl (.tmp 8) (.tmp 11) 23 rfl (b + 1) 3 ti _ 1 8 Try.underlying23 hi1 hz1 hs1 hb1 rfl (by omega) (.slice fA stk.length fcap) stk.length (stk.map (Value.int .i64)) rfl (by exact HO.out.alloc _) ⟨w.heap.size, 0, none⟩ 1 1 [.int .i64 y] rfl rfl (by exact World.news_of_block (heap_alloc_eq _ rfl)) (by simp [Value.oneCell']) (by omega) (by unfold maxLen; omega) (by omega) (by simp; omega) (w.heap.size + 1) (by simp) ?_; intro g cap w1 hown1 hgrow hat hlt; (have qh := heap_grow hgrow (heap_alloc_old' _ HB.out) NE.out); (have q3 := hgrow.cell (cell_alloc_old _ c3) NE.out); (have qf := frozen_of qh (o := 3)); (have QH := Lib.hid qh); (have G1 := Lib.hid hgrow); (have O1 := Lib.hid hown1); clear qh hgrow hown1) | (go_simp; go_at_call 64; refine HLIM.out _ _ ?_)))
  all_goals go_end0
  all_goals
    have ho2 : w1.ownsRow (b + 1) 3 1 (.slice (some ⟨g, 0, none⟩) (stk ++ [y]).length cap) (stk ++ [y]).length ((stk ++ [y]).map (Value.int .i64)) := by
      rw [List.length_append, List.map_append]
      exact O1.out
    have cs : Ch (· = b) w1 (w1.setCell ⟨b, 3, none⟩ (.slice (some ⟨g, 0, none⟩) (stk.length + 1) cap)) := (Ch.refl (· = b) w1).setb (fun _ => rfl) _
    have eL : (stk ++ [y]).length = stk.length + 1 := by simp
    rw [eL] at ho2
    have cg : Ch (fun k => b ≤ k) w w1 := by
      have h0 : Ch (fun k => b ≤ k) w (w.alloc (.cells #[.int .i64 y] 3)) := (Ch.refl _ _).alloc _
      exact Ch.grown (by first | exact h0 | exact h0.drew) G1.out (fun k hk _ => by have := (HO.out.lt k hk).1; omega)
    refine HR.out _ ⟨_, heap_setCell_eq _ QH.out, ?_⟩ (cg.trans' cs (fun n hn e => by omega))
    rw [eL]
    exact row_ch ho2 cs (fun k hk e => by have := (ho2.lt k hk).1; omega)

/-- The rest of a stack, its last number. -/
theorem stk_snoc {stk : List Int} (h : 0 < stk.length) : stk = rest stk ++ [top stk] := by
  obtain ⟨s, x, rfl⟩ := snoc_of_pos h
  rw [rest_snoc, top_snoc]
end
end Go.Proofs.Ytlgcijafjcfnhaa
