/-
  What the laws of chapter 08 share: Check by its facts, lists that are cut, rows behind rows.
-/
import Derived.Test.YtdpbdcaefdcooaaGreatDoorVsan
import Derived.Test.YtdpbdcaefdcooaaGreatDoorVsm
import Derived.Test.YtdpbdcaefdcooaaGreatDoorVput
import Derived.Test.YtdpbdcaefdcooaaGreatDoorMm8
import Derived.Deep.Upon
namespace Go.Proofs.YtdpbdcaefdcooaaGreatDoor
open Go.RowKit
set_option linter.unusedVariables false
set_option linter.unusedSimpArgs false
set_option maxRecDepth 100000

theorem check_ok {np k : Int} {L : List VOp} {d : Nat} {r : List Int} (h : checkM np L = .ok (k, d, r)) (lo : Nat) (v : Value) (w : World) (R : Ending → World → Prop) (hp : IsProg w lo v L) (hlo : lo ≤ w.heap.size) (hlo0 : 0 < lo) (hk : WOk w)
    (hR : ∀ w' A c, IsC w' w'.heap.size (.slice A (sortedP r).length c) (sortedP r).length 1 ((sortedP r).map (Value.int .i64)) → Nw w w' → R (.returned (.tuple #[.agg #[.int .i64 k, .int .i64 d, .slice A (sortedP r).length c], .int .i64 0])) w') : Calls Tryz.prog 8 #[v, .int .i64 np] w R := by
  refine Check_any np lo hlo0 L v w R hp hlo hk.kinds ?_ ?_
  · intro w' x h2; rw [h] at h2; cases h2
  · intro w' k2 d2 r2 v2 h2 n hown
    rw [h] at h2
    simp only [Except.ok.injEq, Prod.mk.injEq] at h2
    obtain ⟨rfl, rfl, rfl⟩ := h2
    rw [sorted_eq] at hown
    obtain ⟨A, c, rfl⟩ := own_form hown
    exact hR w' A c (own_isC hown) n
theorem check_err {np x : Int} {L : List VOp} (h : checkM np L = .error x) (lo : Nat) (v : Value) (w : World) (R : Ending → World → Prop) (hp : IsProg w lo v L) (hlo : lo ≤ w.heap.size) (hlo0 : 0 < lo) (hk : WOk w)
    (hR : ∀ w', Nw w w' → R (.returned (.tuple #[.agg #[.int .i64 0, .int .i64 0, .slice none 0 0], .int .i64 x])) w') : Calls Tryz.prog 8 #[v, .int .i64 np] w R := by
  refine Check_any np lo hlo0 L v w R hp hlo hk.kinds ?_ ?_
  · intro w' x' h2 n; rw [h] at h2; cases h2; exact hR w' n
  · intro w' k2 d2 r2 v2 h2 n hown; rw [h] at h2; cases h2
theorem sortedP_le (r : List Int) : (sortedP r).length ≤ r.length := compact_le r
theorem Facts.r64 {np k : Int} {L : List VOp} {d : Nat} {r : List Int} (h : Facts np L k d r) : (sortedP r).length ≤ 64 := Nat.le_trans (sortedP_le r) (checkM_len h.check).2.1
theorem IsInts.takeN {w : World} {lo c : Nat} {A : Option Addr} {l : List Int} (h : IsInts w lo (.slice A l.length c) l) (m : Nat) (hm : m ≤ l.length) : IsInts w lo (.slice A m c) (l.take m) := by
  obtain ⟨A', cap, e, hl, h⟩ := h
  injection e with e1 e2 e3
  subst e1 e3
  refine ⟨A, c, by rw [List.length_take, Nat.min_eq_left hm], ⟨by rw [List.length_take]; omega, by rw [List.length_take]; omega⟩, fun i x hi => ?_⟩
  rw [List.getElem?_take] at hi
  split at hi
  · exact h i x hi
  · simp at hi
theorem isC_ck {w : World} {lo n z : Nat} {v : Value} {xs : List Value} (h : IsC w lo v n z xs) {w' : World} (hc : Nw w w') : IsC w' lo v n z xs := h.kept hc nof
/-- Numbers are appended to a row of one's own. -/
theorem wp_appInts {o : Oper} {a : Act} {K : Act → World → Prop} {Q : Exit → Act → World → Prop} (w : World) (s x : Operand)
    (ho : o.op = .call { callee := .builtin .append, args := #[s, x], argTypes := #[22, 22] }) (B : Nat) (v : Value) (n : Nat) (l : List Int) (hs : a.eval s = v) (hown : IRow w B v n l)
    (lo : Nat) (A : Option Addr) (m c : Nat) (ys : List Int) (hm : m = ys.length) (hx : a.eval x = .slice A m c) (hy : IsC w lo (.slice A m c) m 1 (ys.map (Value.int .i64))) (hn : n + m ≤ 1000000) (hB : B ≤ w.heap.size)
    (h : ∀ v' w', IRow w' B v' (n + m) (l ++ ys) → w.grownBy w' v.ownBlock → K (a.put o.dst v') w') : o.wp Tryz.prog a w K Q := by
  subst hm
  obtain ⟨i, hi, hz, hs1, hb⟩ := info_parts info_int
  by_cases hys : ys = []
  · subst hys
    have hf : ∃ base cap, v = .slice base n cap ∧ n ≤ cap := by
      rcases hown.2 with ⟨h1, h2⟩ | ⟨g, cap, cur, hv, hb, hgg, hnc, rest⟩
      · exact ⟨none, 0, by rw [h2]; exact h1, by omega⟩
      · exact ⟨_, cap, hv, hnc⟩
    obtain ⟨base, cap, rfl, hle⟩ := hf
    have hsrc : Src Tryz.prog i.size 22 (.slice A 0 c) 0 [] w := by
      rw [hs1]
      cases A with
      | none => exact Src.ofNil w Tryz.underlying22 c
      | some ad => exact Src.ofSlice w Tryz.underlying22 ad 0 c [] rfl (fun j u h => by cases h) (fun u h => by cases h)
    have hr := run_append_nothing (P := Tryz.prog) w 22 22 o.type 3 i Tryz.underlying22 hi base n cap hle _ hsrc
    have hk := h (.slice base n cap) w (by simpa using hown) (World.grownBy.refl _ _)
    unfold Oper.wp execOp
    simp only [List.length_nil] at hx
    simp only [ho, resolve, invoke, builtin, Sem.run_bind, Sem.run_pure, Result.andThen_ok, List.map_toArray, List.map_cons, List.map_nil, hs, hx, hr]
    exact hk
  · have hpos : 0 < ys.length := List.length_pos_iff.2 hys
    obtain ⟨A', c', e, -, -, hel⟩ := hy
    cases e
    obtain ⟨y0, hy0⟩ : ∃ y, ys[0]? = some y := ⟨_, List.getElem?_eq_getElem hpos⟩
    obtain ⟨g, -, rfl, -⟩ := hel 0 (.int .i64 y0) (by rw [List.getElem?_map, hy0]; rfl)
    refine wp_append_lies w s x 22 ho B 3 i _ 1 8 Tryz.underlying22 hi hz hs1 hb rfl (by omega) v n _ hs hown ⟨g, 0, none⟩ ys.length c (ys.map (Value.int .i64)) hx (by simp) ?_ (fun u hu => by obtain ⟨z, -, rfl⟩ := List.mem_map.1 hu; rfl) hpos (by unfold maxLen; omega) (by omega) hB _ rfl ?_
    · intro j u hj
      have hadd : (⟨g, 0, none⟩ : Addr).add j = ⟨g, j, none⟩ := by unfold Addr.add; split <;> simp_all
      rw [hadd]
      obtain ⟨g', -, e, hc⟩ := hel j u hj
      cases e
      exact hc
    · intro g' cap w' h1 h2 _ _
      exact h _ w' (by unfold IRow; rw [List.map_append]; exact h1) h2
end Go.Proofs.YtdpbdcaefdcooaaGreatDoor
