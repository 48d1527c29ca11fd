/-
  indelibleref09.Odd: some program of at most one operation more.
-/
import Derived.Test.YtlgcijafjcfnhaaDoorUnit
import Derived.Deep.RegionLaw
import Derived.Deep.DrawnRows
namespace Go.Proofs.YtlgcijafjcfnhaaDoor
open Go.RowKit
set_option linter.unusedVariables false
set_option linter.unusedSimpArgs false

/-- The first n cells of block g are numbers. -/
def IntBlk (w : World) (g n : Nat) : Prop := ∃ cur, w.heap[g]? = some (.cells cur 46 (0, 0)) ∧ ∀ j, j < n → ∃ x, cur[j]? = some (.int .i64 x)
theorem IntBlk.kept {w w' : World} {F : Nat → Prop} {g n : Nat} (h : IntBlk w g n) (hc : Ch F w w') (hF : ¬ F g) : IntBlk w' g n := by
  obtain ⟨cur, h1, h2⟩ := h
  exact ⟨cur, hc.heap h1 hF, h2⟩
theorem IntBlk.set {w : World} {g n : Nat} (h : IntBlk w g n) (o : Nat) (x : Int) : IntBlk (w.setCell ⟨g, o, none⟩ (.int .i64 x)) g n := by
  obtain ⟨cur, h1, h2⟩ := h
  refine ⟨_, heap_setCell_eq _ h1, fun j hj => ?_⟩
  obtain ⟨y, hy⟩ := h2 j hj
  by_cases e : o = j
  · subst e
    exact ⟨x, by rw [Array.getElem?_setIfInBounds_self_of_lt (Array.getElem?_eq_some_iff.1 hy).1]⟩
  · exact ⟨y, by rw [Array.getElem?_setIfInBounds_ne e]; exact hy⟩
theorem IntBlk.cell {w : World} {g n j : Nat} (h : IntBlk w g n) (hj : j < n) : ∃ x, w.cell? ⟨g, j, none⟩ = some (.int .i64 x) := by
  obtain ⟨cur, h1, h2⟩ := h
  obtain ⟨x, hx⟩ := h2 j hj
  exact ⟨x, by rw [cell_of h1]; exact hx⟩
theorem IntBlk.less {w : World} {g n m : Nat} (h : IntBlk w g n) (hm : m ≤ n) : IntBlk w g m := by
  obtain ⟨cur, h1, h2⟩ := h
  exact ⟨cur, h1, fun j hj => h2 j (by omega)⟩
theorem IntBlk.fr {w : World} {g n : Nat} (h : IntBlk w g n) (j : Nat) : w.frozen? ⟨g, j, none⟩ = false := by
  obtain ⟨cur, h1, -⟩ := h
  exact frozen_of h1
theorem IntBlk.lt {w : World} {g n : Nat} (h : IntBlk w g n) : g < w.heap.size := by
  obtain ⟨cur, h1, -⟩ := h
  exact lt_of_heap h1
theorem IntBlk.ops {w : World} {g n cap : Nat} (h : IntBlk w g (n * 3)) (hn : n ≤ 1000000) : ∃ l : List Op3, l.length = n ∧ IsOps w w.heap.size (.slice (some ⟨g, 0, none⟩) n cap) l := by
  have hg := h.lt
  have each : ∀ i : Fin n, ∃ q : Op3, w.cell? ⟨g, 0 + i.1 * 3, none⟩ = some (.int .i64 q.1) ∧ w.cell? ⟨g, 0 + i.1 * 3 + 1, none⟩ = some (.int .i64 q.2.1) ∧ w.cell? ⟨g, 0 + i.1 * 3 + 2, none⟩ = some (.int .i64 q.2.2) := by
    intro i
    obtain ⟨a, ha⟩ := h.cell (j := 0 + i.1 * 3) (by omega)
    obtain ⟨b, hb⟩ := h.cell (j := 0 + i.1 * 3 + 1) (by omega)
    obtain ⟨c, hc⟩ := h.cell (j := 0 + i.1 * 3 + 2) (by omega)
    exact ⟨(a, b, c), ha, hb, hc⟩
  obtain ⟨f, hf⟩ := Classical.axiomOfChoice each
  refine ⟨List.ofFn f, by simp, some ⟨g, 0, none⟩, cap, by simp, by simp; omega, fun i c m k hi => ?_⟩
  have hin : i < n := by have := (List.getElem?_eq_some_iff.1 hi).1; simpa using this
  simp [hin] at hi
  have := hf ⟨i, hin⟩
  rw [hi] at this
  exact ⟨g, 0, hg, rfl, this⟩
theorem IntBlk.sets {g n : Nat} (vs : List Value) : ∀ {w : World} (o : Nat), (∀ u ∈ vs, ∃ x, u = .int .i64 x) → IntBlk w g n → IntBlk (w.setCells g o vs) g n := by
  induction vs with
  | nil => intro w o _ h; exact h
  | cons v vs ih =>
    intro w o hv h
    obtain ⟨x, rfl⟩ := hv v (List.mem_cons_self ..)
    exact ih (o + 1) (fun u hu => hv u (List.mem_cons_of_mem _ hu)) (h.set o x)
theorem Ch.setCells {g : Nat} {a : World} (vs : List Value) : ∀ {w : World} (o : Nat), Ch (· = g) a w → Ch (· = g) a (w.setCells g o vs) := by
  induction vs with
  | nil => intro w o h; exact h
  | cons v vs ih =>
    intro w o h
    exact ih (o + 1) (h.setb (fun _ => rfl) v)
theorem opCells_int (l : List Op3) : ∀ u ∈ opCells l, ∃ x, u = .int .i64 x := by
  induction l with
  | nil => intro u h; cases h
  | cons q l ih =>
    intro u h
    simp only [opCells, List.mem_cons] at h
    rcases h with rfl | rfl | rfl | h
    · exact ⟨_, rfl⟩
    · exact ⟨_, rfl⟩
    · exact ⟨_, rfl⟩
    · exact ih u h
theorem opCells_drop (l : List Op3) : ∀ k : Nat, opCells (l.drop k) = (opCells l).drop (k * 3) := by
  induction l with
  | nil => intro k; simp [opCells]
  | cons q l ih =>
    intro k
    cases k with
    | zero => simp
    | succ k =>
      rw [List.drop_succ_cons, ih, show (k + 1) * 3 = k * 3 + 1 + 1 + 1 from by omega]
      simp only [opCells, List.drop_succ_cons]
theorem OwnOps.ints {w : World} {B g n cap : Nat} {l : List Op3} (h : OwnOps w B (.slice (some ⟨g, 0, none⟩) n cap) l) : IntBlk w g (l.length * 3) := by
  rcases h.2 with ⟨h1, -⟩ | ⟨g', cap', cur, h1, hb, hgg, hnc, hcm, hcs, ht⟩
  · cases h1
  · cases h1
    refine ⟨cur, hgg, fun j hj => ?_⟩
    have e : cur[j]? = (opCells l)[j]? := by rw [← Array.getElem?_toList, ← ht, List.getElem?_take, if_pos hj]
    rw [e]
    obtain ⟨i, r, hr, rfl⟩ : ∃ i r, r < 3 ∧ j = i * 3 + r := ⟨j / 3, j % 3, Nat.mod_lt _ (by omega), by omega⟩
    obtain ⟨q, hq⟩ : ∃ q, l[i]? = some q := ⟨_, List.getElem?_eq_getElem (by omega)⟩
    have hf := opCells_get hq
    obtain rfl | rfl | rfl : r = 0 ∨ r = 1 ∨ r = 2 := by omega
    · exact ⟨_, hf.1⟩
    · exact ⟨_, hf.2.1⟩
    · exact ⟨_, hf.2.2⟩

set_option maxRecDepth 100000 in
set_option maxHeartbeats 1000000 in
theorem Odd_any (lo : Nat) (vp : Value) (p : List Op3) (a b c : Int) (w : World) (R : Ending → World → Prop) (hp : IsOps w w.heap.size vp p) (hnil : ∀ n c, vp = .slice none n c → n = 0 ∧ c = 0) (hlen : p.length ≤ 1000) (ha : wfI a) (hb : wfI b) (hc : wfI c)
    (hR : ∀ w' v' l', l'.length ≤ p.length + 1 → IsOps w' w'.heap.size v' l' → CapOk v' → Nw w w' → R (.returned v') w') : Calls Tryd.prog 18 #[vp, .agg #[.int .i64 a, .int .i64 b, .int .i64 c]] w R := by
  have HR := Lib.hid hR
  have HP := Lib.hid hp
  have HNIL := Lib.hid hnil
  clear hR hp hnil
  go_enter Tryd.func18, Tryd.ntmps18
  go_wp2_with (first | (at_builtin; refine wpList_append_any _ rfl (.tmp 8) (.tmp 9) (by rfl) w.heap.size (w.heap.size + 1) 0 vp [] p (by rfl) (by rfl) ?h1 (lo := w.heap.size) ?h2 ?h3 ?h4 ?h5 ?_))
  case h1 =>
    have h := own_lit (w := w.alloc (.cells #[.int .i64 a, .int .i64 b, .int .i64 c] 24)) (B := w.heap.size) [] (by simp only [alloc_size]; omega) (by simp)
    rw [alloc_size] at h
    exact h
  case h2 => exact HP.out.kept (((Ch.refl (fun _ => False) w).alloc _).alloc _) nof
  case h3 => exact HNIL.out
  case h4 => simp; omega
  case h5 => simp only [alloc_size]; omega
  intro g cap w1 ho hg hor
  have n1 : Nw w w1 := (((Ch.refl (fun _ => False) w).alloc _).alloc _).grown hg (fun j hj hl => by injection hj with hj; omega)
  have cq : ∀ j u, #[Value.int .i64 a, Value.int .i64 b, Value.int .i64 c][j]? = some u → w1.cell? ⟨w.heap.size, j, none⟩ = some u := by
    intro j u hj
    rw [hg.cell_far ⟨w.heap.size, j, none⟩ (by simp only [alloc_size]; omega) (by simp)]
    exact cell_alloc_old _ (cell_alloc_new rfl hj)
  have q0 := cq 0 _ rfl
  have q1 := cq 1 _ rfl
  have q2 := cq 2 _ rfl
  have H1 := Lib.hid ho
  have N1 := Lib.hid n1
  have hgw : w.heap.size ≤ g := (ho.lt g rfl).1
  clear ho hg hor n1 cq
  rcases Nat.eq_zero_or_pos p.length with hz | hz
  · have hp0 := List.eq_nil_of_length_eq_zero hz
    subst hp0
    have hm := Int.emod_nonneg a (show (17 : Int) ≠ 0 by omega)
    go_wp2_with (first | (go_at_call 29; refine Mod_any _ _ _ _ ha (by omega) (by omega) ?_) | (at_builtin; refine wpList_append_ops _ rfl (.tmp 14) (.tmp 19) (by rfl) w.heap.size (.slice (some ⟨g, 0, none⟩) 0 cap) (.slice (some ⟨w1.heap.size, 0, none⟩) 1 1) [] [(a % 17, 0, 0)] (by rfl) (by rfl) ?h1 (lo := w1.heap.size + 1) ?h2 ?h3 ?h4 ?h5 ?_))
    case h1 => exact H1.out.ch ((Ch.refl (fun _ => False) w1).alloc _) nof'
    case h2 => exact isOps_lit [(a % 17, 0, 0)] (heap_alloc_eq _ rfl) (by omega) (by simp)
    case h3 => simp
    case h4 => simp
    case h5 => have := N1.out.size; simp only [alloc_size]; omega
    intro g2 cap2 w2 ho hg hor
    go_wp2
    refine HR.out _ _ [(a % 17, 0, 0)] (by simp) (ho.isOps (by simp)) ho.capOk ?_
    exact N1.out.trans' (((Ch.refl (· = g) w1).alloc _).grown hg (fun j hj _ => by injection hj with hj; exact hj.symm)) (fun n hn e => by omega)
  · have hz1 : ((p.length : Int) == 0) = false := beq_eq_false_iff_ne.2 (by omega)
    have hL : (0 : Int) < (p.length : Int) := by omega
    have i1 := Int.emod_nonneg b (show (p.length : Int) ≠ 0 by omega)
    have i2 := Int.emod_lt_of_pos b hL
    have n1 := Int.emod_nonneg c (show (20 : Int) ≠ 0 by omega)
    have n2 := Int.emod_lt_of_pos c (show (0 : Int) < 20 by omega)
    have s1 := Int.emod_nonneg a (show (7 : Int) ≠ 0 by omega)
    have s2 := Int.emod_lt_of_pos a (show (0 : Int) < 7 by omega)
    obtain ⟨i, hi⟩ : ∃ i : Nat, (i : Int) = b % (p.length : Int) := ⟨(b % (p.length : Int)).toNat, by omega⟩
    obtain ⟨n, hn⟩ : ∃ n : Int, n = c % 20 := ⟨_, rfl⟩
    obtain ⟨s, hs⟩ : ∃ s : Int, s = a % 7 := ⟨_, rfl⟩
    rw [← hi] at i1 i2
    rw [← hn] at n1 n2
    rw [← hs] at s1 s2
    have HI := Lib.hid hi
    have HN := Lib.hid hn
    have HS := Lib.hid hs
    clear hi hn hs
    go_wp2_with (go_at_call 29; fail)
    refine Mod_any _ _ _ _ hb (by omega) (by omega) ?_
    rw [← HI.out]
    go_wp2_with (go_at_call 29; fail)
    refine Mod_any _ _ _ _ hc (by omega) (by omega) ?_
    rw [← HN.out]
    go_wp2_with (go_at_call 29; fail)
    refine Mod_any _ _ _ _ ha (by omega) (by omega) ?_
    rw [← HS.out]
    have B1 := Lib.hid (show IntBlk w1 g (p.length * 3) from H1.out.ints)
    have hcap63 : cap ≤ 9223372036854775807 := by
      rcases H1.out.2 with ⟨h1, -⟩ | ⟨g', cap', cur, h1, hb, hgg, hnc, hcm, -⟩
      · cases h1
      · cases h1; unfold maxLen at hcm; exact hcm
    have hcap : p.length ≤ cap := by
      rcases H1.out.2 with ⟨h1, -⟩ | ⟨g', cap', cur, h1, hb, hgg, hnc, -⟩
      · cases h1
      · cases h1; exact hnc
    have k0 : i ≤ cap := by omega
    have k1 : (i : Int) ≤ (cap : Int) := by omega
    have k2 : (i : Int) + 1 ≤ (p.length : Int) := by omega
    have k3 : (p.length : Int) ≤ (cap : Int) := by omega
    have fin : ∀ (W : World) (m cap' : Nat), IntBlk W g (m * 3) → m ≤ p.length → m ≤ cap' ∧ cap' ≤ 9223372036854775807 → Ch (· = g) w1 W → R (.returned (.slice (some ⟨g, 0, none⟩) m cap')) W := by
      intro W m cap' hB hm hmc hch
      obtain ⟨l', hl, ho⟩ := hB.ops (cap := cap') (by omega)
      exact HR.out _ _ l' (by omega) ho ⟨_, _, _, rfl, hmc⟩ (N1.out.trans' hch (fun n hn e => by omega))
    have FIN := Lib.hid fin
    clear fin
    have f0 := B1.out.fr (i * 3)
    have f1 := B1.out.fr (i * 3 + 1)
    have f2 := B1.out.fr (i * 3 + 2)
    obtain ⟨x0, c0⟩ := B1.out.cell (j := i * 3) (by omega)
    obtain ⟨x1, c1⟩ := B1.out.cell (j := i * 3 + 1) (by omega)
    obtain ⟨x2, c2⟩ := B1.out.cell (j := i * 3 + 2) (by omega)
    obtain rfl | rfl | rfl | rfl | rfl | rfl | rfl : s = 0 ∨ s = 1 ∨ s = 2 ∨ s = 3 ∨ s = 4 ∨ s = 5 ∨ s = 6 := by omega
    · go_wp2
      exact FIN.out _ _ _ (B1.out.set _ _) (Nat.le_refl _) (by omega) ((Ch.refl (· = g) w1).setb (fun _ => rfl) _)
    · go_wp2
      exact FIN.out _ _ _ (B1.out.set _ _) (Nat.le_refl _) (by omega) ((Ch.refl (· = g) w1).setb (fun _ => rfl) _)
    · go_wp2
      exact FIN.out _ _ _ (B1.out.set _ _) (Nat.le_refl _) (by omega) ((Ch.refl (· = g) w1).setb (fun _ => rfl) _)
    · have wr1 : IntKind.i64.wrap ((i : Int) + 1) = (i : Int) + 1 := by
        rw [IntKind.wrap_i64]
        omega
      have wr2 : ((i : Int) + 1).toNat = i + 1 := by omega
      have wr3 : (0 : Int) ≤ (i : Int) + 1 := by omega
      obtain ⟨ti, hi1, hz1, hs1, hb1⟩ := info_parts info_op
      have news : ∀ j u, (opCells (p.drop (i + 1)))[j]? = some u → w1.cell? ((⟨g, (i + 1) * 3, none⟩ : Addr).add j) = some u := by
        intro j u hj
        have hjl := (List.getElem?_eq_some_iff.1 hj).1
        rw [opCells_length, List.length_drop] at hjl
        rw [opCells_drop, List.getElem?_drop] at hj
        have hadd : (⟨g, (i + 1) * 3, none⟩ : Addr).add j = ⟨g, (i + 1) * 3 + j, none⟩ := by unfold Addr.add; split <;> simp_all
        rw [hadd]
        have := H1.out.cellAt ((i + 1) * 3 + j) (by omega)
        rw [this]
        exact hj
      have room : ∀ j, j < (opCells (p.drop (i + 1))).length → (w1.cell? ⟨g, 0 + i * 3 + j, none⟩).isSome = true ∧ w1.frozen? ⟨g, 0 + i * 3 + j, none⟩ = false := by
        intro j hj
        rw [opCells_length, List.length_drop] at hj
        obtain ⟨x, hx⟩ := B1.out.cell (j := 0 + i * 3 + j) (by omega)
        exact ⟨by rw [hx]; rfl, B1.out.fr _⟩
      have NEWS := Lib.hid news
      have ROOM := Lib.hid room
      clear news room
      by_cases he : cap = i + 1
      · subst he
        have k4 : (i : Int) ≤ (i : Int) + 1 := by omega
        have k5 : (p.length : Int) ≤ (i : Int) + 1 := by omega
        go_wp2
        go_region_law ((refine step_append_room rfl (.tmp 60) (.tmp 64) 27 rfl 46 ti 3 Tryd.underlying27 hi1 hs1 g 0 i (i + 1) (by simp [Act.eval, Act.put]) ⟨g, 0, none⟩ 0 0 [] (by simp [Act.eval, Act.put]) rfl (fun j u hj => nomatch hj) (fun u hu => nomatch hu) (by omega) (fun j hj => absurd hj (by simp)) ?_))
        all_goals go_wp2
        all_goals refine bodyPost_ret (v := .slice (some ⟨g, 0, none⟩) (i + 0) (i + 1)) (by simp [results, Tryd.results18, go_sem, Act.put]) rfl ?_
        all_goals exact FIN.out _ _ _ ((IntBlk.sets [] (w := w1.drew) _ (fun u hu => nomatch hu) B1.out).less (by omega)) (by omega) (by omega) (Ch.setCells _ _ (Ch.refl (· = g) w1).drew)
      · have k4 : (i : Int) + 1 ≤ (cap : Int) := by omega
        go_wp2
        go_region_law ((refine step_append_room rfl (.tmp 60) (.tmp 64) 27 rfl 46 ti 3 Tryd.underlying27 hi1 hs1 g 0 i cap (by simp [Act.eval, Act.put]) ⟨g, (i + 1) * 3, none⟩ (p.length - (i + 1)) (cap - (i + 1)) (opCells (p.drop (i + 1))) (by simp [Act.eval, Act.put]) (by rw [opCells_length, List.length_drop]) (by exact NEWS.out) (opCells_one _) (by omega) (by exact ROOM.out) ?_))
        all_goals go_wp2
        all_goals refine bodyPost_ret (v := .slice (some ⟨g, 0, none⟩) (i + (p.length - (i + 1))) cap) (by simp [results, Tryd.results18, go_sem, Act.put]) rfl ?_
        all_goals exact FIN.out _ _ _ ((IntBlk.sets _ (w := w1.drew) _ (opCells_int _) B1.out).less (by omega)) (by omega) (by omega) (Ch.setCells _ _ (Ch.refl (· = g) w1).drew)
    · go_wp2_with (first | (at_builtin; refine wpList_append_ops _ rfl (.tmp 68) (.tmp 73) (by rfl) w.heap.size (.slice (some ⟨g, 0, none⟩) p.length cap) (.slice (some ⟨w1.heap.size, 0, none⟩) 1 1) p [(x0, x1, x2)] (by rfl) (by rfl) ?h1 (lo := w1.heap.size + 1) ?h2 ?h3 ?h4 ?h5 ?_))
      case h1 => exact H1.out.ch ((Ch.refl (fun _ => False) w1).alloc _) nof'
      case h2 => exact isOps_lit [(x0, x1, x2)] (heap_alloc_eq _ rfl) (by omega) (by simp)
      case h3 => simp
      case h4 => simp; omega
      case h5 => have := N1.out.size; simp only [alloc_size]; omega
      intro g2 cap2 w2 ho hg hor
      go_wp2
      refine HR.out _ _ (p ++ [(x0, x1, x2)]) (by simp) (ho.isOps (by simp; omega)) ho.capOk ?_
      exact N1.out.trans' (((Ch.refl (· = g) w1).alloc _).grown hg (fun j hj _ => by injection hj with hj; exact hj.symm)) (fun n hn e => by omega)
    · go_wp2
      exact FIN.out _ _ _ (B1.out.less (by omega)) (by omega) (by omega) (Ch.refl _ _)
    · go_wp2
      exact FIN.out _ _ _ (((B1.out.set _ _).set _ _).set _ _) (Nat.le_refl _) (by omega) ((((Ch.refl (· = g) w1).setb (fun _ => rfl) _).setb (fun _ => rfl) _).setb (fun _ => rfl) _)
end Go.Proofs.YtlgcijafjcfnhaaDoor
