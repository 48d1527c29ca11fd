/-
  Outlines in memory: one that is read ('IsOut'), and one that the call itself has made ('OwnOut'). Plain lemmas.
-/
import Derived.Test.YtlgcijafjcfnhaaDoorProg
import Derived.Test.YtlgcijafjcfnhaaDoorCfg
namespace Go.Proofs.YtlgcijafjcfnhaaDoor
open Go.RowKit
set_option linter.unusedVariables false

def flat : List Pt → List Value
  | [] => []
  | q :: l => .int .i64 q.1 :: .int .i64 q.2.1 :: .bool q.2.2 :: flat l

theorem flat_get {l : List Pt} {i : Nat} {q : Pt} (h : l[i]? = some q) :
    (flat l)[i * 3]? = some (.int .i64 q.1) ∧ (flat l)[i * 3 + 1]? = some (.int .i64 q.2.1) ∧ (flat l)[i * 3 + 2]? = some (.bool q.2.2) := by
  induction l generalizing i with
  | nil => cases h
  | cons p l ih =>
    cases i with
    | zero => simp at h; subst h; exact ⟨rfl, rfl, rfl⟩
    | succ i =>
      have := ih (i := i) (by simpa using h)
      rw [show (i + 1) * 3 = i * 3 + 1 + 1 + 1 from by omega]
      simpa [flat] using this
theorem flat_set {l : List Pt} {i : Nat} (q : Pt) (h : i < l.length) :
    (((flat l).set (i * 3) (.int .i64 q.1)).set (i * 3 + 1) (.int .i64 q.2.1)).set (i * 3 + 2) (.bool q.2.2) = flat (l.set i q) := by
  induction l generalizing i with
  | nil => simp at h
  | cons p l ih =>
    cases i with
    | zero => rfl
    | succ i =>
      have := ih (i := i) (by simpa using h)
      rw [show (i + 1) * 3 = i * 3 + 1 + 1 + 1 from by omega]
      simp only [flat, List.set_cons_succ]
      rw [this]
theorem flat_length (l : List Pt) : (flat l).length = l.length * 3 := by
  induction l with
  | nil => rfl
  | cons p l ih => simp [flat, ih]; omega

def zeros (n : Nat) : List Pt := List.replicate n (0, 0, false)
def nils (n : Nat) : List Value := List.replicate n (.slice none 0 0)

theorem upd_next {c : List Pt} {i : Nat} (h : i < c.length) : (c.take i ++ zeros (c.length - i)).set i c[i] = c.take (i + 1) ++ zeros (c.length - (i + 1)) := by
  apply List.ext_getElem?
  intro j
  rw [List.getElem?_set]
  by_cases hj : i = j
  · subst hj
    rw [if_pos rfl, if_pos (by simp [zeros]; omega), List.getElem?_append_left (by simp; omega), List.getElem?_take, if_pos (by omega), List.getElem?_eq_getElem h]
  · rw [if_neg hj]
    by_cases hj2 : j < i
    · rw [List.getElem?_append_left (by simp; omega), List.getElem?_append_left (by simp; omega), List.getElem?_take, List.getElem?_take, if_pos hj2, if_pos (by omega)]
    · rw [List.getElem?_append_right (by simp; omega), List.getElem?_append_right (by simp; omega)]
      simp only [zeros, List.length_take, List.getElem?_replicate]
      have a : min i c.length = i := by omega
      have b : min (i + 1) c.length = i + 1 := by omega
      rw [a, b]
      by_cases hk : j < c.length
      · rw [if_pos (by omega), if_pos (by omega)]
      · rw [if_neg (by omega), if_neg (by omega)]

/-- A number that fits an int. -/
def wfI (n : Int) : Prop := -9223372036854775808 ≤ n ∧ n ≤ 9223372036854775807
def wfP (q : Pt) : Prop := wfI q.1 ∧ wfI q.2.1

def IsPts (w : World) (lo : Nat) (v : Value) (c : List Pt) : Prop :=
  ∃ A cap, v = .slice A c.length cap ∧ (A = none → cap = 0) ∧ ∀ i q, c[i]? = some q → ∃ pk po, pk < lo ∧ A = some ⟨pk, po, none⟩ ∧
    w.cell? ⟨pk, po + i * 3, none⟩ = some (.int .i64 q.1) ∧ w.cell? ⟨pk, po + i * 3 + 1, none⟩ = some (.int .i64 q.2.1) ∧ w.cell? ⟨pk, po + i * 3 + 2, none⟩ = some (.bool q.2.2)
def IsOut (w : World) (lo : Nat) (v : Value) (o : List (List Pt)) : Prop :=
  ∃ A cap, v = .slice A o.length cap ∧ o.length ≤ 64 ∧ ∀ k c, o[k]? = some c → c.length ≤ 64 ∧ (∀ q ∈ c, wfP q) ∧
    ∃ bk bo vi, bk < lo ∧ A = some ⟨bk, bo, none⟩ ∧ w.cell? ⟨bk, bo + k, none⟩ = some vi ∧ IsPts w lo vi c

theorem IsPts.kept {w w' : World} {lo : Nat} {v : Value} {c : List Pt} {F : Nat → Prop} (h : IsPts w lo v c) (hc : Ch F w w') (hF : ∀ k, k < lo → ¬ F k) : IsPts w' lo v c := by
  obtain ⟨A, cap, e, en, h⟩ := h
  refine ⟨A, cap, e, en, fun i q hi => ?_⟩
  obtain ⟨pk, po, hk, ea, h0, h1, h2⟩ := h i q hi
  exact ⟨pk, po, hk, ea, hc.cell h0 (hF _ hk), hc.cell h1 (hF _ hk), hc.cell h2 (hF _ hk)⟩
theorem IsPts.hi {w : World} {lo lo' : Nat} {v : Value} {c : List Pt} (h : IsPts w lo v c) (hl : lo ≤ lo') : IsPts w lo' v c := by
  obtain ⟨A, cap, e, en, h⟩ := h
  refine ⟨A, cap, e, en, fun i q hi => ?_⟩
  obtain ⟨pk, po, hk, ea, h0, h1, h2⟩ := h i q hi
  exact ⟨pk, po, by omega, ea, h0, h1, h2⟩
theorem IsOut.kept {w w' : World} {lo : Nat} {v : Value} {o : List (List Pt)} {F : Nat → Prop} (h : IsOut w lo v o) (hc : Ch F w w') (hF : ∀ k, k < lo → ¬ F k) : IsOut w' lo v o := by
  obtain ⟨A, cap, e, hl, h⟩ := h
  refine ⟨A, cap, e, hl, fun k c hk => ?_⟩
  obtain ⟨a, b, bk, bo, vi, h1, h2, h3, h4⟩ := h k c hk
  exact ⟨a, b, bk, bo, vi, h1, h2, hc.cell h3 (hF _ h1), h4.kept hc hF⟩
theorem IsOut.hi {w : World} {lo lo' : Nat} {v : Value} {o : List (List Pt)} (h : IsOut w lo v o) (hl : lo ≤ lo') : IsOut w lo' v o := by
  obtain ⟨A, cap, e, hl', h⟩ := h
  refine ⟨A, cap, e, hl', fun k c hk => ?_⟩
  obtain ⟨a, b, bk, bo, vi, h1, h2, h3, h4⟩ := h k c hk
  exact ⟨a, b, bk, bo, vi, by omega, h2, h3, h4.hi hl⟩

/-- The slices over the blocks bs. -/
def sls : List Nat → List (List Pt) → List Value
  | b :: bs, c :: o => .slice (some ⟨b, 0, none⟩) c.length c.length :: sls bs o
  | _, _ => []
theorem sls_get {bs : List Nat} {o : List (List Pt)} {k b : Nat} {c : List Pt} (hb : bs[k]? = some b) (hc : o[k]? = some c) : (sls bs o)[k]? = some (.slice (some ⟨b, 0, none⟩) c.length c.length) := by
  induction bs generalizing o k with
  | nil => cases hb
  | cons x bs ih =>
    cases o with
    | nil => cases hc
    | cons y o =>
      cases k with
      | zero => simp at hb hc; subst hb hc; rfl
      | succ k => exact ih (by simpa using hb) (by simpa using hc)
theorem sls_length {bs : List Nat} {o : List (List Pt)} (h : bs.length = o.length) : (sls bs o).length = o.length := by
  induction bs generalizing o with
  | nil => cases o with
    | nil => rfl
    | cons y o => cases h
  | cons x bs ih =>
    cases o with
    | nil => rfl
    | cons y o => simp [sls]; exact ih (by simpa using h)
theorem sls_snoc {bs : List Nat} {o : List (List Pt)} {b : Nat} {c : List Pt} (h : bs.length = o.length) : sls (bs ++ [b]) (o ++ [c]) = sls bs o ++ [.slice (some ⟨b, 0, none⟩) c.length c.length] := by
  induction bs generalizing o with
  | nil => cases o with
    | nil => rfl
    | cons y o => cases h
  | cons x bs ih =>
    cases o with
    | nil => cases h
    | cons y o => simp [sls]; exact ih (by simpa using h)

/-- The blocks bs hold the contours o. -/
def Hold (w : World) (lo : Nat) (bs : List Nat) (o : List (List Pt)) : Prop :=
  bs.length = o.length ∧ bs.Nodup ∧ ∀ (k b : Nat) (c : List Pt), bs[k]? = some b → o[k]? = some c → lo < b ∧ w.heap[b]? = some (.cells (flat c).toArray 72 (0, 0))
/-- An outline in memory of the call's own: its slices in block B, its contours in blocks behind it. -/
def OwnOut (w : World) (B : Nat) (bs : List Nat) (o : List (List Pt)) : Prop :=
  w.heap[B]? = some (.cells (sls bs o).toArray 69 (0, 0)) ∧ Hold w B bs o

theorem Hold.kept {w w' : World} {lo : Nat} {bs : List Nat} {o : List (List Pt)} {F : Nat → Prop} (h : Hold w lo bs o) (hc : Ch F w w') (hF : ∀ b ∈ bs, ¬ F b) : Hold w' lo bs o :=
  ⟨h.1, h.2.1, fun k b c hb hk => ⟨(h.2.2 k b c hb hk).1, hc.heap (h.2.2 k b c hb hk).2 (hF b (List.mem_of_getElem? hb))⟩⟩
theorem OwnOut.kept {w w' : World} {B : Nat} {bs : List Nat} {o : List (List Pt)} {F : Nat → Prop} (h : OwnOut w B bs o) (hc : Ch F w w') (hF : ∀ b ∈ bs, ¬ F b) (hB : ¬ F B) : OwnOut w' B bs o :=
  ⟨hc.heap h.1 hB, h.2.kept hc hF⟩
theorem Hold.lt {w : World} {lo : Nat} {bs : List Nat} {o : List (List Pt)} (h : Hold w lo bs o) {b : Nat} (hb : b ∈ bs) : lo < b ∧ b < w.heap.size := by
  obtain ⟨k, hk, rfl⟩ := List.getElem_of_mem hb
  have ho : k < o.length := by rw [← h.1]; exact hk
  have := h.2.2 k bs[k] o[k] (List.getElem?_eq_getElem hk) (List.getElem?_eq_getElem ho)
  exact ⟨this.1, lt_of_heap this.2⟩

theorem OwnOut.isOut {w : World} {B : Nat} {bs : List Nat} {o : List (List Pt)} (h : OwnOut w B bs o) (hl : o.length ≤ 64) (hc : ∀ c ∈ o, c.length ≤ 64 ∧ ∀ q ∈ c, wfP q) :
    IsOut w w.heap.size (.slice (some ⟨B, 0, none⟩) o.length o.length) o := by
  refine ⟨_, _, rfl, hl, fun k c hk => ?_⟩
  have hm := hc c (List.mem_of_getElem? hk)
  have hkb : k < bs.length := by rw [h.2.1]; exact (List.getElem?_eq_some_iff.1 hk).1
  have hb := List.getElem?_eq_getElem hkb
  obtain ⟨hB, hh⟩ := h.2.2.2 k _ c hb hk
  refine ⟨hm.1, hm.2, B, 0, .slice (some ⟨bs[k], 0, none⟩) c.length c.length, lt_of_heap h.1, rfl, ?_, ?_⟩
  · rw [cell_of h.1]
    have := sls_get hb hk
    simpa using this
  · refine ⟨_, _, rfl, (fun h => by cases h), fun i q hi => ⟨bs[k], 0, lt_of_heap hh, rfl, ?_⟩⟩
    have := flat_get hi
    rw [cell_of hh, cell_of hh, cell_of hh]
    simpa using this

theorem info_pt : (Tryd.prog.info? 72).map (fun i => (i.zero, i.size, i.bytes)) = some (some (.agg #[.int .i64 0, .int .i64 0, .bool false]), 3, 24) := by kernel_rfl
theorem info_pts : (Tryd.prog.info? 69).map (fun i => (i.zero, i.size, i.bytes)) = some (some (.slice none 0 0), 1, 24) := by kernel_rfl

theorem made_pts (n : Nat) : madeCells #[.int .i64 0, .int .i64 0, .bool false] (n * 3) = (flat (zeros n)).toArray := by
  apply Array.ext_getElem?
  intro j
  simp only [madeCells, Array.getElem?_map, List.getElem?_toArray]
  by_cases hj : j < n * 3
  · obtain ⟨i, r, hr, rfl⟩ : ∃ i r, r < 3 ∧ j = i * 3 + r := ⟨j / 3, j % 3, Nat.mod_lt _ (by omega), by omega⟩
    have hz : (zeros n)[i]? = some (0, 0, false) := by simp [zeros, List.getElem?_replicate]; omega
    have := flat_get hz
    rw [Array.getElem?_eq_getElem (by simpa using hj)]
    simp only [Array.getElem_range, Option.map_some]
    match r, hr with
    | 0, _ => rw [Nat.add_zero, this.1]; simp [show i * 3 % 3 = 0 from by omega]
    | 1, _ => rw [this.2.1]; simp [show (i * 3 + 1) % 3 = 1 from by omega]
    | 2, _ => rw [this.2.2]; simp [show (i * 3 + 2) % 3 = 2 from by omega]
  · rw [Array.getElem?_eq_none (by simpa using hj), List.getElem?_eq_none (by rw [flat_length]; simp [zeros]; omega)]
    rfl
theorem made_nils (n : Nat) : madeCells #[.slice none 0 0] (n * 1) = (nils n).toArray := by
  rw [Nat.mul_one, ← toList_madeCells_one' n]
where toList_madeCells_one' (n : Nat) : (madeCells #[Value.slice none 0 0] n).toList.toArray = (nils n).toArray := by rw [toList_madeCells_one]; rfl

theorem mk_pts (n : Nat) (hn : n ≤ 64) (w : World) : (Instr.makeSlice 69 (.int .i64 n) (.int .i64 n)).run Tryd.prog w = .ok (.slice (some ⟨w.heap.size, 0, none⟩) n n) (w.alloc (.cells (flat (zeros n)).toArray 72)) := by
  obtain ⟨i, hi, hz, hs, hb⟩ := info_parts info_pt
  have := run_make (P := Tryd.prog) w 69 72 i _ Tryd.underlying69 hi hz .i64 .i64 n n (by omega) (by omega) (by rw [hb]; omega) (by omega)
  rw [this, hs]
  simp only [Int.toNat_natCast, Value.cells, made_pts]
theorem mk_out (n : Nat) (hn : n ≤ 64) (w : World) : (Instr.makeSlice 29 (.int .i64 n) (.int .i64 n)).run Tryd.prog w = .ok (.slice (some ⟨w.heap.size, 0, none⟩) n n) (w.alloc (.cells (nils n).toArray 69)) := by
  obtain ⟨i, hi, hz, hs, hb⟩ := info_parts info_pts
  have := run_make (P := Tryd.prog) w 29 69 i _ Tryd.underlying29 hi hz .i64 .i64 n n (by omega) (by omega) (by rw [hb]; omega) (by omega)
  rw [this, hs]
  simp only [Int.toNat_natCast, Value.cells, made_nils]
end Go.Proofs.YtlgcijafjcfnhaaDoor
