/-
  Parse of bitmaps, in plain words: by places, by lines. Of no program.
-/
import Derived.Test.YtaafmgkjfmngjaaDoorTb
import Derived.Test.YtaafmgkjfmngjaaDoorPar
namespace Go.Proofs.YtaafmgkjfmngjaaDoor
set_option linter.unusedVariables false

/-- What lies at the places of a text. -/
theorem isText_idxB {L : List UInt8} {w : Nat} (hT : isText okB 96 L) (hno : ∀ j, j < w → L[j]? ≠ some 10) (hw : w < L.length → L[w]? = some 10) (hle : w ≤ L.length) :
    ∃ H, L.length = H * (w + 1) ∧ (1 ≤ w ∧ w ≤ 96) ∧ (1 ≤ H ∧ H ≤ 96) ∧ ∀ y, y < H → L[y * (w + 1) + w]? = some 10 ∧ ∀ k, k < w → ∃ c, L[y * (w + 1) + k]? = some c ∧ okB c = true := by
  obtain ⟨hg, hj⟩ := hT
  generalize rowsOf L = R at hg hj
  obtain ⟨h1, h2, h3⟩ := hg
  obtain ⟨W, hW⟩ : ∃ W, W = (R.headD []).length := ⟨_, rfl⟩
  rw [← hW] at h2 h3
  have hlen := join_len (fun r hr => (h3 r hr).1)
  rw [hj] at hlen
  have hget : ∀ y, y < R.length → L[y * (W + 1) + W]? = some 10 ∧ ∀ k, k < W → ∃ c, L[y * (W + 1) + k]? = some c ∧ okB c = true := by
    intro y hy
    have hr := List.getElem?_eq_getElem hy
    have hm := List.getElem_mem hy
    have h0 := fun x => join_get (R := R) (w := W) (fun r hr => (h3 r hr).1) (x := x) hr
    rw [hj] at h0
    refine ⟨by rw [h0 W, if_neg (by omega), if_pos rfl], fun k hk => ?_⟩
    have hl := (h3 _ hm).1
    exact ⟨_, by rw [h0 k, if_pos hk]; exact List.getElem?_eq_getElem (by omega), (h3 _ hm).2 _ (List.getElem_mem _)⟩
  have hwW : w = W := by
    have h0 := hget 0 (by omega)
    simp only [Nat.zero_mul, Nat.zero_add] at h0
    rcases Nat.lt_trichotomy w W with h | h | h
    · obtain ⟨c, hc, hok⟩ := h0.2 w h
      rw [hw (List.getElem?_eq_some_iff.1 hc).1] at hc
      injection hc with hc
      rw [← hc] at hok
      cases hok
    · exact h
    · exact absurd h0.1 (hno W h)
  subst hwW
  exact ⟨R.length, hlen, h2, h1, hget⟩
theorem parse_allB {L : List UInt8} {w H : Nat} (hlen : L.length = H * (w + 1)) (h2 : 1 ≤ w ∧ w ≤ 96) (h1 : 1 ≤ H ∧ H ≤ 96)
    (hall : ∀ y, y < H → L[y * (w + 1) + w]? = some 10 ∧ ∀ k, k < w → ∃ c, L[y * (w + 1) + k]? = some c ∧ okB c = true) : parseB L = (((w : Int), (H : Int), dotsR (rowsAt w L H)), true) := by
  have hj := join_rowsAt H fun y hy => (hall y hy).1
  rw [← hlen, List.take_length] at hj
  have hmem : ∀ r ∈ rowsAt w L H, r.length = w ∧ ∀ c ∈ r, okB c = true := by
    intro r hr
    obtain ⟨y, hy, rfl⟩ := List.mem_map.1 hr
    have hyH := List.mem_range.1 hy
    refine ⟨rowAt_len hlen hyH, fun c hc => ?_⟩
    obtain ⟨k, hk⟩ := List.mem_iff_getElem?.1 hc
    have hkl := (List.getElem?_eq_some_iff.1 hk).1
    rw [rowAt_len hlen hyH] at hkl
    rw [rowAt_get hkl] at hk
    obtain ⟨c', h3, h4⟩ := (hall y hyH).2 k hkl
    rw [hk] at h3
    injection h3 with h3
    rw [h3]; exact h4
  have hhead : ((rowsAt w L H).headD []).length = w := by
    obtain ⟨m, rfl⟩ : ∃ m, H = m + 1 := ⟨H - 1, by omega⟩
    have : rowsAt w L (m + 1) = rowAt w L 0 :: ((List.range m).map (rowAt w L ∘ Nat.succ)) := by simp [rowsAt, List.range_succ_eq_map]
    rw [this]
    exact rowAt_len hlen (by omega)
  have hg : GoodR okB 96 (rowsAt w L H) := ⟨by rw [rowsAt_len]; exact h1, by rw [hhead]; exact h2, fun r hr => by rw [hhead]; exact hmem r hr⟩
  have ht := isText_of hg rfl
  have hr := rowsOf_join hg rfl
  rw [hj] at ht hr
  unfold parseB
  rw [if_pos ht, hr]
  unfold bmR
  rw [hhead, rowsAt_len]
theorem parse_noB {L : List UInt8} (h : ¬ isText okB 96 L) : parseB L = (zeroB, false) := if_neg h
/-- The dots of the rows that have been read: those from m on, the highest one first read last. -/
def dotsFrom (R : List (List UInt8)) (m : Nat) : List Bool := ((R.drop m).reverse).flatten.map dotC
theorem dotsFrom_all (R : List (List UInt8)) : dotsFrom R 0 = dotsR R := rfl
theorem dotsFrom_end (R : List (List UInt8)) : dotsFrom R R.length = [] := by simp [dotsFrom]
theorem dotsFrom_step {R : List (List UInt8)} {y : Nat} {r : List UInt8} (h : R[y]? = some r) : dotsFrom R y = dotsFrom R (y + 1) ++ r.map dotC := by
  have hy := (List.getElem?_eq_some_iff.1 h).1
  have e : R[y] = r := (List.getElem?_eq_some_iff.1 h).2
  unfold dotsFrom
  rw [List.drop_eq_getElem_cons hy, e]
  simp
theorem dotsFrom_len {R : List (List UInt8)} {w : Nat} (h : ∀ r ∈ R, r.length = w) (m : Nat) : (dotsFrom R m).length ≤ R.length * w := by
  unfold dotsFrom
  rw [List.length_map, len_flatten_rows (w := w) (fun r hr => h r (List.mem_of_mem_drop (List.mem_reverse.1 hr)))]
  refine Nat.mul_le_mul_right _ ?_
  simp
/-! ### By pieces -/
theorem parse_linesB {L : List UInt8} {R : List (List UInt8)} {t : List UInt8} (hl : lines L = R ++ [t]) : parseB L = if GoodR okB 96 R ∧ t = [] then (bmR R, true) else (zeroB, false) := by
  have e : rowsOf L = R := by unfold rowsOf; rw [hl]; simp
  have h := isText_lines (ok := okB) (m := 96) hl
  unfold parseB
  by_cases hc : GoodR okB 96 R ∧ t = []
  · rw [if_pos (h.2 hc), if_pos hc, e]
  · rw [if_neg (fun x => hc (h.1 x)), if_neg hc]
end Go.Proofs.YtaafmgkjfmngjaaDoor
