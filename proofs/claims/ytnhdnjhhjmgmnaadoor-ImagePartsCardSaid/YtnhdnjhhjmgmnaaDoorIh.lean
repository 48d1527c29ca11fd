/-
  Plain laws of images for the law ImageHides: hiding commutes, is the same twice, and makes a bitmap fit with no more differences.
-/
import Derived.Test.YtnhdnjhhjmgmnaaDoorIm
namespace Go.Proofs.YtnhdnjhhjmgmnaaDoor


theorem px_hide {W f t : Int} {l : List Int} {k : Nat} (h : k < l.length) : px (hideL W f t l) k = hideP W f t k (px l k) := by
  rw [px_get (hideL_get (List.getElem?_eq_getElem h)), px_get (List.getElem?_eq_getElem h)]
theorem hideL_comm (W f t f' t' : Int) (l : List Int) : hideL W f t (hideL W f' t' l) = hideL W f' t' (hideL W f t l) := by
  apply List.ext_getElem?
  intro k
  by_cases h : k < l.length
  · rw [hideL_get (hideL_get (List.getElem?_eq_getElem h)), hideL_get (hideL_get (List.getElem?_eq_getElem h))]
    congr 1
    unfold hideP
    split <;> split <;> rfl
  · rw [List.getElem?_eq_none (by simp only [hideL_len]; omega), List.getElem?_eq_none (by simp only [hideL_len]; omega)]
theorem hideL_twice (W f t : Int) (l : List Int) : hideL W f t (hideL W f t l) = hideL W f t l := by
  apply List.ext_getElem?
  intro k
  by_cases h : k < l.length
  · rw [hideL_get (hideL_get (List.getElem?_eq_getElem h)), hideL_get (List.getElem?_eq_getElem h)]
    congr 1
    unfold hideP
    split <;> rfl
  · rw [List.getElem?_eq_none (by simp only [hideL_len]; omega), List.getElem?_eq_none (by simp only [hideL_len]; omega)]
theorem hideM_of {x : Im} {f t : Int} (h : imOk x) : hideM x f t = (x.1, x.2.1, hideL x.1 f t x.2.2) := if_pos h
theorem hideM_comm {x : Im} (f t f' t' : Int) (h : imOk x) : hideM (hideM x f t) f' t' = hideM (hideM x f' t') f t := by
  rw [hideM_of (hideM_ok x f t), hideM_of (hideM_ok x f' t'), hideM_of h, hideM_of h]
  simp only [hideL_comm]
theorem hideM_twice {x : Im} (f t : Int) (h : imOk x) : hideM (hideM x f t) f t = hideM x f t := by
  rw [hideM_of (hideM_ok x f t), hideM_of h]
  simp only [hideL_twice]
theorem lost_hide (W f t : Int) (l F : List Int) : lostN (hideL W f t l) F ≤ lostN l F := by
  unfold lostN
  rw [hideL_len]
  refine cnt_mono fun k hk h => ?_
  rw [px_hide hk] at h
  unfold lostP hideP at *
  split at h
  · simp at h
  · exact h
theorem blot_hide (W f t : Int) (l F : List Int) : blotN (hideL W f t l) F ≤ blotN l F := by
  unfold blotN
  rw [hideL_len]
  refine cnt_mono fun k hk h => ?_
  rw [px_hide hk] at h
  unfold blotP hideP at *
  split at h
  · simp at h
  · exact h
/-- Images that fit a bitmap in size: the numbers of Fits, and of Fits behind Hide. -/
theorem fits_hide {x : Im} {b : Bm} {dx dy : Int} (f t : Int) (hb : bmE b = 0) (hs : shiftOk dx dy) (hx : imOk x) (hw : x.1 = b.1 + 4) (hh : x.2.1 = b.2.1 + 4) :
    (fitsM x b dx dy).2.2 = true ∧ (fitsM (hideM x f t) b dx dy).2.2 = true ∧ (fitsM (hideM x f t) b dx dy).1 ≤ (fitsM x b dx dy).1 ∧ (fitsM (hideM x f t) b dx dy).2.1 ≤ (fitsM x b dx dy).2.1 := by
  have h1 : fitOk x b dx dy := ⟨hb, hs, hx, hw, hh⟩
  have h2 : fitOk (hideM x f t) b dx dy := ⟨hb, hs, hideM_ok x f t, by rw [hideM_of hx]; exact hw, by rw [hideM_of hx]; exact hh⟩
  unfold fitsM
  rw [if_pos h1, if_pos h2, hideM_of hx]
  refine ⟨rfl, rfl, ?_, ?_⟩
  · have := lost_hide x.1 f t x.2.2 (putL b dx dy)
    simp only
    omega
  · have := blot_hide x.1 f t x.2.2 (putL b dx dy)
    simp only
    omega
theorem known_hide {x : Im} (f t : Int) (h : imOk x) : knownM (hideM x f t) = (cnt (fun k => knP k (px (hideL x.1 f t x.2.2) k)) x.2.2.length : Int) := by
  unfold knownM
  rw [if_pos (hideM_ok x f t), hideM_of h]
  simp only [knownN, hideL_len]
end Go.Proofs.YtnhdnjhhjmgmnaaDoor
