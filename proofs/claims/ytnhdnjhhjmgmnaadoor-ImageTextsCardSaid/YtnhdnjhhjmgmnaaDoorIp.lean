/-
  Plain laws of images for ImagePuts and ImageTexts: the dots of a frame are those of the bitmap; lost dots and blots.
-/
import Derived.Test.YtnhdnjhhjmgmnaaDoorBonly
import Derived.Test.YtnhdnjhhjmgmnaaDoorIh
import Derived.Test.YtnhdnjhhjmgmnaaDoorLwA
namespace Go.Proofs.YtnhdnjhhjmgmnaaDoor
open Go.RowKit

theorem cnt_set {f g : Nat → Bool} {n p : Nat} (hp : p < n) (hf : f p = false) (h : ∀ k, k ≠ p → f k = g k) : cnt g n = cnt f n + if g p = true then 1 else 0 := by
  induction n with
  | zero => omega
  | succ n ih =>
    have eg : cnt g (n + 1) = cnt g n + if g n = true then 1 else 0 := rfl
    have ef : cnt f (n + 1) = cnt f n + if f n = true then 1 else 0 := rfl
    rw [eg, ef]
    by_cases e : p = n
    · subst e
      have : cnt g p = cnt f p := cnt_congr fun k hk => (h k (by omega)).symm
      rw [this, hf]
      simp
    · rw [ih (by omega), ← h n (by omega)]
      omega

/-- Where a dot lies in the frame. -/
def atD (b : Bm) (dx dy : Int) (d : Int × Int) : Nat := ((d.2 + 2 + dy) * (b.1 + 4) + d.1 + 2 + dx).toNat
theorem putAt_atD (b : Bm) (dx dy : Int) (k : Nat) : (putAt b dx dy k).toNat = atD b dx dy ((k : Int) % b.1, (k : Int) / b.1) := rfl
theorem putAt_inj {b : Bm} {dx dy : Int} (h : bmE b = 0) (hs : shiftOk dx dy) {i j : Nat} (hi : i < b.2.2.length) (hj : j < b.2.2.length) (e : (putAt b dx dy i).toNat = (putAt b dx dy j).toNat) : i = j := by
  obtain ⟨p0, p1, p2, p3, p4, p5, p6, p7⟩ := putAt_in h hs hi
  obtain ⟨q0, q1, q2, q3, q4, q5, q6, q7⟩ := putAt_in h hs hj
  have e' : putAt b dx dy i = putAt b dx dy j := by omega
  rw [e'] at p6 p7
  have e1 : (i : Int) % b.1 = (j : Int) % b.1 := by omega
  have e2 : (i : Int) / b.1 = (j : Int) / b.1 := by omega
  have g1 := Int.mul_ediv_add_emod (i : Int) b.1
  have g2 := Int.mul_ediv_add_emod (j : Int) b.1
  rw [e1, e2] at g1
  omega

theorem frame_count {b : Bm} {dx dy : Int} (h : bmE b = 0) (hs : shiftOk dx dy) (Q : Nat → Bool) (k : Nat) (hk : k ≤ b.2.2.length) :
    cnt (fun m => decide (px (putS b dx dy k) m = 1) && Q m) (frameN b) = ((dotsTo b k).filter fun d => Q (atD b dx dy d)).length := by
  induction k with
  | zero =>
    refine cnt_zero fun m hm => ?_
    have : px (putS b dx dy 0) m = 0 := by
      unfold px
      rw [show putS b dx dy 0 = List.replicate (frameN b) 0 from rfl]
      simp [hm]
    rw [this]
    rfl
  | succ k ih =>
    have ih := ih (by omega)
    obtain ⟨p0, p1, p2, p3, p4, p5, p6, p7⟩ := putAt_in h hs (k := k) (by omega)
    by_cases hd : (b.2.2[k]?).getD false = true
    · have eS : putS b dx dy (k + 1) = (putS b dx dy k).set (putAt b dx dy k).toNat 1 := by
        show (if (b.2.2[k]?).getD false = true then _ else _) = _
        rw [if_pos hd]
      have eD : dotsTo b (k + 1) = dotsTo b k ++ [((k : Int) % b.1, (k : Int) / b.1)] := by
        show (if (b.2.2[k]?).getD false = true then _ else _) = _
        rw [if_pos hd]
      have hold : px (putS b dx dy k) (putAt b dx dy k).toNat = 0 := by
        unfold px
        rw [putS_get h hs p5 k (by omega), if_neg]
        · rfl
        · rintro ⟨j, hj, -, e⟩
          have := putAt_inj h hs (by omega) (by omega) e
          omega
      have hnew : px (putS b dx dy (k + 1)) (putAt b dx dy k).toNat = 1 := by
        unfold px
        rw [eS, List.getElem?_set_self (by rw [putS_len]; exact p5)]
        rfl
      have hother : ∀ m, m ≠ (putAt b dx dy k).toNat → px (putS b dx dy (k + 1)) m = px (putS b dx dy k) m := by
        intro m hm
        unfold px
        rw [eS, List.getElem?_set_ne (fun e => hm e.symm)]
      rw [cnt_set (f := fun m => decide (px (putS b dx dy k) m = 1) && Q m) p5 (by simp only [hold]; rfl) (fun m hm => by simp only [hother m hm]), ih, eD, List.filter_append, List.length_append]
      have hnew' : px (putS b dx dy (k + 1)) (atD b dx dy ((k : Int) % b.1, (k : Int) / b.1)) = 1 := hnew
      simp only [putAt_atD, hnew']
      by_cases hq : Q (atD b dx dy ((k : Int) % b.1, (k : Int) / b.1)) = true <;> simp [hq]
    · have eS : putS b dx dy (k + 1) = putS b dx dy k := by
        show (if (b.2.2[k]?).getD false = true then _ else _) = _
        rw [if_neg hd]
      have eD : dotsTo b (k + 1) = dotsTo b k := by
        show (if (b.2.2[k]?).getD false = true then _ else _) = _
        rw [if_neg hd]
      rw [eS, eD, ih]

theorem px_putL {b : Bm} {dx dy : Int} {k : Nat} (h : k < frameN b) : px (putL b dx dy) k = putP b dx dy k := px_get (putL_get h)
theorem frame_all {b : Bm} {dx dy : Int} (h : bmE b = 0) (hs : shiftOk dx dy) (Q : Nat → Bool) :
    cnt (fun m => decide (px (putL b dx dy) m = 1) && Q m) (frameN b) = cntD b fun d => Q (atD b dx dy d) := by
  rw [← putS_done h hs, frame_count h hs Q _ (Nat.le_refl _)]
  unfold cntD dotsB
  rw [if_pos h]

theorem dotsTo_mem {b : Bm} (h : bmE b = 0) (k : Nat) (hk : k ≤ b.2.2.length) : ∀ d ∈ dotsTo b k, 0 < b.1 ∧ (0 ≤ d.1 ∧ d.1 < b.1) ∧ (0 ≤ d.2 ∧ d.2 < b.2.1) := by
  induction k with
  | zero => intro d hd; cases hd
  | succ k ih =>
    intro d hd
    have e : dotsTo b (k + 1) = if (b.2.2[k]?).getD false = true then dotsTo b k ++ [((k : Int) % b.1, (k : Int) / b.1)] else dotsTo b k := rfl
    rw [e] at hd
    split at hd
    · rcases List.mem_append.1 hd with hd | hd
      · exact ih (by omega) d hd
      · simp at hd
        subst hd
        obtain ⟨h1, h2, h3⟩ := bmE_ok h
        have hp := grid_pos (k := (k : Int)) (W := b.1) (H := b.2.1) (by omega) (by omega) h1.1
        obtain ⟨g1, g2, -⟩ := grid_of (k := (k : Int)) (W := b.1) (H := b.2.1) (by omega) (by omega) hp
        exact ⟨hp, g1, g2⟩
    · exact ih (by omega) d hd
theorem cntD_congr {b : Bm} {p q : Int × Int → Bool} (h : bmE b = 0) (hpq : ∀ d, 0 < b.1 → (0 ≤ d.1 ∧ d.1 < b.1) → (0 ≤ d.2 ∧ d.2 < b.2.1) → p d = q d) : cntD b p = cntD b q := by
  unfold cntD
  congr 1
  refine List.filter_congr fun d hd => ?_
  unfold dotsB at hd
  rw [if_pos h] at hd
  obtain ⟨h1, h2, h3⟩ := dotsTo_mem h _ (Nat.le_refl _) d hd
  exact hpq d h1 h2 h3

theorem putP_cases (b : Bm) (dx dy k : Int) : putP b dx dy k = 0 ∨ putP b dx dy k = 1 := by unfold putP; split <;> simp
/-- The lost dots of a bitmap at a shift, in the frame of the bitmap at another one. -/
theorem lost_put {b : Bm} {s0 s1 s2 s3 : Int} (h : bmE b = 0) (h1 : shiftOk s0 s1) (h2 : shiftOk s2 s3) :
    lostN (putL b s0 s1) (putL b s2 s3) = cntD b (onlyP (validB b) (s0 - s2) (s1 - s3) 0 0) := by
  have hv : validB b = b := if_pos h
  unfold lostN
  rw [putL_len, hv]
  have e1 : cnt (fun k => lostP (putL b s2 s3) k (px (putL b s0 s1) k)) (frameN b) = cnt (fun m => decide (px (putL b s2 s3) m = 1) && decide (px (putL b s0 s1) m = 0)) (frameN b) :=
    cnt_congr fun k hk => by unfold lostP; exact Bool.and_comm _ _
  rw [e1, frame_all h h2 (fun m => decide (px (putL b s0 s1) m = 0))]
  refine cntD_congr h fun d hp hx hy => ?_
  obtain ⟨⟨a1, a2⟩, a3, a4⟩ := h1
  obtain ⟨⟨b1, b2⟩, b3, b4⟩ := h2
  obtain ⟨⟨c1, c2⟩, ⟨c3, c4⟩, -⟩ := bmE_ok h
  have gl := grid_lt (x := d.1 + 2 + s2) (y := d.2 + 2 + s3) (W := b.1 + 4) (H := b.2.1 + 4) (by omega) (by omega)
  have gm := grid_mod (x := d.1 + 2 + s2) (y := d.2 + 2 + s3) (W := b.1 + 4) (by omega)
  have ea : ((atD b s2 s3 d : Nat) : Int) = (d.2 + 2 + s3) * (b.1 + 4) + (d.1 + 2 + s2) := by unfold atD; omega
  have hl : atD b s2 s3 d < frameN b := by have := frame_len h; omega
  rw [px_putL hl]
  unfold putP onlyP
  rw [ea, gm.1, gm.2]
  have ew1 : wrap64 (d.1 - (s0 - s2)) = d.1 - (s0 - s2) := by unfold wrap64; omega
  have ew2 : wrap64 (d.2 - (s1 - s3)) = d.2 - (s1 - s3) := by unfold wrap64; omega
  rw [ew1, ew2]
  have ex : d.1 + 2 + s2 - 2 - s0 = d.1 - (s0 - s2) := by omega
  have ey : d.2 + 2 + s3 - 2 - s1 = d.2 - (s1 - s3) := by omega
  rw [ex, ey]
  unfold getB
  rw [decide_eq_true h, Bool.true_and]
  have hd0 : decide ((0 : Int) ≤ d.1) = true := decide_eq_true hx.1
  rw [hd0]
  cases hasB b (d.1 - (s0 - s2)) (d.2 - (s1 - s3)) <;> simp

theorem ones_put {b : Bm} {dx dy : Int} (h : bmE b = 0) (hs : shiftOk dx dy) : cnt (fun m => decide (px (putL b dx dy) m = 1)) (frameN b) = cntD b fun _ => true := by
  have := frame_all h hs fun _ => true
  rw [← this]
  exact cnt_congr fun k _ => by simp
/-- As many blots as lost dots. -/
theorem blot_put {b : Bm} {s0 s1 s2 s3 : Int} (h : bmE b = 0) (h1 : shiftOk s0 s1) (h2 : shiftOk s2 s3) : blotN (putL b s0 s1) (putL b s2 s3) = lostN (putL b s0 s1) (putL b s2 s3) := by
  have o1 := ones_put h h1
  have o2 := ones_put h h2
  have t1 := cnt_split (fun m => decide (px (putL b s0 s1) m = 1)) (fun m => decide (px (putL b s2 s3) m = 1)) (frameN b)
  have t2 := cnt_split (fun m => decide (px (putL b s2 s3) m = 1)) (fun m => decide (px (putL b s0 s1) m = 1)) (frameN b)
  have t3 : cnt (fun k => decide (px (putL b s2 s3) k = 1) && decide (px (putL b s0 s1) k = 1)) (frameN b) = cnt (fun k => decide (px (putL b s0 s1) k = 1) && decide (px (putL b s2 s3) k = 1)) (frameN b) := cnt_congr fun k _ => Bool.and_comm _ _
  have t4 : blotN (putL b s0 s1) (putL b s2 s3) = cnt (fun k => decide (px (putL b s0 s1) k = 1) && !decide (px (putL b s2 s3) k = 1)) (frameN b) := by
    unfold blotN
    rw [putL_len]
    refine cnt_congr fun k hk => ?_
    unfold blotP
    rw [px_putL hk, px_putL hk]
    rcases putP_cases b s2 s3 k with e | e <;> rw [e] <;> simp
  have t5 : lostN (putL b s0 s1) (putL b s2 s3) = cnt (fun k => decide (px (putL b s2 s3) k = 1) && !decide (px (putL b s0 s1) k = 1)) (frameN b) := by
    unfold lostN
    rw [putL_len]
    refine cnt_congr fun k hk => ?_
    unfold lostP
    rw [px_putL hk, px_putL hk]
    rcases putP_cases b s0 s1 k with e | e <;> rw [e] <;> simp
  omega
theorem fits_put {b : Bm} {s0 s1 s2 s3 : Int} (h : bmE b = 0) (h1 : shiftOk s0 s1) (h2 : shiftOk s2 s3) :
    fitsM (b.1 + 4, b.2.1 + 4, putL b s0 s1) b s2 s3 = ((cntD b (onlyP (validB b) (s0 - s2) (s1 - s3) 0 0) : Int), (cntD b (onlyP (validB b) (s0 - s2) (s1 - s3) 0 0) : Int), true) := by
  unfold fitsM
  rw [if_pos ⟨h, h2, putL_ok h, rfl, rfl⟩]
  simp only [blot_put h h1 h2, lost_put h h1 h2]
theorem fits_self {b : Bm} {s0 s1 : Int} (h : bmE b = 0) (h1 : shiftOk s0 s1) : fitsB (b.1 + 4, b.2.1 + 4, putL b s0 s1) b s0 s1 0 0 = true := by
  have z : lostN (putL b s0 s1) (putL b s0 s1) = 0 := by
    unfold lostN
    refine cnt_zero fun k _ => ?_
    unfold lostP
    by_cases e : px (putL b s0 s1) k = 0 <;> simp [e]
  have z2 : blotN (putL b s0 s1) (putL b s0 s1) = 0 := by rw [blot_put h h1 h1, z]
  unfold fitsB fitsM
  rw [if_pos ⟨h, h1, putL_ok h, rfl, rfl⟩]
  simp [z, z2]
theorem known_put {b : Bm} {s0 s1 : Int} (h : bmE b = 0) : knownM (b.1 + 4, b.2.1 + 4, putL b s0 s1) = (frameN b : Int) := by
  unfold knownM
  rw [if_pos (putL_ok h)]
  unfold knownN
  simp only [putL_len]
  rw [cnt_all]
  intro k hk
  unfold knP
  rw [px_putL hk]
  rcases putP_cases b s0 s1 k with e | e <;> rw [e] <;> decide
/-- Without unknown pixels the difference of the numbers of Fits is that of the numbers of dots. -/
theorem fits_diff {x : Im} {b : Bm} {dx dy : Int} (h : bmE b = 0) (hs : shiftOk dx dy) (hx : imOk x) (hw : x.1 = b.1 + 4) (hh : x.2.1 = b.2.1 + 4) (hk : knownM x = (x.2.2.length : Int)) :
    (fitsM x b dx dy).1 - (fitsM x b dx dy).2.1 = (cntD b (fun _ => true) : Int) - (cnt (fun k => decide (px x.2.2 k = 1)) x.2.2.length : Int) := by
  have hlen : x.2.2.length = frameN b := by
    have h1 := hx.2.2.1
    have h2 := frame_len h
    rw [hw, hh] at h1
    omega
  have h01 : ∀ k, k < frameN b → px x.2.2 k = 0 ∨ px x.2.2 k = 1 := by
    intro k hkn
    have hk2 : k < x.2.2.length := by omega
    have hm := hx.2.2.2 _ (List.getElem_mem hk2)
    have e := px_get (List.getElem?_eq_getElem hk2)
    unfold knownM at hk
    rw [if_pos hx] at hk
    have hne : px x.2.2 k ≠ 2 := by
      intro e2
      have hlt : knownN x.2.2 < x.2.2.length := by
        have hsp : cnt (fun k => knP k (px x.2.2 k)) x.2.2.length < x.2.2.length := by
          refine Decidable.byContradiction fun hc => ?_
          have hle := cnt_le (fun k => knP k (px x.2.2 k)) x.2.2.length
          have hs2 := cnt_split (fun _ => true) (fun k => knP k (px x.2.2 k)) x.2.2.length
          have ha : cnt (fun _ => true) x.2.2.length = x.2.2.length := cnt_all fun _ _ => rfl
          have hb2 : cnt (fun k => true && knP k (px x.2.2 k)) x.2.2.length = cnt (fun k => knP k (px x.2.2 k)) x.2.2.length := cnt_congr fun _ _ => Bool.true_and _
          have hpos : 0 < cnt (fun k => true && !knP k (px x.2.2 k)) x.2.2.length := by
            have h1 := cnt_set (f := fun _ => false) (g := fun j => decide (j = k)) hk2 rfl (fun j hj => by simp [hj])
            have h2 := cnt_mono (f := fun j => decide (j = k)) (g := fun j => true && !knP j (px x.2.2 j)) (n := x.2.2.length) (fun j _ hj => by
              simp only [decide_eq_true_eq] at hj
              subst hj
              simp [knP, e2])
            simp at h1
            omega
          omega
        exact hsp
      omega
    rw [← e] at hm
    omega
  have o1 := ones_put h hs
  have t1 := cnt_split (fun m => decide (px x.2.2 m = 1)) (fun m => decide (px (putL b dx dy) m = 1)) (frameN b)
  have t2 := cnt_split (fun m => decide (px (putL b dx dy) m = 1)) (fun m => decide (px x.2.2 m = 1)) (frameN b)
  have t3 : cnt (fun k => decide (px (putL b dx dy) k = 1) && decide (px x.2.2 k = 1)) (frameN b) = cnt (fun k => decide (px x.2.2 k = 1) && decide (px (putL b dx dy) k = 1)) (frameN b) := cnt_congr fun k _ => Bool.and_comm _ _
  have t4 : blotN x.2.2 (putL b dx dy) = cnt (fun k => decide (px x.2.2 k = 1) && !decide (px (putL b dx dy) k = 1)) (frameN b) := by
    unfold blotN
    rw [hlen]
    refine cnt_congr fun k hk => ?_
    unfold blotP
    rw [px_putL hk]
    rcases putP_cases b dx dy k with e | e <;> rw [e] <;> simp
  have t5 : lostN x.2.2 (putL b dx dy) = cnt (fun k => decide (px (putL b dx dy) k = 1) && !decide (px x.2.2 k = 1)) (frameN b) := by
    unfold lostN
    rw [hlen]
    refine cnt_congr fun k hk => ?_
    unfold lostP
    rcases h01 k hk with e | e <;> rw [e] <;> simp
  unfold fitsM
  rw [if_pos ⟨h, hs, hx, hw, hh⟩, hlen]
  simp only
  omega
end Go.Proofs.YtnhdnjhhjmgmnaaDoor
