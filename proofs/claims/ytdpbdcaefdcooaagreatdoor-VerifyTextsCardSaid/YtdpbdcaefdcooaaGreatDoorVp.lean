/-
  Laws of verification: what comes ahead counts nothing, blocks within blocks, one program behind another, points. Plain laws: no walk.
-/
import Derived.Test.YtdpbdcaefdcooaaGreatDoorVm
namespace Go.Proofs.YtdpbdcaefdcooaaGreatDoor
set_option linter.unusedVariables false

/-- What a block adds to what is known. -/
def vadd (a : Int) (v : VS) (x : Int × VS) : Int × VS := (a + x.1, ⟨x.2.h, max v.d x.2.d, v.r ++ x.2.r⟩)
def vmap (a : Int) (v : VS) : Except Int (Int × VS) → Except Int (Int × VS)
  | .error x => .error x
  | .ok x => .ok (vadd a v x)
theorem vown_add (c n : Int) (h d : Nat) (r : List Int) : vown c n ⟨h, d, r⟩ = ⟨(vown c n ⟨h, 0, []⟩).h, max d (vown c n ⟨h, 0, []⟩).d, r ++ (vown c n ⟨h, 0, []⟩).r⟩ := by
  unfold vown
  simp only [VS.mk.injEq]
  refine ⟨trivial, by omega, ?_⟩
  split <;> simp
theorem vmap_vmap (a b : Int) (v : VS) (h d : Nat) (r : List Int) (e : Except Int (Int × VS)) : vmap a v (vmap b ⟨h, d, r⟩ e) = vmap (a + b) ⟨h, max v.d d, v.r ++ r⟩ e := by
  cases e with
  | error x => rfl
  | ok x =>
    simp only [vmap, vadd, Except.ok.injEq, Prod.mk.injEq, VS.mk.injEq]
    exact ⟨by omega, trivial, by omega, by simp⟩
theorem vb_shift (np : Int) : ∀ (f : Nat) (L : List VOp) (nest : Nat) (a : Int) (v : VS), vb np f L nest a v = vmap a v (vb np f L nest 0 ⟨v.h, 0, []⟩) := by
  intro f
  induction f with
  | zero => intro L nest a v; rfl
  | succ f ih =>
    intro L nest a v
    match L with
    | [] => simp [vb, vmap, vadd]
    | (c, n, m) :: L =>
      obtain ⟨h, d, r⟩ := v
      simp only [vb]
      cases hc : vchk c n m (L.length + 1) nest np h with
      | some x => rfl
      | none =>
        simp only
        obtain ⟨⟨h1, d1, r1⟩, ho⟩ : ∃ x, vown c n ⟨h, 0, []⟩ = x := ⟨_, rfl⟩
        rw [ho]
        have hv := vown_add c n h d r
        rw [ho] at hv
        simp only at hv
        rw [hv]
        split
        · rw [ih L nest (a + 1), ih L nest (0 + 1) ⟨h1, d1, r1⟩, vmap_vmap]
          simp only
          rw [show a + (0 + 1) = a + 1 by omega]
        · rw [ih (L.take (vlen c n m).toNat) (nest + 1) 0 ⟨h1, max d d1, r ++ r1⟩, ih (L.take (vlen c n m).toNat) (nest + 1) 0 ⟨h1, d1, r1⟩]
          simp only
          cases hi : vb np f (L.take (vlen c n m).toNat) (nest + 1) 0 ⟨h1, 0, []⟩ with
          | error x => rfl
          | ok x =>
            obtain ⟨k, h2, d2, r2⟩ := x
            simp only [vmap, vadd, Int.zero_add]
            split
            · rfl
            · rw [ih _ nest (a + 1 + vrounds c n * k), ih _ nest (1 + vrounds c n * k)]
              simp only
              cases vb np f (L.drop (vlen c n m).toNat) nest 0 ⟨h2, 0, []⟩ with
              | error x => rfl
              | ok y =>
                simp only [vmap, vadd, Except.ok.injEq, Prod.mk.injEq, VS.mk.injEq]
                exact ⟨by omega, trivial, by omega, by simp⟩
theorem V_shift (np : Int) (L : List VOp) (nest : Nat) (a : Int) (v : VS) : V np L nest a v = vmap a v (V np L nest 0 ⟨v.h, 0, []⟩) := vb_shift np _ L nest a v

/-- The lesser a nesting, the less is wrong. -/
theorem V_nest (np : Int) : ∀ (N : Nat) (L : List VOp) (k : Nat) (a : Int) (v : VS) (x : Int × VS), L.length ≤ N → k ≤ 2 → V np L (k + 1) a v = .ok x → V np L k a v = .ok x := by
  intro N
  induction N with
  | zero =>
    intro L k a v x hN hk h
    obtain rfl := List.eq_nil_of_length_eq_zero (Nat.le_zero.1 hN)
    exact h
  | succ N ih =>
    intro L k a v x hN hk h
    match L, hN, h with
    | [], _, h => exact h
    | (c, n, m) :: L, hN, h =>
      rw [List.length_cons] at hN
      cases hc : vchk c n m (L.length + 1) (k + 1) np v.h with
      | some y => rw [V_bad hc] at h; cases h
      | none =>
        obtain ⟨q1, q2, q3, q4, q5, q6⟩ := vchk_none hc
        have hc' : vchk c n m (L.length + 1) k np v.h = none := vchk_ok q1 q2 (fun h => ⟨(q3 h).1, by omega⟩) q4 q5 q6
        by_cases h14 : c < 14
        · rw [V_plain hc h14] at h
          rw [V_plain hc' h14]
          exact ih L k _ _ _ (by omega) hk h
        · cases hi : V np (L.take (vlen c n m).toNat) (k + 1 + 1) 0 (vown c n v) with
          | error y => rw [V_inner hc h14 hi] at h; cases h
          | ok y =>
            obtain ⟨k1, v1⟩ := y
            have hk2 : k + 1 ≤ 2 := by have := (q3 (by omega)).2; omega
            have hi' := ih _ (k + 1) _ _ _ (by rw [List.length_take]; omega) hk2 hi
            by_cases hh : v1.h = (vown c n v).h
            · rw [V_on hc h14 hi hh] at h
              rw [V_on hc' h14 hi' hh]
              exact ih _ k _ _ _ (by rw [List.length_drop]; omega) hk h
            · rw [V_height hc h14 hi hh] at h; cases h

/-- One program behind another. -/
theorem V_append (np : Int) (M : List VOp) : ∀ (N : Nat) (L : List VOp) (nest : Nat) (a : Int) (v : VS) (k : Int) (v' : VS), L.length ≤ N → V np L nest a v = .ok (k, v') → V np (L ++ M) nest a v = V np M nest k v' := by
  intro N
  induction N with
  | zero =>
    intro L nest a v k v' hN h
    obtain rfl := List.eq_nil_of_length_eq_zero (Nat.le_zero.1 hN)
    rw [V_nil] at h
    cases h
    rfl
  | succ N ih =>
    intro L nest a v k v' hN h
    match L, hN, h with
    | [], _, h => rw [V_nil] at h; cases h; rfl
    | (c, n, m) :: L, hN, h =>
      rw [List.length_cons] at hN
      cases hc : vchk c n m (L.length + 1) nest np v.h with
      | some y => rw [V_bad hc] at h; cases h
      | none =>
        obtain ⟨q1, q2, q3, q4, q5, q6⟩ := vchk_none hc
        have hc' : vchk c n m ((L ++ M).length + 1) nest np v.h = none := vchk_ok q1 q2 (fun h => ⟨⟨(q3 h).1.1, by have := (q3 h).1.2; rw [List.length_append]; omega⟩, (q3 h).2⟩) q4 q5 q6
        rw [List.cons_append]
        by_cases h14 : c < 14
        · rw [V_plain hc h14] at h
          rw [V_plain hc' h14]
          exact ih L _ _ _ _ _ (by omega) h
        · obtain ⟨g1, g2⟩ := (q3 (by omega)).1
          have hl : (vlen c n m).toNat ≤ L.length := by omega
          cases hi : V np (L.take (vlen c n m).toNat) (nest + 1) 0 (vown c n v) with
          | error y => rw [V_inner hc h14 hi] at h; cases h
          | ok y =>
            obtain ⟨k1, v1⟩ := y
            have hi' : V np ((L ++ M).take (vlen c n m).toNat) (nest + 1) 0 (vown c n v) = .ok (k1, v1) := by rw [List.take_append_of_le_length hl]; exact hi
            by_cases hh : v1.h = (vown c n v).h
            · rw [V_on hc h14 hi hh] at h
              rw [V_on hc' h14 hi' hh, List.drop_append_of_le_length hl]
              exact ih _ _ _ _ _ _ (by rw [List.length_drop]; omega) h
            · rw [V_height hc h14 hi hh] at h; cases h

/-- The points that a program uses lie below np. -/
def usesOk (np : Int) (L : List VOp) : Prop := ∀ o ∈ L, 10 ≤ o.1 ∧ o.1 ≤ 13 → o.2.1 < np
theorem usesOk_cons {np : Int} {o : VOp} {L : List VOp} : usesOk np (o :: L) ↔ (10 ≤ o.1 ∧ o.1 ≤ 13 → o.2.1 < np) ∧ usesOk np L := by simp [usesOk]
theorem usesOk_split {np : Int} {L : List VOp} (k : Nat) : usesOk np L ↔ usesOk np (L.take k) ∧ usesOk np (L.drop k) := by
  constructor
  · intro h
    exact ⟨fun o ho => h o (List.mem_of_mem_take ho), fun o ho => h o (List.mem_of_mem_drop ho)⟩
  · rintro ⟨h1, h2⟩ o ho
    rw [← List.take_append_drop k L] at ho
    rcases List.mem_append.1 ho with h | h
    · exact h1 o h
    · exact h2 o h
theorem V_points (np np' : Int) : ∀ (N : Nat) (L : List VOp) (nest : Nat) (a : Int) (v : VS) (x : Int × VS), L.length ≤ N → V np L nest a v = .ok x → (usesOk np' L → V np' L nest a v = .ok x) ∧ (¬ usesOk np' L → V np' L nest a v = .error 22) := by
  intro N
  induction N with
  | zero =>
    intro L nest a v x hN h
    obtain rfl := List.eq_nil_of_length_eq_zero (Nat.le_zero.1 hN)
    exact ⟨fun _ => h, fun hu => absurd (fun o ho => by cases ho) hu⟩
  | succ N ih =>
    intro L nest a v x hN h
    match L, hN, h with
    | [], _, h => exact ⟨fun _ => h, fun hu => absurd (fun o ho => by cases ho) hu⟩
    | (c, n, m) :: L, hN, h =>
      rw [List.length_cons] at hN
      cases hc : vchk c n m (L.length + 1) nest np v.h with
      | some y => rw [V_bad hc] at h; cases h
      | none =>
        obtain ⟨q1, q2, q3, q4, q5, q6⟩ := vchk_none hc
        by_cases hb : (10 ≤ c ∧ c ≤ 13) ∧ np' ≤ n
        · have hbad : vchk c n m (L.length + 1) nest np' v.h = some 22 := by
            unfold vchk
            rw [if_neg (by rintro (h | h); exact h q1; omega), if_neg (by rintro ⟨a, b⟩; have := q3 a; omega), if_neg (by rintro ⟨a, b⟩; have := q3 a; omega), if_pos ⟨hb.1, Or.inr hb.2⟩]
          refine ⟨fun hu => ?_, fun _ => V_bad hbad⟩
          have := (usesOk_cons.1 hu).1 hb.1
          simp only at this
          omega
        · have hc' : vchk c n m (L.length + 1) nest np' v.h = none := vchk_ok q1 q2 q3 (fun h => ⟨(q4 h).1, by omega⟩) q5 q6
          have hu1 : usesOk np' ((c, n, m) :: L) ↔ usesOk np' L := by rw [usesOk_cons]; constructor; exact fun h => h.2; exact fun h => ⟨fun g => by simp only at g ⊢; omega, h⟩
          rw [hu1]
          by_cases h14 : c < 14
          · rw [V_plain hc h14] at h
            rw [V_plain hc' h14]
            exact ih L _ _ _ _ (by omega) h
          · cases hi : V np (L.take (vlen c n m).toNat) (nest + 1) 0 (vown c n v) with
            | error y => rw [V_inner hc h14 hi] at h; cases h
            | ok y =>
              obtain ⟨k1, v1⟩ := y
              obtain ⟨i1, i2⟩ := ih _ _ _ _ _ (by rw [List.length_take]; omega) hi
              rw [usesOk_split (vlen c n m).toNat]
              by_cases hh : v1.h = (vown c n v).h
              · rw [V_on hc h14 hi hh] at h
                obtain ⟨j1, j2⟩ := ih _ _ _ _ _ (by rw [List.length_drop]; omega) h
                refine ⟨fun hu => ?_, fun hu => ?_⟩
                · rw [V_on hc' h14 (i1 hu.1) hh]; exact j1 hu.2
                · by_cases hu1 : usesOk np' (L.take (vlen c n m).toNat)
                  · rw [V_on hc' h14 (i1 hu1) hh]; exact j2 (fun h2 => hu ⟨hu1, h2⟩)
                  · exact V_inner hc' h14 (i2 hu1)
              · rw [V_height hc h14 hi hh] at h; cases h

/-- The points that are set, in the program's order. -/
def setsOf (L : List VOp) : List Int := L.filterMap fun o => if o.1 = 12 ∨ o.1 = 13 then some o.2.1 else none
theorem setsOf_cons (c n m : Int) (L : List VOp) : setsOf ((c, n, m) :: L) = (if c = 12 ∨ c = 13 then [n] else []) ++ setsOf L := by
  unfold setsOf
  rw [List.filterMap_cons]
  simp only
  split <;> rename_i h
  · split at h
    · cases h
    · rename_i h1; rw [if_neg h1]; rfl
  · split at h
    · rename_i h1; cases h; rw [if_pos h1]; rfl
    · cases h
theorem V_sets (np : Int) : ∀ (N : Nat) (L : List VOp) (nest : Nat) (a : Int) (v : VS) (x : Int × VS), L.length ≤ N → V np L nest a v = .ok x → x.2.r = v.r ++ setsOf L := by
  intro N
  induction N with
  | zero =>
    intro L nest a v x hN h
    obtain rfl := List.eq_nil_of_length_eq_zero (Nat.le_zero.1 hN)
    rw [V_nil] at h; cases h; simp [setsOf]
  | succ N ih =>
    intro L nest a v x hN h
    match L, hN, h with
    | [], _, h => rw [V_nil] at h; cases h; simp [setsOf]
    | (c, n, m) :: L, hN, h =>
      rw [List.length_cons] at hN
      have hr : (vown c n v).r = v.r ++ (if c = 12 ∨ c = 13 then [n] else []) := by unfold vown; simp only; split <;> simp
      cases hc : vchk c n m (L.length + 1) nest np v.h with
      | some y => rw [V_bad hc] at h; cases h
      | none =>
        rw [setsOf_cons]
        by_cases h14 : c < 14
        · rw [V_plain hc h14] at h
          rw [ih L _ _ _ _ (by omega) h, hr, List.append_assoc]
        · cases hi : V np (L.take (vlen c n m).toNat) (nest + 1) 0 (vown c n v) with
          | error y => rw [V_inner hc h14 hi] at h; cases h
          | ok y =>
            obtain ⟨k1, v1⟩ := y
            have h1 := ih _ _ _ _ _ (by rw [List.length_take]; omega) hi
            by_cases hh : v1.h = (vown c n v).h
            · rw [V_on hc h14 hi hh] at h
              have h2 := ih _ _ _ _ _ (by rw [List.length_drop]; omega) h
              rw [h2, h1, hr]
              have : setsOf L = setsOf (L.take (vlen c n m).toNat) ++ setsOf (L.drop (vlen c n m).toNat) := by
                unfold setsOf
                rw [← List.filterMap_append, List.take_append_drop]
              rw [this]
              simp
            · rw [V_height hc h14 hi hh] at h; cases h
theorem V_formed (np : Int) : ∀ (N : Nat) (L : List VOp) (nest : Nat) (a : Int) (v : VS) (x : Int × VS), L.length ≤ N → V np L nest a v = .ok x → ∀ o ∈ L, vform o.1 o.2.1 o.2.2 := by
  intro N
  induction N with
  | zero =>
    intro L nest a v x hN h
    obtain rfl := List.eq_nil_of_length_eq_zero (Nat.le_zero.1 hN)
    intro o ho; cases ho
  | succ N ih =>
    intro L nest a v x hN h
    match L, hN, h with
    | [], _, h => intro o ho; cases ho
    | (c, n, m) :: L, hN, h =>
      rw [List.length_cons] at hN
      cases hc : vchk c n m (L.length + 1) nest np v.h with
      | some y => rw [V_bad hc] at h; cases h
      | none =>
        obtain ⟨q1, -⟩ := vchk_none hc
        have rest : ∀ o ∈ L, vform o.1 o.2.1 o.2.2 := by
          by_cases h14 : c < 14
          · rw [V_plain hc h14] at h
            exact ih L _ _ _ _ (by omega) h
          · cases hi : V np (L.take (vlen c n m).toNat) (nest + 1) 0 (vown c n v) with
            | error y => rw [V_inner hc h14 hi] at h; cases h
            | ok y =>
              obtain ⟨k1, v1⟩ := y
              by_cases hh : v1.h = (vown c n v).h
              · rw [V_on hc h14 hi hh] at h
                intro o ho
                rw [← List.take_append_drop (vlen c n m).toNat L] at ho
                rcases List.mem_append.1 ho with g | g
                · exact ih _ _ _ _ _ (by rw [List.length_take]; omega) hi o g
                · exact ih _ _ _ _ _ (by rw [List.length_drop]; omega) h o g
              · rw [V_height hc h14 hi hh] at h; cases h
        intro o ho
        rcases List.mem_cons.1 ho with rfl | ho
        · exact q1
        · exact rest o ho
end Go.Proofs.YtdpbdcaefdcooaaGreatDoor
