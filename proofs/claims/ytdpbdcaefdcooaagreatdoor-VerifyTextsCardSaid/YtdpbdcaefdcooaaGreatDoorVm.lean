/-
  What verification computes, as plain functions on lists: of no program.
-/
import Derived.WalkKit
namespace Go.Proofs.YtdpbdcaefdcooaaGreatDoor
set_option linter.unusedVariables false

abbrev VOp := Int × Int × Int
/-- How many numbers an operation takes, and puts; the length of its block. -/
def vtakes (c : Int) : Nat := if c = 2 ∨ c = 3 ∨ c = 4 ∨ c = 5 then 2 else if c = 6 ∨ c = 7 ∨ c = 8 ∨ c = 12 ∨ c = 13 ∨ c = 14 then 1 else 0
def vputs (c : Int) : Nat := if 1 ≤ c ∧ c ≤ 11 then 1 else 0
def vlen (c n m : Int) : Int := if c = 14 then n else if c = 15 then m else 0
def vform (c n m : Int) : Prop := (1 ≤ c ∧ c ≤ 15) ∧ (c = 1 ∨ 10 ≤ c ∨ n = 0) ∧ (c = 15 ∨ m = 0)
instance (c n m : Int) : Decidable (vform c n m) := by unfold vform; infer_instance

/-- What is known: the height of the stack, its greatest height, the points that are moved. -/
structure VS where
  h : Nat
  d : Nat
  r : List Int

/-- The error of an operation: room is what is left of its block, with itself. -/
def vchk (c n m : Int) (room nest : Nat) (np : Int) (h : Nat) : Option Int :=
  if ¬ vform c n m ∨ (c = 15 ∧ (n < 1 ∨ 16 < n)) then some 5
  else if 14 ≤ c ∧ (vlen c n m < 1 ∨ (room : Int) ≤ vlen c n m) then some 5
  else if 14 ≤ c ∧ nest = 3 then some 20
  else if (10 ≤ c ∧ c ≤ 13) ∧ (n < 0 ∨ np ≤ n) then some 22
  else if h < vtakes c ∨ 8 < h - vtakes c + vputs c then some 20
  else none

def vown (c n : Int) (v : VS) : VS := ⟨v.h - vtakes c + vputs c, max v.d (v.h - vtakes c + vputs c), if c = 12 ∨ c = 13 then v.r ++ [n] else v.r⟩
def vrounds (c n : Int) : Int := if c = 15 then n else 1

def vb (np : Int) : Nat → List VOp → Nat → Int → VS → Except Int (Int × VS)
  | 0, _, _, _, _ => .error 99
  | _ + 1, [], _, a, v => .ok (a, v)
  | f + 1, (c, n, m) :: L, nest, a, v => match vchk c n m (L.length + 1) nest np v.h with
    | some x => .error x
    | none => if c < 14 then vb np f L nest (a + 1) (vown c n v) else
      match vb np f (L.take (vlen c n m).toNat) (nest + 1) 0 (vown c n v) with
      | .error x => .error x
      | .ok (k, v') => if v'.h ≠ (vown c n v).h then .error 20 else vb np f (L.drop (vlen c n m).toNat) nest (a + 1 + vrounds c n * k) v'

theorem vb_fuel (np : Int) (f : Nat) : ∀ (g : Nat) (L : List VOp) (nest : Nat) (a : Int) (v : VS), L.length < f → L.length < g → vb np f L nest a v = vb np g L nest a v := by
  induction f with
  | zero => intro g L nest a v h; omega
  | succ f ih =>
    intro g L nest a v hf hg
    match g, hg with
    | g + 1, hg =>
      match L with
      | [] => rfl
      | (c, n, m) :: L =>
        simp only [List.length_cons] at hf hg
        simp only [vb]
        cases vchk c n m (L.length + 1) nest np v.h with
        | some x => rfl
        | none =>
          simp only
          split
          · exact ih g L nest _ _ (by omega) (by omega)
          · rw [ih g (L.take (vlen c n m).toNat) (nest + 1) 0 (vown c n v) (by rw [List.length_take]; omega) (by rw [List.length_take]; omega)]
            cases vb np g (L.take (vlen c n m).toNat) (nest + 1) 0 (vown c n v) with
            | error x => rfl
            | ok r =>
              simp only
              split
              · rfl
              · exact ih g _ nest _ _ (by rw [List.length_drop]; omega) (by rw [List.length_drop]; omega)

/-- The cost and what is known, or an error, of the operations of a block; a: the cost ahead of them. -/
def V (np : Int) (L : List VOp) (nest : Nat) (a : Int) (v : VS) : Except Int (Int × VS) := vb np (L.length + 1) L nest a v

section
variable {np c n m a x : Int} {L : List VOp} {nest : Nat} {v : VS}
theorem V_nil : V np [] nest a v = .ok (a, v) := rfl
theorem V_bad (h : vchk c n m (L.length + 1) nest np v.h = some x) : V np ((c, n, m) :: L) nest a v = .error x := by
  unfold V vb; rw [h]
theorem V_plain (h : vchk c n m (L.length + 1) nest np v.h = none) (hc : c < 14) : V np ((c, n, m) :: L) nest a v = V np L nest (a + 1) (vown c n v) := by
  unfold V; rw [vb, h]; simp only; rw [if_pos hc]; exact vb_fuel _ _ _ _ _ _ _ (by simp) (by simp)
theorem V_block (h : vchk c n m (L.length + 1) nest np v.h = none) (hc : ¬ c < 14) : V np ((c, n, m) :: L) nest a v =
    match V np (L.take (vlen c n m).toNat) (nest + 1) 0 (vown c n v) with
    | .error x => .error x
    | .ok (k, v') => if v'.h ≠ (vown c n v).h then .error 20 else V np (L.drop (vlen c n m).toNat) nest (a + 1 + vrounds c n * k) v' := by
  unfold V
  rw [vb, h]
  simp only
  rw [if_neg hc, vb_fuel np (((c, n, m) :: L).length) ((L.take (vlen c n m).toNat).length + 1) _ _ _ _ (by simp; omega) (by omega)]
  cases vb np ((L.take (vlen c n m).toNat).length + 1) (L.take (vlen c n m).toNat) (nest + 1) 0 (vown c n v) with
  | error x => rfl
  | ok r =>
    simp only
    split
    · rfl
    · exact vb_fuel _ _ _ _ _ _ _ (by simp; omega) (by omega)
theorem V_inner (h : vchk c n m (L.length + 1) nest np v.h = none) (hc : ¬ c < 14) (e : V np (L.take (vlen c n m).toNat) (nest + 1) 0 (vown c n v) = .error x) : V np ((c, n, m) :: L) nest a v = .error x := by
  rw [V_block h hc, e]
theorem V_height {k : Int} {v' : VS} (h : vchk c n m (L.length + 1) nest np v.h = none) (hc : ¬ c < 14) (e : V np (L.take (vlen c n m).toNat) (nest + 1) 0 (vown c n v) = .ok (k, v')) (hh : v'.h ≠ (vown c n v).h) :
    V np ((c, n, m) :: L) nest a v = .error 20 := by
  rw [V_block h hc, e]; simp only; rw [if_pos hh]
theorem V_on {k : Int} {v' : VS} (h : vchk c n m (L.length + 1) nest np v.h = none) (hc : ¬ c < 14) (e : V np (L.take (vlen c n m).toNat) (nest + 1) 0 (vown c n v) = .ok (k, v')) (hh : v'.h = (vown c n v).h) :
    V np ((c, n, m) :: L) nest a v = V np (L.drop (vlen c n m).toNat) nest (a + 1 + vrounds c n * k) v' := by
  rw [V_block h hc, e]; simp only; rw [if_neg (by simp [hh])]
end

/-- No error: what that means. -/
theorem vchk_none {c n m np : Int} {room nest h : Nat} (e : vchk c n m room nest np h = none) :
    vform c n m ∧ (c = 15 → 1 ≤ n ∧ n ≤ 16) ∧ (14 ≤ c → (1 ≤ vlen c n m ∧ vlen c n m < (room : Int)) ∧ nest ≠ 3) ∧ (10 ≤ c ∧ c ≤ 13 → 0 ≤ n ∧ n < np) ∧ vtakes c ≤ h ∧ h - vtakes c + vputs c ≤ 8 := by
  unfold vchk at e
  split at e
  · cases e
  · split at e
    · cases e
    · split at e
      · cases e
      · split at e
        · cases e
        · split at e
          · cases e
          · rename_i h1 h2 h3 h4 h5
            refine ⟨Decidable.byContradiction fun hf => h1 (.inl hf), by omega, fun h => ⟨by omega, by omega⟩, by omega, by omega, by omega⟩
theorem vchk_ok {c n m np : Int} {room nest h : Nat} (h1 : vform c n m) (h2 : c = 15 → 1 ≤ n ∧ n ≤ 16) (h3 : 14 ≤ c → (1 ≤ vlen c n m ∧ vlen c n m < (room : Int)) ∧ nest ≠ 3) (h4 : 10 ≤ c ∧ c ≤ 13 → 0 ≤ n ∧ n < np) (h5 : vtakes c ≤ h) (h6 : h - vtakes c + vputs c ≤ 8) :
    vchk c n m room nest np h = none := by
  unfold vchk
  rw [if_neg (by rintro (h | h); exact h h1; omega), if_neg (by rintro ⟨a, b⟩; have := h3 a; omega), if_neg (by rintro ⟨a, b⟩; have := h3 a; omega), if_neg (by rintro ⟨a, b⟩; have := h4 a; omega), if_neg (by omega)]

def vmax : Nat → Int
  | 0 => 4096
  | 1 => 256
  | 2 => 16
  | _ => 1
theorem vmax_le (k : Nat) : 1 ≤ vmax k ∧ vmax k ≤ 4096 := by
  match k with
  | 0 => decide
  | 1 => decide
  | 2 => decide
  | k + 3 => simp [vmax]
theorem vrounds_le {c n : Int} (h : c = 15 → 1 ≤ n ∧ n ≤ 16) : 1 ≤ vrounds c n ∧ vrounds c n ≤ 16 := by unfold vrounds; split <;> omega

/-- How large it can become. -/
theorem vb_bound (np : Int) (f : Nat) : ∀ (L : List VOp) (nest : Nat) (a : Int) (v : VS) (k : Int) (v' : VS), vb np f L nest a v = .ok (k, v') → nest ≤ 3 → v.h ≤ 8 → v.d ≤ 8 →
    (a ≤ k ∧ k - a ≤ L.length * vmax nest) ∧ v'.h ≤ 8 ∧ v.d ≤ v'.d ∧ v'.d ≤ 8 ∧ ∃ t, v'.r = v.r ++ t ∧ t.length ≤ L.length ∧ ∀ x ∈ t, 0 ≤ x ∧ x < np := by
  induction f with
  | zero => intro L nest a v k v' e; cases e
  | succ f ih =>
    intro L nest a v k v' e hn hh hd
    match L, e with
    | [], e =>
      simp only [vb] at e
      injection e with e
      injection e with e1 e2
      subst e1 e2
      exact ⟨⟨by omega, by simp⟩, hh, Nat.le_refl _, hd, [], by simp, by simp, by simp⟩
    | (c, n, m) :: L, e =>
      simp only [vb] at e
      cases hc : vchk c n m (L.length + 1) nest np v.h with
      | some x => rw [hc] at e; cases e
      | none =>
        rw [hc] at e
        obtain ⟨q1, q2, q3, q4, q5, q6⟩ := vchk_none hc
        have o1 : (vown c n v).h ≤ 8 := q6
        have o2 : (vown c n v).d ≤ 8 := by show max _ _ ≤ 8; omega
        have o3 : v.d ≤ (vown c n v).d := by show _ ≤ max _ _; omega
        have o4 : ∃ t, (vown c n v).r = v.r ++ t ∧ t.length ≤ 1 ∧ (14 ≤ c → t = []) ∧ ∀ x ∈ t, 0 ≤ x ∧ x < np := by
          show ∃ t, (if c = 12 ∨ c = 13 then v.r ++ [n] else v.r) = v.r ++ t ∧ _
          by_cases h : c = 12 ∨ c = 13
          · rw [if_pos h]; exact ⟨[n], rfl, by simp, by omega, by simpa using q4 (by omega)⟩
          · rw [if_neg h]; exact ⟨[], by simp, by simp, fun _ => rfl, by simp⟩
        obtain ⟨t0, t1, t2, t3, t4⟩ := o4
        have vm := vmax_le nest
        simp only at e
        split at e
        · obtain ⟨⟨b1, b2⟩, b3, b4, b5, t, u1, u2, u3⟩ := ih L nest _ _ _ _ e hn o1 o2
          refine ⟨⟨by omega, ?_⟩, b3, by omega, b5, t0 ++ t, by rw [u1, t1]; simp, by simp; omega, fun x hx => ?_⟩
          · rw [List.length_cons, show ((L.length + 1 : Nat) : Int) * vmax nest = (L.length : Int) * vmax nest + vmax nest from by rw [Int.natCast_add, Int.add_mul]; simp]
            omega
          · rcases List.mem_append.1 hx with h | h
            · exact t4 x h
            · exact u3 x h
        · rename_i hc14
          cases hi : vb np f (L.take (vlen c n m).toNat) (nest + 1) 0 (vown c n v) with
          | error x => rw [hi] at e; cases e
          | ok r =>
            obtain ⟨k1, v1⟩ := r
            rw [hi] at e
            simp only at e
            split at e
            · cases e
            · obtain ⟨g1, g2⟩ := q3 (by omega)
              obtain ⟨⟨b1, b2⟩, b3, b4, b5, t, u1, u2, u3⟩ := ih _ _ _ _ _ _ hi (by omega) o1 o2
              obtain ⟨⟨d1, d2⟩, d3, d4, d5, s, w1, w2, w3⟩ := ih _ nest _ _ _ _ e hn b3 b5
              obtain ⟨r1, r2⟩ := vrounds_le (c := c) (n := n) q2
              rw [List.length_take, Nat.min_eq_left (by omega)] at b2 u2
              rw [List.length_drop] at d2 w2
              have hk : vrounds c n * k1 ≤ 16 * k1 := Int.mul_le_mul_of_nonneg_right r2 (by omega)
              have hk0 : 0 ≤ vrounds c n * k1 := Int.mul_nonneg (by omega) (by omega)
              generalize hlen : (vlen c n m).toNat = len at *
              have hlen' : len ≤ L.length := by omega
              refine ⟨⟨by omega, ?_⟩, d3, by omega, d5, t0 ++ t ++ s, by rw [w1, u1, t1]; simp, ?_, fun x hx => ?_⟩
              · rw [List.length_cons]
                obtain rfl | rfl | rfl : nest = 0 ∨ nest = 1 ∨ nest = 2 := by omega
                all_goals
                  simp only [vmax] at *
                  omega
              · have := t3 (by omega)
                subst this
                simp
                omega
              · rcases List.mem_append.1 hx with h | h
                · rcases List.mem_append.1 h with h | h
                  · exact t4 x h
                  · exact u3 x h
                · exact w3 x h
theorem V_bound {np a k : Int} {L : List VOp} {nest : Nat} {v v' : VS} (e : V np L nest a v = .ok (k, v')) (hn : nest ≤ 3) (hh : v.h ≤ 8) (hd : v.d ≤ 8) :
    (a ≤ k ∧ k - a ≤ L.length * vmax nest) ∧ v'.h ≤ 8 ∧ v.d ≤ v'.d ∧ v'.d ≤ 8 ∧ ∃ t, v'.r = v.r ++ t ∧ t.length ≤ L.length ∧ ∀ x ∈ t, 0 ≤ x ∧ x < np := vb_bound np _ L nest a v k v' e hn hh hd

theorem vchk_ne {c n m np x : Int} {room nest h : Nat} (e : vchk c n m room nest np h = some x) : x ≠ 0 := by
  unfold vchk at e
  split at e
  · cases e; decide
  · split at e
    · cases e; decide
    · split at e
      · cases e; decide
      · split at e
        · cases e; decide
        · split at e
          · cases e; decide
          · cases e
theorem vb_err_ne (np : Int) (f : Nat) : ∀ (L : List VOp) (nest : Nat) (a : Int) (v : VS) (x : Int), vb np f L nest a v = .error x → x ≠ 0 := by
  induction f with
  | zero => intro L nest a v x e; cases e; decide
  | succ f ih =>
    intro L nest a v x e
    match L, e with
    | [], e => cases e
    | (c, n, m) :: L, e =>
      simp only [vb] at e
      cases hc : vchk c n m (L.length + 1) nest np v.h with
      | some y => rw [hc] at e; cases e; exact vchk_ne hc
      | none =>
        rw [hc] at e
        simp only at e
        split at e
        · exact ih _ _ _ _ _ e
        · cases hi : vb np f (L.take (vlen c n m).toNat) (nest + 1) 0 (vown c n v) with
          | error y => rw [hi] at e; cases e; exact ih _ _ _ _ _ hi
          | ok r =>
            rw [hi] at e
            simp only at e
            split at e
            · cases e; decide
            · exact ih _ _ _ _ _ e
/-- What Check finds out: an error, or the cost, the depth, and the points that are moved, in the order of the program. -/
def checkM (np : Int) (L : List VOp) : Except Int (Int × Nat × List Int) :=
  if 64 < L.length then .error 2 else
  match V np L 0 0 ⟨0, 0, []⟩ with
  | .error x => .error x
  | .ok (k, v) => if v.h ≠ 0 then .error 20 else if 2000 < k then .error 21 else .ok (k, v.d, v.r)
end Go.Proofs.YtdpbdcaefdcooaaGreatDoor
