/-
  A verified program never fails, takes at most its cost, and moves only its points; made programs are verified. Plain laws: no walk.
-/
import Derived.Test.YtlgcijafjcfnhaaDoorVm
import Derived.Test.YtlgcijafjcfnhaaDoorGood
import Derived.Test.YtlgcijafjcfnhaaDoorRoundsP
namespace Go.Proofs.YtlgcijafjcfnhaaDoor
open Go.RowKit
set_option linter.unusedVariables false

/-- Equal, but for the coordinates of points of r. -/
def Moves (r : List Int) (o o' : List Pt) : Prop := o'.length = o.length ∧ ∀ (j : Nat) (q q' : Pt), o[j]? = some q → o'[j]? = some q' → q'.2.2 = q.2.2 ∧ ((j : Int) ∈ r ∨ q' = q)
theorem Moves.refl (r : List Int) (o : List Pt) : Moves r o o := ⟨rfl, fun j q q' h h' => by rw [h] at h'; cases h'; exact ⟨rfl, .inr rfl⟩⟩
theorem Moves.trans {r : List Int} {o o' o'' : List Pt} (h : Moves r o o') (k : Moves r o' o'') : Moves r o o'' :=
  ⟨k.1.trans h.1, fun j q q'' hq hq'' => by
    have hj : j < o'.length := by have := (List.getElem?_eq_some_iff.1 hq).1; rw [h.1]; exact this
    obtain ⟨a, b⟩ := h.2 j q _ hq (List.getElem?_eq_getElem hj)
    obtain ⟨a', b'⟩ := k.2 j _ q'' (List.getElem?_eq_getElem hj) hq''
    refine ⟨a'.trans a, ?_⟩
    rcases b' with b' | b'
    · exact .inl b'
    · rcases b with b | b
      · exact .inl b
      · exact .inr (b'.trans b)⟩
theorem Moves.mono {r r' : List Int} {o o' : List Pt} (h : Moves r o o') (hr : ∀ x ∈ r, x ∈ r') : Moves r' o o' :=
  ⟨h.1, fun j q q' hq hq' => ⟨(h.2 j q q' hq hq').1, (h.2 j q q' hq hq').2.imp (hr _) id⟩⟩

theorem moves_set {o : List Pt} {n : Int} {f : Pt → Pt} (h : 0 ≤ n ∧ n < (o.length : Int)) (hf : ∀ q, (f q).2.2 = q.2.2) : Moves [n] o (o.set n.toNat (f (o.getD n.toNat default))) := by
  refine ⟨by simp, fun j q q' hq hq' => ?_⟩
  rw [List.getElem?_set] at hq'
  split at hq'
  · rename_i e
    subst e
    split at hq'
    · cases hq'
      rw [List.getD_eq_getElem?_getD, hq]
      exact ⟨hf _, .inl (by simp; omega)⟩
    · cases hq'
  · rw [hq] at hq'
    cases hq'
    exact ⟨rfl, .inr rfl⟩
theorem doOp_moves {size c n : Int} {o : List Pt} {s : List Int} (hc : 1 ≤ c ∧ c ≤ 13) (hp : 10 ≤ c → 0 ≤ n ∧ n < (o.length : Int)) : Moves (if c = 12 ∨ c = 13 then [n] else []) o (doOp size c n o s).1 := by
  obtain h | h | h | h | h | h | h | h | h | h | h | h | h : c = 1 ∨ c = 2 ∨ c = 3 ∨ c = 4 ∨ c = 5 ∨ c = 6 ∨ c = 7 ∨ c = 8 ∨ c = 9 ∨ c = 10 ∨ c = 11 ∨ c = 12 ∨ c = 13 := by omega
  all_goals subst h
  all_goals simp only [doOp]
  all_goals first | exact Moves.refl _ _ | exact moves_set (f := updX (top s)) (hp (by omega)) (fun _ => rfl) | exact moves_set (f := updY (top s)) (hp (by omega)) (fun _ => rfl)

theorem iter_sound {f : St → Except Int St} {np h1 : Nat} {c : Int} {r : List Int} (hc : 0 ≤ c)
    (hf : ∀ (o : List Pt) (stk : List Int) (s : Int), o.length = np → stk.length = h1 → 0 ≤ s → s + c ≤ 2000 → ∃ o' stk' s', f (o, stk, s) = .ok (o', stk', s') ∧ stk'.length = h1 ∧ s ≤ s' ∧ s' ≤ s + c ∧ Moves r o o') (n : Nat) :
    ∀ (o : List Pt) (stk : List Int) (s : Int), o.length = np → stk.length = h1 → 0 ≤ s → s + n * c ≤ 2000 → ∃ o' stk' s', iter f n (o, stk, s) = .ok (o', stk', s') ∧ stk'.length = h1 ∧ s ≤ s' ∧ s' ≤ s + n * c ∧ Moves r o o' := by
  induction n with
  | zero => intro o stk s ho hs h0 h2; exact ⟨o, stk, s, rfl, hs, Int.le_refl _, by simp, Moves.refl _ _⟩
  | succ n ih =>
    intro o stk s ho hs h0 h2
    rw [show ((n + 1 : Nat) : Int) * c = n * c + c from by rw [Int.natCast_add, Int.add_mul]; simp] at h2 ⊢
    obtain ⟨o1, stk1, s1, e1, a1, b1, c1, m1⟩ := ih o stk s ho hs h0 (by omega)
    obtain ⟨o2, stk2, s2, e2, a2, b2, c2, m2⟩ := hf o1 stk1 s1 (m1.1.trans ho) a1 (by omega) (by omega)
    refine ⟨o2, stk2, s2, ?_, a2, by omega, by omega, m1.trans m2⟩
    unfold iter
    rw [e1]
    exact e2

theorem chk_of_vchk {c n m s : Int} {room nest np h : Nat} (e : vchk c n m room nest np h = none) (hs : s < 2000) (hn : nest ≤ 3) : chk c n m room nest np h s = none := by
  obtain ⟨⟨q1, q1', q1''⟩, q2, q3, q4, q5, q6⟩ := vchk_none e
  refine chk_ok hs ⟨by unfold bad; omega, by omega, ?_, q2, fun hb => ?_⟩ (by show ¬ h < vtakes c; omega) (by show (h : Int) - vtakes c + vputs c ≤ 8; omega) (fun hp => by unfold isPt at hp; simp at hp; exact q4 hp)
  · rcases q1' with h | h | h
    · exact .inr (.inl (by unfold isNum; exact decide_eq_true h))
    · by_cases h13 : c ≤ 13
      · exact .inr (.inr (.inl (by unfold isPt; exact decide_eq_true ⟨h, h13⟩)))
      · exact .inr (.inr (.inr (by unfold isBlk; exact decide_eq_true (by omega))))
    · exact .inl h
  · have hb' : 14 ≤ c := by unfold isBlk at hb; simp at hb; omega
    obtain ⟨g1, g2⟩ := q3 hb'
    exact ⟨g1, by omega⟩

theorem rounds_vrounds {c n : Int} {stk : List Int} (hc : c = 14 ∨ c = 15) (hn : c = 15 → 1 ≤ n ∧ n ≤ 16) : (rounds c n stk : Int) ≤ vrounds c n := by
  unfold rounds vrounds
  rcases hc with rfl | rfl
  · simp; split <;> omega
  · have := hn rfl; simp; omega

theorem V_sound (size : Int) (np : Nat) (l : List Op3) (N : Nat) : ∀ (L : List Op3) (nest : Nat) (a : Int) (v : VS) (k : Int) (v' : VS), L.length ≤ N → V np L nest a v = .ok (k, v') → nest ≤ 3 → v.h ≤ 8 → v.d ≤ 8 →
    ∀ (i : Nat) (o : List Pt) (stk : List Int) (s : Int), At l i L → o.length = np → stk.length = v.h → 0 ≤ s → s + (k - a) ≤ 2000 →
    ∃ o' stk' s', E l size i (i + L.length) nest (o, stk, s) = .ok (o', stk', s') ∧ stk'.length = v'.h ∧ s ≤ s' ∧ s' ≤ s + (k - a) ∧ Moves v'.r o o' := by
  induction N with
  | zero =>
    intro L nest a v k v' hN e hn hh hd i o stk s ha ho hs h0 h2
    obtain rfl := List.eq_nil_of_length_eq_zero (Nat.le_zero.1 hN)
    rw [V_nil] at e
    injection e with e
    injection e with e1 e2
    subst e1 e2
    exact ⟨o, stk, s, E_done (by simp), hs, Int.le_refl _, by omega, Moves.refl _ _⟩
  | succ N ih =>
    intro L nest a v k v' hN e hn hh hd i o stk s ha ho hs h0 h2
    match L, hN, e, ha with
    | [], hN, e, ha =>
      rw [V_nil] at e
      injection e with e
      injection e with e1 e2
      subst e1 e2
      exact ⟨o, stk, s, E_done (by simp), hs, Int.le_refl _, by omega, Moves.refl _ _⟩
    | (c, n, m) :: L, hN, e, ha =>
      rw [List.length_cons] at hN
      cases hc : vchk c n m (L.length + 1) nest np v.h with
      | some x => rw [V_bad hc] at e; cases e
      | none =>
        obtain ⟨⟨q1, q1', q1''⟩, q2, q3, q4, q5, q6⟩ := vchk_none hc
        have o1 : (vown c n v).h ≤ 8 := q6
        have o2 : (vown c n v).d ≤ 8 := by show max _ _ ≤ 8; omega
        rw [List.length_cons]
        have hck : s < 2000 → chk c n m (i + (L.length + 1) - i) nest (o, stk, s).1.length (o, stk, s).2.1.length (o, stk, s).2.2 = none := by
          intro hlt
          rw [show i + (L.length + 1) - i = L.length + 1 from by omega]
          show chk c n m (L.length + 1) nest o.length stk.length s = none
          rw [ho, hs]
          exact chk_of_vchk hc hlt hn
        by_cases h14 : c < 14
        · rw [V_plain hc h14] at e
          obtain ⟨⟨b1, b2⟩, -, -, -, t, u1, -, -⟩ := V_bound e hn o1 o2
          obtain ⟨d1, d2⟩ := doOp_len (size := size) (n := n) (o := o) (s := stk) (c := c) (by omega) (by rw [hs]; exact q5)
          rw [E_step (by omega) ha.head h0 (hck (by omega))]
          have hr : rounds c n stk = 0 := by unfold rounds; rw [if_neg (by omega), if_neg (by omega)]
          have hbl : blen c n m = 0 := by unfold blen; rw [if_neg (by omega), if_neg (by omega)]
          have hown : own size c n (o, stk, s) = ((doOp size c n o stk).1, (doOp size c n o stk).2, s + 1) := by unfold own; rw [if_neg (by omega), if_neg (by omega)]
          simp only [hr, hbl, iter, hown]
          obtain ⟨o', stk', s', e1, e2, e3, e4, e5⟩ := ih L nest (a + 1) (vown c n v) k v' (by omega) e hn o1 o2 (i + 1) (doOp size c n o stk).1 (doOp size c n o stk).2 (s + 1) ha.tail (by rw [d1]; exact ho) (by rw [d2, hs]; rfl) (by omega) (by omega)
          refine ⟨o', stk', s', ?_, e2, by omega, by omega, Moves.trans ((doOp_moves (by omega) (fun h => by rw [ho]; exact q4 (by omega))).mono fun x hx => ?_) e5⟩
          · rw [show i + (L.length + 1) = i + 1 + L.length from by omega]
            exact e1
          · rw [u1]
            refine List.mem_append_left _ ?_
            show x ∈ if c = 12 ∨ c = 13 then v.r ++ [n] else v.r
            split at hx
            · rw [if_pos ‹_›]; exact List.mem_append_right _ hx
            · cases hx
        · obtain ⟨⟨g1, g1'⟩, g2⟩ := q3 (by omega)
          have hc' : c = 14 ∨ c = 15 := by omega
          cases hi : V np (L.take (vlen c n m).toNat) (nest + 1) 0 (vown c n v) with
          | error x => rw [V_inner hc h14 hi] at e; cases e
          | ok r =>
            obtain ⟨k1, v1⟩ := r
            by_cases hheq : v1.h = (vown c n v).h
            · rw [V_on hc h14 hi hheq] at e
              obtain ⟨⟨b1, b2⟩, b3, b4, b5, t, u1, -, -⟩ := V_bound hi (by omega) o1 o2
              obtain ⟨⟨b6, b7⟩, -, -, -, t', u1', -, -⟩ := V_bound e hn b3 b5
              obtain ⟨r1, r2⟩ := vrounds_le (c := c) (n := n) q2
              have hk0 : 0 ≤ vrounds c n * k1 := Int.mul_nonneg (by omega) (by omega)
              have hrv := rounds_vrounds (stk := stk) hc' q2
              have hrk : (rounds c n stk : Int) * k1 ≤ vrounds c n * k1 := Int.mul_le_mul_of_nonneg_right hrv (by omega)
              have hlen : (vlen c n m).toNat ≤ L.length := by omega
              have hsplit : At l (i + 1) (L.take (vlen c n m).toNat ++ L.drop (vlen c n m).toNat) := by rw [List.take_append_drop]; exact ha.tail
              have hlt : (L.take (vlen c n m).toNat).length = (vlen c n m).toNat := by rw [List.length_take]; omega
              have hld : (L.drop (vlen c n m).toNat).length = L.length - (vlen c n m).toNat := by rw [List.length_drop]
              rw [E_step (by omega) ha.head h0 (hck (by omega))]
              have hown : ∃ stk1, own size c n (o, stk, s) = (o, stk1, s + 1) ∧ stk1.length = (vown c n v).h := by
                rcases hc' with rfl | rfl
                · refine ⟨rest stk, by unfold own; simp, ?_⟩
                  show (stk.dropLast).length = v.h - 1 + 0
                  rw [List.length_dropLast, hs]; omega
                · refine ⟨stk, by unfold own; simp, ?_⟩
                  show stk.length = v.h - 0 + 0
                  omega
              obtain ⟨stk1, hown, hl1⟩ := hown
              have hbv : blen c n m = vlen c n m := rfl
              simp only [hown, hbv]
              have hinner := fun (o : List Pt) (stk : List Int) (s : Int) (ho : o.length = np) (hst : stk.length = (vown c n v).h) (h0 : 0 ≤ s) (h2 : s + k1 ≤ 2000) =>
                ih (L.take (vlen c n m).toNat) (nest + 1) 0 (vown c n v) k1 v1 (by omega) hi (by omega) o1 o2 (i + 1) o stk s hsplit.left ho hst h0 (by omega)
              obtain ⟨o2, stk2, s2, x1, x2, x3, x4, x5⟩ := iter_sound (f := E l size (i + 1) (i + 1 + (vlen c n m).toNat) (nest + 1)) (np := np) (h1 := (vown c n v).h) (c := k1) (r := v1.r) (by omega) (fun o stk s y1 y2 y3 y4 => by
                obtain ⟨o', stk', s', z1, z2, z3, z4, z5⟩ := hinner o stk s y1 y2 y3 y4
                rw [hlt] at z1
                exact ⟨o', stk', s', z1, z2.trans hheq, z3, by omega, z5⟩) (rounds c n stk) o stk1 (s + 1) ho hl1 (by omega) (by omega)
              rw [x1]
              simp only
              obtain ⟨o', stk', s', e1, e2, e3, e4, e5⟩ := ih (L.drop (vlen c n m).toNat) nest _ v1 k v' (by omega) e hn b3 b5 (i + 1 + (vlen c n m).toNat) o2 stk2 s2 (by have := hsplit.right; rw [hlt] at this; exact this) (x5.1.trans ho) (x2.trans hheq.symm) (by omega) (by omega)
              refine ⟨o', stk', s', ?_, e2, by omega, by omega, Moves.trans (x5.mono fun x hx => by rw [u1']; exact List.mem_append_left _ hx) e5⟩
              rw [hld] at e1
              rw [show i + (L.length + 1) = i + 1 + (vlen c n m).toNat + (L.length - (vlen c n m).toNat) from by omega]
              exact e1
            · rw [V_height hc h14 hi hheq] at e; cases e

/-- P9.3. -/
theorem safe_plain {o : List (List Pt)} {L : List Op3} {k : Int} {d : Nat} {r : List Int} (size : Int) (h : checkM (o.flatten.length : Nat) L = .ok (k, d, r)) :
    ∃ o' s, runM L size o = .ok (o', s) ∧ s ≤ k ∧ ∀ r', (∀ x ∈ r, x ∈ r') → Still o o' r' := by
  unfold checkM at h
  split at h
  · cases h
  · cases hv : V (o.flatten.length : Nat) L 0 0 ⟨0, 0, []⟩ with
    | error x => rw [hv] at h; cases h
    | ok q =>
      obtain ⟨k', v⟩ := q
      rw [hv] at h
      simp only at h
      split at h
      · cases h
      · split at h
        · cases h
        · injection h with h
          injection h with h1 h2
          injection h2 with h2 h3
          subst h1 h2 h3
          obtain ⟨o', stk', s', e1, e2, e3, e4, e5⟩ := V_sound size o.flatten.length L L.length L 0 0 ⟨0, 0, []⟩ k' v (Nat.le_refl _) hv (by omega) (by simp) (by simp) 0 o.flatten [] 0 (At.self L) rfl rfl (by omega) (by omega)
          refine ⟨refill o o', s', ?_, by omega, fun r' hr => ⟨(refill_length _ _).symm, fun k c e hc he => ?_⟩⟩
          · unfold runM
            rw [Nat.zero_add] at e1
            unfold E at e1
            rw [e1]
          · obtain ⟨d', g1, g2, g3⟩ := refill_at hc o' e5.1
            rw [he] at g1
            cases g1
            refine ⟨g2.symm, fun i q q' hq hq' => ?_⟩
            have hi : i < c.length := (List.getElem?_eq_some_iff.1 hq).1
            obtain ⟨z1, z2⟩ := e5.2 ((o.take k).flatten.length + i) q q' (by rw [flatten_at hc hi]; exact hq) (by rw [← g3 i hi]; exact hq')
            exact ⟨z1.symm, z2.symm.imp Eq.symm (hr _)⟩

/-! ### Made programs are verified -/
theorem V_line {np : Nat} (u rest : List Op3) : ∀ (h h' nest : Nat) (a : Int) (v : VS), LineOk np h u h' → v.h = h → ∃ v', v'.h = h' ∧ V np (u ++ rest) nest a v = V np rest nest (a + u.length) v' := by
  induction u with
  | nil => intro h h' nest a v hl hv; unfold LineOk at hl; exact ⟨v, hv.trans hl, by simp⟩
  | cons q u ih =>
    obtain ⟨c, n, m⟩ := q
    intro h h' nest a v hl hv
    unfold LineOk at hl
    obtain ⟨rfl, hc, hn, hpt, hp, h8, hl⟩ := hl
    subst hv
    obtain ⟨v', e1, e2⟩ := ih _ h' nest (a + 1) (vown c n v) hl rfl
    refine ⟨v', e1, ?_⟩
    rw [List.cons_append, V_plain (vchk_ok ⟨by omega, by omega, by omega⟩ (by omega) (by omega) (fun h => hpt h.1) hp h8) (by omega), e2]
    rw [List.length_cons]
    congr 1
    omega

/-- The part u is verified, wherever it stands within at most 3 - d blocks, with a cost of at most C. -/
def VGood (np : Nat) (u : List Op3) (d : Nat) (C : Int) : Prop :=
  ∀ (rest : List Op3) (nest : Nat) (a : Int) (v : VS), v.h = 0 → nest + d ≤ 3 → ∃ k v', v'.h = 0 ∧ (0 ≤ k ∧ k ≤ C) ∧ V np (u ++ rest) nest a v = V np rest nest (a + k) v'
theorem VGood.mono {np : Nat} {u : List Op3} {d d' : Nat} {C C' : Int} (h : VGood np u d C) (hd : d ≤ d') (hC : C ≤ C') : VGood np u d' C' := fun rest nest a v h0 hn => by
  obtain ⟨k, v', e1, e2, e3⟩ := h rest nest a v h0 (by omega)
  exact ⟨k, v', e1, by omega, e3⟩
theorem VGood.nil (np : Nat) : VGood np [] 0 0 := fun rest nest a v h0 hn => ⟨0, v, h0, by omega, by simp⟩
theorem VGood.app {np : Nat} {u w : List Op3} {d : Nat} {C C' : Int} (h : VGood np u d C) (h' : VGood np w d C') : VGood np (u ++ w) d (C + C') := fun rest nest a v h0 hn => by
  obtain ⟨k, v1, e1, e2, e3⟩ := h (w ++ rest) nest a v h0 hn
  obtain ⟨k', v2, f1, f2, f3⟩ := h' rest nest (a + k) v1 e1 hn
  exact ⟨k + k', v2, f1, by omega, by rw [List.append_assoc, e3, f3, Int.add_assoc]⟩
theorem VGood.line {np : Nat} {u : List Op3} (h : LineOk np 0 u 0) : VGood np u 0 u.length := fun rest nest a v h0 hn => by
  obtain ⟨v', e1, e2⟩ := V_line u rest 0 0 nest a v h h0
  exact ⟨u.length, v', e1, by omega, e2⟩
theorem VGood.block {np : Nat} {u : List Op3} {d : Nat} {C : Int} (h : VGood np u d C) (hu : 0 < u.length) (c n m : Int) (hc : c = 14 ∨ c = 15) (hl : vlen c n m = u.length) (hn : c = 15 → 1 ≤ n ∧ n ≤ 16) (hm : c = 14 → m = 0) (hd : d + 1 ≤ 3) (hC : 0 ≤ C)
    (rest : List Op3) (nest : Nat) (a : Int) (v : VS) (hv : v.h = vtakes c) (hne : nest + (d + 1) ≤ 3) : ∃ k v', v'.h = 0 ∧ (0 ≤ k ∧ k ≤ 1 + vrounds c n * C) ∧ V np ((c, n, m) :: (u ++ rest)) nest a v = V np rest nest (a + k) v' := by
  have hp : vputs c = 0 := by unfold vputs; rw [if_neg (by omega)]
  have ho : (vown c n v).h = 0 := by show v.h - vtakes c + vputs c = 0; omega
  obtain ⟨k, v', e1, e2, e3⟩ := h [] (nest + 1) 0 (vown c n v) ho (by omega)
  rw [List.append_nil, V_nil] at e3
  have hk : vchk c n m ((u ++ rest).length + 1) nest np v.h = none := by
    refine vchk_ok ⟨by omega, by omega, by omega⟩ hn (fun _ => ⟨by rw [hl, List.length_append]; omega, by omega⟩) (by omega) (by omega) (by omega)
  have ht : (u ++ rest).take (vlen c n m).toNat = u := by rw [hl, Int.toNat_natCast]; simp
  have hdr : (u ++ rest).drop (vlen c n m).toNat = rest := by rw [hl, Int.toNat_natCast]; simp
  obtain ⟨r1, r2⟩ := vrounds_le (c := c) (n := n) hn
  refine ⟨1 + vrounds c n * (0 + k), v', e1, ⟨by have := Int.mul_nonneg (show 0 ≤ vrounds c n by omega) (show 0 ≤ 0 + k by omega); omega, by have := Int.mul_le_mul_of_nonneg_left (show 0 + k ≤ C by omega) (show 0 ≤ vrounds c n by omega); omega⟩, ?_⟩
  rw [V_on hk (by omega) (by rw [ht]; exact e3) (by rw [e1, ho]), hdr, Int.add_assoc]
theorem VGood.loop {np : Nat} {u : List Op3} {d : Nat} {C : Int} (h : VGood np u d C) (hu : 0 < u.length) (n : Nat) (hn : 1 ≤ n ∧ n ≤ 16) (hd : d + 1 ≤ 3) (hC : 0 ≤ C) : VGood np ((15, (n : Int), (u.length : Int)) :: u) (d + 1) (1 + n * C) := fun rest nest a v h0 hne => by
  obtain ⟨k, v', e1, e2, e3⟩ := h.block hu 15 n u.length (.inr rfl) (by unfold vlen; simp) (fun _ => by omega) (by omega) hd hC rest nest a v (by rw [h0]; rfl) hne
  exact ⟨k, v', e1, by simpa [vrounds] using e2, e3⟩
theorem VGood.cond {np : Nat} {u : List Op3} {d : Nat} {C : Int} (h : VGood np u d C) (hu : 0 < u.length) (n : Int) (hd : d + 1 ≤ 3) (hC : 0 ≤ C) : VGood np ((9, 0, 0) :: (1, n, 0) :: (3, 0, 0) :: (14, (u.length : Int), 0) :: u) (d + 1) (4 + C) := fun rest nest a v h0 hne => by
  obtain ⟨v1, g1, g2⟩ := V_line (np := np) [(9, 0, 0), (1, n, 0), (3, 0, 0)] ((14, (u.length : Int), 0) :: (u ++ rest)) 0 1 nest a v (by simp [LineOk, pops, pushes]) h0
  obtain ⟨k, v', e1, e2, e3⟩ := h.block hu 14 u.length 0 (.inl rfl) (by unfold vlen; simp) (by omega) (by omega) hd hC rest nest (a + 3) v1 (by rw [g1]; rfl) hne
  have hr : vrounds 14 (u.length : Int) = 1 := rfl
  rw [hr] at e2
  refine ⟨3 + k, v', e1, by omega, ?_⟩
  show V np ([(9, 0, 0), (1, n, 0), (3, 0, 0)] ++ ((14, (u.length : Int), 0) :: (u ++ rest))) nest a v = _
  rw [g2]
  show V np _ nest (a + 3) v1 = _
  rw [e3, Int.add_assoc]

theorem IsCond.vgood {np : Nat} {u : List Op3} (h : IsCond np u) : VGood np u 1 10 := by
  rcases h with h | ⟨v, n, h, rfl⟩
  · exact (VGood.line h.ok).mono (by omega) (by have := h.len; omega)
  · exact ((VGood.line h.ok).cond h.len.1 n (by omega) (by omega)).mono (by omega) (by have := h.len; omega)
theorem IsPart.vgood {np : Nat} {u : List Op3} (h : IsPart np u) : VGood np u 2 31 := by
  rcases h with h | ⟨v, n, h, hn, rfl⟩
  · exact h.vgood.mono (by omega) (by omega)
  · exact (h.vgood.loop h.len.1 n (by omega) (by omega) (by omega)).mono (by omega) (by omega)
theorem IsMade.vgood {np m : Nat} {p : List Op3} (h : IsMade np m p) : VGood np p 2 (m * 31) := by
  induction h with
  | nil => exact (VGood.nil np).mono (by omega) (by omega)
  | snoc h h' ih => exact (ih.app h'.vgood).mono (by omega) (by omega)
theorem made_check {np m : Nat} {p : List Op3} (h : IsMade np m p) (hm : m ≤ 3) : ∃ k d r, checkM np p = .ok (k, d, r) := by
  obtain ⟨k, v', e1, e2, e3⟩ := h.vgood [] 0 0 ⟨0, 0, []⟩ rfl (by omega)
  have hl := h.len
  rw [List.append_nil, V_nil] at e3
  refine ⟨0 + k, v'.d, v'.r, ?_⟩
  unfold checkM
  rw [if_neg (by omega), e3]
  simp only
  rw [if_neg (by simp [e1]), if_neg (by omega)]
end Go.Proofs.YtlgcijafjcfnhaaDoor
