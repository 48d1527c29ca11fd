/-
  A region in whatever order, where a condition on the world holds till one last operation (a store into what the region read): laws for a walk by hand. No conditions: plain lemmas.
-/
import Derived.Test.YtdpbdcaefdcooaaGreatDoorLib
import Derived.Deep.RegionHeld
namespace Go.Proofs.YtdpbdcaefdcooaaGreatDoor
open Go.RowKit

section
variable {P : Program} {ops : Array Oper} {Q : Exit → Act → World → Prop} {md : Region.Mode} {F : World → Prop} {t : Nat}

/-- Whatever order is picked; F holds behind every operation that comes up ahead of number t. -/
def wpT (P : Program) (md : Region.Mode) (ops : Array Oper) (Q : Exit → Act → World → Prop) (F : World → Prop) (t : Nat) : Nat → Array Bool → Act → World → Prop
  | 0, l, a, w => Region.ready md ops l = [] ∧ Q .normal a w
  | n + 1, l, a, w => (Region.ready md ops l = [] → Q .normal a w) ∧
    ∀ i ∈ Region.ready md ops l, wpOp P ops Q i (fun a' w' => ((l.setIfInBounds i true).getD t false = false → F w') ∧ wpT P md ops Q F t n (l.setIfInBounds i true) a' w') a w

theorem wpT_any : ∀ (n : Nat) (l : Array Bool) (a : Act) (w : World), wpT P md ops Q F t n l a w → wpAny P md ops Q n l a w
  | 0, _, _, _, h => h
  | n + 1, _, _, _, h => ⟨h.1, fun i hi => wpOp_mono (fun a' w' x => wpT_any n _ a' w' x.2) (h.2 i hi)⟩

theorem wp_region_T {id : Nat} {a : Act} {w : World} (t : Nat) (hm : P.follows .mixedOrders = true) (hF : F w.drew)
    (h : F w.drew → wpT P .any ops Q F t ops.size (Array.replicate ops.size false) a w.drew) : (Code.region id ops true).wp P Q a w :=
  wp_region_any hm (wpT_any _ _ _ _ (h hF))

theorem wpT_named {n : Nat} {l : Array Bool} {a : Act} {w : World} (h : ∀ W, W = w → wpT P md ops Q F t n l a W) : wpT P md ops Q F t n l a w := h _ rfl

theorem post_named {Q : Exit → Act → World → Prop} {e : Exit} {a : Act} {w : World} (h : ∀ W, W = w → Q e a W) : Q e a w := h _ rfl

theorem wpT_done {l : Array Bool} {a : Act} {w : World} (hr : Region.ready md ops l = []) (h : Q .normal a w) : ∀ n, wpT P md ops Q F t n l a w
  | 0 => ⟨hr, h⟩
  | _ + 1 => ⟨fun _ => h, by rw [hr]; simp⟩

/-- Number t waits for number i, or there is no number t. -/
def waitsFor (md : Region.Mode) (ops : Array Oper) (t i : Nat) : Bool := ((ops[t]?).map fun o => o.after.any fun e => Region.binds md e && e.on == i).getD true

theorem not_t {l : Array Bool} {i j : Nat} (hw : waitsFor md ops t i = true) (hi : i ∈ Region.ready md ops l) (hj : j ∈ Region.ready md ops l) : j ≠ t := by
  rintro rfl
  obtain ⟨-, oj, hoj, hall⟩ := mem_ready.1 hj
  unfold waitsFor at hw
  rw [hoj] at hw
  simp only [Option.map_some, Option.getD_some, Array.any_eq_true] at hw
  obtain ⟨x, hx, hb⟩ := hw
  simp only [Bool.and_eq_true, beq_iff_eq] at hb
  have h1 := hall _ (Array.getElem_mem hx) hb.1
  have h0 := (mem_ready.1 hi).1
  rw [hb.2] at h1
  rcases Nat.lt_or_ge i l.size with h' | h'
  · simp [h'] at h0 h1; rw [h0] at h1; cases h1
  · simp [Array.getElem?_eq_none h'] at h1

theorem wpT_first {i : Nat} {oi : Oper} {v : Value} (hi : ops[i]? = some oi) (hsel : ∀ (j : Nat) (o : Oper) cs b, ops[j]? = some o → o.op ≠ .select cs b)
    (hQ : ∀ c a w, Q (.panic c) (a.put oi.dst v) w → Q (.panic c) a w) (hw : waitsFor md ops t i = true) :
    ∀ (n : Nat) (l : Array Bool) (a : Act) (w : World),
      (∀ j oj, ops[j]? = some oj → j ≠ i → l.getD j true = false → (∀ e ∈ oj.after, Region.binds md e = true → e.on ≠ i) → oi.apart ops oj = true) →
      i ∈ Region.ready md ops l → YieldsIf P ops F oi v a → F w → l.getD t false = false →
      wpT P md ops Q F t n (l.setIfInBounds i true) (a.put oi.dst v) w → wpT P md ops Q F t (n + 1) l a w := by
  have hit : ∀ {l : Array Bool}, i ∈ Region.ready md ops l → i ≠ t := fun h => not_t hw h h
  intro n
  induction n with
  | zero =>
    intro l a w _ hr hy hF hl H
    refine ⟨fun h => (by rw [h] at hr; cases hr), fun j hj => ?_⟩
    by_cases e : j = i
    · subst e; exact hy.wpOp hi hF ⟨fun _ => hF, H⟩
    · have := ready_mono hj e
      rw [H.1] at this
      cases this
  | succ n ih =>
    intro l a w hfree hr hy hF hl H
    refine ⟨fun h => (by rw [h] at hr; cases hr), fun j hj => ?_⟩
    by_cases e : j = i
    · subst e; exact hy.wpOp hi hF ⟨fun _ => hF, H⟩
    · have h1 := H.2 j (ready_mono hj e)
      have hjt := not_t hw hr hj
      obtain ⟨hjun, oj, hoj, hall⟩ := mem_ready.1 hj
      have hnot : ∀ x ∈ oj.after, Region.binds md x = true → x.on ≠ i := fun x hx hb heq => by
        have g1 := hall x hx hb
        have g0 := (mem_ready.1 hr).1
        rw [heq] at g1
        rcases Nat.lt_or_ge i l.size with h' | h'
        · simp [h'] at g0 g1; rw [g0] at g1; cases g1
        · simp [Array.getElem?_eq_none h'] at g1
      have h2 := wpOp_putIf hoj (hfree j oj hoj e hjun hnot) (fun cs b => hsel i oi cs b hi) (fun cs b => hsel j oj cs b hoj) hQ hy h1
      have hl' : (l.setIfInBounds j true).getD t false = false := by rw [getD_set_ne false hjt]; exact hl
      have hl2 : ((l.setIfInBounds i true).setIfInBounds j true).getD t false = false := by rw [getD_set_ne false hjt, getD_set_ne false (hit hr)]; exact hl
      refine wpOp_mono (fun a' w' h3 => ⟨fun _ => h3.2.1 hl2, ih (l.setIfInBounds j true) a' w' ?_ (ready_mono hr (Ne.symm e)) h3.1 (h3.2.1 hl2) hl' ?_⟩) h2
      · intro k ok hk hki hun hno
        refine hfree k ok hk hki ?_ hno
        by_cases hjk : j = k
        · subst hjk; exact hjun
        · rw [getD_set_ne true hjk] at hun; exact hun
      · rw [Array.setIfInBounds_comm _ _ e]
        exact h3.2.2

theorem wpT_take {i : Nat} {oi : Oper} {v : Value} {n : Nat} {l : Array Bool} {a : Act} {w : World} (hi : ops[i]? = some oi)
    (hs : Region.noSelect ops = true) (hf : Region.free md ops l i = true) (hr : (Region.ready md ops l).contains i = true) (hw : (waitsFor md ops t i && !l.getD t false) = true)
    (hQ : ∀ c a w, Q (.panic c) (a.put oi.dst v) w → Q (.panic c) a w) (hy : YieldsIf P ops F oi v a) (hF : F w)
    (h : wpT P md ops Q F t n (l.setIfInBounds i true) (a.put oi.dst v) w) : wpT P md ops Q F t (n + 1) l a w := by
  simp only [Bool.and_eq_true, Bool.not_eq_true'] at hw
  exact wpT_first hi (Region.noSelect_spec hs) hQ hw.1 n l a w (Region.free_spec hi hf) (by simpa using hr) hy hF hw.2 h

def ReadyT (P : Program) (md : Region.Mode) (ops : Array Oper) (Q : Exit → Act → World → Prop) (F : World → Prop) (t n : Nat) (l : Array Bool) (a : Act) (w : World) (rs : List Nat) : Prop :=
  ∀ i ∈ rs, wpOp P ops Q i (fun a' w' => ((l.setIfInBounds i true).getD t false = false → F w') ∧ wpT P md ops Q F t n (l.setIfInBounds i true) a' w') a w
theorem ReadyT.nil {n : Nat} {l : Array Bool} {a : Act} {w : World} : ReadyT P md ops Q F t n l a w [] := fun _ h => by cases h
/-- An operation ahead of number t: F is shown behind it. -/
theorem ReadyT.cons {n : Nat} {l : Array Bool} {a : Act} {w : World} {i : Nat} {o : Oper} {rs : List Nat} (ho : ops[i]? = some o)
    (h : ∀ K' : Act → World → Prop, Shut (∀ a w, F w → (F w → wpT P md ops Q F t n (l.setIfInBounds i true) a w) → K' a w) → if Region.wanted o (yielded ops a.tmps) = true then Oper.wp P o a w K' Q else K' (a.put o.dst undef) w)
    (hs : ReadyT P md ops Q F t n l a w rs) : ReadyT P md ops Q F t n l a w (i :: rs) := fun j hj => by
  rcases List.mem_cons.1 hj with rfl | hj
  · exact wpOp_step ho (fun K' hK => h K' (fun a w hF hW => hK a w ⟨fun _ => hF, hW hF⟩))
  · exact hs j hj
/-- Number t itself, or what comes behind it. -/
theorem ReadyT.last {n : Nat} {l : Array Bool} {a : Act} {w : World} {i : Nat} {o : Oper} {rs : List Nat} (ho : ops[i]? = some o) (ht : (l.setIfInBounds i true).getD t false = true)
    (h : ∀ K' : Act → World → Prop, Shut (∀ a w, wpT P md ops Q F t n (l.setIfInBounds i true) a w → K' a w) → if Region.wanted o (yielded ops a.tmps) = true then Oper.wp P o a w K' Q else K' (a.put o.dst undef) w)
    (hs : ReadyT P md ops Q F t n l a w rs) : ReadyT P md ops Q F t n l a w (i :: rs) := fun j hj => by
  rcases List.mem_cons.1 hj with rfl | hj
  · exact wpOp_step ho (fun K' hK => h K' (fun a w hW => hK a w ⟨fun e => absurd e (by rw [ht]; simp), hW⟩))
  · exact hs j hj
theorem wpT_ready {rs : List Nat} {n : Nat} {l : Array Bool} {a : Act} {w : World} (hr : Region.ready md ops l = rs) (hne : rs ≠ [])
    (h : ReadyT P md ops Q F t n l a w rs) : wpT P md ops Q F t (n + 1) l a w := by
  subst hr
  exact ⟨fun h0 => absurd h0 hne, h⟩

/-! ### The operations under a name -/
/-- The operations of region k. -/
def opsIn (k : Nat) : Code → Array Oper
  | .region id ops _ => if id = k then ops else #[]
  | .seq a b => if (opsIn k a).size = 0 then opsIn k b else opsIn k a
  | .cond _ a b => if (opsIn k a).size = 0 then opsIn k b else opsIn k a
  | .block _ b => opsIn k b
  | .loop b => opsIn k b
  | .rangeFunc _ _ a b => if (opsIn k a).size = 0 then opsIn k b else opsIn k a
  | .scope b => opsIn k b
  | _ => #[]
def opsOf (f : Func) (k : Nat) : Array Oper := match f.body with
  | some c => opsIn k c
  | none => #[]
theorem opsAt {lit B : Array Oper} {i : Nat} {o : Oper} (h : Hid (lit = B)) (e : lit[i]? = some o) : B[i]? = some o := h.out ▸ e
theorem wanted_at {lit B : Array Oper} {o : Oper} {a : Array Value} {b : Bool} (h : Hid (lit = B)) (e : Region.wanted o (yielded lit a) = b) : Region.wanted o (yielded B a) = b := h.out ▸ e

theorem wp_region_U {id : Nat} {lit : Array Oper} {a : Act} {w : World} (B : Array Oper) (t N : Nat) (hm : P.follows .mixedOrders = true) (he : lit = B) (hN : B.size = N) (hF : F w.drew)
    (h : Hid (lit = B) → F w.drew → wpT P .any B Q F t N (Array.replicate N false) a w.drew) : (Code.region id lit true).wp P Q a w := by
  subst he hN
  exact wp_region_T t hm hF (fun hF => h (Lib.hid rfl) hF)

theorem wpT_takeB {lit : Array Oper} {i : Nat} {oi : Oper} {v : Value} {n : Nat} {l : Array Bool} {a : Act} {w : World} (he : Hid (lit = ops)) (hi : lit[i]? = some oi)
    (hc : (Region.noSelect ops && Region.free md ops l i && (Region.ready md ops l).contains i && (waitsFor md ops t i && !l.getD t false)) = true)
    (hQ : ∀ c a w, Q (.panic c) (a.put oi.dst v) w → Q (.panic c) a w) (hy : YieldsIf P lit F oi v a) (hF : F w)
    (h : wpT P md ops Q F t n (l.setIfInBounds i true) (a.put oi.dst v) w) : wpT P md ops Q F t (n + 1) l a w := by
  have he' := he.out
  subst he'
  simp only [Bool.and_eq_true] at hc
  obtain ⟨⟨⟨h1, h2⟩, h3⟩, h4⟩ := hc
  exact wpT_take hi h1 h2 h3 (by simp only [Bool.and_eq_true]; exact h4) hQ hy hF h

/-- An operation that is carried out: ahead of number t. -/
theorem ReadyT.consB {lit : Array Oper} {n : Nat} {l : Array Bool} {a : Act} {w : World} {i : Nat} {o : Oper} {rs : List Nat} (he : Hid (lit = ops)) (ho : lit[i]? = some o) (hw : Region.wanted o (yielded lit a.tmps) = true)
    (h : ∀ K' : Act → World → Prop, Shut (∀ a w, F w → (F w → wpT P md ops Q F t n (l.setIfInBounds i true) a w) → K' a w) → Oper.wp P o a w K' Q)
    (hs : ReadyT P md ops Q F t n l a w rs) : ReadyT P md ops Q F t n l a w (i :: rs) :=
  ReadyT.cons (opsAt he ho) (fun K' hK => by rw [if_pos (wanted_at he hw)]; exact h K' hK) hs
/-- An operation that is not wanted. -/
theorem ReadyT.passB {lit : Array Oper} {n : Nat} {l : Array Bool} {a : Act} {w : World} {i : Nat} {o : Oper} {rs : List Nat} (he : Hid (lit = ops)) (ho : lit[i]? = some o) (hw : Region.wanted o (yielded lit a.tmps) = false) (hF : F w)
    (h : wpT P md ops Q F t n (l.setIfInBounds i true) (a.put o.dst undef) w)
    (hs : ReadyT P md ops Q F t n l a w rs) : ReadyT P md ops Q F t n l a w (i :: rs) :=
  ReadyT.cons (opsAt he ho) (fun K' hK => by rw [if_neg (by rw [wanted_at he hw]; simp)]; exact hK.out _ _ hF fun _ => h) hs
theorem ReadyT.lastB {lit : Array Oper} {n : Nat} {l : Array Bool} {a : Act} {w : World} {i : Nat} {o : Oper} {rs : List Nat} (he : Hid (lit = ops)) (ho : lit[i]? = some o) (hw : Region.wanted o (yielded lit a.tmps) = true) (ht : (l.setIfInBounds i true).getD t false = true)
    (h : ∀ K' : Act → World → Prop, Shut (∀ a w, wpT P md ops Q F t n (l.setIfInBounds i true) a w → K' a w) → Oper.wp P o a w K' Q)
    (hs : ReadyT P md ops Q F t n l a w rs) : ReadyT P md ops Q F t n l a w (i :: rs) :=
  ReadyT.last (opsAt he ho) ht (fun K' hK => by rw [if_pos (wanted_at he hw)]; exact h K' hK) hs
end
end Go.Proofs.YtdpbdcaefdcooaaGreatDoor
