/-
  A drawn region within a round of a range over a function: what is shown of it plainly (wpU) holds there too. No conditions: plain lemmas.
-/
import Derived.Test.YtdpbdcaefdcooaaGreatDoorRegV
import Derived.RangeFuncCalls
import Derived.OrdersIn
import Derived.TacticsIn
namespace Go.Proofs.YtdpbdcaefdcooaaGreatDoor
open Go.RowKit
set_option linter.unusedVariables false

theorem oper_wide {P : Program} {o : Oper} {a : Act} {w : World} {K : Act → World → Prop} {Q : Exit → Act → World → Prop} (l m : Nat) (hd : ∀ c, o.op ≠ .defer c) (h : o.wp P a w K Q) : o.wpIn (Fence.wide.inRound l) m P a w K Q := by
  refine ⟨fun f _ => trivial, ?_⟩
  rw [Fence.inRound_round, Oper.semAt_some l _ _ hd]
  unfold Oper.wp at h
  generalize (execOp a.eval o).run P w = r at h ⊢
  have hdep : ∀ k : Nat, ((Fence.wide.inRound l).depth.isSome = true → 1 ≤ k) := fun k h => by simp [Fence.wide] at h
  cases r with
  | ok n w' =>
    cases n <;> simp only [Oper.upon] at h
    case value v => exact h
    case skip => exact h
    case defer d => exact h
    case enter f args => exact ⟨hdep _, CallsIn.inRound l (callsIn_wide.2 h)⟩
    case row row args => exact ⟨hdep _, fun c cs _ => let ⟨v, w', r, s⟩ := h c cs; ⟨v, w', r, stepsIn_wide.2 s⟩⟩
  | halt x w' =>
    cases x <;> simp only [Oper.upon] at h
    case panic v => exact h
theorem wpOp_wide {P : Program} {ops : Array Oper} {Q : Exit → Act → World → Prop} (l m : Nat) (hd : ∀ (i : Nat) (o : Oper), ops[i]? = some o → ∀ c, o.op ≠ .defer c) (hL : ¬ LetsOut Q) {i : Nat} {K : Act → World → Prop} {a : Act} {w : World} (h : wpOp P ops Q i K a w) :
    wpOpIn (Fence.wide.inRound l) m P ops Q i K a w := by
  unfold wpOp at h
  unfold wpOpIn
  cases ho : ops[i]? with
  | none => rw [ho] at h; exact h
  | some o =>
    rw [ho] at h
    simp only at h ⊢
    split
    · rename_i hw
      rw [if_pos hw] at h
      exact oper_wide l m (hd i o ho) (h.resolve_right fun x => hL x.2)
    · rename_i hw
      rw [if_neg hw] at h
      exact ⟨fun f _ => trivial, h⟩
theorem wpAny_wide {P : Program} {md : Region.Mode} {ops : Array Oper} {Q : Exit → Act → World → Prop} (l m : Nat) (hd : ∀ (i : Nat) (o : Oper), ops[i]? = some o → ∀ c, o.op ≠ .defer c) (hL : ¬ LetsOut Q) :
    ∀ (n : Nat) (listed : Array Bool) (a : Act) (w : World), wpAny P md ops Q n listed a w → wpAnyIn (Fence.wide.inRound l) m P md ops Q n listed a w
  | 0, _, _, _, h => h
  | n + 1, listed, a, w, h => ⟨h.1, fun i hi => wpOp_wide l m hd hL (wpOp_mono (fun a' w' x => wpAny_wide l m hd hL n _ a' w' x) (h.2 i hi))⟩
/-- No operation of a region defers a call. -/
def noDefer (ops : Array Oper) : Bool := ops.all fun o => match o.op with | .defer _ => false | _ => true
theorem noDefer_spec {ops : Array Oper} (h : noDefer ops = true) : ∀ (i : Nat) (o : Oper), ops[i]? = some o → ∀ c, o.op ≠ .defer c := by
  intro i o ho c hc
  unfold noDefer at h
  rw [Array.all_eq_true] at h
  obtain ⟨hi, he⟩ := Array.getElem?_eq_some_iff.1 ho
  have := h i hi
  rw [he, hc] at this
  cases this
/-- The beginning, within a round. -/
theorem wpIn_region_V {P : Program} {Q : Exit → Act → World → Prop} {F : World → Prop} {id : Nat} {lit : Array Oper} {a : Act} {w : World} {l m : Nat} (B : Array Oper) (t N : Nat) (hm : P.follows .mixedOrders = true) (he : lit = B) (hN : B.size = N) (hd : noDefer B = true) (hL : ¬ LetsOut Q) (hcl : ∀ w w', F w → Nw w w' → F w') (hF : F w.drew)
    (h : Hid (lit = B) → Hid (∀ w w', F w → Nw w w' → F w') → F w.drew → wpU P .any B Q F t N (Array.replicate N false) a w.drew) : (Code.region id lit true).wpIn (Fence.wide.inRound l) m P Q a w := by
  subst he hN
  exact wpIn_region_any hm (wpAny_wide l m (noDefer_spec hd) hL _ _ _ _ (wpU_any _ _ _ _ _ (h (Lib.hid rfl) (Lib.hid hcl) hF) (Le.self fun _ => hF)))
theorem wpIn_named {P : Program} {F : Fence} {n : Nat} {c : Code} {Q : Exit → Act → World → Prop} {a : Act} {w : World} (h : ∀ W, W = w → Code.wpIn F n P c Q a W) : Code.wpIn F n P c Q a w := h _ rfl

/-! ### Takes ahead of an operation that waits for them by way of others -/
section
variable {P : Program} {ops : Array Oper} {Q : Exit → Act → World → Prop} {md : Region.Mode} {F : World → Prop} {t : Nat}
/-- What is listed has all that it waits for listed. -/
def Closed (md : Region.Mode) (ops : Array Oper) (l : Array Bool) : Prop := ∀ j o, ops[j]? = some o → l.getD j false = true → ∀ e ∈ o.after, Region.binds md e = true → l.getD e.on false = true
def closedB (md : Region.Mode) (ops : Array Oper) (l : Array Bool) : Bool := (List.range ops.size).all fun j => !l.getD j false || ((ops[j]?).map fun o => o.after.all fun e => !Region.binds md e || l.getD e.on false).getD true
theorem closedB_spec {l : Array Bool} (h : closedB md ops l = true) : Closed md ops l := by
  intro j o ho hl e he hb
  unfold closedB at h
  have hj := (Array.getElem?_eq_some_iff.1 ho).1
  have h1 := List.all_eq_true.1 h j (List.mem_range.2 hj)
  rw [hl, ho] at h1
  simp only [Bool.not_true, Bool.false_or, Option.map_some, Option.getD_some, Array.all_eq_true] at h1
  obtain ⟨n, hn, rfl⟩ := Array.getElem_of_mem he
  have h2 := h1 n hn
  rw [hb] at h2
  simpa using h2
theorem closed_set {l : Array Bool} {j : Nat} (h : Closed md ops l) (hj : j ∈ Region.ready md ops l) : Closed md ops (l.setIfInBounds j true) := by
  obtain ⟨-, oj, hoj, hall⟩ := mem_ready.1 hj
  have keep : ∀ k, l.getD k false = true → (l.setIfInBounds j true).getD k false = true := by
    intro k hk
    by_cases e : j = k
    · subst e
      rcases Nat.lt_or_ge j l.size with h' | h'
      · simp [h']
      · simp [Array.getElem?_eq_none h'] at hk
    · rw [getD_set_ne false e]; exact hk
  intro k o ho hk e he hb
  refine keep _ ?_
  by_cases ek : j = k
  · subst ek
    rw [hoj] at ho
    cases ho
    exact hall e he hb
  · rw [getD_set_ne false ek] at hk
    exact h k o ho hk e he hb
/-- Number t waits for number i, itself or by way of others. -/
def ancB (md : Region.Mode) (ops : Array Oper) : Nat → Nat → Nat → Bool
  | 0, _, _ => false
  | f + 1, t, i => ((ops[t]?).map fun o => o.after.any fun e => Region.binds md e && (e.on == i || ancB md ops f e.on i)).getD false
theorem anc_listed {l : Array Bool} (hc : Closed md ops l) : ∀ (f t i : Nat), ancB md ops f t i = true → (∀ o, ops[t]? = some o → ∀ e ∈ o.after, Region.binds md e = true → l.getD e.on false = true) → l.getD i false = true
  | 0, _, _, h, _ => by cases h
  | f + 1, t, i, h, hp => by
    unfold ancB at h
    cases ho : ops[t]? with
    | none => rw [ho] at h; cases h
    | some o =>
      rw [ho] at h
      simp only [Option.map_some, Option.getD_some, Array.any_eq_true] at h
      obtain ⟨x, hx, hb⟩ := h
      simp only [Bool.and_eq_true, Bool.or_eq_true, beq_iff_eq] at hb
      have h1 := hp o ho _ (Array.getElem_mem hx) hb.1
      rcases hb.2 with e | e
      · rw [← e]; exact h1
      · exact anc_listed hc f _ i e fun o' ho' e' he' hb' => hc _ o' ho' h1 e' he' hb'
theorem not_tA {l : Array Bool} {f i j : Nat} (hw : ancB md ops f t i = true) (hc : Closed md ops l) (hi : i ∈ Region.ready md ops l) (hj : j ∈ Region.ready md ops l) : j ≠ t := by
  rintro rfl
  obtain ⟨-, oj, hoj, hall⟩ := mem_ready.1 hj
  have h1 := anc_listed hc f j i hw fun o ho e he hb => by
    rw [hoj] at ho
    cases ho
    exact hall e he hb
  have h0 := (mem_ready.1 hi).1
  rcases Nat.lt_or_ge i l.size with h' | h'
  · simp [h'] at h0 h1; rw [h0] at h1; cases h1
  · simp [Array.getElem?_eq_none h'] at h1

theorem wpU_firstA {i : Nat} {oi : Oper} {v : Value} (hi : ops[i]? = some oi) (hsel : ∀ (j : Nat) (o : Oper) cs b, ops[j]? = some o → o.op ≠ .select cs b)
    (hQ : ∀ c a w, Q (.panic c) (a.put oi.dst v) w → Q (.panic c) a w) (f : Nat) (hw : ancB md ops f t i = true) (hcl : ∀ w w', F w → Nw w w' → F w') :
    ∀ (n : Nat) (l : Array Bool) (a : Act) (w0 : World),
      (∀ j oj, ops[j]? = some oj → j ≠ i → l.getD j true = false → (∀ e ∈ oj.after, Region.binds md e = true → e.on ≠ i) → oi.apart ops oj = true) →
      Closed md ops l → i ∈ Region.ready md ops l → Goes P ops F w0 oi v a → l.getD t false = false →
      wpU P md ops Q F t n (l.setIfInBounds i true) (a.put oi.dst v) w0 → wpU P md ops Q F t (n + 1) l a w0 := by
  have hit : ∀ {l : Array Bool}, Closed md ops l → i ∈ Region.ready md ops l → i ≠ t := fun hc h => not_tA hw hc h h
  intro n
  induction n with
  | zero =>
    intro l a w0 _ hcl0 hr hy hl H w hle
    obtain ⟨hn, hF⟩ := hle.1 hl
    have hl2 : (l.setIfInBounds i true).getD t false = false := by rw [getD_set_ne false (hit hcl0 hr)]; exact hl
    refine ⟨fun h => (by rw [h] at hr; cases hr), fun j hj => ?_⟩
    by_cases e : j = i
    · subst e
      refine hy.wpOp hi hn hF fun w' n' => ⟨fun _ => ⟨n', hcl _ _ hF n'⟩, ?_⟩
      exact wpU_mono H ⟨fun _ => ⟨hn.trans n', hcl _ _ hF n'⟩, fun e => by rw [hl2] at e; cases e⟩
    · have := ready_mono hj e
      rw [(H w ⟨fun _ => ⟨hn, hF⟩, fun e => by rw [hl2] at e; cases e⟩).1] at this
      cases this
  | succ n ih =>
    intro l a w0 hfree hcl0 hr hy hl H w hle
    obtain ⟨hn, hF⟩ := hle.1 hl
    have hl2 : (l.setIfInBounds i true).getD t false = false := by rw [getD_set_ne false (hit hcl0 hr)]; exact hl
    refine ⟨fun h => (by rw [h] at hr; cases hr), fun j hj => ?_⟩
    by_cases e : j = i
    · subst e
      refine hy.wpOp hi hn hF fun w' n' => ⟨fun _ => ⟨n', hcl _ _ hF n'⟩, ?_⟩
      exact wpU_mono H ⟨fun _ => ⟨hn.trans n', hcl _ _ hF n'⟩, fun e => by rw [hl2] at e; cases e⟩
    · have h1 := (H w ⟨fun _ => ⟨hn, hF⟩, fun e => by rw [hl2] at e; cases e⟩).2 j (ready_mono hj e)
      have hjt := not_tA hw hcl0 hr hj
      obtain ⟨hjun, oj, hoj, hall⟩ := mem_ready.1 hj
      have hnot : ∀ x ∈ oj.after, Region.binds md x = true → x.on ≠ i := fun x hx hb heq => by
        have g1 := hall x hx hb
        have g0 := (mem_ready.1 hr).1
        rw [heq] at g1
        rcases Nat.lt_or_ge i l.size with h' | h'
        · simp [h'] at g0 g1; rw [g0] at g1; cases g1
        · simp [Array.getElem?_eq_none h'] at g1
      have h2 := wpOp_putGo hoj (hfree j oj hoj e hjun hnot) (fun cs b => hsel i oi cs b hi) (fun cs b => hsel j oj cs b hoj) hQ hy h1
      have hl' : (l.setIfInBounds j true).getD t false = false := by rw [getD_set_ne false hjt]; exact hl
      have hl3 : ((l.setIfInBounds i true).setIfInBounds j true).getD t false = false := by rw [getD_set_ne false hjt, getD_set_ne false (hit hcl0 hr)]; exact hl
      refine wpOp_mono (fun a' w' h3 => ⟨fun _ => h3.2.1 hl3, ih (l.setIfInBounds j true) a' w' ?_ (closed_set hcl0 hj) (ready_mono hr (Ne.symm e)) (h3.1.later (hn.trans (h3.2.1 hl3).1)) hl' ?_⟩) h2
      · intro k ok hk hki hun hno
        refine hfree k ok hk hki ?_ hno
        by_cases hjk : j = k
        · subst hjk; exact hjun
        · rw [getD_set_ne true hjk] at hun; exact hun
      · rw [Array.setIfInBounds_comm _ _ e]
        exact h3.2.2

/-- Take number i first, by itself or by a call. -/
theorem wpU_takeA {lit : Array Oper} {i : Nat} {oi : Oper} {v : Value} {n : Nat} {l : Array Bool} {a : Act} {w0 : World} (he : Hid (lit = ops)) (hi : lit[i]? = some oi)
    (hc : (Region.noSelect ops && Region.free md ops l i && (Region.ready md ops l).contains i && ((ancB md ops ops.size t i && closedB md ops l) && !l.getD t false)) = true)
    (hQ : ∀ c a w, Q (.panic c) (a.put oi.dst v) w → Q (.panic c) a w) (hcl : Hid (∀ w w', F w → Nw w w' → F w')) (hy : Goes P lit F w0 oi v a)
    (h : wpU P md ops Q F t n (l.setIfInBounds i true) (a.put oi.dst v) w0) : wpU P md ops Q F t (n + 1) l a w0 := by
  have he' := he.out
  subst he'
  simp only [Bool.and_eq_true, Bool.not_eq_true'] at hc
  obtain ⟨⟨⟨h1, h2⟩, h3⟩, ⟨h4, h6⟩, h5⟩ := hc
  exact wpU_firstA hi (Region.noSelect_spec h1) hQ _ h4 hcl.out n l a w0 (Region.free_spec hi h2) (closedB_spec h6) (by simpa using h3) hy h5 h

end

/-! ### A plain region within a round -/
theorem wpList_wide {P : Program} {ops : Array Oper} {Q : Exit → Act → World → Prop} (l m : Nat) (hL : ¬ LetsOut Q) : ∀ (rest : List Oper) (a : Act) (w : World), (∀ o ∈ rest, ∀ c, o.op ≠ .defer c) → wpList P ops Q rest a w → wpListIn (Fence.wide.inRound l) m P ops Q rest a w
  | [], _, _, _, h => h
  | o :: rest, a, w, hd, h => by
    unfold wpList at h
    unfold wpListIn
    split
    · rename_i hw
      rw [if_pos hw] at h
      have h' : o.wp P a w (wpList P ops Q rest) Q := by first | exact h | exact h.resolve_right fun x => hL x.2
      exact oper_wide l m (hd o (by simp)) (Oper.wp_mono (fun a' w' x => wpList_wide l m hL rest a' w' (fun o' ho' => hd o' (by simp [ho'])) x) h')
    · rename_i hw
      rw [if_neg hw] at h
      exact ⟨fun f _ => trivial, wpList_wide l m hL rest _ w (fun o' ho' => hd o' (by simp [ho'])) h⟩
theorem wpIn_region_round {P : Program} {Q : Exit → Act → World → Prop} {id : Nat} {L : List Oper} {a : Act} {w : World} {l m : Nat} (hd : noDefer L.toArray = true) (hL : ¬ LetsOut Q) (h : wpList P L.toArray Q L a w) : (Code.region id L.toArray false).wpIn (Fence.wide.inRound l) m P Q a w :=
  wpIn_region_lit (wpList_wide l m hL L a w (fun o ho c => by
    obtain ⟨i, hi⟩ := List.getElem?_of_mem ho
    exact noDefer_spec hd i o (by simpa using hi) c) h)
end Go.Proofs.YtdpbdcaefdcooaaGreatDoor
