/-
  A region in whatever order, where calls by contract whose answer is known are taken first as well: laws for a walk by hand, linear in the number of operations. No conditions: plain lemmas.
-/
import Derived.Test.YtdpbdcaefdcooaaGreatDoorRegT
import Derived.Laws.Concat
namespace Go.Proofs.YtdpbdcaefdcooaaGreatDoor
open Go.RowKit
set_option linter.unusedVariables false

theorem Calls_nm {P : Program} {f : FuncId} {args : Array Value} {w : World} {R : Ending → World → Prop} (h : ∀ W, W = w → Calls P f args W R) : Calls P f args w R := h _ rfl

section
variable {P : Program} {ops : Array Oper} {Q : Exit → Act → World → Prop} {md : Region.Mode} {F : World → Prop} {t : Nat}

/-- The worlds that count at a state: ahead of number t all that keep the old blocks (and F); behind it the one at hand. -/
def Le (F : World → Prop) (t : Nat) (l : Array Bool) (w0 w : World) : Prop := (l.getD t false = false → Nw w0 w ∧ F w) ∧ (l.getD t false = true → w = w0)

def wpU (P : Program) (md : Region.Mode) (ops : Array Oper) (Q : Exit → Act → World → Prop) (F : World → Prop) (t : Nat) : Nat → Array Bool → Act → World → Prop
  | 0, l, a, w0 => ∀ w, Le F t l w0 w → Region.ready md ops l = [] ∧ Q .normal a w
  | n + 1, l, a, w0 => ∀ w, Le F t l w0 w → (Region.ready md ops l = [] → Q .normal a w) ∧
    ∀ i ∈ Region.ready md ops l, wpOp P ops Q i (fun a' w' => ((l.setIfInBounds i true).getD t false = false → Nw w w' ∧ F w') ∧ wpU P md ops Q F t n (l.setIfInBounds i true) a' w') a w

theorem Le.self {l : Array Bool} {w : World} (h : l.getD t false = false → F w) : Le F t l w w := ⟨fun e => ⟨Ch.refl _ _, h e⟩, fun _ => rfl⟩
theorem Le.trans {l : Array Bool} {a b c : World} (h : Le F t l a b) (k : Le F t l b c) : Le F t l a c :=
  ⟨fun e => ⟨(h.1 e).1.trans (k.1 e).1, (k.1 e).2⟩, fun e => (k.2 e).trans (h.2 e)⟩

theorem wpU_any : ∀ (n : Nat) (l : Array Bool) (a : Act) (w0 w : World), wpU P md ops Q F t n l a w0 → Le F t l w0 w → wpAny P md ops Q n l a w
  | 0, _, _, _, w, h, hl => h w hl
  | n + 1, l, _, _, w, h, hl => ⟨(h w hl).1, fun i hi => wpOp_mono (fun a' w' x => wpU_any n _ a' w' w' x.2 (Le.self fun e => (x.1 e).2)) ((h w hl).2 i hi)⟩

theorem wpU_mono {n : Nat} {l : Array Bool} {a : Act} {w0 w1 : World} (h : wpU P md ops Q F t n l a w0) (hl : Le F t l w0 w1) : wpU P md ops Q F t n l a w1 := by
  cases n with
  | zero => exact fun w hw => h w (hl.trans hw)
  | succ n => exact fun w hw => h w (hl.trans hw)

theorem wpU_named {n : Nat} {l : Array Bool} {a : Act} {w : World} (h : ∀ W, W = w → wpU P md ops Q F t n l a W) : wpU P md ops Q F t n l a w := h _ rfl

/-- In state a, in every later world: the operation leaves v in its temporary, by itself or by a call that keeps the old blocks. -/
def Goes (P : Program) (ops : Array Oper) (F : World → Prop) (w0 : World) (o : Oper) (v : Value) (a : Act) : Prop :=
  (Region.wanted o (yielded ops a.tmps) = true ∧ ∀ w, Nw w0 w → F w → ((execOp a.eval o).run P w = .ok (.value v) w ∨ ∃ f args, (execOp a.eval o).run P w = .ok (.enter f args) w ∧ ∀ R : Ending → World → Prop, (∀ w', Nw w w' → R (.returned v) w') → Calls P f args w R)) ∨
  (Region.wanted o (yielded ops a.tmps) = false ∧ v = undef)

theorem Goes.of_same {o : Oper} {v : Value} {a a' : Act} {w0 : World} (hy : Goes P ops F w0 o v a) (he : execOp a'.eval o = execOp a.eval o)
    (hw : Region.wanted o (yielded ops a'.tmps) = Region.wanted o (yielded ops a.tmps)) : Goes P ops F w0 o v a' := by
  unfold Goes at *
  rw [he, hw]
  exact hy
theorem Goes.later {o : Oper} {v : Value} {a : Act} {w0 w1 : World} (hy : Goes P ops F w0 o v a) (n : Nw w0 w1) : Goes P ops F w1 o v a :=
  hy.imp (fun ⟨h1, h2⟩ => ⟨h1, fun w hw => h2 w (n.trans hw)⟩) id

theorem Goes.wpOp {i : Nat} {o : Oper} {v : Value} {a : Act} {w0 w : World} (hi : ops[i]? = some o) (hy : Goes P ops F w0 o v a)
    {K : Act → World → Prop} (hn : Nw w0 w) (hF : F w) (h : ∀ w', Nw w w' → K (a.put o.dst v) w') : wpOp P ops Q i K a w := by
  unfold Go.wpOp
  simp only [hi]
  rcases hy with ⟨hw, hv⟩ | ⟨hw, rfl⟩
  · simp only [hw, if_true]
    refine .inl ?_
    unfold Oper.wp
    rcases hv w hn hF with e | ⟨f, args, e, hc⟩
    · rw [e]; exact h w (Ch.refl _ _)
    · rw [e]
      exact hc _ fun w' n => h w' n
  · simp only [hw, Bool.false_eq_true, if_false]; exact h w (Ch.refl _ _)

theorem wpOp_putGo {j : Nat} {oi oj : Oper} {v : Value} {w0 : World} (hj : ops[j]? = some oj) (hap : oi.apart ops oj = true)
    (hsi : ∀ cs b, oi.op ≠ .select cs b) (hsj : ∀ cs b, oj.op ≠ .select cs b)
    (hQ : ∀ c a w, Q (.panic c) (a.put oi.dst v) w → Q (.panic c) a w) {K : Act → World → Prop} {a : Act} {w : World}
    (hy : Goes P ops F w0 oi v a) (h : wpOp P ops Q j K (a.put oi.dst v) w) :
    wpOp P ops Q j (fun a' w' => Goes P ops F w0 oi v a' ∧ K (a'.put oi.dst v) w') a w := by
  obtain ⟨h1, h2, h3⟩ := Oper.apart_spec hap
  have keep : ∀ (a : Act), Goes P ops F w0 oi v a → ∀ u, Goes P ops F w0 oi v (a.put oj.dst u) := fun a hy u =>
    hy.of_same (execOp_put oi hsi a oj.dst u h3) (wanted_put oi a oj.dst u h3)
  have keepD : ∀ d, Goes P ops F w0 oi v { a with defers := d :: a.defers } := fun d => hy.of_same rfl rfl
  unfold wpOp at *
  simp only [hj] at *
  rw [wanted_put oj a oi.dst v h1] at h
  split
  · rename_i hw
    simp only [hw, if_true] at h
    rcases h with h | ⟨hasks, hlets⟩
    case inr => exact .inr ⟨by unfold Oper.asks at *; rw [execOp_put oj hsj a oi.dst v h1] at hasks; exact hasks, hlets⟩
    refine .inl ?_
    unfold Oper.wp at *
    rw [execOp_put oj hsj a oi.dst v h1] at h
    generalize (execOp a.eval oj).run P w = r at *
    cases r with
    | ok n w' =>
      cases n <;> simp only [Oper.upon] at h ⊢
      case value u => exact ⟨keep a hy u, by rw [← Act.put_comm a v u h2]; exact h⟩
      case skip => exact ⟨keep a hy _, by rw [← Act.put_comm a v undef h2]; exact h⟩
      case defer d =>
        refine ⟨keep _ (keepD d) _, ?_⟩
        rw [← Act.put_comm _ v undef h2, ← Act.put_defers]
        exact h
      case enter f args =>
        refine Calls.mono h fun e w'' he => ?_
        cases e with
        | returned u => exact ⟨keep a hy u, by rw [← Act.put_comm a v u h2]; exact he⟩
        | panicked c => exact hQ _ _ _ he
        | outgrown => exact he
      case row row args => exact Rows.mono h fun u w'' he => ⟨keep a hy u, by rw [← Act.put_comm a v u h2]; exact he⟩
    | halt x w' =>
      cases x <;> simp only [Oper.upon] at h ⊢
      case panic u => exact hQ _ _ _ h
  · rename_i hw
    simp only [hw] at h
    exact ⟨keep a hy _, by rw [← Act.put_comm a v undef h2]; exact h⟩

theorem wpU_first {i : Nat} {oi : Oper} {v : Value} (hi : ops[i]? = some oi) (hsel : ∀ (j : Nat) (o : Oper) cs b, ops[j]? = some o → o.op ≠ .select cs b)
    (hQ : ∀ c a w, Q (.panic c) (a.put oi.dst v) w → Q (.panic c) a w) (hw : waitsFor md ops t i = true) (hcl : ∀ w w', F w → Nw w w' → F w') :
    ∀ (n : Nat) (l : Array Bool) (a : Act) (w0 : World),
      (∀ j oj, ops[j]? = some oj → j ≠ i → l.getD j true = false → (∀ e ∈ oj.after, Region.binds md e = true → e.on ≠ i) → oi.apart ops oj = true) →
      i ∈ Region.ready md ops l → Goes P ops F w0 oi v a → l.getD t false = false →
      wpU P md ops Q F t n (l.setIfInBounds i true) (a.put oi.dst v) w0 → wpU P md ops Q F t (n + 1) l a w0 := by
  have hit : ∀ {l : Array Bool}, i ∈ Region.ready md ops l → i ≠ t := fun h => not_t hw h h
  intro n
  induction n with
  | zero =>
    intro l a w0 _ hr hy hl H w hle
    obtain ⟨hn, hF⟩ := hle.1 hl
    have hl2 : (l.setIfInBounds i true).getD t false = false := by rw [getD_set_ne false (hit hr)]; exact hl
    refine ⟨fun h => (by rw [h] at hr; cases hr), fun j hj => ?_⟩
    by_cases e : j = i
    · subst e
      refine hy.wpOp hi hn hF fun w' n' => ⟨fun _ => ⟨n', hcl _ _ hF n'⟩, ?_⟩
      exact wpU_mono H ⟨fun _ => ⟨hn.trans n', hcl _ _ hF n'⟩, fun e => by rw [hl2] at e; cases e⟩
    · have := ready_mono hj e
      rw [(H w ⟨fun _ => ⟨hn, hF⟩, fun e => by rw [hl2] at e; cases e⟩).1] at this
      cases this
  | succ n ih =>
    intro l a w0 hfree hr hy hl H w hle
    obtain ⟨hn, hF⟩ := hle.1 hl
    have hl2 : (l.setIfInBounds i true).getD t false = false := by rw [getD_set_ne false (hit hr)]; exact hl
    refine ⟨fun h => (by rw [h] at hr; cases hr), fun j hj => ?_⟩
    by_cases e : j = i
    · subst e
      refine hy.wpOp hi hn hF fun w' n' => ⟨fun _ => ⟨n', hcl _ _ hF n'⟩, ?_⟩
      exact wpU_mono H ⟨fun _ => ⟨hn.trans n', hcl _ _ hF n'⟩, fun e => by rw [hl2] at e; cases e⟩
    · have h1 := (H w ⟨fun _ => ⟨hn, hF⟩, fun e => by rw [hl2] at e; cases e⟩).2 j (ready_mono hj e)
      have hjt := not_t hw hr hj
      obtain ⟨hjun, oj, hoj, hall⟩ := mem_ready.1 hj
      have hnot : ∀ x ∈ oj.after, Region.binds md x = true → x.on ≠ i := fun x hx hb heq => by
        have g1 := hall x hx hb
        have g0 := (mem_ready.1 hr).1
        rw [heq] at g1
        rcases Nat.lt_or_ge i l.size with h' | h'
        · simp [h'] at g0 g1; rw [g0] at g1; cases g1
        · simp [Array.getElem?_eq_none h'] at g1
      have h2 := wpOp_putGo hoj (hfree j oj hoj e hjun hnot) (fun cs b => hsel i oi cs b hi) (fun cs b => hsel j oj cs b hoj) hQ hy h1
      have hl' : (l.setIfInBounds j true).getD t false = false := by rw [getD_set_ne false hjt]; exact hl
      have hl3 : ((l.setIfInBounds i true).setIfInBounds j true).getD t false = false := by rw [getD_set_ne false hjt, getD_set_ne false (hit hr)]; exact hl
      refine wpOp_mono (fun a' w' h3 => ⟨fun _ => h3.2.1 hl3, ih (l.setIfInBounds j true) a' w' ?_ (ready_mono hr (Ne.symm e)) (h3.1.later (hn.trans (h3.2.1 hl3).1)) hl' ?_⟩) h2
      · intro k ok hk hki hun hno
        refine hfree k ok hk hki ?_ hno
        by_cases hjk : j = k
        · subst hjk; exact hjun
        · rw [getD_set_ne true hjk] at hun; exact hun
      · rw [Array.setIfInBounds_comm _ _ e]
        exact h3.2.2

theorem wpU_done {l : Array Bool} {a : Act} {w0 : World} (hr : Region.ready md ops l = []) (h : ∀ w, Le F t l w0 w → Q .normal a w) : ∀ n, wpU P md ops Q F t n l a w0
  | 0 => fun w hw => ⟨hr, h w hw⟩
  | _ + 1 => fun w hw => ⟨fun _ => h w hw, by rw [hr]; simp⟩

/-- Take number i first, by itself or by a call. -/
theorem wpU_takeB {lit : Array Oper} {i : Nat} {oi : Oper} {v : Value} {n : Nat} {l : Array Bool} {a : Act} {w0 : World} (he : Hid (lit = ops)) (hi : lit[i]? = some oi)
    (hc : (Region.noSelect ops && Region.free md ops l i && (Region.ready md ops l).contains i && (waitsFor md ops t i && !l.getD t false)) = true)
    (hQ : ∀ c a w, Q (.panic c) (a.put oi.dst v) w → Q (.panic c) a w) (hcl : Hid (∀ w w', F w → Nw w w' → F w')) (hy : Goes P lit F w0 oi v a)
    (h : wpU P md ops Q F t n (l.setIfInBounds i true) (a.put oi.dst v) w0) : wpU P md ops Q F t (n + 1) l a w0 := by
  have he' := he.out
  subst he'
  simp only [Bool.and_eq_true, Bool.not_eq_true'] at hc
  obtain ⟨⟨⟨h1, h2⟩, h3⟩, h4, h5⟩ := hc
  exact wpU_first hi (Region.noSelect_spec h1) hQ h4 hcl.out n l a w0 (Region.free_spec hi h2) (by simpa using h3) hy h5 h

theorem goes_read {o : Oper} {v : Value} {a : Act} {w0 : World} (hw : Region.wanted o (yielded ops a.tmps) = true) (h : ∀ w, F w → (execOp a.eval o).run P w = .ok (.value v) w) : Goes P ops F w0 o v a :=
  Or.inl ⟨hw, fun w _ hF => Or.inl (h w hF)⟩
theorem goes_not {o : Oper} {a : Act} {w0 : World} (hw : Region.wanted o (yielded ops a.tmps) = false) : Goes P ops F w0 o undef a := Or.inr ⟨hw, rfl⟩
/-- A call by contract, its answer known. -/
theorem goes_call {o : Oper} {v : Value} {a : Act} {w0 : World} (f : FuncId) (args : Array Value) (hw : Region.wanted o (yielded ops a.tmps) = true) (he : ∀ w, (execOp a.eval o).run P w = .ok (.enter f args) w)
    (h : ∀ w, Nw w0 w → ∀ R : Ending → World → Prop, (∀ w', Nw w w' → R (.returned v) w') → Calls P f args w R) : Goes P ops F w0 o v a :=
  Or.inl ⟨hw, fun w n _ => Or.inr ⟨f, args, he w, h w n⟩⟩

/-- A function of the program's own. -/
def entersB (P : Program) (f : FuncId) : Bool := match P.funcs[f]? with
  | some fn => !(fn.name == "runtime.NumGoroutine") && fn.body.isSome
  | none => false
theorem enters_b {f : FuncId} (h : entersB P f = true) (args : Array Value) (w : World) : (callFunc f args).run P w = .ok (.enter f args) w := by
  unfold entersB at h
  cases hf : P.funcs[f]? with
  | none => rw [hf] at h; cases h
  | some fn =>
    rw [hf] at h
    simp only [Bool.and_eq_true, Bool.not_eq_true'] at h
    obtain ⟨h1, h2⟩ := h
    obtain ⟨c, hb⟩ := Option.isSome_iff_exists.1 h2
    have h1' : fn.name ≠ "runtime.NumGoroutine" := by simpa using h1
    simp [callFunc, hf, h1', hb]

/-- A call of a Go function by contract, its answer known: the function's number, the arguments' values. -/
theorem goes_fn {o : Oper} {v : Value} {a : Act} {w0 : World} (f : FuncId) (x : Operand) (xs : Array Operand) (ts : Array TypeId) (args : Array Value) (hw : Region.wanted o (yielded ops a.tmps) = true)
    (ho : o.op = .call { callee := .value x, args := xs, argTypes := ts }) (hx : a.eval x = .func (.func f) #[] #[]) (ha : xs.map a.eval = args) (eg : entersB P f = true)
    (h : ∀ w, Nw w0 w → ∀ R : Ending → World → Prop, (∀ w', Nw w w' → R (.returned v) w') → Calls P f args w R) : Goes P ops F w0 o v a :=
  goes_call f args hw (fun w => by
    subst ha
    simp [execOp, ho, resolve, Deferred.ofValue, hx, invoke, enters_b eg (xs.map a.eval) w]) h

/-- Two strings are joined. -/
theorem goes_cat {o : Oper} {a : Act} {w0 : World} (x y : Operand) (t ty : TypeId) (s1 s2 : ByteArray) (m n : Nat) (hw : Region.wanted o (yielded ops a.tmps) = true) (ho : o.op = .binOp .add t x y ty)
    (hx : a.eval x = .string s1) (hy : a.eval y = .string s2) (h1 : s1.size ≤ m) (h2 : s2.size ≤ n) (hs : m + n ≤ 9223372036854775807) : Goes P ops F w0 o (.string (s1 ++ s2)) a :=
  goes_read hw fun w _ => by
    simp [execOp, ho, hx, hy, eqGuard, binOp_string_add, run_string_add_sum w s1 s2 (by omega), Result.andThen]
theorem sz_ext {T : ByteArray} {n i j : Nat} (h : T.size ≤ n) : (T.extract i j).size ≤ n := by rw [ByteArray.size_extract]; omega
theorem sz_cat {a b : ByteArray} {m n : Nat} (ha : a.size ≤ m) (hb : b.size ≤ n) : (a ++ b).size ≤ m + n := by rw [ByteArray.size_append]; omega

def ReadyU (P : Program) (md : Region.Mode) (ops : Array Oper) (Q : Exit → Act → World → Prop) (F : World → Prop) (t n : Nat) (l : Array Bool) (a : Act) (w : World) (rs : List Nat) : Prop :=
  ∀ i ∈ rs, wpOp P ops Q i (fun a' w' => ((l.setIfInBounds i true).getD t false = false → Nw w w' ∧ F w') ∧ wpU P md ops Q F t n (l.setIfInBounds i true) a' w') a w
theorem ReadyU.nil {n : Nat} {l : Array Bool} {a : Act} {w : World} : ReadyU P md ops Q F t n l a w [] := fun _ h => by cases h
/-- An operation that is carried out ahead of number t. -/
theorem ReadyU.cons {lit : Array Oper} {n : Nat} {l : Array Bool} {a : Act} {w : World} {i : Nat} {o : Oper} {rs : List Nat} (he : Hid (lit = ops)) (ho : lit[i]? = some o) (hw : Region.wanted o (yielded lit a.tmps) = true)
    (h : ∀ K' : Act → World → Prop, Shut (∀ a' w', Nw w w' → F w' → (F w' → wpU P md ops Q F t n (l.setIfInBounds i true) a' w') → K' a' w') → Oper.wp P o a w K' Q)
    (hs : ReadyU P md ops Q F t n l a w rs) : ReadyU P md ops Q F t n l a w (i :: rs) := fun j hj => by
  rcases List.mem_cons.1 hj with rfl | hj
  · refine wpOp_step (opsAt he ho) (fun K' hK => ?_)
    rw [if_pos (wanted_at he hw)]
    exact h K' (fun a' w' n1 hF hW => hK a' w' ⟨fun _ => ⟨n1, hF⟩, hW hF⟩)
  · exact hs j hj
/-- An operation that is not wanted. -/
theorem ReadyU.pass {lit : Array Oper} {n : Nat} {l : Array Bool} {a : Act} {w : World} {i : Nat} {o : Oper} {rs : List Nat} (he : Hid (lit = ops)) (ho : lit[i]? = some o) (hw : Region.wanted o (yielded lit a.tmps) = false) (hF : F w)
    (h : wpU P md ops Q F t n (l.setIfInBounds i true) (a.put o.dst undef) w)
    (hs : ReadyU P md ops Q F t n l a w rs) : ReadyU P md ops Q F t n l a w (i :: rs) := fun j hj => by
  rcases List.mem_cons.1 hj with rfl | hj
  · refine wpOp_step (opsAt he ho) (fun K' hK => ?_)
    rw [if_neg (by rw [wanted_at he hw]; simp)]
    exact hK _ _ ⟨fun _ => ⟨Ch.refl _ _, hF⟩, h⟩
  · exact hs j hj
/-- Number t itself, or what comes behind it. -/
theorem ReadyU.last {lit : Array Oper} {n : Nat} {l : Array Bool} {a : Act} {w : World} {i : Nat} {o : Oper} {rs : List Nat} (he : Hid (lit = ops)) (ho : lit[i]? = some o) (hw : Region.wanted o (yielded lit a.tmps) = true) (ht : (l.setIfInBounds i true).getD t false = true)
    (h : ∀ K' : Act → World → Prop, Shut (∀ a w, wpU P md ops Q F t n (l.setIfInBounds i true) a w → K' a w) → Oper.wp P o a w K' Q)
    (hs : ReadyU P md ops Q F t n l a w rs) : ReadyU P md ops Q F t n l a w (i :: rs) := fun j hj => by
  rcases List.mem_cons.1 hj with rfl | hj
  · refine wpOp_step (opsAt he ho) (fun K' hK => ?_)
    rw [if_pos (wanted_at he hw)]
    exact h K' (fun a w hW => hK a w ⟨fun e => absurd e (by rw [ht]; simp), hW⟩)
  · exact hs j hj
/-- What comes up next, in whatever later world. -/
theorem wpU_ready {rs : List Nat} {n : Nat} {l : Array Bool} {a : Act} {w0 : World} (hr : Region.ready md ops l = rs) (hne : rs ≠ [])
    (h : ∀ w, Le F t l w0 w → ReadyU P md ops Q F t n l a w rs) : wpU P md ops Q F t (n + 1) l a w0 := by
  subst hr
  exact fun w hw => ⟨fun h0 => absurd h0 hne, h w hw⟩
theorem Le.ahead {l : Array Bool} {w0 w : World} (h : Le F t l w0 w) (hl : l.getD t false = false) : Nw w0 w ∧ F w := h.1 hl
theorem Le.behind {l : Array Bool} {w0 w : World} (h : Le F t l w0 w) (hl : l.getD t false = true) : w = w0 := h.2 hl

/-- The beginning. -/
theorem wp_region_V {id : Nat} {lit : Array Oper} {a : Act} {w : World} (B : Array Oper) (t N : Nat) (hm : P.follows .mixedOrders = true) (he : lit = B) (hN : B.size = N) (hcl : ∀ w w', F w → Nw w w' → F w') (hF : F w.drew)
    (h : Hid (lit = B) → Hid (∀ w w', F w → Nw w w' → F w') → F w.drew → wpU P .any B Q F t N (Array.replicate N false) a w.drew) : (Code.region id lit true).wp P Q a w := by
  subst he hN
  exact wp_region_any hm (wpU_any _ _ _ _ _ (h (Lib.hid rfl) (Lib.hid hcl) hF) (Le.self fun _ => hF))
end
end Go.Proofs.YtdpbdcaefdcooaaGreatDoor
