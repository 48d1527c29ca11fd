/-
  'run': the operations from an index up to another one: the model 'exec', and that the Go text computes it.
-/
import Derived.Test.YtlgcijafjcfnhaaDoorNext
import Derived.Deep.CutBlock
import Derived.Deep.DeepCutAuto
import Derived.Deep.LoopGhost
namespace Go.Proofs.YtlgcijafjcfnhaaDoor
open Go.RowKit
set_option linter.unusedVariables false

/-- An operation: Code, N, M. -/
abbrev Op3 := Int × Int × Int

/-- The slice p is the program l, in a block below lo. -/
def IsOps (w : World) (lo : Nat) (p : Value) (l : List Op3) : Prop :=
  ∃ A cap, p = .slice A l.length cap ∧ l.length ≤ 4611686018427387904 ∧ ∀ i c n m, l[i]? = some (c, n, m) →
    ∃ pk po, pk < lo ∧ A = some ⟨pk, po, none⟩ ∧ w.cell? ⟨pk, po + i * 3, none⟩ = some (.int .i64 c) ∧ w.cell? ⟨pk, po + i * 3 + 1, none⟩ = some (.int .i64 n) ∧ w.cell? ⟨pk, po + i * 3 + 2, none⟩ = some (.int .i64 m)

theorem IsOps.kept {w w' : World} {lo : Nat} {p : Value} {l : List Op3} {F : Nat → Prop} (h : IsOps w lo p l) (hc : Ch F w w') (hF : ∀ k, k < lo → ¬ F k) : IsOps w' lo p l := by
  obtain ⟨A, cap, e, hl, h⟩ := h
  refine ⟨A, cap, e, hl, fun i c n m hi => ?_⟩
  obtain ⟨pk, po, hk, ea, h0, h1, h2⟩ := h i c n m hi
  exact ⟨pk, po, hk, ea, hc.cell h0 (hF _ hk), hc.cell h1 (hF _ hk), hc.cell h2 (hF _ hk)⟩

theorem chk_none {c n m : Int} {room nest npts h : Nat} {s : Int} (e : chk c n m room nest npts h s = none) :
    s < 2000 ∧ formed c n m room nest ∧ pops c ≤ h ∧ h - pops c + pushes c ≤ 8 ∧ (isPt c = true → 0 ≤ n ∧ n < (npts : Int)) := by
  unfold chk at e
  split at e; · cases e
  split at e; · cases e
  split at e; · cases e
  split at e; · cases e
  split at e; · cases e
  split at e; · cases e
  split at e; · cases e
  split at e; · cases e
  split at e; · cases e
  split at e; · cases e
  rename_i h1 h2 h3 h4 h5 h6 h7 h8 h9 h10
  refine ⟨by omega, ⟨h2, ?_, ?_, ?_, ?_⟩, by omega, by omega, ?_⟩
  · by_cases hm : m = 0
    · exact .inl hm
    · exact .inr (Decidable.byContradiction fun h => h3 ⟨hm, h⟩)
  · by_cases hn : n = 0
    · exact .inl hn
    · cases a : isNum c
      · cases b : isPt c
        · cases d : isBlk c
          · exact absurd ⟨hn, a, b, d⟩ h4
          · simp
        · simp
      · simp
  · intro hc; constructor
    · exact Decidable.byContradiction fun h => h5 ⟨hc, .inl (by omega)⟩
    · exact Decidable.byContradiction fun h => h5 ⟨hc, .inr (by omega)⟩
  · intro hb; refine ⟨⟨?_, ?_⟩, ?_⟩
    · exact Decidable.byContradiction fun h => h6 ⟨hb, .inl (by omega)⟩
    · exact Decidable.byContradiction fun h => h6 ⟨hb, .inr (by omega)⟩
    · exact Decidable.byContradiction fun h => h7 ⟨hb, by omega⟩
  · intro hb; constructor
    · exact Decidable.byContradiction fun h => h10 ⟨hb, .inl (by omega)⟩
    · exact Decidable.byContradiction fun h => h10 ⟨hb, .inr (by omega)⟩

section
variable {w : World} {g : Cfg} {o : List Pt} {stk : List Int} {steps : Int} {lo : Nat} {l : List Op3}
theorem isPt_cases (c : Int) : bad c ∨ (¬ bad c ∧ isNum c = true ∧ isPt c = false ∧ isBlk c = false ∧ (c == 15) = false) ∨ (¬ bad c ∧ isNum c = false ∧ isPt c = false ∧ isBlk c = false ∧ (c == 15) = false) ∨
    (¬ bad c ∧ isNum c = false ∧ isPt c = true ∧ isBlk c = false ∧ (c == 15) = false) ∨ c = 14 ∨ c = 15 := by
  unfold bad isNum isPt isBlk
  simp only [decide_eq_true_eq, decide_eq_false_iff_not, beq_eq_false_iff_ne]
  omega

theorem next_any (lo : Nat) (hf : FlS w g o stk steps) (hp : IsOps w lo g.p l) (i e nest : Nat) {c n m : Int} (hi : l[i]? = some (c, n, m)) (hie : i < e) (he : e ≤ l.length) (hn : nest ≤ 3) (hlo : lo ≤ w.heap.size) (R : Ending → World → Prop)
    (hE : ∀ x w', chk c n m (e - i) nest o.length stk.length steps = some x → Nw w w' → R (.panicked [{ v := .iface 36 (.int .i64 x), recovered := false }]) w')
    (hK : ∀ w' v, chk c n m (e - i) nest o.length stk.length steps = none → Nw w w' → DoOk w' w.heap.size g.b c v → R (.returned (opv c v)) w') :
    Calls Tryd.prog 37 #[.pointer (some ⟨g.b, 0, none⟩), .int .i64 i, .int .i64 e, .int .i64 nest] w R := by
  obtain ⟨A, cap, ep, hl, h⟩ := hp
  obtain ⟨pk, po, hk, rfl, h0, h1, h2⟩ := h i c n m hi
  have hil : i < l.length := by omega
  have hb := hf.ms.lt
  have c0 := hf.ms.c0
  rw [ep] at c0
  rcases isPt_cases c with hc | ⟨f0, f1, f2, f3, f4⟩ | ⟨f0, f1, f2, f3, f4⟩ | ⟨f0, f1, f2, f3, f4⟩ | rfl | rfl
  · refine next_bad g.b pk po _ cap i e nest steps c n m w R hb (by omega) c0 hil hl h0 h1 h2 hf.ms.c12 hc fun w' x hx hw => hE x w' ?_ hw
    rcases hx with ⟨rfl, hs⟩ | ⟨rfl, hs⟩
    · exact chk_steps hs
    · exact chk_bad hs hc
  · exact next_num g.b pk po _ cap i e nest _ _ _ _ steps c n m w R hb (by omega) c0 hil hl h0 h1 h2 hf.ms.c1 hf.ms.c11 hf.ms.c12 hie he hn hf.ms.le f0 f1 f2 f3 f4 hE hK
  · exact next_plain g.b pk po _ cap i e nest _ _ _ _ steps c n m w R hb (by omega) c0 hil hl h0 h1 h2 hf.ms.c1 hf.ms.c11 hf.ms.c12 hie he hn hf.ms.le f0 f1 f2 f3 f4 hE hK
  · rcases Int.lt_or_le n 0 with hn0 | hn0
    · exact next_pt'lo g.b pk po _ cap i e nest _ _ _ _ steps c n m w R hb (by omega) c0 hil hl h0 h1 h2 hf.ms.c1 hf.ms.c11 hf.ms.c12 hie he hn hf.ms.le f0 f1 f2 f3 f4 hn0 hE hK
    rcases Int.lt_or_le n o.length with hn1 | hn1
    · exact next_pt'in g.b pk po _ cap i e nest _ _ _ _ steps c n m w R hb (by omega) c0 hil hl h0 h1 h2 hf.ms.c1 hf.ms.c11 hf.ms.c12 hie he hn hf.ms.le f0 f1 f2 f3 f4 hn0 hn1 hE hK
    · exact next_pt'hi g.b pk po _ cap i e nest _ _ _ _ steps c n m w R hb (by omega) c0 hil hl h0 h1 h2 hf.ms.c1 hf.ms.c11 hf.ms.c12 hie he hn hf.ms.le f0 f1 f2 f3 f4 hn0 hn1 hE hK
  · exact next_if g.b pk po _ cap i e nest _ _ _ _ steps n m w R hb (by omega) c0 hil hl h0 h1 h2 hf.ms.c1 hf.ms.c11 hf.ms.c12 hie he hn hf.ms.le hE hK
  · exact next_loop g.b pk po _ cap i e nest _ _ _ _ steps n m w R hb (by omega) c0 hil hl h0 h1 h2 hf.ms.c1 hf.ms.c11 hf.ms.c12 hie he hn hf.ms.le hE hK


/-- The state of a run: the points, the stack, the steps. -/
abbrev St := List Pt × List Int × Int

def iter (f : St → Except Int St) : Nat → St → Except Int St
  | 0, st => .ok st
  | k + 1, st => match iter f k st with
    | .error x => .error x
    | .ok st' => f st'

/-- How often a block is carried out. -/
def rounds (c n : Int) (stk : List Int) : Nat := if c = 14 then (if 0 < top stk then 1 else 0) else if c = 15 then n.toNat else 0

/-- What an operation does by itself. -/
def own (size c n : Int) (st : St) : St :=
  if c = 14 then (st.1, rest st.2.1, st.2.2 + 1) else if c = 15 then (st.1, st.2.1, st.2.2 + 1) else ((doOp size c n st.1 st.2.1).1, (doOp size c n st.1 st.2.1).2, st.2.2 + 1)

def exec (l : List Op3) (size : Int) : Nat → Nat → Nat → Nat → St → Except Int St
  | 0, _, _, _, _ => .error 99
  | fuel + 1, i, e, nest, st =>
    if i < e then
      match l.getD i default with
      | (c, n, m) => match chk c n m (e - i) nest st.1.length st.2.1.length st.2.2 with
        | some x => .error x
        | none => match iter (exec l size fuel (i + 1) (i + 1 + (blen c n m).toNat) (nest + 1)) (rounds c n st.2.1) (own size c n st) with
          | .error x => .error x
          | .ok st' => exec l size fuel (i + 1 + (blen c n m).toNat) e nest st'
    else .ok st

theorem iter_ok_lt {f : St → Except Int St} {st st' : St} {r : Nat} (h : iter f r st = .ok st') : ∀ j, j ≤ r → ∃ sj, iter f j st = .ok sj := by
  induction r generalizing st' with
  | zero =>
    intro j hj
    obtain rfl : j = 0 := by omega
    exact ⟨_, rfl⟩
  | succ r ih =>
    intro j hj
    unfold iter at h
    cases e : iter f r st with
    | error x => rw [e] at h; cases h
    | ok s =>
      by_cases hj' : j ≤ r
      · exact ih e j hj'
      · obtain rfl : j = r + 1 := by omega
        rw [e] at h
        exact ⟨st', by unfold iter; rw [e]; exact h⟩
theorem iter_error {f : St → Except Int St} {st s : St} {x : Int} {j r : Nat} (h : iter f j st = .ok s) (hf : f s = .error x) (hj : j < r) : iter f r st = .error x := by
  cases e : iter f r st with
  | ok s' =>
    obtain ⟨s1, h1⟩ := iter_ok_lt e (j + 1) (by omega)
    unfold iter at h1
    rw [h] at h1
    rw [show f s = .ok s1 from h1] at hf
    cases hf
  | error y =>
    obtain ⟨d, rfl⟩ : ∃ d, r = j + 1 + d := ⟨r - j - 1, by omega⟩
    have : iter f (j + 1 + d) st = .error x := by
      clear e hj
      induction d with
      | zero => show iter f (j + 1) st = _; unfold iter; rw [h]; exact hf
      | succ d ih => show iter f (j + 1 + d + 1) st = _; unfold iter; rw [ih]
    rw [← this, ← e]
/-- The steps grow, up to the limit. -/
theorem exec_steps (l : List Op3) (size : Int) (fuel : Nat) : ∀ i e nest st st', exec l size fuel i e nest st = .ok st' → st.2.2 ≤ 2000 → st.2.2 ≤ st'.2.2 ∧ st'.2.2 ≤ 2000 := by
  induction fuel with
  | zero => intro i e nest st st' h; cases h
  | succ fuel ih =>
    intro i e nest st st' h hs
    unfold exec at h
    split at h
    · generalize l.getD i default = op at h
      obtain ⟨c, n, m⟩ := op
      simp only at h
      split at h
      · cases h
      · rename_i hc
        have h2000 := (chk_none hc).1
        have ho : (own size c n st).2.2 = st.2.2 + 1 := by unfold own; split <;> (try split) <;> rfl
        have hit : ∀ r s2, iter (exec l size fuel (i + 1) (i + 1 + (blen c n m).toNat) (nest + 1)) r (own size c n st) = .ok s2 → st.2.2 ≤ s2.2.2 ∧ s2.2.2 ≤ 2000 := by
          intro r
          induction r with
          | zero => intro s2 h2; unfold iter at h2; injection h2 with h2; subst h2; rw [ho]; omega
          | succ r ihr =>
            intro s2 h2
            unfold iter at h2
            split at h2
            · cases h2
            · rename_i s3 h3
              have a := ihr s3 h3
              have b := ih _ _ _ _ _ h2 a.2
              omega
        split at h
        · cases h
        · rename_i s2 h2
          have a := hit _ _ h2
          have b := ih _ _ _ _ _ h a.2
          omega
    · injection h with h; subst h; omega
theorem rounds_le {c n m : Int} {room nest : Nat} {stk : List Int} (h : formed c n m room nest) : rounds c n stk ≤ 16 ∧ (0 < rounds c n stk → isBlk c = true) := by
  obtain ⟨_, _, _, h4, _⟩ := h
  unfold rounds
  split
  · rename_i h; subst h; exact ⟨by split <;> omega, fun _ => rfl⟩
  · split
    · rename_i h; subst h; have := h4 rfl; exact ⟨by omega, fun _ => rfl⟩
    · exact ⟨by omega, fun h => by omega⟩
theorem blen_ge {c n m : Int} {room nest : Nat} (h : formed c n m room nest) (hr : 0 < room) : 0 ≤ blen c n m ∧ blen c n m < room := by
  obtain ⟨_, _, _, _, h5⟩ := h
  cases hb : isBlk c
  · unfold isBlk at hb
    simp only [decide_eq_false_iff_not] at hb
    unfold blen
    rw [if_neg (by omega), if_neg (by omega)]
    omega
  · have := h5 hb; omega

set_option maxRecDepth 100000 in
set_option maxHeartbeats 2000000 in
theorem run_any (lo : Nat) (g : Cfg) (l : List Op3) (hown : ∀ k, g.own k ∨ k = g.bp → lo ≤ k) (fuel : Nat) : ∀ (i e nest : Nat) (st : St) (w : World) (R : Ending → World → Prop),
    2001 ≤ (fuel : Int) + st.2.2 → 0 ≤ st.2.2 → st.2.2 ≤ 2000 → i ≤ e → FlS w g st.1 st.2.1 st.2.2 → IsOps w lo g.p l → e ≤ l.length → nest ≤ 3 → lo ≤ w.heap.size → g.bp < w.heap.size →
    (∀ x w', exec l g.size fuel i e nest st = .error x → Ch g.own w w' → R (.panicked [{ v := .iface 36 (.int .i64 x), recovered := false }]) w') →
    (∀ w' st', exec l g.size fuel i e nest st = .ok st' → FlS w' g st'.1 st'.2.1 st'.2.2 → Ch g.own w w' → R (.returned (.tuple #[])) w') →
    Calls Tryd.prog 25 #[.pointer (some ⟨g.b, 0, none⟩), .int .i64 i, .int .i64 e, .int .i64 nest] w R := by
  induction fuel using Nat.strongRecOn with
  | _ fuel ih =>
    intro i e nest st w R hfu hs0 hs1 hie hf hp he hn hlo hbp hE hK
    have HE := Lib.hid hE
    have HK := Lib.hid hK
    have IH := Lib.hid ih
    have HF := Lib.hid hf
    have HP := Lib.hid hp
    have HO := Lib.hid hown
    clear hE hK ih hf hp hown
    go_enter Tryd.func25, Tryd.ntmps25
    go_wp2_with fail
    go_loopw [8] (fun s8 wr => ∃ (k : Nat) (st' : St) (f' : Nat), s8 = .int .i64 k ∧ k ≤ e ∧ FlS wr g st'.1 st'.2.1 st'.2.2 ∧ Ch g.own w wr ∧ f' ≤ fuel ∧ 2001 ≤ (f' : Int) + st'.2.2 ∧ 0 ≤ st'.2.2 ∧ st'.2.2 ≤ 2000 ∧ exec l g.size fuel i e nest st = exec l g.size f' k e nest st')
      (fun s8 _ => e - (intOf s8).toNat)
    case atStart => exact ⟨i, st, fuel, rfl, hie, HF.out, Ch.refl _ _, Nat.le_refl _, hfu, hs0, hs1, rfl⟩
    case round =>
      obtain ⟨k, st', f', rfl, hk, hf', hc', hff, hfu', hs0', hs1', heq⟩ := hrel
      have HF' := Lib.hid hf'
      have HC' := Lib.hid hc'
      have HEQ := Lib.hid heq
      clear hf' hc' heq
      by_cases hlt : k < e
      · obtain ⟨⟨c, n, m⟩, hl⟩ : ∃ op, l[k]? = some op := ⟨_, List.getElem?_eq_getElem (by omega)⟩
        obtain ⟨A, cap, ep, hlen, hops⟩ := HP.out
        obtain ⟨pk, po, hpk, rfl, b0, b1, b2⟩ := hops k c n m hl
        have HL := Lib.hid hl
        have hown : ∀ j, j < lo → ¬ g.own j := fun j hj ho => by have := HO.out j (.inl ho); omega
        have b0 := HC'.out.cell b0 (hown _ hpk)
        have b1 := HC'.out.cell b1 (hown _ hpk)
        have b2 := HC'.out.cell b2 (hown _ hpk)
        have c0 := HF'.out.ms.c0
        rw [ep] at c0
        have HOW := Lib.hid hown
        have HBP := Lib.hid hbp
        have l0 : g.b < wr.heap.size := HF'.out.ms.lt
        have l1 : pk < wr.heap.size := World.block_lt_of_cell? wr ⟨pk, _, none⟩ b0
        have hws : w.heap.size ≤ wr.heap.size := HC'.out.size
        have HPr := Lib.hid (HP.out.kept HC'.out hown)
        clear hown hl hops ep
        have k0 : (0 : Int) ≤ (k : Int) := by omega
        have k1 : (k : Int) < (l.length : Int) := by omega
        go_upto_block 2 with (go_at_call 37; refine next_any (stk := st'.2.1) (steps := st'.2.2) lo (by exact (HF'.out.kept ((Ch.refl _ _).alloc _))) (by exact (HPr.out.kept ((Ch.refl (fun _ => False) wr).alloc _) (fun _ _ x => x))) k e nest HL.out hlt he hn (by simp only [World.size_alloc]; omega) _ ?_ ?_)
        · intro x w1 hx hw
          obtain ⟨f'', rfl⟩ : ∃ f'', f' = f'' + 1 := ⟨f' - 1, by omega⟩
          refine (show bodyPost Tryd.prog Tryd.f25 R (.panic _) _ _ from ⟨rfl, HE.out x w1 ?_ ?_⟩)
          · rw [HEQ.out]
            unfold exec
            rw [if_pos hlt, List.getD_eq_getElem?_getD, HL.out]
            simp only [Option.getD_some]
            rw [hx]
          · exact HC'.out.trans (((Ch.refl _ _).alloc _ |>.trans hw).mono fun _ _ x => x.elim)
        intro w1 v hchk c1 hdo
        have HD := Lib.hid hdo
        obtain ⟨G, fst, caps, rfl, hcf, hsem⟩ := hdo
        have HS := Lib.hid hsem
        clear hsem
        have HCH := Lib.hid hchk
        clear hchk
        have c1' : Nw wr w1 := ((Ch.refl (fun _ => False) wr).alloc _).trans c1
        have HF1 := Lib.hid (HF'.out.kept c1')
        have s12 := HF1.out.ms.c12
        have sfr := HF1.out.ms.fr 12
        have a0 : w1.cell? ⟨wr.heap.size, 0, none⟩ = some (.int .i64 c) := c1.cell (cell_alloc_new rfl rfl) (fun x => x)
        have a1 : w1.cell? ⟨wr.heap.size, 1, none⟩ = some (.int .i64 n) := c1.cell (cell_alloc_new rfl rfl) (fun x => x)
        have a2 : w1.cell? ⟨wr.heap.size, 2, none⟩ = some (.int .i64 m) := c1.cell (cell_alloc_new rfl rfl) (fun x => x)
        have C1 := Lib.hid c1'
        have l2 : g.b < w1.heap.size := HF1.out.ms.lt
        have l3 : wr.heap.size < w1.heap.size := World.block_lt_of_cell? w1 ⟨_, _, none⟩ a0
        have l4 : g.b ≠ wr.heap.size := by omega
        clear c1 c1' b0 b1 b2
        simp only [opv]
        go_upto_block 2 with fail
        obtain ⟨q1, q2, q3, q4, q5⟩ := chk_none HCH.out
        have Q2 := Lib.hid q2
        have Q5 := Lib.hid q5
        clear q2 q5
        have f0 : FlS ((w1.setCell ⟨g.b, 12, none⟩ (.int .i64 (st'.2.2 + 1))).alloc (.cells #[.int .i64 (pops c), .int .i64 (pushes c), .bool (isNum c), .bool (isPt c), .bool (isBlk c), .func (.func G) fst caps] 93)) g st'.1 st'.2.1 (st'.2.2 + 1) :=
          (HF1.out.next (HF1.out.ms.stepped (d := 0)) HF1.out.lm (((Ch.refl (· = g.b) w1).setb (fun _ => rfl) _).drewN 0)).kept ((Ch.refl _ _).alloc _)
        have F0 := Lib.hid f0
        have ch0 : Ch (· = g.b) w1 ((w1.setCell ⟨g.b, 12, none⟩ (.int .i64 (st'.2.2 + 1))).alloc (.cells #[.int .i64 (pops c), .int .i64 (pushes c), .bool (isNum c), .bool (isPt c), .bool (isBlk c), .func (.func G) fst caps] 93)) := ((Ch.refl (· = g.b) w1).setb (fun _ => rfl) _).alloc _
        have CH0 := Lib.hid ch0
        clear f0 ch0
        go_cut [11] (fun s11 wx => s11 = .int .i64 (rounds c n st'.2.1) ∧ FlS wx g (own g.size c n st').1 (own g.size c n st').2.1 (st'.2.2 + 1) ∧ Ch g.own w1 wx)
        case first =>
          by_cases h14 : c = 14
          · subst h14
            obtain ⟨s, x, hsx⟩ := snoc_of_pos (stk := st'.2.1) (by simp [pops] at q3; omega)
            have HSX := Lib.hid hsx
            clear hsx
            have fin : ∀ w2, MS w2 g.b g.p (Value.slice g.pa st'.1.length g.cap) g.size s (st'.2.2 + 1) → Ch (· = g.b) ((w1.setCell ⟨g.b, 12, none⟩ (.int .i64 (st'.2.2 + 1))).alloc (.cells #[.int .i64 (pops 14), .int .i64 (pushes 14), .bool (isNum 14), .bool (isPt 14), .bool (isBlk 14), .func (.func G) fst caps] 93)) w2 → FlS w2 g (own g.size 14 n st').1 (own g.size 14 n st').2.1 (st'.2.2 + 1) ∧ Ch g.own w1 w2 := by
              intro w2 m2 c2
              have hlm := F0.out.lm
              rw [HSX.out] at hlm
              refine ⟨?_, own_b (CH0.out.trans c2)⟩
              simp only [own, reduceIte, HSX.out, rest_snoc]
              exact F0.out.next m2 (mem_dropLast_lim hlm).1 c2
            have FIN := Lib.hid fin
            clear fin
            by_cases hx : 0 < x
            · go_wp2_with (go_at_call 38; refine pop_any (stk := s) x (by rw [← HSX.out]; exact F0.out.ms) _ ?_; intro w2 m2 c2)
              go_meet
              refine ⟨?_, FIN.out w2 m2 c2⟩
              rw [HSX.out]; simp only [rounds, reduceIte, top_snoc, if_pos hx]; rfl
            · go_wp2_with (go_at_call 38; refine pop_any (stk := s) x (by rw [← HSX.out]; exact F0.out.ms) _ ?_; intro w2 m2 c2)
              go_meet
              refine ⟨?_, FIN.out w2 m2 c2⟩
              rw [HSX.out]; simp only [rounds, reduceIte, top_snoc]; rw [if_neg (by omega)]; rfl
          by_cases h15 : c = 15
          · subst h15
            go_wp2
            go_meet
            refine ⟨?_, F0.out, own_b CH0.out⟩
            have hn1 := Q2.out.2.2.2.1 rfl
            have : ((rounds 15 n st'.2.1 : Nat) : Int) = n := by simp only [rounds, reduceIte, Int.reduceEq]; omega
            rw [this]
          · have e14 : (c == 14) = false := beq_eq_false_iff_ne.2 h14
            have e15 : (c == 15) = false := beq_eq_false_iff_ne.2 h15
            have R0 : Hid (rounds c n st'.2.1 = 0) := by show _ = _; unfold rounds; rw [if_neg h14, if_neg h15]
            have O0 : Hid (own g.size c n st' = ((doOp g.size c n st'.1 st'.2.1).1, (doOp g.size c n st'.1 st'.2.1).2, st'.2.2 + 1)) := by show _ = _; unfold own; rw [if_neg h14, if_neg h15]
            clear h14 h15
            go_wp2_with fail
            rw [show fst.push (Value.int .i64 n) ++ caps = fst ++ #[.int .i64 n] ++ caps from by simp]
            refine HS.out _ g st'.1 st'.2.1 (st'.2.2 + 1) n _ (fun j hj hj' => CH0.out.block j hj' (fun hb => by omega)) F0.out rfl (fun j hj => ?_) ⟨q3, q4, Q5.out⟩ ?_
            · rcases hj with hj | rfl
              · have := HF'.out.own_lt hj; omega
              · exact Nat.lt_of_lt_of_le HBP.out (by omega)
            intro w2 f2 c2
            go_wp2
            go_meet
            refine ⟨by rw [R0.out]; rfl, by rw [O0.out]; exact f2, (own_b CH0.out).trans c2⟩
        case rest =>
          obtain ⟨rfl, f2, c2⟩ := hcut
          have F2 := Lib.hid f2
          have nown : ¬ g.own wr.heap.size := fun h => by have := HF'.out.own_lt h; omega
          have a0 := c2.cell a0 nown
          have a1 := c2.cell a1 nown
          have a2 := c2.cell a2 nown
          have C2 := Lib.hid (HC'.out.trans ((C1.out.mono fun _ _ x => x.elim).trans c2))
          clear f2 c2 s12 sfr
          obtain ⟨bl0, bl1⟩ := blen_ge Q2.out (by omega)
          obtain ⟨L, hL⟩ : ∃ L : Nat, blen c n m = (L : Int) := ⟨(blen c n m).toNat, by omega⟩
          have HLn := Lib.hid hL
          have kL : k + 1 + L ≤ e := by omega
          clear hL bl0 bl1
          obtain ⟨r16, rblk⟩ := rounds_le (stk := st'.2.1) Q2.out
          have RB := Lib.hid rblk
          clear rblk
          generalize hr : rounds c n st'.2.1 = r at r16
          have HRr := Lib.hid hr
          have RB : Hid (0 < r → isBlk c = true) := by rw [← HRr.out]; exact RB
          clear hr
          go_wp2_with (go_at_call 39; refine length_any _ _ _ _ _ ?_; intro w3 c3; rw [HLn.out])
          obtain ⟨f'', rfl⟩ : ∃ f'', f' = f'' + 1 := ⟨f' - 1, by omega⟩
          have HX : Hid (exec l g.size fuel i e nest st = match iter (exec l g.size f'' (k + 1) (k + 1 + L) (nest + 1)) r (own g.size c n st') with
              | .error x => .error x
              | .ok st2 => exec l g.size f'' (k + 1 + L) e nest st2) := by
            show _ = _
            rw [HEQ.out]
            show exec l g.size (f'' + 1) k e nest st' = _
            rw [exec]
            rw [if_pos hlt, List.getD_eq_getElem?_getD, HL.out]
            simp only [Option.getD_some]
            rw [HCH.out]
            simp only [HLn.out, HRr.out, Int.toNat_natCast]
          have so : (own g.size c n st').2.2 = st'.2.2 + 1 := by unfold own; split <;> (try split) <;> rfl
          have SO := Lib.hid so
          clear so
          go_loopw [57] (fun s57 wy => ∃ (j : Nat) (sj : St), s57 = .int .i64 j ∧ j ≤ r ∧ iter (exec l g.size f'' (k + 1) (k + 1 + L) (nest + 1)) j (own g.size c n st') = .ok sj ∧ FlS wy g sj.1 sj.2.1 sj.2.2 ∧ Ch g.own w wy ∧ st'.2.2 + 1 ≤ sj.2.2 ∧ sj.2.2 ≤ 2000)
            (fun s57 _ => r - (intOf s57).toNat)
          case atStart => exact ⟨0, own g.size c n st', rfl, Nat.zero_le _, rfl, by rw [SO.out]; exact F2.out.kept c3, C2.out.trans (c3.mono fun _ _ x => x.elim), by rw [SO.out]; omega, by rw [SO.out]; omega⟩
          case round =>
            obtain ⟨j, sj, rfl, hj, hit, hfj, hcj, hsj, hsj2⟩ := hrel
            have HIT := Lib.hid hit
            have HFJ := Lib.hid hfj
            have HCJ := Lib.hid hcj
            clear hit hfj hcj
            by_cases hjr : j < r
            · have hnest : nest < 3 := (Q2.out.2.2.2.2 (RB.out (by omega))).2
              have hws' := HCJ.out.size
              go_wp2_with (go_at_call 25; rw [show ((k : Int) + 1) = ((k + 1 : Nat) : Int) from by omega, show (((k + 1 : Nat) : Int) + (L : Int)) = ((k + 1 + L : Nat) : Int) from by omega, show ((nest : Int) + 1) = ((nest + 1 : Nat) : Int) from by omega]; refine IH.out f'' (by omega) (k + 1) (k + 1 + L) (nest + 1) sj _ _ (by omega) (by omega) (by omega) (by omega) HFJ.out (HP.out.kept HCJ.out HOW.out) (by omega) (by omega) (by omega) (by omega) ?_ ?_)
              · intro x w2 hx c2
                refine (show bodyPost Tryd.prog Tryd.f25 R (.panic _) _ _ from ⟨rfl, HE.out x w2 ?_ (HCJ.out.trans c2)⟩)
                rw [HX.out, iter_error HIT.out hx hjr]
              · intro w2 oa sa na hx f2 c2
                have hst := exec_steps l g.size f'' (k + 1) (k + 1 + L) (nest + 1) sj (oa, sa, na) hx (by omega)
                have HXX := Lib.hid hx
                have HFF := Lib.hid f2
                have HCC := Lib.hid c2
                have HST := Lib.hid hst
                clear hx f2 c2 hst
                go_wp2
                go_roundw
                case rel => exact ⟨j + 1, (oa, sa, na), by go_num, by omega, by unfold iter; rw [HIT.out]; exact HXX.out, HFF.out, HCJ.out.trans HCC.out, by have := HST.out.1; omega, HST.out.2⟩
                case measure => simp [intOf]; omega
            · obtain rfl : j = r := by omega
              go_wp2
              go_roundw
              case rel => exact ⟨k + 1 + L, sj, f'', by go_num, kL, HFJ.out, HCJ.out, by omega, by omega, by omega, hsj2, by rw [HX.out, HIT.out]⟩
              case measure => simp [intOf]; omega
      · go_wp2
        go_end0
        refine HK.out wr st' ?_ HF'.out HC'.out
        rw [HEQ.out]
        obtain ⟨f'', rfl⟩ : ∃ f'', f' = f'' + 1 := ⟨f' - 1, by omega⟩
        unfold exec
        rw [if_neg hlt]
end
end Go.Proofs.YtlgcijafjcfnhaaDoor
