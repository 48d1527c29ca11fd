/-
  The reference of the machine: the place of a point; an operation without a block.
-/
import Derived.Test.YtlgcijafjcfnhaaRComp
import Derived.Test.YtlgcijafjcfnhaaScale
import Derived.Test.YtlgcijafjcfnhaaRunAll
import Derived.Test.YtlgcijafjcfnhaaRoundsP
namespace Go.Proofs.Ytlgcijafjcfnhaa
open Go.RowKit
set_option linter.unusedVariables false
set_option linter.unusedSimpArgs false

set_option maxRecDepth 100000 in
theorem rplace_any (lo : Nat) (vo : Value) (o : List (List Pt)) (n : Nat) (w : World) (R : Ending → World → Prop) (ho : IsOut w lo vo o) (hn : n < o.flatten.length)
    (hR : ∀ (k i : Nat) (c : List Pt), o[k]? = some c → i < c.length → (o.take k).flatten.length + i = n → R (.returned (.tuple #[.int .i64 k, .int .i64 i])) w) : Calls Try.prog 44 #[vo, .int .i64 n] w R := by
  have HR := Lib.hid hR
  clear hR
  obtain ⟨A, cap, rfl, ho64, hel⟩ := ho
  have HEL := Lib.hid hel
  have hnb : n ≤ 4096 := by
    have := flat_le (o := o) (fun d hd => by obtain ⟨j, hj⟩ := List.mem_iff_getElem?.1 hd; exact (hel j d hj).1)
    omega
  have HN := Lib.hid hn
  clear hel hn
  go_enter Try.func44, Try.ntmps44
  go_wp2
  go_loopw [1, 6] (fun s1 s6 wr => ∃ (k i : Nat), s6 = .int .i64 k ∧ s1 = .int .i64 i ∧ k ≤ o.length ∧ (o.take k).flatten.length + i = n ∧ wr = w) (fun _ s6 _ => o.length - (intOf s6).toNat)
  case atStart => exact ⟨0, n, rfl, rfl, Nat.zero_le _, by simp, rfl⟩
  case round =>
    obtain ⟨k, i, rfl, rfl, hk, hsum, rfl⟩ := hrel
    have HS := Lib.hid hsum
    have hi : i ≤ 4096 := by omega
    have hlt : k < o.length := by
      rcases Nat.lt_or_ge k o.length with h | h
      · exact h
      · have h1 := HN.out
        rw [List.take_of_length_le h] at hsum
        omega
    clear hsum
    obtain ⟨c, hck⟩ : ∃ c, o[k]? = some c := ⟨_, List.getElem?_eq_getElem hlt⟩
    obtain ⟨c64, -, bk, bo, vi, -, rfl, hcell, A2, cap2, rfl, -, -⟩ := HEL.out k c hck
    have HCK := Lib.hid hck
    have k0 : (0 : Int) ≤ (k : Int) := by omega
    have k1 : (k : Int) < (o.length : Int) := by omega
    clear hck
    by_cases hic : i < c.length
    · have h1 : ¬ (c.length : Int) ≤ (i : Int) := by omega
      have h2 : (i : Int) < (c.length : Int) := by omega
      go_wp2
      exact HR.out k i c HCK.out hic HS.out
    · have h1 : (c.length : Int) ≤ (i : Int) := by omega
      obtain ⟨j, hj⟩ : ∃ j : Nat, i = c.length + j := ⟨i - c.length, by omega⟩
      subst hj
      have h3 : (0 : Int) ≤ (j : Int) := by omega
      go_wp2
      refine ⟨⟨k + 1, j, rfl, congrArg (Value.int .i64) (by omega), by omega, ?_, trivial⟩, ?_⟩
      · rw [flat_take HCK.out]
        have := HS.out
        omega
      · simp [intOf]; omega

theorem pre_mono (o : List (List Pt)) : ∀ {a b : Nat}, a ≤ b → (o.take a).flatten.length ≤ (o.take b).flatten.length := by
  induction o with
  | nil => intro a b _; simp
  | cons c o ih =>
    intro a b h
    cases a with
    | zero => rw [List.take_zero, List.flatten_nil]; exact Nat.zero_le _
    | succ a =>
      cases b with
      | zero => omega
      | succ b =>
        have := ih (a := a) (b := b) (by omega)
        rw [List.take_succ_cons, List.take_succ_cons, List.flatten_cons, List.flatten_cons, List.length_append, List.length_append]
        omega
theorem place_uniq {o : List (List Pt)} {k i k' i' : Nat} {c c' : List Pt} (h1 : o[k]? = some c) (h2 : i < c.length) (h1' : o[k']? = some c') (h2' : i' < c'.length)
    (h : (o.take k).flatten.length + i = (o.take k').flatten.length + i') : k = k' ∧ i = i' := by
  rcases Nat.lt_trichotomy k k' with hk | hk | hk
  · have := pre_mono o (a := k + 1) (b := k') (by omega)
    rw [flat_take h1] at this
    omega
  · subst hk; exact ⟨rfl, by omega⟩
  · have := pre_mono o (a := k' + 1) (b := k) (by omega)
    rw [flat_take h1'] at this
    omega
theorem place_ex (o : List (List Pt)) : ∀ n : Nat, n < o.flatten.length → ∃ k i c, o[k]? = some c ∧ i < c.length ∧ (o.take k).flatten.length + i = n := by
  induction o with
  | nil => intro n h; simp at h
  | cons c o ih =>
    intro n h
    rw [List.flatten_cons, List.length_append] at h
    by_cases hn : n < c.length
    · exact ⟨0, n, c, rfl, hn, by simp⟩
    · obtain ⟨k, i, d, h1, h2, h3⟩ := ih (n - c.length) (by omega)
      refine ⟨k + 1, i, d, by simpa using h1, h2, ?_⟩
      rw [List.take_succ_cons, List.flatten_cons, List.length_append]
      omega
theorem rplace_at {lo : Nat} {vo : Value} {o : List (List Pt)} {n k i : Nat} {c : List Pt} {w : World} {R : Ending → World → Prop} (ho : IsOut w lo vo o) (h1 : o[k]? = some c) (h2 : i < c.length) (h3 : (o.take k).flatten.length + i = n)
    (hR : R (.returned (.tuple #[.int .i64 k, .int .i64 i])) w) : Calls Try.prog 44 #[vo, .int .i64 n] w R := by
  have hn : n < o.flatten.length := by
    have := pre_mono o (a := k + 1) (b := o.length) (by have := (List.getElem?_eq_some_iff.1 h1).1; omega)
    rw [flat_take h1, List.take_length] at this
    omega
  refine rplace_any lo vo o n w R ho hn fun k' i' c' g1 g2 g3 => ?_
  obtain ⟨rfl, rfl⟩ := place_uniq h1 h2 g1 g2 (by omega)
  exact hR

theorem RS.nw {w w' : World} {b : Nat} {vp vo : Value} {size : Int} {stk : List Int} {steps : Int} (h : RS w b vp vo size stk steps) (hc : Nw w w') : RS w' b vp vo size stk steps := by
  obtain ⟨vs, hb, ho⟩ := h
  exact ⟨vs, hc.heap hb id, row_ch ho hc (fun _ _ h => h)⟩

theorem flatten_set (o : List (List Pt)) : ∀ {k i n : Nat} {c : List Pt} (q : Pt), o[k]? = some c → i < c.length → (o.take k).flatten.length + i = n → (o.set k (c.set i q)).flatten = o.flatten.set n q := by
  induction o with
  | nil => intro k i n c q h; cases h
  | cons d o ih =>
    intro k i n c q h hi hn
    cases k with
    | zero =>
      simp at h
      subst h
      simp only [List.take_zero, List.flatten_nil, List.length_nil, Nat.zero_add] at hn
      subst hn
      simp only [List.set_cons_zero, List.flatten_cons]
      rw [List.set_append_left _ _ hi]
    | succ k =>
      rw [List.take_succ_cons, List.flatten_cons, List.length_append] at hn
      simp only [List.set_cons_succ, List.flatten_cons]
      rw [ih (n := n - d.length) q (by simpa using h) hi (by omega), List.set_append_right _ _ (by omega)]
theorem set_len {o : List (List Pt)} {k : Nat} {c c' : List Pt} (h : o[k]? = some c) (hl : c'.length = c.length) : (o.set k c').map List.length = o.map List.length := by
  rw [List.map_set]
  apply set_self
  rw [List.getElem?_map, h]
  simp [hl]

/-- The reference's machine with its outline in memory below it. -/
structure RF (w : World) (b : Nat) (vp vo : Value) (size : Int) (Bo : Nat) (bs : List (Nat × Nat)) (o : List (List Pt)) (stk : List Int) (steps : Int) : Prop where
  rs : RS w b vp vo size stk steps
  co : CopyOk w Bo vo bs o
  lt : ∀ k, vo.ownBlock = some k ∨ k ∈ bs.map (·.1) → k < b
  bnd : o.length ≤ 64 ∧ ∀ c ∈ o, c.length ≤ 64 ∧ ∀ q ∈ c, wfP q
  lm : ∀ x ∈ stk, -1073741824 ≤ x ∧ x ≤ 1073741824
theorem RF.out {w : World} {b : Nat} {vp vo : Value} {size : Int} {Bo : Nat} {bs : List (Nat × Nat)} {o : List (List Pt)} {stk : List Int} {steps : Int} (h : RF w b vp vo size Bo bs o stk steps) : IsOut w w.heap.size vo o := h.co.isOut h.bnd.1 h.bnd.2
theorem RF.nw {w w' : World} {b : Nat} {vp vo : Value} {size : Int} {Bo : Nat} {bs : List (Nat × Nat)} {o : List (List Pt)} {stk : List Int} {steps : Int} (h : RF w b vp vo size Bo bs o stk steps) (hc : Nw w w') : RF w' b vp vo size Bo bs o stk steps :=
  ⟨h.rs.nw hc, h.co.ch hc (fun _ _ h => h), h.lt, h.bnd, h.lm⟩
/-- The machine's own memory has changed. -/
theorem RF.next {w w' : World} {b : Nat} {vp vo : Value} {size : Int} {Bo : Nat} {bs : List (Nat × Nat)} {o : List (List Pt)} {stk stk' : List Int} {steps steps' : Int} (h : RF w b vp vo size Bo bs o stk steps) (hc : Ch (fun k => b ≤ k) w w')
    (hs : RS w' b vp vo size stk' steps') (hl : ∀ x ∈ stk', -1073741824 ≤ x ∧ x ≤ 1073741824) : RF w' b vp vo size Bo bs o stk' steps' :=
  ⟨hs, h.co.ch hc (fun k hk e => by have := h.lt k hk; omega), h.lt, h.bnd, hl⟩

section
variable {w : World} {R : Ending → World → Prop} {b : Nat} {vp vo : Value} {size : Int} {Bo : Nat} {bs : List (Nat × Nat)} {o : List (List Pt)} {stk : List Int} {steps : Int}
set_option maxRecDepth 100000 in
set_option maxHeartbeats 2000000 in
theorem rdo_plain (c n m : Int) (hc : 1 ≤ c ∧ c ≤ 9) (h : RF w b vp vo size Bo bs o stk steps) (hp : pops c ≤ stk.length) (hl : stk.length - pops c + pushes c ≤ 8) (hl8 : stk.length ≤ 8)
    (hR : ∀ w', RF w' b vp vo size Bo bs o (doOp size c n o.flatten stk).2 steps → Ch (fun k => b ≤ k) w w' → R (.returned (.tuple #[])) w') : Calls Try.prog 39 #[.pointer (some ⟨b, 0, none⟩), .agg #[.int .i64 c, .int .i64 n, .int .i64 m]] w R := by
  have HR := Lib.hid hR
  have HF := Lib.hid h
  obtain ⟨vs, hb, hrow⟩ := h.rs
  have d2 : w.cell? ⟨b, 2, none⟩ = some (.int .i64 size) := by rw [cell_of hb]; rfl
  have lb := lt_of_heap hb
  clear hR h hb hrow
  have b10 : (c == 10) = false := beq_eq_false_iff_ne.2 (by omega)
  have b11 : (c == 11) = false := beq_eq_false_iff_ne.2 (by omega)
  have b12 : (c == 12) = false := beq_eq_false_iff_ne.2 (by omega)
  have b13 : (c == 13) = false := beq_eq_false_iff_ne.2 (by omega)
  have hpt : isPt c = false := by unfold isPt; exact decide_eq_false (by omega)
  have HPO := Lib.hid (show ∀ (w : World) (R : Ending → World → Prop), R (.returned (.bool false)) w → Calls Try.prog 43 #[.int .i64 c] w R from fun w R h => rpoint_any c (by rw [hpt]; exact h))
  clear hpt
  have hlim : ∀ x ∈ (doOp size c n o.flatten stk).2, -1073741824 ≤ x ∧ x ≤ 1073741824 := (doOp_wf (fun q hq => by
    obtain ⟨d, hd, hqd⟩ := List.mem_flatten.1 hq
    exact (HF.out.bnd.2 d hd).2 q hqd) HF.out.lm).2.1
  have HLIM := Lib.hid hlim
  have NA := Lib.hid (show Nw w (w.alloc (.cells #[.int .i64 c, .int .i64 n, .int .i64 m] 45)) from (Ch.refl _ _).alloc _)
  have fin : ∀ w2, RS w2 b vp vo size (doOp size c n o.flatten stk).2 steps → Ch (fun k => b ≤ k) (w.alloc (.cells #[.int .i64 c, .int .i64 n, .int .i64 m] 45)) w2 → R (.returned (.tuple #[])) w2 := fun w2 hs c2 =>
    HR.out w2 ((HF.out.nw NA.out).next c2 hs HLIM.out) ((NA.out.mono (fun _ _ h => h.elim)).trans c2)
  have FIN := Lib.hid fin
  clear fin hlim
  by_cases h1 : c = 1
  · subst h1
    go_enter Try.func39, Try.ntmps39
    go_wp2_with (first | (go_at_call 43; refine HPO.out _ _ ?_) | (go_at_call 44; fail))
    refine rpush_any n (HF.out.rs.nw NA.out) (by omega) ?_
    intro w2 hs2 c2
    have H2 := Lib.hid hs2
    have C2 := Lib.hid c2
    clear hs2 c2
    go_wp2
    go_end0
    exact FIN.out w2 H2.out C2.out
  · by_cases h9 : c = 9
    · subst h9
      go_enter Try.func39, Try.ntmps39
      go_wp2_with (first | (go_at_call 43; refine HPO.out _ _ ?_) | (go_at_call 44; fail))
      refine rpush_any size (HF.out.rs.nw NA.out) (by omega) ?_
      intro w2 hs2 c2
      have H2 := Lib.hid hs2
      have C2 := Lib.hid c2
      clear hs2 c2
      go_wp2
      go_end0
      exact FIN.out w2 H2.out C2.out
    · have b1 : (c == 1) = false := beq_eq_false_iff_ne.2 h1
      have b9 : (c == 9) = false := beq_eq_false_iff_ne.2 h9
      have e : opS c stk = (doOp size c n o.flatten stk).2 := by
        unfold opS doOp
        obtain h | h | h | h | h | h | h : c = 2 ∨ c = 3 ∨ c = 4 ∨ c = 5 ∨ c = 6 ∨ c = 7 ∨ c = 8 := by omega
        all_goals (subst h; rfl)
      have E := Lib.hid e
      have c28 : 2 ≤ c ∧ c ≤ 8 := by omega
      have C28 := Lib.hid c28
      clear e c28 h1 h9
      go_enter Try.func39, Try.ntmps39
      go_wp2_with (first | (go_at_call 43; refine HPO.out _ _ ?_) | (go_at_call 44; fail))
      refine rcompute_any c C28.out (HF.out.rs.nw NA.out) hp hl8 HF.out.lm ?_
      intro w2 hs2 c2
      rw [E.out] at hs2
      have H2 := Lib.hid hs2
      have C2 := Lib.hid c2
      clear hs2 c2
      go_wp2
      go_end0
      exact FIN.out w2 H2.out C2.out

set_option maxRecDepth 100000 in
set_option maxHeartbeats 2000000 in
theorem rdo_get10 (nn : Nat) (m : Int) (h : RF w b vp vo size Bo bs o stk steps) (hl8 : stk.length < 8) (hn : nn < o.flatten.length)
    (hR : ∀ w', RF w' b vp vo size Bo bs o (doOp size 10 nn o.flatten stk).2 steps → Ch (fun k => b ≤ k) w w' → R (.returned (.tuple #[])) w') : Calls Try.prog 39 #[.pointer (some ⟨b, 0, none⟩), .agg #[.int .i64 10, .int .i64 nn, .int .i64 m]] w R := by
  have HR := Lib.hid hR
  have HF := Lib.hid h
  obtain ⟨vs, hb, hrow⟩ := h.rs
  obtain ⟨k, i, c, hk, hi, hsum⟩ := place_ex o nn hn
  obtain ⟨g, capg, ⟨bk, cb⟩, hvo, hbk, hgb, hgB, hbB, hbl, hcell, hfz, hpts⟩ := h.co.slice hk
  obtain ⟨q, hq⟩ : ∃ q, c[i]? = some q := ⟨_, List.getElem?_eq_getElem hi⟩
  obtain ⟨p0, p1, p2⟩ := hpts i q hq
  simp only at hgb hbB hbl hcell p0 p1 p2
  subst hvo
  have d1 : w.cell? ⟨b, 1, none⟩ = some (.slice (some ⟨g, 0, none⟩) o.length capg) := by rw [cell_of hb]; rfl
  have lb := lt_of_heap hb
  have lg := World.block_lt_of_cell? w ⟨g, _, none⟩ hcell
  simp only at lg
  have hqf : o.flatten.getD nn default = q := by rw [List.getD_eq_getElem?_getD, ← hsum, flatten_at hk hi, hq]; rfl
  have e : (doOp size 10 nn o.flatten stk).2 = stk ++ [lim q.1] := by
    have : (doOp size 10 nn o.flatten stk).2 = stk ++ [lim (o.flatten.getD (nn : Int).toNat default).1] := rfl
    rw [this, Int.toNat_natCast, hqf]
  have E := Lib.hid e
  have NA := Lib.hid (show Nw w (w.alloc (.cells #[.int .i64 10, .int .i64 nn, .int .i64 m] 45)) from (Ch.refl _ _).alloc _)
  have HPL := Lib.hid (show ∀ (d : Nat) (R : Ending → World → Prop), R (.returned (.tuple #[.int .i64 k, .int .i64 i])) ((w.alloc (.cells #[.int .i64 10, .int .i64 nn, .int .i64 m] 45)).drewN d) → Calls Try.prog 44 #[.slice (some ⟨g, 0, none⟩) o.length capg, .int .i64 nn] ((w.alloc (.cells #[.int .i64 10, .int .i64 nn, .int .i64 m] 45)).drewN d) R from
    fun d R hR' => rplace_at (((HF.out.nw NA.out).nw ((Ch.refl (fun _ => False) _).drewN d)).out) hk hi hsum hR')
  have k0 : (0 : Int) ≤ (k : Int) := by omega
  have k1 : (k : Int) < (o.length : Int) := by have := (List.getElem?_eq_some_iff.1 hk).1; omega
  have i0 : (0 : Int) ≤ (i : Int) := by omega
  have i1 : (i : Int) < (c.length : Int) := by omega
  clear hR h hb hrow hk hsum hbk hfz hpts hq hqf e hn
  go_enter Try.func39, Try.ntmps39
  go_wp2_with (first | (go_at_call 43; refine rpoint_any _ ?_) | (go_at_call 42; fail))
  go_quiet (first | (go_at_call 44; refine HPL.out _ _ ?_; exact ⟨rfl, _, rfl⟩))
  go_wp2_with (go_at_call 44; fail)
  refine rpush_any _ ((HF.out.rs.nw NA.out).nw ((Ch.refl (fun _ => False) _).drewN _)) (by omega) ?_
  intro w2 hs2 c2
  have H2 := Lib.hid hs2
  have C2 := Lib.hid c2
  clear hs2 c2
  go_wp2
  go_end0
  refine HR.out w2 ?_ ((NA.out.mono (fun _ _ h => h.elim)).trans (C2.out.undrewN))
  rw [E.out]
  exact (HF.out.nw NA.out).next C2.out.undrewN H2.out (snoc_lim HF.out.lm (lim_in _))

set_option maxRecDepth 100000 in
set_option maxHeartbeats 2000000 in
theorem rdo_get11 (nn : Nat) (m : Int) (h : RF w b vp vo size Bo bs o stk steps) (hl8 : stk.length < 8) (hn : nn < o.flatten.length)
    (hR : ∀ w', RF w' b vp vo size Bo bs o (doOp size 11 nn o.flatten stk).2 steps → Ch (fun k => b ≤ k) w w' → R (.returned (.tuple #[])) w') : Calls Try.prog 39 #[.pointer (some ⟨b, 0, none⟩), .agg #[.int .i64 11, .int .i64 nn, .int .i64 m]] w R := by
  have HR := Lib.hid hR
  have HF := Lib.hid h
  obtain ⟨vs, hb, hrow⟩ := h.rs
  obtain ⟨k, i, c, hk, hi, hsum⟩ := place_ex o nn hn
  obtain ⟨g, capg, ⟨bk, cb⟩, hvo, hbk, hgb, hgB, hbB, hbl, hcell, hfz, hpts⟩ := h.co.slice hk
  obtain ⟨q, hq⟩ : ∃ q, c[i]? = some q := ⟨_, List.getElem?_eq_getElem hi⟩
  obtain ⟨p0, p1, p2⟩ := hpts i q hq
  simp only at hgb hbB hbl hcell p0 p1 p2
  subst hvo
  have d1 : w.cell? ⟨b, 1, none⟩ = some (.slice (some ⟨g, 0, none⟩) o.length capg) := by rw [cell_of hb]; rfl
  have lb := lt_of_heap hb
  have lg := World.block_lt_of_cell? w ⟨g, _, none⟩ hcell
  simp only at lg
  have hqf : o.flatten.getD nn default = q := by rw [List.getD_eq_getElem?_getD, ← hsum, flatten_at hk hi, hq]; rfl
  have e : (doOp size 11 nn o.flatten stk).2 = stk ++ [lim q.2.1] := by
    have : (doOp size 11 nn o.flatten stk).2 = stk ++ [lim (o.flatten.getD (nn : Int).toNat default).2.1] := rfl
    rw [this, Int.toNat_natCast, hqf]
  have E := Lib.hid e
  have NA := Lib.hid (show Nw w (w.alloc (.cells #[.int .i64 11, .int .i64 nn, .int .i64 m] 45)) from (Ch.refl _ _).alloc _)
  have HPL := Lib.hid (show ∀ (d : Nat) (R : Ending → World → Prop), R (.returned (.tuple #[.int .i64 k, .int .i64 i])) ((w.alloc (.cells #[.int .i64 11, .int .i64 nn, .int .i64 m] 45)).drewN d) → Calls Try.prog 44 #[.slice (some ⟨g, 0, none⟩) o.length capg, .int .i64 nn] ((w.alloc (.cells #[.int .i64 11, .int .i64 nn, .int .i64 m] 45)).drewN d) R from
    fun d R hR' => rplace_at (((HF.out.nw NA.out).nw ((Ch.refl (fun _ => False) _).drewN d)).out) hk hi hsum hR')
  have k0 : (0 : Int) ≤ (k : Int) := by omega
  have k1 : (k : Int) < (o.length : Int) := by have := (List.getElem?_eq_some_iff.1 hk).1; omega
  have i0 : (0 : Int) ≤ (i : Int) := by omega
  have i1 : (i : Int) < (c.length : Int) := by omega
  clear hR h hb hrow hk hsum hbk hfz hpts hq hqf e hn
  go_enter Try.func39, Try.ntmps39
  go_wp2_with (first | (go_at_call 43; refine rpoint_any _ ?_) | (go_at_call 42; fail))
  go_quiet (first | (go_at_call 44; refine HPL.out _ _ ?_; exact ⟨rfl, _, rfl⟩))
  go_wp2_with (go_at_call 44; fail)
  refine rpush_any _ ((HF.out.rs.nw NA.out).nw ((Ch.refl (fun _ => False) _).drewN _)) (by omega) ?_
  intro w2 hs2 c2
  have H2 := Lib.hid hs2
  have C2 := Lib.hid c2
  clear hs2 c2
  go_wp2
  go_end0
  refine HR.out w2 ?_ ((NA.out.mono (fun _ _ h => h.elim)).trans (C2.out.undrewN))
  rw [E.out]
  exact (HF.out.nw NA.out).next C2.out.undrewN H2.out (snoc_lim HF.out.lm (lim_in _))

set_option maxRecDepth 100000 in
set_option maxHeartbeats 2000000 in
theorem rdo_set12 (nn : Nat) (m : Int) (h : RF w b vp vo size Bo bs o stk steps) (hp : 0 < stk.length) (hl8 : stk.length ≤ 8) (hn : nn < o.flatten.length)
    (hR : ∀ w' o', o'.flatten = (doOp size 12 nn o.flatten stk).1 → o'.map List.length = o.map List.length → RF w' b vp vo size Bo bs o' (doOp size 12 nn o.flatten stk).2 steps → Ch (fun k => Bo ≤ k) w w' → R (.returned (.tuple #[])) w')
    (hBo : Bo ≤ b) : Calls Try.prog 39 #[.pointer (some ⟨b, 0, none⟩), .agg #[.int .i64 12, .int .i64 nn, .int .i64 m]] w R := by
  have HR := Lib.hid hR
  have HF := Lib.hid h
  obtain ⟨st, x, hst⟩ := snoc_of_pos hp
  subst hst
  rw [List.length_append, List.length_singleton] at hl8
  obtain ⟨vs, hb, hrow⟩ := h.rs
  obtain ⟨k, i, c, hk, hi, hsum⟩ := place_ex o nn hn
  obtain ⟨g, capg, ⟨bk, cb⟩, hvo, hbk, hgb, hgB, hbB, hbl, hcell, hfz, hpts⟩ := h.co.slice hk
  obtain ⟨q, hq⟩ : ∃ q, c[i]? = some q := ⟨_, List.getElem?_eq_getElem hi⟩
  obtain ⟨p0, p1, p2⟩ := hpts i q hq
  simp only at hgb hbB hbl hcell p0 p1 p2 hfz
  have hgl : g < b := h.lt g (.inl (by rw [hvo]; rfl))
  have hbkl : bk < b := h.lt bk (.inr (List.mem_map.2 ⟨_, List.mem_of_getElem? hbk, rfl⟩))
  subst hvo
  have d1 : w.cell? ⟨b, 1, none⟩ = some (.slice (some ⟨g, 0, none⟩) o.length capg) := by rw [cell_of hb]; rfl
  have lb := lt_of_heap hb
  have hqf : o.flatten.getD nn default = q := by rw [List.getD_eq_getElem?_getD, ← hsum, flatten_at hk hi, hq]; rfl
  have e1 : (doOp size 12 nn o.flatten (st ++ [x])).1 = o.flatten.set nn (x, q.2.1, q.2.2) := by
    have : (doOp size 12 nn o.flatten (st ++ [x])).1 = o.flatten.set (nn : Int).toNat (updX (top (st ++ [x])) (o.flatten.getD (nn : Int).toNat default)) := rfl
    rw [this, Int.toNat_natCast, hqf, top_snoc]
    rfl
  have e2 : (doOp size 12 nn o.flatten (st ++ [x])).2 = st := by
    have : (doOp size 12 nn o.flatten (st ++ [x])).2 = rest (st ++ [x]) := rfl
    rw [this, rest_snoc]
  have E1 := Lib.hid e1
  have E2 := Lib.hid e2
  have HK := Lib.hid hk
  have HQ := Lib.hid hq
  have HBK := Lib.hid hbk
  have HSUM := Lib.hid hsum
  have HI := Lib.hid hi
  have hfz0 := hfz (i * 3)
  have NA := Lib.hid (show Nw w (w.alloc (.cells #[.int .i64 12, .int .i64 nn, .int .i64 m] 45)) from (Ch.refl _ _).alloc _)
  have HPL := Lib.hid (show ∀ (d : Nat) (R : Ending → World → Prop), R (.returned (.tuple #[.int .i64 k, .int .i64 i])) ((w.alloc (.cells #[.int .i64 12, .int .i64 nn, .int .i64 m] 45)).drewN d) → Calls Try.prog 44 #[.slice (some ⟨g, 0, none⟩) o.length capg, .int .i64 nn] ((w.alloc (.cells #[.int .i64 12, .int .i64 nn, .int .i64 m] 45)).drewN d) R from
    fun d R hR' => rplace_at (((HF.out.nw NA.out).nw ((Ch.refl (fun _ => False) _).drewN d)).out) hk hi hsum hR')
  have k0 : (0 : Int) ≤ (k : Int) := by omega
  have k1 : (k : Int) < (o.length : Int) := by have := (List.getElem?_eq_some_iff.1 hk).1; omega
  have i0 : (0 : Int) ≤ (i : Int) := by omega
  have i1 : (i : Int) < (c.length : Int) := by omega
  clear hR h hb hrow hk hsum hbk hfz hpts hq hqf e1 e2 hn hi hp
  go_enter Try.func39, Try.ntmps39
  go_wp2_with (first | (go_at_call 43; refine rpoint_any _ ?_) | (go_at_call 42; fail))
  go_quiet (first | (go_at_call 44; refine HPL.out _ _ ?_; exact ⟨rfl, _, rfl⟩))
  go_wp2_with (go_at_call 44; fail)
  refine wp_name ?_
  intro W1 hW
  have N1 := Lib.hid (show Nw w W1 from by rw [hW]; exact NA.out.drewN _)
  have f1 : W1.cell? ⟨b, 1, none⟩ = some (.slice (some ⟨g, 0, none⟩) o.length capg) := N1.out.cell d1 id
  have f2 : W1.cell? ⟨g, k, none⟩ = some (.slice (some ⟨bk, 0, none⟩) c.length cb) := N1.out.cell hcell id
  have f3 := N1.out.cell p0 id
  have f4 : W1.frozen? ⟨bk, i * 3, none⟩ = false := (N1.out.frozen (a := ⟨bk, i * 3, none⟩) hbl id).trans hfz0
  have HS1 := Lib.hid (HF.out.rs.nw N1.out)
  have hne1 : ¬ g = b := by omega
  have hne2 : ¬ bk = b := by omega
  have lbk1 : bk < W1.heap.size := by have := N1.out.size; omega
  clear hW d1 hcell p0 p1 p2 hfz0
  go_region_held3 (fun w' => w'.cell? ⟨b, 1, none⟩ = some (.slice (some ⟨g, 0, none⟩) o.length capg) ∧ w'.cell? ⟨g, k, none⟩ = some (.slice (some ⟨bk, 0, none⟩) c.length cb)) (first | (exact ⟨f1, f2⟩) | (exact ⟨z1, c2.cell f2 hne1⟩) | (exact ⟨cell_setCell_ne _ z1 (fun e => hne2 e.symm), cell_setCell_ne _ (c2.cell f2 hne1) hgb⟩)) (first | (go_at_call 38; refine rpop_any x (by exact HS1.out) (by omega) ?_; intro w2 m2 c2; (have z1 : w2.cell? ⟨b, 1, none⟩ = some (.slice (some ⟨g, 0, none⟩) o.length capg) := by obtain ⟨vs', hb', -⟩ := m2; rw [cell_of hb']; rfl); have f3' := c2.cell f3 hne2; have f4' := (c2.frozen (a := ⟨bk, i * 3, none⟩) lbk1 hne2).trans f4))
  go_wp2
  go_end0
  have c3 : Ch (· = b) W1 w2 := c2.undrew
  have co2 : CopyOk w2 Bo (.slice (some ⟨g, 0, none⟩) o.length capg) bs o := (HF.out.co.ch N1.out (fun _ _ h => h)).ch c3 (fun k hk e => by have := HF.out.lt k hk; omega)
  have co3 := co2.store HBK.out HK.out (c' := c.set i (x, q.2.1, q.2.2)) (by simp) (flat_setx c i q x HQ.out)
  have cs : Ch (· = bk) w2 (w2.setCell ⟨bk, i * 3, none⟩ (.int .i64 x)) := (Ch.refl (· = bk) w2).setb (fun _ => rfl) _
  have hx := HF.out.lm x (by simp)
  refine HR.out _ (o.set k (c.set i (x, q.2.1, q.2.2))) (by rw [E1.out]; exact flatten_set o _ HK.out HI.out HSUM.out) (set_len HK.out (by simp)) ?_ ?_
  · rw [E2.out]
    obtain ⟨vs2, hb2, hr2⟩ := m2
    refine ⟨⟨vs2, cs.heap hb2 (fun e => hne2 e.symm), row_ch hr2 cs (fun k hk e => by have := (hr2.lt k hk).1; omega)⟩, co3, HF.out.lt, ⟨by rw [List.length_set]; exact HF.out.bnd.1, fun d hd => ?_⟩, fun y hy => HF.out.lm y (by simp [hy])⟩
    obtain ⟨b0, b1⟩ := HF.out.bnd.2 c (List.mem_of_getElem? HK.out)
    rcases List.mem_or_eq_of_mem_set hd with hd | rfl
    · exact HF.out.bnd.2 d hd
    · refine ⟨by rw [List.length_set]; exact b0, fun r hr => ?_⟩
      rcases List.mem_or_eq_of_mem_set hr with hr | rfl
      · exact b1 r hr
      · have hq := b1 q (List.mem_of_getElem? HQ.out)
        unfold wfP wfI at hq ⊢
        simp only
        omega
  · exact (((N1.out.mono (fun _ _ h => h.elim)).trans (c3.mono (fun n _ e => by omega))).trans (cs.mono (fun n _ e => by omega)))

set_option maxRecDepth 100000 in
set_option maxHeartbeats 2000000 in
theorem rdo_set13 (nn : Nat) (m : Int) (h : RF w b vp vo size Bo bs o stk steps) (hp : 0 < stk.length) (hl8 : stk.length ≤ 8) (hn : nn < o.flatten.length)
    (hR : ∀ w' o', o'.flatten = (doOp size 13 nn o.flatten stk).1 → o'.map List.length = o.map List.length → RF w' b vp vo size Bo bs o' (doOp size 13 nn o.flatten stk).2 steps → Ch (fun k => Bo ≤ k) w w' → R (.returned (.tuple #[])) w')
    (hBo : Bo ≤ b) : Calls Try.prog 39 #[.pointer (some ⟨b, 0, none⟩), .agg #[.int .i64 13, .int .i64 nn, .int .i64 m]] w R := by
  have HR := Lib.hid hR
  have HF := Lib.hid h
  obtain ⟨st, x, hst⟩ := snoc_of_pos hp
  subst hst
  rw [List.length_append, List.length_singleton] at hl8
  obtain ⟨vs, hb, hrow⟩ := h.rs
  obtain ⟨k, i, c, hk, hi, hsum⟩ := place_ex o nn hn
  obtain ⟨g, capg, ⟨bk, cb⟩, hvo, hbk, hgb, hgB, hbB, hbl, hcell, hfz, hpts⟩ := h.co.slice hk
  obtain ⟨q, hq⟩ : ∃ q, c[i]? = some q := ⟨_, List.getElem?_eq_getElem hi⟩
  obtain ⟨p0, p1, p2⟩ := hpts i q hq
  simp only at hgb hbB hbl hcell p0 p1 p2 hfz
  have hgl : g < b := h.lt g (.inl (by rw [hvo]; rfl))
  have hbkl : bk < b := h.lt bk (.inr (List.mem_map.2 ⟨_, List.mem_of_getElem? hbk, rfl⟩))
  subst hvo
  have d1 : w.cell? ⟨b, 1, none⟩ = some (.slice (some ⟨g, 0, none⟩) o.length capg) := by rw [cell_of hb]; rfl
  have lb := lt_of_heap hb
  have hqf : o.flatten.getD nn default = q := by rw [List.getD_eq_getElem?_getD, ← hsum, flatten_at hk hi, hq]; rfl
  have e1 : (doOp size 13 nn o.flatten (st ++ [x])).1 = o.flatten.set nn (q.1, x, q.2.2) := by
    have : (doOp size 13 nn o.flatten (st ++ [x])).1 = o.flatten.set (nn : Int).toNat (updY (top (st ++ [x])) (o.flatten.getD (nn : Int).toNat default)) := rfl
    rw [this, Int.toNat_natCast, hqf, top_snoc]
    rfl
  have e2 : (doOp size 13 nn o.flatten (st ++ [x])).2 = st := by
    have : (doOp size 13 nn o.flatten (st ++ [x])).2 = rest (st ++ [x]) := rfl
    rw [this, rest_snoc]
  have E1 := Lib.hid e1
  have E2 := Lib.hid e2
  have HK := Lib.hid hk
  have HQ := Lib.hid hq
  have HBK := Lib.hid hbk
  have HSUM := Lib.hid hsum
  have HI := Lib.hid hi
  have hfz0 := hfz (i * 3 + 1)
  have NA := Lib.hid (show Nw w (w.alloc (.cells #[.int .i64 13, .int .i64 nn, .int .i64 m] 45)) from (Ch.refl _ _).alloc _)
  have HPL := Lib.hid (show ∀ (d : Nat) (R : Ending → World → Prop), R (.returned (.tuple #[.int .i64 k, .int .i64 i])) ((w.alloc (.cells #[.int .i64 13, .int .i64 nn, .int .i64 m] 45)).drewN d) → Calls Try.prog 44 #[.slice (some ⟨g, 0, none⟩) o.length capg, .int .i64 nn] ((w.alloc (.cells #[.int .i64 13, .int .i64 nn, .int .i64 m] 45)).drewN d) R from
    fun d R hR' => rplace_at (((HF.out.nw NA.out).nw ((Ch.refl (fun _ => False) _).drewN d)).out) hk hi hsum hR')
  have k0 : (0 : Int) ≤ (k : Int) := by omega
  have k1 : (k : Int) < (o.length : Int) := by have := (List.getElem?_eq_some_iff.1 hk).1; omega
  have i0 : (0 : Int) ≤ (i : Int) := by omega
  have i1 : (i : Int) < (c.length : Int) := by omega
  clear hR h hb hrow hk hsum hbk hfz hpts hq hqf e1 e2 hn hi hp
  go_enter Try.func39, Try.ntmps39
  go_wp2_with (first | (go_at_call 43; refine rpoint_any _ ?_) | (go_at_call 42; fail))
  go_quiet (first | (go_at_call 44; refine HPL.out _ _ ?_; exact ⟨rfl, _, rfl⟩))
  go_wp2_with (go_at_call 44; fail)
  refine wp_name ?_
  intro W1 hW
  have N1 := Lib.hid (show Nw w W1 from by rw [hW]; exact NA.out.drewN _)
  have f1 : W1.cell? ⟨b, 1, none⟩ = some (.slice (some ⟨g, 0, none⟩) o.length capg) := N1.out.cell d1 id
  have f2 : W1.cell? ⟨g, k, none⟩ = some (.slice (some ⟨bk, 0, none⟩) c.length cb) := N1.out.cell hcell id
  have f3 := N1.out.cell p1 id
  have f4 : W1.frozen? ⟨bk, i * 3 + 1, none⟩ = false := (N1.out.frozen (a := ⟨bk, i * 3 + 1, none⟩) hbl id).trans hfz0
  have HS1 := Lib.hid (HF.out.rs.nw N1.out)
  have hne1 : ¬ g = b := by omega
  have hne2 : ¬ bk = b := by omega
  have lbk1 : bk < W1.heap.size := by have := N1.out.size; omega
  clear hW d1 hcell p0 p1 p2 hfz0
  go_region_held3 (fun w' => w'.cell? ⟨b, 1, none⟩ = some (.slice (some ⟨g, 0, none⟩) o.length capg) ∧ w'.cell? ⟨g, k, none⟩ = some (.slice (some ⟨bk, 0, none⟩) c.length cb)) (first | (exact ⟨f1, f2⟩) | (exact ⟨z1, c2.cell f2 hne1⟩) | (exact ⟨cell_setCell_ne _ z1 (fun e => hne2 e.symm), cell_setCell_ne _ (c2.cell f2 hne1) hgb⟩)) (first | (go_at_call 38; refine rpop_any x (by exact HS1.out) (by omega) ?_; intro w2 m2 c2; (have z1 : w2.cell? ⟨b, 1, none⟩ = some (.slice (some ⟨g, 0, none⟩) o.length capg) := by obtain ⟨vs', hb', -⟩ := m2; rw [cell_of hb']; rfl); have f3' := c2.cell f3 hne2; have f4' := (c2.frozen (a := ⟨bk, i * 3 + 1, none⟩) lbk1 hne2).trans f4))
  go_wp2
  go_end0
  have c3 : Ch (· = b) W1 w2 := c2.undrew
  have co2 : CopyOk w2 Bo (.slice (some ⟨g, 0, none⟩) o.length capg) bs o := (HF.out.co.ch N1.out (fun _ _ h => h)).ch c3 (fun k hk e => by have := HF.out.lt k hk; omega)
  have co3 := co2.store HBK.out HK.out (c' := c.set i (q.1, x, q.2.2)) (by simp) (flat_sety c i q x HQ.out)
  have cs : Ch (· = bk) w2 (w2.setCell ⟨bk, i * 3 + 1, none⟩ (.int .i64 x)) := (Ch.refl (· = bk) w2).setb (fun _ => rfl) _
  have hx := HF.out.lm x (by simp)
  refine HR.out _ (o.set k (c.set i (q.1, x, q.2.2))) (by rw [E1.out]; exact flatten_set o _ HK.out HI.out HSUM.out) (set_len HK.out (by simp)) ?_ ?_
  · rw [E2.out]
    obtain ⟨vs2, hb2, hr2⟩ := m2
    refine ⟨⟨vs2, cs.heap hb2 (fun e => hne2 e.symm), row_ch hr2 cs (fun k hk e => by have := (hr2.lt k hk).1; omega)⟩, co3, HF.out.lt, ⟨by rw [List.length_set]; exact HF.out.bnd.1, fun d hd => ?_⟩, fun y hy => HF.out.lm y (by simp [hy])⟩
    obtain ⟨b0, b1⟩ := HF.out.bnd.2 c (List.mem_of_getElem? HK.out)
    rcases List.mem_or_eq_of_mem_set hd with hd | rfl
    · exact HF.out.bnd.2 d hd
    · refine ⟨by rw [List.length_set]; exact b0, fun r hr => ?_⟩
      rcases List.mem_or_eq_of_mem_set hr with hr | rfl
      · exact b1 r hr
      · have hq := b1 q (List.mem_of_getElem? HQ.out)
        unfold wfP wfI at hq ⊢
        simp only
        omega
  · exact (((N1.out.mono (fun _ _ h => h.elim)).trans (c3.mono (fun n _ e => by omega))).trans (cs.mono (fun n _ e => by omega)))
end
end Go.Proofs.Ytlgcijafjcfnhaa
