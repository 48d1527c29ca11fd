/-
  The reference of the machine: the operations from an index up to another one: it computes 'exec'.
-/
import Derived.Test.YtlgcijafjcfnhaaRDo
import Derived.Test.YtlgcijafjcfnhaaRCheck
import Derived.Deep.CutBlock
import Derived.Deep.DeepCutAuto
import Derived.Deep.LoopGhost
namespace Go.Proofs.Ytlgcijafjcfnhaa
open Go.RowKit
set_option linter.unusedVariables false
set_option linter.unusedSimpArgs false

abbrev SO := List (List Pt) × List Int × Int
def fl (s : SO) : St := (s.1.flatten, s.2.1, s.2.2)

theorem chk_ne {c n m : Int} {room nest npts h : Nat} {s x : Int} (e : chk c n m room nest npts h s = some x) : x ≠ 0 := by
  unfold chk at e
  repeat' split at e
  all_goals first | (injection e with e; omega) | cases e
theorem iter_err_ne {f : St → Except Int St} (hf : ∀ st x, f st = .error x → x ≠ 0) : ∀ (r : Nat) (st : St) (x : Int), iter f r st = .error x → x ≠ 0 := by
  intro r
  induction r with
  | zero => intro st x h; cases h
  | succ r ih =>
    intro st x h
    unfold iter at h
    split at h
    · rename_i y hy
      injection h with h
      subst h
      exact ih _ _ hy
    · exact hf _ _ h
theorem exec_err_ne (l : List Op3) (size : Int) (fuel : Nat) : ∀ i e nest st x, exec l size fuel i e nest st = .error x → x ≠ 0 := by
  induction fuel with
  | zero => intro i e nest st x h; injection h with h; omega
  | succ fuel ih =>
    intro i e nest st x h
    unfold exec at h
    split at h
    · generalize l.getD i default = op at h
      obtain ⟨c, n, m⟩ := op
      simp only at h
      split at h
      · rename_i y hy
        injection h with h
        subst h
        exact chk_ne hy
      · split at h
        · rename_i y hy
          injection h with h
          subst h
          exact iter_err_ne (fun st x => ih _ _ _ st x) _ _ _ hy
        · exact ih _ _ _ _ _ h
    · cases h

theorem RS.step4 {w w' : World} {b : Nat} {vp vo : Value} {size : Int} {stk : List Int} {steps k : Int} (h : RS w b vp vo size stk steps) (hc : Ch (· = b) w w') (hb' : ∀ vs, w.heap[b]? = some (.cells #[vp, vo, .int .i64 size, vs, .int .i64 steps] 72 (0, 0)) → w'.heap[b]? = some (.cells #[vp, vo, .int .i64 size, vs, .int .i64 k] 72 (0, 0))) : RS w' b vp vo size stk k := by
  obtain ⟨vs, hb, ho⟩ := h
  exact ⟨vs, hb' vs hb, row_ch ho hc (fun j hj e => by have := (ho.lt j hj).1; omega)⟩

theorem rdo_any {w : World} {R : Ending → World → Prop} {b : Nat} {vp vo : Value} {size : Int} {Bo : Nat} {bs : List (Nat × Nat)} {o : List (List Pt)} {stk : List Int} {steps : Int} (c n m : Int) (hc : 1 ≤ c ∧ c ≤ 13) (h : RF w b vp vo size Bo bs o stk steps) (hp : pops c ≤ stk.length) (hl : stk.length - pops c + pushes c ≤ 8) (hl8 : stk.length ≤ 8)
    (hpt : isPt c = true → 0 ≤ n ∧ n < (o.flatten.length : Int)) (hBo : Bo ≤ b)
    (hR : ∀ w' o', o'.flatten = (doOp size c n o.flatten stk).1 → o'.map List.length = o.map List.length → RF w' b vp vo size Bo bs o' (doOp size c n o.flatten stk).2 steps → Ch (fun k => Bo ≤ k) w w' → R (.returned (.tuple #[])) w') : Calls Try.prog 39 #[.pointer (some ⟨b, 0, none⟩), .agg #[.int .i64 c, .int .i64 n, .int .i64 m]] w R := by
  by_cases h9 : c ≤ 9
  · refine rdo_plain c n m ⟨hc.1, h9⟩ h hp hl hl8 fun w' h1 h2 => hR w' o ?_ rfl h1 (h2.mono (fun _ _ e => by omega))
    unfold doOp
    obtain h | h | h | h | h | h | h | h | h : c = 1 ∨ c = 2 ∨ c = 3 ∨ c = 4 ∨ c = 5 ∨ c = 6 ∨ c = 7 ∨ c = 8 ∨ c = 9 := by omega
    all_goals (subst h; rfl)
  · obtain ⟨n0, n1⟩ := hpt (by unfold isPt; exact decide_eq_true (by omega))
    obtain ⟨nn, rfl⟩ : ∃ nn : Nat, n = (nn : Int) := ⟨n.toNat, by omega⟩
    obtain h | h | h | h : c = 10 ∨ c = 11 ∨ c = 12 ∨ c = 13 := by omega
    · subst h
      exact rdo_get10 nn m h (by simp [pops, pushes] at hl; omega) (by omega) fun w' h1 h2 => hR w' o rfl rfl h1 (h2.mono (fun _ _ e => by omega))
    · subst h
      exact rdo_get11 nn m h (by simp [pops, pushes] at hl; omega) (by omega) fun w' h1 h2 => hR w' o rfl rfl h1 (h2.mono (fun _ _ e => by omega))
    · subst h
      exact rdo_set12 nn m h (by simp [pops] at hp; omega) hl8 (by omega) hR hBo
    · subst h
      exact rdo_set13 nn m h (by simp [pops] at hp; omega) hl8 (by omega) hR hBo

set_option maxRecDepth 100000 in
set_option maxHeartbeats 2000000 in
theorem rblock_any (lo b Bo : Nat) (vp vo : Value) (size : Int) (bs : List (Nat × Nat)) (l : List Op3) (hlo : lo ≤ Bo) (hBo : Bo ≤ b) (fuel : Nat) : ∀ (i e nest : Nat) (s : SO) (w : World) (R : Ending → World → Prop),
    2001 ≤ (fuel : Int) + s.2.2 → 0 ≤ s.2.2 → s.2.2 ≤ 2000 → i ≤ e → RF w b vp vo size Bo bs s.1 s.2.1 s.2.2 → s.2.1.length ≤ 8 → IsOps w lo vp l → e ≤ l.length → nest ≤ 3 →
    (∀ x w', exec l size fuel i e nest (fl s) = .error x → Ch (fun k => Bo ≤ k) w w' → R (.returned (.int .i64 x)) w') →
    (∀ w' (s' : SO), exec l size fuel i e nest (fl s) = .ok (fl s') → s'.1.map List.length = s.1.map List.length → s'.2.1.length ≤ 8 → RF w' b vp vo size Bo bs s'.1 s'.2.1 s'.2.2 → Ch (fun k => Bo ≤ k) w w' → R (.returned (.int .i64 0)) w') →
    Calls Try.prog 28 #[.pointer (some ⟨b, 0, none⟩), .int .i64 i, .int .i64 e, .int .i64 nest] w R := by
  induction fuel using Nat.strongRecOn with
  | _ fuel ih =>
    intro i e nest s w R hfu hs0 hs1 hie hf hl8 hp he hn hE hK
    have HE := Lib.hid hE
    have HK := Lib.hid hK
    have IH := Lib.hid ih
    have HF := Lib.hid hf
    have HP := Lib.hid hp
    clear hE hK ih hf hp
    go_enter Try.func28, Try.ntmps28
    go_wp2_with fail
    go_loopw [1] (fun s1 wr => ∃ (k : Nat) (s' : SO) (f' : Nat), s1 = .int .i64 k ∧ k ≤ e ∧ RF wr b vp vo size Bo bs s'.1 s'.2.1 s'.2.2 ∧ s'.2.1.length ≤ 8 ∧ s'.1.map List.length = s.1.map List.length ∧ Ch (fun k => Bo ≤ k) w wr ∧ f' ≤ fuel ∧ 2001 ≤ (f' : Int) + s'.2.2 ∧ 0 ≤ s'.2.2 ∧ s'.2.2 ≤ 2000 ∧ exec l size fuel i e nest (fl s) = exec l size f' k e nest (fl s'))
      (fun s1 _ => e - (intOf s1).toNat)
    case atStart => exact ⟨i, s, fuel, rfl, hie, HF.out, hl8, rfl, Ch.refl _ _, Nat.le_refl _, hfu, hs0, hs1, rfl⟩
    case round =>
      obtain ⟨k, s', f', rfl, hk, hf', hl8', hmap, hc', hff, hfu', hs0', hs1', heq⟩ := hrel
      have HF' := Lib.hid hf'
      have HC' := Lib.hid hc'
      have HEQ := Lib.hid heq
      have HMAP := Lib.hid hmap
      clear hf' hc' heq hmap
      by_cases hlt : k < e
      · obtain ⟨⟨c, n, m⟩, hl⟩ : ∃ op, l[k]? = some op := ⟨_, List.getElem?_eq_getElem (by omega)⟩
        have HL := Lib.hid hl
        have HPr := Lib.hid (HP.out.kept HC'.out (fun j hj e => by omega))
        obtain ⟨A, cap, ep, hlen, hops⟩ := HPr.out
        obtain ⟨pk, po, hpk, rfl, g0, g1, g2⟩ := hops k c n m hl
        have k0 : (0 : Int) ≤ (k : Int) := by omega
        have k1 : (k : Int) < (l.length : Int) := by omega
        have lpk : pk < wr.heap.size := World.block_lt_of_cell? wr ⟨pk, _, none⟩ g0
        obtain ⟨f'', rfl⟩ : ∃ f'', f' = f'' + 1 := ⟨f' - 1, by omega⟩
        clear hl hops
        go_wp2_with (go_at_call 42; fail)
        refine rcheck_any lo _ l s'.1 k e nest HF'.out.rs HPr.out HF'.out.out HL.out hlt he hn hl8' ?_
        intro w1 hn1
        cases hchk : chk c n m (e - k) nest s'.1.flatten.length s'.2.1.length s'.2.2 with
        | some x =>
          have hx := chk_ne hchk
          have hx1 : (x != 0) = true := bne_iff_ne.2 hx
          have HCH := Lib.hid hchk
          have C1 := Lib.hid (HC'.out.trans (hn1.mono (fun _ _ h => h.elim)))
          clear hchk hn1
          simp only [Option.getD_some]
          go_wp2
          refine HE.out x w1 ?_ C1.out
          rw [HEQ.out]
          unfold exec
          rw [if_pos hlt, List.getD_eq_getElem?_getD, HL.out]
          simp only [Option.getD_some]
          have := HCH.out
          unfold fl
          simp only
          rw [this]
        | none =>
          have HCH := Lib.hid hchk
          obtain ⟨q1, q2, q3, q4, q5⟩ := chk_none hchk
          simp only [Option.getD_none]
          have HS1 := Lib.hid (HF'.out.nw hn1)
          have C1 := Lib.hid (HC'.out.trans (hn1.mono (fun _ _ h => h.elim)))
          have g0 := hn1.cell g0 id
          have g1 := hn1.cell g1 id
          have g2 := hn1.cell g2 id
          have lpk1 : pk < w1.heap.size := World.block_lt_of_cell? w1 ⟨pk, _, none⟩ g0
          obtain ⟨vs, hb, hrow⟩ := HS1.out.rs
          have d0 : w1.cell? ⟨b, 0, none⟩ = some (.slice (some ⟨pk, po, none⟩) l.length cap) := by rw [← ep, cell_of hb]; rfl
          have d4 : w1.cell? ⟨b, 4, none⟩ = some (.int .i64 s'.2.2) := by rw [cell_of hb]; rfl
          have fr4 : w1.frozen? ⟨b, 4, none⟩ = false := frozen_of hb
          have lb := lt_of_heap hb
          have hpb : ¬ pk = b := by omega
          have Q2 := Lib.hid q2
          have Q5 := Lib.hid q5
          have EP := Lib.hid ep
          have cs : Ch (· = b) w1 (w1.setCell ⟨b, 4, none⟩ (.int .i64 (s'.2.2 + 1))) := (Ch.refl (· = b) w1).setb (fun _ => rfl) _
          have f0 : RF ((w1.setCell ⟨b, 4, none⟩ (.int .i64 (s'.2.2 + 1))).alloc (.cells #[.int .i64 c, .int .i64 n, .int .i64 m] 45)) b vp vo size Bo bs s'.1 s'.2.1 (s'.2.2 + 1) :=
            (HS1.out.next (cs.mono (fun _ _ e => by omega)) (HS1.out.rs.step4 cs (fun vs2 hb2 => heap_setCell_eq _ hb2)) HS1.out.lm).nw ((Ch.refl (fun _ => False) _).alloc _)
          have F0 := Lib.hid f0
          have C0 := Lib.hid (show Ch (fun k => Bo ≤ k) w1 ((w1.setCell ⟨b, 4, none⟩ (.int .i64 (s'.2.2 + 1))).alloc (.cells #[.int .i64 c, .int .i64 n, .int .i64 m] 45)) from (cs.mono (fun _ _ e => by omega)).alloc _)
          clear hchk hn1 hb hrow cs f0 q2 q5 ep
          go_upto_block 2 with fail
          go_cut [11, 12] (fun s11 s12 wx => s11 = .int .i64 (rounds c n s'.2.1) ∧ s12 = .int .i64 (blen c n m) ∧ ∃ s2 : SO, fl s2 = own size c n (fl s') ∧ s2.1.map List.length = s'.1.map List.length ∧ RF wx b vp vo size Bo bs s2.1 s2.2.1 s2.2.2 ∧ s2.2.1.length ≤ 8 ∧ Ch (fun k => Bo ≤ k) w1 wx)
          case first =>
            by_cases h14 : c = 14
            · subst h14
              obtain ⟨st, x, hst⟩ := snoc_of_pos (stk := s'.2.1) (by simp [pops] at q3; omega)
              have HST := Lib.hid hst
              have hlen : st.length + 1 ≤ 8 := by have := hl8'; rw [hst, List.length_append, List.length_singleton] at this; exact this
              clear hst
              have fin : ∀ w2, RS w2 b vp vo size st (s'.2.2 + 1) → Ch (· = b) ((w1.setCell ⟨b, 4, none⟩ (.int .i64 (s'.2.2 + 1))).alloc (.cells #[.int .i64 14, .int .i64 n, .int .i64 m] 45)) w2 → ∃ s2 : SO, fl s2 = own size 14 n (fl s') ∧ s2.1.map List.length = s'.1.map List.length ∧ RF w2 b vp vo size Bo bs s2.1 s2.2.1 s2.2.2 ∧ s2.2.1.length ≤ 8 ∧ Ch (fun k => Bo ≤ k) w1 w2 := by
                intro w2 hs c2
                have hlm := F0.out.lm
                rw [HST.out] at hlm
                refine ⟨(s'.1, st, s'.2.2 + 1), ?_, rfl, F0.out.next (c2.mono (fun _ _ e => by omega)) hs (mem_dropLast_lim hlm).1, by simp only; omega, C0.out.trans (c2.mono (fun _ _ e => by omega))⟩
                simp only [own, reduceIte, fl, HST.out, rest_snoc]
              have FIN := Lib.hid fin
              clear fin
              by_cases hx : 0 < x
              · go_wp2_with (go_at_call 38; refine rpop_any (stk := st) x (by rw [← HST.out]; exact F0.out.rs) (by omega) ?_; intro w2 m2 c2)
                go_meet
                refine ⟨?_, rfl, FIN.out w2 m2 c2⟩
                rw [HST.out]; simp only [rounds, reduceIte, top_snoc, if_pos hx]; rfl
              · go_wp2_with (go_at_call 38; refine rpop_any (stk := st) x (by rw [← HST.out]; exact F0.out.rs) (by omega) ?_; intro w2 m2 c2)
                go_meet
                refine ⟨?_, rfl, FIN.out w2 m2 c2⟩
                rw [HST.out]; simp only [rounds, reduceIte, top_snoc]; rw [if_neg (by omega)]; rfl
            by_cases h15 : c = 15
            · subst h15
              go_wp2
              go_meet
              have hn1 := Q2.out.2.2.2.1 rfl
              have : ((rounds 15 n s'.2.1 : Nat) : Int) = n := by simp only [rounds, reduceIte, Int.reduceEq]; omega
              rw [this]
              exact ⟨rfl, rfl, (s'.1, s'.2.1, s'.2.2 + 1), by simp [own, fl], rfl, F0.out, hl8', C0.out⟩
            · have e14 : (c == 14) = false := beq_eq_false_iff_ne.2 h14
              have e15 : (c == 15) = false := beq_eq_false_iff_ne.2 h15
              have R0 : Hid (rounds c n s'.2.1 = 0) := by show _ = _; unfold rounds; rw [if_neg h14, if_neg h15]
              have B0 : Hid (blen c n m = 0) := by show _ = _; unfold blen; rw [if_neg h14, if_neg h15]
              have O0 : Hid (own size c n (fl s') = ((doOp size c n s'.1.flatten s'.2.1).1, (doOp size c n s'.1.flatten s'.2.1).2, s'.2.2 + 1)) := by show _ = _; unfold own; rw [if_neg h14, if_neg h15]; rfl
              have c13 : 1 ≤ c ∧ c ≤ 13 := by have := Q2.out.1; unfold bad at this; omega
              have hdl := (doOp_len (size := size) (n := n) (o := s'.1.flatten) (s := s'.2.1) c13 q3).2
              have hd8 : (doOp size c n s'.1.flatten s'.2.1).2.length ≤ 8 := by omega
              have HD8 := Lib.hid hd8
              have C13 := Lib.hid c13
              clear h14 h15 c13 hdl hd8
              go_wp2_with (go_at_call 42; fail)
              have done : ∀ w2 o2, o2.flatten = (doOp size c n s'.1.flatten s'.2.1).1 → o2.map List.length = s'.1.map List.length → RF w2 b vp vo size Bo bs o2 (doOp size c n s'.1.flatten s'.2.1).2 (s'.2.2 + 1) → Ch (fun k => Bo ≤ k) ((w1.setCell ⟨b, 4, none⟩ (.int .i64 (s'.2.2 + 1))).alloc (.cells #[.int .i64 c, .int .i64 n, .int .i64 m] 45)) w2 →
                  ∃ s2 : SO, fl s2 = own size c n (fl s') ∧ s2.1.map List.length = s'.1.map List.length ∧ RF w2 b vp vo size Bo bs s2.1 s2.2.1 s2.2.2 ∧ s2.2.1.length ≤ 8 ∧ Ch (fun k => Bo ≤ k) w1 w2 := by
                intro w2 o2 h1 h2 h3 h4
                refine ⟨(o2, (doOp size c n s'.1.flatten s'.2.1).2, s'.2.2 + 1), ?_, h2, h3, HD8.out, C0.out.trans h4⟩
                rw [O0.out]
                unfold fl
                simp only [h1]
              have DONE := Lib.hid done
              clear done
              refine rdo_any c n m C13.out F0.out q3 q4 hl8' Q5.out hBo ?_
              intro w2 o2 h1 h2 h3 h4
              have DN := Lib.hid (DONE.out w2 o2 h1 h2 h3 h4)
              clear h1 h2 h3 h4
              go_wp2
              go_meet
              exact ⟨by rw [R0.out]; rfl, by rw [B0.out], DN.out⟩
          case rest =>
            obtain ⟨rfl, rfl, s2, hs2, hm2, f2, hl2, c2⟩ := hcut
            have HS2 := Lib.hid hs2
            have HM2 := Lib.hid hm2
            have F2 := Lib.hid f2
            have C2 := Lib.hid (C1.out.trans c2)
            obtain ⟨bl0, bl1⟩ := blen_ge Q2.out (by omega)
            obtain ⟨L, hL⟩ : ∃ L : Nat, blen c n m = (L : Int) := ⟨(blen c n m).toNat, by omega⟩
            have HLn := Lib.hid hL
            have kL : k + 1 + L ≤ e := by omega
            obtain ⟨r16, rblk⟩ := rounds_le (stk := s'.2.1) Q2.out
            generalize hr : rounds c n s'.2.1 = r at r16 rblk
            have HRr := Lib.hid hr
            have RB := Lib.hid rblk
            rw [hL]
            have st2 : s2.2.2 = s'.2.2 + 1 := by
              have h1 : (fl s2).2.2 = (own size c n (fl s')).2.2 := by rw [hs2]
              have h2 : (own size c n (fl s')).2.2 = (fl s').2.2 + 1 := by unfold own; split <;> (try split) <;> rfl
              exact h1.trans h2
            have ST2 := Lib.hid st2
            have HX : Hid (exec l size fuel i e nest (fl s) = match iter (exec l size f'' (k + 1) (k + 1 + L) (nest + 1)) r (fl s2) with
                | .error x => .error x
                | .ok st2 => exec l size f'' (k + 1 + L) e nest st2) := by
              show _ = _
              rw [HEQ.out]
              show exec l size (f'' + 1) k e nest (fl s') = _
              rw [exec]
              rw [if_pos hlt, List.getD_eq_getElem?_getD, HL.out]
              simp only [Option.getD_some]
              have hch := HCH.out
              show (match chk c n m (e - k) nest s'.1.flatten.length s'.2.1.length s'.2.2 with | some x => _ | none => _) = _
              rw [hch]
              show (match iter (exec l size f'' (k + 1) (k + 1 + (blen c n m).toNat) (nest + 1)) (rounds c n s'.2.1) (own size c n (fl s')) with | .error x => _ | .ok st' => _) = _
              rw [HLn.out, HRr.out, ← HS2.out, Int.toNat_natCast]
            clear hs2 hm2 f2 c2 bl0 bl1 hL rblk hr st2 g0 g1 g2 d0 d4 fr4
            go_wp2
            go_loopw [13] (fun s13 wy => ∃ (j : Nat) (sj : SO), s13 = .int .i64 j ∧ j ≤ r ∧ iter (exec l size f'' (k + 1) (k + 1 + L) (nest + 1)) j (fl s2) = .ok (fl sj) ∧ RF wy b vp vo size Bo bs sj.1 sj.2.1 sj.2.2 ∧ sj.2.1.length ≤ 8 ∧ sj.1.map List.length = s.1.map List.length ∧ Ch (fun k => Bo ≤ k) w wy ∧ s'.2.2 + 1 ≤ sj.2.2 ∧ sj.2.2 ≤ 2000)
              (fun s13 _ => r - (intOf s13).toNat)
            case atStart => exact ⟨0, s2, rfl, Nat.zero_le _, rfl, F2.out, hl2, HM2.out.trans HMAP.out, C2.out, by rw [ST2.out]; omega, by rw [ST2.out]; omega⟩
            case round =>
              obtain ⟨j, sj, rfl, hj, hit, hfj, hlj, hmj, hcj, hsj, hsj2⟩ := hrel
              have HIT := Lib.hid hit
              have HFJ := Lib.hid hfj
              have HMJ := Lib.hid hmj
              have HCJ := Lib.hid hcj
              have j0 : (0 : Int) ≤ (j : Int) := by omega
              clear hit hfj hmj hcj
              by_cases hjr : j < r
              · have hnest : nest < 3 := (Q2.out.2.2.2.2 (RB.out (by omega))).2
                have j1 : (j : Int) < (r : Int) := by omega
                go_wp2_with (go_at_call 42; fail)
                rw [show ((k : Int) + 1) = ((k + 1 : Nat) : Int) from by omega, show (((k + 1 : Nat) : Int) + (L : Int)) = ((k + 1 + L : Nat) : Int) from by omega, show ((nest : Int) + 1) = ((nest + 1 : Nat) : Int) from by omega]
                refine IH.out f'' (by omega) (k + 1) (k + 1 + L) (nest + 1) sj _ _ (by omega) (by omega) (by omega) (by omega) HFJ.out hlj (HP.out.kept HCJ.out (fun j hj e => by omega)) (by omega) (by omega) ?_ ?_
                · intro x w2 hx c2
                  have hx0 : (x != 0) = true := bne_iff_ne.2 (exec_err_ne _ _ _ _ _ _ _ _ hx)
                  have HXX := Lib.hid hx
                  have HCC := Lib.hid c2
                  clear hx c2
                  go_wp2
                  refine HE.out x w2 ?_ (HCJ.out.trans HCC.out)
                  rw [HX.out, iter_error HIT.out HXX.out hjr]
                · intro w2 sa hx hma hla f2 c2
                  have hst := exec_steps l size f'' (k + 1) (k + 1 + L) (nest + 1) (fl sj) (fl sa) hx (by unfold fl; omega)
                  have HXX := Lib.hid hx
                  have HMA := Lib.hid hma
                  have HFF := Lib.hid f2
                  have HCC := Lib.hid c2
                  have HST := Lib.hid hst
                  clear hx hma f2 c2 hst
                  go_wp2
                  go_roundw
                  case rel => exact ⟨j + 1, sa, by go_num, by omega, by unfold iter; rw [HIT.out]; exact HXX.out, HFF.out, hla, HMA.out.trans HMJ.out, HCJ.out.trans HCC.out, by have := HST.out.1; unfold fl at this; simp only at this; omega, by have := HST.out.2; unfold fl at this; exact this⟩
                  case measure => simp [intOf]; omega
              · obtain rfl : j = r := by omega
                have j1 : ¬ (j : Int) < (j : Int) := by omega
                go_wp2
                go_roundw
                case rel => exact ⟨k + 1 + L, sj, f'', by go_num, kL, HFJ.out, hlj, HMJ.out, HCJ.out, by omega, by omega, by omega, hsj2, by rw [HX.out, HIT.out]⟩
                case measure => simp [intOf]; omega
      · go_wp2
        refine HK.out wr s' ?_ HMAP.out hl8' HF'.out HC'.out
        rw [HEQ.out]
        obtain ⟨f'', rfl⟩ : ∃ f'', f' = f'' + 1 := ⟨f' - 1, by omega⟩
        unfold exec
        rw [if_neg hlt]
end Go.Proofs.Ytlgcijafjcfnhaa
