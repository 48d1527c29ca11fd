/-
  ref08: one: an operation is checked.
-/
import Derived.Test.YtdpbdcaefdcooaaGreatDoorR8a
import Derived.Test.YtdpbdcaefdcooaaGreatDoorVBlock
import Derived.Test.YtdpbdcaefdcooaaGreatDoorRegI
import Derived.Test.YtdpbdcaefdcooaaGreatDoorWn
import Derived.Deep.Cut
import Derived.StillTailTactics
namespace Go.Proofs.YtdpbdcaefdcooaaGreatDoor
open Go.RowKit
set_option linter.unusedVariables false
set_option linter.unusedSimpArgs false
set_option maxRecDepth 100000

/-- The greater of two integers. -/
theorem goes_max2 {P : Program} {ops : Array Oper} {F : World → Prop} {o : Oper} {a : Act} {w0 : World} (x y : Operand) (ts : Array TypeId) (u v m : Int) (hw : Region.wanted o (yielded ops a.tmps) = true)
    (ho : o.op = .call { callee := .builtin .max, args := #[x, y], argTypes := ts }) (hx : a.eval x = .int .i64 u) (hy : a.eval y = .int .i64 v) (hm : m = (if u < v then v else u)) : Goes P ops F w0 o (.int .i64 m) a :=
  goes_read hw fun w _ => by
    subst hm
    clear hw
    generalize a.eval = ev at hx hy ⊢
    simp [execOp, ho, hx, hy, go_sem, Result.andThen]
/-- Block b holds what is known while a program is verified. -/
def IsSt (w : World) (b : Nat) (p : Value) (np : Int) (h d : Nat) : Prop := w.heap[b]? = some (.cells #[p, .int .i64 np, .int .i64 h, .int .i64 d] 60 (0, 0))
theorem vchk_bad {c n m np : Int} {room nest h : Nat} (hb : ¬ vform c n m ∨ (c = 15 ∧ (n < 1 ∨ 16 < n))) : vchk c n m room nest np h = some 5 := by unfold vchk; rw [if_pos hb]

set_option maxHeartbeats 8000000 in
theorem one_any (np : Int) (lo b : Nat) (hlo : lo ≤ b) (L : List VOp) (p : Value) (i t nest h d : Nat) (c x m : Int) (hq : L[i]? = some (c, x, m)) (hit : i < t) (htl : t ≤ L.length) (h64 : L.length ≤ 1000) (hn3 : nest ≤ 3) (w : World) (R : Ending → World → Prop)
    (hp : IsProg w lo p L) (hs : IsSt w b p np h d) (hh : h ≤ 8) (hd : d ≤ 8)
    (hE : ∀ w' e, vchk c x m (t - i) nest np h = some e → Nw w w' → R (.returned (.int .i64 e)) w')
    (hK : ∀ w', vchk c x m (t - i) nest np h = none → IsSt w' b p np (h - vtakes c + vputs c) (max d (h - vtakes c + vputs c)) → Ch (· = b) w w' → R (.returned (.int .i64 0)) w') :
    Calls Tryz.prog 42 #[.pointer (some ⟨b, 0, none⟩), .int .i64 i, .int .i64 t, .int .i64 nest] w R := by
  have HE := Lib.hid hE
  have HK := Lib.hid hK
  clear hE hK
  obtain ⟨A, cap, rfl, hl1, hl2, hel⟩ := hp
  obtain ⟨pk, po, hpk, rfl, c0, c1, c2⟩ := hel i c x m hq
  have i0 : (0 : Int) ≤ (i : Int) := by omega
  have i1 : (i : Int) < (L.length : Int) := by omega
  have HST := Lib.hid (show w.heap[b]? = some (.cells #[.slice (some ⟨pk, po, none⟩) L.length cap, .int .i64 np, .int .i64 h, .int .i64 d] 60 (0, 0)) from hs)
  have NX := Lib.hid (Ch.refl (fun _ => False) w)
  have sb : b < w.heap.size := lt_of_heap hs
  clear hs hel hq
  go_enter Tryz.func42, Tryz.ntmps42
  have kHST0 : w.cell? ⟨b, 0, none⟩ = some (.slice (some ⟨pk, po, none⟩) L.length cap) := by rw [cell_of HST.out]; rfl
  have jHST0 : ∀ o, (w.alloc o).cell? ⟨b, 0, none⟩ = some (.slice (some ⟨pk, po, none⟩) L.length cap) := fun o => cell_alloc_old o kHST0
  have kHST1 : w.cell? ⟨b, 1, none⟩ = some (.int .i64 np) := by rw [cell_of HST.out]; rfl
  have jHST1 : ∀ o, (w.alloc o).cell? ⟨b, 1, none⟩ = some (.int .i64 np) := fun o => cell_alloc_old o kHST1
  have kHST2 : w.cell? ⟨b, 2, none⟩ = some (.int .i64 h) := by rw [cell_of HST.out]; rfl
  have jHST2 : ∀ o, (w.alloc o).cell? ⟨b, 2, none⟩ = some (.int .i64 h) := fun o => cell_alloc_old o kHST2
  have kHST3 : w.cell? ⟨b, 3, none⟩ = some (.int .i64 d) := by rw [cell_of HST.out]; rfl
  have jHST3 : ∀ o, (w.alloc o).cell? ⟨b, 3, none⟩ = some (.int .i64 d) := fun o => cell_alloc_old o kHST3
  go_wp2_with (go_at_call 42; fail)
  clear kHST0 jHST0 kHST1 jHST1 kHST2 jHST2 kHST3 jHST3
  refine Calls_nm ?_
  intro W1 hW
  have n : Nw w W1 := by rw [hW]; first | exact Ch.refl _ _ | exact (Ch.refl _ _).alloc _ | exact ((Ch.refl _ _).alloc _).alloc _
  replace HST := Lib.hid (n.heap HST.out id)
  replace NX := Lib.hid (NX.out.trans n)
  have HOB := Lib.hid (show W1.heap[w.heap.size]? = some (.cells #[.int .i64 c, .int .i64 x, .int .i64 m] 49 (0, 0)) from by rw [hW]; exact heap_alloc_eq _ rfl)
  clear hW n
  clear c0 c1 c2
  refine rformed_any c x m _ _ ?_
  intro w2 n
  replace HST := Lib.hid (n.heap HST.out id)
  replace NX := Lib.hid (NX.out.trans n)
  replace HOB := Lib.hid (n.heap HOB.out id)
  clear n
  rcases Classical.em (vform c x m) with hf | hf
  · as_aux_lemma =>
    rw [decide_eq_true hf]
    have HF := Lib.hid hf
    have cr := hf.1
    clear hf
    obtain hc | hc | hc | hc : c = 15 ∨ c = 14 ∨ (10 ≤ c ∧ c ≤ 13) ∨ (1 ≤ c ∧ c < 10) := by omega
    · as_aux_lemma =>
      have t15 : (c == 15) = true := by simp [hc]
      have c14 : c ≥ 14 := by omega
      have c10 : c ≥ 10 := by omega
      have c13 : ¬ c ≤ 13 := by omega
      have HC := Lib.hid hc
      clear hc
      obtain hn | hn | hn : x < 1 ∨ 16 < x ∨ (1 ≤ x ∧ x ≤ 16) := by omega
      · as_aux_lemma =>
        have kHST0 : w2.cell? ⟨b, 0, none⟩ = some (.slice (some ⟨pk, po, none⟩) L.length cap) := by rw [cell_of HST.out]; rfl
        have jHST0 : ∀ o, (w2.alloc o).cell? ⟨b, 0, none⟩ = some (.slice (some ⟨pk, po, none⟩) L.length cap) := fun o => cell_alloc_old o kHST0
        have kHST1 : w2.cell? ⟨b, 1, none⟩ = some (.int .i64 np) := by rw [cell_of HST.out]; rfl
        have jHST1 : ∀ o, (w2.alloc o).cell? ⟨b, 1, none⟩ = some (.int .i64 np) := fun o => cell_alloc_old o kHST1
        have kHST2 : w2.cell? ⟨b, 2, none⟩ = some (.int .i64 h) := by rw [cell_of HST.out]; rfl
        have jHST2 : ∀ o, (w2.alloc o).cell? ⟨b, 2, none⟩ = some (.int .i64 h) := fun o => cell_alloc_old o kHST2
        have kHST3 : w2.cell? ⟨b, 3, none⟩ = some (.int .i64 d) := by rw [cell_of HST.out]; rfl
        have jHST3 : ∀ o, (w2.alloc o).cell? ⟨b, 3, none⟩ = some (.int .i64 d) := fun o => cell_alloc_old o kHST3
        have kHOB0 : w2.cell? ⟨w.heap.size, 0, none⟩ = some (.int .i64 c) := by rw [cell_of HOB.out]; rfl
        have jHOB0 : ∀ o, (w2.alloc o).cell? ⟨w.heap.size, 0, none⟩ = some (.int .i64 c) := fun o => cell_alloc_old o kHOB0
        have kHOB1 : w2.cell? ⟨w.heap.size, 1, none⟩ = some (.int .i64 x) := by rw [cell_of HOB.out]; rfl
        have jHOB1 : ∀ o, (w2.alloc o).cell? ⟨w.heap.size, 1, none⟩ = some (.int .i64 x) := fun o => cell_alloc_old o kHOB1
        have kHOB2 : w2.cell? ⟨w.heap.size, 2, none⟩ = some (.int .i64 m) := by rw [cell_of HOB.out]; rfl
        have jHOB2 : ∀ o, (w2.alloc o).cell? ⟨w.heap.size, 2, none⟩ = some (.int .i64 m) := fun o => cell_alloc_old o kHOB2
        go_wp2
        exact HE.out _ 5 (vchk_bad (Or.inr ⟨HC.out, Or.inl hn⟩)) NX.out
      · as_aux_lemma =>
        have hn1 : ¬ x < 1 := by omega
        have hn2 : x > 16 := hn
        have kHST0 : w2.cell? ⟨b, 0, none⟩ = some (.slice (some ⟨pk, po, none⟩) L.length cap) := by rw [cell_of HST.out]; rfl
        have jHST0 : ∀ o, (w2.alloc o).cell? ⟨b, 0, none⟩ = some (.slice (some ⟨pk, po, none⟩) L.length cap) := fun o => cell_alloc_old o kHST0
        have kHST1 : w2.cell? ⟨b, 1, none⟩ = some (.int .i64 np) := by rw [cell_of HST.out]; rfl
        have jHST1 : ∀ o, (w2.alloc o).cell? ⟨b, 1, none⟩ = some (.int .i64 np) := fun o => cell_alloc_old o kHST1
        have kHST2 : w2.cell? ⟨b, 2, none⟩ = some (.int .i64 h) := by rw [cell_of HST.out]; rfl
        have jHST2 : ∀ o, (w2.alloc o).cell? ⟨b, 2, none⟩ = some (.int .i64 h) := fun o => cell_alloc_old o kHST2
        have kHST3 : w2.cell? ⟨b, 3, none⟩ = some (.int .i64 d) := by rw [cell_of HST.out]; rfl
        have jHST3 : ∀ o, (w2.alloc o).cell? ⟨b, 3, none⟩ = some (.int .i64 d) := fun o => cell_alloc_old o kHST3
        have kHOB0 : w2.cell? ⟨w.heap.size, 0, none⟩ = some (.int .i64 c) := by rw [cell_of HOB.out]; rfl
        have jHOB0 : ∀ o, (w2.alloc o).cell? ⟨w.heap.size, 0, none⟩ = some (.int .i64 c) := fun o => cell_alloc_old o kHOB0
        have kHOB1 : w2.cell? ⟨w.heap.size, 1, none⟩ = some (.int .i64 x) := by rw [cell_of HOB.out]; rfl
        have jHOB1 : ∀ o, (w2.alloc o).cell? ⟨w.heap.size, 1, none⟩ = some (.int .i64 x) := fun o => cell_alloc_old o kHOB1
        have kHOB2 : w2.cell? ⟨w.heap.size, 2, none⟩ = some (.int .i64 m) := by rw [cell_of HOB.out]; rfl
        have jHOB2 : ∀ o, (w2.alloc o).cell? ⟨w.heap.size, 2, none⟩ = some (.int .i64 m) := fun o => cell_alloc_old o kHOB2
        go_wp2
        exact HE.out _ 5 (vchk_bad (Or.inr ⟨HC.out, Or.inr hn⟩)) NX.out
      · as_aux_lemma =>
        have hn1 : ¬ x < 1 := by omega
        have hn2 : ¬ x > 16 := by omega
        have HL := Lib.hid (show c = 15 → 1 ≤ x ∧ x ≤ 16 from fun _ => hn)
        have H14 := Lib.hid (show 14 ≤ c from c14)
        have HB := fun w R => blk_any c x m w R
        obtain ⟨lv, hlv⟩ : ∃ z, vlen c x m = z := ⟨_, rfl⟩
        rw [hlv] at HB
        have HBL := Lib.hid HB
        have HLV := Lib.hid hlv
        clear HB hlv
        have kHST0 : w2.cell? ⟨b, 0, none⟩ = some (.slice (some ⟨pk, po, none⟩) L.length cap) := by rw [cell_of HST.out]; rfl
        have jHST0 : ∀ o, (w2.alloc o).cell? ⟨b, 0, none⟩ = some (.slice (some ⟨pk, po, none⟩) L.length cap) := fun o => cell_alloc_old o kHST0
        have kHST1 : w2.cell? ⟨b, 1, none⟩ = some (.int .i64 np) := by rw [cell_of HST.out]; rfl
        have jHST1 : ∀ o, (w2.alloc o).cell? ⟨b, 1, none⟩ = some (.int .i64 np) := fun o => cell_alloc_old o kHST1
        have kHST2 : w2.cell? ⟨b, 2, none⟩ = some (.int .i64 h) := by rw [cell_of HST.out]; rfl
        have jHST2 : ∀ o, (w2.alloc o).cell? ⟨b, 2, none⟩ = some (.int .i64 h) := fun o => cell_alloc_old o kHST2
        have kHST3 : w2.cell? ⟨b, 3, none⟩ = some (.int .i64 d) := by rw [cell_of HST.out]; rfl
        have jHST3 : ∀ o, (w2.alloc o).cell? ⟨b, 3, none⟩ = some (.int .i64 d) := fun o => cell_alloc_old o kHST3
        have kHOB0 : w2.cell? ⟨w.heap.size, 0, none⟩ = some (.int .i64 c) := by rw [cell_of HOB.out]; rfl
        have jHOB0 : ∀ o, (w2.alloc o).cell? ⟨w.heap.size, 0, none⟩ = some (.int .i64 c) := fun o => cell_alloc_old o kHOB0
        have kHOB1 : w2.cell? ⟨w.heap.size, 1, none⟩ = some (.int .i64 x) := by rw [cell_of HOB.out]; rfl
        have jHOB1 : ∀ o, (w2.alloc o).cell? ⟨w.heap.size, 1, none⟩ = some (.int .i64 x) := fun o => cell_alloc_old o kHOB1
        have kHOB2 : w2.cell? ⟨w.heap.size, 2, none⟩ = some (.int .i64 m) := by rw [cell_of HOB.out]; rfl
        have jHOB2 : ∀ o, (w2.alloc o).cell? ⟨w.heap.size, 2, none⟩ = some (.int .i64 m) := fun o => cell_alloc_old o kHOB2
        go_wp2_with (go_at_call 42; fail)
        clear kHST0 jHST0 kHST1 jHST1 kHST2 jHST2 kHST3 jHST3 kHOB0 jHOB0 kHOB1 jHOB1 kHOB2 jHOB2
        refine Calls_nm ?_
        intro W3 hW
        have n : Nw w2 W3 := by rw [hW]; first | exact Ch.refl _ _ | exact (Ch.refl _ _).alloc _ | exact ((Ch.refl _ _).alloc _).alloc _
        replace HST := Lib.hid (n.heap HST.out id)
        replace NX := Lib.hid (NX.out.trans n)
        replace HOB := Lib.hid (n.heap HOB.out id)
        clear hW n
        refine HBL.out _ _ ?_
        intro w4 n
        replace HST := Lib.hid (n.heap HST.out id)
        replace NX := Lib.hid (NX.out.trans n)
        replace HOB := Lib.hid (n.heap HOB.out id)
        clear n
        obtain hb | hb : lv < 1 ∨ 1 ≤ lv := by omega
        · as_aux_lemma =>
          have b1 : lv < 1 := hb
          have kHST0 : w4.cell? ⟨b, 0, none⟩ = some (.slice (some ⟨pk, po, none⟩) L.length cap) := by rw [cell_of HST.out]; rfl
          have jHST0 : ∀ o, (w4.alloc o).cell? ⟨b, 0, none⟩ = some (.slice (some ⟨pk, po, none⟩) L.length cap) := fun o => cell_alloc_old o kHST0
          have kHST1 : w4.cell? ⟨b, 1, none⟩ = some (.int .i64 np) := by rw [cell_of HST.out]; rfl
          have jHST1 : ∀ o, (w4.alloc o).cell? ⟨b, 1, none⟩ = some (.int .i64 np) := fun o => cell_alloc_old o kHST1
          have kHST2 : w4.cell? ⟨b, 2, none⟩ = some (.int .i64 h) := by rw [cell_of HST.out]; rfl
          have jHST2 : ∀ o, (w4.alloc o).cell? ⟨b, 2, none⟩ = some (.int .i64 h) := fun o => cell_alloc_old o kHST2
          have kHST3 : w4.cell? ⟨b, 3, none⟩ = some (.int .i64 d) := by rw [cell_of HST.out]; rfl
          have jHST3 : ∀ o, (w4.alloc o).cell? ⟨b, 3, none⟩ = some (.int .i64 d) := fun o => cell_alloc_old o kHST3
          have kHOB0 : w4.cell? ⟨w.heap.size, 0, none⟩ = some (.int .i64 c) := by rw [cell_of HOB.out]; rfl
          have jHOB0 : ∀ o, (w4.alloc o).cell? ⟨w.heap.size, 0, none⟩ = some (.int .i64 c) := fun o => cell_alloc_old o kHOB0
          have kHOB1 : w4.cell? ⟨w.heap.size, 1, none⟩ = some (.int .i64 x) := by rw [cell_of HOB.out]; rfl
          have jHOB1 : ∀ o, (w4.alloc o).cell? ⟨w.heap.size, 1, none⟩ = some (.int .i64 x) := fun o => cell_alloc_old o kHOB1
          have kHOB2 : w4.cell? ⟨w.heap.size, 2, none⟩ = some (.int .i64 m) := by rw [cell_of HOB.out]; rfl
          have jHOB2 : ∀ o, (w4.alloc o).cell? ⟨w.heap.size, 2, none⟩ = some (.int .i64 m) := fun o => cell_alloc_old o kHOB2
          go_wp2
          exact HE.out _ 5 (vchk_len HF.out HL.out H14.out (Or.inl (by rw [HLV.out]; exact hb))) NX.out
        · as_aux_lemma =>
          have b1 : ¬ lv < 1 := by omega
          have kHST0 : w4.cell? ⟨b, 0, none⟩ = some (.slice (some ⟨pk, po, none⟩) L.length cap) := by rw [cell_of HST.out]; rfl
          have jHST0 : ∀ o, (w4.alloc o).cell? ⟨b, 0, none⟩ = some (.slice (some ⟨pk, po, none⟩) L.length cap) := fun o => cell_alloc_old o kHST0
          have kHST1 : w4.cell? ⟨b, 1, none⟩ = some (.int .i64 np) := by rw [cell_of HST.out]; rfl
          have jHST1 : ∀ o, (w4.alloc o).cell? ⟨b, 1, none⟩ = some (.int .i64 np) := fun o => cell_alloc_old o kHST1
          have kHST2 : w4.cell? ⟨b, 2, none⟩ = some (.int .i64 h) := by rw [cell_of HST.out]; rfl
          have jHST2 : ∀ o, (w4.alloc o).cell? ⟨b, 2, none⟩ = some (.int .i64 h) := fun o => cell_alloc_old o kHST2
          have kHST3 : w4.cell? ⟨b, 3, none⟩ = some (.int .i64 d) := by rw [cell_of HST.out]; rfl
          have jHST3 : ∀ o, (w4.alloc o).cell? ⟨b, 3, none⟩ = some (.int .i64 d) := fun o => cell_alloc_old o kHST3
          have kHOB0 : w4.cell? ⟨w.heap.size, 0, none⟩ = some (.int .i64 c) := by rw [cell_of HOB.out]; rfl
          have jHOB0 : ∀ o, (w4.alloc o).cell? ⟨w.heap.size, 0, none⟩ = some (.int .i64 c) := fun o => cell_alloc_old o kHOB0
          have kHOB1 : w4.cell? ⟨w.heap.size, 1, none⟩ = some (.int .i64 x) := by rw [cell_of HOB.out]; rfl
          have jHOB1 : ∀ o, (w4.alloc o).cell? ⟨w.heap.size, 1, none⟩ = some (.int .i64 x) := fun o => cell_alloc_old o kHOB1
          have kHOB2 : w4.cell? ⟨w.heap.size, 2, none⟩ = some (.int .i64 m) := by rw [cell_of HOB.out]; rfl
          have jHOB2 : ∀ o, (w4.alloc o).cell? ⟨w.heap.size, 2, none⟩ = some (.int .i64 m) := fun o => cell_alloc_old o kHOB2
          go_wp2_with (go_at_call 42; fail)
          clear kHST0 jHST0 kHST1 jHST1 kHST2 jHST2 kHST3 jHST3 kHOB0 jHOB0 kHOB1 jHOB1 kHOB2 jHOB2
          refine Calls_nm ?_
          intro W5 hW
          have n : Nw w4 W5 := by rw [hW]; first | exact Ch.refl _ _ | exact (Ch.refl _ _).alloc _ | exact ((Ch.refl _ _).alloc _).alloc _
          replace HST := Lib.hid (n.heap HST.out id)
          replace NX := Lib.hid (NX.out.trans n)
          replace HOB := Lib.hid (n.heap HOB.out id)
          clear hW n
          refine HBL.out _ _ ?_
          intro w6 n
          replace HST := Lib.hid (n.heap HST.out id)
          replace NX := Lib.hid (NX.out.trans n)
          replace HOB := Lib.hid (n.heap HOB.out id)
          clear n
          obtain hb2 | hb2 : (t : Int) - (i : Int) - 1 < lv ∨ lv ≤ (t : Int) - (i : Int) - 1 := by omega
          · as_aux_lemma =>
            have b2 : lv > (t : Int) - (i : Int) - 1 := by omega
            have kHST0 : w6.cell? ⟨b, 0, none⟩ = some (.slice (some ⟨pk, po, none⟩) L.length cap) := by rw [cell_of HST.out]; rfl
            have jHST0 : ∀ o, (w6.alloc o).cell? ⟨b, 0, none⟩ = some (.slice (some ⟨pk, po, none⟩) L.length cap) := fun o => cell_alloc_old o kHST0
            have kHST1 : w6.cell? ⟨b, 1, none⟩ = some (.int .i64 np) := by rw [cell_of HST.out]; rfl
            have jHST1 : ∀ o, (w6.alloc o).cell? ⟨b, 1, none⟩ = some (.int .i64 np) := fun o => cell_alloc_old o kHST1
            have kHST2 : w6.cell? ⟨b, 2, none⟩ = some (.int .i64 h) := by rw [cell_of HST.out]; rfl
            have jHST2 : ∀ o, (w6.alloc o).cell? ⟨b, 2, none⟩ = some (.int .i64 h) := fun o => cell_alloc_old o kHST2
            have kHST3 : w6.cell? ⟨b, 3, none⟩ = some (.int .i64 d) := by rw [cell_of HST.out]; rfl
            have jHST3 : ∀ o, (w6.alloc o).cell? ⟨b, 3, none⟩ = some (.int .i64 d) := fun o => cell_alloc_old o kHST3
            have kHOB0 : w6.cell? ⟨w.heap.size, 0, none⟩ = some (.int .i64 c) := by rw [cell_of HOB.out]; rfl
            have jHOB0 : ∀ o, (w6.alloc o).cell? ⟨w.heap.size, 0, none⟩ = some (.int .i64 c) := fun o => cell_alloc_old o kHOB0
            have kHOB1 : w6.cell? ⟨w.heap.size, 1, none⟩ = some (.int .i64 x) := by rw [cell_of HOB.out]; rfl
            have jHOB1 : ∀ o, (w6.alloc o).cell? ⟨w.heap.size, 1, none⟩ = some (.int .i64 x) := fun o => cell_alloc_old o kHOB1
            have kHOB2 : w6.cell? ⟨w.heap.size, 2, none⟩ = some (.int .i64 m) := by rw [cell_of HOB.out]; rfl
            have jHOB2 : ∀ o, (w6.alloc o).cell? ⟨w.heap.size, 2, none⟩ = some (.int .i64 m) := fun o => cell_alloc_old o kHOB2
            go_wp2
            exact HE.out _ 5 (vchk_len HF.out HL.out H14.out (Or.inr (by rw [HLV.out]; omega))) NX.out
          · as_aux_lemma =>
            have b2 : ¬ lv > (t : Int) - (i : Int) - 1 := by omega
            have HLE := Lib.hid (show 1 ≤ vlen c x m ∧ vlen c x m < ((t - i : Nat) : Int) from by rw [HLV.out]; omega)
            obtain hnn | hnn : nest = 3 ∨ nest ≠ 3 := by omega
            · as_aux_lemma =>
              have b3 : ((nest : Int) == 3) = true := by simp; omega
              have kHST0 : w6.cell? ⟨b, 0, none⟩ = some (.slice (some ⟨pk, po, none⟩) L.length cap) := by rw [cell_of HST.out]; rfl
              have jHST0 : ∀ o, (w6.alloc o).cell? ⟨b, 0, none⟩ = some (.slice (some ⟨pk, po, none⟩) L.length cap) := fun o => cell_alloc_old o kHST0
              have kHST1 : w6.cell? ⟨b, 1, none⟩ = some (.int .i64 np) := by rw [cell_of HST.out]; rfl
              have jHST1 : ∀ o, (w6.alloc o).cell? ⟨b, 1, none⟩ = some (.int .i64 np) := fun o => cell_alloc_old o kHST1
              have kHST2 : w6.cell? ⟨b, 2, none⟩ = some (.int .i64 h) := by rw [cell_of HST.out]; rfl
              have jHST2 : ∀ o, (w6.alloc o).cell? ⟨b, 2, none⟩ = some (.int .i64 h) := fun o => cell_alloc_old o kHST2
              have kHST3 : w6.cell? ⟨b, 3, none⟩ = some (.int .i64 d) := by rw [cell_of HST.out]; rfl
              have jHST3 : ∀ o, (w6.alloc o).cell? ⟨b, 3, none⟩ = some (.int .i64 d) := fun o => cell_alloc_old o kHST3
              have kHOB0 : w6.cell? ⟨w.heap.size, 0, none⟩ = some (.int .i64 c) := by rw [cell_of HOB.out]; rfl
              have jHOB0 : ∀ o, (w6.alloc o).cell? ⟨w.heap.size, 0, none⟩ = some (.int .i64 c) := fun o => cell_alloc_old o kHOB0
              have kHOB1 : w6.cell? ⟨w.heap.size, 1, none⟩ = some (.int .i64 x) := by rw [cell_of HOB.out]; rfl
              have jHOB1 : ∀ o, (w6.alloc o).cell? ⟨w.heap.size, 1, none⟩ = some (.int .i64 x) := fun o => cell_alloc_old o kHOB1
              have kHOB2 : w6.cell? ⟨w.heap.size, 2, none⟩ = some (.int .i64 m) := by rw [cell_of HOB.out]; rfl
              have jHOB2 : ∀ o, (w6.alloc o).cell? ⟨w.heap.size, 2, none⟩ = some (.int .i64 m) := fun o => cell_alloc_old o kHOB2
              go_wp2
              exact HE.out _ 20 (vchk_nest HF.out HL.out H14.out HLE.out hnn) NX.out
            · as_aux_lemma =>
              have b3 : ((nest : Int) == 3) = false := by simp; omega
              have HV := Lib.hid (vchk_rest (np := np) (h := h) HF.out HL.out (fun _ => ⟨HLE.out, hnn⟩))
              have hv := HV.out
              rw [if_neg (by omega)] at hv
              have HVR := Lib.hid hv
              clear hv HV
              have kHST0 : w6.cell? ⟨b, 0, none⟩ = some (.slice (some ⟨pk, po, none⟩) L.length cap) := by rw [cell_of HST.out]; rfl
              have kHST1 : w6.cell? ⟨b, 1, none⟩ = some (.int .i64 np) := by rw [cell_of HST.out]; rfl
              have kHST2 : w6.cell? ⟨b, 2, none⟩ = some (.int .i64 h) := by rw [cell_of HST.out]; rfl
              have kHST3 : w6.cell? ⟨b, 3, none⟩ = some (.int .i64 d) := by rw [cell_of HST.out]; rfl
              have kHOB0 : w6.cell? ⟨w.heap.size, 0, none⟩ = some (.int .i64 c) := by rw [cell_of HOB.out]; rfl
              have kHOB1 : w6.cell? ⟨w.heap.size, 1, none⟩ = some (.int .i64 x) := by rw [cell_of HOB.out]; rfl
              have kHOB2 : w6.cell? ⟨w.heap.size, 2, none⟩ = some (.int .i64 m) := by rw [cell_of HOB.out]; rfl
              go_upto_region 9 with (fail)
              clear kHST0 kHST1 kHST2 kHST3 kHOB0 kHOB1 kHOB2
              have dd0 : decide (c ≥ 10) = true := by simp; omega
              have dd1 : decide (10 ≤ c) = true := by simp; omega
              have dd2 : decide (c ≤ 13) = false := by simp; omega
              refine wp_named ?_
              intro W7 hW
              have n : Nw w6 W7 := by rw [hW]; first | exact Ch.refl _ _ | exact (Ch.refl _ _).alloc _
              replace HST := Lib.hid (n.heap HST.out id)
              replace NX := Lib.hid (NX.out.trans n)
              replace HOB := Lib.hid (n.heap HOB.out id)
              clear hW n
              refine wp_region_V (F := fun w' => w'.cell? ⟨b, 0, none⟩ = some (.slice (some ⟨pk, po, none⟩) L.length cap) ∧ w'.cell? ⟨b, 1, none⟩ = some (.int .i64 np) ∧ w'.cell? ⟨b, 2, none⟩ = some (.int .i64 h) ∧ w'.cell? ⟨b, 3, none⟩ = some (.int .i64 d) ∧ w'.cell? ⟨w.heap.size, 0, none⟩ = some (.int .i64 c) ∧ w'.cell? ⟨w.heap.size, 1, none⟩ = some (.int .i64 x) ∧ w'.cell? ⟨w.heap.size, 2, none⟩ = some (.int .i64 m)) (opsOf Tryz.f42 9) 22 22 (by kernel_rfl) (by kernel_rfl) (by kernel_rfl) (fun w w' h n => ⟨n.cell h.1 id, n.cell h.2.1 id, n.cell h.2.2.1 id, n.cell h.2.2.2.1 id, n.cell h.2.2.2.2.1 id, n.cell h.2.2.2.2.2.1 id, n.cell h.2.2.2.2.2.2 id⟩) ⟨by show W7.cell? _ = _; rw [cell_of HST.out]; rfl, by show W7.cell? _ = _; rw [cell_of HST.out]; rfl, by show W7.cell? _ = _; rw [cell_of HST.out]; rfl, by show W7.cell? _ = _; rw [cell_of HST.out]; rfl, by show W7.cell? _ = _; rw [cell_of HOB.out]; rfl, by show W7.cell? _ = _; rw [cell_of HOB.out]; rfl, by show W7.cell? _ = _; rw [cell_of HOB.out]; rfl⟩ (fun HOPS HCL hHeld => ?_)
              refine wpU_named ?_
              intro W8 hW
              try rw [← hW] at hHeld
              have n : Nw W7 W8 := by rw [hW]; exact (Ch.refl _ _).drew
              replace HST := Lib.hid (n.heap HST.out id)
              replace NX := Lib.hid (NX.out.trans n)
              replace HOB := Lib.hid (n.heap HOB.out id)
              clear hW n
              first | (refine wpU_takeB (i := 0) (v := ?_) HOPS rfl (by kernel_rfl) (fun _ _ _ h => h) HCL (goes_read (by rfl) ?hy) ?_; case hy => (intro w hSw; (try dsimp only at hSw); go_simp; (try with_reducible rfl))) | (refine wpU_takeB (i := 0) (v := _) HOPS rfl (by kernel_rfl) (fun _ _ _ h => h) HCL (goes_not (by rfl)) ?_)
              try simp only [Act.put, List.getElem_toArray, List.getElem_cons_succ, List.getElem_cons_zero, List.setIfInBounds_toArray, List.set_cons_zero, List.set_cons_succ]
              first | (refine wpU_takeB (i := 1) (v := ?_) HOPS rfl (by kernel_rfl) (fun _ _ _ h => h) HCL (goes_read (by rfl) ?hy) ?_; case hy => (intro w hSw; (try dsimp only at hSw); go_simp; (try with_reducible rfl))) | (refine wpU_takeB (i := 1) (v := _) HOPS rfl (by kernel_rfl) (fun _ _ _ h => h) HCL (goes_not (by rfl)) ?_)
              try simp only [Act.put, List.getElem_toArray, List.getElem_cons_succ, List.getElem_cons_zero, List.setIfInBounds_toArray, List.set_cons_zero, List.set_cons_succ]
              first | (refine wpU_takeB (i := 2) (v := ?_) HOPS rfl (by kernel_rfl) (fun _ _ _ h => h) HCL (goes_read (by rfl) ?hy) ?_; case hy => (intro w hSw; (try dsimp only at hSw); go_simp; (try with_reducible rfl))) | (refine wpU_takeB (i := 2) (v := _) HOPS rfl (by kernel_rfl) (fun _ _ _ h => h) HCL (goes_not (by rfl)) ?_)
              try simp only [Act.put, List.getElem_toArray, List.getElem_cons_succ, List.getElem_cons_zero, List.setIfInBounds_toArray, List.set_cons_zero, List.set_cons_succ]
              first | (refine wpU_takeB (i := 3) (v := ?_) HOPS rfl (by kernel_rfl) (fun _ _ _ h => h) HCL (goes_read (by rfl) ?hy) ?_; case hy => (intro w hSw; (try dsimp only at hSw); go_simp; (try with_reducible rfl))) | (refine wpU_takeB (i := 3) (v := _) HOPS rfl (by kernel_rfl) (fun _ _ _ h => h) HCL (goes_not (by rfl)) ?_)
              try simp only [Act.put, List.getElem_toArray, List.getElem_cons_succ, List.getElem_cons_zero, List.setIfInBounds_toArray, List.set_cons_zero, List.set_cons_succ]
              first | (refine wpU_takeB (i := 4) (v := ?_) HOPS rfl (by kernel_rfl) (fun _ _ _ h => h) HCL (goes_read (by rfl) ?hy) ?_; case hy => (intro w hSw; (try dsimp only at hSw); go_simp; (try with_reducible rfl))) | (refine wpU_takeB (i := 4) (v := _) HOPS rfl (by kernel_rfl) (fun _ _ _ h => h) HCL (goes_not (by rfl)) ?_)
              try simp only [Act.put, List.getElem_toArray, List.getElem_cons_succ, List.getElem_cons_zero, List.setIfInBounds_toArray, List.set_cons_zero, List.set_cons_succ]
              first | (refine wpU_takeB (i := 5) (v := ?_) HOPS rfl (by kernel_rfl) (fun _ _ _ h => h) HCL (goes_read (by rfl) ?hy) ?_; case hy => (intro w hSw; (try dsimp only at hSw); go_simp; (try with_reducible rfl))) | (refine wpU_takeB (i := 5) (v := _) HOPS rfl (by kernel_rfl) (fun _ _ _ h => h) HCL (goes_not (by rfl)) ?_)
              try simp only [Act.put, List.getElem_toArray, List.getElem_cons_succ, List.getElem_cons_zero, List.setIfInBounds_toArray, List.set_cons_zero, List.set_cons_succ]
              first | (refine wpU_takeB (i := 6) (v := ?_) HOPS rfl (by kernel_rfl) (fun _ _ _ h => h) HCL (goes_read (by rfl) ?hy) ?_; case hy => (intro w hSw; (try dsimp only at hSw); go_simp; (try with_reducible rfl))) | (refine wpU_takeB (i := 6) (v := _) HOPS rfl (by kernel_rfl) (fun _ _ _ h => h) HCL (goes_not (by rfl)) ?_)
              try simp only [Act.put, List.getElem_toArray, List.getElem_cons_succ, List.getElem_cons_zero, List.setIfInBounds_toArray, List.set_cons_zero, List.set_cons_succ]
              first | (refine wpU_takeB (i := 7) (v := ?_) HOPS rfl (by kernel_rfl) (fun _ _ _ h => h) HCL (goes_read (by rfl) ?hy) ?_; case hy => (intro w hSw; (try dsimp only at hSw); go_simp; (try with_reducible rfl))) | (refine wpU_takeB (i := 7) (v := _) HOPS rfl (by kernel_rfl) (fun _ _ _ h => h) HCL (goes_not (by rfl)) ?_)
              try simp only [Act.put, List.getElem_toArray, List.getElem_cons_succ, List.getElem_cons_zero, List.setIfInBounds_toArray, List.set_cons_zero, List.set_cons_succ]
              first | (refine wpU_takeB (i := 8) (v := ?_) HOPS rfl (by kernel_rfl) (fun _ _ _ h => h) HCL (goes_read (by rfl) ?hy) ?_; case hy => (intro w hSw; (try dsimp only at hSw); go_simp; (try with_reducible rfl))) | (refine wpU_takeB (i := 8) (v := _) HOPS rfl (by kernel_rfl) (fun _ _ _ h => h) HCL (goes_not (by rfl)) ?_)
              try simp only [Act.put, List.getElem_toArray, List.getElem_cons_succ, List.getElem_cons_zero, List.setIfInBounds_toArray, List.set_cons_zero, List.set_cons_succ]
              first | (refine wpU_takeB (i := 9) (v := ?_) HOPS rfl (by kernel_rfl) (fun _ _ _ h => h) HCL (goes_read (by rfl) ?hy) ?_; case hy => (intro w hSw; (try dsimp only at hSw); go_simp; (try with_reducible rfl))) | (refine wpU_takeB (i := 9) (v := _) HOPS rfl (by kernel_rfl) (fun _ _ _ h => h) HCL (goes_not (by rfl)) ?_)
              try simp only [Act.put, List.getElem_toArray, List.getElem_cons_succ, List.getElem_cons_zero, List.setIfInBounds_toArray, List.set_cons_zero, List.set_cons_succ]
              first | (refine wpU_takeB (i := 10) (v := ?_) HOPS rfl (by kernel_rfl) (fun _ _ _ h => h) HCL (goes_read (by rfl) ?hy) ?_; case hy => (intro w hSw; (try dsimp only at hSw); go_simp; (try with_reducible rfl))) | (refine wpU_takeB (i := 10) (v := _) HOPS rfl (by kernel_rfl) (fun _ _ _ h => h) HCL (goes_not (by rfl)) ?_)
              try simp only [Act.put, List.getElem_toArray, List.getElem_cons_succ, List.getElem_cons_zero, List.setIfInBounds_toArray, List.set_cons_zero, List.set_cons_succ]
              first | (refine wpU_takeB (i := 11) (v := ?_) HOPS rfl (by kernel_rfl) (fun _ _ _ h => h) HCL (goes_read (by rfl) ?hy) ?_; case hy => (intro w hSw; (try dsimp only at hSw); go_simp; (try with_reducible rfl))) | (refine wpU_takeB (i := 11) (v := _) HOPS rfl (by kernel_rfl) (fun _ _ _ h => h) HCL (goes_not (by rfl)) ?_)
              try simp only [Act.put, List.getElem_toArray, List.getElem_cons_succ, List.getElem_cons_zero, List.setIfInBounds_toArray, List.set_cons_zero, List.set_cons_succ]
              first | (refine wpU_takeB (i := 12) (v := ?_) HOPS rfl (by kernel_rfl) (fun _ _ _ h => h) HCL (goes_read (by rfl) ?hy) ?_; case hy => (intro w hSw; (try dsimp only at hSw); go_simp; (try with_reducible rfl))) | (refine wpU_takeB (i := 12) (v := _) HOPS rfl (by kernel_rfl) (fun _ _ _ h => h) HCL (goes_not (by rfl)) ?_)
              try simp only [Act.put, List.getElem_toArray, List.getElem_cons_succ, List.getElem_cons_zero, List.setIfInBounds_toArray, List.set_cons_zero, List.set_cons_succ]
              first | (refine wpU_takeB (i := 13) (v := ?_) HOPS rfl (by kernel_rfl) (fun _ _ _ h => h) HCL (goes_read (by rfl) ?hy) ?_; case hy => (intro w hSw; (try dsimp only at hSw); go_simp; (try with_reducible rfl))) | (refine wpU_takeB (i := 13) (v := _) HOPS rfl (by kernel_rfl) (fun _ _ _ h => h) HCL (goes_not (by rfl)) ?_)
              try simp only [Act.put, List.getElem_toArray, List.getElem_cons_succ, List.getElem_cons_zero, List.setIfInBounds_toArray, List.set_cons_zero, List.set_cons_succ]
              first | (refine wpU_takeB (i := 14) (v := ?_) HOPS rfl (by kernel_rfl) (fun _ _ _ h => h) HCL (goes_read (by rfl) ?hy) ?_; case hy => (intro w hSw; (try dsimp only at hSw); go_simp; (try with_reducible rfl))) | (refine wpU_takeB (i := 14) (v := _) HOPS rfl (by kernel_rfl) (fun _ _ _ h => h) HCL (goes_not (by rfl)) ?_)
              try simp only [Act.put, List.getElem_toArray, List.getElem_cons_succ, List.getElem_cons_zero, List.setIfInBounds_toArray, List.set_cons_zero, List.set_cons_succ]
              first | (refine wpU_takeB (i := 15) (v := ?_) HOPS rfl (by kernel_rfl) (fun _ _ _ h => h) HCL (goes_read (by rfl) ?hy) ?_; case hy => (intro w hSw; (try dsimp only at hSw); go_simp; (try with_reducible rfl))) | (refine wpU_takeB (i := 15) (v := _) HOPS rfl (by kernel_rfl) (fun _ _ _ h => h) HCL (goes_not (by rfl)) ?_)
              try simp only [Act.put, List.getElem_toArray, List.getElem_cons_succ, List.getElem_cons_zero, List.setIfInBounds_toArray, List.set_cons_zero, List.set_cons_succ]
              first | (refine wpU_takeB (i := 16) (v := ?_) HOPS rfl (by kernel_rfl) (fun _ _ _ h => h) HCL (goes_read (by rfl) ?hy) ?_; case hy => (intro w hSw; (try dsimp only at hSw); go_simp; (try with_reducible rfl))) | (refine wpU_takeB (i := 16) (v := _) HOPS rfl (by kernel_rfl) (fun _ _ _ h => h) HCL (goes_not (by rfl)) ?_)
              try simp only [Act.put, List.getElem_toArray, List.getElem_cons_succ, List.getElem_cons_zero, List.setIfInBounds_toArray, List.set_cons_zero, List.set_cons_succ]
              first | (refine wpU_takeB (i := 17) (v := ?_) HOPS rfl (by kernel_rfl) (fun _ _ _ h => h) HCL (goes_read (by rfl) ?hy) ?_; case hy => (intro w hSw; (try dsimp only at hSw); go_simp; (try with_reducible rfl))) | (refine wpU_takeB (i := 17) (v := _) HOPS rfl (by kernel_rfl) (fun _ _ _ h => h) HCL (goes_not (by rfl)) ?_)
              try simp only [Act.put, List.getElem_toArray, List.getElem_cons_succ, List.getElem_cons_zero, List.setIfInBounds_toArray, List.set_cons_zero, List.set_cons_succ]
              first | (refine wpU_takeB (i := 18) (v := ?_) HOPS rfl (by kernel_rfl) (fun _ _ _ h => h) HCL (goes_read (by rfl) ?hy) ?_; case hy => (intro w hSw; (try dsimp only at hSw); go_simp; (try with_reducible rfl))) | (refine wpU_takeB (i := 18) (v := _) HOPS rfl (by kernel_rfl) (fun _ _ _ h => h) HCL (goes_not (by rfl)) ?_)
              try simp only [Act.put, List.getElem_toArray, List.getElem_cons_succ, List.getElem_cons_zero, List.setIfInBounds_toArray, List.set_cons_zero, List.set_cons_succ]
              first | (refine wpU_takeB (i := 19) (v := ?_) HOPS rfl (by kernel_rfl) (fun _ _ _ h => h) HCL (goes_read (by rfl) ?hy) ?_; case hy => (intro w hSw; (try dsimp only at hSw); go_simp; (try with_reducible rfl))) | (refine wpU_takeB (i := 19) (v := _) HOPS rfl (by kernel_rfl) (fun _ _ _ h => h) HCL (goes_not (by rfl)) ?_)
              try simp only [Act.put, List.getElem_toArray, List.getElem_cons_succ, List.getElem_cons_zero, List.setIfInBounds_toArray, List.set_cons_zero, List.set_cons_succ]
              first | (refine wpU_takeB (i := 20) (v := ?_) HOPS rfl (by kernel_rfl) (fun _ _ _ h => h) HCL (goes_read (by rfl) ?hy) ?_; case hy => (intro w hSw; (try dsimp only at hSw); go_simp; (try with_reducible rfl))) | (refine wpU_takeB (i := 20) (v := _) HOPS rfl (by kernel_rfl) (fun _ _ _ h => h) HCL (goes_not (by rfl)) ?_)
              try simp only [Act.put, List.getElem_toArray, List.getElem_cons_succ, List.getElem_cons_zero, List.setIfInBounds_toArray, List.set_cons_zero, List.set_cons_succ]
              first | (refine wpU_takeB (i := 21) (v := ?_) HOPS rfl (by kernel_rfl) (fun _ _ _ h => h) HCL (goes_read (by rfl) ?hy) ?_; case hy => (intro w hSw; (try dsimp only at hSw); go_simp; (try with_reducible rfl))) | (refine wpU_takeB (i := 21) (v := _) HOPS rfl (by kernel_rfl) (fun _ _ _ h => h) HCL (goes_not (by rfl)) ?_)
              try simp only [Act.put, List.getElem_toArray, List.getElem_cons_succ, List.getElem_cons_zero, List.setIfInBounds_toArray, List.set_cons_zero, List.set_cons_succ]
              refine wpU_done (by kernel_rfl) (fun w9 hle => ?_) _
              have n := (hle.ahead (by kernel_rfl)).1
              replace HST := Lib.hid (n.heap HST.out id)
              replace NX := Lib.hid (NX.out.trans n)
              replace HOB := Lib.hid (n.heap HOB.out id)
              clear n
              clear HOPS HCL hle
              repeat clear hHeld
              clear dd0 dd1 dd2
              obtain ⟨tk, htk⟩ : ∃ z, vtakes c = z := ⟨_, rfl⟩
              obtain ⟨pt, hpt⟩ : ∃ z, vputs c = z := ⟨_, rfl⟩
              have tk2 : tk ≤ 2 := by rw [← htk]; exact vtakes_le c
              have pt1 : pt ≤ 1 := by rw [← hpt]; exact vputs_le c
              have HTK := Lib.hid (takes_any c cr)
              have kHST0 : w9.cell? ⟨b, 0, none⟩ = some (.slice (some ⟨pk, po, none⟩) L.length cap) := by rw [cell_of HST.out]; rfl
              have jHST0 : ∀ o, (w9.alloc o).cell? ⟨b, 0, none⟩ = some (.slice (some ⟨pk, po, none⟩) L.length cap) := fun o => cell_alloc_old o kHST0
              have kHST1 : w9.cell? ⟨b, 1, none⟩ = some (.int .i64 np) := by rw [cell_of HST.out]; rfl
              have jHST1 : ∀ o, (w9.alloc o).cell? ⟨b, 1, none⟩ = some (.int .i64 np) := fun o => cell_alloc_old o kHST1
              have kHST2 : w9.cell? ⟨b, 2, none⟩ = some (.int .i64 h) := by rw [cell_of HST.out]; rfl
              have jHST2 : ∀ o, (w9.alloc o).cell? ⟨b, 2, none⟩ = some (.int .i64 h) := fun o => cell_alloc_old o kHST2
              have kHST3 : w9.cell? ⟨b, 3, none⟩ = some (.int .i64 d) := by rw [cell_of HST.out]; rfl
              have jHST3 : ∀ o, (w9.alloc o).cell? ⟨b, 3, none⟩ = some (.int .i64 d) := fun o => cell_alloc_old o kHST3
              have kHOB0 : w9.cell? ⟨w.heap.size, 0, none⟩ = some (.int .i64 c) := by rw [cell_of HOB.out]; rfl
              have jHOB0 : ∀ o, (w9.alloc o).cell? ⟨w.heap.size, 0, none⟩ = some (.int .i64 c) := fun o => cell_alloc_old o kHOB0
              have kHOB1 : w9.cell? ⟨w.heap.size, 1, none⟩ = some (.int .i64 x) := by rw [cell_of HOB.out]; rfl
              have jHOB1 : ∀ o, (w9.alloc o).cell? ⟨w.heap.size, 1, none⟩ = some (.int .i64 x) := fun o => cell_alloc_old o kHOB1
              have kHOB2 : w9.cell? ⟨w.heap.size, 2, none⟩ = some (.int .i64 m) := by rw [cell_of HOB.out]; rfl
              have jHOB2 : ∀ o, (w9.alloc o).cell? ⟨w.heap.size, 2, none⟩ = some (.int .i64 m) := fun o => cell_alloc_old o kHOB2
              go_wp2_with (go_at_call 42; fail)
              clear kHST0 jHST0 kHST1 jHST1 kHST2 jHST2 kHST3 jHST3 kHOB0 jHOB0 kHOB1 jHOB1 kHOB2 jHOB2
              refine Calls_nm ?_
              intro W10 hW
              have n : Nw w9 W10 := by rw [hW]; first | exact Ch.refl _ _ | exact (Ch.refl _ _).alloc _ | exact ((Ch.refl _ _).alloc _).alloc _
              replace HST := Lib.hid (n.heap HST.out id)
              replace NX := Lib.hid (NX.out.trans n)
              replace HOB := Lib.hid (n.heap HOB.out id)
              clear hW n
              refine HTK.out _ _ ?_
              rw [htk, hpt] at HK HVR ⊢
              clear htk hpt HTK
              obtain ht | ht | ht : h < tk ∨ (tk ≤ h ∧ 8 < h - tk + pt) ∨ (tk ≤ h ∧ h - tk + pt ≤ 8) := by omega
              · as_aux_lemma =>
                have e1 : (h : Int) < (tk : Int) := by omega
                have kHST0 : W10.cell? ⟨b, 0, none⟩ = some (.slice (some ⟨pk, po, none⟩) L.length cap) := by rw [cell_of HST.out]; rfl
                have jHST0 : ∀ o, (W10.alloc o).cell? ⟨b, 0, none⟩ = some (.slice (some ⟨pk, po, none⟩) L.length cap) := fun o => cell_alloc_old o kHST0
                have kHST1 : W10.cell? ⟨b, 1, none⟩ = some (.int .i64 np) := by rw [cell_of HST.out]; rfl
                have jHST1 : ∀ o, (W10.alloc o).cell? ⟨b, 1, none⟩ = some (.int .i64 np) := fun o => cell_alloc_old o kHST1
                have kHST2 : W10.cell? ⟨b, 2, none⟩ = some (.int .i64 h) := by rw [cell_of HST.out]; rfl
                have jHST2 : ∀ o, (W10.alloc o).cell? ⟨b, 2, none⟩ = some (.int .i64 h) := fun o => cell_alloc_old o kHST2
                have kHST3 : W10.cell? ⟨b, 3, none⟩ = some (.int .i64 d) := by rw [cell_of HST.out]; rfl
                have jHST3 : ∀ o, (W10.alloc o).cell? ⟨b, 3, none⟩ = some (.int .i64 d) := fun o => cell_alloc_old o kHST3
                have kHOB0 : W10.cell? ⟨w.heap.size, 0, none⟩ = some (.int .i64 c) := by rw [cell_of HOB.out]; rfl
                have jHOB0 : ∀ o, (W10.alloc o).cell? ⟨w.heap.size, 0, none⟩ = some (.int .i64 c) := fun o => cell_alloc_old o kHOB0
                have kHOB1 : W10.cell? ⟨w.heap.size, 1, none⟩ = some (.int .i64 x) := by rw [cell_of HOB.out]; rfl
                have jHOB1 : ∀ o, (W10.alloc o).cell? ⟨w.heap.size, 1, none⟩ = some (.int .i64 x) := fun o => cell_alloc_old o kHOB1
                have kHOB2 : W10.cell? ⟨w.heap.size, 2, none⟩ = some (.int .i64 m) := by rw [cell_of HOB.out]; rfl
                have jHOB2 : ∀ o, (W10.alloc o).cell? ⟨w.heap.size, 2, none⟩ = some (.int .i64 m) := fun o => cell_alloc_old o kHOB2
                go_wp2
                exact HE.out _ 20 (by rw [HVR.out, if_pos (Or.inl ht)]) NX.out
              · as_aux_lemma =>
                have e1 : ¬ (h : Int) < (tk : Int) := by omega
                have e2 : (h : Int) - (tk : Int) + (pt : Int) > 8 := by omega
                have kHST0 : W10.cell? ⟨b, 0, none⟩ = some (.slice (some ⟨pk, po, none⟩) L.length cap) := by rw [cell_of HST.out]; rfl
                have jHST0 : ∀ o, (W10.alloc o).cell? ⟨b, 0, none⟩ = some (.slice (some ⟨pk, po, none⟩) L.length cap) := fun o => cell_alloc_old o kHST0
                have kHST1 : W10.cell? ⟨b, 1, none⟩ = some (.int .i64 np) := by rw [cell_of HST.out]; rfl
                have jHST1 : ∀ o, (W10.alloc o).cell? ⟨b, 1, none⟩ = some (.int .i64 np) := fun o => cell_alloc_old o kHST1
                have kHST2 : W10.cell? ⟨b, 2, none⟩ = some (.int .i64 h) := by rw [cell_of HST.out]; rfl
                have jHST2 : ∀ o, (W10.alloc o).cell? ⟨b, 2, none⟩ = some (.int .i64 h) := fun o => cell_alloc_old o kHST2
                have kHST3 : W10.cell? ⟨b, 3, none⟩ = some (.int .i64 d) := by rw [cell_of HST.out]; rfl
                have jHST3 : ∀ o, (W10.alloc o).cell? ⟨b, 3, none⟩ = some (.int .i64 d) := fun o => cell_alloc_old o kHST3
                have kHOB0 : W10.cell? ⟨w.heap.size, 0, none⟩ = some (.int .i64 c) := by rw [cell_of HOB.out]; rfl
                have jHOB0 : ∀ o, (W10.alloc o).cell? ⟨w.heap.size, 0, none⟩ = some (.int .i64 c) := fun o => cell_alloc_old o kHOB0
                have kHOB1 : W10.cell? ⟨w.heap.size, 1, none⟩ = some (.int .i64 x) := by rw [cell_of HOB.out]; rfl
                have jHOB1 : ∀ o, (W10.alloc o).cell? ⟨w.heap.size, 1, none⟩ = some (.int .i64 x) := fun o => cell_alloc_old o kHOB1
                have kHOB2 : W10.cell? ⟨w.heap.size, 2, none⟩ = some (.int .i64 m) := by rw [cell_of HOB.out]; rfl
                have jHOB2 : ∀ o, (W10.alloc o).cell? ⟨w.heap.size, 2, none⟩ = some (.int .i64 m) := fun o => cell_alloc_old o kHOB2
                go_wp2
                exact HE.out _ 20 (by rw [HVR.out, if_pos (Or.inr (by omega))]) NX.out
              · as_aux_lemma =>
                have e1 : ¬ (h : Int) < (tk : Int) := by omega
                obtain ⟨h2, hh2⟩ : ∃ z, h - tk + pt = z := ⟨_, rfl⟩
                have e2 : (h : Int) - (tk : Int) + (pt : Int) = (h2 : Int) := by omega
                have e3 : ¬ (h2 : Int) > 8 := by omega
                have HV2 := Lib.hid (show vchk c x m (t - i) nest np h = none from by rw [HVR.out, if_neg (by omega)])
                have hk9 := HK.out
                rw [hh2] at hk9
                have HK9 := Lib.hid hk9
                clear hk9 HVR HK hh2
                have kHST0 : W10.cell? ⟨b, 0, none⟩ = some (.slice (some ⟨pk, po, none⟩) L.length cap) := by rw [cell_of HST.out]; rfl
                have kHST1 : W10.cell? ⟨b, 1, none⟩ = some (.int .i64 np) := by rw [cell_of HST.out]; rfl
                have kHST2 : W10.cell? ⟨b, 2, none⟩ = some (.int .i64 h) := by rw [cell_of HST.out]; rfl
                have kHST3 : W10.cell? ⟨b, 3, none⟩ = some (.int .i64 d) := by rw [cell_of HST.out]; rfl
                have kHOB0 : W10.cell? ⟨w.heap.size, 0, none⟩ = some (.int .i64 c) := by rw [cell_of HOB.out]; rfl
                have kHOB1 : W10.cell? ⟨w.heap.size, 1, none⟩ = some (.int .i64 x) := by rw [cell_of HOB.out]; rfl
                have kHOB2 : W10.cell? ⟨w.heap.size, 2, none⟩ = some (.int .i64 m) := by rw [cell_of HOB.out]; rfl
                have fz : W10.frozen? ⟨b, 2, none⟩ = false := frozen_of HST.out
                go_upto_region 15 with (fail)
                clear kHST0 kHST1 kHST2 kHST3 kHOB0 kHOB1 kHOB2
                clear fz
                refine wp_named ?_
                intro W11 hW
                have cc : Ch (· = b) W10 W11 := by rw [hW]; exact (Ch.refl (· = b) W10).setb (fun _ => rfl) _
                have nb := Lib.hid (show W11.heap[b]? = some (.cells #[.slice (some ⟨pk, po, none⟩) L.length cap, .int .i64 np, .int .i64 h2, .int .i64 d] 60 (0, 0)) from by rw [hW]; exact heap_setCell_eq _ HST.out)
                have CX := Lib.hid (show Ch (· = b) w W11 from (NX.out.mono (fun _ _ h => h.elim)).trans cc)
                clear hW cc HST NX HOB
                have HST := nb
                clear nb
                obtain ⟨d2, hd2⟩ : ∃ z, max d h2 = z := ⟨_, rfl⟩
                have d21 : (if d < h2 then (h2 : Int) else (d : Int)) = (d2 : Int) := by split <;> omega
                rw [hd2] at HK9
                clear hd2
                have k2 : W11.cell? ⟨b, 2, none⟩ = some (.int .i64 h2) := by rw [cell_of HST.out]; rfl
                have k3 : W11.cell? ⟨b, 3, none⟩ = some (.int .i64 d) := by rw [cell_of HST.out]; rfl
                have k3f : W11.frozen? ⟨b, 3, none⟩ = false := frozen_of HST.out
                go_still_tail 10, (by kernel_rfl)
                go_wp2
                refine HK9.out _ HV2.out ?_ ?_
                · first | exact heap_setCell_eq _ HST.out | (show _ = _; exact heap_setCell_eq _ HST.out)
                · first | exact (CX.out.setb (fun _ => rfl) _).drewN _ | exact ((CX.out.drewN _).setb (fun _ => rfl) _) | exact ((CX.out.drewN _).setb (fun _ => rfl) _).drewN _ | exact (CX.out.setb (fun _ => rfl) _).drew
    · as_aux_lemma =>
      have t15 : (c == 15) = false := by simp [hc]
      have c14 : c ≥ 14 := by omega
      have c10 : c ≥ 10 := by omega
      have c13 : ¬ c ≤ 13 := by omega
      have HL := Lib.hid (show c = 15 → 1 ≤ x ∧ x ≤ 16 from fun h => by omega)
      have H14 := Lib.hid (show 14 ≤ c from c14)
      clear hc
      have HB := fun w R => blk_any c x m w R
      obtain ⟨lv, hlv⟩ : ∃ z, vlen c x m = z := ⟨_, rfl⟩
      rw [hlv] at HB
      have HBL := Lib.hid HB
      have HLV := Lib.hid hlv
      clear HB hlv
      have kHST0 : w2.cell? ⟨b, 0, none⟩ = some (.slice (some ⟨pk, po, none⟩) L.length cap) := by rw [cell_of HST.out]; rfl
      have jHST0 : ∀ o, (w2.alloc o).cell? ⟨b, 0, none⟩ = some (.slice (some ⟨pk, po, none⟩) L.length cap) := fun o => cell_alloc_old o kHST0
      have kHST1 : w2.cell? ⟨b, 1, none⟩ = some (.int .i64 np) := by rw [cell_of HST.out]; rfl
      have jHST1 : ∀ o, (w2.alloc o).cell? ⟨b, 1, none⟩ = some (.int .i64 np) := fun o => cell_alloc_old o kHST1
      have kHST2 : w2.cell? ⟨b, 2, none⟩ = some (.int .i64 h) := by rw [cell_of HST.out]; rfl
      have jHST2 : ∀ o, (w2.alloc o).cell? ⟨b, 2, none⟩ = some (.int .i64 h) := fun o => cell_alloc_old o kHST2
      have kHST3 : w2.cell? ⟨b, 3, none⟩ = some (.int .i64 d) := by rw [cell_of HST.out]; rfl
      have jHST3 : ∀ o, (w2.alloc o).cell? ⟨b, 3, none⟩ = some (.int .i64 d) := fun o => cell_alloc_old o kHST3
      have kHOB0 : w2.cell? ⟨w.heap.size, 0, none⟩ = some (.int .i64 c) := by rw [cell_of HOB.out]; rfl
      have jHOB0 : ∀ o, (w2.alloc o).cell? ⟨w.heap.size, 0, none⟩ = some (.int .i64 c) := fun o => cell_alloc_old o kHOB0
      have kHOB1 : w2.cell? ⟨w.heap.size, 1, none⟩ = some (.int .i64 x) := by rw [cell_of HOB.out]; rfl
      have jHOB1 : ∀ o, (w2.alloc o).cell? ⟨w.heap.size, 1, none⟩ = some (.int .i64 x) := fun o => cell_alloc_old o kHOB1
      have kHOB2 : w2.cell? ⟨w.heap.size, 2, none⟩ = some (.int .i64 m) := by rw [cell_of HOB.out]; rfl
      have jHOB2 : ∀ o, (w2.alloc o).cell? ⟨w.heap.size, 2, none⟩ = some (.int .i64 m) := fun o => cell_alloc_old o kHOB2
      go_wp2_with (go_at_call 42; fail)
      clear kHST0 jHST0 kHST1 jHST1 kHST2 jHST2 kHST3 jHST3 kHOB0 jHOB0 kHOB1 jHOB1 kHOB2 jHOB2
      refine Calls_nm ?_
      intro W12 hW
      have n : Nw w2 W12 := by rw [hW]; first | exact Ch.refl _ _ | exact (Ch.refl _ _).alloc _ | exact ((Ch.refl _ _).alloc _).alloc _
      replace HST := Lib.hid (n.heap HST.out id)
      replace NX := Lib.hid (NX.out.trans n)
      replace HOB := Lib.hid (n.heap HOB.out id)
      clear hW n
      refine HBL.out _ _ ?_
      intro w13 n
      replace HST := Lib.hid (n.heap HST.out id)
      replace NX := Lib.hid (NX.out.trans n)
      replace HOB := Lib.hid (n.heap HOB.out id)
      clear n
      obtain hb | hb : lv < 1 ∨ 1 ≤ lv := by omega
      · as_aux_lemma =>
        have b1 : lv < 1 := hb
        have kHST0 : w13.cell? ⟨b, 0, none⟩ = some (.slice (some ⟨pk, po, none⟩) L.length cap) := by rw [cell_of HST.out]; rfl
        have jHST0 : ∀ o, (w13.alloc o).cell? ⟨b, 0, none⟩ = some (.slice (some ⟨pk, po, none⟩) L.length cap) := fun o => cell_alloc_old o kHST0
        have kHST1 : w13.cell? ⟨b, 1, none⟩ = some (.int .i64 np) := by rw [cell_of HST.out]; rfl
        have jHST1 : ∀ o, (w13.alloc o).cell? ⟨b, 1, none⟩ = some (.int .i64 np) := fun o => cell_alloc_old o kHST1
        have kHST2 : w13.cell? ⟨b, 2, none⟩ = some (.int .i64 h) := by rw [cell_of HST.out]; rfl
        have jHST2 : ∀ o, (w13.alloc o).cell? ⟨b, 2, none⟩ = some (.int .i64 h) := fun o => cell_alloc_old o kHST2
        have kHST3 : w13.cell? ⟨b, 3, none⟩ = some (.int .i64 d) := by rw [cell_of HST.out]; rfl
        have jHST3 : ∀ o, (w13.alloc o).cell? ⟨b, 3, none⟩ = some (.int .i64 d) := fun o => cell_alloc_old o kHST3
        have kHOB0 : w13.cell? ⟨w.heap.size, 0, none⟩ = some (.int .i64 c) := by rw [cell_of HOB.out]; rfl
        have jHOB0 : ∀ o, (w13.alloc o).cell? ⟨w.heap.size, 0, none⟩ = some (.int .i64 c) := fun o => cell_alloc_old o kHOB0
        have kHOB1 : w13.cell? ⟨w.heap.size, 1, none⟩ = some (.int .i64 x) := by rw [cell_of HOB.out]; rfl
        have jHOB1 : ∀ o, (w13.alloc o).cell? ⟨w.heap.size, 1, none⟩ = some (.int .i64 x) := fun o => cell_alloc_old o kHOB1
        have kHOB2 : w13.cell? ⟨w.heap.size, 2, none⟩ = some (.int .i64 m) := by rw [cell_of HOB.out]; rfl
        have jHOB2 : ∀ o, (w13.alloc o).cell? ⟨w.heap.size, 2, none⟩ = some (.int .i64 m) := fun o => cell_alloc_old o kHOB2
        go_wp2
        exact HE.out _ 5 (vchk_len HF.out HL.out H14.out (Or.inl (by rw [HLV.out]; exact hb))) NX.out
      · as_aux_lemma =>
        have b1 : ¬ lv < 1 := by omega
        have kHST0 : w13.cell? ⟨b, 0, none⟩ = some (.slice (some ⟨pk, po, none⟩) L.length cap) := by rw [cell_of HST.out]; rfl
        have jHST0 : ∀ o, (w13.alloc o).cell? ⟨b, 0, none⟩ = some (.slice (some ⟨pk, po, none⟩) L.length cap) := fun o => cell_alloc_old o kHST0
        have kHST1 : w13.cell? ⟨b, 1, none⟩ = some (.int .i64 np) := by rw [cell_of HST.out]; rfl
        have jHST1 : ∀ o, (w13.alloc o).cell? ⟨b, 1, none⟩ = some (.int .i64 np) := fun o => cell_alloc_old o kHST1
        have kHST2 : w13.cell? ⟨b, 2, none⟩ = some (.int .i64 h) := by rw [cell_of HST.out]; rfl
        have jHST2 : ∀ o, (w13.alloc o).cell? ⟨b, 2, none⟩ = some (.int .i64 h) := fun o => cell_alloc_old o kHST2
        have kHST3 : w13.cell? ⟨b, 3, none⟩ = some (.int .i64 d) := by rw [cell_of HST.out]; rfl
        have jHST3 : ∀ o, (w13.alloc o).cell? ⟨b, 3, none⟩ = some (.int .i64 d) := fun o => cell_alloc_old o kHST3
        have kHOB0 : w13.cell? ⟨w.heap.size, 0, none⟩ = some (.int .i64 c) := by rw [cell_of HOB.out]; rfl
        have jHOB0 : ∀ o, (w13.alloc o).cell? ⟨w.heap.size, 0, none⟩ = some (.int .i64 c) := fun o => cell_alloc_old o kHOB0
        have kHOB1 : w13.cell? ⟨w.heap.size, 1, none⟩ = some (.int .i64 x) := by rw [cell_of HOB.out]; rfl
        have jHOB1 : ∀ o, (w13.alloc o).cell? ⟨w.heap.size, 1, none⟩ = some (.int .i64 x) := fun o => cell_alloc_old o kHOB1
        have kHOB2 : w13.cell? ⟨w.heap.size, 2, none⟩ = some (.int .i64 m) := by rw [cell_of HOB.out]; rfl
        have jHOB2 : ∀ o, (w13.alloc o).cell? ⟨w.heap.size, 2, none⟩ = some (.int .i64 m) := fun o => cell_alloc_old o kHOB2
        go_wp2_with (go_at_call 42; fail)
        clear kHST0 jHST0 kHST1 jHST1 kHST2 jHST2 kHST3 jHST3 kHOB0 jHOB0 kHOB1 jHOB1 kHOB2 jHOB2
        refine Calls_nm ?_
        intro W14 hW
        have n : Nw w13 W14 := by rw [hW]; first | exact Ch.refl _ _ | exact (Ch.refl _ _).alloc _ | exact ((Ch.refl _ _).alloc _).alloc _
        replace HST := Lib.hid (n.heap HST.out id)
        replace NX := Lib.hid (NX.out.trans n)
        replace HOB := Lib.hid (n.heap HOB.out id)
        clear hW n
        refine HBL.out _ _ ?_
        intro w15 n
        replace HST := Lib.hid (n.heap HST.out id)
        replace NX := Lib.hid (NX.out.trans n)
        replace HOB := Lib.hid (n.heap HOB.out id)
        clear n
        obtain hb2 | hb2 : (t : Int) - (i : Int) - 1 < lv ∨ lv ≤ (t : Int) - (i : Int) - 1 := by omega
        · as_aux_lemma =>
          have b2 : lv > (t : Int) - (i : Int) - 1 := by omega
          have kHST0 : w15.cell? ⟨b, 0, none⟩ = some (.slice (some ⟨pk, po, none⟩) L.length cap) := by rw [cell_of HST.out]; rfl
          have jHST0 : ∀ o, (w15.alloc o).cell? ⟨b, 0, none⟩ = some (.slice (some ⟨pk, po, none⟩) L.length cap) := fun o => cell_alloc_old o kHST0
          have kHST1 : w15.cell? ⟨b, 1, none⟩ = some (.int .i64 np) := by rw [cell_of HST.out]; rfl
          have jHST1 : ∀ o, (w15.alloc o).cell? ⟨b, 1, none⟩ = some (.int .i64 np) := fun o => cell_alloc_old o kHST1
          have kHST2 : w15.cell? ⟨b, 2, none⟩ = some (.int .i64 h) := by rw [cell_of HST.out]; rfl
          have jHST2 : ∀ o, (w15.alloc o).cell? ⟨b, 2, none⟩ = some (.int .i64 h) := fun o => cell_alloc_old o kHST2
          have kHST3 : w15.cell? ⟨b, 3, none⟩ = some (.int .i64 d) := by rw [cell_of HST.out]; rfl
          have jHST3 : ∀ o, (w15.alloc o).cell? ⟨b, 3, none⟩ = some (.int .i64 d) := fun o => cell_alloc_old o kHST3
          have kHOB0 : w15.cell? ⟨w.heap.size, 0, none⟩ = some (.int .i64 c) := by rw [cell_of HOB.out]; rfl
          have jHOB0 : ∀ o, (w15.alloc o).cell? ⟨w.heap.size, 0, none⟩ = some (.int .i64 c) := fun o => cell_alloc_old o kHOB0
          have kHOB1 : w15.cell? ⟨w.heap.size, 1, none⟩ = some (.int .i64 x) := by rw [cell_of HOB.out]; rfl
          have jHOB1 : ∀ o, (w15.alloc o).cell? ⟨w.heap.size, 1, none⟩ = some (.int .i64 x) := fun o => cell_alloc_old o kHOB1
          have kHOB2 : w15.cell? ⟨w.heap.size, 2, none⟩ = some (.int .i64 m) := by rw [cell_of HOB.out]; rfl
          have jHOB2 : ∀ o, (w15.alloc o).cell? ⟨w.heap.size, 2, none⟩ = some (.int .i64 m) := fun o => cell_alloc_old o kHOB2
          go_wp2
          exact HE.out _ 5 (vchk_len HF.out HL.out H14.out (Or.inr (by rw [HLV.out]; omega))) NX.out
        · as_aux_lemma =>
          have b2 : ¬ lv > (t : Int) - (i : Int) - 1 := by omega
          have HLE := Lib.hid (show 1 ≤ vlen c x m ∧ vlen c x m < ((t - i : Nat) : Int) from by rw [HLV.out]; omega)
          obtain hnn | hnn : nest = 3 ∨ nest ≠ 3 := by omega
          · as_aux_lemma =>
            have b3 : ((nest : Int) == 3) = true := by simp; omega
            have kHST0 : w15.cell? ⟨b, 0, none⟩ = some (.slice (some ⟨pk, po, none⟩) L.length cap) := by rw [cell_of HST.out]; rfl
            have jHST0 : ∀ o, (w15.alloc o).cell? ⟨b, 0, none⟩ = some (.slice (some ⟨pk, po, none⟩) L.length cap) := fun o => cell_alloc_old o kHST0
            have kHST1 : w15.cell? ⟨b, 1, none⟩ = some (.int .i64 np) := by rw [cell_of HST.out]; rfl
            have jHST1 : ∀ o, (w15.alloc o).cell? ⟨b, 1, none⟩ = some (.int .i64 np) := fun o => cell_alloc_old o kHST1
            have kHST2 : w15.cell? ⟨b, 2, none⟩ = some (.int .i64 h) := by rw [cell_of HST.out]; rfl
            have jHST2 : ∀ o, (w15.alloc o).cell? ⟨b, 2, none⟩ = some (.int .i64 h) := fun o => cell_alloc_old o kHST2
            have kHST3 : w15.cell? ⟨b, 3, none⟩ = some (.int .i64 d) := by rw [cell_of HST.out]; rfl
            have jHST3 : ∀ o, (w15.alloc o).cell? ⟨b, 3, none⟩ = some (.int .i64 d) := fun o => cell_alloc_old o kHST3
            have kHOB0 : w15.cell? ⟨w.heap.size, 0, none⟩ = some (.int .i64 c) := by rw [cell_of HOB.out]; rfl
            have jHOB0 : ∀ o, (w15.alloc o).cell? ⟨w.heap.size, 0, none⟩ = some (.int .i64 c) := fun o => cell_alloc_old o kHOB0
            have kHOB1 : w15.cell? ⟨w.heap.size, 1, none⟩ = some (.int .i64 x) := by rw [cell_of HOB.out]; rfl
            have jHOB1 : ∀ o, (w15.alloc o).cell? ⟨w.heap.size, 1, none⟩ = some (.int .i64 x) := fun o => cell_alloc_old o kHOB1
            have kHOB2 : w15.cell? ⟨w.heap.size, 2, none⟩ = some (.int .i64 m) := by rw [cell_of HOB.out]; rfl
            have jHOB2 : ∀ o, (w15.alloc o).cell? ⟨w.heap.size, 2, none⟩ = some (.int .i64 m) := fun o => cell_alloc_old o kHOB2
            go_wp2
            exact HE.out _ 20 (vchk_nest HF.out HL.out H14.out HLE.out hnn) NX.out
          · as_aux_lemma =>
            have b3 : ((nest : Int) == 3) = false := by simp; omega
            have HV := Lib.hid (vchk_rest (np := np) (h := h) HF.out HL.out (fun _ => ⟨HLE.out, hnn⟩))
            have hv := HV.out
            rw [if_neg (by omega)] at hv
            have HVR := Lib.hid hv
            clear hv HV
            have kHST0 : w15.cell? ⟨b, 0, none⟩ = some (.slice (some ⟨pk, po, none⟩) L.length cap) := by rw [cell_of HST.out]; rfl
            have kHST1 : w15.cell? ⟨b, 1, none⟩ = some (.int .i64 np) := by rw [cell_of HST.out]; rfl
            have kHST2 : w15.cell? ⟨b, 2, none⟩ = some (.int .i64 h) := by rw [cell_of HST.out]; rfl
            have kHST3 : w15.cell? ⟨b, 3, none⟩ = some (.int .i64 d) := by rw [cell_of HST.out]; rfl
            have kHOB0 : w15.cell? ⟨w.heap.size, 0, none⟩ = some (.int .i64 c) := by rw [cell_of HOB.out]; rfl
            have kHOB1 : w15.cell? ⟨w.heap.size, 1, none⟩ = some (.int .i64 x) := by rw [cell_of HOB.out]; rfl
            have kHOB2 : w15.cell? ⟨w.heap.size, 2, none⟩ = some (.int .i64 m) := by rw [cell_of HOB.out]; rfl
            go_upto_region 9 with (fail)
            clear kHST0 kHST1 kHST2 kHST3 kHOB0 kHOB1 kHOB2
            have dd0 : decide (c ≥ 10) = true := by simp; omega
            have dd1 : decide (10 ≤ c) = true := by simp; omega
            have dd2 : decide (c ≤ 13) = false := by simp; omega
            refine wp_named ?_
            intro W16 hW
            have n : Nw w15 W16 := by rw [hW]; first | exact Ch.refl _ _ | exact (Ch.refl _ _).alloc _
            replace HST := Lib.hid (n.heap HST.out id)
            replace NX := Lib.hid (NX.out.trans n)
            replace HOB := Lib.hid (n.heap HOB.out id)
            clear hW n
            refine wp_region_V (F := fun w' => w'.cell? ⟨b, 0, none⟩ = some (.slice (some ⟨pk, po, none⟩) L.length cap) ∧ w'.cell? ⟨b, 1, none⟩ = some (.int .i64 np) ∧ w'.cell? ⟨b, 2, none⟩ = some (.int .i64 h) ∧ w'.cell? ⟨b, 3, none⟩ = some (.int .i64 d) ∧ w'.cell? ⟨w.heap.size, 0, none⟩ = some (.int .i64 c) ∧ w'.cell? ⟨w.heap.size, 1, none⟩ = some (.int .i64 x) ∧ w'.cell? ⟨w.heap.size, 2, none⟩ = some (.int .i64 m)) (opsOf Tryz.f42 9) 22 22 (by kernel_rfl) (by kernel_rfl) (by kernel_rfl) (fun w w' h n => ⟨n.cell h.1 id, n.cell h.2.1 id, n.cell h.2.2.1 id, n.cell h.2.2.2.1 id, n.cell h.2.2.2.2.1 id, n.cell h.2.2.2.2.2.1 id, n.cell h.2.2.2.2.2.2 id⟩) ⟨by show W16.cell? _ = _; rw [cell_of HST.out]; rfl, by show W16.cell? _ = _; rw [cell_of HST.out]; rfl, by show W16.cell? _ = _; rw [cell_of HST.out]; rfl, by show W16.cell? _ = _; rw [cell_of HST.out]; rfl, by show W16.cell? _ = _; rw [cell_of HOB.out]; rfl, by show W16.cell? _ = _; rw [cell_of HOB.out]; rfl, by show W16.cell? _ = _; rw [cell_of HOB.out]; rfl⟩ (fun HOPS HCL hHeld => ?_)
            refine wpU_named ?_
            intro W17 hW
            try rw [← hW] at hHeld
            have n : Nw W16 W17 := by rw [hW]; exact (Ch.refl _ _).drew
            replace HST := Lib.hid (n.heap HST.out id)
            replace NX := Lib.hid (NX.out.trans n)
            replace HOB := Lib.hid (n.heap HOB.out id)
            clear hW n
            first | (refine wpU_takeB (i := 0) (v := ?_) HOPS rfl (by kernel_rfl) (fun _ _ _ h => h) HCL (goes_read (by rfl) ?hy) ?_; case hy => (intro w hSw; (try dsimp only at hSw); go_simp; (try with_reducible rfl))) | (refine wpU_takeB (i := 0) (v := _) HOPS rfl (by kernel_rfl) (fun _ _ _ h => h) HCL (goes_not (by rfl)) ?_)
            try simp only [Act.put, List.getElem_toArray, List.getElem_cons_succ, List.getElem_cons_zero, List.setIfInBounds_toArray, List.set_cons_zero, List.set_cons_succ]
            first | (refine wpU_takeB (i := 1) (v := ?_) HOPS rfl (by kernel_rfl) (fun _ _ _ h => h) HCL (goes_read (by rfl) ?hy) ?_; case hy => (intro w hSw; (try dsimp only at hSw); go_simp; (try with_reducible rfl))) | (refine wpU_takeB (i := 1) (v := _) HOPS rfl (by kernel_rfl) (fun _ _ _ h => h) HCL (goes_not (by rfl)) ?_)
            try simp only [Act.put, List.getElem_toArray, List.getElem_cons_succ, List.getElem_cons_zero, List.setIfInBounds_toArray, List.set_cons_zero, List.set_cons_succ]
            first | (refine wpU_takeB (i := 2) (v := ?_) HOPS rfl (by kernel_rfl) (fun _ _ _ h => h) HCL (goes_read (by rfl) ?hy) ?_; case hy => (intro w hSw; (try dsimp only at hSw); go_simp; (try with_reducible rfl))) | (refine wpU_takeB (i := 2) (v := _) HOPS rfl (by kernel_rfl) (fun _ _ _ h => h) HCL (goes_not (by rfl)) ?_)
            try simp only [Act.put, List.getElem_toArray, List.getElem_cons_succ, List.getElem_cons_zero, List.setIfInBounds_toArray, List.set_cons_zero, List.set_cons_succ]
            first | (refine wpU_takeB (i := 3) (v := ?_) HOPS rfl (by kernel_rfl) (fun _ _ _ h => h) HCL (goes_read (by rfl) ?hy) ?_; case hy => (intro w hSw; (try dsimp only at hSw); go_simp; (try with_reducible rfl))) | (refine wpU_takeB (i := 3) (v := _) HOPS rfl (by kernel_rfl) (fun _ _ _ h => h) HCL (goes_not (by rfl)) ?_)
            try simp only [Act.put, List.getElem_toArray, List.getElem_cons_succ, List.getElem_cons_zero, List.setIfInBounds_toArray, List.set_cons_zero, List.set_cons_succ]
            first | (refine wpU_takeB (i := 4) (v := ?_) HOPS rfl (by kernel_rfl) (fun _ _ _ h => h) HCL (goes_read (by rfl) ?hy) ?_; case hy => (intro w hSw; (try dsimp only at hSw); go_simp; (try with_reducible rfl))) | (refine wpU_takeB (i := 4) (v := _) HOPS rfl (by kernel_rfl) (fun _ _ _ h => h) HCL (goes_not (by rfl)) ?_)
            try simp only [Act.put, List.getElem_toArray, List.getElem_cons_succ, List.getElem_cons_zero, List.setIfInBounds_toArray, List.set_cons_zero, List.set_cons_succ]
            first | (refine wpU_takeB (i := 5) (v := ?_) HOPS rfl (by kernel_rfl) (fun _ _ _ h => h) HCL (goes_read (by rfl) ?hy) ?_; case hy => (intro w hSw; (try dsimp only at hSw); go_simp; (try with_reducible rfl))) | (refine wpU_takeB (i := 5) (v := _) HOPS rfl (by kernel_rfl) (fun _ _ _ h => h) HCL (goes_not (by rfl)) ?_)
            try simp only [Act.put, List.getElem_toArray, List.getElem_cons_succ, List.getElem_cons_zero, List.setIfInBounds_toArray, List.set_cons_zero, List.set_cons_succ]
            first | (refine wpU_takeB (i := 6) (v := ?_) HOPS rfl (by kernel_rfl) (fun _ _ _ h => h) HCL (goes_read (by rfl) ?hy) ?_; case hy => (intro w hSw; (try dsimp only at hSw); go_simp; (try with_reducible rfl))) | (refine wpU_takeB (i := 6) (v := _) HOPS rfl (by kernel_rfl) (fun _ _ _ h => h) HCL (goes_not (by rfl)) ?_)
            try simp only [Act.put, List.getElem_toArray, List.getElem_cons_succ, List.getElem_cons_zero, List.setIfInBounds_toArray, List.set_cons_zero, List.set_cons_succ]
            first | (refine wpU_takeB (i := 7) (v := ?_) HOPS rfl (by kernel_rfl) (fun _ _ _ h => h) HCL (goes_read (by rfl) ?hy) ?_; case hy => (intro w hSw; (try dsimp only at hSw); go_simp; (try with_reducible rfl))) | (refine wpU_takeB (i := 7) (v := _) HOPS rfl (by kernel_rfl) (fun _ _ _ h => h) HCL (goes_not (by rfl)) ?_)
            try simp only [Act.put, List.getElem_toArray, List.getElem_cons_succ, List.getElem_cons_zero, List.setIfInBounds_toArray, List.set_cons_zero, List.set_cons_succ]
            first | (refine wpU_takeB (i := 8) (v := ?_) HOPS rfl (by kernel_rfl) (fun _ _ _ h => h) HCL (goes_read (by rfl) ?hy) ?_; case hy => (intro w hSw; (try dsimp only at hSw); go_simp; (try with_reducible rfl))) | (refine wpU_takeB (i := 8) (v := _) HOPS rfl (by kernel_rfl) (fun _ _ _ h => h) HCL (goes_not (by rfl)) ?_)
            try simp only [Act.put, List.getElem_toArray, List.getElem_cons_succ, List.getElem_cons_zero, List.setIfInBounds_toArray, List.set_cons_zero, List.set_cons_succ]
            first | (refine wpU_takeB (i := 9) (v := ?_) HOPS rfl (by kernel_rfl) (fun _ _ _ h => h) HCL (goes_read (by rfl) ?hy) ?_; case hy => (intro w hSw; (try dsimp only at hSw); go_simp; (try with_reducible rfl))) | (refine wpU_takeB (i := 9) (v := _) HOPS rfl (by kernel_rfl) (fun _ _ _ h => h) HCL (goes_not (by rfl)) ?_)
            try simp only [Act.put, List.getElem_toArray, List.getElem_cons_succ, List.getElem_cons_zero, List.setIfInBounds_toArray, List.set_cons_zero, List.set_cons_succ]
            first | (refine wpU_takeB (i := 10) (v := ?_) HOPS rfl (by kernel_rfl) (fun _ _ _ h => h) HCL (goes_read (by rfl) ?hy) ?_; case hy => (intro w hSw; (try dsimp only at hSw); go_simp; (try with_reducible rfl))) | (refine wpU_takeB (i := 10) (v := _) HOPS rfl (by kernel_rfl) (fun _ _ _ h => h) HCL (goes_not (by rfl)) ?_)
            try simp only [Act.put, List.getElem_toArray, List.getElem_cons_succ, List.getElem_cons_zero, List.setIfInBounds_toArray, List.set_cons_zero, List.set_cons_succ]
            first | (refine wpU_takeB (i := 11) (v := ?_) HOPS rfl (by kernel_rfl) (fun _ _ _ h => h) HCL (goes_read (by rfl) ?hy) ?_; case hy => (intro w hSw; (try dsimp only at hSw); go_simp; (try with_reducible rfl))) | (refine wpU_takeB (i := 11) (v := _) HOPS rfl (by kernel_rfl) (fun _ _ _ h => h) HCL (goes_not (by rfl)) ?_)
            try simp only [Act.put, List.getElem_toArray, List.getElem_cons_succ, List.getElem_cons_zero, List.setIfInBounds_toArray, List.set_cons_zero, List.set_cons_succ]
            first | (refine wpU_takeB (i := 12) (v := ?_) HOPS rfl (by kernel_rfl) (fun _ _ _ h => h) HCL (goes_read (by rfl) ?hy) ?_; case hy => (intro w hSw; (try dsimp only at hSw); go_simp; (try with_reducible rfl))) | (refine wpU_takeB (i := 12) (v := _) HOPS rfl (by kernel_rfl) (fun _ _ _ h => h) HCL (goes_not (by rfl)) ?_)
            try simp only [Act.put, List.getElem_toArray, List.getElem_cons_succ, List.getElem_cons_zero, List.setIfInBounds_toArray, List.set_cons_zero, List.set_cons_succ]
            first | (refine wpU_takeB (i := 13) (v := ?_) HOPS rfl (by kernel_rfl) (fun _ _ _ h => h) HCL (goes_read (by rfl) ?hy) ?_; case hy => (intro w hSw; (try dsimp only at hSw); go_simp; (try with_reducible rfl))) | (refine wpU_takeB (i := 13) (v := _) HOPS rfl (by kernel_rfl) (fun _ _ _ h => h) HCL (goes_not (by rfl)) ?_)
            try simp only [Act.put, List.getElem_toArray, List.getElem_cons_succ, List.getElem_cons_zero, List.setIfInBounds_toArray, List.set_cons_zero, List.set_cons_succ]
            first | (refine wpU_takeB (i := 14) (v := ?_) HOPS rfl (by kernel_rfl) (fun _ _ _ h => h) HCL (goes_read (by rfl) ?hy) ?_; case hy => (intro w hSw; (try dsimp only at hSw); go_simp; (try with_reducible rfl))) | (refine wpU_takeB (i := 14) (v := _) HOPS rfl (by kernel_rfl) (fun _ _ _ h => h) HCL (goes_not (by rfl)) ?_)
            try simp only [Act.put, List.getElem_toArray, List.getElem_cons_succ, List.getElem_cons_zero, List.setIfInBounds_toArray, List.set_cons_zero, List.set_cons_succ]
            first | (refine wpU_takeB (i := 15) (v := ?_) HOPS rfl (by kernel_rfl) (fun _ _ _ h => h) HCL (goes_read (by rfl) ?hy) ?_; case hy => (intro w hSw; (try dsimp only at hSw); go_simp; (try with_reducible rfl))) | (refine wpU_takeB (i := 15) (v := _) HOPS rfl (by kernel_rfl) (fun _ _ _ h => h) HCL (goes_not (by rfl)) ?_)
            try simp only [Act.put, List.getElem_toArray, List.getElem_cons_succ, List.getElem_cons_zero, List.setIfInBounds_toArray, List.set_cons_zero, List.set_cons_succ]
            first | (refine wpU_takeB (i := 16) (v := ?_) HOPS rfl (by kernel_rfl) (fun _ _ _ h => h) HCL (goes_read (by rfl) ?hy) ?_; case hy => (intro w hSw; (try dsimp only at hSw); go_simp; (try with_reducible rfl))) | (refine wpU_takeB (i := 16) (v := _) HOPS rfl (by kernel_rfl) (fun _ _ _ h => h) HCL (goes_not (by rfl)) ?_)
            try simp only [Act.put, List.getElem_toArray, List.getElem_cons_succ, List.getElem_cons_zero, List.setIfInBounds_toArray, List.set_cons_zero, List.set_cons_succ]
            first | (refine wpU_takeB (i := 17) (v := ?_) HOPS rfl (by kernel_rfl) (fun _ _ _ h => h) HCL (goes_read (by rfl) ?hy) ?_; case hy => (intro w hSw; (try dsimp only at hSw); go_simp; (try with_reducible rfl))) | (refine wpU_takeB (i := 17) (v := _) HOPS rfl (by kernel_rfl) (fun _ _ _ h => h) HCL (goes_not (by rfl)) ?_)
            try simp only [Act.put, List.getElem_toArray, List.getElem_cons_succ, List.getElem_cons_zero, List.setIfInBounds_toArray, List.set_cons_zero, List.set_cons_succ]
            first | (refine wpU_takeB (i := 18) (v := ?_) HOPS rfl (by kernel_rfl) (fun _ _ _ h => h) HCL (goes_read (by rfl) ?hy) ?_; case hy => (intro w hSw; (try dsimp only at hSw); go_simp; (try with_reducible rfl))) | (refine wpU_takeB (i := 18) (v := _) HOPS rfl (by kernel_rfl) (fun _ _ _ h => h) HCL (goes_not (by rfl)) ?_)
            try simp only [Act.put, List.getElem_toArray, List.getElem_cons_succ, List.getElem_cons_zero, List.setIfInBounds_toArray, List.set_cons_zero, List.set_cons_succ]
            first | (refine wpU_takeB (i := 19) (v := ?_) HOPS rfl (by kernel_rfl) (fun _ _ _ h => h) HCL (goes_read (by rfl) ?hy) ?_; case hy => (intro w hSw; (try dsimp only at hSw); go_simp; (try with_reducible rfl))) | (refine wpU_takeB (i := 19) (v := _) HOPS rfl (by kernel_rfl) (fun _ _ _ h => h) HCL (goes_not (by rfl)) ?_)
            try simp only [Act.put, List.getElem_toArray, List.getElem_cons_succ, List.getElem_cons_zero, List.setIfInBounds_toArray, List.set_cons_zero, List.set_cons_succ]
            first | (refine wpU_takeB (i := 20) (v := ?_) HOPS rfl (by kernel_rfl) (fun _ _ _ h => h) HCL (goes_read (by rfl) ?hy) ?_; case hy => (intro w hSw; (try dsimp only at hSw); go_simp; (try with_reducible rfl))) | (refine wpU_takeB (i := 20) (v := _) HOPS rfl (by kernel_rfl) (fun _ _ _ h => h) HCL (goes_not (by rfl)) ?_)
            try simp only [Act.put, List.getElem_toArray, List.getElem_cons_succ, List.getElem_cons_zero, List.setIfInBounds_toArray, List.set_cons_zero, List.set_cons_succ]
            first | (refine wpU_takeB (i := 21) (v := ?_) HOPS rfl (by kernel_rfl) (fun _ _ _ h => h) HCL (goes_read (by rfl) ?hy) ?_; case hy => (intro w hSw; (try dsimp only at hSw); go_simp; (try with_reducible rfl))) | (refine wpU_takeB (i := 21) (v := _) HOPS rfl (by kernel_rfl) (fun _ _ _ h => h) HCL (goes_not (by rfl)) ?_)
            try simp only [Act.put, List.getElem_toArray, List.getElem_cons_succ, List.getElem_cons_zero, List.setIfInBounds_toArray, List.set_cons_zero, List.set_cons_succ]
            refine wpU_done (by kernel_rfl) (fun w18 hle => ?_) _
            have n := (hle.ahead (by kernel_rfl)).1
            replace HST := Lib.hid (n.heap HST.out id)
            replace NX := Lib.hid (NX.out.trans n)
            replace HOB := Lib.hid (n.heap HOB.out id)
            clear n
            clear HOPS HCL hle
            repeat clear hHeld
            clear dd0 dd1 dd2
            obtain ⟨tk, htk⟩ : ∃ z, vtakes c = z := ⟨_, rfl⟩
            obtain ⟨pt, hpt⟩ : ∃ z, vputs c = z := ⟨_, rfl⟩
            have tk2 : tk ≤ 2 := by rw [← htk]; exact vtakes_le c
            have pt1 : pt ≤ 1 := by rw [← hpt]; exact vputs_le c
            have HTK := Lib.hid (takes_any c cr)
            have kHST0 : w18.cell? ⟨b, 0, none⟩ = some (.slice (some ⟨pk, po, none⟩) L.length cap) := by rw [cell_of HST.out]; rfl
            have jHST0 : ∀ o, (w18.alloc o).cell? ⟨b, 0, none⟩ = some (.slice (some ⟨pk, po, none⟩) L.length cap) := fun o => cell_alloc_old o kHST0
            have kHST1 : w18.cell? ⟨b, 1, none⟩ = some (.int .i64 np) := by rw [cell_of HST.out]; rfl
            have jHST1 : ∀ o, (w18.alloc o).cell? ⟨b, 1, none⟩ = some (.int .i64 np) := fun o => cell_alloc_old o kHST1
            have kHST2 : w18.cell? ⟨b, 2, none⟩ = some (.int .i64 h) := by rw [cell_of HST.out]; rfl
            have jHST2 : ∀ o, (w18.alloc o).cell? ⟨b, 2, none⟩ = some (.int .i64 h) := fun o => cell_alloc_old o kHST2
            have kHST3 : w18.cell? ⟨b, 3, none⟩ = some (.int .i64 d) := by rw [cell_of HST.out]; rfl
            have jHST3 : ∀ o, (w18.alloc o).cell? ⟨b, 3, none⟩ = some (.int .i64 d) := fun o => cell_alloc_old o kHST3
            have kHOB0 : w18.cell? ⟨w.heap.size, 0, none⟩ = some (.int .i64 c) := by rw [cell_of HOB.out]; rfl
            have jHOB0 : ∀ o, (w18.alloc o).cell? ⟨w.heap.size, 0, none⟩ = some (.int .i64 c) := fun o => cell_alloc_old o kHOB0
            have kHOB1 : w18.cell? ⟨w.heap.size, 1, none⟩ = some (.int .i64 x) := by rw [cell_of HOB.out]; rfl
            have jHOB1 : ∀ o, (w18.alloc o).cell? ⟨w.heap.size, 1, none⟩ = some (.int .i64 x) := fun o => cell_alloc_old o kHOB1
            have kHOB2 : w18.cell? ⟨w.heap.size, 2, none⟩ = some (.int .i64 m) := by rw [cell_of HOB.out]; rfl
            have jHOB2 : ∀ o, (w18.alloc o).cell? ⟨w.heap.size, 2, none⟩ = some (.int .i64 m) := fun o => cell_alloc_old o kHOB2
            go_wp2_with (go_at_call 42; fail)
            clear kHST0 jHST0 kHST1 jHST1 kHST2 jHST2 kHST3 jHST3 kHOB0 jHOB0 kHOB1 jHOB1 kHOB2 jHOB2
            refine Calls_nm ?_
            intro W19 hW
            have n : Nw w18 W19 := by rw [hW]; first | exact Ch.refl _ _ | exact (Ch.refl _ _).alloc _ | exact ((Ch.refl _ _).alloc _).alloc _
            replace HST := Lib.hid (n.heap HST.out id)
            replace NX := Lib.hid (NX.out.trans n)
            replace HOB := Lib.hid (n.heap HOB.out id)
            clear hW n
            refine HTK.out _ _ ?_
            rw [htk, hpt] at HK HVR ⊢
            clear htk hpt HTK
            obtain ht | ht | ht : h < tk ∨ (tk ≤ h ∧ 8 < h - tk + pt) ∨ (tk ≤ h ∧ h - tk + pt ≤ 8) := by omega
            · as_aux_lemma =>
              have e1 : (h : Int) < (tk : Int) := by omega
              have kHST0 : W19.cell? ⟨b, 0, none⟩ = some (.slice (some ⟨pk, po, none⟩) L.length cap) := by rw [cell_of HST.out]; rfl
              have jHST0 : ∀ o, (W19.alloc o).cell? ⟨b, 0, none⟩ = some (.slice (some ⟨pk, po, none⟩) L.length cap) := fun o => cell_alloc_old o kHST0
              have kHST1 : W19.cell? ⟨b, 1, none⟩ = some (.int .i64 np) := by rw [cell_of HST.out]; rfl
              have jHST1 : ∀ o, (W19.alloc o).cell? ⟨b, 1, none⟩ = some (.int .i64 np) := fun o => cell_alloc_old o kHST1
              have kHST2 : W19.cell? ⟨b, 2, none⟩ = some (.int .i64 h) := by rw [cell_of HST.out]; rfl
              have jHST2 : ∀ o, (W19.alloc o).cell? ⟨b, 2, none⟩ = some (.int .i64 h) := fun o => cell_alloc_old o kHST2
              have kHST3 : W19.cell? ⟨b, 3, none⟩ = some (.int .i64 d) := by rw [cell_of HST.out]; rfl
              have jHST3 : ∀ o, (W19.alloc o).cell? ⟨b, 3, none⟩ = some (.int .i64 d) := fun o => cell_alloc_old o kHST3
              have kHOB0 : W19.cell? ⟨w.heap.size, 0, none⟩ = some (.int .i64 c) := by rw [cell_of HOB.out]; rfl
              have jHOB0 : ∀ o, (W19.alloc o).cell? ⟨w.heap.size, 0, none⟩ = some (.int .i64 c) := fun o => cell_alloc_old o kHOB0
              have kHOB1 : W19.cell? ⟨w.heap.size, 1, none⟩ = some (.int .i64 x) := by rw [cell_of HOB.out]; rfl
              have jHOB1 : ∀ o, (W19.alloc o).cell? ⟨w.heap.size, 1, none⟩ = some (.int .i64 x) := fun o => cell_alloc_old o kHOB1
              have kHOB2 : W19.cell? ⟨w.heap.size, 2, none⟩ = some (.int .i64 m) := by rw [cell_of HOB.out]; rfl
              have jHOB2 : ∀ o, (W19.alloc o).cell? ⟨w.heap.size, 2, none⟩ = some (.int .i64 m) := fun o => cell_alloc_old o kHOB2
              go_wp2
              exact HE.out _ 20 (by rw [HVR.out, if_pos (Or.inl ht)]) NX.out
            · as_aux_lemma =>
              have e1 : ¬ (h : Int) < (tk : Int) := by omega
              have e2 : (h : Int) - (tk : Int) + (pt : Int) > 8 := by omega
              have kHST0 : W19.cell? ⟨b, 0, none⟩ = some (.slice (some ⟨pk, po, none⟩) L.length cap) := by rw [cell_of HST.out]; rfl
              have jHST0 : ∀ o, (W19.alloc o).cell? ⟨b, 0, none⟩ = some (.slice (some ⟨pk, po, none⟩) L.length cap) := fun o => cell_alloc_old o kHST0
              have kHST1 : W19.cell? ⟨b, 1, none⟩ = some (.int .i64 np) := by rw [cell_of HST.out]; rfl
              have jHST1 : ∀ o, (W19.alloc o).cell? ⟨b, 1, none⟩ = some (.int .i64 np) := fun o => cell_alloc_old o kHST1
              have kHST2 : W19.cell? ⟨b, 2, none⟩ = some (.int .i64 h) := by rw [cell_of HST.out]; rfl
              have jHST2 : ∀ o, (W19.alloc o).cell? ⟨b, 2, none⟩ = some (.int .i64 h) := fun o => cell_alloc_old o kHST2
              have kHST3 : W19.cell? ⟨b, 3, none⟩ = some (.int .i64 d) := by rw [cell_of HST.out]; rfl
              have jHST3 : ∀ o, (W19.alloc o).cell? ⟨b, 3, none⟩ = some (.int .i64 d) := fun o => cell_alloc_old o kHST3
              have kHOB0 : W19.cell? ⟨w.heap.size, 0, none⟩ = some (.int .i64 c) := by rw [cell_of HOB.out]; rfl
              have jHOB0 : ∀ o, (W19.alloc o).cell? ⟨w.heap.size, 0, none⟩ = some (.int .i64 c) := fun o => cell_alloc_old o kHOB0
              have kHOB1 : W19.cell? ⟨w.heap.size, 1, none⟩ = some (.int .i64 x) := by rw [cell_of HOB.out]; rfl
              have jHOB1 : ∀ o, (W19.alloc o).cell? ⟨w.heap.size, 1, none⟩ = some (.int .i64 x) := fun o => cell_alloc_old o kHOB1
              have kHOB2 : W19.cell? ⟨w.heap.size, 2, none⟩ = some (.int .i64 m) := by rw [cell_of HOB.out]; rfl
              have jHOB2 : ∀ o, (W19.alloc o).cell? ⟨w.heap.size, 2, none⟩ = some (.int .i64 m) := fun o => cell_alloc_old o kHOB2
              go_wp2
              exact HE.out _ 20 (by rw [HVR.out, if_pos (Or.inr (by omega))]) NX.out
            · as_aux_lemma =>
              have e1 : ¬ (h : Int) < (tk : Int) := by omega
              obtain ⟨h2, hh2⟩ : ∃ z, h - tk + pt = z := ⟨_, rfl⟩
              have e2 : (h : Int) - (tk : Int) + (pt : Int) = (h2 : Int) := by omega
              have e3 : ¬ (h2 : Int) > 8 := by omega
              have HV2 := Lib.hid (show vchk c x m (t - i) nest np h = none from by rw [HVR.out, if_neg (by omega)])
              have hk9 := HK.out
              rw [hh2] at hk9
              have HK9 := Lib.hid hk9
              clear hk9 HVR HK hh2
              have kHST0 : W19.cell? ⟨b, 0, none⟩ = some (.slice (some ⟨pk, po, none⟩) L.length cap) := by rw [cell_of HST.out]; rfl
              have kHST1 : W19.cell? ⟨b, 1, none⟩ = some (.int .i64 np) := by rw [cell_of HST.out]; rfl
              have kHST2 : W19.cell? ⟨b, 2, none⟩ = some (.int .i64 h) := by rw [cell_of HST.out]; rfl
              have kHST3 : W19.cell? ⟨b, 3, none⟩ = some (.int .i64 d) := by rw [cell_of HST.out]; rfl
              have kHOB0 : W19.cell? ⟨w.heap.size, 0, none⟩ = some (.int .i64 c) := by rw [cell_of HOB.out]; rfl
              have kHOB1 : W19.cell? ⟨w.heap.size, 1, none⟩ = some (.int .i64 x) := by rw [cell_of HOB.out]; rfl
              have kHOB2 : W19.cell? ⟨w.heap.size, 2, none⟩ = some (.int .i64 m) := by rw [cell_of HOB.out]; rfl
              have fz : W19.frozen? ⟨b, 2, none⟩ = false := frozen_of HST.out
              go_upto_region 15 with (fail)
              clear kHST0 kHST1 kHST2 kHST3 kHOB0 kHOB1 kHOB2
              clear fz
              refine wp_named ?_
              intro W20 hW
              have cc : Ch (· = b) W19 W20 := by rw [hW]; exact (Ch.refl (· = b) W19).setb (fun _ => rfl) _
              have nb := Lib.hid (show W20.heap[b]? = some (.cells #[.slice (some ⟨pk, po, none⟩) L.length cap, .int .i64 np, .int .i64 h2, .int .i64 d] 60 (0, 0)) from by rw [hW]; exact heap_setCell_eq _ HST.out)
              have CX := Lib.hid (show Ch (· = b) w W20 from (NX.out.mono (fun _ _ h => h.elim)).trans cc)
              clear hW cc HST NX HOB
              have HST := nb
              clear nb
              obtain ⟨d2, hd2⟩ : ∃ z, max d h2 = z := ⟨_, rfl⟩
              have d21 : (if d < h2 then (h2 : Int) else (d : Int)) = (d2 : Int) := by split <;> omega
              rw [hd2] at HK9
              clear hd2
              have k2 : W20.cell? ⟨b, 2, none⟩ = some (.int .i64 h2) := by rw [cell_of HST.out]; rfl
              have k3 : W20.cell? ⟨b, 3, none⟩ = some (.int .i64 d) := by rw [cell_of HST.out]; rfl
              have k3f : W20.frozen? ⟨b, 3, none⟩ = false := frozen_of HST.out
              go_still_tail 10, (by kernel_rfl)
              go_wp2
              refine HK9.out _ HV2.out ?_ ?_
              · first | exact heap_setCell_eq _ HST.out | (show _ = _; exact heap_setCell_eq _ HST.out)
              · first | exact (CX.out.setb (fun _ => rfl) _).drewN _ | exact ((CX.out.drewN _).setb (fun _ => rfl) _) | exact ((CX.out.drewN _).setb (fun _ => rfl) _).drewN _ | exact (CX.out.setb (fun _ => rfl) _).drew
    · as_aux_lemma =>
      obtain ⟨hc1, hc2⟩ := hc
      have t15 : (c == 15) = false := by simp; omega
      have c14 : ¬ c ≥ 14 := by omega
      have HV := Lib.hid (vchk_rest (np := np) (h := h) (room := t - i) (nest := nest) HF.out (fun h => by omega) (fun h => by omega))
      have c10 : c ≥ 10 := hc1
      have c13 : c ≤ 13 := hc2
      obtain hn | hn | hn : x < 0 ∨ (0 ≤ x ∧ np ≤ x) ∨ (0 ≤ x ∧ x < np) := by omega
      · as_aux_lemma =>
        have g1 : x < 0 := hn
        have hv := HV.out
        rw [if_pos (by omega)] at hv
        have HVR := Lib.hid hv
        clear hv HV
        have kHST0 : w2.cell? ⟨b, 0, none⟩ = some (.slice (some ⟨pk, po, none⟩) L.length cap) := by rw [cell_of HST.out]; rfl
        have kHST1 : w2.cell? ⟨b, 1, none⟩ = some (.int .i64 np) := by rw [cell_of HST.out]; rfl
        have kHST2 : w2.cell? ⟨b, 2, none⟩ = some (.int .i64 h) := by rw [cell_of HST.out]; rfl
        have kHST3 : w2.cell? ⟨b, 3, none⟩ = some (.int .i64 d) := by rw [cell_of HST.out]; rfl
        have kHOB0 : w2.cell? ⟨w.heap.size, 0, none⟩ = some (.int .i64 c) := by rw [cell_of HOB.out]; rfl
        have kHOB1 : w2.cell? ⟨w.heap.size, 1, none⟩ = some (.int .i64 x) := by rw [cell_of HOB.out]; rfl
        have kHOB2 : w2.cell? ⟨w.heap.size, 2, none⟩ = some (.int .i64 m) := by rw [cell_of HOB.out]; rfl
        go_upto_region 9 with (fail)
        clear kHST0 kHST1 kHST2 kHST3 kHOB0 kHOB1 kHOB2
        have dd0 : decide (c ≥ 10) = true := by simp; omega
        have dd1 : decide (10 ≤ c) = true := by simp; omega
        have dd2 : decide (c ≤ 13) = true := by simp; omega
        have dd4 : decide (x < 0) = true := by simp; omega
        refine wp_named ?_
        intro W21 hW
        have n : Nw w2 W21 := by rw [hW]; first | exact Ch.refl _ _ | exact (Ch.refl _ _).alloc _
        replace HST := Lib.hid (n.heap HST.out id)
        replace NX := Lib.hid (NX.out.trans n)
        replace HOB := Lib.hid (n.heap HOB.out id)
        clear hW n
        refine wp_region_V (F := fun w' => w'.cell? ⟨b, 0, none⟩ = some (.slice (some ⟨pk, po, none⟩) L.length cap) ∧ w'.cell? ⟨b, 1, none⟩ = some (.int .i64 np) ∧ w'.cell? ⟨b, 2, none⟩ = some (.int .i64 h) ∧ w'.cell? ⟨b, 3, none⟩ = some (.int .i64 d) ∧ w'.cell? ⟨w.heap.size, 0, none⟩ = some (.int .i64 c) ∧ w'.cell? ⟨w.heap.size, 1, none⟩ = some (.int .i64 x) ∧ w'.cell? ⟨w.heap.size, 2, none⟩ = some (.int .i64 m)) (opsOf Tryz.f42 9) 22 22 (by kernel_rfl) (by kernel_rfl) (by kernel_rfl) (fun w w' h n => ⟨n.cell h.1 id, n.cell h.2.1 id, n.cell h.2.2.1 id, n.cell h.2.2.2.1 id, n.cell h.2.2.2.2.1 id, n.cell h.2.2.2.2.2.1 id, n.cell h.2.2.2.2.2.2 id⟩) ⟨by show W21.cell? _ = _; rw [cell_of HST.out]; rfl, by show W21.cell? _ = _; rw [cell_of HST.out]; rfl, by show W21.cell? _ = _; rw [cell_of HST.out]; rfl, by show W21.cell? _ = _; rw [cell_of HST.out]; rfl, by show W21.cell? _ = _; rw [cell_of HOB.out]; rfl, by show W21.cell? _ = _; rw [cell_of HOB.out]; rfl, by show W21.cell? _ = _; rw [cell_of HOB.out]; rfl⟩ (fun HOPS HCL hHeld => ?_)
        refine wpU_named ?_
        intro W22 hW
        try rw [← hW] at hHeld
        have n : Nw W21 W22 := by rw [hW]; exact (Ch.refl _ _).drew
        replace HST := Lib.hid (n.heap HST.out id)
        replace NX := Lib.hid (NX.out.trans n)
        replace HOB := Lib.hid (n.heap HOB.out id)
        clear hW n
        first | (refine wpU_takeB (i := 0) (v := ?_) HOPS rfl (by kernel_rfl) (fun _ _ _ h => h) HCL (goes_read (by rfl) ?hy) ?_; case hy => (intro w hSw; (try dsimp only at hSw); go_simp; (try with_reducible rfl))) | (refine wpU_takeB (i := 0) (v := _) HOPS rfl (by kernel_rfl) (fun _ _ _ h => h) HCL (goes_not (by rfl)) ?_)
        try simp only [Act.put, List.getElem_toArray, List.getElem_cons_succ, List.getElem_cons_zero, List.setIfInBounds_toArray, List.set_cons_zero, List.set_cons_succ]
        first | (refine wpU_takeB (i := 1) (v := ?_) HOPS rfl (by kernel_rfl) (fun _ _ _ h => h) HCL (goes_read (by rfl) ?hy) ?_; case hy => (intro w hSw; (try dsimp only at hSw); go_simp; (try with_reducible rfl))) | (refine wpU_takeB (i := 1) (v := _) HOPS rfl (by kernel_rfl) (fun _ _ _ h => h) HCL (goes_not (by rfl)) ?_)
        try simp only [Act.put, List.getElem_toArray, List.getElem_cons_succ, List.getElem_cons_zero, List.setIfInBounds_toArray, List.set_cons_zero, List.set_cons_succ]
        first | (refine wpU_takeB (i := 2) (v := ?_) HOPS rfl (by kernel_rfl) (fun _ _ _ h => h) HCL (goes_read (by rfl) ?hy) ?_; case hy => (intro w hSw; (try dsimp only at hSw); go_simp; (try with_reducible rfl))) | (refine wpU_takeB (i := 2) (v := _) HOPS rfl (by kernel_rfl) (fun _ _ _ h => h) HCL (goes_not (by rfl)) ?_)
        try simp only [Act.put, List.getElem_toArray, List.getElem_cons_succ, List.getElem_cons_zero, List.setIfInBounds_toArray, List.set_cons_zero, List.set_cons_succ]
        first | (refine wpU_takeB (i := 3) (v := ?_) HOPS rfl (by kernel_rfl) (fun _ _ _ h => h) HCL (goes_read (by rfl) ?hy) ?_; case hy => (intro w hSw; (try dsimp only at hSw); go_simp; (try with_reducible rfl))) | (refine wpU_takeB (i := 3) (v := _) HOPS rfl (by kernel_rfl) (fun _ _ _ h => h) HCL (goes_not (by rfl)) ?_)
        try simp only [Act.put, List.getElem_toArray, List.getElem_cons_succ, List.getElem_cons_zero, List.setIfInBounds_toArray, List.set_cons_zero, List.set_cons_succ]
        first | (refine wpU_takeB (i := 4) (v := ?_) HOPS rfl (by kernel_rfl) (fun _ _ _ h => h) HCL (goes_read (by rfl) ?hy) ?_; case hy => (intro w hSw; (try dsimp only at hSw); go_simp; (try with_reducible rfl))) | (refine wpU_takeB (i := 4) (v := _) HOPS rfl (by kernel_rfl) (fun _ _ _ h => h) HCL (goes_not (by rfl)) ?_)
        try simp only [Act.put, List.getElem_toArray, List.getElem_cons_succ, List.getElem_cons_zero, List.setIfInBounds_toArray, List.set_cons_zero, List.set_cons_succ]
        first | (refine wpU_takeB (i := 5) (v := ?_) HOPS rfl (by kernel_rfl) (fun _ _ _ h => h) HCL (goes_read (by rfl) ?hy) ?_; case hy => (intro w hSw; (try dsimp only at hSw); go_simp; (try with_reducible rfl))) | (refine wpU_takeB (i := 5) (v := _) HOPS rfl (by kernel_rfl) (fun _ _ _ h => h) HCL (goes_not (by rfl)) ?_)
        try simp only [Act.put, List.getElem_toArray, List.getElem_cons_succ, List.getElem_cons_zero, List.setIfInBounds_toArray, List.set_cons_zero, List.set_cons_succ]
        first | (refine wpU_takeB (i := 6) (v := ?_) HOPS rfl (by kernel_rfl) (fun _ _ _ h => h) HCL (goes_read (by rfl) ?hy) ?_; case hy => (intro w hSw; (try dsimp only at hSw); go_simp; (try with_reducible rfl))) | (refine wpU_takeB (i := 6) (v := _) HOPS rfl (by kernel_rfl) (fun _ _ _ h => h) HCL (goes_not (by rfl)) ?_)
        try simp only [Act.put, List.getElem_toArray, List.getElem_cons_succ, List.getElem_cons_zero, List.setIfInBounds_toArray, List.set_cons_zero, List.set_cons_succ]
        first | (refine wpU_takeB (i := 7) (v := ?_) HOPS rfl (by kernel_rfl) (fun _ _ _ h => h) HCL (goes_read (by rfl) ?hy) ?_; case hy => (intro w hSw; (try dsimp only at hSw); go_simp; (try with_reducible rfl))) | (refine wpU_takeB (i := 7) (v := _) HOPS rfl (by kernel_rfl) (fun _ _ _ h => h) HCL (goes_not (by rfl)) ?_)
        try simp only [Act.put, List.getElem_toArray, List.getElem_cons_succ, List.getElem_cons_zero, List.setIfInBounds_toArray, List.set_cons_zero, List.set_cons_succ]
        first | (refine wpU_takeB (i := 8) (v := ?_) HOPS rfl (by kernel_rfl) (fun _ _ _ h => h) HCL (goes_read (by rfl) ?hy) ?_; case hy => (intro w hSw; (try dsimp only at hSw); go_simp; (try with_reducible rfl))) | (refine wpU_takeB (i := 8) (v := _) HOPS rfl (by kernel_rfl) (fun _ _ _ h => h) HCL (goes_not (by rfl)) ?_)
        try simp only [Act.put, List.getElem_toArray, List.getElem_cons_succ, List.getElem_cons_zero, List.setIfInBounds_toArray, List.set_cons_zero, List.set_cons_succ]
        first | (refine wpU_takeB (i := 9) (v := ?_) HOPS rfl (by kernel_rfl) (fun _ _ _ h => h) HCL (goes_read (by rfl) ?hy) ?_; case hy => (intro w hSw; (try dsimp only at hSw); go_simp; (try with_reducible rfl))) | (refine wpU_takeB (i := 9) (v := _) HOPS rfl (by kernel_rfl) (fun _ _ _ h => h) HCL (goes_not (by rfl)) ?_)
        try simp only [Act.put, List.getElem_toArray, List.getElem_cons_succ, List.getElem_cons_zero, List.setIfInBounds_toArray, List.set_cons_zero, List.set_cons_succ]
        first | (refine wpU_takeB (i := 10) (v := ?_) HOPS rfl (by kernel_rfl) (fun _ _ _ h => h) HCL (goes_read (by rfl) ?hy) ?_; case hy => (intro w hSw; (try dsimp only at hSw); go_simp; (try with_reducible rfl))) | (refine wpU_takeB (i := 10) (v := _) HOPS rfl (by kernel_rfl) (fun _ _ _ h => h) HCL (goes_not (by rfl)) ?_)
        try simp only [Act.put, List.getElem_toArray, List.getElem_cons_succ, List.getElem_cons_zero, List.setIfInBounds_toArray, List.set_cons_zero, List.set_cons_succ]
        first | (refine wpU_takeB (i := 11) (v := ?_) HOPS rfl (by kernel_rfl) (fun _ _ _ h => h) HCL (goes_read (by rfl) ?hy) ?_; case hy => (intro w hSw; (try dsimp only at hSw); go_simp; (try with_reducible rfl))) | (refine wpU_takeB (i := 11) (v := _) HOPS rfl (by kernel_rfl) (fun _ _ _ h => h) HCL (goes_not (by rfl)) ?_)
        try simp only [Act.put, List.getElem_toArray, List.getElem_cons_succ, List.getElem_cons_zero, List.setIfInBounds_toArray, List.set_cons_zero, List.set_cons_succ]
        first | (refine wpU_takeB (i := 12) (v := ?_) HOPS rfl (by kernel_rfl) (fun _ _ _ h => h) HCL (goes_read (by rfl) ?hy) ?_; case hy => (intro w hSw; (try dsimp only at hSw); go_simp; (try with_reducible rfl))) | (refine wpU_takeB (i := 12) (v := _) HOPS rfl (by kernel_rfl) (fun _ _ _ h => h) HCL (goes_not (by rfl)) ?_)
        try simp only [Act.put, List.getElem_toArray, List.getElem_cons_succ, List.getElem_cons_zero, List.setIfInBounds_toArray, List.set_cons_zero, List.set_cons_succ]
        first | (refine wpU_takeB (i := 13) (v := ?_) HOPS rfl (by kernel_rfl) (fun _ _ _ h => h) HCL (goes_read (by rfl) ?hy) ?_; case hy => (intro w hSw; (try dsimp only at hSw); go_simp; (try with_reducible rfl))) | (refine wpU_takeB (i := 13) (v := _) HOPS rfl (by kernel_rfl) (fun _ _ _ h => h) HCL (goes_not (by rfl)) ?_)
        try simp only [Act.put, List.getElem_toArray, List.getElem_cons_succ, List.getElem_cons_zero, List.setIfInBounds_toArray, List.set_cons_zero, List.set_cons_succ]
        first | (refine wpU_takeB (i := 14) (v := ?_) HOPS rfl (by kernel_rfl) (fun _ _ _ h => h) HCL (goes_read (by rfl) ?hy) ?_; case hy => (intro w hSw; (try dsimp only at hSw); go_simp; (try with_reducible rfl))) | (refine wpU_takeB (i := 14) (v := _) HOPS rfl (by kernel_rfl) (fun _ _ _ h => h) HCL (goes_not (by rfl)) ?_)
        try simp only [Act.put, List.getElem_toArray, List.getElem_cons_succ, List.getElem_cons_zero, List.setIfInBounds_toArray, List.set_cons_zero, List.set_cons_succ]
        first | (refine wpU_takeB (i := 15) (v := ?_) HOPS rfl (by kernel_rfl) (fun _ _ _ h => h) HCL (goes_read (by rfl) ?hy) ?_; case hy => (intro w hSw; (try dsimp only at hSw); go_simp; (try with_reducible rfl))) | (refine wpU_takeB (i := 15) (v := _) HOPS rfl (by kernel_rfl) (fun _ _ _ h => h) HCL (goes_not (by rfl)) ?_)
        try simp only [Act.put, List.getElem_toArray, List.getElem_cons_succ, List.getElem_cons_zero, List.setIfInBounds_toArray, List.set_cons_zero, List.set_cons_succ]
        first | (refine wpU_takeB (i := 16) (v := ?_) HOPS rfl (by kernel_rfl) (fun _ _ _ h => h) HCL (goes_read (by rfl) ?hy) ?_; case hy => (intro w hSw; (try dsimp only at hSw); go_simp; (try with_reducible rfl))) | (refine wpU_takeB (i := 16) (v := _) HOPS rfl (by kernel_rfl) (fun _ _ _ h => h) HCL (goes_not (by rfl)) ?_)
        try simp only [Act.put, List.getElem_toArray, List.getElem_cons_succ, List.getElem_cons_zero, List.setIfInBounds_toArray, List.set_cons_zero, List.set_cons_succ]
        first | (refine wpU_takeB (i := 17) (v := ?_) HOPS rfl (by kernel_rfl) (fun _ _ _ h => h) HCL (goes_read (by rfl) ?hy) ?_; case hy => (intro w hSw; (try dsimp only at hSw); go_simp; (try with_reducible rfl))) | (refine wpU_takeB (i := 17) (v := _) HOPS rfl (by kernel_rfl) (fun _ _ _ h => h) HCL (goes_not (by rfl)) ?_)
        try simp only [Act.put, List.getElem_toArray, List.getElem_cons_succ, List.getElem_cons_zero, List.setIfInBounds_toArray, List.set_cons_zero, List.set_cons_succ]
        first | (refine wpU_takeB (i := 18) (v := ?_) HOPS rfl (by kernel_rfl) (fun _ _ _ h => h) HCL (goes_read (by rfl) ?hy) ?_; case hy => (intro w hSw; (try dsimp only at hSw); go_simp; (try with_reducible rfl))) | (refine wpU_takeB (i := 18) (v := _) HOPS rfl (by kernel_rfl) (fun _ _ _ h => h) HCL (goes_not (by rfl)) ?_)
        try simp only [Act.put, List.getElem_toArray, List.getElem_cons_succ, List.getElem_cons_zero, List.setIfInBounds_toArray, List.set_cons_zero, List.set_cons_succ]
        first | (refine wpU_takeB (i := 19) (v := ?_) HOPS rfl (by kernel_rfl) (fun _ _ _ h => h) HCL (goes_read (by rfl) ?hy) ?_; case hy => (intro w hSw; (try dsimp only at hSw); go_simp; (try with_reducible rfl))) | (refine wpU_takeB (i := 19) (v := _) HOPS rfl (by kernel_rfl) (fun _ _ _ h => h) HCL (goes_not (by rfl)) ?_)
        try simp only [Act.put, List.getElem_toArray, List.getElem_cons_succ, List.getElem_cons_zero, List.setIfInBounds_toArray, List.set_cons_zero, List.set_cons_succ]
        first | (refine wpU_takeB (i := 20) (v := ?_) HOPS rfl (by kernel_rfl) (fun _ _ _ h => h) HCL (goes_read (by rfl) ?hy) ?_; case hy => (intro w hSw; (try dsimp only at hSw); go_simp; (try with_reducible rfl))) | (refine wpU_takeB (i := 20) (v := _) HOPS rfl (by kernel_rfl) (fun _ _ _ h => h) HCL (goes_not (by rfl)) ?_)
        try simp only [Act.put, List.getElem_toArray, List.getElem_cons_succ, List.getElem_cons_zero, List.setIfInBounds_toArray, List.set_cons_zero, List.set_cons_succ]
        first | (refine wpU_takeB (i := 21) (v := ?_) HOPS rfl (by kernel_rfl) (fun _ _ _ h => h) HCL (goes_read (by rfl) ?hy) ?_; case hy => (intro w hSw; (try dsimp only at hSw); go_simp; (try with_reducible rfl))) | (refine wpU_takeB (i := 21) (v := _) HOPS rfl (by kernel_rfl) (fun _ _ _ h => h) HCL (goes_not (by rfl)) ?_)
        try simp only [Act.put, List.getElem_toArray, List.getElem_cons_succ, List.getElem_cons_zero, List.setIfInBounds_toArray, List.set_cons_zero, List.set_cons_succ]
        refine wpU_done (by kernel_rfl) (fun w23 hle => ?_) _
        have n := (hle.ahead (by kernel_rfl)).1
        replace HST := Lib.hid (n.heap HST.out id)
        replace NX := Lib.hid (NX.out.trans n)
        replace HOB := Lib.hid (n.heap HOB.out id)
        clear n
        clear HOPS HCL hle
        repeat clear hHeld
        clear dd0 dd1 dd2 dd4
        go_wp2
        exact HE.out _ 22 HVR.out NX.out
      · as_aux_lemma =>
        have g1 : ¬ x < 0 := by omega
        have g2 : x ≥ np := hn.2
        have hv := HV.out
        rw [if_pos (by omega)] at hv
        have HVR := Lib.hid hv
        clear hv HV
        have kHST0 : w2.cell? ⟨b, 0, none⟩ = some (.slice (some ⟨pk, po, none⟩) L.length cap) := by rw [cell_of HST.out]; rfl
        have kHST1 : w2.cell? ⟨b, 1, none⟩ = some (.int .i64 np) := by rw [cell_of HST.out]; rfl
        have kHST2 : w2.cell? ⟨b, 2, none⟩ = some (.int .i64 h) := by rw [cell_of HST.out]; rfl
        have kHST3 : w2.cell? ⟨b, 3, none⟩ = some (.int .i64 d) := by rw [cell_of HST.out]; rfl
        have kHOB0 : w2.cell? ⟨w.heap.size, 0, none⟩ = some (.int .i64 c) := by rw [cell_of HOB.out]; rfl
        have kHOB1 : w2.cell? ⟨w.heap.size, 1, none⟩ = some (.int .i64 x) := by rw [cell_of HOB.out]; rfl
        have kHOB2 : w2.cell? ⟨w.heap.size, 2, none⟩ = some (.int .i64 m) := by rw [cell_of HOB.out]; rfl
        go_upto_region 9 with (fail)
        clear kHST0 kHST1 kHST2 kHST3 kHOB0 kHOB1 kHOB2
        have dd0 : decide (c ≥ 10) = true := by simp; omega
        have dd1 : decide (10 ≤ c) = true := by simp; omega
        have dd2 : decide (c ≤ 13) = true := by simp; omega
        have dd4 : decide (x < 0) = false := by simp; omega
        have dd6 : decide (x ≥ np) = true := by simp; omega
        have dd7 : decide (np ≤ x) = true := by simp; omega
        refine wp_named ?_
        intro W24 hW
        have n : Nw w2 W24 := by rw [hW]; first | exact Ch.refl _ _ | exact (Ch.refl _ _).alloc _
        replace HST := Lib.hid (n.heap HST.out id)
        replace NX := Lib.hid (NX.out.trans n)
        replace HOB := Lib.hid (n.heap HOB.out id)
        clear hW n
        refine wp_region_V (F := fun w' => w'.cell? ⟨b, 0, none⟩ = some (.slice (some ⟨pk, po, none⟩) L.length cap) ∧ w'.cell? ⟨b, 1, none⟩ = some (.int .i64 np) ∧ w'.cell? ⟨b, 2, none⟩ = some (.int .i64 h) ∧ w'.cell? ⟨b, 3, none⟩ = some (.int .i64 d) ∧ w'.cell? ⟨w.heap.size, 0, none⟩ = some (.int .i64 c) ∧ w'.cell? ⟨w.heap.size, 1, none⟩ = some (.int .i64 x) ∧ w'.cell? ⟨w.heap.size, 2, none⟩ = some (.int .i64 m)) (opsOf Tryz.f42 9) 22 22 (by kernel_rfl) (by kernel_rfl) (by kernel_rfl) (fun w w' h n => ⟨n.cell h.1 id, n.cell h.2.1 id, n.cell h.2.2.1 id, n.cell h.2.2.2.1 id, n.cell h.2.2.2.2.1 id, n.cell h.2.2.2.2.2.1 id, n.cell h.2.2.2.2.2.2 id⟩) ⟨by show W24.cell? _ = _; rw [cell_of HST.out]; rfl, by show W24.cell? _ = _; rw [cell_of HST.out]; rfl, by show W24.cell? _ = _; rw [cell_of HST.out]; rfl, by show W24.cell? _ = _; rw [cell_of HST.out]; rfl, by show W24.cell? _ = _; rw [cell_of HOB.out]; rfl, by show W24.cell? _ = _; rw [cell_of HOB.out]; rfl, by show W24.cell? _ = _; rw [cell_of HOB.out]; rfl⟩ (fun HOPS HCL hHeld => ?_)
        refine wpU_named ?_
        intro W25 hW
        try rw [← hW] at hHeld
        have n : Nw W24 W25 := by rw [hW]; exact (Ch.refl _ _).drew
        replace HST := Lib.hid (n.heap HST.out id)
        replace NX := Lib.hid (NX.out.trans n)
        replace HOB := Lib.hid (n.heap HOB.out id)
        clear hW n
        first | (refine wpU_takeB (i := 0) (v := ?_) HOPS rfl (by kernel_rfl) (fun _ _ _ h => h) HCL (goes_read (by rfl) ?hy) ?_; case hy => (intro w hSw; (try dsimp only at hSw); go_simp; (try with_reducible rfl))) | (refine wpU_takeB (i := 0) (v := _) HOPS rfl (by kernel_rfl) (fun _ _ _ h => h) HCL (goes_not (by rfl)) ?_)
        try simp only [Act.put, List.getElem_toArray, List.getElem_cons_succ, List.getElem_cons_zero, List.setIfInBounds_toArray, List.set_cons_zero, List.set_cons_succ]
        first | (refine wpU_takeB (i := 1) (v := ?_) HOPS rfl (by kernel_rfl) (fun _ _ _ h => h) HCL (goes_read (by rfl) ?hy) ?_; case hy => (intro w hSw; (try dsimp only at hSw); go_simp; (try with_reducible rfl))) | (refine wpU_takeB (i := 1) (v := _) HOPS rfl (by kernel_rfl) (fun _ _ _ h => h) HCL (goes_not (by rfl)) ?_)
        try simp only [Act.put, List.getElem_toArray, List.getElem_cons_succ, List.getElem_cons_zero, List.setIfInBounds_toArray, List.set_cons_zero, List.set_cons_succ]
        first | (refine wpU_takeB (i := 2) (v := ?_) HOPS rfl (by kernel_rfl) (fun _ _ _ h => h) HCL (goes_read (by rfl) ?hy) ?_; case hy => (intro w hSw; (try dsimp only at hSw); go_simp; (try with_reducible rfl))) | (refine wpU_takeB (i := 2) (v := _) HOPS rfl (by kernel_rfl) (fun _ _ _ h => h) HCL (goes_not (by rfl)) ?_)
        try simp only [Act.put, List.getElem_toArray, List.getElem_cons_succ, List.getElem_cons_zero, List.setIfInBounds_toArray, List.set_cons_zero, List.set_cons_succ]
        first | (refine wpU_takeB (i := 3) (v := ?_) HOPS rfl (by kernel_rfl) (fun _ _ _ h => h) HCL (goes_read (by rfl) ?hy) ?_; case hy => (intro w hSw; (try dsimp only at hSw); go_simp; (try with_reducible rfl))) | (refine wpU_takeB (i := 3) (v := _) HOPS rfl (by kernel_rfl) (fun _ _ _ h => h) HCL (goes_not (by rfl)) ?_)
        try simp only [Act.put, List.getElem_toArray, List.getElem_cons_succ, List.getElem_cons_zero, List.setIfInBounds_toArray, List.set_cons_zero, List.set_cons_succ]
        first | (refine wpU_takeB (i := 4) (v := ?_) HOPS rfl (by kernel_rfl) (fun _ _ _ h => h) HCL (goes_read (by rfl) ?hy) ?_; case hy => (intro w hSw; (try dsimp only at hSw); go_simp; (try with_reducible rfl))) | (refine wpU_takeB (i := 4) (v := _) HOPS rfl (by kernel_rfl) (fun _ _ _ h => h) HCL (goes_not (by rfl)) ?_)
        try simp only [Act.put, List.getElem_toArray, List.getElem_cons_succ, List.getElem_cons_zero, List.setIfInBounds_toArray, List.set_cons_zero, List.set_cons_succ]
        first | (refine wpU_takeB (i := 5) (v := ?_) HOPS rfl (by kernel_rfl) (fun _ _ _ h => h) HCL (goes_read (by rfl) ?hy) ?_; case hy => (intro w hSw; (try dsimp only at hSw); go_simp; (try with_reducible rfl))) | (refine wpU_takeB (i := 5) (v := _) HOPS rfl (by kernel_rfl) (fun _ _ _ h => h) HCL (goes_not (by rfl)) ?_)
        try simp only [Act.put, List.getElem_toArray, List.getElem_cons_succ, List.getElem_cons_zero, List.setIfInBounds_toArray, List.set_cons_zero, List.set_cons_succ]
        first | (refine wpU_takeB (i := 6) (v := ?_) HOPS rfl (by kernel_rfl) (fun _ _ _ h => h) HCL (goes_read (by rfl) ?hy) ?_; case hy => (intro w hSw; (try dsimp only at hSw); go_simp; (try with_reducible rfl))) | (refine wpU_takeB (i := 6) (v := _) HOPS rfl (by kernel_rfl) (fun _ _ _ h => h) HCL (goes_not (by rfl)) ?_)
        try simp only [Act.put, List.getElem_toArray, List.getElem_cons_succ, List.getElem_cons_zero, List.setIfInBounds_toArray, List.set_cons_zero, List.set_cons_succ]
        first | (refine wpU_takeB (i := 7) (v := ?_) HOPS rfl (by kernel_rfl) (fun _ _ _ h => h) HCL (goes_read (by rfl) ?hy) ?_; case hy => (intro w hSw; (try dsimp only at hSw); go_simp; (try with_reducible rfl))) | (refine wpU_takeB (i := 7) (v := _) HOPS rfl (by kernel_rfl) (fun _ _ _ h => h) HCL (goes_not (by rfl)) ?_)
        try simp only [Act.put, List.getElem_toArray, List.getElem_cons_succ, List.getElem_cons_zero, List.setIfInBounds_toArray, List.set_cons_zero, List.set_cons_succ]
        first | (refine wpU_takeB (i := 8) (v := ?_) HOPS rfl (by kernel_rfl) (fun _ _ _ h => h) HCL (goes_read (by rfl) ?hy) ?_; case hy => (intro w hSw; (try dsimp only at hSw); go_simp; (try with_reducible rfl))) | (refine wpU_takeB (i := 8) (v := _) HOPS rfl (by kernel_rfl) (fun _ _ _ h => h) HCL (goes_not (by rfl)) ?_)
        try simp only [Act.put, List.getElem_toArray, List.getElem_cons_succ, List.getElem_cons_zero, List.setIfInBounds_toArray, List.set_cons_zero, List.set_cons_succ]
        first | (refine wpU_takeB (i := 9) (v := ?_) HOPS rfl (by kernel_rfl) (fun _ _ _ h => h) HCL (goes_read (by rfl) ?hy) ?_; case hy => (intro w hSw; (try dsimp only at hSw); go_simp; (try with_reducible rfl))) | (refine wpU_takeB (i := 9) (v := _) HOPS rfl (by kernel_rfl) (fun _ _ _ h => h) HCL (goes_not (by rfl)) ?_)
        try simp only [Act.put, List.getElem_toArray, List.getElem_cons_succ, List.getElem_cons_zero, List.setIfInBounds_toArray, List.set_cons_zero, List.set_cons_succ]
        first | (refine wpU_takeB (i := 10) (v := ?_) HOPS rfl (by kernel_rfl) (fun _ _ _ h => h) HCL (goes_read (by rfl) ?hy) ?_; case hy => (intro w hSw; (try dsimp only at hSw); go_simp; (try with_reducible rfl))) | (refine wpU_takeB (i := 10) (v := _) HOPS rfl (by kernel_rfl) (fun _ _ _ h => h) HCL (goes_not (by rfl)) ?_)
        try simp only [Act.put, List.getElem_toArray, List.getElem_cons_succ, List.getElem_cons_zero, List.setIfInBounds_toArray, List.set_cons_zero, List.set_cons_succ]
        first | (refine wpU_takeB (i := 11) (v := ?_) HOPS rfl (by kernel_rfl) (fun _ _ _ h => h) HCL (goes_read (by rfl) ?hy) ?_; case hy => (intro w hSw; (try dsimp only at hSw); go_simp; (try with_reducible rfl))) | (refine wpU_takeB (i := 11) (v := _) HOPS rfl (by kernel_rfl) (fun _ _ _ h => h) HCL (goes_not (by rfl)) ?_)
        try simp only [Act.put, List.getElem_toArray, List.getElem_cons_succ, List.getElem_cons_zero, List.setIfInBounds_toArray, List.set_cons_zero, List.set_cons_succ]
        first | (refine wpU_takeB (i := 12) (v := ?_) HOPS rfl (by kernel_rfl) (fun _ _ _ h => h) HCL (goes_read (by rfl) ?hy) ?_; case hy => (intro w hSw; (try dsimp only at hSw); go_simp; (try with_reducible rfl))) | (refine wpU_takeB (i := 12) (v := _) HOPS rfl (by kernel_rfl) (fun _ _ _ h => h) HCL (goes_not (by rfl)) ?_)
        try simp only [Act.put, List.getElem_toArray, List.getElem_cons_succ, List.getElem_cons_zero, List.setIfInBounds_toArray, List.set_cons_zero, List.set_cons_succ]
        first | (refine wpU_takeB (i := 13) (v := ?_) HOPS rfl (by kernel_rfl) (fun _ _ _ h => h) HCL (goes_read (by rfl) ?hy) ?_; case hy => (intro w hSw; (try dsimp only at hSw); go_simp; (try with_reducible rfl))) | (refine wpU_takeB (i := 13) (v := _) HOPS rfl (by kernel_rfl) (fun _ _ _ h => h) HCL (goes_not (by rfl)) ?_)
        try simp only [Act.put, List.getElem_toArray, List.getElem_cons_succ, List.getElem_cons_zero, List.setIfInBounds_toArray, List.set_cons_zero, List.set_cons_succ]
        first | (refine wpU_takeB (i := 14) (v := ?_) HOPS rfl (by kernel_rfl) (fun _ _ _ h => h) HCL (goes_read (by rfl) ?hy) ?_; case hy => (intro w hSw; (try dsimp only at hSw); go_simp; (try with_reducible rfl))) | (refine wpU_takeB (i := 14) (v := _) HOPS rfl (by kernel_rfl) (fun _ _ _ h => h) HCL (goes_not (by rfl)) ?_)
        try simp only [Act.put, List.getElem_toArray, List.getElem_cons_succ, List.getElem_cons_zero, List.setIfInBounds_toArray, List.set_cons_zero, List.set_cons_succ]
        first | (refine wpU_takeB (i := 15) (v := ?_) HOPS rfl (by kernel_rfl) (fun _ _ _ h => h) HCL (goes_read (by rfl) ?hy) ?_; case hy => (intro w hSw; (try dsimp only at hSw); go_simp; (try with_reducible rfl))) | (refine wpU_takeB (i := 15) (v := _) HOPS rfl (by kernel_rfl) (fun _ _ _ h => h) HCL (goes_not (by rfl)) ?_)
        try simp only [Act.put, List.getElem_toArray, List.getElem_cons_succ, List.getElem_cons_zero, List.setIfInBounds_toArray, List.set_cons_zero, List.set_cons_succ]
        first | (refine wpU_takeB (i := 16) (v := ?_) HOPS rfl (by kernel_rfl) (fun _ _ _ h => h) HCL (goes_read (by rfl) ?hy) ?_; case hy => (intro w hSw; (try dsimp only at hSw); go_simp; (try with_reducible rfl))) | (refine wpU_takeB (i := 16) (v := _) HOPS rfl (by kernel_rfl) (fun _ _ _ h => h) HCL (goes_not (by rfl)) ?_)
        try simp only [Act.put, List.getElem_toArray, List.getElem_cons_succ, List.getElem_cons_zero, List.setIfInBounds_toArray, List.set_cons_zero, List.set_cons_succ]
        first | (refine wpU_takeB (i := 17) (v := ?_) HOPS rfl (by kernel_rfl) (fun _ _ _ h => h) HCL (goes_read (by rfl) ?hy) ?_; case hy => (intro w hSw; (try dsimp only at hSw); go_simp; (try with_reducible rfl))) | (refine wpU_takeB (i := 17) (v := _) HOPS rfl (by kernel_rfl) (fun _ _ _ h => h) HCL (goes_not (by rfl)) ?_)
        try simp only [Act.put, List.getElem_toArray, List.getElem_cons_succ, List.getElem_cons_zero, List.setIfInBounds_toArray, List.set_cons_zero, List.set_cons_succ]
        first | (refine wpU_takeB (i := 18) (v := ?_) HOPS rfl (by kernel_rfl) (fun _ _ _ h => h) HCL (goes_read (by rfl) ?hy) ?_; case hy => (intro w hSw; (try dsimp only at hSw); go_simp; (try with_reducible rfl))) | (refine wpU_takeB (i := 18) (v := _) HOPS rfl (by kernel_rfl) (fun _ _ _ h => h) HCL (goes_not (by rfl)) ?_)
        try simp only [Act.put, List.getElem_toArray, List.getElem_cons_succ, List.getElem_cons_zero, List.setIfInBounds_toArray, List.set_cons_zero, List.set_cons_succ]
        first | (refine wpU_takeB (i := 19) (v := ?_) HOPS rfl (by kernel_rfl) (fun _ _ _ h => h) HCL (goes_read (by rfl) ?hy) ?_; case hy => (intro w hSw; (try dsimp only at hSw); go_simp; (try with_reducible rfl))) | (refine wpU_takeB (i := 19) (v := _) HOPS rfl (by kernel_rfl) (fun _ _ _ h => h) HCL (goes_not (by rfl)) ?_)
        try simp only [Act.put, List.getElem_toArray, List.getElem_cons_succ, List.getElem_cons_zero, List.setIfInBounds_toArray, List.set_cons_zero, List.set_cons_succ]
        first | (refine wpU_takeB (i := 20) (v := ?_) HOPS rfl (by kernel_rfl) (fun _ _ _ h => h) HCL (goes_read (by rfl) ?hy) ?_; case hy => (intro w hSw; (try dsimp only at hSw); go_simp; (try with_reducible rfl))) | (refine wpU_takeB (i := 20) (v := _) HOPS rfl (by kernel_rfl) (fun _ _ _ h => h) HCL (goes_not (by rfl)) ?_)
        try simp only [Act.put, List.getElem_toArray, List.getElem_cons_succ, List.getElem_cons_zero, List.setIfInBounds_toArray, List.set_cons_zero, List.set_cons_succ]
        first | (refine wpU_takeB (i := 21) (v := ?_) HOPS rfl (by kernel_rfl) (fun _ _ _ h => h) HCL (goes_read (by rfl) ?hy) ?_; case hy => (intro w hSw; (try dsimp only at hSw); go_simp; (try with_reducible rfl))) | (refine wpU_takeB (i := 21) (v := _) HOPS rfl (by kernel_rfl) (fun _ _ _ h => h) HCL (goes_not (by rfl)) ?_)
        try simp only [Act.put, List.getElem_toArray, List.getElem_cons_succ, List.getElem_cons_zero, List.setIfInBounds_toArray, List.set_cons_zero, List.set_cons_succ]
        refine wpU_done (by kernel_rfl) (fun w26 hle => ?_) _
        have n := (hle.ahead (by kernel_rfl)).1
        replace HST := Lib.hid (n.heap HST.out id)
        replace NX := Lib.hid (NX.out.trans n)
        replace HOB := Lib.hid (n.heap HOB.out id)
        clear n
        clear HOPS HCL hle
        repeat clear hHeld
        clear dd0 dd1 dd2 dd4 dd6 dd7
        go_wp2
        exact HE.out _ 22 HVR.out NX.out
      · as_aux_lemma =>
        have g1 : ¬ x < 0 := by omega
        have g2 : ¬ x ≥ np := by omega
        have hv := HV.out
        rw [if_neg (by omega)] at hv
        have HVR := Lib.hid hv
        clear hv HV
        have kHST0 : w2.cell? ⟨b, 0, none⟩ = some (.slice (some ⟨pk, po, none⟩) L.length cap) := by rw [cell_of HST.out]; rfl
        have kHST1 : w2.cell? ⟨b, 1, none⟩ = some (.int .i64 np) := by rw [cell_of HST.out]; rfl
        have kHST2 : w2.cell? ⟨b, 2, none⟩ = some (.int .i64 h) := by rw [cell_of HST.out]; rfl
        have kHST3 : w2.cell? ⟨b, 3, none⟩ = some (.int .i64 d) := by rw [cell_of HST.out]; rfl
        have kHOB0 : w2.cell? ⟨w.heap.size, 0, none⟩ = some (.int .i64 c) := by rw [cell_of HOB.out]; rfl
        have kHOB1 : w2.cell? ⟨w.heap.size, 1, none⟩ = some (.int .i64 x) := by rw [cell_of HOB.out]; rfl
        have kHOB2 : w2.cell? ⟨w.heap.size, 2, none⟩ = some (.int .i64 m) := by rw [cell_of HOB.out]; rfl
        go_upto_region 9 with (fail)
        clear kHST0 kHST1 kHST2 kHST3 kHOB0 kHOB1 kHOB2
        have dd0 : decide (c ≥ 10) = true := by simp; omega
        have dd1 : decide (10 ≤ c) = true := by simp; omega
        have dd2 : decide (c ≤ 13) = true := by simp; omega
        have dd4 : decide (x < 0) = false := by simp; omega
        have dd6 : decide (x ≥ np) = false := by simp; omega
        have dd7 : decide (np ≤ x) = false := by simp; omega
        refine wp_named ?_
        intro W27 hW
        have n : Nw w2 W27 := by rw [hW]; first | exact Ch.refl _ _ | exact (Ch.refl _ _).alloc _
        replace HST := Lib.hid (n.heap HST.out id)
        replace NX := Lib.hid (NX.out.trans n)
        replace HOB := Lib.hid (n.heap HOB.out id)
        clear hW n
        refine wp_region_V (F := fun w' => w'.cell? ⟨b, 0, none⟩ = some (.slice (some ⟨pk, po, none⟩) L.length cap) ∧ w'.cell? ⟨b, 1, none⟩ = some (.int .i64 np) ∧ w'.cell? ⟨b, 2, none⟩ = some (.int .i64 h) ∧ w'.cell? ⟨b, 3, none⟩ = some (.int .i64 d) ∧ w'.cell? ⟨w.heap.size, 0, none⟩ = some (.int .i64 c) ∧ w'.cell? ⟨w.heap.size, 1, none⟩ = some (.int .i64 x) ∧ w'.cell? ⟨w.heap.size, 2, none⟩ = some (.int .i64 m)) (opsOf Tryz.f42 9) 22 22 (by kernel_rfl) (by kernel_rfl) (by kernel_rfl) (fun w w' h n => ⟨n.cell h.1 id, n.cell h.2.1 id, n.cell h.2.2.1 id, n.cell h.2.2.2.1 id, n.cell h.2.2.2.2.1 id, n.cell h.2.2.2.2.2.1 id, n.cell h.2.2.2.2.2.2 id⟩) ⟨by show W27.cell? _ = _; rw [cell_of HST.out]; rfl, by show W27.cell? _ = _; rw [cell_of HST.out]; rfl, by show W27.cell? _ = _; rw [cell_of HST.out]; rfl, by show W27.cell? _ = _; rw [cell_of HST.out]; rfl, by show W27.cell? _ = _; rw [cell_of HOB.out]; rfl, by show W27.cell? _ = _; rw [cell_of HOB.out]; rfl, by show W27.cell? _ = _; rw [cell_of HOB.out]; rfl⟩ (fun HOPS HCL hHeld => ?_)
        refine wpU_named ?_
        intro W28 hW
        try rw [← hW] at hHeld
        have n : Nw W27 W28 := by rw [hW]; exact (Ch.refl _ _).drew
        replace HST := Lib.hid (n.heap HST.out id)
        replace NX := Lib.hid (NX.out.trans n)
        replace HOB := Lib.hid (n.heap HOB.out id)
        clear hW n
        first | (refine wpU_takeB (i := 0) (v := ?_) HOPS rfl (by kernel_rfl) (fun _ _ _ h => h) HCL (goes_read (by rfl) ?hy) ?_; case hy => (intro w hSw; (try dsimp only at hSw); go_simp; (try with_reducible rfl))) | (refine wpU_takeB (i := 0) (v := _) HOPS rfl (by kernel_rfl) (fun _ _ _ h => h) HCL (goes_not (by rfl)) ?_)
        try simp only [Act.put, List.getElem_toArray, List.getElem_cons_succ, List.getElem_cons_zero, List.setIfInBounds_toArray, List.set_cons_zero, List.set_cons_succ]
        first | (refine wpU_takeB (i := 1) (v := ?_) HOPS rfl (by kernel_rfl) (fun _ _ _ h => h) HCL (goes_read (by rfl) ?hy) ?_; case hy => (intro w hSw; (try dsimp only at hSw); go_simp; (try with_reducible rfl))) | (refine wpU_takeB (i := 1) (v := _) HOPS rfl (by kernel_rfl) (fun _ _ _ h => h) HCL (goes_not (by rfl)) ?_)
        try simp only [Act.put, List.getElem_toArray, List.getElem_cons_succ, List.getElem_cons_zero, List.setIfInBounds_toArray, List.set_cons_zero, List.set_cons_succ]
        first | (refine wpU_takeB (i := 2) (v := ?_) HOPS rfl (by kernel_rfl) (fun _ _ _ h => h) HCL (goes_read (by rfl) ?hy) ?_; case hy => (intro w hSw; (try dsimp only at hSw); go_simp; (try with_reducible rfl))) | (refine wpU_takeB (i := 2) (v := _) HOPS rfl (by kernel_rfl) (fun _ _ _ h => h) HCL (goes_not (by rfl)) ?_)
        try simp only [Act.put, List.getElem_toArray, List.getElem_cons_succ, List.getElem_cons_zero, List.setIfInBounds_toArray, List.set_cons_zero, List.set_cons_succ]
        first | (refine wpU_takeB (i := 3) (v := ?_) HOPS rfl (by kernel_rfl) (fun _ _ _ h => h) HCL (goes_read (by rfl) ?hy) ?_; case hy => (intro w hSw; (try dsimp only at hSw); go_simp; (try with_reducible rfl))) | (refine wpU_takeB (i := 3) (v := _) HOPS rfl (by kernel_rfl) (fun _ _ _ h => h) HCL (goes_not (by rfl)) ?_)
        try simp only [Act.put, List.getElem_toArray, List.getElem_cons_succ, List.getElem_cons_zero, List.setIfInBounds_toArray, List.set_cons_zero, List.set_cons_succ]
        first | (refine wpU_takeB (i := 4) (v := ?_) HOPS rfl (by kernel_rfl) (fun _ _ _ h => h) HCL (goes_read (by rfl) ?hy) ?_; case hy => (intro w hSw; (try dsimp only at hSw); go_simp; (try with_reducible rfl))) | (refine wpU_takeB (i := 4) (v := _) HOPS rfl (by kernel_rfl) (fun _ _ _ h => h) HCL (goes_not (by rfl)) ?_)
        try simp only [Act.put, List.getElem_toArray, List.getElem_cons_succ, List.getElem_cons_zero, List.setIfInBounds_toArray, List.set_cons_zero, List.set_cons_succ]
        first | (refine wpU_takeB (i := 5) (v := ?_) HOPS rfl (by kernel_rfl) (fun _ _ _ h => h) HCL (goes_read (by rfl) ?hy) ?_; case hy => (intro w hSw; (try dsimp only at hSw); go_simp; (try with_reducible rfl))) | (refine wpU_takeB (i := 5) (v := _) HOPS rfl (by kernel_rfl) (fun _ _ _ h => h) HCL (goes_not (by rfl)) ?_)
        try simp only [Act.put, List.getElem_toArray, List.getElem_cons_succ, List.getElem_cons_zero, List.setIfInBounds_toArray, List.set_cons_zero, List.set_cons_succ]
        first | (refine wpU_takeB (i := 6) (v := ?_) HOPS rfl (by kernel_rfl) (fun _ _ _ h => h) HCL (goes_read (by rfl) ?hy) ?_; case hy => (intro w hSw; (try dsimp only at hSw); go_simp; (try with_reducible rfl))) | (refine wpU_takeB (i := 6) (v := _) HOPS rfl (by kernel_rfl) (fun _ _ _ h => h) HCL (goes_not (by rfl)) ?_)
        try simp only [Act.put, List.getElem_toArray, List.getElem_cons_succ, List.getElem_cons_zero, List.setIfInBounds_toArray, List.set_cons_zero, List.set_cons_succ]
        first | (refine wpU_takeB (i := 7) (v := ?_) HOPS rfl (by kernel_rfl) (fun _ _ _ h => h) HCL (goes_read (by rfl) ?hy) ?_; case hy => (intro w hSw; (try dsimp only at hSw); go_simp; (try with_reducible rfl))) | (refine wpU_takeB (i := 7) (v := _) HOPS rfl (by kernel_rfl) (fun _ _ _ h => h) HCL (goes_not (by rfl)) ?_)
        try simp only [Act.put, List.getElem_toArray, List.getElem_cons_succ, List.getElem_cons_zero, List.setIfInBounds_toArray, List.set_cons_zero, List.set_cons_succ]
        first | (refine wpU_takeB (i := 8) (v := ?_) HOPS rfl (by kernel_rfl) (fun _ _ _ h => h) HCL (goes_read (by rfl) ?hy) ?_; case hy => (intro w hSw; (try dsimp only at hSw); go_simp; (try with_reducible rfl))) | (refine wpU_takeB (i := 8) (v := _) HOPS rfl (by kernel_rfl) (fun _ _ _ h => h) HCL (goes_not (by rfl)) ?_)
        try simp only [Act.put, List.getElem_toArray, List.getElem_cons_succ, List.getElem_cons_zero, List.setIfInBounds_toArray, List.set_cons_zero, List.set_cons_succ]
        first | (refine wpU_takeB (i := 9) (v := ?_) HOPS rfl (by kernel_rfl) (fun _ _ _ h => h) HCL (goes_read (by rfl) ?hy) ?_; case hy => (intro w hSw; (try dsimp only at hSw); go_simp; (try with_reducible rfl))) | (refine wpU_takeB (i := 9) (v := _) HOPS rfl (by kernel_rfl) (fun _ _ _ h => h) HCL (goes_not (by rfl)) ?_)
        try simp only [Act.put, List.getElem_toArray, List.getElem_cons_succ, List.getElem_cons_zero, List.setIfInBounds_toArray, List.set_cons_zero, List.set_cons_succ]
        first | (refine wpU_takeB (i := 10) (v := ?_) HOPS rfl (by kernel_rfl) (fun _ _ _ h => h) HCL (goes_read (by rfl) ?hy) ?_; case hy => (intro w hSw; (try dsimp only at hSw); go_simp; (try with_reducible rfl))) | (refine wpU_takeB (i := 10) (v := _) HOPS rfl (by kernel_rfl) (fun _ _ _ h => h) HCL (goes_not (by rfl)) ?_)
        try simp only [Act.put, List.getElem_toArray, List.getElem_cons_succ, List.getElem_cons_zero, List.setIfInBounds_toArray, List.set_cons_zero, List.set_cons_succ]
        first | (refine wpU_takeB (i := 11) (v := ?_) HOPS rfl (by kernel_rfl) (fun _ _ _ h => h) HCL (goes_read (by rfl) ?hy) ?_; case hy => (intro w hSw; (try dsimp only at hSw); go_simp; (try with_reducible rfl))) | (refine wpU_takeB (i := 11) (v := _) HOPS rfl (by kernel_rfl) (fun _ _ _ h => h) HCL (goes_not (by rfl)) ?_)
        try simp only [Act.put, List.getElem_toArray, List.getElem_cons_succ, List.getElem_cons_zero, List.setIfInBounds_toArray, List.set_cons_zero, List.set_cons_succ]
        first | (refine wpU_takeB (i := 12) (v := ?_) HOPS rfl (by kernel_rfl) (fun _ _ _ h => h) HCL (goes_read (by rfl) ?hy) ?_; case hy => (intro w hSw; (try dsimp only at hSw); go_simp; (try with_reducible rfl))) | (refine wpU_takeB (i := 12) (v := _) HOPS rfl (by kernel_rfl) (fun _ _ _ h => h) HCL (goes_not (by rfl)) ?_)
        try simp only [Act.put, List.getElem_toArray, List.getElem_cons_succ, List.getElem_cons_zero, List.setIfInBounds_toArray, List.set_cons_zero, List.set_cons_succ]
        first | (refine wpU_takeB (i := 13) (v := ?_) HOPS rfl (by kernel_rfl) (fun _ _ _ h => h) HCL (goes_read (by rfl) ?hy) ?_; case hy => (intro w hSw; (try dsimp only at hSw); go_simp; (try with_reducible rfl))) | (refine wpU_takeB (i := 13) (v := _) HOPS rfl (by kernel_rfl) (fun _ _ _ h => h) HCL (goes_not (by rfl)) ?_)
        try simp only [Act.put, List.getElem_toArray, List.getElem_cons_succ, List.getElem_cons_zero, List.setIfInBounds_toArray, List.set_cons_zero, List.set_cons_succ]
        first | (refine wpU_takeB (i := 14) (v := ?_) HOPS rfl (by kernel_rfl) (fun _ _ _ h => h) HCL (goes_read (by rfl) ?hy) ?_; case hy => (intro w hSw; (try dsimp only at hSw); go_simp; (try with_reducible rfl))) | (refine wpU_takeB (i := 14) (v := _) HOPS rfl (by kernel_rfl) (fun _ _ _ h => h) HCL (goes_not (by rfl)) ?_)
        try simp only [Act.put, List.getElem_toArray, List.getElem_cons_succ, List.getElem_cons_zero, List.setIfInBounds_toArray, List.set_cons_zero, List.set_cons_succ]
        first | (refine wpU_takeB (i := 15) (v := ?_) HOPS rfl (by kernel_rfl) (fun _ _ _ h => h) HCL (goes_read (by rfl) ?hy) ?_; case hy => (intro w hSw; (try dsimp only at hSw); go_simp; (try with_reducible rfl))) | (refine wpU_takeB (i := 15) (v := _) HOPS rfl (by kernel_rfl) (fun _ _ _ h => h) HCL (goes_not (by rfl)) ?_)
        try simp only [Act.put, List.getElem_toArray, List.getElem_cons_succ, List.getElem_cons_zero, List.setIfInBounds_toArray, List.set_cons_zero, List.set_cons_succ]
        first | (refine wpU_takeB (i := 16) (v := ?_) HOPS rfl (by kernel_rfl) (fun _ _ _ h => h) HCL (goes_read (by rfl) ?hy) ?_; case hy => (intro w hSw; (try dsimp only at hSw); go_simp; (try with_reducible rfl))) | (refine wpU_takeB (i := 16) (v := _) HOPS rfl (by kernel_rfl) (fun _ _ _ h => h) HCL (goes_not (by rfl)) ?_)
        try simp only [Act.put, List.getElem_toArray, List.getElem_cons_succ, List.getElem_cons_zero, List.setIfInBounds_toArray, List.set_cons_zero, List.set_cons_succ]
        first | (refine wpU_takeB (i := 17) (v := ?_) HOPS rfl (by kernel_rfl) (fun _ _ _ h => h) HCL (goes_read (by rfl) ?hy) ?_; case hy => (intro w hSw; (try dsimp only at hSw); go_simp; (try with_reducible rfl))) | (refine wpU_takeB (i := 17) (v := _) HOPS rfl (by kernel_rfl) (fun _ _ _ h => h) HCL (goes_not (by rfl)) ?_)
        try simp only [Act.put, List.getElem_toArray, List.getElem_cons_succ, List.getElem_cons_zero, List.setIfInBounds_toArray, List.set_cons_zero, List.set_cons_succ]
        first | (refine wpU_takeB (i := 18) (v := ?_) HOPS rfl (by kernel_rfl) (fun _ _ _ h => h) HCL (goes_read (by rfl) ?hy) ?_; case hy => (intro w hSw; (try dsimp only at hSw); go_simp; (try with_reducible rfl))) | (refine wpU_takeB (i := 18) (v := _) HOPS rfl (by kernel_rfl) (fun _ _ _ h => h) HCL (goes_not (by rfl)) ?_)
        try simp only [Act.put, List.getElem_toArray, List.getElem_cons_succ, List.getElem_cons_zero, List.setIfInBounds_toArray, List.set_cons_zero, List.set_cons_succ]
        first | (refine wpU_takeB (i := 19) (v := ?_) HOPS rfl (by kernel_rfl) (fun _ _ _ h => h) HCL (goes_read (by rfl) ?hy) ?_; case hy => (intro w hSw; (try dsimp only at hSw); go_simp; (try with_reducible rfl))) | (refine wpU_takeB (i := 19) (v := _) HOPS rfl (by kernel_rfl) (fun _ _ _ h => h) HCL (goes_not (by rfl)) ?_)
        try simp only [Act.put, List.getElem_toArray, List.getElem_cons_succ, List.getElem_cons_zero, List.setIfInBounds_toArray, List.set_cons_zero, List.set_cons_succ]
        first | (refine wpU_takeB (i := 20) (v := ?_) HOPS rfl (by kernel_rfl) (fun _ _ _ h => h) HCL (goes_read (by rfl) ?hy) ?_; case hy => (intro w hSw; (try dsimp only at hSw); go_simp; (try with_reducible rfl))) | (refine wpU_takeB (i := 20) (v := _) HOPS rfl (by kernel_rfl) (fun _ _ _ h => h) HCL (goes_not (by rfl)) ?_)
        try simp only [Act.put, List.getElem_toArray, List.getElem_cons_succ, List.getElem_cons_zero, List.setIfInBounds_toArray, List.set_cons_zero, List.set_cons_succ]
        first | (refine wpU_takeB (i := 21) (v := ?_) HOPS rfl (by kernel_rfl) (fun _ _ _ h => h) HCL (goes_read (by rfl) ?hy) ?_; case hy => (intro w hSw; (try dsimp only at hSw); go_simp; (try with_reducible rfl))) | (refine wpU_takeB (i := 21) (v := _) HOPS rfl (by kernel_rfl) (fun _ _ _ h => h) HCL (goes_not (by rfl)) ?_)
        try simp only [Act.put, List.getElem_toArray, List.getElem_cons_succ, List.getElem_cons_zero, List.setIfInBounds_toArray, List.set_cons_zero, List.set_cons_succ]
        refine wpU_done (by kernel_rfl) (fun w29 hle => ?_) _
        have n := (hle.ahead (by kernel_rfl)).1
        replace HST := Lib.hid (n.heap HST.out id)
        replace NX := Lib.hid (NX.out.trans n)
        replace HOB := Lib.hid (n.heap HOB.out id)
        clear n
        clear HOPS HCL hle
        repeat clear hHeld
        clear dd0 dd1 dd2 dd4 dd6 dd7
        obtain ⟨tk, htk⟩ : ∃ z, vtakes c = z := ⟨_, rfl⟩
        obtain ⟨pt, hpt⟩ : ∃ z, vputs c = z := ⟨_, rfl⟩
        have tk2 : tk ≤ 2 := by rw [← htk]; exact vtakes_le c
        have pt1 : pt ≤ 1 := by rw [← hpt]; exact vputs_le c
        have HTK := Lib.hid (takes_any c cr)
        have kHST0 : w29.cell? ⟨b, 0, none⟩ = some (.slice (some ⟨pk, po, none⟩) L.length cap) := by rw [cell_of HST.out]; rfl
        have jHST0 : ∀ o, (w29.alloc o).cell? ⟨b, 0, none⟩ = some (.slice (some ⟨pk, po, none⟩) L.length cap) := fun o => cell_alloc_old o kHST0
        have kHST1 : w29.cell? ⟨b, 1, none⟩ = some (.int .i64 np) := by rw [cell_of HST.out]; rfl
        have jHST1 : ∀ o, (w29.alloc o).cell? ⟨b, 1, none⟩ = some (.int .i64 np) := fun o => cell_alloc_old o kHST1
        have kHST2 : w29.cell? ⟨b, 2, none⟩ = some (.int .i64 h) := by rw [cell_of HST.out]; rfl
        have jHST2 : ∀ o, (w29.alloc o).cell? ⟨b, 2, none⟩ = some (.int .i64 h) := fun o => cell_alloc_old o kHST2
        have kHST3 : w29.cell? ⟨b, 3, none⟩ = some (.int .i64 d) := by rw [cell_of HST.out]; rfl
        have jHST3 : ∀ o, (w29.alloc o).cell? ⟨b, 3, none⟩ = some (.int .i64 d) := fun o => cell_alloc_old o kHST3
        have kHOB0 : w29.cell? ⟨w.heap.size, 0, none⟩ = some (.int .i64 c) := by rw [cell_of HOB.out]; rfl
        have jHOB0 : ∀ o, (w29.alloc o).cell? ⟨w.heap.size, 0, none⟩ = some (.int .i64 c) := fun o => cell_alloc_old o kHOB0
        have kHOB1 : w29.cell? ⟨w.heap.size, 1, none⟩ = some (.int .i64 x) := by rw [cell_of HOB.out]; rfl
        have jHOB1 : ∀ o, (w29.alloc o).cell? ⟨w.heap.size, 1, none⟩ = some (.int .i64 x) := fun o => cell_alloc_old o kHOB1
        have kHOB2 : w29.cell? ⟨w.heap.size, 2, none⟩ = some (.int .i64 m) := by rw [cell_of HOB.out]; rfl
        have jHOB2 : ∀ o, (w29.alloc o).cell? ⟨w.heap.size, 2, none⟩ = some (.int .i64 m) := fun o => cell_alloc_old o kHOB2
        go_wp2_with (go_at_call 42; fail)
        clear kHST0 jHST0 kHST1 jHST1 kHST2 jHST2 kHST3 jHST3 kHOB0 jHOB0 kHOB1 jHOB1 kHOB2 jHOB2
        refine Calls_nm ?_
        intro W30 hW
        have n : Nw w29 W30 := by rw [hW]; first | exact Ch.refl _ _ | exact (Ch.refl _ _).alloc _ | exact ((Ch.refl _ _).alloc _).alloc _
        replace HST := Lib.hid (n.heap HST.out id)
        replace NX := Lib.hid (NX.out.trans n)
        replace HOB := Lib.hid (n.heap HOB.out id)
        clear hW n
        refine HTK.out _ _ ?_
        rw [htk, hpt] at HK HVR ⊢
        clear htk hpt HTK
        obtain ht | ht | ht : h < tk ∨ (tk ≤ h ∧ 8 < h - tk + pt) ∨ (tk ≤ h ∧ h - tk + pt ≤ 8) := by omega
        · as_aux_lemma =>
          have e1 : (h : Int) < (tk : Int) := by omega
          have kHST0 : W30.cell? ⟨b, 0, none⟩ = some (.slice (some ⟨pk, po, none⟩) L.length cap) := by rw [cell_of HST.out]; rfl
          have jHST0 : ∀ o, (W30.alloc o).cell? ⟨b, 0, none⟩ = some (.slice (some ⟨pk, po, none⟩) L.length cap) := fun o => cell_alloc_old o kHST0
          have kHST1 : W30.cell? ⟨b, 1, none⟩ = some (.int .i64 np) := by rw [cell_of HST.out]; rfl
          have jHST1 : ∀ o, (W30.alloc o).cell? ⟨b, 1, none⟩ = some (.int .i64 np) := fun o => cell_alloc_old o kHST1
          have kHST2 : W30.cell? ⟨b, 2, none⟩ = some (.int .i64 h) := by rw [cell_of HST.out]; rfl
          have jHST2 : ∀ o, (W30.alloc o).cell? ⟨b, 2, none⟩ = some (.int .i64 h) := fun o => cell_alloc_old o kHST2
          have kHST3 : W30.cell? ⟨b, 3, none⟩ = some (.int .i64 d) := by rw [cell_of HST.out]; rfl
          have jHST3 : ∀ o, (W30.alloc o).cell? ⟨b, 3, none⟩ = some (.int .i64 d) := fun o => cell_alloc_old o kHST3
          have kHOB0 : W30.cell? ⟨w.heap.size, 0, none⟩ = some (.int .i64 c) := by rw [cell_of HOB.out]; rfl
          have jHOB0 : ∀ o, (W30.alloc o).cell? ⟨w.heap.size, 0, none⟩ = some (.int .i64 c) := fun o => cell_alloc_old o kHOB0
          have kHOB1 : W30.cell? ⟨w.heap.size, 1, none⟩ = some (.int .i64 x) := by rw [cell_of HOB.out]; rfl
          have jHOB1 : ∀ o, (W30.alloc o).cell? ⟨w.heap.size, 1, none⟩ = some (.int .i64 x) := fun o => cell_alloc_old o kHOB1
          have kHOB2 : W30.cell? ⟨w.heap.size, 2, none⟩ = some (.int .i64 m) := by rw [cell_of HOB.out]; rfl
          have jHOB2 : ∀ o, (W30.alloc o).cell? ⟨w.heap.size, 2, none⟩ = some (.int .i64 m) := fun o => cell_alloc_old o kHOB2
          go_wp2
          exact HE.out _ 20 (by rw [HVR.out, if_pos (Or.inl ht)]) NX.out
        · as_aux_lemma =>
          have e1 : ¬ (h : Int) < (tk : Int) := by omega
          have e2 : (h : Int) - (tk : Int) + (pt : Int) > 8 := by omega
          have kHST0 : W30.cell? ⟨b, 0, none⟩ = some (.slice (some ⟨pk, po, none⟩) L.length cap) := by rw [cell_of HST.out]; rfl
          have jHST0 : ∀ o, (W30.alloc o).cell? ⟨b, 0, none⟩ = some (.slice (some ⟨pk, po, none⟩) L.length cap) := fun o => cell_alloc_old o kHST0
          have kHST1 : W30.cell? ⟨b, 1, none⟩ = some (.int .i64 np) := by rw [cell_of HST.out]; rfl
          have jHST1 : ∀ o, (W30.alloc o).cell? ⟨b, 1, none⟩ = some (.int .i64 np) := fun o => cell_alloc_old o kHST1
          have kHST2 : W30.cell? ⟨b, 2, none⟩ = some (.int .i64 h) := by rw [cell_of HST.out]; rfl
          have jHST2 : ∀ o, (W30.alloc o).cell? ⟨b, 2, none⟩ = some (.int .i64 h) := fun o => cell_alloc_old o kHST2
          have kHST3 : W30.cell? ⟨b, 3, none⟩ = some (.int .i64 d) := by rw [cell_of HST.out]; rfl
          have jHST3 : ∀ o, (W30.alloc o).cell? ⟨b, 3, none⟩ = some (.int .i64 d) := fun o => cell_alloc_old o kHST3
          have kHOB0 : W30.cell? ⟨w.heap.size, 0, none⟩ = some (.int .i64 c) := by rw [cell_of HOB.out]; rfl
          have jHOB0 : ∀ o, (W30.alloc o).cell? ⟨w.heap.size, 0, none⟩ = some (.int .i64 c) := fun o => cell_alloc_old o kHOB0
          have kHOB1 : W30.cell? ⟨w.heap.size, 1, none⟩ = some (.int .i64 x) := by rw [cell_of HOB.out]; rfl
          have jHOB1 : ∀ o, (W30.alloc o).cell? ⟨w.heap.size, 1, none⟩ = some (.int .i64 x) := fun o => cell_alloc_old o kHOB1
          have kHOB2 : W30.cell? ⟨w.heap.size, 2, none⟩ = some (.int .i64 m) := by rw [cell_of HOB.out]; rfl
          have jHOB2 : ∀ o, (W30.alloc o).cell? ⟨w.heap.size, 2, none⟩ = some (.int .i64 m) := fun o => cell_alloc_old o kHOB2
          go_wp2
          exact HE.out _ 20 (by rw [HVR.out, if_pos (Or.inr (by omega))]) NX.out
        · as_aux_lemma =>
          have e1 : ¬ (h : Int) < (tk : Int) := by omega
          obtain ⟨h2, hh2⟩ : ∃ z, h - tk + pt = z := ⟨_, rfl⟩
          have e2 : (h : Int) - (tk : Int) + (pt : Int) = (h2 : Int) := by omega
          have e3 : ¬ (h2 : Int) > 8 := by omega
          have HV2 := Lib.hid (show vchk c x m (t - i) nest np h = none from by rw [HVR.out, if_neg (by omega)])
          have hk9 := HK.out
          rw [hh2] at hk9
          have HK9 := Lib.hid hk9
          clear hk9 HVR HK hh2
          have kHST0 : W30.cell? ⟨b, 0, none⟩ = some (.slice (some ⟨pk, po, none⟩) L.length cap) := by rw [cell_of HST.out]; rfl
          have kHST1 : W30.cell? ⟨b, 1, none⟩ = some (.int .i64 np) := by rw [cell_of HST.out]; rfl
          have kHST2 : W30.cell? ⟨b, 2, none⟩ = some (.int .i64 h) := by rw [cell_of HST.out]; rfl
          have kHST3 : W30.cell? ⟨b, 3, none⟩ = some (.int .i64 d) := by rw [cell_of HST.out]; rfl
          have kHOB0 : W30.cell? ⟨w.heap.size, 0, none⟩ = some (.int .i64 c) := by rw [cell_of HOB.out]; rfl
          have kHOB1 : W30.cell? ⟨w.heap.size, 1, none⟩ = some (.int .i64 x) := by rw [cell_of HOB.out]; rfl
          have kHOB2 : W30.cell? ⟨w.heap.size, 2, none⟩ = some (.int .i64 m) := by rw [cell_of HOB.out]; rfl
          have fz : W30.frozen? ⟨b, 2, none⟩ = false := frozen_of HST.out
          go_upto_region 15 with (fail)
          clear kHST0 kHST1 kHST2 kHST3 kHOB0 kHOB1 kHOB2
          clear fz
          refine wp_named ?_
          intro W31 hW
          have cc : Ch (· = b) W30 W31 := by rw [hW]; exact (Ch.refl (· = b) W30).setb (fun _ => rfl) _
          have nb := Lib.hid (show W31.heap[b]? = some (.cells #[.slice (some ⟨pk, po, none⟩) L.length cap, .int .i64 np, .int .i64 h2, .int .i64 d] 60 (0, 0)) from by rw [hW]; exact heap_setCell_eq _ HST.out)
          have CX := Lib.hid (show Ch (· = b) w W31 from (NX.out.mono (fun _ _ h => h.elim)).trans cc)
          clear hW cc HST NX HOB
          have HST := nb
          clear nb
          obtain ⟨d2, hd2⟩ : ∃ z, max d h2 = z := ⟨_, rfl⟩
          have d21 : (if d < h2 then (h2 : Int) else (d : Int)) = (d2 : Int) := by split <;> omega
          rw [hd2] at HK9
          clear hd2
          have k2 : W31.cell? ⟨b, 2, none⟩ = some (.int .i64 h2) := by rw [cell_of HST.out]; rfl
          have k3 : W31.cell? ⟨b, 3, none⟩ = some (.int .i64 d) := by rw [cell_of HST.out]; rfl
          have k3f : W31.frozen? ⟨b, 3, none⟩ = false := frozen_of HST.out
          go_still_tail 10, (by kernel_rfl)
          go_wp2
          refine HK9.out _ HV2.out ?_ ?_
          · first | exact heap_setCell_eq _ HST.out | (show _ = _; exact heap_setCell_eq _ HST.out)
          · first | exact (CX.out.setb (fun _ => rfl) _).drewN _ | exact ((CX.out.drewN _).setb (fun _ => rfl) _) | exact ((CX.out.drewN _).setb (fun _ => rfl) _).drewN _ | exact (CX.out.setb (fun _ => rfl) _).drew
    · as_aux_lemma =>
      have t15 : (c == 15) = false := by simp; omega
      have c14 : ¬ c ≥ 14 := by omega
      have HV := Lib.hid (vchk_rest (np := np) (h := h) (room := t - i) (nest := nest) HF.out (fun h => by omega) (fun h => by omega))
      have c10 : ¬ c ≥ 10 := by omega
      have hv := HV.out
      rw [if_neg (by omega)] at hv
      have HVR := Lib.hid hv
      clear hv HV
      have kHST0 : w2.cell? ⟨b, 0, none⟩ = some (.slice (some ⟨pk, po, none⟩) L.length cap) := by rw [cell_of HST.out]; rfl
      have kHST1 : w2.cell? ⟨b, 1, none⟩ = some (.int .i64 np) := by rw [cell_of HST.out]; rfl
      have kHST2 : w2.cell? ⟨b, 2, none⟩ = some (.int .i64 h) := by rw [cell_of HST.out]; rfl
      have kHST3 : w2.cell? ⟨b, 3, none⟩ = some (.int .i64 d) := by rw [cell_of HST.out]; rfl
      have kHOB0 : w2.cell? ⟨w.heap.size, 0, none⟩ = some (.int .i64 c) := by rw [cell_of HOB.out]; rfl
      have kHOB1 : w2.cell? ⟨w.heap.size, 1, none⟩ = some (.int .i64 x) := by rw [cell_of HOB.out]; rfl
      have kHOB2 : w2.cell? ⟨w.heap.size, 2, none⟩ = some (.int .i64 m) := by rw [cell_of HOB.out]; rfl
      go_upto_region 9 with (fail)
      clear kHST0 kHST1 kHST2 kHST3 kHOB0 kHOB1 kHOB2
      have dd0 : decide (c ≥ 10) = false := by simp; omega
      have dd1 : decide (10 ≤ c) = false := by simp; omega
      have dd2 : decide (c ≤ 13) = true := by simp; omega
      refine wp_named ?_
      intro W32 hW
      have n : Nw w2 W32 := by rw [hW]; first | exact Ch.refl _ _ | exact (Ch.refl _ _).alloc _
      replace HST := Lib.hid (n.heap HST.out id)
      replace NX := Lib.hid (NX.out.trans n)
      replace HOB := Lib.hid (n.heap HOB.out id)
      clear hW n
      refine wp_region_V (F := fun w' => w'.cell? ⟨b, 0, none⟩ = some (.slice (some ⟨pk, po, none⟩) L.length cap) ∧ w'.cell? ⟨b, 1, none⟩ = some (.int .i64 np) ∧ w'.cell? ⟨b, 2, none⟩ = some (.int .i64 h) ∧ w'.cell? ⟨b, 3, none⟩ = some (.int .i64 d) ∧ w'.cell? ⟨w.heap.size, 0, none⟩ = some (.int .i64 c) ∧ w'.cell? ⟨w.heap.size, 1, none⟩ = some (.int .i64 x) ∧ w'.cell? ⟨w.heap.size, 2, none⟩ = some (.int .i64 m)) (opsOf Tryz.f42 9) 22 22 (by kernel_rfl) (by kernel_rfl) (by kernel_rfl) (fun w w' h n => ⟨n.cell h.1 id, n.cell h.2.1 id, n.cell h.2.2.1 id, n.cell h.2.2.2.1 id, n.cell h.2.2.2.2.1 id, n.cell h.2.2.2.2.2.1 id, n.cell h.2.2.2.2.2.2 id⟩) ⟨by show W32.cell? _ = _; rw [cell_of HST.out]; rfl, by show W32.cell? _ = _; rw [cell_of HST.out]; rfl, by show W32.cell? _ = _; rw [cell_of HST.out]; rfl, by show W32.cell? _ = _; rw [cell_of HST.out]; rfl, by show W32.cell? _ = _; rw [cell_of HOB.out]; rfl, by show W32.cell? _ = _; rw [cell_of HOB.out]; rfl, by show W32.cell? _ = _; rw [cell_of HOB.out]; rfl⟩ (fun HOPS HCL hHeld => ?_)
      refine wpU_named ?_
      intro W33 hW
      try rw [← hW] at hHeld
      have n : Nw W32 W33 := by rw [hW]; exact (Ch.refl _ _).drew
      replace HST := Lib.hid (n.heap HST.out id)
      replace NX := Lib.hid (NX.out.trans n)
      replace HOB := Lib.hid (n.heap HOB.out id)
      clear hW n
      first | (refine wpU_takeB (i := 0) (v := ?_) HOPS rfl (by kernel_rfl) (fun _ _ _ h => h) HCL (goes_read (by rfl) ?hy) ?_; case hy => (intro w hSw; (try dsimp only at hSw); go_simp; (try with_reducible rfl))) | (refine wpU_takeB (i := 0) (v := _) HOPS rfl (by kernel_rfl) (fun _ _ _ h => h) HCL (goes_not (by rfl)) ?_)
      try simp only [Act.put, List.getElem_toArray, List.getElem_cons_succ, List.getElem_cons_zero, List.setIfInBounds_toArray, List.set_cons_zero, List.set_cons_succ]
      first | (refine wpU_takeB (i := 1) (v := ?_) HOPS rfl (by kernel_rfl) (fun _ _ _ h => h) HCL (goes_read (by rfl) ?hy) ?_; case hy => (intro w hSw; (try dsimp only at hSw); go_simp; (try with_reducible rfl))) | (refine wpU_takeB (i := 1) (v := _) HOPS rfl (by kernel_rfl) (fun _ _ _ h => h) HCL (goes_not (by rfl)) ?_)
      try simp only [Act.put, List.getElem_toArray, List.getElem_cons_succ, List.getElem_cons_zero, List.setIfInBounds_toArray, List.set_cons_zero, List.set_cons_succ]
      first | (refine wpU_takeB (i := 2) (v := ?_) HOPS rfl (by kernel_rfl) (fun _ _ _ h => h) HCL (goes_read (by rfl) ?hy) ?_; case hy => (intro w hSw; (try dsimp only at hSw); go_simp; (try with_reducible rfl))) | (refine wpU_takeB (i := 2) (v := _) HOPS rfl (by kernel_rfl) (fun _ _ _ h => h) HCL (goes_not (by rfl)) ?_)
      try simp only [Act.put, List.getElem_toArray, List.getElem_cons_succ, List.getElem_cons_zero, List.setIfInBounds_toArray, List.set_cons_zero, List.set_cons_succ]
      first | (refine wpU_takeB (i := 3) (v := ?_) HOPS rfl (by kernel_rfl) (fun _ _ _ h => h) HCL (goes_read (by rfl) ?hy) ?_; case hy => (intro w hSw; (try dsimp only at hSw); go_simp; (try with_reducible rfl))) | (refine wpU_takeB (i := 3) (v := _) HOPS rfl (by kernel_rfl) (fun _ _ _ h => h) HCL (goes_not (by rfl)) ?_)
      try simp only [Act.put, List.getElem_toArray, List.getElem_cons_succ, List.getElem_cons_zero, List.setIfInBounds_toArray, List.set_cons_zero, List.set_cons_succ]
      first | (refine wpU_takeB (i := 4) (v := ?_) HOPS rfl (by kernel_rfl) (fun _ _ _ h => h) HCL (goes_read (by rfl) ?hy) ?_; case hy => (intro w hSw; (try dsimp only at hSw); go_simp; (try with_reducible rfl))) | (refine wpU_takeB (i := 4) (v := _) HOPS rfl (by kernel_rfl) (fun _ _ _ h => h) HCL (goes_not (by rfl)) ?_)
      try simp only [Act.put, List.getElem_toArray, List.getElem_cons_succ, List.getElem_cons_zero, List.setIfInBounds_toArray, List.set_cons_zero, List.set_cons_succ]
      first | (refine wpU_takeB (i := 5) (v := ?_) HOPS rfl (by kernel_rfl) (fun _ _ _ h => h) HCL (goes_read (by rfl) ?hy) ?_; case hy => (intro w hSw; (try dsimp only at hSw); go_simp; (try with_reducible rfl))) | (refine wpU_takeB (i := 5) (v := _) HOPS rfl (by kernel_rfl) (fun _ _ _ h => h) HCL (goes_not (by rfl)) ?_)
      try simp only [Act.put, List.getElem_toArray, List.getElem_cons_succ, List.getElem_cons_zero, List.setIfInBounds_toArray, List.set_cons_zero, List.set_cons_succ]
      first | (refine wpU_takeB (i := 6) (v := ?_) HOPS rfl (by kernel_rfl) (fun _ _ _ h => h) HCL (goes_read (by rfl) ?hy) ?_; case hy => (intro w hSw; (try dsimp only at hSw); go_simp; (try with_reducible rfl))) | (refine wpU_takeB (i := 6) (v := _) HOPS rfl (by kernel_rfl) (fun _ _ _ h => h) HCL (goes_not (by rfl)) ?_)
      try simp only [Act.put, List.getElem_toArray, List.getElem_cons_succ, List.getElem_cons_zero, List.setIfInBounds_toArray, List.set_cons_zero, List.set_cons_succ]
      first | (refine wpU_takeB (i := 7) (v := ?_) HOPS rfl (by kernel_rfl) (fun _ _ _ h => h) HCL (goes_read (by rfl) ?hy) ?_; case hy => (intro w hSw; (try dsimp only at hSw); go_simp; (try with_reducible rfl))) | (refine wpU_takeB (i := 7) (v := _) HOPS rfl (by kernel_rfl) (fun _ _ _ h => h) HCL (goes_not (by rfl)) ?_)
      try simp only [Act.put, List.getElem_toArray, List.getElem_cons_succ, List.getElem_cons_zero, List.setIfInBounds_toArray, List.set_cons_zero, List.set_cons_succ]
      first | (refine wpU_takeB (i := 8) (v := ?_) HOPS rfl (by kernel_rfl) (fun _ _ _ h => h) HCL (goes_read (by rfl) ?hy) ?_; case hy => (intro w hSw; (try dsimp only at hSw); go_simp; (try with_reducible rfl))) | (refine wpU_takeB (i := 8) (v := _) HOPS rfl (by kernel_rfl) (fun _ _ _ h => h) HCL (goes_not (by rfl)) ?_)
      try simp only [Act.put, List.getElem_toArray, List.getElem_cons_succ, List.getElem_cons_zero, List.setIfInBounds_toArray, List.set_cons_zero, List.set_cons_succ]
      first | (refine wpU_takeB (i := 9) (v := ?_) HOPS rfl (by kernel_rfl) (fun _ _ _ h => h) HCL (goes_read (by rfl) ?hy) ?_; case hy => (intro w hSw; (try dsimp only at hSw); go_simp; (try with_reducible rfl))) | (refine wpU_takeB (i := 9) (v := _) HOPS rfl (by kernel_rfl) (fun _ _ _ h => h) HCL (goes_not (by rfl)) ?_)
      try simp only [Act.put, List.getElem_toArray, List.getElem_cons_succ, List.getElem_cons_zero, List.setIfInBounds_toArray, List.set_cons_zero, List.set_cons_succ]
      first | (refine wpU_takeB (i := 10) (v := ?_) HOPS rfl (by kernel_rfl) (fun _ _ _ h => h) HCL (goes_read (by rfl) ?hy) ?_; case hy => (intro w hSw; (try dsimp only at hSw); go_simp; (try with_reducible rfl))) | (refine wpU_takeB (i := 10) (v := _) HOPS rfl (by kernel_rfl) (fun _ _ _ h => h) HCL (goes_not (by rfl)) ?_)
      try simp only [Act.put, List.getElem_toArray, List.getElem_cons_succ, List.getElem_cons_zero, List.setIfInBounds_toArray, List.set_cons_zero, List.set_cons_succ]
      first | (refine wpU_takeB (i := 11) (v := ?_) HOPS rfl (by kernel_rfl) (fun _ _ _ h => h) HCL (goes_read (by rfl) ?hy) ?_; case hy => (intro w hSw; (try dsimp only at hSw); go_simp; (try with_reducible rfl))) | (refine wpU_takeB (i := 11) (v := _) HOPS rfl (by kernel_rfl) (fun _ _ _ h => h) HCL (goes_not (by rfl)) ?_)
      try simp only [Act.put, List.getElem_toArray, List.getElem_cons_succ, List.getElem_cons_zero, List.setIfInBounds_toArray, List.set_cons_zero, List.set_cons_succ]
      first | (refine wpU_takeB (i := 12) (v := ?_) HOPS rfl (by kernel_rfl) (fun _ _ _ h => h) HCL (goes_read (by rfl) ?hy) ?_; case hy => (intro w hSw; (try dsimp only at hSw); go_simp; (try with_reducible rfl))) | (refine wpU_takeB (i := 12) (v := _) HOPS rfl (by kernel_rfl) (fun _ _ _ h => h) HCL (goes_not (by rfl)) ?_)
      try simp only [Act.put, List.getElem_toArray, List.getElem_cons_succ, List.getElem_cons_zero, List.setIfInBounds_toArray, List.set_cons_zero, List.set_cons_succ]
      first | (refine wpU_takeB (i := 13) (v := ?_) HOPS rfl (by kernel_rfl) (fun _ _ _ h => h) HCL (goes_read (by rfl) ?hy) ?_; case hy => (intro w hSw; (try dsimp only at hSw); go_simp; (try with_reducible rfl))) | (refine wpU_takeB (i := 13) (v := _) HOPS rfl (by kernel_rfl) (fun _ _ _ h => h) HCL (goes_not (by rfl)) ?_)
      try simp only [Act.put, List.getElem_toArray, List.getElem_cons_succ, List.getElem_cons_zero, List.setIfInBounds_toArray, List.set_cons_zero, List.set_cons_succ]
      first | (refine wpU_takeB (i := 14) (v := ?_) HOPS rfl (by kernel_rfl) (fun _ _ _ h => h) HCL (goes_read (by rfl) ?hy) ?_; case hy => (intro w hSw; (try dsimp only at hSw); go_simp; (try with_reducible rfl))) | (refine wpU_takeB (i := 14) (v := _) HOPS rfl (by kernel_rfl) (fun _ _ _ h => h) HCL (goes_not (by rfl)) ?_)
      try simp only [Act.put, List.getElem_toArray, List.getElem_cons_succ, List.getElem_cons_zero, List.setIfInBounds_toArray, List.set_cons_zero, List.set_cons_succ]
      first | (refine wpU_takeB (i := 15) (v := ?_) HOPS rfl (by kernel_rfl) (fun _ _ _ h => h) HCL (goes_read (by rfl) ?hy) ?_; case hy => (intro w hSw; (try dsimp only at hSw); go_simp; (try with_reducible rfl))) | (refine wpU_takeB (i := 15) (v := _) HOPS rfl (by kernel_rfl) (fun _ _ _ h => h) HCL (goes_not (by rfl)) ?_)
      try simp only [Act.put, List.getElem_toArray, List.getElem_cons_succ, List.getElem_cons_zero, List.setIfInBounds_toArray, List.set_cons_zero, List.set_cons_succ]
      first | (refine wpU_takeB (i := 16) (v := ?_) HOPS rfl (by kernel_rfl) (fun _ _ _ h => h) HCL (goes_read (by rfl) ?hy) ?_; case hy => (intro w hSw; (try dsimp only at hSw); go_simp; (try with_reducible rfl))) | (refine wpU_takeB (i := 16) (v := _) HOPS rfl (by kernel_rfl) (fun _ _ _ h => h) HCL (goes_not (by rfl)) ?_)
      try simp only [Act.put, List.getElem_toArray, List.getElem_cons_succ, List.getElem_cons_zero, List.setIfInBounds_toArray, List.set_cons_zero, List.set_cons_succ]
      first | (refine wpU_takeB (i := 17) (v := ?_) HOPS rfl (by kernel_rfl) (fun _ _ _ h => h) HCL (goes_read (by rfl) ?hy) ?_; case hy => (intro w hSw; (try dsimp only at hSw); go_simp; (try with_reducible rfl))) | (refine wpU_takeB (i := 17) (v := _) HOPS rfl (by kernel_rfl) (fun _ _ _ h => h) HCL (goes_not (by rfl)) ?_)
      try simp only [Act.put, List.getElem_toArray, List.getElem_cons_succ, List.getElem_cons_zero, List.setIfInBounds_toArray, List.set_cons_zero, List.set_cons_succ]
      first | (refine wpU_takeB (i := 18) (v := ?_) HOPS rfl (by kernel_rfl) (fun _ _ _ h => h) HCL (goes_read (by rfl) ?hy) ?_; case hy => (intro w hSw; (try dsimp only at hSw); go_simp; (try with_reducible rfl))) | (refine wpU_takeB (i := 18) (v := _) HOPS rfl (by kernel_rfl) (fun _ _ _ h => h) HCL (goes_not (by rfl)) ?_)
      try simp only [Act.put, List.getElem_toArray, List.getElem_cons_succ, List.getElem_cons_zero, List.setIfInBounds_toArray, List.set_cons_zero, List.set_cons_succ]
      first | (refine wpU_takeB (i := 19) (v := ?_) HOPS rfl (by kernel_rfl) (fun _ _ _ h => h) HCL (goes_read (by rfl) ?hy) ?_; case hy => (intro w hSw; (try dsimp only at hSw); go_simp; (try with_reducible rfl))) | (refine wpU_takeB (i := 19) (v := _) HOPS rfl (by kernel_rfl) (fun _ _ _ h => h) HCL (goes_not (by rfl)) ?_)
      try simp only [Act.put, List.getElem_toArray, List.getElem_cons_succ, List.getElem_cons_zero, List.setIfInBounds_toArray, List.set_cons_zero, List.set_cons_succ]
      first | (refine wpU_takeB (i := 20) (v := ?_) HOPS rfl (by kernel_rfl) (fun _ _ _ h => h) HCL (goes_read (by rfl) ?hy) ?_; case hy => (intro w hSw; (try dsimp only at hSw); go_simp; (try with_reducible rfl))) | (refine wpU_takeB (i := 20) (v := _) HOPS rfl (by kernel_rfl) (fun _ _ _ h => h) HCL (goes_not (by rfl)) ?_)
      try simp only [Act.put, List.getElem_toArray, List.getElem_cons_succ, List.getElem_cons_zero, List.setIfInBounds_toArray, List.set_cons_zero, List.set_cons_succ]
      first | (refine wpU_takeB (i := 21) (v := ?_) HOPS rfl (by kernel_rfl) (fun _ _ _ h => h) HCL (goes_read (by rfl) ?hy) ?_; case hy => (intro w hSw; (try dsimp only at hSw); go_simp; (try with_reducible rfl))) | (refine wpU_takeB (i := 21) (v := _) HOPS rfl (by kernel_rfl) (fun _ _ _ h => h) HCL (goes_not (by rfl)) ?_)
      try simp only [Act.put, List.getElem_toArray, List.getElem_cons_succ, List.getElem_cons_zero, List.setIfInBounds_toArray, List.set_cons_zero, List.set_cons_succ]
      refine wpU_done (by kernel_rfl) (fun w34 hle => ?_) _
      have n := (hle.ahead (by kernel_rfl)).1
      replace HST := Lib.hid (n.heap HST.out id)
      replace NX := Lib.hid (NX.out.trans n)
      replace HOB := Lib.hid (n.heap HOB.out id)
      clear n
      clear HOPS HCL hle
      repeat clear hHeld
      clear dd0 dd1 dd2
      obtain ⟨tk, htk⟩ : ∃ z, vtakes c = z := ⟨_, rfl⟩
      obtain ⟨pt, hpt⟩ : ∃ z, vputs c = z := ⟨_, rfl⟩
      have tk2 : tk ≤ 2 := by rw [← htk]; exact vtakes_le c
      have pt1 : pt ≤ 1 := by rw [← hpt]; exact vputs_le c
      have HTK := Lib.hid (takes_any c cr)
      have kHST0 : w34.cell? ⟨b, 0, none⟩ = some (.slice (some ⟨pk, po, none⟩) L.length cap) := by rw [cell_of HST.out]; rfl
      have jHST0 : ∀ o, (w34.alloc o).cell? ⟨b, 0, none⟩ = some (.slice (some ⟨pk, po, none⟩) L.length cap) := fun o => cell_alloc_old o kHST0
      have kHST1 : w34.cell? ⟨b, 1, none⟩ = some (.int .i64 np) := by rw [cell_of HST.out]; rfl
      have jHST1 : ∀ o, (w34.alloc o).cell? ⟨b, 1, none⟩ = some (.int .i64 np) := fun o => cell_alloc_old o kHST1
      have kHST2 : w34.cell? ⟨b, 2, none⟩ = some (.int .i64 h) := by rw [cell_of HST.out]; rfl
      have jHST2 : ∀ o, (w34.alloc o).cell? ⟨b, 2, none⟩ = some (.int .i64 h) := fun o => cell_alloc_old o kHST2
      have kHST3 : w34.cell? ⟨b, 3, none⟩ = some (.int .i64 d) := by rw [cell_of HST.out]; rfl
      have jHST3 : ∀ o, (w34.alloc o).cell? ⟨b, 3, none⟩ = some (.int .i64 d) := fun o => cell_alloc_old o kHST3
      have kHOB0 : w34.cell? ⟨w.heap.size, 0, none⟩ = some (.int .i64 c) := by rw [cell_of HOB.out]; rfl
      have jHOB0 : ∀ o, (w34.alloc o).cell? ⟨w.heap.size, 0, none⟩ = some (.int .i64 c) := fun o => cell_alloc_old o kHOB0
      have kHOB1 : w34.cell? ⟨w.heap.size, 1, none⟩ = some (.int .i64 x) := by rw [cell_of HOB.out]; rfl
      have jHOB1 : ∀ o, (w34.alloc o).cell? ⟨w.heap.size, 1, none⟩ = some (.int .i64 x) := fun o => cell_alloc_old o kHOB1
      have kHOB2 : w34.cell? ⟨w.heap.size, 2, none⟩ = some (.int .i64 m) := by rw [cell_of HOB.out]; rfl
      have jHOB2 : ∀ o, (w34.alloc o).cell? ⟨w.heap.size, 2, none⟩ = some (.int .i64 m) := fun o => cell_alloc_old o kHOB2
      go_wp2_with (go_at_call 42; fail)
      clear kHST0 jHST0 kHST1 jHST1 kHST2 jHST2 kHST3 jHST3 kHOB0 jHOB0 kHOB1 jHOB1 kHOB2 jHOB2
      refine Calls_nm ?_
      intro W35 hW
      have n : Nw w34 W35 := by rw [hW]; first | exact Ch.refl _ _ | exact (Ch.refl _ _).alloc _ | exact ((Ch.refl _ _).alloc _).alloc _
      replace HST := Lib.hid (n.heap HST.out id)
      replace NX := Lib.hid (NX.out.trans n)
      replace HOB := Lib.hid (n.heap HOB.out id)
      clear hW n
      refine HTK.out _ _ ?_
      rw [htk, hpt] at HK HVR ⊢
      clear htk hpt HTK
      obtain ht | ht | ht : h < tk ∨ (tk ≤ h ∧ 8 < h - tk + pt) ∨ (tk ≤ h ∧ h - tk + pt ≤ 8) := by omega
      · as_aux_lemma =>
        have e1 : (h : Int) < (tk : Int) := by omega
        have kHST0 : W35.cell? ⟨b, 0, none⟩ = some (.slice (some ⟨pk, po, none⟩) L.length cap) := by rw [cell_of HST.out]; rfl
        have jHST0 : ∀ o, (W35.alloc o).cell? ⟨b, 0, none⟩ = some (.slice (some ⟨pk, po, none⟩) L.length cap) := fun o => cell_alloc_old o kHST0
        have kHST1 : W35.cell? ⟨b, 1, none⟩ = some (.int .i64 np) := by rw [cell_of HST.out]; rfl
        have jHST1 : ∀ o, (W35.alloc o).cell? ⟨b, 1, none⟩ = some (.int .i64 np) := fun o => cell_alloc_old o kHST1
        have kHST2 : W35.cell? ⟨b, 2, none⟩ = some (.int .i64 h) := by rw [cell_of HST.out]; rfl
        have jHST2 : ∀ o, (W35.alloc o).cell? ⟨b, 2, none⟩ = some (.int .i64 h) := fun o => cell_alloc_old o kHST2
        have kHST3 : W35.cell? ⟨b, 3, none⟩ = some (.int .i64 d) := by rw [cell_of HST.out]; rfl
        have jHST3 : ∀ o, (W35.alloc o).cell? ⟨b, 3, none⟩ = some (.int .i64 d) := fun o => cell_alloc_old o kHST3
        have kHOB0 : W35.cell? ⟨w.heap.size, 0, none⟩ = some (.int .i64 c) := by rw [cell_of HOB.out]; rfl
        have jHOB0 : ∀ o, (W35.alloc o).cell? ⟨w.heap.size, 0, none⟩ = some (.int .i64 c) := fun o => cell_alloc_old o kHOB0
        have kHOB1 : W35.cell? ⟨w.heap.size, 1, none⟩ = some (.int .i64 x) := by rw [cell_of HOB.out]; rfl
        have jHOB1 : ∀ o, (W35.alloc o).cell? ⟨w.heap.size, 1, none⟩ = some (.int .i64 x) := fun o => cell_alloc_old o kHOB1
        have kHOB2 : W35.cell? ⟨w.heap.size, 2, none⟩ = some (.int .i64 m) := by rw [cell_of HOB.out]; rfl
        have jHOB2 : ∀ o, (W35.alloc o).cell? ⟨w.heap.size, 2, none⟩ = some (.int .i64 m) := fun o => cell_alloc_old o kHOB2
        go_wp2
        exact HE.out _ 20 (by rw [HVR.out, if_pos (Or.inl ht)]) NX.out
      · as_aux_lemma =>
        have e1 : ¬ (h : Int) < (tk : Int) := by omega
        have e2 : (h : Int) - (tk : Int) + (pt : Int) > 8 := by omega
        have kHST0 : W35.cell? ⟨b, 0, none⟩ = some (.slice (some ⟨pk, po, none⟩) L.length cap) := by rw [cell_of HST.out]; rfl
        have jHST0 : ∀ o, (W35.alloc o).cell? ⟨b, 0, none⟩ = some (.slice (some ⟨pk, po, none⟩) L.length cap) := fun o => cell_alloc_old o kHST0
        have kHST1 : W35.cell? ⟨b, 1, none⟩ = some (.int .i64 np) := by rw [cell_of HST.out]; rfl
        have jHST1 : ∀ o, (W35.alloc o).cell? ⟨b, 1, none⟩ = some (.int .i64 np) := fun o => cell_alloc_old o kHST1
        have kHST2 : W35.cell? ⟨b, 2, none⟩ = some (.int .i64 h) := by rw [cell_of HST.out]; rfl
        have jHST2 : ∀ o, (W35.alloc o).cell? ⟨b, 2, none⟩ = some (.int .i64 h) := fun o => cell_alloc_old o kHST2
        have kHST3 : W35.cell? ⟨b, 3, none⟩ = some (.int .i64 d) := by rw [cell_of HST.out]; rfl
        have jHST3 : ∀ o, (W35.alloc o).cell? ⟨b, 3, none⟩ = some (.int .i64 d) := fun o => cell_alloc_old o kHST3
        have kHOB0 : W35.cell? ⟨w.heap.size, 0, none⟩ = some (.int .i64 c) := by rw [cell_of HOB.out]; rfl
        have jHOB0 : ∀ o, (W35.alloc o).cell? ⟨w.heap.size, 0, none⟩ = some (.int .i64 c) := fun o => cell_alloc_old o kHOB0
        have kHOB1 : W35.cell? ⟨w.heap.size, 1, none⟩ = some (.int .i64 x) := by rw [cell_of HOB.out]; rfl
        have jHOB1 : ∀ o, (W35.alloc o).cell? ⟨w.heap.size, 1, none⟩ = some (.int .i64 x) := fun o => cell_alloc_old o kHOB1
        have kHOB2 : W35.cell? ⟨w.heap.size, 2, none⟩ = some (.int .i64 m) := by rw [cell_of HOB.out]; rfl
        have jHOB2 : ∀ o, (W35.alloc o).cell? ⟨w.heap.size, 2, none⟩ = some (.int .i64 m) := fun o => cell_alloc_old o kHOB2
        go_wp2
        exact HE.out _ 20 (by rw [HVR.out, if_pos (Or.inr (by omega))]) NX.out
      · as_aux_lemma =>
        have e1 : ¬ (h : Int) < (tk : Int) := by omega
        obtain ⟨h2, hh2⟩ : ∃ z, h - tk + pt = z := ⟨_, rfl⟩
        have e2 : (h : Int) - (tk : Int) + (pt : Int) = (h2 : Int) := by omega
        have e3 : ¬ (h2 : Int) > 8 := by omega
        have HV2 := Lib.hid (show vchk c x m (t - i) nest np h = none from by rw [HVR.out, if_neg (by omega)])
        have hk9 := HK.out
        rw [hh2] at hk9
        have HK9 := Lib.hid hk9
        clear hk9 HVR HK hh2
        have kHST0 : W35.cell? ⟨b, 0, none⟩ = some (.slice (some ⟨pk, po, none⟩) L.length cap) := by rw [cell_of HST.out]; rfl
        have kHST1 : W35.cell? ⟨b, 1, none⟩ = some (.int .i64 np) := by rw [cell_of HST.out]; rfl
        have kHST2 : W35.cell? ⟨b, 2, none⟩ = some (.int .i64 h) := by rw [cell_of HST.out]; rfl
        have kHST3 : W35.cell? ⟨b, 3, none⟩ = some (.int .i64 d) := by rw [cell_of HST.out]; rfl
        have kHOB0 : W35.cell? ⟨w.heap.size, 0, none⟩ = some (.int .i64 c) := by rw [cell_of HOB.out]; rfl
        have kHOB1 : W35.cell? ⟨w.heap.size, 1, none⟩ = some (.int .i64 x) := by rw [cell_of HOB.out]; rfl
        have kHOB2 : W35.cell? ⟨w.heap.size, 2, none⟩ = some (.int .i64 m) := by rw [cell_of HOB.out]; rfl
        have fz : W35.frozen? ⟨b, 2, none⟩ = false := frozen_of HST.out
        go_upto_region 15 with (fail)
        clear kHST0 kHST1 kHST2 kHST3 kHOB0 kHOB1 kHOB2
        clear fz
        refine wp_named ?_
        intro W36 hW
        have cc : Ch (· = b) W35 W36 := by rw [hW]; exact (Ch.refl (· = b) W35).setb (fun _ => rfl) _
        have nb := Lib.hid (show W36.heap[b]? = some (.cells #[.slice (some ⟨pk, po, none⟩) L.length cap, .int .i64 np, .int .i64 h2, .int .i64 d] 60 (0, 0)) from by rw [hW]; exact heap_setCell_eq _ HST.out)
        have CX := Lib.hid (show Ch (· = b) w W36 from (NX.out.mono (fun _ _ h => h.elim)).trans cc)
        clear hW cc HST NX HOB
        have HST := nb
        clear nb
        obtain ⟨d2, hd2⟩ : ∃ z, max d h2 = z := ⟨_, rfl⟩
        have d21 : (if d < h2 then (h2 : Int) else (d : Int)) = (d2 : Int) := by split <;> omega
        rw [hd2] at HK9
        clear hd2
        have k2 : W36.cell? ⟨b, 2, none⟩ = some (.int .i64 h2) := by rw [cell_of HST.out]; rfl
        have k3 : W36.cell? ⟨b, 3, none⟩ = some (.int .i64 d) := by rw [cell_of HST.out]; rfl
        have k3f : W36.frozen? ⟨b, 3, none⟩ = false := frozen_of HST.out
        go_still_tail 10, (by kernel_rfl)
        go_wp2
        refine HK9.out _ HV2.out ?_ ?_
        · first | exact heap_setCell_eq _ HST.out | (show _ = _; exact heap_setCell_eq _ HST.out)
        · first | exact (CX.out.setb (fun _ => rfl) _).drewN _ | exact ((CX.out.drewN _).setb (fun _ => rfl) _) | exact ((CX.out.drewN _).setb (fun _ => rfl) _).drewN _ | exact (CX.out.setb (fun _ => rfl) _).drew
  · as_aux_lemma =>
    rw [decide_eq_false hf]
    have HF := Lib.hid hf
    clear hf
    have kHST0 : w2.cell? ⟨b, 0, none⟩ = some (.slice (some ⟨pk, po, none⟩) L.length cap) := by rw [cell_of HST.out]; rfl
    have jHST0 : ∀ o, (w2.alloc o).cell? ⟨b, 0, none⟩ = some (.slice (some ⟨pk, po, none⟩) L.length cap) := fun o => cell_alloc_old o kHST0
    have kHST1 : w2.cell? ⟨b, 1, none⟩ = some (.int .i64 np) := by rw [cell_of HST.out]; rfl
    have jHST1 : ∀ o, (w2.alloc o).cell? ⟨b, 1, none⟩ = some (.int .i64 np) := fun o => cell_alloc_old o kHST1
    have kHST2 : w2.cell? ⟨b, 2, none⟩ = some (.int .i64 h) := by rw [cell_of HST.out]; rfl
    have jHST2 : ∀ o, (w2.alloc o).cell? ⟨b, 2, none⟩ = some (.int .i64 h) := fun o => cell_alloc_old o kHST2
    have kHST3 : w2.cell? ⟨b, 3, none⟩ = some (.int .i64 d) := by rw [cell_of HST.out]; rfl
    have jHST3 : ∀ o, (w2.alloc o).cell? ⟨b, 3, none⟩ = some (.int .i64 d) := fun o => cell_alloc_old o kHST3
    have kHOB0 : w2.cell? ⟨w.heap.size, 0, none⟩ = some (.int .i64 c) := by rw [cell_of HOB.out]; rfl
    have jHOB0 : ∀ o, (w2.alloc o).cell? ⟨w.heap.size, 0, none⟩ = some (.int .i64 c) := fun o => cell_alloc_old o kHOB0
    have kHOB1 : w2.cell? ⟨w.heap.size, 1, none⟩ = some (.int .i64 x) := by rw [cell_of HOB.out]; rfl
    have jHOB1 : ∀ o, (w2.alloc o).cell? ⟨w.heap.size, 1, none⟩ = some (.int .i64 x) := fun o => cell_alloc_old o kHOB1
    have kHOB2 : w2.cell? ⟨w.heap.size, 2, none⟩ = some (.int .i64 m) := by rw [cell_of HOB.out]; rfl
    have jHOB2 : ∀ o, (w2.alloc o).cell? ⟨w.heap.size, 2, none⟩ = some (.int .i64 m) := fun o => cell_alloc_old o kHOB2
    go_wp2
    exact HE.out _ 5 (vchk_bad (Or.inl HF.out)) NX.out

end Go.Proofs.YtdpbdcaefdcooaaGreatDoor
