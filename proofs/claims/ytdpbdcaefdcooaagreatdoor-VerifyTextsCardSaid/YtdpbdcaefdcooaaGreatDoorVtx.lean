/-
  verify.Text: the text of a program.
-/
import Derived.Test.YtdpbdcaefdcooaaGreatDoorVk
import Derived.Test.YtdpbdcaefdcooaaGreatDoorVBlock
import Derived.Test.YtdpbdcaefdcooaaGreatDoorRegI
namespace Go.Proofs.YtdpbdcaefdcooaaGreatDoor
open Go.RowKit
set_option linter.unusedVariables false
set_option linter.unusedSimpArgs false
set_option maxRecDepth 100000

/-- The strings behind k rounds, of n. -/
def lineC (L : List VOp) (n k : Nat) : List Value := ((L.take k).map fun o => Value.string ⟨(textW o).toArray⟩) ++ List.replicate (n - k) (.string ⟨#[]⟩)
theorem lineC_len {L : List VOp} {n k : Nat} (h : k ≤ n) (hL : L.length = n) : (lineC L n k).length = n := by unfold lineC; rw [List.length_append, List.length_map, List.length_take, List.length_replicate]; omega
theorem lineC_next {L : List VOp} {n k : Nat} (h : k < n) (hL : L.length = n) : (lineC L n k)[k]? = some (.string ⟨#[]⟩) := by
  unfold lineC
  rw [List.getElem?_append_right (by rw [List.length_map, List.length_take]; omega), List.getElem?_replicate, if_pos (by rw [List.length_map, List.length_take]; omega)]
theorem lineC_set {L : List VOp} {n k : Nat} {o : VOp} (h : k < n) (hL : L.length = n) (ho : L[k]? = some o) : (lineC L n k).set k (.string ⟨(textW o).toArray⟩) = lineC L n (k + 1) := by
  have hk : (L.take k).length = k := by rw [List.length_take]; omega
  unfold lineC
  rw [List.set_append, if_neg (by rw [List.length_map, hk]; omega), List.length_map, hk, Nat.sub_self, show n - k = (n - (k + 1)) + 1 by omega, List.replicate_succ, List.set_cons_zero, List.take_add_one, ho, List.map_append, List.append_assoc]
  rfl
theorem lineC_all {L : List VOp} : lineC L L.length L.length = L.map fun o => Value.string ⟨(textW o).toArray⟩ := by unfold lineC; rw [List.take_length, Nat.sub_self]; simp
theorem set3 (cs : List Value) (k : Nat) (a b c : Value) : ((cs.set k a).set k b).set k c = cs.set k c := by rw [List.set_set, List.set_set]
theorem made_strs (n : Nat) : madeCells (Value.string ⟨#[]⟩).cells (n * 1) = (List.replicate n (Value.string ⟨#[]⟩)).toArray := by
  rw [Nat.mul_one]
  apply Array.ext
  · simp [size_madeCells]
  · intro i h1 h2
    simp [madeCells, Value.cells, Nat.mod_one]
theorem info_str : (Tryz.prog.info? 9).map (fun i => (i.zero, i.size, i.bytes)) = some (some (.string ⟨#[]⟩), 1, 16) := by kernel_rfl
theorem made_strings (n : Nat) (hn : n ≤ 1000000) (w : World) : (Instr.makeSlice 63 (.int .i64 (n : Int)) (.int .i64 (n : Int))).run Tryz.prog w = .ok (.slice (some ⟨w.heap.size, 0, none⟩) n n) (w.alloc (.cells (List.replicate n (Value.string ⟨#[]⟩)).toArray 9)) := by
  have hinfo := info_str
  cases hinf : Tryz.prog.info? 9 with
  | none => rw [hinf] at hinfo; cases hinfo
  | some i =>
    rw [hinf] at hinfo
    simp only [Option.map_some, Option.some.injEq, Prod.mk.injEq] at hinfo
    obtain ⟨hz, hs, hb⟩ := hinfo
    have hr := run_make (P := Tryz.prog) w 63 9 i _ Tryz.underlying63 hinf hz .i64 .i64 n n (by omega) (by omega) (by rw [hb]; omega) (by omega)
    simp only [Int.toNat_natCast, hs, made_strs] at hr
    exact hr
theorem row_set {w : World} {g : Nat} {X : List Value} {T : TypeId} {f : Nat × Nat} (h : w.heap[g]? = some (.cells X.toArray T f)) (k : Nat) (v : Value) : (w.setCell ⟨g, k, none⟩ v).heap[g]? = some (.cells (X.set k v).toArray T f) := by
  have := heap_setCell_eq (o := k) v h
  simpa using this
theorem row_cell {w : World} {g : Nat} {X : List Value} {T : TypeId} {f : Nat × Nat} (h : w.heap[g]? = some (.cells X.toArray T f)) {k : Nat} {v : Value} (hk : X[k]? = some v) : w.cell? ⟨g, k, none⟩ = some v := by
  rw [cell_of h]; simpa using hk
theorem word_len (c : Int) : (wordB c).length ≤ 5 := by
  by_cases h : 1 ≤ c ∧ c ≤ 15
  · rcases fifteen h with rfl | rfl | rfl | rfl | rfl | rfl | rfl | rfl | rfl | rfl | rfl | rfl | rfl | rfl | rfl <;> decide
  · unfold wordB
    repeat rw [if_neg (by omega)]
    simp
theorem textW_len {o : VOp} (h : numOk o.2.1 ∧ numOk o.2.2) : (textW o).length ≤ 49 := by
  have h1 := word_len o.1
  have h2 := Lib.itoa_length_le o.2.1 h.1.1 h.1.2
  have h3 := Lib.itoa_length_le o.2.2 h.2.1 h.2.2
  unfold textW
  rw [List.length_append, List.length_append]
  split <;> split <;> simp only [List.length_cons, List.length_nil] <;> omega
theorem lens_le : ∀ X : List (List UInt8), (∀ x ∈ X, x.length ≤ 49) → Lib.lens X ≤ 49 * X.length
  | [], _ => by simp [Lib.lens]
  | x :: X, h => by
    have h1 := lens_le X (fun y hy => h y (List.mem_cons_of_mem _ hy))
    have h2 := h x (by simp)
    unfold Lib.lens at h1 ⊢
    simp only [List.map_cons, List.sum_cons, List.length_cons]
    omega
theorem join_le {X : List (List UInt8)} (h : ∀ x ∈ X, x.length ≤ 49) (hl : X.length ≤ 1000000) : (Lib.join X [59, 32]).length ≤ 100000000 := by
  match X, h, hl with
  | [], _, _ => rw [Lib.join_nil]; simp
  | x :: X, h, hl =>
    rw [Lib.join_length]
    have := lens_le _ h
    simp only [List.length_cons, List.length_nil] at this hl ⊢
    omega
theorem formed_take {L : List VOp} {k : Nat} {o : VOp} (h : formedL (L.take k) = true) (ho : L[k]? = some o) (hf : vform o.1 o.2.1 o.2.2) : formedL (L.take (k + 1)) = true := by
  rw [formedL_iff] at h ⊢
  rw [List.take_add_one, ho]
  intro x hx
  rcases List.mem_append.1 hx with hx | hx
  · exact h x hx
  · simp at hx; subst hx; exact hf
theorem formed_not {L : List VOp} {k : Nat} {o : VOp} (ho : L[k]? = some o) (hf : ¬ vform o.1 o.2.1 o.2.2) : textM L = [] := by
  unfold textM
  rw [if_neg]
  intro h
  exact hf (formedL_iff.1 h o (List.mem_of_getElem? ho))
theorem str_app3 (a b : List UInt8) : (⟨a.toArray⟩ : ByteArray) ++ ⟨b.toArray⟩ = ⟨(a ++ b).toArray⟩ := by
  apply ByteArray.ext
  simp [ByteArray.data_append]

set_option maxHeartbeats 8000000 in
theorem text_any (lo : Nat) (L : List VOp) (p : Value) (w : World) (R : Ending → World → Prop) (hp : IsProg w lo p L) (hlo : lo ≤ w.heap.size) (hk : WOk w) (h64 : L.length ≤ 1000000) (hn : ∀ o ∈ L, numOk o.2.1 ∧ numOk o.2.2)
    (hR : ∀ w', Nw w w' → R (.returned (.string ⟨(textM L).toArray⟩)) w') : Calls Tryz.prog 11 #[p] w R := by
  have HR := Lib.hid hR
  clear hR
  have HP := Lib.hid (hp : IsProg w lo p L)
  obtain ⟨A, cap, rfl, hl1, hl2, -⟩ := hp
  have HK := Lib.hid hk
  have HNM := Lib.hid hn
  clear hk hn
  have hmk := made_strings L.length (by omega)
  have l0 : (0 : Int) ≤ (L.length : Int) := by omega
  go_enter Tryz.func11, Tryz.ntmps11
  go_wp2_with (fail)
  refine wp_named ?_
  intro W1 hW
  have n : Nw w W1 := by rw [hW]; exact (Ch.refl _ _).alloc _
  have HROW := Lib.hid (show W1.heap[w.heap.size]? = some (.cells (lineC L L.length 0).toArray 9 (0, 0)) from by rw [hW]; unfold lineC; simp only [List.take_zero, List.map_nil, List.nil_append, Nat.sub_zero]; exact heap_alloc_eq _ rfl)
  have HN := Lib.hid (show Nw w W1 from by rw [hW]; exact (Ch.refl _ _).alloc _)
  clear hW n
  go_loopw [12] (fun s12 wr => ∃ k : Nat, s12 = .int .i64 k ∧ k ≤ L.length ∧ Hid (formedL (L.take k) = true) ∧ Hid (wr.heap[w.heap.size]? = some (.cells (lineC L L.length k).toArray 9 (0, 0))) ∧ Hid (Nw w wr)) (fun s12 _ => L.length - (intOf s12).toNat)
  case atStart => exact ⟨0, rfl, Nat.zero_le _, Lib.hid rfl, HROW, HN⟩
  case round =>
    clear HROW HN
    obtain ⟨k, rfl, hkl, HFM, HROW, HN⟩ := hrel
    have k0 : (0 : Int) ≤ (k : Int) := by omega
    obtain ⟨w0, hw0⟩ : ∃ W : World, W = wr := ⟨_, rfl⟩
    subst hw0
    by_cases hlt : k < L.length
    · as_aux_lemma =>
      have k1 : (k : Int) < (L.length : Int) := by omega
      obtain ⟨⟨c, x, y⟩, hq⟩ : ∃ q, L[k]? = some q := ⟨_, List.getElem?_eq_getElem hlt⟩
      have HQ := Lib.hid hq
      obtain ⟨hx, hy⟩ := HNM.out _ (List.mem_of_getElem? hq)
      simp only at hx hy
      have HX := Lib.hid hx
      have HY := Lib.hid hy
      obtain ⟨A', cap', e1, -, -, hel⟩ := HP.out.kept HN.out (fun _ _ e => e)
      cases e1
      obtain ⟨pk, po, hpk, rfl, c0, c1, c2⟩ := hel k c x y hq
      have HKW := Lib.hid (HK.out.kept HN.out (fun _ _ e => e))
      have LW : w.heap.size < w0.heap.size := lt_of_heap HROW.out
      have LW0 := LW
      clear hq hx hy hel
      go_upto_region 5 with (fail)
      refine wp_named ?_
      intro W2 hW
      have n : Nw w0 W2 := by rw [hW]; exact (Ch.refl _ _).alloc _
      replace HROW := Lib.hid (n.heap HROW.out id)
      replace HN := Lib.hid (HN.out.trans n)
      replace HKW := Lib.hid (HKW.out.kept n (fun _ _ e => e))
      replace LW := Nat.lt_of_lt_of_le LW n.size
      have HOB := Lib.hid (show W2.heap[w0.heap.size]? = some (.cells #[.int .i64 c, .int .i64 x, .int .i64 y] 49 (0, 0)) from by rw [hW]; exact heap_alloc_eq _ rfl)
      clear hW n
      clear c0 c1 c2
      have kHOB0 : W2.cell? ⟨w0.heap.size, 0, none⟩ = some (.int .i64 c) := by rw [cell_of HOB.out]; rfl
      have jHOB0 : ∀ o, (W2.alloc o).cell? ⟨w0.heap.size, 0, none⟩ = some (.int .i64 c) := fun o => cell_alloc_old o kHOB0
      have kHOB1 : W2.cell? ⟨w0.heap.size, 1, none⟩ = some (.int .i64 x) := by rw [cell_of HOB.out]; rfl
      have jHOB1 : ∀ o, (W2.alloc o).cell? ⟨w0.heap.size, 1, none⟩ = some (.int .i64 x) := fun o => cell_alloc_old o kHOB1
      have kHOB2 : W2.cell? ⟨w0.heap.size, 2, none⟩ = some (.int .i64 y) := by rw [cell_of HOB.out]; rfl
      have jHOB2 : ∀ o, (W2.alloc o).cell? ⟨w0.heap.size, 2, none⟩ = some (.int .i64 y) := fun o => cell_alloc_old o kHOB2
      go_wp2_with (go_at_call 27; fail)
      clear kHOB0 jHOB0 kHOB1 jHOB1 kHOB2 jHOB2
      refine Calls_nm ?_
      intro W3 hW
      have n : Nw W2 W3 := by rw [hW]; first | exact Ch.refl _ _ | exact (Ch.refl _ _).alloc _ | exact ((Ch.refl _ _).alloc _).alloc _
      replace HROW := Lib.hid (n.heap HROW.out id)
      replace HN := Lib.hid (HN.out.trans n)
      replace HKW := Lib.hid (HKW.out.kept n (fun _ _ e => e))
      replace LW := Nat.lt_of_lt_of_le LW n.size
      replace HOB := Lib.hid (n.heap HOB.out id)
      clear hW n
      refine formed_any c x y _ _ HKW.out.kinds ?_
      intro w4 n
      replace HROW := Lib.hid (n.heap HROW.out id)
      replace HN := Lib.hid (HN.out.trans n)
      replace HKW := Lib.hid (HKW.out.kept n (fun _ _ e => e))
      replace LW := Nat.lt_of_lt_of_le LW n.size
      replace HOB := Lib.hid (n.heap HOB.out id)
      clear n
      by_cases hf : vform c x y
      · as_aux_lemma =>
        rw [decide_eq_true hf]
        have HF := Lib.hid hf
        obtain ⟨hc1, hc2, hc3⟩ := hf
        obtain ⟨cn, rfl⟩ : ∃ k : Nat, c = (k : Int) := ⟨c.toNat, by omega⟩
        have cn1 : 1 ≤ cn ∧ cn ≤ 15 := by omega
        obtain ⟨cn1, cn15⟩ := cn1
        have cz : (0 : Int) ≤ (cn : Int) := by omega
        have cz1 : (cn : Int) < 16 := by omega
        obtain ⟨a1, b1, x1, y1, d0, -, -, d3, d4⟩ := HKW.out.words cn (by omega)
        obtain ⟨st, -, d1, d2, -, -⟩ := HKW.out.kinds cn cn1 cn15
        obtain ⟨WD, hWD⟩ : ∃ W, (⟨(wordB (cn : Int)).toArray⟩ : ByteArray) = W := ⟨_, rfl⟩
        rw [hWD] at d0
        have HWD := Lib.hid hWD
        have hz : 0 < w4.heap.size := by omega
        have wl : WD.size ≤ 5 := by rw [← hWD]; show (List.toArray _).size ≤ 5; rw [List.size_toArray]; exact word_len _
        clear hWD hc1 hc2 hc3
        obtain ⟨uN, huN⟩ : ∃ b, kN cn = b := ⟨_, rfl⟩
        obtain ⟨uM, huM⟩ : ∃ b, kM cn = b := ⟨_, rfl⟩
        rw [huN] at d1
        rw [huM] at d2
        have HUN := Lib.hid (show usesN (cn : Int) = uN from by rw [← huN]; unfold usesN kN; simp only [Bool.decide_or]; congr 1 <;> (apply decide_eq_decide.2; omega))
        have HUM := Lib.hid (show usesM (cn : Int) = uM from by rw [← huM]; unfold usesM kM; apply decide_eq_decide.2; omega)
        clear huN huM
        have kHOB0 : w4.cell? ⟨w0.heap.size, 0, none⟩ = some (.int .i64 (cn : Nat)) := by rw [cell_of HOB.out]; rfl
        have kHOB1 : w4.cell? ⟨w0.heap.size, 1, none⟩ = some (.int .i64 x) := by rw [cell_of HOB.out]; rfl
        have kHOB2 : w4.cell? ⟨w0.heap.size, 2, none⟩ = some (.int .i64 y) := by rw [cell_of HOB.out]; rfl
        go_upto_region 8 with (fail)
        clear kHOB0 kHOB1 kHOB2
        have LK0 := LW
        refine wp_named ?_
        intro W5 hW
        have n : Nw w4 W5 := by rw [hW]; exact (Ch.refl _ _).alloc _
        replace HROW := Lib.hid (n.heap HROW.out id)
        replace HN := Lib.hid (HN.out.trans n)
        replace HKW := Lib.hid (HKW.out.kept n (fun _ _ e => e))
        replace LW := Nat.lt_of_lt_of_le LW n.size
        replace HOB := Lib.hid (n.heap HOB.out id)
        have HKB := Lib.hid (show W5.heap[w4.heap.size]? = some (.cells #[.string WD, .bool uN, .bool uM, .int .i64 x1, .int .i64 y1] 66 (0, 0)) from by rw [hW]; exact heap_alloc_eq _ rfl)
        clear hW n
        clear d0 d1 d2 d3 d4 hz
        have LK : w.heap.size < W5.heap.size := by have := HN.out.size; have := lt_of_heap HKB.out; have := lt_of_heap HOB.out; omega
        have e0 : W5.cell? ⟨w.heap.size, k, none⟩ = some (.string ⟨#[]⟩) := row_cell HROW.out (lineC_next hlt rfl)
        have e0f : W5.frozen? ⟨w.heap.size, k, none⟩ = false := frozen_of HROW.out
        have kHKB0 : W5.cell? ⟨w4.heap.size, 0, none⟩ = some (.string WD) := by rw [cell_of HKB.out]; rfl
        have kHKB1 : W5.cell? ⟨w4.heap.size, 1, none⟩ = some (.bool uN) := by rw [cell_of HKB.out]; rfl
        have kHKB2 : W5.cell? ⟨w4.heap.size, 2, none⟩ = some (.bool uM) := by rw [cell_of HKB.out]; rfl
        have kHKB3 : W5.cell? ⟨w4.heap.size, 3, none⟩ = some (.int .i64 x1) := by rw [cell_of HKB.out]; rfl
        have kHKB4 : W5.cell? ⟨w4.heap.size, 4, none⟩ = some (.int .i64 y1) := by rw [cell_of HKB.out]; rfl
        go_upto_region 9 with (fail)
        clear kHKB0 kHKB1 kHKB2 kHKB3 kHKB4
        clear e0 e0f
        refine wp_named ?_
        intro W6 hW
        have cc : Ch (· = w.heap.size) W5 W6 := by rw [hW]; exact (Ch.refl (· = w.heap.size) W5).setb (fun _ => rfl) _
        have nb := Lib.hid (show W6.heap[w.heap.size]? = some (.cells ((lineC L L.length k).set k (.string WD)).toArray 9 (0, 0)) from by rw [hW]; exact row_set HROW.out k _)
        clear hW
        replace HROW := Lib.hid (nb.out)
        replace HN := Lib.hid (HN.out.trans' cc (fun j hj e => by have e' : j = w.heap.size := e; omega))
        replace HKW := Lib.hid (HKW.out.kept cc (fun k hk e => by have e' : k = w.heap.size := e; have := HK.out.sz; omega))
        replace LW := Nat.lt_of_lt_of_le LW cc.size
        replace HOB := Lib.hid (cc.heap HOB.out (by show w0.heap.size ≠ w.heap.size; omega))
        replace HKB := Lib.hid (cc.heap HKB.out (by show w4.heap.size ≠ w.heap.size; omega))
        replace LK := Nat.lt_of_lt_of_le LK cc.size
        clear nb cc
        cases uN with
        | false => as_aux_lemma =>
          cases uM with
          | true => exact absurd HUM.out (by have h := HUN.out; unfold usesN at h; unfold usesM; simp at h ⊢; omega)
          | false =>
            have kHOB0 : W6.cell? ⟨w0.heap.size, 0, none⟩ = some (.int .i64 (cn : Nat)) := by rw [cell_of HOB.out]; rfl
            have kHOB1 : W6.cell? ⟨w0.heap.size, 1, none⟩ = some (.int .i64 x) := by rw [cell_of HOB.out]; rfl
            have kHOB2 : W6.cell? ⟨w0.heap.size, 2, none⟩ = some (.int .i64 y) := by rw [cell_of HOB.out]; rfl
            have kHKB0 : W6.cell? ⟨w4.heap.size, 0, none⟩ = some (.string WD) := by rw [cell_of HKB.out]; rfl
            have kHKB1 : W6.cell? ⟨w4.heap.size, 1, none⟩ = some (.bool false) := by rw [cell_of HKB.out]; rfl
            have kHKB2 : W6.cell? ⟨w4.heap.size, 2, none⟩ = some (.bool false) := by rw [cell_of HKB.out]; rfl
            have kHKB3 : W6.cell? ⟨w4.heap.size, 3, none⟩ = some (.int .i64 x1) := by rw [cell_of HKB.out]; rfl
            have kHKB4 : W6.cell? ⟨w4.heap.size, 4, none⟩ = some (.int .i64 y1) := by rw [cell_of HKB.out]; rfl
            go_wp2_with (fail)
            clear kHOB0 kHOB1 kHOB2 kHKB0 kHKB1 kHKB2 kHKB3 kHKB4
            have ex := lineC_set hlt rfl HQ.out
            have HST := Lib.hid (show (lineC L L.length k).set k (.string WD) = lineC L L.length (k + 1) from by rw [← ex]; rw [← HWD.out, show textW ((cn : Int), x, y) = wordB (cn : Int) from by unfold textW; simp only [HUN.out, HUM.out]; (try simp)])
            rw [HST.out] at HROW
            clear ex
            refine ⟨⟨k + 1, by go_num, by omega, Lib.hid (formed_take HFM.out HQ.out HF.out), HROW, HN⟩, by simp [intOf]; omega⟩
        | true => as_aux_lemma =>
          have r0 := Lib.hid (row_cell HROW.out (k := k) (v := .string WD) (by rw [List.getElem?_set]; simp; rw [lineC_len (Nat.le_of_lt hlt) rfl]; exact hlt))
          have kHOB0 : W6.cell? ⟨w0.heap.size, 0, none⟩ = some (.int .i64 (cn : Nat)) := by rw [cell_of HOB.out]; rfl
          have kHOB1 : W6.cell? ⟨w0.heap.size, 1, none⟩ = some (.int .i64 x) := by rw [cell_of HOB.out]; rfl
          have kHOB2 : W6.cell? ⟨w0.heap.size, 2, none⟩ = some (.int .i64 y) := by rw [cell_of HOB.out]; rfl
          have kHKB0 : W6.cell? ⟨w4.heap.size, 0, none⟩ = some (.string WD) := by rw [cell_of HKB.out]; rfl
          have kHKB1 : W6.cell? ⟨w4.heap.size, 1, none⟩ = some (.bool true) := by rw [cell_of HKB.out]; rfl
          have kHKB2 : W6.cell? ⟨w4.heap.size, 2, none⟩ = some (.bool uM) := by rw [cell_of HKB.out]; rfl
          have kHKB3 : W6.cell? ⟨w4.heap.size, 3, none⟩ = some (.int .i64 x1) := by rw [cell_of HKB.out]; rfl
          have kHKB4 : W6.cell? ⟨w4.heap.size, 4, none⟩ = some (.int .i64 y1) := by rw [cell_of HKB.out]; rfl
          go_upto_region 10 with (fail)
          clear kHOB0 kHOB1 kHOB2 kHKB0 kHKB1 kHKB2 kHKB3 kHKB4
          obtain ⟨IT_1, hIT_1⟩ : ∃ I, (⟨(Lib.itoa x).toArray⟩ : ByteArray) = I := ⟨_, rfl⟩
          have HIT_1 := Lib.hid hIT_1
          have itl_1 := Lib.hid (show IT_1.size ≤ 21 from by rw [← hIT_1]; show (List.toArray _).size ≤ 21; rw [List.size_toArray]; exact Lib.itoa_length_le _ HX.out.1 HX.out.2)
          clear hIT_1
          have itl2_1 := Lib.hid (show ((⟨#[32]⟩ : ByteArray) ++ IT_1).size ≤ 22 from by rw [ByteArray.size_append]; exact Nat.add_le_add (Nat.le_refl 1) itl_1.out)
          have pvl_1 := Lib.hid (show (WD).size ≤ 100 from by omega)
          refine wp_named ?_
          intro W7 hW
          have n : Nw W6 W7 := by rw [hW]; first | exact Ch.refl _ _ | exact (Ch.refl _ _).alloc _
          replace HROW := Lib.hid (n.heap HROW.out id)
          replace HN := Lib.hid (HN.out.trans n)
          replace HKW := Lib.hid (HKW.out.kept n (fun _ _ e => e))
          replace LW := Nat.lt_of_lt_of_le LW n.size
          replace HOB := Lib.hid (n.heap HOB.out id)
          replace HKB := Lib.hid (n.heap HKB.out id)
          replace LK := Nat.lt_of_lt_of_le LK n.size
          replace r0 := Lib.hid (n.cell r0.out id)
          clear hW n
          refine wp_region_V (F := fun w' => w'.cell? ⟨w0.heap.size, 1, none⟩ = some (.int .i64 x) ∧ w'.cell? ⟨w.heap.size, k, none⟩ = some (.string WD)) (opsOf Tryz.f11 10) 10 11 (by kernel_rfl) (by kernel_rfl) (by kernel_rfl) (fun w w' h n => ⟨n.cell h.1 id, n.cell h.2 id⟩) ⟨by show W7.cell? _ = _; rw [cell_of HOB.out]; rfl, r0.out⟩ (fun HOPS HCL hHeld => ?_)
          refine wpU_named ?_
          intro W8 hW
          try rw [← hW] at hHeld
          have n : Nw W7 W8 := by rw [hW]; exact (Ch.refl _ _).drew
          replace HROW := Lib.hid (n.heap HROW.out id)
          replace HN := Lib.hid (HN.out.trans n)
          replace HKW := Lib.hid (HKW.out.kept n (fun _ _ e => e))
          replace LW := Nat.lt_of_lt_of_le LW n.size
          replace HOB := Lib.hid (n.heap HOB.out id)
          replace HKB := Lib.hid (n.heap HKB.out id)
          replace LK := Nat.lt_of_lt_of_le LK n.size
          replace r0 := Lib.hid (n.cell r0.out id)
          clear hW n
          first | (refine wpU_takeA (i := 0) (v := ?_) HOPS rfl (by kernel_rfl) (fun _ _ _ h => h) HCL (goes_read (by rfl) ?hy) ?_; case hy => (intro w hSw; (try dsimp only at hSw); go_simp; (try with_reducible rfl))) | (refine wpU_takeA (i := 0) (v := _) HOPS rfl (by kernel_rfl) (fun _ _ _ h => h) HCL (goes_not (by rfl)) ?_)
          try simp only [Act.put, List.getElem_toArray, List.getElem_cons_succ, List.getElem_cons_zero, List.setIfInBounds_toArray, List.set_cons_zero, List.set_cons_succ]
          first | (refine wpU_takeA (i := 1) (v := ?_) HOPS rfl (by kernel_rfl) (fun _ _ _ h => h) HCL (goes_read (by rfl) ?hy) ?_; case hy => (intro w hSw; (try dsimp only at hSw); go_simp; (try with_reducible rfl))) | (refine wpU_takeA (i := 1) (v := _) HOPS rfl (by kernel_rfl) (fun _ _ _ h => h) HCL (goes_not (by rfl)) ?_)
          try simp only [Act.put, List.getElem_toArray, List.getElem_cons_succ, List.getElem_cons_zero, List.setIfInBounds_toArray, List.set_cons_zero, List.set_cons_succ]
          first | (refine wpU_takeA (i := 2) (v := ?_) HOPS rfl (by kernel_rfl) (fun _ _ _ h => h) HCL (goes_read (by rfl) ?hy) ?_; case hy => (intro w hSw; (try dsimp only at hSw); go_simp; (try with_reducible rfl))) | (refine wpU_takeA (i := 2) (v := _) HOPS rfl (by kernel_rfl) (fun _ _ _ h => h) HCL (goes_not (by rfl)) ?_)
          try simp only [Act.put, List.getElem_toArray, List.getElem_cons_succ, List.getElem_cons_zero, List.setIfInBounds_toArray, List.set_cons_zero, List.set_cons_succ]
          first | (refine wpU_takeA (i := 3) (v := ?_) HOPS rfl (by kernel_rfl) (fun _ _ _ h => h) HCL (goes_read (by rfl) ?hy) ?_; case hy => (intro w hSw; (try dsimp only at hSw); go_simp; (try with_reducible rfl))) | (refine wpU_takeA (i := 3) (v := _) HOPS rfl (by kernel_rfl) (fun _ _ _ h => h) HCL (goes_not (by rfl)) ?_)
          try simp only [Act.put, List.getElem_toArray, List.getElem_cons_succ, List.getElem_cons_zero, List.setIfInBounds_toArray, List.set_cons_zero, List.set_cons_succ]
          first | (refine wpU_takeA (i := 4) (v := ?_) HOPS rfl (by kernel_rfl) (fun _ _ _ h => h) HCL (goes_read (by rfl) ?hy) ?_; case hy => (intro w hSw; (try dsimp only at hSw); go_simp; (try with_reducible rfl))) | (refine wpU_takeA (i := 4) (v := _) HOPS rfl (by kernel_rfl) (fun _ _ _ h => h) HCL (goes_not (by rfl)) ?_)
          try simp only [Act.put, List.getElem_toArray, List.getElem_cons_succ, List.getElem_cons_zero, List.setIfInBounds_toArray, List.set_cons_zero, List.set_cons_succ]
          first | (refine wpU_takeA (i := 5) (v := ?_) HOPS rfl (by kernel_rfl) (fun _ _ _ h => h) HCL (goes_read (by rfl) ?hy) ?_; case hy => (intro w hSw; (try dsimp only at hSw); go_simp; (try with_reducible rfl))) | (refine wpU_takeA (i := 5) (v := _) HOPS rfl (by kernel_rfl) (fun _ _ _ h => h) HCL (goes_not (by rfl)) ?_)
          try simp only [Act.put, List.getElem_toArray, List.getElem_cons_succ, List.getElem_cons_zero, List.setIfInBounds_toArray, List.set_cons_zero, List.set_cons_succ]
          refine wpU_takeA (i := 6) HOPS rfl (by kernel_rfl) (fun _ _ _ h => h) HCL (goes_fn (v := (.string IT_1)) 27 _ _ _ #[.int .i64 x] (by rfl) rfl (by kernel_rfl) (by kernel_rfl) (by kernel_rfl) (fun wq n R hR => ?_)) ?_
          · exact itoa_any x _ _ (HKW.out.kept n (fun _ _ e => e)) HX.out (by rw [HIT_1.out]; exact hR)
          try simp only [Act.put, List.getElem_toArray, List.getElem_cons_succ, List.getElem_cons_zero, List.setIfInBounds_toArray, List.set_cons_zero, List.set_cons_succ]
          refine wpU_takeB (i := 7) HOPS rfl (by kernel_rfl) (fun _ _ _ h => h) HCL (goes_cat _ _ _ _ _ _ _ _ (by rfl) rfl (by rfl) (by rfl) (by show (#[(32 : UInt8)] : Array UInt8).size ≤ 1; exact Nat.le_refl 1) itl_1.out (by decide)) ?_
          try simp only [Act.put, List.getElem_toArray, List.getElem_cons_succ, List.getElem_cons_zero, List.setIfInBounds_toArray, List.set_cons_zero, List.set_cons_succ]
          refine wpU_takeB (i := 8) HOPS rfl (by kernel_rfl) (fun _ _ _ h => h) HCL (goes_cat _ _ _ _ _ _ _ _ (by rfl) rfl (by rfl) (by rfl) pvl_1.out itl2_1.out (by decide)) ?_
          try simp only [Act.put, List.getElem_toArray, List.getElem_cons_succ, List.getElem_cons_zero, List.setIfInBounds_toArray, List.set_cons_zero, List.set_cons_succ]
          first | (refine wpU_takeA (i := 9) (v := ?_) HOPS rfl (by kernel_rfl) (fun _ _ _ h => h) HCL (goes_read (by rfl) ?hy) ?_; case hy => (intro w hSw; (try dsimp only at hSw); go_simp; (try with_reducible rfl))) | (refine wpU_takeA (i := 9) (v := _) HOPS rfl (by kernel_rfl) (fun _ _ _ h => h) HCL (goes_not (by rfl)) ?_)
          try simp only [Act.put, List.getElem_toArray, List.getElem_cons_succ, List.getElem_cons_zero, List.setIfInBounds_toArray, List.set_cons_zero, List.set_cons_succ]
          refine wpU_ready (rs := [10]) (by kernel_rfl) (by simp) ?_
          intro w9 hle
          obtain ⟨n, hHeld⟩ := hle.ahead (by kernel_rfl)
          clear hle
          replace HROW := Lib.hid (n.heap HROW.out id)
          replace HN := Lib.hid (HN.out.trans n)
          replace HKW := Lib.hid (HKW.out.kept n (fun _ _ e => e))
          replace LW := Nat.lt_of_lt_of_le LW n.size
          replace HOB := Lib.hid (n.heap HOB.out id)
          replace HKB := Lib.hid (n.heap HKB.out id)
          replace LK := Nat.lt_of_lt_of_le LK n.size
          replace r0 := Lib.hid (n.cell r0.out id)
          clear n
          refine ReadyU.last HOPS rfl (by rfl) (by kernel_rfl) (fun K hK => ?_) ReadyU.nil
          have e1 : w9.cell? ⟨w.heap.size, k, none⟩ = some (.string WD) := r0.out
          have e1f : w9.frozen? ⟨w.heap.size, k, none⟩ = false := frozen_of HROW.out
          go_simp
          refine hK.out _ _ ?_
          clear hK K e1 e1f
          try simp only [Act.put, List.getElem_toArray, List.getElem_cons_succ, List.getElem_cons_zero, List.setIfInBounds_toArray, List.set_cons_zero, List.set_cons_succ]
          clear r0
          refine wpU_named ?_
          intro W10 hW
          have cc : Ch (· = w.heap.size) w9 W10 := by rw [hW]; exact (Ch.refl (· = w.heap.size) w9).setb (fun _ => rfl) _
          have nb := Lib.hid (show W10.heap[w.heap.size]? = some (.cells (((lineC L L.length k).set k (.string WD)).set k (.string (WD ++ ((⟨#[32]⟩ : ByteArray) ++ IT_1)))).toArray 9 (0, 0)) from by rw [hW]; exact row_set HROW.out k _)
          clear hW
          replace HROW := Lib.hid (nb.out)
          replace HN := Lib.hid (HN.out.trans' cc (fun j hj e => by have e' : j = w.heap.size := e; omega))
          replace HKW := Lib.hid (HKW.out.kept cc (fun k hk e => by have e' : k = w.heap.size := e; have := HK.out.sz; omega))
          replace LW := Nat.lt_of_lt_of_le LW cc.size
          replace HOB := Lib.hid (cc.heap HOB.out (by show w0.heap.size ≠ w.heap.size; omega))
          replace HKB := Lib.hid (cc.heap HKB.out (by show w4.heap.size ≠ w.heap.size; omega))
          replace LK := Nat.lt_of_lt_of_le LK cc.size
          clear nb cc
          refine wpU_done (by kernel_rfl) (fun w11 hle => ?_) _
          rw [hle.behind (by kernel_rfl)]
          clear HOPS HCL hle
          repeat clear hHeld
          have HS2 := Lib.hid (show (WD ++ ((⟨#[32]⟩ : ByteArray) ++ IT_1)) = ⟨(wordB (cn : Int) ++ 32 :: Lib.itoa x).toArray⟩ from by rw [← HWD.out, ← HIT_1.out, show (⟨#[32]⟩ : ByteArray) = ⟨([32] : List UInt8).toArray⟩ from rfl, str_app3, str_app3]; rfl)
          obtain ⟨W2, hW2⟩ : ∃ W, (WD ++ ((⟨#[32]⟩ : ByteArray) ++ IT_1)) = W := ⟨_, rfl⟩
          have pl2 : W2.size ≤ 100 := by rw [← hW2, ByteArray.size_append]; have := itl2_1.out; omega
          rw [hW2] at HROW HS2
          clear hW2
          cases uM with
          | false =>
            have kHOB0 : W10.cell? ⟨w0.heap.size, 0, none⟩ = some (.int .i64 (cn : Nat)) := by rw [cell_of HOB.out]; rfl
            have kHOB1 : W10.cell? ⟨w0.heap.size, 1, none⟩ = some (.int .i64 x) := by rw [cell_of HOB.out]; rfl
            have kHOB2 : W10.cell? ⟨w0.heap.size, 2, none⟩ = some (.int .i64 y) := by rw [cell_of HOB.out]; rfl
            have kHKB0 : W10.cell? ⟨w4.heap.size, 0, none⟩ = some (.string WD) := by rw [cell_of HKB.out]; rfl
            have kHKB1 : W10.cell? ⟨w4.heap.size, 1, none⟩ = some (.bool true) := by rw [cell_of HKB.out]; rfl
            have kHKB2 : W10.cell? ⟨w4.heap.size, 2, none⟩ = some (.bool false) := by rw [cell_of HKB.out]; rfl
            have kHKB3 : W10.cell? ⟨w4.heap.size, 3, none⟩ = some (.int .i64 x1) := by rw [cell_of HKB.out]; rfl
            have kHKB4 : W10.cell? ⟨w4.heap.size, 4, none⟩ = some (.int .i64 y1) := by rw [cell_of HKB.out]; rfl
            go_wp2_with (fail)
            clear kHOB0 kHOB1 kHOB2 kHKB0 kHKB1 kHKB2 kHKB3 kHKB4
            have ex := lineC_set hlt rfl HQ.out
            have HST := Lib.hid (show ((lineC L L.length k).set k (.string WD)).set k (.string W2) = lineC L L.length (k + 1) from by rw [← ex]; rw [List.set_set, HS2.out, show textW ((cn : Int), x, y) = wordB (cn : Int) ++ 32 :: Lib.itoa x from by unfold textW; simp only [HUN.out, HUM.out]; (try simp)])
            rw [HST.out] at HROW
            clear ex
            refine ⟨⟨k + 1, by go_num, by omega, Lib.hid (formed_take HFM.out HQ.out HF.out), HROW, HN⟩, by simp [intOf]; omega⟩
          | true =>
            have r0 := Lib.hid (row_cell HROW.out (k := k) (v := .string W2) (by rw [List.getElem?_set]; simp; rw [lineC_len (Nat.le_of_lt hlt) rfl]; exact hlt))
            have kHOB0 : W10.cell? ⟨w0.heap.size, 0, none⟩ = some (.int .i64 (cn : Nat)) := by rw [cell_of HOB.out]; rfl
            have kHOB1 : W10.cell? ⟨w0.heap.size, 1, none⟩ = some (.int .i64 x) := by rw [cell_of HOB.out]; rfl
            have kHOB2 : W10.cell? ⟨w0.heap.size, 2, none⟩ = some (.int .i64 y) := by rw [cell_of HOB.out]; rfl
            have kHKB0 : W10.cell? ⟨w4.heap.size, 0, none⟩ = some (.string WD) := by rw [cell_of HKB.out]; rfl
            have kHKB1 : W10.cell? ⟨w4.heap.size, 1, none⟩ = some (.bool true) := by rw [cell_of HKB.out]; rfl
            have kHKB2 : W10.cell? ⟨w4.heap.size, 2, none⟩ = some (.bool true) := by rw [cell_of HKB.out]; rfl
            have kHKB3 : W10.cell? ⟨w4.heap.size, 3, none⟩ = some (.int .i64 x1) := by rw [cell_of HKB.out]; rfl
            have kHKB4 : W10.cell? ⟨w4.heap.size, 4, none⟩ = some (.int .i64 y1) := by rw [cell_of HKB.out]; rfl
            go_upto_region 12 with (fail)
            clear kHOB0 kHOB1 kHOB2 kHKB0 kHKB1 kHKB2 kHKB3 kHKB4
            obtain ⟨IT_2, hIT_2⟩ : ∃ I, (⟨(Lib.itoa y).toArray⟩ : ByteArray) = I := ⟨_, rfl⟩
            have HIT_2 := Lib.hid hIT_2
            have itl_2 := Lib.hid (show IT_2.size ≤ 21 from by rw [← hIT_2]; show (List.toArray _).size ≤ 21; rw [List.size_toArray]; exact Lib.itoa_length_le _ HY.out.1 HY.out.2)
            clear hIT_2
            have itl2_2 := Lib.hid (show ((⟨#[32]⟩ : ByteArray) ++ IT_2).size ≤ 22 from by rw [ByteArray.size_append]; exact Nat.add_le_add (Nat.le_refl 1) itl_2.out)
            have pvl_2 := Lib.hid (show (W2).size ≤ 100 from by exact pl2)
            refine wp_named ?_
            intro W12 hW
            have n : Nw W10 W12 := by rw [hW]; first | exact Ch.refl _ _ | exact (Ch.refl _ _).alloc _
            replace HROW := Lib.hid (n.heap HROW.out id)
            replace HN := Lib.hid (HN.out.trans n)
            replace HKW := Lib.hid (HKW.out.kept n (fun _ _ e => e))
            replace LW := Nat.lt_of_lt_of_le LW n.size
            replace HOB := Lib.hid (n.heap HOB.out id)
            replace HKB := Lib.hid (n.heap HKB.out id)
            replace LK := Nat.lt_of_lt_of_le LK n.size
            replace r0 := Lib.hid (n.cell r0.out id)
            clear hW n
            refine wp_region_V (F := fun w' => w'.cell? ⟨w0.heap.size, 2, none⟩ = some (.int .i64 y) ∧ w'.cell? ⟨w.heap.size, k, none⟩ = some (.string W2)) (opsOf Tryz.f11 12) 10 11 (by kernel_rfl) (by kernel_rfl) (by kernel_rfl) (fun w w' h n => ⟨n.cell h.1 id, n.cell h.2 id⟩) ⟨by show W12.cell? _ = _; rw [cell_of HOB.out]; rfl, r0.out⟩ (fun HOPS HCL hHeld => ?_)
            refine wpU_named ?_
            intro W13 hW
            try rw [← hW] at hHeld
            have n : Nw W12 W13 := by rw [hW]; exact (Ch.refl _ _).drew
            replace HROW := Lib.hid (n.heap HROW.out id)
            replace HN := Lib.hid (HN.out.trans n)
            replace HKW := Lib.hid (HKW.out.kept n (fun _ _ e => e))
            replace LW := Nat.lt_of_lt_of_le LW n.size
            replace HOB := Lib.hid (n.heap HOB.out id)
            replace HKB := Lib.hid (n.heap HKB.out id)
            replace LK := Nat.lt_of_lt_of_le LK n.size
            replace r0 := Lib.hid (n.cell r0.out id)
            clear hW n
            first | (refine wpU_takeA (i := 0) (v := ?_) HOPS rfl (by kernel_rfl) (fun _ _ _ h => h) HCL (goes_read (by rfl) ?hy) ?_; case hy => (intro w hSw; (try dsimp only at hSw); go_simp; (try with_reducible rfl))) | (refine wpU_takeA (i := 0) (v := _) HOPS rfl (by kernel_rfl) (fun _ _ _ h => h) HCL (goes_not (by rfl)) ?_)
            try simp only [Act.put, List.getElem_toArray, List.getElem_cons_succ, List.getElem_cons_zero, List.setIfInBounds_toArray, List.set_cons_zero, List.set_cons_succ]
            first | (refine wpU_takeA (i := 1) (v := ?_) HOPS rfl (by kernel_rfl) (fun _ _ _ h => h) HCL (goes_read (by rfl) ?hy) ?_; case hy => (intro w hSw; (try dsimp only at hSw); go_simp; (try with_reducible rfl))) | (refine wpU_takeA (i := 1) (v := _) HOPS rfl (by kernel_rfl) (fun _ _ _ h => h) HCL (goes_not (by rfl)) ?_)
            try simp only [Act.put, List.getElem_toArray, List.getElem_cons_succ, List.getElem_cons_zero, List.setIfInBounds_toArray, List.set_cons_zero, List.set_cons_succ]
            first | (refine wpU_takeA (i := 2) (v := ?_) HOPS rfl (by kernel_rfl) (fun _ _ _ h => h) HCL (goes_read (by rfl) ?hy) ?_; case hy => (intro w hSw; (try dsimp only at hSw); go_simp; (try with_reducible rfl))) | (refine wpU_takeA (i := 2) (v := _) HOPS rfl (by kernel_rfl) (fun _ _ _ h => h) HCL (goes_not (by rfl)) ?_)
            try simp only [Act.put, List.getElem_toArray, List.getElem_cons_succ, List.getElem_cons_zero, List.setIfInBounds_toArray, List.set_cons_zero, List.set_cons_succ]
            first | (refine wpU_takeA (i := 3) (v := ?_) HOPS rfl (by kernel_rfl) (fun _ _ _ h => h) HCL (goes_read (by rfl) ?hy) ?_; case hy => (intro w hSw; (try dsimp only at hSw); go_simp; (try with_reducible rfl))) | (refine wpU_takeA (i := 3) (v := _) HOPS rfl (by kernel_rfl) (fun _ _ _ h => h) HCL (goes_not (by rfl)) ?_)
            try simp only [Act.put, List.getElem_toArray, List.getElem_cons_succ, List.getElem_cons_zero, List.setIfInBounds_toArray, List.set_cons_zero, List.set_cons_succ]
            first | (refine wpU_takeA (i := 4) (v := ?_) HOPS rfl (by kernel_rfl) (fun _ _ _ h => h) HCL (goes_read (by rfl) ?hy) ?_; case hy => (intro w hSw; (try dsimp only at hSw); go_simp; (try with_reducible rfl))) | (refine wpU_takeA (i := 4) (v := _) HOPS rfl (by kernel_rfl) (fun _ _ _ h => h) HCL (goes_not (by rfl)) ?_)
            try simp only [Act.put, List.getElem_toArray, List.getElem_cons_succ, List.getElem_cons_zero, List.setIfInBounds_toArray, List.set_cons_zero, List.set_cons_succ]
            first | (refine wpU_takeA (i := 5) (v := ?_) HOPS rfl (by kernel_rfl) (fun _ _ _ h => h) HCL (goes_read (by rfl) ?hy) ?_; case hy => (intro w hSw; (try dsimp only at hSw); go_simp; (try with_reducible rfl))) | (refine wpU_takeA (i := 5) (v := _) HOPS rfl (by kernel_rfl) (fun _ _ _ h => h) HCL (goes_not (by rfl)) ?_)
            try simp only [Act.put, List.getElem_toArray, List.getElem_cons_succ, List.getElem_cons_zero, List.setIfInBounds_toArray, List.set_cons_zero, List.set_cons_succ]
            refine wpU_takeA (i := 6) HOPS rfl (by kernel_rfl) (fun _ _ _ h => h) HCL (goes_fn (v := (.string IT_2)) 27 _ _ _ #[.int .i64 y] (by rfl) rfl (by kernel_rfl) (by kernel_rfl) (by kernel_rfl) (fun wq n R hR => ?_)) ?_
            · exact itoa_any y _ _ (HKW.out.kept n (fun _ _ e => e)) HY.out (by rw [HIT_2.out]; exact hR)
            try simp only [Act.put, List.getElem_toArray, List.getElem_cons_succ, List.getElem_cons_zero, List.setIfInBounds_toArray, List.set_cons_zero, List.set_cons_succ]
            refine wpU_takeB (i := 7) HOPS rfl (by kernel_rfl) (fun _ _ _ h => h) HCL (goes_cat _ _ _ _ _ _ _ _ (by rfl) rfl (by rfl) (by rfl) (by show (#[(32 : UInt8)] : Array UInt8).size ≤ 1; exact Nat.le_refl 1) itl_2.out (by decide)) ?_
            try simp only [Act.put, List.getElem_toArray, List.getElem_cons_succ, List.getElem_cons_zero, List.setIfInBounds_toArray, List.set_cons_zero, List.set_cons_succ]
            refine wpU_takeB (i := 8) HOPS rfl (by kernel_rfl) (fun _ _ _ h => h) HCL (goes_cat _ _ _ _ _ _ _ _ (by rfl) rfl (by rfl) (by rfl) pvl_2.out itl2_2.out (by decide)) ?_
            try simp only [Act.put, List.getElem_toArray, List.getElem_cons_succ, List.getElem_cons_zero, List.setIfInBounds_toArray, List.set_cons_zero, List.set_cons_succ]
            first | (refine wpU_takeA (i := 9) (v := ?_) HOPS rfl (by kernel_rfl) (fun _ _ _ h => h) HCL (goes_read (by rfl) ?hy) ?_; case hy => (intro w hSw; (try dsimp only at hSw); go_simp; (try with_reducible rfl))) | (refine wpU_takeA (i := 9) (v := _) HOPS rfl (by kernel_rfl) (fun _ _ _ h => h) HCL (goes_not (by rfl)) ?_)
            try simp only [Act.put, List.getElem_toArray, List.getElem_cons_succ, List.getElem_cons_zero, List.setIfInBounds_toArray, List.set_cons_zero, List.set_cons_succ]
            refine wpU_ready (rs := [10]) (by kernel_rfl) (by simp) ?_
            intro w14 hle
            obtain ⟨n, hHeld⟩ := hle.ahead (by kernel_rfl)
            clear hle
            replace HROW := Lib.hid (n.heap HROW.out id)
            replace HN := Lib.hid (HN.out.trans n)
            replace HKW := Lib.hid (HKW.out.kept n (fun _ _ e => e))
            replace LW := Nat.lt_of_lt_of_le LW n.size
            replace HOB := Lib.hid (n.heap HOB.out id)
            replace HKB := Lib.hid (n.heap HKB.out id)
            replace LK := Nat.lt_of_lt_of_le LK n.size
            replace r0 := Lib.hid (n.cell r0.out id)
            clear n
            refine ReadyU.last HOPS rfl (by rfl) (by kernel_rfl) (fun K hK => ?_) ReadyU.nil
            have e1 : w14.cell? ⟨w.heap.size, k, none⟩ = some (.string W2) := r0.out
            have e1f : w14.frozen? ⟨w.heap.size, k, none⟩ = false := frozen_of HROW.out
            go_simp
            refine hK.out _ _ ?_
            clear hK K e1 e1f
            try simp only [Act.put, List.getElem_toArray, List.getElem_cons_succ, List.getElem_cons_zero, List.setIfInBounds_toArray, List.set_cons_zero, List.set_cons_succ]
            clear r0
            refine wpU_named ?_
            intro W15 hW
            have cc : Ch (· = w.heap.size) w14 W15 := by rw [hW]; exact (Ch.refl (· = w.heap.size) w14).setb (fun _ => rfl) _
            have nb := Lib.hid (show W15.heap[w.heap.size]? = some (.cells ((((lineC L L.length k).set k (.string WD)).set k (.string W2)).set k (.string (W2 ++ ((⟨#[32]⟩ : ByteArray) ++ IT_2)))).toArray 9 (0, 0)) from by rw [hW]; exact row_set HROW.out k _)
            clear hW
            replace HROW := Lib.hid (nb.out)
            replace HN := Lib.hid (HN.out.trans' cc (fun j hj e => by have e' : j = w.heap.size := e; omega))
            replace HKW := Lib.hid (HKW.out.kept cc (fun k hk e => by have e' : k = w.heap.size := e; have := HK.out.sz; omega))
            replace LW := Nat.lt_of_lt_of_le LW cc.size
            replace HOB := Lib.hid (cc.heap HOB.out (by show w0.heap.size ≠ w.heap.size; omega))
            replace HKB := Lib.hid (cc.heap HKB.out (by show w4.heap.size ≠ w.heap.size; omega))
            replace LK := Nat.lt_of_lt_of_le LK cc.size
            clear nb cc
            refine wpU_done (by kernel_rfl) (fun w16 hle => ?_) _
            rw [hle.behind (by kernel_rfl)]
            clear HOPS HCL hle
            repeat clear hHeld
            go_wp2_with (fail)
            have ex := lineC_set hlt rfl HQ.out
            have HST := Lib.hid (show (((lineC L L.length k).set k (.string WD)).set k (.string W2)).set k (.string (W2 ++ ((⟨#[32]⟩ : ByteArray) ++ IT_2))) = lineC L L.length (k + 1) from by rw [← ex]; rw [List.set_set, List.set_set, HS2.out, ← HIT_2.out, show (⟨#[32]⟩ : ByteArray) = ⟨([32] : List UInt8).toArray⟩ from rfl, str_app3, str_app3, show textW ((cn : Int), x, y) = wordB (cn : Int) ++ 32 :: Lib.itoa x ++ ([32] ++ Lib.itoa y) from by unfold textW; simp only [HUN.out, HUM.out]; (try simp)])
            rw [HST.out] at HROW
            clear ex
            refine ⟨⟨k + 1, by go_num, by omega, Lib.hid (formed_take HFM.out HQ.out HF.out), HROW, HN⟩, by simp [intOf]; omega⟩
      · as_aux_lemma =>
        rw [decide_eq_false hf]
        have e9 := formed_not HQ.out hf
        go_wp2
        have h9 := HR.out _ HN.out
        rw [e9] at h9
        exact h9
    · as_aux_lemma =>
      obtain rfl : k = L.length := by omega
      have k1 : ¬ (L.length : Int) < (L.length : Int) := by omega
      have hfm := HFM.out
      rw [List.take_length] at hfm
      have hrow := HROW.out
      rw [lineC_all] at hrow
      go_wp2_with (go_at_call 28; fail)
      have hxs : (L.map fun o => (⟨(textW o).toArray⟩ : ByteArray)).length = L.length := List.length_map _
      have hmm : (L.map fun o => (⟨(textW o).toArray⟩ : ByteArray)).map (·.data.toList) = L.map textW := by rw [List.map_map]; congr 1
      have hj := Tryz.strings_Join w.heap.size 0 L.length (L.map fun o => (⟨(textW o).toArray⟩ : ByteArray)) ⟨#[59, 32]⟩ w0 (fun j x hj => by rw [Nat.zero_add, cell_of hrow]; rw [List.getElem?_map] at hj; obtain ⟨q, hq, rfl⟩ := Option.map_eq_some_iff.1 hj; simp [hq]) (lt_of_heap hrow) (by rw [hxs]; omega) (by rw [hxs]; exact Nat.le_refl _) (by rw [hmm]; exact Nat.le_trans (join_le (fun x hx => by obtain ⟨q, hq, rfl⟩ := List.mem_map.1 hx; exact textW_len (HNM.out q hq)) (by rw [List.length_map]; exact h64)) (by omega))
      rw [hxs, hmm] at hj
      refine hj.mono ?_
      rintro e w' ⟨rfl, hb⟩
      have ht : textM L = Lib.join (L.map textW) (⟨#[59, 32]⟩ : ByteArray).data.toList := textM_formed hfm
      go_wp2
      have h9 := HR.out w' (HN.out.trans (nw_below hb))
      rw [ht] at h9
      exact h9

end Go.Proofs.YtdpbdcaefdcooaaGreatDoor
