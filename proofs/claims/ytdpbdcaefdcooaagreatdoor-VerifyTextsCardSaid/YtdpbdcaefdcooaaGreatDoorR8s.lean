/-
  ref08.split: a string cut at each separator.
-/
import Derived.Test.YtdpbdcaefdcooaaGreatDoorR8t
import Derived.Test.YtdpbdcaefdcooaaGreatDoorCRow
import Derived.Below
import Derived.Deep.Cut

namespace Go.Proofs.YtdpbdcaefdcooaaGreatDoor
open Go.RowKit
set_option linter.unusedVariables false
set_option linter.unusedSimpArgs false
set_option maxRecDepth 100000

def strC (l : List (List UInt8)) : List Value := l.map fun x => Value.string ⟨x.toArray⟩
/-- The slice v has a block of its own, at or beyond B, and holds the strings l. -/
abbrev TRow (w : World) (B : Nat) (v : Value) (l : List (List UInt8)) : Prop := CRow w 9 1 B v l.length (strC l)
theorem app_str {o : Oper} {a : Act} {K : Act → World → Prop} {Q : Exit → Act → World → Prop} (w : World) (s x : Operand)
    (ho : o.op = .call { callee := .builtin .append, args := #[s, x], argTypes := #[63, 63] }) (B : Nat) (v : Value) (l : List (List UInt8)) (hs : a.eval s = v) (hown : TRow w B v l)
    (g0 : Nat) (y : ByteArray) (z : List UInt8) (hy : y = ⟨z.toArray⟩) (hx : a.eval x = .slice (some ⟨g0, 0, none⟩) 1 1) {fz : Nat × Nat} (hc : w.heap[g0]? = some (.cells #[.string y] 9 fz)) (hn : l.length ≤ 1000000) (hB : B ≤ w.heap.size)
    (h : ∀ v' w', TRow w' B v' (l ++ [z]) → w.grownBy w' v.ownBlock → K (a.put o.dst v') w') : o.wp Tryz.prog a w K Q := by
  subst hy
  refine wp_app w s x 63 9 1 16 ho Tryz.underlying63 (.string ⟨#[]⟩) (by kernel_rfl) rfl (by omega) (by omega) B v l.length _ hs hown g0 _ fz hx hc rfl (by intro u hu; simp at hu; subst hu; rfl) hn hB (fun g cap w' h1 h2 _ => h _ w' ?_ h2)
  have e : strC (l ++ [z]) = strC l ++ [.string ⟨z.toArray⟩] := by simp [strC]
  show CRow w' 9 1 B _ (l ++ [z]).length (strC (l ++ [z]))
  rw [e, List.length_append, List.length_singleton]
  exact h1
theorem ex_mid (s : ByteArray) (i j : Nat) : s.extract i j = ⟨((s.data.toList.drop i).take (j - i)).toArray⟩ := by
  apply ByteArray.ext
  apply Array.toList_inj.1
  rw [Lib.extract_data]
theorem ex_end (s : ByteArray) (i j : Nat) (h : j = s.size) : s.extract i j = ⟨(s.data.toList.drop i).toArray⟩ := by
  rw [ex_mid, List.take_of_length_le]
  rw [List.length_drop, h]
  exact Nat.le_of_eq (by rw [Array.length_toList]; rfl)
theorem occ_eq (s sep : ByteArray) (k : Nat) (h : k + sep.size ≤ s.size) : (s.extract k (k + sep.size) = sep) ↔ Lib.occAt s.data.toList sep.data.toList k = true := by
  have e1 : sep.data.toList.length = sep.size := by rw [Array.length_toList]; rfl
  have e2 : s.data.toList.length = s.size := by rw [Array.length_toList]; rfl
  rw [Lib.occAt_iff_take _ _ _ (by omega), beq_iff_eq, ex_mid, Nat.add_sub_cancel_left, e1]
  constructor
  · intro h; exact congrArg (fun z : ByteArray => z.data.toList) h
  · intro h; rw [h]

theorem bytes_ext {a b : ByteArray} (h : a.toList = b.toList) : a = b := by
  rw [ByteArray.toList_eq, ByteArray.toList_eq] at h
  exact ByteArray.ext (Array.toList_inj.1 h)
set_option maxHeartbeats 4000000 in
theorem rsplit_any (s sep : ByteArray) (w : World) (R : Ending → World → Prop) (hs : s.size ≤ 100000) (h1 : 1 ≤ sep.size) (h9 : sep.size ≤ 10)
    (hR : ∀ w' v, TRow w' w.heap.size v (Lib.split s.data.toList sep.data.toList) → Nw w w' → R (.returned v) w') : Calls Tryz.prog 35 #[.string s, .string sep] w R := by
  have HR := Lib.hid hR
  clear hR
  have HSP := Lib.hid (show sep.data.toList ≠ [] from fun e => by have e1 : sep.data.toList.length = sep.size := by rw [Array.length_toList]; rfl
                                                                  rw [e] at e1; simp at e1; omega)
  have seplen : sep.data.toList.length = sep.size := by rw [Array.length_toList]; rfl
  have slen : s.data.toList.length = s.size := by rw [Array.length_toList]; rfl
  go_enter Tryz.func35, Tryz.ntmps35
  go_wp2_with (fail)
  go_loopw [5, 6, 7] (fun s5 s6 s7 wr => ∃ (f k : Nat) (out : List (List UInt8)), s6 = .int .i64 f ∧ s7 = .int .i64 k ∧ f ≤ k ∧ f ≤ s.size ∧ k ≤ s.size + 1 ∧ out.length ≤ f ∧ Hid (∀ j, f ≤ j → j < k → Lib.occAt s.data.toList sep.data.toList j = false) ∧ Hid (out ++ Lib.split (s.data.toList.drop f) sep.data.toList = Lib.split s.data.toList sep.data.toList) ∧ Hid (TRow wr w.heap.size s5 out) ∧ Hid (Nw w wr)) (fun _ _ s7 _ => s.size + 2 - (intOf s7).toNat)
  case atStart => exact ⟨0, 0, [], rfl, rfl, Nat.le_refl _, Nat.zero_le _, Nat.zero_le _, Nat.le_refl _, Lib.hid (fun j _ hj => by omega), Lib.hid rfl, Lib.hid (CRow.nil _ _), Lib.hid (Ch.refl _ _)⟩
  case round =>
    obtain ⟨f, k, out, rfl, rfl, hfk, hfs, hks, hol, HNO, HE, HI, HN⟩ := hrel
    obtain ⟨A, c, rfl⟩ := HI.out.form
    have k0 : (0 : Int) ≤ (k : Int) := by omega
    have f0 : (0 : Int) ≤ (f : Int) := by omega
    have hw : w.heap.size ≤ wr.heap.size := HN.out.size
    by_cases hlt : k + sep.size ≤ s.size
    · as_aux_lemma =>
      obtain ⟨e, hke⟩ : ∃ e : Nat, (k : Int) + (sep.size : Int) = (e : Int) := ⟨k + sep.size, by omega⟩
      have k1 : (e : Int) ≤ (s.size : Int) := by omega
      have k2 : (k : Int) ≤ (s.size : Int) := by omega
      have k3 : (k : Int) ≤ (e : Int) := by omega
      have e0 : (0 : Int) ≤ (e : Int) := by omega
      have hke' : k + sep.size = e := by omega
      have fk : (f : Int) ≤ (k : Int) := by omega
      have ho := occ_eq s sep k hlt
      rw [hke'] at ho
      have HX := Lib.hid (ex_mid s f k)
      by_cases hoc : Lib.occAt s.data.toList sep.data.toList k = true
      · as_aux_lemma =>
        have he : ((s.extract k e).toList == sep.toList) = true := by rw [ho.2 hoc]; simp
        have HOC := Lib.hid hoc
        clear ho hoc
        go_upto_region 7 with (fail)
        refine wp_region_lit ?_
        refine wpList_plain rfl fun K hK => ?_
        go_simp
        refine hK _ _ ?_
        clear hK K
        try simp only [Act.put, List.getElem_toArray, List.getElem_cons_succ, List.getElem_cons_zero, List.setIfInBounds_toArray, List.set_cons_zero, List.set_cons_succ]
        refine wpList_plain rfl fun K hK => ?_
        go_simp
        refine hK _ _ ?_
        clear hK K
        try simp only [Act.put, List.getElem_toArray, List.getElem_cons_succ, List.getElem_cons_zero, List.setIfInBounds_toArray, List.set_cons_zero, List.set_cons_succ]
        refine wpList_plain rfl fun K hK => ?_
        go_simp
        refine hK _ _ ?_
        clear hK K
        try simp only [Act.put, List.getElem_toArray, List.getElem_cons_succ, List.getElem_cons_zero, List.setIfInBounds_toArray, List.set_cons_zero, List.set_cons_succ]
        refine wpList_plain rfl fun K hK => ?_
        go_simp
        refine hK _ _ ?_
        clear hK K
        try simp only [Act.put, List.getElem_toArray, List.getElem_cons_succ, List.getElem_cons_zero, List.setIfInBounds_toArray, List.set_cons_zero, List.set_cons_succ]
        refine wpList_plain rfl fun K hK => ?_
        go_simp
        refine hK _ _ ?_
        clear hK K
        try simp only [Act.put, List.getElem_toArray, List.getElem_cons_succ, List.getElem_cons_zero, List.setIfInBounds_toArray, List.set_cons_zero, List.set_cons_succ]
        refine wpList_plain rfl fun K hK => ?_
        go_simp
        refine hK _ _ ?_
        clear hK K
        try simp only [Act.put, List.getElem_toArray, List.getElem_cons_succ, List.getElem_cons_zero, List.setIfInBounds_toArray, List.set_cons_zero, List.set_cons_succ]
        refine wpList_plain rfl fun K hK => ?_
        refine app_str _ (.tmp 26) (.tmp 31) rfl w.heap.size (.slice A out.length c) out (by rfl) (HI.out.ch ((Ch.refl (fun _ => False) _).alloc _) (fun _ _ e => e)) _ _ _ HX.out (by rfl) (heap_alloc_eq _ rfl) (by omega) (by rw [alloc_size]; omega) ?_
        intro v9 w9 hr9 hg9
        have HI9 := Lib.hid hr9
        have HN9 := Lib.hid ((HN.out.alloc _).grown hg9 (fun j e hj => by have := (HI.out.lt j e).1; omega))
        clear hr9 hg9
        refine hK _ _ ?_
        clear hK K
        try simp only [Act.put, List.getElem_toArray, List.getElem_cons_succ, List.getElem_cons_zero, List.setIfInBounds_toArray, List.set_cons_zero, List.set_cons_succ]
        have hem : (e : Int) - 1 + 1 = (e : Int) := by omega
        go_wp2_with (fail)
        refine ⟨⟨e, e, out ++ [(s.data.toList.drop f).take (k - f)], rfl, by go_num, Nat.le_refl _, by omega, by omega, by rw [List.length_append, List.length_singleton]; omega, Lib.hid (fun j h1 h2 => by omega), Lib.hid ?_, HI9, HN9⟩, by simp [intOf]; omega⟩
        have hst := split_step HSP.out hfk HNO.out (by rw [seplen, slen]; omega) HOC.out
        rw [seplen, hke'] at hst
        rw [← HE.out, hst]
        simp
      · as_aux_lemma =>
        have he : ((s.extract k e).toList == sep.toList) = false := by
          rw [Bool.eq_false_iff]
          intro h
          exact hoc (ho.1 (bytes_ext (beq_iff_eq.1 h)))
        have HOC := Lib.hid hoc
        clear ho hoc
        go_wp2_with (fail)
        refine ⟨⟨f, k + 1, out, rfl, by go_num, by omega, by omega, by omega, by omega, Lib.hid (fun j h1 h2 => ?_), HE, HI, HN⟩, by simp [intOf]; omega⟩
        by_cases hj : j = k
        · rw [hj]; exact Bool.eq_false_iff.2 HOC.out
        · exact HNO.out j h1 (by omega)
    · as_aux_lemma =>
      have k1 : ¬ (k : Int) + (sep.size : Int) ≤ (s.size : Int) := by omega
      have fs : (f : Int) ≤ (s.size : Int) := by omega
      have HX := Lib.hid (ex_end s f s.size rfl)
      go_upto_region 10 with (fail)
      refine wp_region_lit ?_
      refine wpList_plain rfl fun K hK => ?_
      go_simp
      refine hK _ _ ?_
      clear hK K
      try simp only [Act.put, List.getElem_toArray, List.getElem_cons_succ, List.getElem_cons_zero, List.setIfInBounds_toArray, List.set_cons_zero, List.set_cons_succ]
      refine wpList_plain rfl fun K hK => ?_
      go_simp
      refine hK _ _ ?_
      clear hK K
      try simp only [Act.put, List.getElem_toArray, List.getElem_cons_succ, List.getElem_cons_zero, List.setIfInBounds_toArray, List.set_cons_zero, List.set_cons_succ]
      refine wpList_plain rfl fun K hK => ?_
      go_simp
      refine hK _ _ ?_
      clear hK K
      try simp only [Act.put, List.getElem_toArray, List.getElem_cons_succ, List.getElem_cons_zero, List.setIfInBounds_toArray, List.set_cons_zero, List.set_cons_succ]
      refine wpList_plain rfl fun K hK => ?_
      go_simp
      refine hK _ _ ?_
      clear hK K
      try simp only [Act.put, List.getElem_toArray, List.getElem_cons_succ, List.getElem_cons_zero, List.setIfInBounds_toArray, List.set_cons_zero, List.set_cons_succ]
      refine wpList_plain rfl fun K hK => ?_
      go_simp
      refine hK _ _ ?_
      clear hK K
      try simp only [Act.put, List.getElem_toArray, List.getElem_cons_succ, List.getElem_cons_zero, List.setIfInBounds_toArray, List.set_cons_zero, List.set_cons_succ]
      refine wpList_plain rfl fun K hK => ?_
      refine app_str _ (.tmp 39) (.tmp 43) rfl w.heap.size (.slice A out.length c) out (by rfl) (HI.out.ch ((Ch.refl (fun _ => False) _).alloc _) (fun _ _ e => e)) _ _ _ HX.out (by rfl) (heap_alloc_eq _ rfl) (by omega) (by rw [alloc_size]; omega) ?_
      intro v9 w9 hr9 hg9
      have HI9 := Lib.hid hr9
      have HN9 := Lib.hid ((HN.out.alloc _).grown hg9 (fun j e hj => by have := (HI.out.lt j e).1; omega))
      clear hr9 hg9
      refine hK _ _ ?_
      clear hK K
      try simp only [Act.put, List.getElem_toArray, List.getElem_cons_succ, List.getElem_cons_zero, List.setIfInBounds_toArray, List.set_cons_zero, List.set_cons_succ]
      go_wp2_with (fail)
      refine HR.out _ _ ?_ HN9.out
      have hst := split_end HSP.out HNO.out (by rw [seplen, slen]; omega)
      rw [← HE.out, hst]
      exact HI9.out
end Go.Proofs.YtdpbdcaefdcooaaGreatDoor
