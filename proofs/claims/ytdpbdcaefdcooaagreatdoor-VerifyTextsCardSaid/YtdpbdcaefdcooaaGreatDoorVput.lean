/-
  ref08.Put: a number is put into a row.
-/
import Derived.Test.YtdpbdcaefdcooaaGreatDoorIRo
import Derived.Test.YtdpbdcaefdcooaaGreatDoorRegI
import Derived.Test.YtdpbdcaefdcooaaGreatDoorVs
import Derived.Below
import Derived.Deep.Cut
namespace Go.Proofs.YtdpbdcaefdcooaaGreatDoor
open Go.RowKit
set_option linter.unusedVariables false
set_option linter.unusedSimpArgs false
set_option maxRecDepth 100000

theorem drop_at {l : List Int} {k : Nat} {x : Int} (h : l[k]? = some x) : l.drop k = x :: l.drop (k + 1) := by
  obtain ⟨h1, h2⟩ := List.getElem?_eq_some_iff.1 h
  rw [List.drop_eq_getElem_cons h1, h2]
theorem putM_len (n : Int) : ∀ l : List Int, (putM n l).length ≤ l.length + 1
  | [] => by simp [putM]
  | x :: l => by
    have := putM_len n l
    unfold putM
    split
    · simp
    · split <;> simp <;> omega
/-- What is still to come. -/
def putRest (n : Int) (l : List Int) (k : Nat) : Bool → List Int
  | true => l.drop k
  | false => putM n (l.drop k)

set_option maxHeartbeats 4000000 in
theorem put_any (l : List Int) (n : Int) (lo : Nat) (v : Value) (w : World) (R : Ending → World → Prop) (h : IsC w lo v l.length 1 (l.map (Value.int .i64))) (hl : l.length ≤ 900000)
    (hR : ∀ w' v', IRow w' w.heap.size v' (putM n l).length (putM n l) → Nw w w' → R (.returned v') w') : Calls Tryz.prog 25 #[v, .int .i64 n] w R := by
  have HR := Lib.hid hR
  clear hR
  have HC := Lib.hid h
  obtain ⟨A1, c1, rfl⟩ : ∃ A c, v = .slice A l.length c := by obtain ⟨A, c, e, -⟩ := HC.out; exact ⟨A, c, e⟩
  clear h
  go_enter Tryz.func25, Tryz.ntmps25
  go_wp2_with (fail)
  go_loopw [5, 6, 7] (fun s5 s6 s7 wr => ∃ (k m : Nat) (b : Bool) (out : List Int), s7 = .int .i64 k ∧ s6 = .bool b ∧ k ≤ l.length ∧ m ≤ k + b.toNat ∧ Hid (out ++ putRest n l k b = putM n l) ∧ Hid (IRow wr w.heap.size s5 m out) ∧ Hid (Nw w wr)) (fun _ _ s7 _ => l.length - (intOf s7).toNat)
  case atStart => exact ⟨0, 0, false, [], rfl, rfl, Nat.zero_le _, Nat.zero_le _, Lib.hid rfl, Lib.hid (IRow.nil _ _), Lib.hid (Ch.refl _ _)⟩
  case round =>
    obtain ⟨k, m, b, out, rfl, rfl, hk, hm, HE, HI, HN⟩ := hrel
    obtain ⟨A, c, rfl⟩ := HI.out.form
    have k0 : (0 : Int) ≤ (k : Int) := by omega
    have hw : w.heap.size ≤ wr.heap.size := HN.out.size
    have sl := HI.out.len
    have hm1 : m ≤ k + 1 := Nat.le_trans hm (by cases b <;> simp)
    by_cases hlt : k < l.length
    · as_aux_lemma =>
      have k1 : (k : Int) < (l.length : Int) := by omega
      obtain ⟨x, hx⟩ : ∃ x, l[k]? = some x := ⟨_, List.getElem?_eq_getElem hlt⟩
      have hd := drop_at hx
      have HX := Lib.hid (show l[k]'hlt = x from (List.getElem?_eq_some_iff.1 hx).2)
      obtain ⟨A', c', e1, -, -, hat⟩ := HC.out.kept HN.out nof
      cases e1
      obtain ⟨g, -, rfl, hc⟩ := hat k (.int .i64 x) (by rw [List.getElem?_map, hx]; rfl)
      have he := HE.out
      clear hat hx
      cases b with
      | true => as_aux_lemma =>
        simp only [putRest] at he
        rw [hd] at he
        have HEE := Lib.hid he
        clear he hd
        skip
        go_upto_region 9 with (fail)
        refine wp_region_lit ?_
        refine wpList_plain rfl fun K hK => ?_
        go_simp
        refine hK _ _ ?_
        clear hK K
        try simp only [Act.put, List.getElem_toArray, List.getElem_cons_succ, List.getElem_cons_zero, List.setIfInBounds_toArray, List.set_cons_zero, List.set_cons_succ]
        refine wpList_plain rfl fun K hK => ?_
        go_simp
        refine hK _ _ ?_
        clear hK K
        try simp only [Act.put, List.getElem_toArray, List.getElem_cons_succ, List.getElem_cons_zero, List.setIfInBounds_toArray, List.set_cons_zero, List.set_cons_succ]
        refine wpList_plain rfl fun K hK => ?_
        go_simp
        refine hK _ _ ?_
        clear hK K
        try simp only [Act.put, List.getElem_toArray, List.getElem_cons_succ, List.getElem_cons_zero, List.setIfInBounds_toArray, List.set_cons_zero, List.set_cons_succ]
        refine wpList_plain rfl fun K hK => ?_
        go_simp
        refine hK _ _ ?_
        clear hK K
        try simp only [Act.put, List.getElem_toArray, List.getElem_cons_succ, List.getElem_cons_zero, List.setIfInBounds_toArray, List.set_cons_zero, List.set_cons_succ]
        refine wpList_plain rfl fun K hK => ?_
        go_simp
        refine hK _ _ ?_
        clear hK K
        try simp only [Act.put, List.getElem_toArray, List.getElem_cons_succ, List.getElem_cons_zero, List.setIfInBounds_toArray, List.set_cons_zero, List.set_cons_succ]
        refine wpList_plain rfl fun K hK => ?_
        go_simp
        refine hK _ _ ?_
        clear hK K
        try simp only [Act.put, List.getElem_toArray, List.getElem_cons_succ, List.getElem_cons_zero, List.setIfInBounds_toArray, List.set_cons_zero, List.set_cons_succ]
        refine wpList_plain rfl fun K hK => ?_
        refine app_int9 _ (.tmp 37) (.tmp 42) rfl w.heap.size (.slice A (m) c) (m) _ (by rfl) (HI.out.ch ((Ch.refl (fun _ => False) _).alloc _) (fun _ _ e => e)) _ (x) (by rfl) (heap_alloc_eq _ rfl) (by omega) (by rw [alloc_size]; omega) ?_
        intro g9 c9 w9 hr9 hg9
        have HI9 := Lib.hid hr9
        have HN9 := Lib.hid ((HN.out.alloc _).grown hg9 (fun j e hj => by have := (HI.out.lt j e).1; omega))
        have zw9 : w.heap.size ≤ w9.heap.size := HN9.out.size
        clear hr9 hg9
        refine hK _ _ ?_
        clear hK K
        try simp only [Act.put, List.getElem_toArray, List.getElem_cons_succ, List.getElem_cons_zero, List.setIfInBounds_toArray, List.set_cons_zero, List.set_cons_succ]
        go_wp2_with (fail)
        exact ⟨⟨k + 1, m + 1, true, out ++ [x], by go_num, rfl, by omega, by (try simp only [Bool.toNat_true, Bool.toNat_false] at *); omega, Lib.hid (by simp only [putRest]; rw [← HEE.out]; simp), HI9, HN9⟩, by simp [intOf]; omega⟩
      | false =>
        simp only [putRest] at he
        rw [hd, putM] at he
        have hcmp : n < x ∨ x = n ∨ (x < n) := by omega
        rcases hcmp with hlx | hlx | hlx
        · as_aux_lemma =>
          rw [if_pos hlx] at he
          have HEE := Lib.hid he
          have q1 : x > n := hlx
          have q2 : x ≥ n := by omega
          clear he hd
          have hcH := Lib.hid hc
          skip
          go_upto_region 7 with (fail)
          refine wp_region_lit ?_
          refine wpList_plain rfl fun K hK => ?_
          go_simp
          refine hK _ _ ?_
          clear hK K
          try simp only [Act.put, List.getElem_toArray, List.getElem_cons_succ, List.getElem_cons_zero, List.setIfInBounds_toArray, List.set_cons_zero, List.set_cons_succ]
          refine wpList_plain rfl fun K hK => ?_
          go_simp
          refine hK _ _ ?_
          clear hK K
          try simp only [Act.put, List.getElem_toArray, List.getElem_cons_succ, List.getElem_cons_zero, List.setIfInBounds_toArray, List.set_cons_zero, List.set_cons_succ]
          refine wpList_plain rfl fun K hK => ?_
          go_simp
          refine hK _ _ ?_
          clear hK K
          try simp only [Act.put, List.getElem_toArray, List.getElem_cons_succ, List.getElem_cons_zero, List.setIfInBounds_toArray, List.set_cons_zero, List.set_cons_succ]
          refine wpList_plain rfl fun K hK => ?_
          refine app_int9 _ (.tmp 24) (.tmp 26) rfl w.heap.size (.slice A (m) c) (m) _ (by rfl) (HI.out.ch ((Ch.refl (fun _ => False) _).alloc _) (fun _ _ e => e)) _ (n) (by rfl) (heap_alloc_eq _ rfl) (by omega) (by rw [alloc_size]; omega) ?_
          intro g8 c8 w8 hr8 hg8
          have HI8 := Lib.hid hr8
          have HN8 := Lib.hid ((HN.out.alloc _).grown hg8 (fun j e hj => by have := (HI.out.lt j e).1; omega))
          have zw8 : w.heap.size ≤ w8.heap.size := HN8.out.size
          clear hr8 hg8
          refine hK _ _ ?_
          clear hK K
          try simp only [Act.put, List.getElem_toArray, List.getElem_cons_succ, List.getElem_cons_zero, List.setIfInBounds_toArray, List.set_cons_zero, List.set_cons_succ]
          have sl8 := HI8.out.len
          clear hc
          have hc8 : w8.cell? ⟨g, k, none⟩ = some (.int .i64 x) := by obtain ⟨A', c', e1, -, -, hat⟩ := HC.out.kept HN8.out nof; cases e1; obtain ⟨g', -, e2, hc⟩ := hat k (.int .i64 x) (by rw [List.getElem?_map, List.getElem?_eq_getElem hlt]; exact congrArg some (congrArg (Value.int .i64) HX.out)); cases e2; exact hc
          clear hcH
          go_upto_region 9 with (fail)
          refine wp_region_lit ?_
          refine wpList_plain rfl fun K hK => ?_
          go_simp
          refine hK _ _ ?_
          clear hK K
          try simp only [Act.put, List.getElem_toArray, List.getElem_cons_succ, List.getElem_cons_zero, List.setIfInBounds_toArray, List.set_cons_zero, List.set_cons_succ]
          refine wpList_plain rfl fun K hK => ?_
          go_simp
          refine hK _ _ ?_
          clear hK K
          try simp only [Act.put, List.getElem_toArray, List.getElem_cons_succ, List.getElem_cons_zero, List.setIfInBounds_toArray, List.set_cons_zero, List.set_cons_succ]
          refine wpList_plain rfl fun K hK => ?_
          go_simp
          refine hK _ _ ?_
          clear hK K
          try simp only [Act.put, List.getElem_toArray, List.getElem_cons_succ, List.getElem_cons_zero, List.setIfInBounds_toArray, List.set_cons_zero, List.set_cons_succ]
          refine wpList_plain rfl fun K hK => ?_
          go_simp
          refine hK _ _ ?_
          clear hK K
          try simp only [Act.put, List.getElem_toArray, List.getElem_cons_succ, List.getElem_cons_zero, List.setIfInBounds_toArray, List.set_cons_zero, List.set_cons_succ]
          refine wpList_plain rfl fun K hK => ?_
          go_simp
          refine hK _ _ ?_
          clear hK K
          try simp only [Act.put, List.getElem_toArray, List.getElem_cons_succ, List.getElem_cons_zero, List.setIfInBounds_toArray, List.set_cons_zero, List.set_cons_succ]
          refine wpList_plain rfl fun K hK => ?_
          go_simp
          refine hK _ _ ?_
          clear hK K
          try simp only [Act.put, List.getElem_toArray, List.getElem_cons_succ, List.getElem_cons_zero, List.setIfInBounds_toArray, List.set_cons_zero, List.set_cons_succ]
          refine wpList_plain rfl fun K hK => ?_
          refine app_int9 _ (.tmp 37) (.tmp 42) rfl w.heap.size (.slice (some ⟨g8, 0, none⟩) (m + 1) c8) (m + 1) _ (by rfl) (HI8.out.ch ((Ch.refl (fun _ => False) _).alloc _) (fun _ _ e => e)) _ (x) (by rfl) (heap_alloc_eq _ rfl) (by omega) (by rw [alloc_size]; omega) ?_
          intro g9 c9 w9 hr9 hg9
          have HI9 := Lib.hid hr9
          have HN9 := Lib.hid ((HN8.out.alloc _).grown hg9 (fun j e hj => by have := (HI8.out.lt j e).1; omega))
          have zw9 : w.heap.size ≤ w9.heap.size := HN9.out.size
          clear hr9 hg9
          refine hK _ _ ?_
          clear hK K
          try simp only [Act.put, List.getElem_toArray, List.getElem_cons_succ, List.getElem_cons_zero, List.setIfInBounds_toArray, List.set_cons_zero, List.set_cons_succ]
          go_wp2_with (fail)
          exact ⟨⟨k + 1, m + 1 + 1, true, out ++ [n] ++ [x], by go_num, rfl, by omega, by (try simp only [Bool.toNat_true, Bool.toNat_false] at *); omega, Lib.hid (by simp only [putRest]; rw [← HEE.out]; simp), HI9, HN9⟩, by simp [intOf]; omega⟩
        · as_aux_lemma =>
          rw [if_neg (by omega), if_pos hlx] at he
          have q1 : ¬ x > n := by omega
          have q2 : x ≥ n := by omega
          have HEE := Lib.hid he
          clear he hd hlx
          skip
          go_upto_region 9 with (fail)
          refine wp_region_lit ?_
          refine wpList_plain rfl fun K hK => ?_
          go_simp
          refine hK _ _ ?_
          clear hK K
          try simp only [Act.put, List.getElem_toArray, List.getElem_cons_succ, List.getElem_cons_zero, List.setIfInBounds_toArray, List.set_cons_zero, List.set_cons_succ]
          refine wpList_plain rfl fun K hK => ?_
          go_simp
          refine hK _ _ ?_
          clear hK K
          try simp only [Act.put, List.getElem_toArray, List.getElem_cons_succ, List.getElem_cons_zero, List.setIfInBounds_toArray, List.set_cons_zero, List.set_cons_succ]
          refine wpList_plain rfl fun K hK => ?_
          go_simp
          refine hK _ _ ?_
          clear hK K
          try simp only [Act.put, List.getElem_toArray, List.getElem_cons_succ, List.getElem_cons_zero, List.setIfInBounds_toArray, List.set_cons_zero, List.set_cons_succ]
          refine wpList_plain rfl fun K hK => ?_
          go_simp
          refine hK _ _ ?_
          clear hK K
          try simp only [Act.put, List.getElem_toArray, List.getElem_cons_succ, List.getElem_cons_zero, List.setIfInBounds_toArray, List.set_cons_zero, List.set_cons_succ]
          refine wpList_plain rfl fun K hK => ?_
          go_simp
          refine hK _ _ ?_
          clear hK K
          try simp only [Act.put, List.getElem_toArray, List.getElem_cons_succ, List.getElem_cons_zero, List.setIfInBounds_toArray, List.set_cons_zero, List.set_cons_succ]
          refine wpList_plain rfl fun K hK => ?_
          go_simp
          refine hK _ _ ?_
          clear hK K
          try simp only [Act.put, List.getElem_toArray, List.getElem_cons_succ, List.getElem_cons_zero, List.setIfInBounds_toArray, List.set_cons_zero, List.set_cons_succ]
          refine wpList_plain rfl fun K hK => ?_
          refine app_int9 _ (.tmp 37) (.tmp 42) rfl w.heap.size (.slice A (m) c) (m) _ (by rfl) (HI.out.ch ((Ch.refl (fun _ => False) _).alloc _) (fun _ _ e => e)) _ (x) (by rfl) (heap_alloc_eq _ rfl) (by omega) (by rw [alloc_size]; omega) ?_
          intro g9 c9 w9 hr9 hg9
          have HI9 := Lib.hid hr9
          have HN9 := Lib.hid ((HN.out.alloc _).grown hg9 (fun j e hj => by have := (HI.out.lt j e).1; omega))
          have zw9 : w.heap.size ≤ w9.heap.size := HN9.out.size
          clear hr9 hg9
          refine hK _ _ ?_
          clear hK K
          try simp only [Act.put, List.getElem_toArray, List.getElem_cons_succ, List.getElem_cons_zero, List.setIfInBounds_toArray, List.set_cons_zero, List.set_cons_succ]
          go_wp2_with (fail)
          exact ⟨⟨k + 1, m + 1, true, out ++ [x], by go_num, rfl, by omega, by (try simp only [Bool.toNat_true, Bool.toNat_false] at *); omega, Lib.hid (by simp only [putRest]; rw [← HEE.out]; simp), HI9, HN9⟩, by simp [intOf]; omega⟩
        · as_aux_lemma =>
          rw [if_neg (by omega), if_neg (by omega)] at he
          have q1 : ¬ x > n := by omega
          have q2 : ¬ x ≥ n := by omega
          have HEE := Lib.hid he
          clear he hd hlx
          skip
          go_upto_region 9 with (fail)
          refine wp_region_lit ?_
          refine wpList_plain rfl fun K hK => ?_
          go_simp
          refine hK _ _ ?_
          clear hK K
          try simp only [Act.put, List.getElem_toArray, List.getElem_cons_succ, List.getElem_cons_zero, List.setIfInBounds_toArray, List.set_cons_zero, List.set_cons_succ]
          refine wpList_plain rfl fun K hK => ?_
          go_simp
          refine hK _ _ ?_
          clear hK K
          try simp only [Act.put, List.getElem_toArray, List.getElem_cons_succ, List.getElem_cons_zero, List.setIfInBounds_toArray, List.set_cons_zero, List.set_cons_succ]
          refine wpList_plain rfl fun K hK => ?_
          go_simp
          refine hK _ _ ?_
          clear hK K
          try simp only [Act.put, List.getElem_toArray, List.getElem_cons_succ, List.getElem_cons_zero, List.setIfInBounds_toArray, List.set_cons_zero, List.set_cons_succ]
          refine wpList_plain rfl fun K hK => ?_
          go_simp
          refine hK _ _ ?_
          clear hK K
          try simp only [Act.put, List.getElem_toArray, List.getElem_cons_succ, List.getElem_cons_zero, List.setIfInBounds_toArray, List.set_cons_zero, List.set_cons_succ]
          refine wpList_plain rfl fun K hK => ?_
          go_simp
          refine hK _ _ ?_
          clear hK K
          try simp only [Act.put, List.getElem_toArray, List.getElem_cons_succ, List.getElem_cons_zero, List.setIfInBounds_toArray, List.set_cons_zero, List.set_cons_succ]
          refine wpList_plain rfl fun K hK => ?_
          go_simp
          refine hK _ _ ?_
          clear hK K
          try simp only [Act.put, List.getElem_toArray, List.getElem_cons_succ, List.getElem_cons_zero, List.setIfInBounds_toArray, List.set_cons_zero, List.set_cons_succ]
          refine wpList_plain rfl fun K hK => ?_
          refine app_int9 _ (.tmp 37) (.tmp 42) rfl w.heap.size (.slice A (m) c) (m) _ (by rfl) (HI.out.ch ((Ch.refl (fun _ => False) _).alloc _) (fun _ _ e => e)) _ (x) (by rfl) (heap_alloc_eq _ rfl) (by omega) (by rw [alloc_size]; omega) ?_
          intro g9 c9 w9 hr9 hg9
          have HI9 := Lib.hid hr9
          have HN9 := Lib.hid ((HN.out.alloc _).grown hg9 (fun j e hj => by have := (HI.out.lt j e).1; omega))
          have zw9 : w.heap.size ≤ w9.heap.size := HN9.out.size
          clear hr9 hg9
          refine hK _ _ ?_
          clear hK K
          try simp only [Act.put, List.getElem_toArray, List.getElem_cons_succ, List.getElem_cons_zero, List.setIfInBounds_toArray, List.set_cons_zero, List.set_cons_succ]
          go_wp2_with (fail)
          exact ⟨⟨k + 1, m + 1, false, out ++ [x], by go_num, rfl, by omega, by (try simp only [Bool.toNat_true, Bool.toNat_false] at *); omega, Lib.hid (by simp only [putRest]; rw [← HEE.out]; simp), HI9, HN9⟩, by simp [intOf]; omega⟩
    · as_aux_lemma =>
      have k1 : ¬ (k : Int) < (l.length : Int) := by omega
      have he := HE.out
      obtain rfl : k = l.length := by omega
      cases b with
      | true => as_aux_lemma =>
        simp only [putRest, List.drop_length, List.append_nil] at he
        subst he
        have hmm : m = (putM n l).length := sl.symm
        subst hmm
        go_wp2
        exact HR.out _ _ HI.out HN.out
      | false => as_aux_lemma =>
        simp only [putRest, List.drop_length, putM] at he
        have HEE := Lib.hid he
        clear he
        skip
        go_upto_region 11 with (fail)
        refine wp_region_lit ?_
        refine wpList_plain rfl fun K hK => ?_
        go_simp
        refine hK _ _ ?_
        clear hK K
        try simp only [Act.put, List.getElem_toArray, List.getElem_cons_succ, List.getElem_cons_zero, List.setIfInBounds_toArray, List.set_cons_zero, List.set_cons_succ]
        refine wpList_plain rfl fun K hK => ?_
        go_simp
        refine hK _ _ ?_
        clear hK K
        try simp only [Act.put, List.getElem_toArray, List.getElem_cons_succ, List.getElem_cons_zero, List.setIfInBounds_toArray, List.set_cons_zero, List.set_cons_succ]
        refine wpList_plain rfl fun K hK => ?_
        go_simp
        refine hK _ _ ?_
        clear hK K
        try simp only [Act.put, List.getElem_toArray, List.getElem_cons_succ, List.getElem_cons_zero, List.setIfInBounds_toArray, List.set_cons_zero, List.set_cons_succ]
        refine wpList_plain rfl fun K hK => ?_
        refine app_int9 _ (.tmp 46) (.tmp 48) rfl w.heap.size (.slice A (m) c) (m) _ (by rfl) (HI.out.ch ((Ch.refl (fun _ => False) _).alloc _) (fun _ _ e => e)) _ (n) (by rfl) (heap_alloc_eq _ rfl) (by omega) (by rw [alloc_size]; omega) ?_
        intro g9 c9 w9 hr9 hg9
        have HI9 := Lib.hid hr9
        have HN9 := Lib.hid ((HN.out.alloc _).grown hg9 (fun j e hj => by have := (HI.out.lt j e).1; omega))
        have zw9 : w.heap.size ≤ w9.heap.size := HN9.out.size
        clear hr9 hg9
        refine hK _ _ ?_
        clear hK K
        try simp only [Act.put, List.getElem_toArray, List.getElem_cons_succ, List.getElem_cons_zero, List.setIfInBounds_toArray, List.set_cons_zero, List.set_cons_succ]
        go_wp2_with (fail)
        have sl9 := HI9.out.len
        have h9 := HR.out w9 (.slice (some ⟨g9, 0, none⟩) (m + 1) c9)
        rw [← HEE.out] at h9
        rw [sl9] at h9
        exact h9 HI9.out HN9.out

end Go.Proofs.YtdpbdcaefdcooaaGreatDoor
