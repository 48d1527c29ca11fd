/-
  strings.Builder: WriteRune at a rune of ASCII, String, on a builder that the call has made itself.
-/
import Derived.Test.YtaafmgkjfmngjaaDoorRow
import Derived.Test.YtaafmgkjfmngjaaDoorShelf
import Derived.Lib.Builder
import Derived.Lib.Walk
import Derived.Lib.UnsafeStr
import Derived.Laws.Externs
import Derived.StillTailTactics
namespace Go.Proofs.YtaafmgkjfmngjaaDoor
open Go.RowKit
set_option linter.unusedVariables false
set_option linter.unusedSimpArgs false
set_option maxRecDepth 100000

theorem sizeBuilder : (Tryd.prog.info? 79).map (·.size) = some 2 := by kernel_rfl
theorem liesBuilder : liesAt Tryd.prog Tryd.prog.depth 79 (2 / Tryd.prog.cellsOf 79) 0 79 1 = true := by kernel_rfl
theorem info_u8 : (Tryd.prog.info? 5).map (fun i => (i.zero, i.size, i.bytes)) = some (some (.int .u8 0), 1, 1) := by kernel_rfl
/-- The builder in block b holds the bytes l. -/
abbrev Bld (w : World) (B b : Nat) (l : List UInt8) : Prop := Lib.IsBuilder 79 5 B b (Lib.byteCells l) w

theorem copyCheck_used (b : Nat) (w : World) (R : Ending → World → Prop) (h0 : w.cell? ⟨b, 0, none⟩ = some (.pointer (some ⟨b, 0, none⟩))) (hR : R (.returned (.tuple #[])) w) :
    Calls Tryd.prog 50 #[.pointer (some ⟨b, 0, none⟩)] w R := by
  have HR := Lib.hid hR
  clear hR
  obtain ⟨j, hj, hjs⟩ := Option.map_eq_some_iff.1 sizeBuilder
  go_enter Tryd.func50, Tryd.ntmps50
  go_wp2
  rw [Lib.run_neq_ptr_same w _ Tryd.underlying76 hj]
  go_wp2
  go_end0
  exact HR.out
theorem copyCheck_fresh (b : Nat) (w : World) (R : Ending → World → Prop) (h0 : w.cell? ⟨b, 0, none⟩ = some (.pointer none)) (hsh : w.shape? b = some (79, 2)) (hfz : w.frozen? ⟨b, 0, none⟩ = false)
    (hR : R (.returned (.tuple #[])) (w.setCell ⟨b, 0, none⟩ (.pointer (some ⟨b, 0, none⟩)))) : Calls Tryd.prog 50 #[.pointer (some ⟨b, 0, none⟩)] w R := by
  have HR := Lib.hid hR
  clear hR
  obtain ⟨j, hj, hjs⟩ := Option.map_eq_some_iff.1 sizeBuilder
  go_enter Tryd.func50, Tryd.ntmps50
  go_wp2
  rw [Lib.run_to_unsafe w ⟨b, 0, none⟩ Tryd.underlying76 Tryd.underlying96 hj (by rw [hjs]; decide) hsh (Nat.zero_lt_succ 1)]
  simp only [Result.andThen]
  rw [Oper.upon_value]
  go_wp2
  rw [run_callFunc_extern Tryd.func59 (by kernel_rfl) (by kernel_rfl) (by kernel_rfl) (e := Extern.AbiNoEscape.same) (by kernel_rfl)]
  rw [Lib.run_noEscape]
  simp only [Result.andThen]
  rw [Oper.upon_value]
  go_wp2
  rw [Lib.run_from_unsafe w ⟨b, 0, none⟩ Tryd.underlying96 Tryd.underlying76 hj hsh liesBuilder]
  simp only [Result.andThen]
  rw [Oper.upon_value]
  go_wp2
  go_end0
  exact HR.out

theorem ret_e {R : Ending → World → Prop} {w : World} {a b : Value} (h : R (.returned b) w) (e : b = a) : R (.returned a) w := e ▸ h
theorem u8_lt (b : UInt8) : 0 ≤ (b.toNat : Int) ∧ (b.toNat : Int) ≤ 255 := by have := b.toNat_lt; omega
theorem ownsRow_ch8 {w w' : World} {F : Nat → Prop} {B n : Nat} {v : Value} {xs : List Value} (h : w.ownsRow B 5 1 v n xs) (hc : Ch F w w') (hF : ∀ k, v.ownBlock = some k → ¬ F k) : w'.ownsRow B 5 1 v n xs := by
  refine ⟨h.1, ?_⟩
  rcases h.2 with hn | ⟨g, cap, cur, rfl, hb, hgg, rest⟩
  · exact .inl hn
  · exact .inr ⟨g, cap, cur, rfl, hb, hc.heap hgg (hF g rfl), rest⟩
/-- One byte more is appended. -/
theorem app_u8 {ops : Array Oper} {rest : List Oper} {o : Oper} {a : Act} {Q : Exit → Act → World → Prop} (w : World) (hgd : o.guard = none) (s x : Operand)
    (ho : o.op = .call { callee := .builtin .append, args := #[s, x], argTypes := #[77, 77] }) (B : Nat) (v : Value) (n : Nat) (l : List UInt8) (hs : a.eval s = v) (hown : w.ownsRow B 5 1 v n (Lib.byteCells l))
    (g0 : Nat) (y : UInt8) (hx : a.eval x = .slice (some ⟨g0, 0, none⟩) 1 1) (hc : w.cell? ⟨g0, 0, none⟩ = some (.int .u8 y.toNat)) (hn : n ≤ 1000000) (hB : B ≤ w.heap.size)
    (h : ∀ g cap w', w'.ownsRow B 5 1 (.slice (some ⟨g, 0, none⟩) (n + 1) cap) (n + 1) (Lib.byteCells (l ++ [y])) → w.grownBy w' v.ownBlock → (v.ownBlock = some g ∨ g = w.heap.size) → wpList Tryd.prog ops Q rest (a.put o.dst (.slice (some ⟨g, 0, none⟩) (n + 1) cap)) w') : wpList Tryd.prog ops Q (o :: rest) a w := by
  obtain ⟨i, hi, hz, hs1, hb⟩ := info_parts info_u8
  refine wpList_append_lies w hgd s x 77 ho B 5 i _ 1 1 Tryd.underlying77 hi hz hs1 hb rfl (by omega) v n (Lib.byteCells l) hs hown ⟨g0, 0, none⟩ 1 1 [.int .u8 y.toNat] hx rfl ?_ ?_ (by omega) (by unfold maxLen; omega) (by omega) hB _ rfl ?_
  · intro j u hj
    have hadd : (⟨g0, 0, none⟩ : Addr).add j = ⟨g0, 0 + j, none⟩ := by unfold Addr.add; split <;> simp_all
    cases j with
    | zero => simp at hj; subst hj; rw [hadd]; exact hc
    | succ j => simp at hj
  · intro u hu; simp at hu; subst hu; rfl
  · intro g cap w' h1 h2 h3 h4
    exact h g cap w' (by unfold Lib.byteCells at h1 ⊢; rw [List.map_append]; exact h1) h2 h3
theorem bld_kept {w w' : World} {B b : Nat} {l : List UInt8} (h : Bld w B b l) (hc : Nw w w') : Bld w' B b l := by
  rcases h with ⟨h1, v, h2, h3, h4⟩ | ⟨h1, v, h2, h3, h4⟩
  · exact .inl ⟨h1, v, hc.heap h2 id, ownsRow_ch8 h3 hc (fun _ _ e => e), h4⟩
  · exact .inr ⟨h1, v, hc.heap h2 id, ownsRow_ch8 h3 hc (fun _ _ e => e), h4⟩
/-- WriteByte. -/
theorem WriteByte_any (B b : Nat) (l : List UInt8) (c : UInt8) (w : World) (R : Ending → World → Prop) (h : Bld w B b l) (hl : l.length ≤ 1000000)
    (hR : ∀ w', Bld w' B b (l ++ [c]) → Ch (fun j => B ≤ j) w w' → R (.returned .nilIface) w') : Calls Tryd.prog 44 #[.pointer (some ⟨b, 0, none⟩), .int .u8 c.toNat] w R := by
  have HR := Lib.hid hR
  clear hR
  have hchk : ∀ (R' : Ending → World → Prop), (∀ w' A cap, w'.heap[b]? = some (.cells #[.pointer (some ⟨b, 0, none⟩), .slice A l.length cap] 79 (0, 0)) → w'.ownsRow B 5 1 (.slice A l.length cap) l.length (Lib.byteCells l) → (Value.slice A l.length cap).ownBlock ≠ some b → Ch (fun j => B ≤ j) w w' → R' (.returned (.tuple #[])) w') → Calls Tryd.prog 50 #[.pointer (some ⟨b, 0, none⟩)] w R' := by
    intro R' hR'
    have key : ∀ {w' : World}, Lib.BuilderAt 79 5 B b (.pointer (some ⟨b, 0, none⟩)) (Lib.byteCells l) w' → Ch (fun j => B ≤ j) w w' → R' (.returned (.tuple #[])) w' := by
      intro w' ⟨hB, v, hb, hown, hne⟩ hc
      rw [Lib.byteCells_length] at hown
      obtain ⟨A, cap, rfl⟩ : ∃ A cap, v = .slice A l.length cap := by
        rcases hown.2 with ⟨h1, h2⟩ | ⟨g, cap, cur, h1, -⟩
        · exact ⟨none, 0, by rw [h2]; exact h1⟩
        · exact ⟨_, _, h1⟩
      exact hR' w' A cap hb hown hne hc
    rcases h with h | h
    · exact copyCheck_fresh b w R' h.cell0 h.shape h.frozen0 (key (h.used _) ((Ch.refl _ w).setb (fun _ => h.1) _))
    · exact copyCheck_used b w R' h.cell0 (key h (Ch.refl _ w))
  have hB : B ≤ b := by rcases h with h | h <;> exact h.1
  have HCHK := Lib.hid hchk
  clear hchk h
  obtain ⟨c0, c1⟩ := u8_lt c
  obtain ⟨i, hi, hz, hs1, hby⟩ := info_parts info_u8
  go_enter Tryd.func44, Tryd.ntmps44
  go_wp2_with (first | (go_at_call 50; refine HCHK.out _ ?_; intro w1 A cap hb hown hne hch; (have NE := Lib.hid hne); (have OW := Lib.hid hown); (have C1 := Lib.hid hch); (have HB := Lib.hid hb); (have k1 : w1.cell? ⟨b, 1, none⟩ = some (.slice A l.length cap) := by rw [cell_of hb]; rfl); (have f1 : w1.frozen? ⟨b, 1, none⟩ = false := frozen_of hb); (have b1 : b < w1.heap.size := lt_of_heap hb); clear hb hown hch hne) | go_in | (at_builtin; refine app_u8 _ rfl (.tmp 11) (.tmp 13) rfl B (.slice A l.length cap) l.length l (by rfl) (ownsRow_ch8 OW.out ((Ch.refl (fun _ => False) _).alloc _) (fun _ _ e => e)) _ c (by rfl) (cell_alloc_new rfl rfl) (by omega) (by rw [alloc_size]; omega) ?_))
  intro g cap2 w3 h1 h2 h3
  have O3 := Lib.hid h1
  have HB3 := Lib.hid (show w3.heap[b]? = some (.cells #[.pointer (some ⟨b, 0, none⟩), .slice A l.length cap] 79 (0, 0)) from by
    rw [h2.block b (by rw [alloc_size]; omega) (fun e => NE.out e.symm)]
    exact heap_alloc_old' _ HB.out)
  have C3 := Lib.hid ((C1.out.alloc _).grown h2 (fun j hj _ => (World.ownsRow.lt OW.out j hj).1))
  have G3 : g ≠ b := by
    rcases h3 with h | h
    · exact fun e => NE.out (by rw [h, e])
    · omega
  have k1 : w3.cell? ⟨b, 1, none⟩ = some (.slice A l.length cap) := by rw [cell_of HB3.out]; rfl
  have f1 : w3.frozen? ⟨b, 1, none⟩ = false := frozen_of HB3.out
  clear h1 h2 h3
  go_wp2
  refine HR.out _ (.inr ⟨hB, _, heap_setCell_eq _ HB3.out, ?_, ?_⟩) (C3.out.setb (fun _ => hB) _)
  · rw [Lib.byteCells_length, List.length_append]
    exact ownsRow_ch8 O3.out ((Ch.refl (· = b) w3).setb (fun _ => rfl) _) (fun k hk e => by injection hk with hk; exact G3 (hk.trans e))
  · intro e
    injection e with e
    exact G3 e
theorem bString_any (B b : Nat) (l : List UInt8) (w : World) (R : Ending → World → Prop) (h : Bld w B b l) (hB : B ≤ w.heap.size) (hR : ∀ w', Ch (fun j => B ≤ j) w w' → R (.returned (.string ⟨l.toArray⟩)) w') : Calls Tryd.prog 45 #[.pointer (some ⟨b, 0, none⟩)] w R :=
  (Tryd.Builder_String_any B b l w h hB).mono fun e w' ⟨he, hb⟩ => by
    subst he
    exact hR w' ⟨hb.os, hb.tape, hb.output, hb.size, fun k hk hf => hb.block k (by omega)⟩
end Go.Proofs.YtaafmgkjfmngjaaDoor
