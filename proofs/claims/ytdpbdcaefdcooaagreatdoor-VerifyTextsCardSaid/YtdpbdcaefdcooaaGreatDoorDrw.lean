/-
  indelibleref01.Mod, and Draw.Next: numbers that are taken from a list.
-/
import Derived.Test.YtdpbdcaefdcooaaGreatDoorProg
import Derived.Test.YtdpbdcaefdcooaaGreatDoorLib
import Derived.BigQuiet
import Derived.Deep.QuietTactic
namespace Go.Proofs.YtdpbdcaefdcooaaGreatDoor
open Go.RowKit
set_option linter.unusedVariables false

def wfI (n : Int) : Prop := -9223372036854775808 ≤ n ∧ n ≤ 9223372036854775807
/-- The slice v is the list l, in a block below lo. -/
def IsInts (w : World) (lo : Nat) (v : Value) (l : List Int) : Prop :=
  ∃ A cap, v = .slice A l.length cap ∧ (l.length ≤ cap ∧ l.length ≤ 9223372036854775807) ∧ ∀ i x, l[i]? = some x → wfI x ∧ ∃ pk po, pk < lo ∧ A = some ⟨pk, po, none⟩ ∧ w.cell? ⟨pk, po + i, none⟩ = some (.int .i64 x)
theorem IsInts.kept {w w' : World} {lo : Nat} {v : Value} {l : List Int} {F : Nat → Prop} (h : IsInts w lo v l) (hc : Ch F w w') (hF : ∀ k, k < lo → ¬ F k) : IsInts w' lo v l := by
  obtain ⟨A, cap, e, hl, h⟩ := h
  refine ⟨A, cap, e, hl, fun i x hi => ?_⟩
  obtain ⟨hw, pk, po, hk, ea, h0⟩ := h i x hi
  exact ⟨hw, pk, po, hk, ea, hc.cell h0 (hF _ hk)⟩
theorem IsInts.hi {w : World} {lo lo' : Nat} {v : Value} {l : List Int} (h : IsInts w lo v l) (hl : lo ≤ lo') : IsInts w lo' v l := by
  obtain ⟨A, cap, e, hl', h⟩ := h
  refine ⟨A, cap, e, hl', fun i x hi => ?_⟩
  obtain ⟨hw, pk, po, hk, ea, h0⟩ := h i x hi
  exact ⟨hw, pk, po, by omega, ea, h0⟩

theorem mod_eq (n m : Int) (hm : 0 < m) : ((n.tmod m) + m).tmod m = n % m := by
  have h := tdiv_tmod n m hm
  have h2 : 0 ≤ n.tmod m + m := by omega
  rw [Int.tmod_eq_emod_of_nonneg h2, Int.add_emod_right]
  rcases Int.le_total 0 n with hn | hn
  · rw [Int.tmod_eq_emod_of_nonneg hn, Int.emod_emod_of_dvd _ (Int.dvd_refl m)]
  · have e : n.tmod m = n - m * n.tdiv m := by omega
    rw [e, Int.sub_emod, Int.mul_emod_right, Int.sub_zero, Int.emod_emod_of_dvd _ (Int.dvd_refl m)]

set_option maxRecDepth 100000 in
theorem Mod_any (n m : Int) (w : World) (R : Ending → World → Prop) (hn : wfI n) (hm : 0 < m) (hm' : m ≤ 1000000) (hR : R (.returned (.int .i64 (n % m))) w) : Calls Tryz.prog 20 #[.int .i64 n, .int .i64 m] w R := by
  have HR := Lib.hid hR
  clear hR
  go_enter Tryz.func20, Tryz.ntmps20
  go_wp2
  refine ret_i HR.out ?_
  have h := tdiv_tmod n m hm
  rw [show wrap64 (n.tmod m + m) = n.tmod m + m from by unfold wrap64; omega]
  exact (mod_eq n m hm).symm

/-- Block b is a draw of the list l, of which k numbers are taken. -/
structure DS (w : World) (lo b : Nat) (v : Value) (l : List Int) (k : Nat) : Prop where
  blk : w.heap[b]? = some (.cells #[v, .int .i64 k] 45 (0, 0))
  ints : IsInts w lo v l
  le : k ≤ l.length
  far : lo ≤ b
theorem DS.kept {w w' : World} {lo b : Nat} {v : Value} {l : List Int} {k : Nat} {F : Nat → Prop} (h : DS w lo b v l k) (hc : Ch F w w') (hF : ∀ k, k < lo ∨ k = b → ¬ F k) : DS w' lo b v l k :=
  ⟨hc.heap h.blk (hF b (.inr rfl)), h.ints.kept hc (fun j hj => hF j (.inl hj)), h.le, h.far⟩
/-- The next number, and how many are taken behind it. -/
def nx (l : List Int) (k : Nat) (n : Int) : Int := match l[k]? with | some x => x % n | none => 0
def nk (l : List Int) (k : Nat) : Nat := if k < l.length then k + 1 else k
theorem nx_in (l : List Int) (k : Nat) (n : Int) (hn : 0 < n) : 0 ≤ nx l k n ∧ nx l k n < n := by
  unfold nx
  split
  · exact ⟨Int.emod_nonneg _ (by omega), Int.emod_lt_of_pos _ hn⟩
  · omega

set_option maxRecDepth 100000 in
theorem Next_any (lo b : Nat) (v : Value) (l : List Int) (k : Nat) (n : Int) (w : World) (R : Ending → World → Prop) (h : DS w lo b v l k) (hn : 0 < n) (hn' : n ≤ 1000000)
    (hR : ∀ w', DS w' lo b v l (nk l k) → Ch (· = b) w w' → R (.returned (.int .i64 (nx l k n))) w') : Calls Tryz.prog 18 #[.pointer (some ⟨b, 0, none⟩), .int .i64 n] w R := by
  have HR := Lib.hid hR
  clear hR
  obtain ⟨hb, hi, hk, hf⟩ := h
  have HI := Lib.hid hi
  obtain ⟨A, cap, rfl, ⟨hlc, hl⟩, hel⟩ := hi
  have HEL := Lib.hid hel
  clear hel
  have c0 : w.cell? ⟨b, 0, none⟩ = some (.slice A l.length cap) := by rw [cell_of hb]; rfl
  have c1 : w.cell? ⟨b, 1, none⟩ = some (.int .i64 k) := by rw [cell_of hb]; rfl
  have fr : w.frozen? ⟨b, 1, none⟩ = false := frozen_of hb
  have HB := Lib.hid hb
  clear hb
  by_cases hlt : k < l.length
  · obtain ⟨x, hx⟩ : ∃ x, l[k]? = some x := ⟨_, List.getElem?_eq_getElem hlt⟩
    obtain ⟨hwx, pk, po, hpk, rfl, h0⟩ := HEL.out k x hx
    have hb : pk ≠ b := by omega
    have k0 : (0 : Int) ≤ (k : Int) := by omega
    have k1 : (k : Int) < (l.length : Int) := by omega
    have HX := Lib.hid hx
    clear hx
    go_enter Tryz.func18, Tryz.ntmps18
    go_wp2
    go_quiet (fail)
    go_wp2
    go_quiet (first | (go_at_call 20; refine Mod_any _ _ _ _ hwx hn hn' ?_; exact ⟨rfl, _, rfl⟩))
    go_wp2
    refine ret_i (HR.out _ ⟨?_, ?_, ?_, hf⟩ (((((Ch.refl (· = b) w).drewN _).setb (fun _ => rfl) _)).drewN _)) ?_
    · unfold nk; rw [if_pos hlt]
      exact heap_setCell_eq _ HB.out
    · exact HI.out.kept (((((Ch.refl (· = b) w).drewN _).setb (fun _ => rfl) _)).drewN _) (fun j hj e => by omega)
    · unfold nk; rw [if_pos hlt]; omega
    · unfold nx; rw [HX.out]
  · go_enter Tryz.func18, Tryz.ntmps18
    go_wp2
    go_quiet (fail)
    go_wp2
    refine ret_i (HR.out _ ⟨?_, HI.out, by unfold nk; rw [if_neg hlt]; exact hk, hf⟩ ((Ch.refl _ _).drewN _)) ?_
    · unfold nk; rw [if_neg hlt]; exact HB.out
    · unfold nx; rw [List.getElem?_eq_none (by omega)]
end Go.Proofs.YtdpbdcaefdcooaaGreatDoor
