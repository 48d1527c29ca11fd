/-
  law12.decimal: a number in decimal.
-/
import Derived.Test.YtnibgjpbijlhbaaDoorStr1
namespace Go.Proofs.YtnibgjpbijlhbaaDoor
open Go.RowKit Go.Shelf
set_option linter.unusedVariables false
set_option linter.unusedSimpArgs false
set_option maxRecDepth 100000

theorem dec_small {n : Nat} (h : n < 10) : dec n = [digB n] := by rw [dec, if_pos h]
theorem dec_big {n : Nat} (h : ¬ n < 10) : dec n = dec (n / 10) ++ dec (n % 10) := by rw [dec, if_neg h, dec_small (n := n % 10) (by omega)]
theorem digB_int {n : Nat} (h : n < 10) : ((digB n).toNat : Int) = 48 + (n : Int) := by rw [digB_nat h]; omega
theorem str_app (a b : List UInt8) : (⟨a.toArray⟩ : ByteArray) ++ ⟨b.toArray⟩ = ⟨(a ++ b).toArray⟩ := by
  apply ByteArray.ext
  simp [ByteArray.data_append]
theorem dec_len : ∀ (k n : Nat), n < 10 ^ (k + 1) → (dec n).length ≤ k + 1
  | k, n, h => by
    by_cases h1 : n < 10
    · rw [dec_small h1]; simp
    · cases k with
      | zero => omega
      | succ k =>
        have := dec_len k (n / 10) (by rw [Nat.pow_succ] at h; omega)
        rw [dec, if_neg h1]
        simp only [List.length_append, List.length_cons, List.length_nil]
        omega

theorem decimal_any : ∀ (k n : Nat), n ≤ k → n ≤ 65535 → ∀ (w : World) (R : Ending → World → Prop), (∀ w', Nw w w' → R (.returned (.string ⟨(dec n).toArray⟩)) w') → Calls Tryd.prog 22 #[.int .i64 (n : Nat)] w R := by
  intro k
  induction k with
  | zero =>
    intro n hk hn w R hR
    obtain rfl : n = 0 := by omega
    have hs := str_one (digB 0) 48 (by decide)
    have HR := Lib.hid hR
    clear hR
    go_enter Tryd.func22, Tryd.ntmps22
    go_wp2
    rw [show (⟨#[digB 0]⟩ : ByteArray) = ⟨(dec 0).toArray⟩ from by rw [dec_small (by omega)]]
    exact HR.out _ ((Ch.refl _ _).alloc _)
  | succ k ih =>
    intro n hk hn w R hR
    have HR := Lib.hid hR
    have IH := Lib.hid ih
    clear hR ih
    by_cases h : n < 10
    · have h1 : (n : Int) < 10 := by omega
      have hs := str_one (digB n) (48 + (n : Int)) (digB_int h)
      go_enter Tryd.func22, Tryd.ntmps22
      go_wp2
      rw [show (⟨#[digB n]⟩ : ByteArray) = ⟨(dec n).toArray⟩ from by rw [dec_small h]]
      exact HR.out _ ((Ch.refl _ _).alloc _)
    · have h1 : ¬ (n : Int) < 10 := by omega
      go_enter Tryd.func22, Tryd.ntmps22
      go_wp2_with (fail)
      rw [show (n : Int) / 10 = ((n / 10 : Nat) : Int) from by omega]
      refine IH.out (n / 10) (by omega) (by omega) _ _ ?_
      intro w1 n1
      go_wp2_with (fail)
      rw [show (n : Int) % 10 = ((n % 10 : Nat) : Int) from by omega]
      refine IH.out (n % 10) (by omega) (by omega) _ _ ?_
      intro w2 n2
      have l1 := dec_len 4 (n / 10) (by omega)
      have l2 := dec_len 4 (n % 10) (by omega)
      go_wp2
      rw [str_app, ← dec_big h]
      exact HR.out _ (n1.trans n2)

end Go.Proofs.YtnibgjpbijlhbaaDoor
