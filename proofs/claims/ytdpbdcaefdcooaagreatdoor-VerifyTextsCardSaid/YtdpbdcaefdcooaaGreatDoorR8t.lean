/-
  ref08.Decimal: a number in decimal.
-/
import Derived.Test.YtdpbdcaefdcooaaGreatDoorVForm
import Derived.Test.YtdpbdcaefdcooaaGreatDoorVu
import Derived.Laws.IdiomStrings
namespace Go.Proofs.YtdpbdcaefdcooaaGreatDoor
open Go.RowKit
set_option linter.unusedVariables false
set_option linter.unusedSimpArgs false
set_option maxRecDepth 100000

theorem str_one8 (c : UInt8) (m : Int) (hm : (c.toNat : Int) = m) (w : World) : (convert 91 9 (.slice (some ⟨w.heap.size, 0, none⟩) 1 1)).run Tryz.prog (w.alloc (.cells #[.int .u8 m] 5)) = .ok (.string ⟨#[c]⟩) (w.alloc (.cells #[.int .u8 m] 5)) := by
  refine run_convert_bytes_back _ 91 9 5 ⟨w.heap.size, 0, none⟩ 1 [c] Tryz.underlying91 Tryz.underlying5 Tryz.underlying9 (fun j hj => ?_)
  have h0 : j = 0 := by simp at hj; omega
  subst h0
  subst hm
  exact cell_alloc_new rfl rfl
theorem str_app8 (a b : List UInt8) : (⟨a.toArray⟩ : ByteArray) ++ ⟨b.toArray⟩ = ⟨(a ++ b).toArray⟩ := by
  apply ByteArray.ext
  simp [ByteArray.data_append]
theorem itoa_len8 {n : Int} (h : numOk n) : (Lib.itoa n).length ≤ 21 := Lib.itoa_length_le n h.1 h.2

theorem tdiv_neg {n : Int} (h : n < 0) : n.tdiv 10 = -((-n) / 10) := by
  have h1 := Int.neg_tdiv (-n) 10
  rw [Int.neg_neg] at h1
  rw [h1, Int.tdiv_eq_ediv_of_nonneg (by omega)]
theorem tmod_neg {n : Int} (h : n < 0) : n.tmod 10 = -((-n) % 10) := by
  have h1 := Int.neg_tmod (-n) 10
  rw [Int.neg_neg] at h1
  rw [h1, Int.tmod_eq_emod_of_nonneg (by omega)]
theorem dec8_digit (n : Int) (h0 : 0 ≤ n) (h1 : n < 10) (w : World) (R : Ending → World → Prop) (hR : ∀ w', Nw w w' → R (.returned (.string ⟨(Lib.itoa n).toArray⟩)) w') : Calls Tryz.prog 50 #[.int .i64 n] w R := by
  have HR := Lib.hid hR
  clear hR
  have hc : ((UInt8.ofNat (48 + n.toNat)).toNat : Int) = 48 + n := by rw [dig_val (by omega)]; omega
  obtain ⟨c, hc'⟩ : ∃ c, UInt8.ofNat (48 + n.toNat) = c := ⟨_, rfl⟩
  rw [hc'] at hc
  clear hc'
  have hs := str_one8 c (48 + n) hc
  go_enter Tryz.func50, Tryz.ntmps50
  go_wp2
  rw [show (⟨#[c]⟩ : ByteArray) = ⟨(Lib.itoa n).toArray⟩ from by rw [itoa_small h0 h1 c hc]]
  exact HR.out _ ((Ch.refl _ _).alloc _)

set_option maxHeartbeats 4000000 in
theorem dec8_any : ∀ (k : Nat) (n : Int), n.natAbs ≤ k → numOk n → ∀ (w : World) (R : Ending → World → Prop), (∀ w', Nw w w' → R (.returned (.string ⟨(Lib.itoa n).toArray⟩)) w') → Calls Tryz.prog 50 #[.int .i64 n] w R := by
  intro k
  induction k with
  | zero => intro n hk hn w R hR; exact dec8_digit n (by omega) (by omega) w R hR
  | succ k ih =>
    intro n hk hn w R hR
    obtain ⟨hn0, hn1⟩ := hn
    by_cases h : 0 ≤ n ∧ n < 10
    · exact dec8_digit n h.1 h.2 w R hR
    have HR := Lib.hid hR
    have IH := Lib.hid ih
    clear hR ih
    by_cases hp : 0 ≤ n
    · have h1 : ¬ n < 10 := by omega
      clear h
      have hl1 := itoa_len8 (n := n / 10) ⟨by omega, by omega⟩
      have hl2 := itoa_len8 (n := n % 10) ⟨by omega, by omega⟩
      have HE := Lib.hid (itoa_big (n := n) (by omega))
      go_enter Tryz.func50, Tryz.ntmps50
      go_wp2_with (fail)
      refine IH.out (n / 10) (by omega) ⟨by omega, by omega⟩ _ _ ?_
      intro w1 n1
      have N1 := Lib.hid n1
      clear n1
      go_wp2_with (fail)
      refine dec8_digit (n % 10) (by omega) (by omega) _ _ ?_
      intro w2 n2
      have N2 := Lib.hid n2
      clear n2
      go_wp2
      rw [str_app8, ← HE.out]
      exact HR.out _ (N1.out.trans N2.out)
    · have e1 := tdiv_neg (n := n) (by omega)
      have e2 := tmod_neg (n := n) (by omega)
      by_cases hq : -10 < n
      · have hl2 := itoa_len8 (n := -n) ⟨by omega, by omega⟩
        have HE := Lib.hid (itoa_neg (n := n) (by omega) hq)
        replace e1 : n.tdiv 10 = 0 := by rw [e1]; omega
        replace e2 : n.tmod 10 = n := by rw [e2]; omega
        clear h
        go_enter Tryz.func50, Tryz.ntmps50
        go_wp2_with (fail)
        refine dec8_digit (-n) (by omega) (by omega) _ _ ?_
        intro w1 n1
        have N1 := Lib.hid n1
        clear n1
        go_wp2
        rw [show (⟨#[45]⟩ : ByteArray) = ⟨([45] : List UInt8).toArray⟩ from rfl, str_app8, List.singleton_append, ← HE.out]
        exact HR.out _ N1.out
      · obtain ⟨r, hr⟩ : ∃ r, -((-n) / 10) = r := ⟨_, rfl⟩
        obtain ⟨m, hm⟩ : ∃ m, -((-n) % 10) = m := ⟨_, rfl⟩
        rw [hr] at e1
        rw [hm] at e2
        have HE := Lib.hid (itoa_bigneg (n := n) (r := r) (l := -m) (by omega) (by omega) (by omega))
        have hk2 : r.natAbs ≤ k := by omega
        have r0 : -1000000000000000000 ≤ r := by omega
        have r1 : r ≤ -1 := by omega
        have m0 : -9 ≤ m := by omega
        have m1 : m ≤ 0 := by omega
        have e3 : (r == 0) = false := by simp; omega
        have hl1 := itoa_len8 (n := r) ⟨by omega, by omega⟩
        have hl2 := itoa_len8 (n := -m) ⟨by omega, by omega⟩
        clear h hr hm
        go_enter Tryz.func50, Tryz.ntmps50
        go_wp2_with (fail)
        refine IH.out r hk2 ⟨by omega, by omega⟩ _ _ ?_
        intro w1 n1
        have N1 := Lib.hid n1
        clear n1
        go_wp2_with (fail)
        refine dec8_digit (-m) (by omega) (by omega) _ _ ?_
        intro w2 n2
        have N2 := Lib.hid n2
        clear n2
        go_wp2
        rw [str_app8, ← HE.out]
        exact HR.out _ (N1.out.trans N2.out)
theorem decimal8_any (n : Int) (w : World) (R : Ending → World → Prop) (hn : numOk n) (hR : ∀ w', Nw w w' → R (.returned (.string ⟨(Lib.itoa n).toArray⟩)) w') : Calls Tryz.prog 50 #[.int .i64 n] w R :=
  dec8_any n.natAbs n (Nat.le_refl _) hn w R hR
end Go.Proofs.YtdpbdcaefdcooaaGreatDoor
