/-
  Programs that are made of pieces are verified. Plain laws: no walk.
-/
import Derived.Test.YtdpbdcaefdcooaaGreatDoorVp
namespace Go.Proofs.YtdpbdcaefdcooaaGreatDoor
set_option linter.unusedVariables false

/-- The numbers of an operation are small. -/
def smallOp (np n m : Int) : Prop := (-1000000 ≤ n ∧ (n ≤ 1000000 ∨ n < np)) ∧ -1000000 ≤ m ∧ m ≤ 1000000
def Small (np : Int) (L : List VOp) : Prop := ∀ o ∈ L, smallOp np o.2.1 o.2.2
theorem Small.cons {np c n m : Int} {L : List VOp} (h : smallOp np n m) (hL : Small np L) : Small np ((c, n, m) :: L) := fun o ho => by
  rcases List.mem_cons.1 ho with rfl | ho
  · exact h
  · exact hL o ho
/-- L runs at height h, ends at height h', wherever at most e blocks more may enclose. -/
def Runs (np : Int) (e : Nat) (L : List VOp) (h h' : Nat) : Prop :=
  Small np L ∧ ∃ (k : Int) (d : Nat) (r : List Int), 0 ≤ k ∧ k ≤ L.length * 4 ^ e ∧ d ≤ 8 ∧ ∀ (nest : Nat) (a : Int) (v : VS), nest + e ≤ 3 → v.h = h → V np L nest a v = .ok (a + k, ⟨h', max v.d d, v.r ++ r⟩)
theorem Runs.nil (np : Int) (e h : Nat) : Runs np e [] h h := by
  refine ⟨fun o ho => (by cases ho), 0, 0, [], by omega, by simp, by omega, fun nest a v _ hv => ?_⟩
  rw [V_nil]
  obtain ⟨x, d, r⟩ := v
  simp only at hv
  subst hv
  simp
theorem Runs.append {np : Int} {e : Nat} {L M : List VOp} {h h1 h2 : Nat} (hL : Runs np e L h h1) (hM : Runs np e M h1 h2) : Runs np e (L ++ M) h h2 := by
  obtain ⟨hsL, k, d, r, a1, a2, a3, H⟩ := hL
  obtain ⟨hsM, k', d', r', b1, b2, b3, H'⟩ := hM
  refine ⟨fun o ho => (List.mem_append.1 ho).elim (hsL o) (hsM o), k + k', max d d', r ++ r', by omega, ?_, by omega, fun nest a v hn hv => ?_⟩
  · rw [List.length_append, Int.natCast_add, Int.add_mul]; omega
  · rw [V_append np M L.length L nest a v _ _ (Nat.le_refl _) (H nest a v hn hv), H' nest (a + k) _ hn rfl]
    simp only [Except.ok.injEq, Prod.mk.injEq, VS.mk.injEq]
    exact ⟨by omega, trivial, by omega, by simp⟩
theorem Runs.more {np : Int} {e e' : Nat} {L : List VOp} {h h' : Nat} (hL : Runs np e L h h') (he : e ≤ e') : Runs np e' L h h' := by
  obtain ⟨hsL, k, d, r, a1, a2, a3, H⟩ := hL
  refine ⟨hsL, k, d, r, a1, ?_, a3, fun nest a v hn hv => H nest a v (by omega) hv⟩
  have h4 : (4 : Int) ^ e ≤ 4 ^ e' := by
    have := Nat.pow_le_pow_right (n := 4) (by decide) he
    exact_mod_cast this
  exact Int.le_trans a2 (Int.mul_le_mul_of_nonneg_left h4 (by omega))
theorem Runs.op {np : Int} {c n m : Int} {L : List VOp} {e h h1 h2 : Nat} (hc : c < 14) (hf : vform c n m) (hp : 10 ≤ c ∧ c ≤ 13 → 0 ≤ n ∧ n < np) (ht : vtakes c ≤ h) (hh : h1 = h - vtakes c + vputs c) (h8 : h1 ≤ 8) (hL : Runs np e L h1 h2) (hs : smallOp np n m := by unfold smallOp; omega) : Runs np e ((c, n, m) :: L) h h2 := by
  obtain ⟨hsL, k, d, r, a1, a2, a3, H⟩ := hL
  refine ⟨Small.cons hs hsL, 1 + k, max h1 d, (if c = 12 ∨ c = 13 then [n] else []) ++ r, by omega, ?_, by omega, fun nest a v hn hv => ?_⟩
  · rw [List.length_cons, show ((L.length + 1 : Nat) : Int) * 4 ^ e = L.length * 4 ^ e + 4 ^ e by rw [Int.natCast_add, Int.add_mul]; simp]
    have : (1 : Int) ≤ 4 ^ e := by
      have := Nat.one_le_pow e 4 (by decide)
      exact_mod_cast this
    omega
  · have hk : vchk c n m (L.length + 1) nest np v.h = none := vchk_ok hf (fun h => by omega) (fun h => by omega) hp (by omega) (by omega)
    rw [V_plain hk hc, H nest (a + 1) _ hn (by show v.h - vtakes c + vputs c = h1; omega)]
    obtain ⟨x, dd, rr⟩ := v
    simp only at hv
    subst hv
    unfold vown
    simp only [Except.ok.injEq, Prod.mk.injEq, VS.mk.injEq]
    refine ⟨by omega, trivial, by omega, ?_⟩
    split <;> simp
theorem four_succ (e : Nat) (n : Int) (x : Int) (hx : 0 ≤ x) (hn : 0 ≤ n) (h : x ≤ n * 4 ^ e) (r : Int) (hr : 0 ≤ r) (hr4 : r ≤ 4) : 0 ≤ r * x ∧ 1 + r * x ≤ (n + 1) * 4 ^ (e + 1) := by
  have h1 : r * x ≤ 4 * x := Int.mul_le_mul_of_nonneg_right hr4 hx
  have h0 : 0 ≤ r * x := Int.mul_nonneg hr hx
  have h2 : (n + 1) * 4 ^ (e + 1) = 4 * (n * 4 ^ e) + 4 * 4 ^ e := by rw [Int.pow_succ, Int.add_mul, Int.one_mul, Int.mul_comm (4 ^ e) 4, ← Int.mul_assoc, Int.mul_comm n 4, Int.mul_assoc]
  have h3 : (1 : Int) ≤ 4 ^ e := by
    have := Nat.one_le_pow e 4 (by decide)
    exact_mod_cast this
  omega
theorem Runs.loop {np : Int} {e h : Nat} {L : List VOp} {n : Int} (hL : Runs np e L h h) (h8 : h ≤ 8) (hne : 1 ≤ L.length) (h1 : 1 ≤ n) (h4 : n ≤ 4) (he : e < 3) (hl : L.length ≤ 1000 := by omega) : Runs np (e + 1) ((15, n, (L.length : Int)) :: L) h h := by
  obtain ⟨hsL, k, d, r, a1, a2, a3, H⟩ := hL
  obtain ⟨m1, m2⟩ := four_succ e L.length k a1 (by omega) a2 n (by omega) h4
  refine ⟨Small.cons (by unfold smallOp; omega) hsL, 1 + n * k, max h d, r, by omega, ?_, by omega, fun nest a v hn hv => ?_⟩
  · rw [List.length_cons]; exact_mod_cast m2
  · have hk : vchk 15 n (L.length : Int) (L.length + 1) nest np v.h = none := vchk_ok ⟨by omega, by omega, by omega⟩ (fun _ => by omega) (fun _ => by unfold vlen; simp; omega) (fun h => by omega) (by unfold vtakes; simp) (by unfold vtakes vputs; simp; omega)
    have hl : (vlen 15 n (L.length : Int)).toNat = L.length := by unfold vlen; simp
    have ho : vown 15 n v = ⟨v.h, max v.d v.h, v.r⟩ := by unfold vown vtakes vputs; simp
    have hi := H (nest + 1) 0 (vown 15 n v) (by omega) (by rw [ho]; exact hv)
    rw [V_on hk (by omega) (by rw [hl, List.take_length]; exact hi) (by rw [ho]; exact hv.symm), hl, List.drop_length, V_nil, ho]
    simp only [Except.ok.injEq, Prod.mk.injEq, VS.mk.injEq]
    refine ⟨?_, trivial, by omega, trivial⟩
    unfold vrounds
    simp
    omega
theorem Runs.cond {np : Int} {e h : Nat} {L : List VOp} (hL : Runs np e L h h) (h8 : h < 8) (hne : 1 ≤ L.length) (he : e < 3) (hl : L.length ≤ 1000 := by omega) : Runs np (e + 1) ((14, (L.length : Int), 0) :: L) (h + 1) h := by
  obtain ⟨hsL, k, d, r, a1, a2, a3, H⟩ := hL
  obtain ⟨m1, m2⟩ := four_succ e L.length k a1 (by omega) a2 1 (by omega) (by omega)
  refine ⟨Small.cons (by unfold smallOp; omega) hsL, 1 + k, max h d, r, by omega, ?_, by omega, fun nest a v hn hv => ?_⟩
  · rw [List.length_cons]; rw [Int.one_mul] at m2; exact_mod_cast m2
  · have hk : vchk 14 (L.length : Int) 0 (L.length + 1) nest np v.h = none := vchk_ok ⟨by omega, by omega, by omega⟩ (fun _ => by omega) (fun _ => by unfold vlen; simp; omega) (fun h => by omega) (by unfold vtakes; simp; omega) (by unfold vtakes vputs; simp; omega)
    have hl : (vlen 14 (L.length : Int) 0).toNat = L.length := by unfold vlen; simp
    have ho : vown 14 (L.length : Int) v = ⟨v.h - 1, max v.d (v.h - 1), v.r⟩ := by unfold vown vtakes vputs; simp
    have hi := H (nest + 1) 0 (vown 14 (L.length : Int) v) (by omega) (by rw [ho]; simp only; omega)
    rw [V_on hk (by omega) (by rw [hl, List.take_length]; exact hi) (by rw [ho]; simp only; omega), hl, List.drop_length, V_nil, ho]
    simp only [Except.ok.injEq, Prod.mk.injEq, VS.mk.injEq]
    refine ⟨?_, trivial, by omega, trivial⟩
    unfold vrounds
    simp
    omega
/-- What is known of a made program. -/
def MadeOk (np : Int) (L : List VOp) : Prop := L.length ≤ 40 ∧ Runs np 2 L 0 0
/-- What verification finds out about it. -/
theorem MadeOk.facts {np : Int} {L : List VOp} (h : MadeOk np L) : ∃ (k : Int) (d : Nat) (r : List Int), 0 ≤ k ∧ k ≤ 640 ∧ d ≤ 8 ∧ (∀ nest, nest ≤ 1 → V np L nest 0 ⟨0, 0, []⟩ = .ok (k, ⟨0, d, r⟩)) ∧ checkM np L = .ok (k, d, r) := by
  obtain ⟨h40, -, k, d, r, a1, a2, a3, H⟩ := h
  have hk : k ≤ 640 := by
    have : (L.length : Int) * 4 ^ 2 ≤ 40 * 16 := by rw [show (4 : Int) ^ 2 = 16 from rfl]; omega
    omega
  have HV : ∀ nest, nest ≤ 1 → V np L nest 0 ⟨0, 0, []⟩ = .ok (k, ⟨0, d, r⟩) := by
    intro nest hn
    have := H nest 0 ⟨0, 0, []⟩ (by omega) rfl
    simpa using this
  refine ⟨k, d, r, a1, hk, a3, HV, ?_⟩
  unfold checkM
  rw [if_neg (by omega), HV 0 (by omega)]
  simp only
  rw [if_neg (by simp), if_neg (by omega)]

theorem tk0 (c : Int) (h : c = 1 ∨ c = 9 ∨ c = 10 ∨ c = 11) : vtakes c = 0 ∧ vputs c = 1 := by unfold vtakes vputs; constructor <;> (split <;> (try split) <;> omega)
theorem tk2 (c : Int) (h : 2 ≤ c ∧ c ≤ 5) : vtakes c = 2 ∧ vputs c = 1 := by unfold vtakes vputs; constructor <;> (split <;> (try split) <;> omega)
theorem tk1 (c : Int) (h : 6 ≤ c ∧ c ≤ 8) : vtakes c = 1 ∧ vputs c = 1 := by unfold vtakes vputs; constructor <;> (split <;> (try split) <;> omega)
theorem tks (c : Int) (h : c = 12 ∨ c = 13) : vtakes c = 1 ∧ vputs c = 0 := by unfold vtakes vputs; constructor <;> (split <;> (try split) <;> omega)
section
variable {np i j : Int} (hi : 0 ≤ i ∧ i < np) (hj : 0 ≤ j ∧ j < np) {e : Nat}
include hi
theorem runs_p0 {a b : Int} (ha : 0 ≤ a ∧ a < 2) (hb : 0 ≤ b ∧ b < 2) : Runs np e [(10 + a, i, 0), (8, 0, 0), (12 + b, i, 0)] 0 0 := by
  have t1 := tk0 (10 + a) (by omega)
  have t2 := tk1 8 (by omega)
  have t3 := tks (12 + b) (by omega)
  refine Runs.op (h1 := 1) (by omega) ⟨by omega, by omega, by omega⟩ (fun _ => hi) (by omega) (by omega) (by omega) ?_
  refine Runs.op (h1 := 1) (by omega) ⟨by omega, by omega, by omega⟩ (fun _ => by omega) (by omega) (by omega) (by omega) ?_
  exact Runs.op (h1 := 0) (by omega) ⟨by omega, by omega, by omega⟩ (fun _ => hi) (by omega) (by omega) (by omega) (Runs.nil _ _ _)
include hj
theorem runs_p1 {x : Int} (hx : -1000 ≤ x ∧ x ≤ 1000 := by omega) : Runs np e [(11, i, 0), (1, x, 0), (2, 0, 0), (13, j, 0)] 0 0 := by
  have t1 := tk0 11 (by omega)
  have t2 := tk0 1 (by omega)
  have t3 := tk2 2 (by omega)
  have t4 := tks 13 (by omega)
  refine Runs.op (h1 := 1) (by omega) ⟨by omega, by omega, by omega⟩ (fun _ => hi) (by omega) (by omega) (by omega) ?_
  refine Runs.op (h1 := 2) (by omega) ⟨by omega, by omega, by omega⟩ (fun _ => by omega) (by omega) (by omega) (by omega) ?_
  refine Runs.op (h1 := 1) (by omega) ⟨by omega, by omega, by omega⟩ (fun _ => by omega) (by omega) (by omega) (by omega) ?_
  exact Runs.op (h1 := 0) (by omega) ⟨by omega, by omega, by omega⟩ (fun _ => hj) (by omega) (by omega) (by omega) (Runs.nil _ _ _)
theorem runs_p2 {a b c : Int} (ha : 0 ≤ a ∧ a < 4) (hb : 0 ≤ b ∧ b < 3) (hc : 0 ≤ c ∧ c < 2) : Runs np e [(10, i, 0), (11, j, 0), (2 + a, 0, 0), (6 + b, 0, 0), (12 + c, j, 0)] 0 0 := by
  have t1 := tk0 10 (by omega)
  have t2 := tk0 11 (by omega)
  have t3 := tk2 (2 + a) (by omega)
  have t4 := tk1 (6 + b) (by omega)
  have t5 := tks (12 + c) (by omega)
  refine Runs.op (h1 := 1) (by omega) ⟨by omega, by omega, by omega⟩ (fun _ => hi) (by omega) (by omega) (by omega) ?_
  refine Runs.op (h1 := 2) (by omega) ⟨by omega, by omega, by omega⟩ (fun _ => hj) (by omega) (by omega) (by omega) ?_
  refine Runs.op (h1 := 1) (by omega) ⟨by omega, by omega, by omega⟩ (fun _ => by omega) (by omega) (by omega) (by omega) ?_
  refine Runs.op (h1 := 1) (by omega) ⟨by omega, by omega, by omega⟩ (fun _ => by omega) (by omega) (by omega) (by omega) ?_
  exact Runs.op (h1 := 0) (by omega) ⟨by omega, by omega, by omega⟩ (fun _ => hj) (by omega) (by omega) (by omega) (Runs.nil _ _ _)
theorem runs_p3 {a b : Int} (ha : 0 ≤ a ∧ a < 2) (hb : 0 ≤ b ∧ b < 2) : Runs np e [(9, 0, 0), (10 + a, i, 0), (4 + b, 0, 0), (12, j, 0)] 0 0 := by
  have t1 := tk0 9 (by omega)
  have t2 := tk0 (10 + a) (by omega)
  have t3 := tk2 (4 + b) (by omega)
  have t4 := tks 12 (by omega)
  refine Runs.op (h1 := 1) (by omega) ⟨by omega, by omega, by omega⟩ (fun _ => by omega) (by omega) (by omega) (by omega) ?_
  refine Runs.op (h1 := 2) (by omega) ⟨by omega, by omega, by omega⟩ (fun _ => hi) (by omega) (by omega) (by omega) ?_
  refine Runs.op (h1 := 1) (by omega) ⟨by omega, by omega, by omega⟩ (fun _ => by omega) (by omega) (by omega) (by omega) ?_
  exact Runs.op (h1 := 0) (by omega) ⟨by omega, by omega, by omega⟩ (fun _ => hj) (by omega) (by omega) (by omega) (Runs.nil _ _ _)
end
/-- A point is compared with a number, ahead of a block. -/
theorem runs_head {np i a x : Int} {e : Nat} {L : List VOp} (hi : 0 ≤ i ∧ i < np) (ha : 0 ≤ a ∧ a < 2) (hL : Runs np e L 0 0) (hne : 1 ≤ L.length) (he : e < 3) (hx : -1000 ≤ x ∧ x ≤ 1000 := by omega) (hl : L.length ≤ 1000 := by omega) : Runs np (e + 1) ([(10 + a, i, 0), (1, x, 0), (3, 0, 0), (14, (L.length : Int), 0)] ++ L) 0 0 := by
  have t1 := tk0 (10 + a) (by omega)
  have t2 := tk0 1 (by omega)
  have t3 := tk2 3 (by omega)
  show Runs np (e + 1) ((10 + a, i, 0) :: (1, x, 0) :: (3, 0, 0) :: (14, (L.length : Int), 0) :: L) 0 0
  refine Runs.op (h1 := 1) (by omega) ⟨by omega, by omega, by omega⟩ (fun _ => hi) (by omega) (by omega) (by omega) ?_
  refine Runs.op (h1 := 2) (by omega) ⟨by omega, by omega, by omega⟩ (fun _ => by omega) (by omega) (by omega) (by omega) ?_
  refine Runs.op (h1 := 1) (by omega) ⟨by omega, by omega, by omega⟩ (fun _ => by omega) (by omega) (by omega) (by omega) ?_
  exact Runs.cond hL (by omega) hne he
end Go.Proofs.YtdpbdcaefdcooaaGreatDoor
