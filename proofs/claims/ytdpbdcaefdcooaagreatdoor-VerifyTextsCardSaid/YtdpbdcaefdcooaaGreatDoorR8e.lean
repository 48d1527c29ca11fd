/-
  What the great laws of chapter 08 share.
-/
import Derived.Test.YtdpbdcaefdcooaaGreatDoorVlw
import Derived.Test.YtdpbdcaefdcooaaGreatDoorR8d
import Derived.Test.YtdpbdcaefdcooaaGreatDoorR8o
namespace Go.Proofs.YtdpbdcaefdcooaaGreatDoor
open Go.RowKit
set_option linter.unusedVariables false
set_option linter.unusedSimpArgs false
set_option maxRecDepth 100000

/-- A program as an argument: its numbers are numbers. -/
def IsRaw (w : World) (lo : Nat) (v : Value) (L : List VOp) : Prop := IsProg w lo v L ∧ ∀ o ∈ L, numOk o.2.1 ∧ numOk o.2.2
theorem IsProg.hi {w : World} {lo lo' : Nat} {v : Value} {L : List VOp} (h : IsProg w lo v L) (hl : lo ≤ lo') : IsProg w lo' v L := by
  obtain ⟨A, cap, e, h1, h2, h⟩ := h
  refine ⟨A, cap, e, h1, h2, fun i c n m hi => ?_⟩
  obtain ⟨pk, po, hk, ea, h0⟩ := h i c n m hi
  exact ⟨pk, po, by omega, ea, h0⟩
theorem IsProg.takeN {w : World} {lo c : Nat} {A : Option Addr} {L : List VOp} (h : IsProg w lo (.slice A L.length c) L) (m : Nat) (hm : m ≤ L.length) : IsProg w lo (.slice A m c) (L.take m) := by
  obtain ⟨A', cap, e, h1, h2, h⟩ := h
  injection e with e1 e2 e3
  subst e1 e3
  refine ⟨A, c, by rw [List.length_take, Nat.min_eq_left hm], by rw [List.length_take]; omega, h2, fun i a b d hi => ?_⟩
  rw [List.getElem?_take] at hi
  split at hi
  · exact h i a b d hi
  · simp at hi
theorem rcheck_ok {np k : Int} {L : List VOp} {d : Nat} {r : List Int} (h : checkM np L = .ok (k, d, r)) (lo : Nat) (v : Value) (w : World) (R : Ending → World → Prop) (hp : IsProg w lo v L) (hlo : lo ≤ w.heap.size)
    (hR : ∀ w' A c, IsC w' w'.heap.size (.slice A (sortedP r).length c) (sortedP r).length 1 ((sortedP r).map (Value.int .i64)) → Nw w w' → R (.returned (.tuple #[.agg #[.int .i64 k, .int .i64 d, .slice A (sortedP r).length c], .int .i64 0])) w') : Calls Tryz.prog 9 #[v, .int .i64 np] w R := by
  refine rcheck_any np lo L v w R hp hlo ?_ ?_
  · intro w' x h2; rw [h] at h2; cases h2
  · intro w' k2 d2 r2 v2 h2 n hown
    rw [h] at h2
    simp only [Except.ok.injEq, Prod.mk.injEq] at h2
    obtain ⟨rfl, rfl, rfl⟩ := h2
    obtain ⟨A, c, rfl⟩ := hown.form
    exact hR w' A c hown.isC n
theorem rcheck_err {np x : Int} {L : List VOp} (h : checkM np L = .error x) (lo : Nat) (v : Value) (w : World) (R : Ending → World → Prop) (hp : IsProg w lo v L) (hlo : lo ≤ w.heap.size)
    (hR : ∀ w', Nw w w' → R (.returned (.tuple #[.agg #[.int .i64 0, .int .i64 0, .slice none 0 0], .int .i64 x])) w') : Calls Tryz.prog 9 #[v, .int .i64 np] w R := by
  refine rcheck_any np lo L v w R hp hlo ?_ ?_
  · intro w' x' h2 n; rw [h] at h2; cases h2; exact hR w' n
  · intro w' k2 d2 r2 v2 h2 n hown; rw [h] at h2; cases h2
/-- Three programs, and where they lie. -/
def Progs (w : World) (lo : Nat) (vs : Array Value) : Prop := ∀ i, i < 3 → ∃ A n c L, vs[i]? = some (.slice A n c) ∧ n = L.length ∧ IsProg w lo (.slice A n c) L ∧ L.length ≤ 1000 ∧ ∀ o ∈ L, numOk o.2.1 ∧ numOk o.2.2
theorem Progs.kept {w w' : World} {lo : Nat} {vs : Array Value} {F : Nat → Prop} (h : Progs w lo vs) (hc : Ch F w w') (hF : ∀ k, k < lo → ¬ F k) : Progs w' lo vs := fun i hi => by
  obtain ⟨A, n, c, L, h1, h2, h3, h4⟩ := h i hi
  exact ⟨A, n, c, L, h1, h2, h3.kept hc hF, h4⟩
theorem progs_of {w : World} {lo a b c ca cb cc : Nat} {A B C : Option Addr} {K L M : List VOp} (ha : IsProg w lo (.slice A a ca) K) (hb : IsProg w lo (.slice B b cb) L) (hc : IsProg w lo (.slice C c cc) M) (ea : a = K.length) (eb : b = L.length) (ec : c = M.length) (la : K.length ≤ 1000) (lb : L.length ≤ 1000) (lc : M.length ≤ 1000)
    (na : ∀ o ∈ K, numOk o.2.1 ∧ numOk o.2.2) (nb : ∀ o ∈ L, numOk o.2.1 ∧ numOk o.2.2) (nc : ∀ o ∈ M, numOk o.2.1 ∧ numOk o.2.2) : Progs w lo #[.slice A a ca, .slice B b cb, .slice C c cc] := fun i hi => by
  match i, hi with
  | 0, _ => exact ⟨A, a, ca, K, rfl, ea, ha, la, na⟩
  | 1, _ => exact ⟨B, b, cb, L, rfl, eb, hb, lb, nb⟩
  | 2, _ => exact ⟨C, c, cc, M, rfl, ec, hc, lc, nc⟩
end Go.Proofs.YtdpbdcaefdcooaaGreatDoor
