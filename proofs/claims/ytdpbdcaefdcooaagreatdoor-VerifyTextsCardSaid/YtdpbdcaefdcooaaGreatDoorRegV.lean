/-
  A byte of a string, read in a region of any order: a law beside wpU's. No conditions: plain lemmas.
-/
import Derived.Test.YtdpbdcaefdcooaaGreatDoorRegU
import Derived.Laws.Strings
import Derived.Laws.Cover1
namespace Go.Proofs.YtdpbdcaefdcooaaGreatDoor
open Go.RowKit
set_option linter.unusedVariables false

theorem goes_idx {P : Program} {ops : Array Oper} {F : World → Prop} {o : Oper} {a : Act} {w0 : World} (t : TypeId) (x y : Operand) (s : ByteArray) (i : Nat) (b : UInt8) (c : Int) (hw : Region.wanted o (yielded ops a.tmps) = true) (ho : o.op = .index t x y) (hu : P.underlying t = some .string)
    (hx : a.eval x = .string s) (hy : a.eval y = .int .i64 (i : Int)) (hb : s.data.toList[i]? = some b) (hc : (b.toNat : Int) = c) : Goes P ops F w0 o (.int .u8 c) a :=
  goes_read hw fun w _ => by
    have hi : i < s.size := by
      have := (List.getElem?_eq_some_iff.1 hb).1
      simpa using this
    have hv : s[i] = b := by
      have := List.getElem?_eq_getElem (l := s.data.toList) (i := i) (by simpa using hi)
      rw [hb] at this
      injection this with this
      rw [this]
      simp [ByteArray.getElem_eq_getElem_data]
    have h1 := run_index_string (P := P) w t s .i64 (i : Int) hu
    rw [dif_pos ⟨by omega, by omega⟩] at h1
    simp only [Int.toNat_natCast, hv, hc] at h1
    simp [execOp, ho, hx, hy, h1, Result.andThen]
/-- The least of three integers. -/
theorem goes_min3 {P : Program} {ops : Array Oper} {F : World → Prop} {o : Oper} {a : Act} {w0 : World} (x y z : Operand) (ts : Array TypeId) (u v t m : Int) (hw : Region.wanted o (yielded ops a.tmps) = true)
    (ho : o.op = .call { callee := .builtin .min, args := #[x, y, z], argTypes := ts }) (hx : a.eval x = .int .i64 u) (hy : a.eval y = .int .i64 v) (hz : a.eval z = .int .i64 t) (hm : m = (if t < (if v < u then v else u) then t else (if v < u then v else u))) : Goes P ops F w0 o (.int .i64 m) a :=
  goes_read hw fun w _ => by
    subst hm
    clear hw
    generalize a.eval = ev at hx hy hz ⊢
    simp [execOp, ho, hx, hy, hz, go_sem, Result.andThen]
end Go.Proofs.YtdpbdcaefdcooaaGreatDoor
