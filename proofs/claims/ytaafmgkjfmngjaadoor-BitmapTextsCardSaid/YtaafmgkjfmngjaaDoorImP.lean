/-
  image.Put: a bitmap in its frame, dot by dot.
-/
import Derived.Test.YtaafmgkjfmngjaaDoorImG
import Derived.StillTailTactics
import Derived.Laws.MakeOwn
import Derived.RowKit
import Derived.Deep.DeepCutAuto
namespace Go.Proofs.YtaafmgkjfmngjaaDoor
open Go.RowKit
set_option linter.unusedVariables false
set_option linter.unusedSimpArgs false
set_option maxRecDepth 100000



def intC (l : List Int) : Array Value := (l.map (Value.int .i64)).toArray
theorem alloc_size (w : World) (o : Obj) : (w.alloc o).heap.size = w.heap.size + 1 := Array.size_push _
theorem intC_get {l : List Int} {i : Nat} {x : Int} (h : l[i]? = some x) : (intC l)[i]? = some (.int .i64 x) := by simp [intC, h]
theorem intC_set (l : List Int) (i : Nat) (x : Int) : (intC l).setIfInBounds i (.int .i64 x) = intC (l.set i x) := by simp [intC]
theorem isInts_block {w : World} {lo b : Nat} {l : List Int} {cap : Nat} {T : TypeId} {f : Nat × Nat} (hb : w.heap[b]? = some (.cells (intC l) T f)) (hlo : b < lo) (hl : l.length ≤ cap ∧ l.length ≤ 9223372036854775807) (hw : ∀ x ∈ l, wfI x) : IsInts w lo (.slice (some ⟨b, 0, none⟩) l.length cap) l :=
  ⟨_, cap, rfl, hl, fun i x hi => ⟨hw x (List.mem_of_getElem? hi), b, 0, hlo, rfl, by rw [Nat.zero_add, cell_of hb]; exact intC_get hi⟩⟩

theorem info_int : (Tryd.prog.info? 3).map (fun i => (i.zero, i.size, i.bytes)) = some (some (.int .i64 0), 1, 8) := by kernel_rfl
theorem made_ints (n : Nat) : madeCells (Value.int .i64 0).cells (n * 1) = intC (List.replicate n 0) := by
  rw [Nat.mul_one]
  apply Array.ext
  · simp [intC, size_madeCells]
  · intro i h1 h2
    simp [madeCells, intC, Value.cells, Nat.mod_one]
theorem make_ints (n : Nat) (hn : n ≤ 1000000) (w : World) :
    (Instr.makeSlice 22 (.int .i64 (n : Int)) (.int .i64 (n : Int))).run Tryd.prog w = .ok (.slice (some ⟨w.heap.size, 0, none⟩) n n) (w.alloc (.cells (intC (List.replicate n 0)) 3)) := by
  obtain ⟨i, hi, hz, hs, hb⟩ := info_parts info_int
  have hr := run_make (P := Tryd.prog) w 22 3 i _ Tryd.underlying22 hi hz .i64 .i64 n n (by omega) (by omega) (by rw [hb]; omega) (by omega)
  simp only [Int.toNat_natCast, hs, made_ints] at hr
  exact hr

theorem isIm_zero (w : World) (lo : Nat) : IsIm w lo (.agg #[.int .i64 0, .int .i64 0, .slice none 0 0]) zeroI :=
  ⟨_, rfl, ⟨none, 0, rfl, by simp [zeroI], fun i x h => by cases h⟩, by simp only [wfI, zeroI]; omega, by simp only [wfI, zeroI]; omega⟩

end Go.Proofs.YtaafmgkjfmngjaaDoor
