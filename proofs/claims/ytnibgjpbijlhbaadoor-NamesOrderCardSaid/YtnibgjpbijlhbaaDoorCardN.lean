/-
  What the rows of chapter 12 give the walks: a number in bytealg's variable; the arguments read as data: cases, bytes, small arrays.
-/
import Derived.Test.YtnibgjpbijlhbaaDoorRows
import Derived.Test.YtnibgjpbijlhbaaDoorLw12
import Derived.ProofKit
import Derived.LaidMore
import Derived.OpenShut
import Derived.LaidHandle
import Derived.MakeChecks
import Derived.HandedShaped
import Derived.Carry
import Derived.Deep.Strs
import Derived.Deep.Grids
import Derived.Laws.IdiomArrays
namespace Go.Proofs.YtnibgjpbijlhbaaDoor
open Go.ChangeShapes Go.WideShapes Go.ChangeAt Go.RowKit Go.Deep
set_option linter.unusedVariables false
set_option linter.unusedSimpArgs false
set_option maxRecDepth 100000

theorem laidOut : laidOutB Tryd.prog = true := by kernel_rfl

abbrev theLaid : List (String × DataW Unit) := [("unicode/utf8.acceptRanges", Rows.laid_unicode_utf8_acceptRanges), ("unicode/utf8.first", Rows.laid_unicode_utf8_first)]

/-- A start for the witness: the door's own heap, and the library's table of first bytes laid. -/
def litCell : DataW Unit → Value
  | .lit (.int k n) => Value.int k n
  | _ => Value.int .u8 0
def partsOf : DataW Unit → List (DataW Unit)
  | .agg l => l
  | _ => []
def firstCells : Array Value := ((partsOf Rows.laid_unicode_utf8_first).map litCell).toArray
noncomputable def laidWorld (os : Os) : World :=
  { World.doorLaid Tryd.prog 600 os with heap := (World.doorLaid Tryd.prog 600 os).heap.modify 1 fun | .cells _ t f => .cells firstCells t f | o => o }
/-- The witness's heap meets the condition. -/
theorem door_met (os : Os) (args : Array Value) : laidMetH Tryd.prog theLaid ((laidWorld os).forCall (fun _ _ => 0) ⟨#[], args, []⟩).memory :=
  laidMetH_of_parts3 (fuel := 8) (laidMet_of_run' 8 (by kernel_rfl) (by kernel_rfl)) (by kernel_rfl) (by kernel_rfl)

section
variable {H : Type} {enc : TypeId × Value → H} {W : World}
theorem max_of_shape {W : World} (h : W.ShapedOpen Tryd.prog) : MaxOk W :=
  cell_of_shapedOpen_int (zero := #[.int .i64 0]) (t := 3) h (of_decide_eq_true (by kernel_rfl)) (by kernel_rfl) rfl (by kernel_rfl) (by kernel_rfl) Tryd.underlying3

/-- The plain wrap with a condition on the heap and the world's shape. -/
theorem handed_and_shaped {a : Assume} {C : Checked} {os : Os} {f : FuncId} {fn : Func} {s : ChangeSpec} {conds : List PathCond} {apart fresh handsOn again : Bool} {X : World → Array Value → Prop}
    (hX : ∀ (w w' : World) (args : Array Value), w.heap = w'.heap → X w args → X w' args)
    (own : ownKnob C.prog.godebug = none) (started : os.Started) (noInit : C.prog.inits.idxOf? f = none) (hfn : C.prog.funcs[f]? = some fn)
    (witness : ∃ (w : World) (tape : Tape) (i : Input), w.os = os ∧ (w.forCall tape i).Shaped C.prog ∧ i.vars = [] ∧ Input.okWide C.prog (w.forCall tape i) .any w.heap.size f i ∧
      ((s.pre enc C.prog fn conds apart (w.forCall tape i).memory i.args ∧ X (w.forCall tape i).memory i.args) ∧ sizedMet enc C.prog fn (OpenSpec.ofChange s) apart (w.forCall tape i).memory i.args) ∧ a.holds C.prog (lone (Frame.enter C.prog f i.args .normal) [] (w.forCall tape i)))
    (contract : ∀ (W : World) (base : Nat) (args : Array Value) (ds gs : List (DataW H)) (before : List MemPlace),
      (∀ (j : Nat) t v, fn.params[j]? = some t → args[j]? = some v → Value.okWide C.prog W .any base t v) →
      DataW.Whole enc C.prog fn.params.toList s.vars apart W args.toList ds gs before →
      (DataW.weightsEach C.prog (fn.params.toList ++ s.plain.varTypes C.prog) (ds ++ gs)).all (· ≤ reachBytes) = true → X W args → W.ShapedOpen C.prog →
      Calls C.prog f args W fun e W' => ∃ v, e = .returned v ∧ s.post enc C.prog fn apart fresh handsOn again W args v W') :
    ReturnsInHanded a C os f .any (fun w args => (s.pre enc C.prog fn conds apart w args ∧ X w args) ∧ sizedMet enc C.prog fn (OpenSpec.ofChange s) apart w args) (s.post enc C.prog fn apart fresh handsOn again) := by
  refine returnsInHanded_of_calls own started noInit witness fun w tape i _ hsh _ hok hpre _ => ?_
  obtain ⟨_, _, _, fn', hfn', _, _, _, _, hval⟩ := hok
  obtain rfl : fn' = fn := Option.some.inj (hfn'.symm.trans hfn)
  obtain ⟨⟨⟨ds, gs, before, hw, -⟩, hx⟩, hz⟩ := hpre
  exact (contract (w.forCall tape i) w.heap.size i.args ds gs before hval (DataW.Whole.of_heap (w' := w.forCall tape i) (by rfl) hw) (hz.weights hw) (hX _ _ _ (by rfl) hx) hsh).mono fun e W' ⟨v, he, hp⟩ => by
    subst he
    exact ChangeSpec.post_blind hp
end

theorem wf_of_lit {n : Int} (h : (Lit.int .i64 n).wf = true) : wfI n := by
  simp only [Lit.wf, Bool.and_eq_true, decide_eq_true_eq] at h
  simp [IntKind.min, IntKind.max, IntKind.bits, IntKind.signed] at h
  unfold wfI
  omega

theorem add_off {a : Addr} (h : a.spot = none) (j : Nat) : a.add j = ⟨a.block, a.off + j, none⟩ := by
  obtain ⟨b, o, s⟩ := a
  simp only at h
  subst h
  unfold Addr.add
  split <;> simp_all

/-- The numbers of a slice, from cells. -/
theorem isInts_cells {w : World} {A : Option Addr} {n c : Nat} {zs : List Int} (hl : n ≤ zs.length) (hc0 : n ≤ c) (hm : zs.length ≤ maxLen) (hw : ∀ z ∈ zs, (Lit.int .i64 z).wf = true)
    (hc : ∀ i, i < n → ∃ a, A = some a ∧ w.cell? (a.add i) = some (.int .i64 (zs.getD i 0))) : IsInts w w.heap.size (.slice A n c) (zs.take n) := by
  have hlen : (zs.take n).length = n := by simp; omega
  refine ⟨A, c, by rw [hlen], by rw [hlen]; unfold maxLen at hm; omega, fun i x hi => ?_⟩
  have hin : i < n := by have := (List.getElem?_eq_some_iff.1 hi).1; omega
  rw [List.getElem?_take, if_pos hin] at hi
  obtain ⟨a, ha, hcell⟩ := hc i hin
  have hx : zs.getD i 0 = x := by rw [List.getD_eq_getElem?_getD, hi]; rfl
  rw [hx] at hcell
  have hs : a.spot = none := by
    obtain ⟨a2, ha2, h0⟩ := hc 0 (by omega)
    rw [ha] at ha2
    cases ha2
    simpa [Addr.add] using World.cell?_spot h0
  rw [add_off hs] at hcell
  refine ⟨wf_of_lit (hw x (List.mem_of_getElem? hi)), a.block, a.off, World.block_lt_of_cell? w ⟨a.block, _, none⟩ hcell, ?_, hcell⟩
  rw [ha]
  obtain ⟨b, o, s⟩ := a
  simp only at hs
  subst hs
  rfl

section
variable {H : Type} {enc : TypeId × Value → H} {W : World}
theorem open_Ints1 {cv : Value} {fuel : Nat} {x : DataW H × List MemPlace} (h : DataW.trod enc Tryd.prog W 0 (fun _ => true) true fuel 22 [cv] = some x) : ∃ l, IsInts W W.heap.size cv l := by
  rcases open_ints Tryd.underlying22 Tryd.underlying3 (by kernel_rfl) h with ⟨hcs, _⟩ | ⟨x, l, c', zs, hcs, hnc, hl, hm, hz, _, hcell, hwz⟩
  · simp at hcs
    subst hcs
    exact ⟨[], none, 0, rfl, by simp, fun i x h => by cases h⟩
  · simp at hcs
    subst hcs
    simp only [if_true] at hz
    exact ⟨_, isInts_cells (by omega) (by omega) (by omega) hwz fun i hi => ⟨_, rfl, hcell i (by omega)⟩⟩
theorem open_Int1 {cv : Value} {fuel : Nat} {x : DataW H × List MemPlace} (h : DataW.trod enc Tryd.prog W 0 (fun _ => true) true fuel 3 [cv] = some x) : ∃ n, cv = .int .i64 n ∧ wfI n := by
  obtain ⟨n, hc, _, hw⟩ := DataW.trod_int Tryd.underlying3 h
  simp at hc
  exact ⟨n, hc, wf_of_lit hw⟩
theorem ok_arr {t e : TypeId} {n : Nat} {r : Reach} {b0 : Nat} {v : Value} (ht : Tryd.prog.underlying t = some (.array n e)) (h : Value.okWide Tryd.prog W r b0 t v) : ∃ l : List Value, v = .agg l.toArray ∧ l.length = Tryd.prog.cellsOf t := by
  simp only [Value.okWide, ht] at h
  obtain ⟨cs, rfl, h2, -⟩ := h
  exact ⟨cs.toList, by simp, by simpa using h2⟩
theorem open_arr {t e : TypeId} {n : Nat} {l : List Value} {d : DataW H} {ps : List MemPlace} (ht : Tryd.prog.underlying t = some (.array n e)) (hce : Tryd.prog.cellsOf e = 1) (h : DataW.Trod enc Tryd.prog W 0 (fun _ => true) true t (.agg l.toArray) d ps) (hl : l.length = n) :
    ∀ (i : Nat) (c : Value), l[i]? = some c → ∃ m y, DataW.trod enc Tryd.prog W 0 (fun _ => true) true m e [c] = some y := by
  obtain ⟨fuel, hf⟩ := h
  obtain ⟨xs, m1, -, hx, hlen, hn, hel⟩ := DataW.trod_array ht hf
  intro i c hi
  have hin : i < n := by have := (List.getElem?_eq_some_iff.1 hi).1; omega
  have h0 := hel i hin
  rw [hce] at h0
  have e1 : (((Value.agg l.toArray).cells.toList.drop (i * 1)).take 1) = [c] := by
    simp only [Value.cells, Nat.mul_one]
    have hd : (l.drop i) = c :: l.drop (i + 1) := by
      obtain ⟨hlt, hc⟩ := List.getElem?_eq_some_iff.1 hi
      rw [List.drop_eq_getElem_cons hlt, hc]
    simp [hd]
  rw [e1] at h0
  cases hxi : xs[i]? with
  | none => have := List.getElem?_eq_none_iff.1 hxi; omega
  | some y => exact ⟨m1, y, by rw [h0, hxi]⟩
theorem open_ArrL3 {l : List Value} {fuel : Nat} {x : DataW H × List MemPlace} (h : DataW.trod enc Tryd.prog W 0 (fun _ => true) true fuel 23 l = some x) (hl : l.length = 3) :
    ∃ a b c, l = [.int .i64 a, .int .i64 b, .int .i64 c] ∧ wfI a ∧ wfI b ∧ wfI c := by
  match l, hl with
  | [c0, c1, c2], _ =>
  have each := open_arr (l := [c0, c1, c2]) Tryd.underlying23 (by kernel_rfl) ⟨fuel, by simpa [Value.cells] using h⟩ rfl
  obtain ⟨_, _, h0⟩ := each 0 c0 rfl
  obtain ⟨_, _, h1⟩ := each 1 c1 rfl
  obtain ⟨_, _, h2⟩ := each 2 c2 rfl
  obtain ⟨a, rfl, wa⟩ := open_Int1 h0
  obtain ⟨b, rfl, wb⟩ := open_Int1 h1
  obtain ⟨c, rfl, wc⟩ := open_Int1 h2
  exact ⟨a, b, c, rfl, wa, wb, wc⟩
theorem trod_struct3 {P : Program} {w : World} {base : Nat} {spare : Nat → Bool} {held : Bool} {t : TypeId} {f0 f1 f2 : Field} {fuel : Nat} {cs : List Value} {x : DataW H × List MemPlace} (ht : P.underlying t = some (.struct #[f0, f1, f2])) (h : DataW.trod enc P w base spare held fuel t cs = some x) :
    ∃ y0 y1 y2 n, DataW.trod enc P w base spare held n f0.type ((cs.drop f0.offset).take (P.cellsOf f0.type)) = some y0 ∧
      DataW.trod enc P w base spare held n f1.type ((cs.drop f1.offset).take (P.cellsOf f1.type)) = some y1 ∧ DataW.trod enc P w base spare held n f2.type ((cs.drop f2.offset).take (P.cellsOf f2.type)) = some y2 := by
  obtain ⟨xs, n, _, rfl, hl, hlen, hf⟩ := DataW.trod_struct ht h
  match xs, hlen with
  | [y0, y1, y2], _ => exact ⟨y0, y1, y2, n, by simpa using hf 0 f0 rfl, by simpa using hf 1 f1 rfl, by simpa using hf 2 f2 rfl⟩
theorem open_Str1 {cv : Value} {fuel : Nat} {x : DataW H × List MemPlace} (h : DataW.trod enc Tryd.prog W 0 (fun _ => true) true fuel 9 [cv] = some x) : ∃ z, cv = .string z := by
  obtain ⟨z, hc, -⟩ := DataW.trod_string Tryd.underlying9 h
  simp at hc
  exact ⟨z, hc⟩
theorem open_Case12 {v : Value} {d : DataW H} {ps : List MemPlace} {r : Reach} {b0 : Nat} (hv : Value.okWide Tryd.prog W r b0 25 v) (h : DataW.Trod enc Tryd.prog W 0 (fun _ => true) true 25 v d ps) :
    ∃ va la a b c z, v = .agg #[va, .int .i64 a, .int .i64 b, .int .i64 c, .string z] ∧ IsInts W W.heap.size va la ∧ wfI a ∧ wfI b ∧ wfI c := by
  obtain ⟨cs, rfl, hsz⟩ := okWide_struct Tryd.underlying25 hv
  rw [show Tryd.prog.cellsOf 25 = 5 from by kernel_rfl] at hsz
  obtain ⟨l, rfl⟩ : ∃ l : List Value, cs = l.toArray := ⟨cs.toList, by simp⟩
  match l, hsz with
  | [c0, c1, c2, c3, c4], _ =>
  obtain ⟨fuel, hf⟩ := h
  obtain ⟨y0, y1, y2, n, h0, h1, h2⟩ := trod_struct3 Tryd.underlying25 hf
  have e0 : Tryd.prog.cellsOf 22 = 1 := by kernel_rfl
  have e2 : Tryd.prog.cellsOf 9 = 1 := by kernel_rfl
  have e3 : Tryd.prog.cellsOf 23 = 3 := by kernel_rfl
  simp only [e0, e2, e3, Value.cells] at h0 h1 h2
  obtain ⟨la, ha⟩ := open_Ints1 (by simpa using h0)
  obtain ⟨a, b, c, he, w0, w1, w2⟩ := open_ArrL3 (l := [c1, c2, c3]) (by simpa using h1) rfl
  obtain ⟨z, rfl⟩ := open_Str1 (by simpa using h2)
  simp only [List.cons.injEq, and_true] at he
  obtain ⟨rfl, rfl, rfl⟩ := he
  exact ⟨c0, la, a, b, c, z, rfl, ha, w0, w1, w2⟩
theorem u8_of_lit {n : Int} (h : (Lit.int .u8 n).wf = true) : ∃ b : UInt8, n = (b.toNat : Int) := by
  simp only [Lit.wf, Bool.and_eq_true, decide_eq_true_eq] at h
  simp [IntKind.min, IntKind.max, IntKind.bits, IntKind.signed] at h
  exact ⟨UInt8.ofNat n.toNat, by rw [UInt8.toNat_ofNat_of_lt' (by simp [UInt8.size]; omega)]; omega⟩
theorem nat8_of_lit {n : Int} (h : (Lit.int .u8 n).wf = true) : ∃ k : Nat, n = (k : Int) ∧ k ≤ 255 := by
  simp only [Lit.wf, Bool.and_eq_true, decide_eq_true_eq] at h
  simp [IntKind.min, IntKind.max, IntKind.bits, IntKind.signed] at h
  exact ⟨n.toNat, by omega, by omega⟩
theorem nat16_of_lit {n : Int} (h : (Lit.int .u16 n).wf = true) : ∃ k : Nat, n = (k : Int) ∧ k ≤ 65535 := by
  simp only [Lit.wf, Bool.and_eq_true, decide_eq_true_eq] at h
  simp [IntKind.min, IntKind.max, IntKind.bits, IntKind.signed] at h
  exact ⟨n.toNat, by omega, by omega⟩
theorem open_N2 {v : Value} {d : DataW H} {ps : List MemPlace} {r : Reach} {b0 : Nat} (hv : Value.okWide Tryd.prog W r b0 42 v) (h : DataW.Trod enc Tryd.prog W 0 (fun _ => true) true 42 v d ps) :
    ∃ a b : Nat, v = .agg #[.int .u16 a, .int .u16 b] ∧ a ≤ 65535 ∧ b ≤ 65535 := by
  obtain ⟨l, rfl, hl⟩ := ok_arr Tryd.underlying42 hv
  rw [show Tryd.prog.cellsOf 42 = 2 from by kernel_rfl] at hl
  match l, hl with
  | [c0, c1], _ =>
  have each := open_arr Tryd.underlying42 (by kernel_rfl) h rfl
  obtain ⟨_, _, h0⟩ := each 0 c0 rfl
  obtain ⟨_, _, h1⟩ := each 1 c1 rfl
  obtain ⟨a, ha, _, wa⟩ := DataW.trod_int Tryd.underlying41 h0
  obtain ⟨b, hb, _, wb⟩ := DataW.trod_int Tryd.underlying41 h1
  simp at ha hb
  subst ha hb
  obtain ⟨a, rfl, ka⟩ := nat16_of_lit wa
  obtain ⟨b, rfl, kb⟩ := nat16_of_lit wb
  exact ⟨a, b, rfl, ka, kb⟩
theorem open_Z2 {v : Value} {d : DataW H} {ps : List MemPlace} {r : Reach} {b0 : Nat} (hv : Value.okWide Tryd.prog W r b0 43 v) (h : DataW.Trod enc Tryd.prog W 0 (fun _ => true) true 43 v d ps) :
    ∃ a b : Nat, v = .agg #[.int .u8 a, .int .u8 b] ∧ a ≤ 255 ∧ b ≤ 255 := by
  obtain ⟨l, rfl, hl⟩ := ok_arr Tryd.underlying43 hv
  rw [show Tryd.prog.cellsOf 43 = 2 from by kernel_rfl] at hl
  match l, hl with
  | [c0, c1], _ =>
  have each := open_arr Tryd.underlying43 (by kernel_rfl) h rfl
  obtain ⟨_, _, h0⟩ := each 0 c0 rfl
  obtain ⟨_, _, h1⟩ := each 1 c1 rfl
  obtain ⟨a, ha, _, wa⟩ := DataW.trod_int Tryd.underlying5 h0
  obtain ⟨b, hb, _, wb⟩ := DataW.trod_int Tryd.underlying5 h1
  simp at ha hb
  subst ha hb
  obtain ⟨a, rfl, ka⟩ := nat8_of_lit wa
  obtain ⟨b, rfl, kb⟩ := nat8_of_lit wb
  exact ⟨a, b, rfl, ka, kb⟩
end
end Go.Proofs.YtnibgjpbijlhbaaDoor
