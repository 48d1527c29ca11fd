/-
  What the rows of chapter 22 give the walks: the table of the runes, a number in bytealg's variable; the arguments read as data.
-/
import Derived.Test.YtnhdnjhhjmgmnaaDoorRows
import Derived.Test.YtnhdnjhhjmgmnaaDoorImV
import Derived.ProofKit
import Derived.LaidMore
import Derived.OpenShut
import Derived.LaidHandle
import Derived.MakeChecks
import Derived.HandedShaped
import Derived.Carry
import Derived.Deep.Strs
import Derived.Laws.IdiomArrays
namespace Go.Proofs.YtnhdnjhhjmgmnaaDoor
open Go.ChangeShapes Go.WideShapes Go.ChangeAt Go.RowKit Go.Deep
set_option linter.unusedVariables false
set_option linter.unusedSimpArgs false
set_option maxRecDepth 100000

theorem gRunes : Tryd.prog.globalNamed "indelible/image.runes" = some 0 := by kernel_rfl
theorem tRunes : (Tryd.prog.globals[0]?).map (·.type) = some 84 := by kernel_rfl
theorem laidOut : laidOutB Tryd.prog = true := by kernel_rfl

abbrev theLaid : List (String × DataW Unit) := [("unicode/utf8.acceptRanges", Rows.laid_unicode_utf8_acceptRanges), ("indelible/image.runes", Rows.laid_indelible_image_runes), ("unicode/utf8.first", Rows.laid_unicode_utf8_first)]

/-- A start for the witness: the door's own heap, and the library's table of first bytes laid. -/
def litCell : DataW Unit → Value
  | .lit (.int k n) => Value.int k n
  | _ => Value.int .u8 0
def partsOf : DataW Unit → List (DataW Unit)
  | .agg l => l
  | _ => []
def firstCells : Array Value := ((partsOf Rows.laid_unicode_utf8_first).map litCell).toArray
noncomputable def laidWorld (os : Os) : World :=
  { World.doorLaid Tryd.prog 600 os with heap := (World.doorLaid Tryd.prog 600 os).heap.modify 2 fun | .cells _ t f => .cells firstCells t f | o => o }
/-- The witness's heap meets the condition. -/
theorem door_met (os : Os) (args : Array Value) : laidMetH Tryd.prog theLaid ((laidWorld os).forCall (fun _ _ => 0) ⟨#[], args, []⟩).memory :=
  laidMetH_of_parts3 (fuel := 8) (laidMet_of_run' 8 (by kernel_rfl) (by kernel_rfl)) (by kernel_rfl) (by kernel_rfl)

section
variable {H : Type} {enc : TypeId × Value → H} {W : World}
set_option maxRecDepth 100000 in
theorem runes_of_laid {W : World} (h : laidMetH Tryd.prog theLaid W) : RunesOk W := by
  rw [MakeChecks.laidMetH_plain _ _ _ (by kernel_rfl)] at h
  obtain ⟨ps, ⟨g0, t0, cs0, f0, p0, q0, hg0, ht0, hv0, hd0, ⟨g1, t1, cs1, f1, p1, q1, hg1, ht1, hv1, hd1, -, -⟩, -⟩, -, -⟩ := h
  clear hd0 hv0 hg0 ht0
  obtain rfl := Option.some.inj (gRunes.symm.trans hg1)
  obtain rfl := Option.some.inj (tRunes.symm.trans ht1)
  obtain ⟨xs, m1, -, hx, hlen, hn, hel⟩ := DataW.trod_array Tryd.underlying84 hd1
  have e5 : Tryd.prog.cellsOf 21 = 1 := by kernel_rfl
  simp only [Prod.mk.injEq] at hx
  have hx1 := hx.1
  have hd : (Rows.laid_indelible_image_runes : DataW Unit) = .agg [.lit (.int .i32 46), .lit (.int .i32 35), .lit (.int .i32 63)] := rfl
  rw [hd] at hx1
  simp only [DataW.agg.injEq] at hx1
  match xs, hlen with
  | [x0, x1, x2], _ =>
  simp at hx1
  obtain ⟨a0, a1, a2⟩ := hx1
  have each : ∀ (c : Nat) (z : Int) (x : DataW Unit × List MemPlace), c < 3 → [x0, x1, x2][c]? = some x → x.1 = .lit (.int .i32 z) → W.cell? ⟨0, c, none⟩ = some (.int .i32 z) := by
    intro c z x hc hxc hz
    have h0 := hel c hc
    rw [hxc, e5] at h0
    obtain ⟨n', c3, r3, -⟩ := DataW.trod_int Tryd.underlying21 h0
    rw [r3] at hz
    simp at hz
    subst hz
    rw [World.var?_cell hg1 hv1, ← Array.getElem?_toList]
    have := congrArg (fun l => l[0]?) c3
    simpa [List.getElem?_take, List.getElem?_drop] using this
  intro p h0 h1
  obtain rfl | rfl | rfl : p = 0 ∨ p = 1 ∨ p = 2 := by omega
  · exact each 0 46 x0 (by omega) rfl a0.symm
  · exact each 1 35 x1 (by omega) rfl a1.symm
  · exact each 2 63 x2 (by omega) rfl a2.symm

theorem max_of_shape {W : World} (h : W.ShapedOpen Tryd.prog) : MaxOk W :=
  cell_of_shapedOpen_int (zero := #[.int .i64 0]) (t := 3) h (of_decide_eq_true (by kernel_rfl)) (by kernel_rfl) rfl (by kernel_rfl) (by kernel_rfl) Tryd.underlying3

/-- The plain wrap with a condition on the heap and the world's shape. -/
theorem handed_and_shaped {a : Assume} {C : Checked} {os : Os} {f : FuncId} {fn : Func} {s : ChangeSpec} {conds : List PathCond} {apart fresh handsOn again : Bool} {X : World → Array Value → Prop}
    (hX : ∀ (w w' : World) (args : Array Value), w.heap = w'.heap → X w args → X w' args)
    (own : ownKnob C.prog.godebug = none) (started : os.Started) (noInit : C.prog.inits.idxOf? f = none) (hfn : C.prog.funcs[f]? = some fn)
    (witness : ∃ (w : World) (tape : Tape) (i : Input), w.os = os ∧ (w.forCall tape i).Shaped C.prog ∧ i.vars = [] ∧ Input.okWide C.prog (w.forCall tape i) .any w.heap.size f i ∧
      ((s.pre enc C.prog fn conds apart (w.forCall tape i).memory i.args ∧ X (w.forCall tape i).memory i.args) ∧ sizedMet enc C.prog fn (OpenSpec.ofChange s) apart (w.forCall tape i).memory i.args) ∧ a.holds C.prog (lone (Frame.enter C.prog f i.args .normal) [] (w.forCall tape i)))
    (contract : ∀ (W : World) (base : Nat) (args : Array Value) (ds gs : List (DataW H)) (before : List MemPlace),
      (∀ (j : Nat) t v, fn.params[j]? = some t → args[j]? = some v → Value.okWide C.prog W .any base t v) →
      DataW.Whole enc C.prog fn.params.toList s.vars apart W args.toList ds gs before →
      (DataW.weightsEach C.prog (fn.params.toList ++ s.plain.varTypes C.prog) (ds ++ gs)).all (· ≤ reachBytes) = true → X W args → W.ShapedOpen C.prog →
      Calls C.prog f args W fun e W' => ∃ v, e = .returned v ∧ s.post enc C.prog fn apart fresh handsOn again W args v W') :
    ReturnsInHanded a C os f .any (fun w args => (s.pre enc C.prog fn conds apart w args ∧ X w args) ∧ sizedMet enc C.prog fn (OpenSpec.ofChange s) apart w args) (s.post enc C.prog fn apart fresh handsOn again) := by
  refine returnsInHanded_of_calls own started noInit witness fun w tape i _ hsh _ hok hpre _ => ?_
  obtain ⟨_, _, _, fn', hfn', _, _, _, _, hval⟩ := hok
  obtain rfl : fn' = fn := Option.some.inj (hfn'.symm.trans hfn)
  obtain ⟨⟨⟨ds, gs, before, hw, -⟩, hx⟩, hz⟩ := hpre
  exact (contract (w.forCall tape i) w.heap.size i.args ds gs before hval (DataW.Whole.of_heap (w' := w.forCall tape i) (by rfl) hw) (hz.weights hw) (hX _ _ _ (by rfl) hx) hsh).mono fun e W' ⟨v, he, hp⟩ => by
    subst he
    exact ChangeSpec.post_blind hp
end

theorem wf_of_lit {n : Int} (h : (Lit.int .i64 n).wf = true) : wfI n := by
  simp only [Lit.wf, Bool.and_eq_true, decide_eq_true_eq] at h
  simp [IntKind.min, IntKind.max, IntKind.bits, IntKind.signed] at h
  unfold wfI
  omega

theorem add_off {a : Addr} (h : a.spot = none) (j : Nat) : a.add j = ⟨a.block, a.off + j, none⟩ := by
  obtain ⟨b, o, s⟩ := a
  simp only at h
  subst h
  unfold Addr.add
  split <;> simp_all

/-- The numbers of a slice, from cells. -/
theorem isInts_cells {w : World} {A : Option Addr} {n c : Nat} {zs : List Int} (hl : n ≤ zs.length) (hc0 : n ≤ c) (hm : zs.length ≤ maxLen) (hw : ∀ z ∈ zs, (Lit.int .i64 z).wf = true)
    (hc : ∀ i, i < n → ∃ a, A = some a ∧ w.cell? (a.add i) = some (.int .i64 (zs.getD i 0))) : IsInts w w.heap.size (.slice A n c) (zs.take n) := by
  have hlen : (zs.take n).length = n := by simp; omega
  refine ⟨A, c, by rw [hlen], by rw [hlen]; unfold maxLen at hm; omega, fun i x hi => ?_⟩
  have hin : i < n := by have := (List.getElem?_eq_some_iff.1 hi).1; omega
  rw [List.getElem?_take, if_pos hin] at hi
  obtain ⟨a, ha, hcell⟩ := hc i hin
  have hx : zs.getD i 0 = x := by rw [List.getD_eq_getElem?_getD, hi]; rfl
  rw [hx] at hcell
  have hs : a.spot = none := by
    obtain ⟨a2, ha2, h0⟩ := hc 0 (by omega)
    rw [ha] at ha2
    cases ha2
    simpa [Addr.add] using World.cell?_spot h0
  rw [add_off hs] at hcell
  refine ⟨wf_of_lit (hw x (List.mem_of_getElem? hi)), a.block, a.off, World.block_lt_of_cell? w ⟨a.block, _, none⟩ hcell, ?_, hcell⟩
  rw [ha]
  obtain ⟨b, o, s⟩ := a
  simp only at hs
  subst hs
  rfl

section
variable {H : Type} {enc : TypeId × Value → H} {W : World}
theorem open_Ints1 {cv : Value} {fuel : Nat} {x : DataW H × List MemPlace} (h : DataW.trod enc Tryd.prog W 0 (fun _ => true) true fuel 22 [cv] = some x) : ∃ l, IsInts W W.heap.size cv l := by
  rcases open_ints Tryd.underlying22 Tryd.underlying3 (by kernel_rfl) h with ⟨hcs, _⟩ | ⟨x, l, c', zs, hcs, hnc, hl, hm, hz, _, hcell, hwz⟩
  · simp at hcs
    subst hcs
    exact ⟨[], none, 0, rfl, by simp, fun i x h => by cases h⟩
  · simp at hcs
    subst hcs
    simp only [if_true] at hz
    exact ⟨_, isInts_cells (by omega) (by omega) (by omega) hwz fun i hi => ⟨_, rfl, hcell i (by omega)⟩⟩
theorem open_Int1 {cv : Value} {fuel : Nat} {x : DataW H × List MemPlace} (h : DataW.trod enc Tryd.prog W 0 (fun _ => true) true fuel 3 [cv] = some x) : ∃ n, cv = .int .i64 n ∧ wfI n := by
  obtain ⟨n, hc, _, hw⟩ := DataW.trod_int Tryd.underlying3 h
  simp at hc
  exact ⟨n, hc, wf_of_lit hw⟩
/-! ### Arrays, images -/
theorem ok_arr {t e : TypeId} {n : Nat} {r : Reach} {b0 : Nat} {v : Value} (ht : Tryd.prog.underlying t = some (.array n e)) (h : Value.okWide Tryd.prog W r b0 t v) : ∃ l : List Value, v = .agg l.toArray ∧ l.length = Tryd.prog.cellsOf t := by
  simp only [Value.okWide, ht] at h
  obtain ⟨cs, rfl, h2, -⟩ := h
  exact ⟨cs.toList, by simp, by simpa using h2⟩
theorem open_arr {t e : TypeId} {n : Nat} {l : List Value} {d : DataW H} {ps : List MemPlace} (ht : Tryd.prog.underlying t = some (.array n e)) (hce : Tryd.prog.cellsOf e = 1) (h : DataW.Trod enc Tryd.prog W 0 (fun _ => true) true t (.agg l.toArray) d ps) (hl : l.length = n) :
    ∀ (i : Nat) (c : Value), l[i]? = some c → ∃ m y, DataW.trod enc Tryd.prog W 0 (fun _ => true) true m e [c] = some y := by
  obtain ⟨fuel, hf⟩ := h
  obtain ⟨xs, m1, -, hx, hlen, hn, hel⟩ := DataW.trod_array ht hf
  intro i c hi
  have hin : i < n := by have := (List.getElem?_eq_some_iff.1 hi).1; omega
  have h0 := hel i hin
  rw [hce] at h0
  have e1 : (((Value.agg l.toArray).cells.toList.drop (i * 1)).take 1) = [c] := by
    simp only [Value.cells, Nat.mul_one]
    have hd : (l.drop i) = c :: l.drop (i + 1) := by
      obtain ⟨hlt, hc⟩ := List.getElem?_eq_some_iff.1 hi
      rw [List.drop_eq_getElem_cons hlt, hc]
    simp [hd]
  rw [e1] at h0
  cases hxi : xs[i]? with
  | none => have := List.getElem?_eq_none_iff.1 hxi; omega
  | some y => exact ⟨m1, y, by rw [h0, hxi]⟩
theorem open_Arr4 {v : Value} {d : DataW H} {ps : List MemPlace} {r : Reach} {b0 : Nat} (hv : Value.okWide Tryd.prog W r b0 26 v) (h : DataW.Trod enc Tryd.prog W 0 (fun _ => true) true 26 v d ps) :
    ∃ a b c e, v = .agg #[.int .i64 a, .int .i64 b, .int .i64 c, .int .i64 e] ∧ wfI a ∧ wfI b ∧ wfI c ∧ wfI e := by
  obtain ⟨l, rfl, hl⟩ := ok_arr Tryd.underlying26 hv
  rw [show Tryd.prog.cellsOf 26 = 4 from by kernel_rfl] at hl
  match l, hl with
  | [c0, c1, c2, c3], _ =>
  have each := open_arr Tryd.underlying26 (by kernel_rfl) h rfl
  obtain ⟨_, _, h0⟩ := each 0 c0 rfl
  obtain ⟨_, _, h1⟩ := each 1 c1 rfl
  obtain ⟨_, _, h2⟩ := each 2 c2 rfl
  obtain ⟨_, _, h3⟩ := each 3 c3 rfl
  obtain ⟨a, rfl, wa⟩ := open_Int1 h0
  obtain ⟨b, rfl, wb⟩ := open_Int1 h1
  obtain ⟨c, rfl, wc⟩ := open_Int1 h2
  obtain ⟨e, rfl, we⟩ := open_Int1 h3
  exact ⟨a, b, c, e, rfl, wa, wb, wc, we⟩
theorem open_Arr2 {v : Value} {d : DataW H} {ps : List MemPlace} {r : Reach} {b0 : Nat} (hv : Value.okWide Tryd.prog W r b0 35 v) (h : DataW.Trod enc Tryd.prog W 0 (fun _ => true) true 35 v d ps) :
    ∃ a b, v = .agg #[.int .i64 a, .int .i64 b] ∧ wfI a ∧ wfI b := by
  obtain ⟨l, rfl, hl⟩ := ok_arr Tryd.underlying35 hv
  rw [show Tryd.prog.cellsOf 35 = 2 from by kernel_rfl] at hl
  match l, hl with
  | [c0, c1], _ =>
  have each := open_arr Tryd.underlying35 (by kernel_rfl) h rfl
  obtain ⟨_, _, h0⟩ := each 0 c0 rfl
  obtain ⟨_, _, h1⟩ := each 1 c1 rfl
  obtain ⟨a, rfl, wa⟩ := open_Int1 h0
  obtain ⟨b, rfl, wb⟩ := open_Int1 h1
  exact ⟨a, b, rfl, wa, wb⟩
theorem open_Arr2L {v : Value} {d : DataW H} {ps : List MemPlace} {r : Reach} {b0 : Nat} (hv : Value.okWide Tryd.prog W r b0 23 v) (h : DataW.Trod enc Tryd.prog W 0 (fun _ => true) true 23 v d ps) :
    ∃ va vb la lb, v = .agg #[va, vb] ∧ IsInts W W.heap.size va la ∧ IsInts W W.heap.size vb lb := by
  obtain ⟨l, rfl, hl⟩ := ok_arr Tryd.underlying23 hv
  rw [show Tryd.prog.cellsOf 23 = 2 from by kernel_rfl] at hl
  match l, hl with
  | [c0, c1], _ =>
  have each := open_arr Tryd.underlying23 (by kernel_rfl) h rfl
  obtain ⟨_, _, h0⟩ := each 0 c0 rfl
  obtain ⟨_, _, h1⟩ := each 1 c1 rfl
  obtain ⟨la, ha⟩ := open_Ints1 h0
  obtain ⟨lb, hb⟩ := open_Ints1 h1
  exact ⟨_, _, la, lb, rfl, ha, hb⟩
theorem open_Arr3L {v : Value} {d : DataW H} {ps : List MemPlace} {r : Reach} {b0 : Nat} (hv : Value.okWide Tryd.prog W r b0 61 v) (h : DataW.Trod enc Tryd.prog W 0 (fun _ => true) true 61 v d ps) :
    ∃ va vb vc la lb lc, v = .agg #[va, vb, vc] ∧ IsInts W W.heap.size va la ∧ IsInts W W.heap.size vb lb ∧ IsInts W W.heap.size vc lc := by
  obtain ⟨l, rfl, hl⟩ := ok_arr Tryd.underlying61 hv
  rw [show Tryd.prog.cellsOf 61 = 3 from by kernel_rfl] at hl
  match l, hl with
  | [c0, c1, c2], _ =>
  have each := open_arr Tryd.underlying61 (by kernel_rfl) h rfl
  obtain ⟨_, _, h0⟩ := each 0 c0 rfl
  obtain ⟨_, _, h1⟩ := each 1 c1 rfl
  obtain ⟨_, _, h2⟩ := each 2 c2 rfl
  obtain ⟨la, ha⟩ := open_Ints1 h0
  obtain ⟨lb, hb⟩ := open_Ints1 h1
  obtain ⟨lc, hc⟩ := open_Ints1 h2
  exact ⟨_, _, _, la, lb, lc, rfl, ha, hb, hc⟩
theorem open_IntsV {v : Value} {A : Option Addr} {n c : Nat} {d : DataW H} {ps : List MemPlace} (hv : v = .slice A n c) (h : DataW.Trod enc Tryd.prog W 0 (fun _ => true) true 22 v d ps) : ∃ l, IsInts W W.heap.size v l := by
  subst hv
  obtain ⟨fuel, hf⟩ := h
  exact open_Ints1 (by simpa [Value.cells] using hf)
theorem open_Im {v : Value} {d : DataW H} {ps : List MemPlace} {r : Reach} {b0 : Nat} (hv : Value.okWide Tryd.prog W r b0 25 v) (h : DataW.Trod enc Tryd.prog W 0 (fun _ => true) true 25 v d ps) : ∃ x, IsIm W W.heap.size v x := by
  obtain ⟨cs, rfl, hsz⟩ := okWide_struct Tryd.underlying25 hv
  rw [show Tryd.prog.cellsOf 25 = 3 from by kernel_rfl] at hsz
  obtain ⟨l, rfl⟩ : ∃ l : List Value, cs = l.toArray := ⟨cs.toList, by simp⟩
  match l, hsz with
  | [c0, c1, c2], _ =>
  obtain ⟨fuel, hf⟩ := h
  obtain ⟨y0, y1, y2, n, -, -, h0, h1, h2⟩ := trod_struct3 Tryd.underlying25 hf
  have e0 : Tryd.prog.cellsOf 22 = 1 := by kernel_rfl
  have e3 : Tryd.prog.cellsOf 3 = 1 := by kernel_rfl
  simp only [e0, e3, Value.cells] at h0 h1 h2
  obtain ⟨a, rfl, wa⟩ := open_Int1 (by simpa using h0)
  obtain ⟨b, rfl, wb⟩ := open_Int1 (by simpa using h1)
  obtain ⟨la, ha⟩ := open_Ints1 (by simpa using h2)
  exact ⟨(a, b, la), c2, rfl, ha, wa, wb⟩
end
end Go.Proofs.YtnhdnjhhjmgmnaaDoor
