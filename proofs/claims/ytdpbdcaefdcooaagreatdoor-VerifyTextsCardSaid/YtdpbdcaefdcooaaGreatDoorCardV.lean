/-
  What the rows of chapter 08 give the walks: the library's variables, the table of the kinds; the arguments read as data.
-/
import Derived.Test.YtdpbdcaefdcooaaGreatDoorRows
import Derived.Test.YtdpbdcaefdcooaaGreatDoorVLaid
import Derived.Test.YtdpbdcaefdcooaaGreatDoorMo8
import Derived.Test.YtdpbdcaefdcooaaGreatDoorVk
import Derived.ProofKit
import Derived.LaidMore
import Derived.OpenShut
import Derived.LaidHandle
import Derived.LaidSub
import Derived.MakeChecks
import Derived.HandedShaped
import Derived.Carry
import Derived.Deep.Strs
import Derived.Deep.Grids
import Derived.Laws.IdiomArrays
import Derived.Lib.LaidTab
import Derived.Shelf.Vars
namespace Go.Proofs.YtdpbdcaefdcooaaGreatDoor
open Go.ChangeShapes Go.WideShapes Go.ChangeAt Go.RowKit Go.Deep
set_option linter.unusedVariables false
set_option linter.unusedSimpArgs false
set_option maxRecDepth 100000

theorem laidOut : laidOutB Tryz.prog = true := by kernel_rfl

abbrev theLaid : List (String × DataW Unit) := [("math/bits.deBruijn32tab", Rows.laid_math_bits_deBruijn32tab), ("math/bits.deBruijn64tab", Rows.laid_math_bits_deBruijn64tab), ("internal/strconv.uint64pow10", Rows.laid_internal_strconv_uint64pow10), ("unicode/utf8.acceptRanges", Rows.laid_unicode_utf8_acceptRanges), ("strconv.ErrRange", Rows.laid_strconv_ErrRange), ("strconv.ErrSyntax", Rows.laid_strconv_ErrSyntax), ("indelible/verify.kinds", Rows.laid_indelible_verify_kinds), ("unicode/utf8.first", Rows.laid_unicode_utf8_first)]

/-- A start for the witness: the door's own heap, and the library's table of first bytes laid. -/
def litCell : DataW Unit → Value
  | .lit (.int k n) => Value.int k n
  | _ => Value.int .u8 0
def partsOf : DataW Unit → List (DataW Unit)
  | .agg l => l
  | _ => []
def firstCells : Array Value := ((partsOf Rows.laid_unicode_utf8_first).map litCell).toArray
noncomputable def laidWorld (os : Os) : World :=
  { World.doorLaid Tryz.prog 600 os with heap := (World.doorLaid Tryz.prog 600 os).heap.modify 5 fun | .cells _ t f => .cells firstCells t f | o => o }
/-- The witness's heap meets the condition. -/
theorem door_met (os : Os) (args : Array Value) : laidMetH Tryz.prog theLaid ((laidWorld os).forCall (fun _ _ => 0) ⟨#[], args, []⟩).memory :=
  laidMetH_of_parts3 (fuel := 8) (laidMet_of_run' 8 (by kernel_rfl) (by kernel_rfl)) (by kernel_rfl) (by kernel_rfl)

section
variable {H : Type} {enc : TypeId × Value → H} {W : World}
/-- The plain wrap with a condition on the heap and the world's shape. -/
theorem handed_and_shaped {a : Assume} {C : Checked} {os : Os} {f : FuncId} {fn : Func} {s : ChangeSpec} {conds : List PathCond} {apart fresh handsOn again : Bool} {X : World → Array Value → Prop}
    (hX : ∀ (w w' : World) (args : Array Value), w.heap = w'.heap → X w args → X w' args)
    (own : ownKnob C.prog.godebug = none) (started : os.Started) (noInit : C.prog.inits.idxOf? f = none) (hfn : C.prog.funcs[f]? = some fn)
    (witness : ∃ (w : World) (tape : Tape) (i : Input), w.os = os ∧ (w.forCall tape i).Shaped C.prog ∧ i.vars = [] ∧ Input.okWide C.prog (w.forCall tape i) .any w.heap.size f i ∧
      ((s.pre enc C.prog fn conds apart (w.forCall tape i).memory i.args ∧ X (w.forCall tape i).memory i.args) ∧ sizedMet enc C.prog fn (OpenSpec.ofChange s) apart (w.forCall tape i).memory i.args) ∧ a.holds C.prog (lone (Frame.enter C.prog f i.args .normal) [] (w.forCall tape i)))
    (contract : ∀ (W : World) (base : Nat) (args : Array Value) (ds gs : List (DataW H)) (before : List MemPlace),
      (∀ (j : Nat) t v, fn.params[j]? = some t → args[j]? = some v → Value.okWide C.prog W .any base t v) →
      DataW.Whole enc C.prog fn.params.toList s.vars apart W args.toList ds gs before →
      (DataW.weightsEach C.prog (fn.params.toList ++ s.plain.varTypes C.prog) (ds ++ gs)).all (· ≤ reachBytes) = true → X W args → W.ShapedOpen C.prog →
      Calls C.prog f args W fun e W' => ∃ v, e = .returned v ∧ s.post enc C.prog fn apart fresh handsOn again W args v W') :
    ReturnsInHanded a C os f .any (fun w args => (s.pre enc C.prog fn conds apart w args ∧ X w args) ∧ sizedMet enc C.prog fn (OpenSpec.ofChange s) apart w args) (s.post enc C.prog fn apart fresh handsOn again) := by
  refine returnsInHanded_of_calls own started noInit witness fun w tape i _ hsh _ hok hpre _ => ?_
  obtain ⟨_, _, _, fn', hfn', _, _, _, _, hval⟩ := hok
  obtain rfl : fn' = fn := Option.some.inj (hfn'.symm.trans hfn)
  obtain ⟨⟨⟨ds, gs, before, hw, -⟩, hx⟩, hz⟩ := hpre
  exact (contract (w.forCall tape i) w.heap.size i.args ds gs before hval (DataW.Whole.of_heap (w' := w.forCall tape i) (by rfl) hw) (hz.weights hw) (hX _ _ _ (by rfl) hx) hsh).mono fun e W' ⟨v, he, hp⟩ => by
    subst he
    exact ChangeSpec.post_blind hp
end

theorem wf_of_lit {n : Int} (h : (Lit.int .i64 n).wf = true) : wfI n := by
  simp only [Lit.wf, Bool.and_eq_true, decide_eq_true_eq] at h
  simp [IntKind.min, IntKind.max, IntKind.bits, IntKind.signed] at h
  unfold wfI
  omega

theorem add_off {a : Addr} (h : a.spot = none) (j : Nat) : a.add j = ⟨a.block, a.off + j, none⟩ := by
  obtain ⟨b, o, s⟩ := a
  simp only at h
  subst h
  unfold Addr.add
  split <;> simp_all

/-- The numbers of a slice, from cells. -/
theorem isInts_cells {w : World} {A : Option Addr} {n c : Nat} {zs : List Int} (hl : n ≤ zs.length) (hc0 : n ≤ c) (hm : zs.length ≤ maxLen) (hw : ∀ z ∈ zs, (Lit.int .i64 z).wf = true)
    (hc : ∀ i, i < n → ∃ a, A = some a ∧ w.cell? (a.add i) = some (.int .i64 (zs.getD i 0))) : IsInts w w.heap.size (.slice A n c) (zs.take n) := by
  have hlen : (zs.take n).length = n := by simp; omega
  refine ⟨A, c, by rw [hlen], by rw [hlen]; unfold maxLen at hm; omega, fun i x hi => ?_⟩
  have hin : i < n := by have := (List.getElem?_eq_some_iff.1 hi).1; omega
  rw [List.getElem?_take, if_pos hin] at hi
  obtain ⟨a, ha, hcell⟩ := hc i hin
  have hx : zs.getD i 0 = x := by rw [List.getD_eq_getElem?_getD, hi]; rfl
  rw [hx] at hcell
  have hs : a.spot = none := by
    obtain ⟨a2, ha2, h0⟩ := hc 0 (by omega)
    rw [ha] at ha2
    cases ha2
    simpa [Addr.add] using World.cell?_spot h0
  rw [add_off hs] at hcell
  refine ⟨wf_of_lit (hw x (List.mem_of_getElem? hi)), a.block, a.off, World.block_lt_of_cell? w ⟨a.block, _, none⟩ hcell, ?_, hcell⟩
  rw [ha]
  obtain ⟨b, o, s⟩ := a
  simp only at hs
  subst hs
  rfl

section
variable {H : Type} {enc : TypeId × Value → H} {W : World}
theorem open_Ints1 {cv : Value} {fuel : Nat} {x : DataW H × List MemPlace} (h : DataW.trod enc Tryz.prog W 0 (fun _ => true) true fuel 22 [cv] = some x) : ∃ l, IsInts W W.heap.size cv l := by
  rcases open_ints Tryz.underlying22 Tryz.underlying3 (by kernel_rfl) h with ⟨hcs, _⟩ | ⟨x, l, c', zs, hcs, hnc, hl, hm, hz, _, hcell, hwz⟩
  · simp at hcs
    subst hcs
    exact ⟨[], none, 0, rfl, by simp, fun i x h => by cases h⟩
  · simp at hcs
    subst hcs
    simp only [if_true] at hz
    exact ⟨_, isInts_cells (by omega) (by omega) (by omega) hwz fun i hi => ⟨_, rfl, hcell i (by omega)⟩⟩
theorem open_IntsV {v : Value} {A : Option Addr} {n c : Nat} {d : DataW H} {ps : List MemPlace} (hv : v = .slice A n c) (h : DataW.Trod enc Tryz.prog W 0 (fun _ => true) true 22 v d ps) : ∃ l, IsInts W W.heap.size v l := by
  subst hv
  obtain ⟨fuel, hf⟩ := h
  exact open_Ints1 (by simpa [Value.cells] using hf)
theorem open_Int1 {cv : Value} {fuel : Nat} {x : DataW H × List MemPlace} (h : DataW.trod enc Tryz.prog W 0 (fun _ => true) true fuel 3 [cv] = some x) : ∃ n, cv = .int .i64 n ∧ wfI n := by
  obtain ⟨n, hc, _, hw⟩ := DataW.trod_int Tryz.underlying3 h
  simp at hc
  exact ⟨n, hc, wf_of_lit hw⟩
theorem ok_arr {t e : TypeId} {n : Nat} {r : Reach} {b0 : Nat} {v : Value} (ht : Tryz.prog.underlying t = some (.array n e)) (h : Value.okWide Tryz.prog W r b0 t v) : ∃ l : List Value, v = .agg l.toArray ∧ l.length = Tryz.prog.cellsOf t := by
  simp only [Value.okWide, ht] at h
  obtain ⟨cs, rfl, h2, -⟩ := h
  exact ⟨cs.toList, by simp, by simpa using h2⟩
theorem open_arr {t e : TypeId} {n : Nat} {l : List Value} {d : DataW H} {ps : List MemPlace} (ht : Tryz.prog.underlying t = some (.array n e)) (hce : Tryz.prog.cellsOf e = 1) (h : DataW.Trod enc Tryz.prog W 0 (fun _ => true) true t (.agg l.toArray) d ps) (hl : l.length = n) :
    ∀ (i : Nat) (c : Value), l[i]? = some c → ∃ m y, DataW.trod enc Tryz.prog W 0 (fun _ => true) true m e [c] = some y := by
  obtain ⟨fuel, hf⟩ := h
  obtain ⟨xs, m1, -, hx, hlen, hn, hel⟩ := DataW.trod_array ht hf
  intro i c hi
  have hin : i < n := by have := (List.getElem?_eq_some_iff.1 hi).1; omega
  have h0 := hel i hin
  rw [hce] at h0
  have e1 : (((Value.agg l.toArray).cells.toList.drop (i * 1)).take 1) = [c] := by
    simp only [Value.cells, Nat.mul_one]
    have hd : (l.drop i) = c :: l.drop (i + 1) := by
      obtain ⟨hlt, hc⟩ := List.getElem?_eq_some_iff.1 hi
      rw [List.drop_eq_getElem_cons hlt, hc]
    simp [hd]
  rw [e1] at h0
  cases hxi : xs[i]? with
  | none => have := List.getElem?_eq_none_iff.1 hxi; omega
  | some y => exact ⟨m1, y, by rw [h0, hxi]⟩
theorem u8_of_lit {n : Int} (h : (Lit.int .u8 n).wf = true) : ∃ b : UInt8, n = (b.toNat : Int) := by
  simp only [Lit.wf, Bool.and_eq_true, decide_eq_true_eq] at h
  simp [IntKind.min, IntKind.max, IntKind.bits, IntKind.signed] at h
  exact ⟨UInt8.ofNat n.toNat, by rw [UInt8.toNat_ofNat_of_lt' (by simp [UInt8.size]; omega)]; omega⟩
/-- An interface's cell. -/
theorem iface_of_trod {P : Program} {base fuel : Nat} {sp : Nat → Bool} {held : Bool} {t : TypeId} {m : _} {cs : List Value} {x : DataW H × List MemPlace} (ht : P.underlying t = some (.interface m)) (h : DataW.trod enc P W base sp held fuel t cs = some x) : cs = [.nilIface] ∨ ∃ u v, cs = [.iface u v] := by
  cases fuel with
  | zero => simp [DataW.trod] at h
  | succ fuel =>
    match cs, h with
    | [.nilIface], _ => exact Or.inl rfl
    | [.iface u v], _ => exact Or.inr ⟨u, v, rfl⟩
    | [], h => simp [DataW.trod, ht] at h
    | _ :: _ :: _, h => simp [DataW.trod, ht] at h
    | [.bool _], h => simp [DataW.trod, ht] at h
    | [.int _ _], h => simp [DataW.trod, ht] at h
    | [.string _], h => simp [DataW.trod, ht] at h
    | [x], h => cases x <;> simp [DataW.trod, ht] at h <;> simp
end

theorem word_cells {H : Type} {enc : TypeId × Value → H} {W : World} {sp : Nat → Bool} {held : Bool} {base fuel : Nat} {cs : List Value} {x : DataW H × List MemPlace} {s : List UInt8} {n m : Bool} {t p : Int} (h : DataW.trod enc Tryz.prog W base sp held fuel 66 cs = some x)
    (hx : x.1 = .agg [.lit (.string s), .lit (.bool n), .lit (.bool m), .lit (.int .i64 t), .lit (.int .i64 p)]) : cs[0]? = some (.string ⟨s.toArray⟩) ∧ cs[1]? = some (.bool n) ∧ cs[2]? = some (.bool m) ∧ cs[3]? = some (.int .i64 t) ∧ cs[4]? = some (.int .i64 p) := by
  obtain ⟨y0, y1, y2, y3, y4, k, hx0, h0, h1, h2, h3, h4⟩ := trod_struct5 Tryz.underlying66 h
  subst hx0
  have e9 : Tryz.prog.cellsOf 9 = 1 := by kernel_rfl
  have e4 : Tryz.prog.cellsOf 4 = 1 := by kernel_rfl
  have e3 : Tryz.prog.cellsOf 3 = 1 := by kernel_rfl
  rw [e9] at h0
  rw [e4] at h1 h2
  rw [e3] at h3 h4
  obtain ⟨b, c0, r0, -⟩ := DataW.trod_string Tryz.underlying9 h0
  obtain ⟨n', c1, r1⟩ := DataW.trod_bool Tryz.underlying4 h1
  obtain ⟨m', c2, r2⟩ := DataW.trod_bool Tryz.underlying4 h2
  obtain ⟨t', c3, r3, -⟩ := DataW.trod_int Tryz.underlying3 h3
  obtain ⟨p', c4, r4, -⟩ := DataW.trod_int Tryz.underlying3 h4
  simp at hx
  obtain ⟨x0, x1, x2, x3, x4⟩ := hx
  have g : ∀ (k : Nat) (v : Value), (cs.drop k).take 1 = [v] → cs[k]? = some v := by
    intro k v h
    have := congrArg (fun l => l[0]?) h
    simpa [List.getElem?_take, List.getElem?_drop] using this
  refine ⟨?_, ?_, ?_, ?_, ?_⟩
  · rw [g 0 _ c0]
    have hb : b.data.toList = s := by simp_all
    rw [← hb]
  · rw [g 1 _ c1]; simp_all
  · rw [g 2 _ c2]; simp_all
  · rw [g 3 _ c3]; simp_all
  · rw [g 4 _ c4]; simp_all
theorem word_datum : ∀ c : Nat, c < 16 → ∃ n m t p, (match (Rows.laid_indelible_verify_kinds : DataW Unit) with | .agg l => l[c]? | _ => none) = some (.agg [.lit (.string (wordB c)), .lit (.bool n), .lit (.bool m), .lit (.int .i64 t), .lit (.int .i64 p)]) := by
  intro c h2
  obtain h | h | h | h | h | h | h | h | h | h | h | h | h | h | h | h : c = 0 ∨ c = 1 ∨ c = 2 ∨ c = 3 ∨ c = 4 ∨ c = 5 ∨ c = 6 ∨ c = 7 ∨ c = 8 ∨ c = 9 ∨ c = 10 ∨ c = 11 ∨ c = 12 ∨ c = 13 ∨ c = 14 ∨ c = 15 := by omega
  all_goals (subst h; exact ⟨_, _, _, _, rfl⟩)
theorem gSyn : Tryz.prog.globalNamed "strconv.ErrSyntax" = some 1 := by kernel_rfl
theorem gRng : Tryz.prog.globalNamed "strconv.ErrRange" = some 2 := by kernel_rfl
theorem tSyn : (Tryz.prog.globals[1]?).map (·.type) = some 78 := by kernel_rfl
theorem tRng : (Tryz.prog.globals[2]?).map (·.type) = some 78 := by kernel_rfl
theorem tPow : (Tryz.prog.globals[3]?).map (·.type) = some 153 := by kernel_rfl
theorem one_cell {cs : Array Value} {v : Value} (h : cs.toList = [v]) : cs[0]? = some v := by rw [← Array.getElem?_toList, h]; rfl
/-- The world that a row of this chapter gives. -/
theorem wok_of {W : World} (h : laidMetH Tryz.prog theLaid W) (hs : W.ShapedOpen Tryz.prog) : WOk W := by
  have hk : KindsOk W := kinds_of_laid (laidMetH.filter (fun x => x.1 == "indelible/verify.kinds") h)
  rw [MakeChecks.laidMetH_plain _ _ _ (by kernel_rfl)] at h
  obtain ⟨ps, ⟨g0, t0, cs0, f0, p0, q0, -, -, -, -, ⟨g1, t1, cs1, f1, p1, q1, -, -, -, -, ⟨g2, t2, cs2, f2, p2, q2, hg2, ht2, hv2, hd2, ⟨g3, t3, cs3, f3, p3, q3, -, -, -, -, ⟨g4, t4, cs4, f4, p4, q4, hg4, ht4, hv4, hd4, ⟨g5, t5, cs5, f5, p5, q5, hg5, ht5, hv5, hd5, ⟨g6, t6, cs6, f6, p6, q6, hg6, ht6, hv6, hd6, -, -⟩, -⟩, -⟩, -⟩, -⟩, -⟩, -⟩, -, -⟩ := h
  refine ⟨hk, ?_, ?_, ?_, ?_, ?_⟩
  · obtain rfl := Option.some.inj (gKinds.symm.trans hg6)
    obtain rfl := Option.some.inj (tKinds.symm.trans ht6)
    obtain ⟨xs, m1, -, hx, hlen, hn, hel⟩ := DataW.trod_array Tryz.underlying67 hd6
    have e5 : Tryz.prog.cellsOf 66 = 5 := by kernel_rfl
    intro c h2
    obtain ⟨n, m, t, p, hs⟩ := word_datum c h2
    have hc := hel c (by omega)
    rw [e5] at hc
    simp only [Prod.mk.injEq] at hx
    rw [hx.1] at hs
    simp only [List.getElem?_map] at hs
    cases hxc : xs[c]? with
    | none => rw [hxc] at hs; simp at hs
    | some x =>
      rw [hxc] at hs hc
      simp only [Option.map_some, Option.some.injEq] at hs
      obtain ⟨g0', g1, g2, g3, g4⟩ := word_cells hc hs
      have gg : ∀ (k : Nat) (v : Value), k < 5 → ((cs6.toList.drop (c * 5)).take 5)[k]? = some v → W.cell? ⟨0, c * 5 + k, none⟩ = some v := by
        intro k v hk h
        rw [World.var?_cell hg6 hv6, ← Array.getElem?_toList]
        rw [List.getElem?_take, if_pos hk, List.getElem?_drop] at h
        exact h
      exact ⟨n, m, t, p, by simpa using gg 0 _ (by omega) g0', gg 1 _ (by omega) g1, gg 2 _ (by omega) g2, gg 3 _ (by omega) g3, gg 4 _ (by omega) g4⟩
  · exact cell_of_shapedOpen_int (zero := #[.int .i64 0]) (t := 3) hs (of_decide_eq_true (by kernel_rfl)) (by kernel_rfl) rfl (by kernel_rfl) (by kernel_rfl) Tryz.underlying3
  · obtain rfl := Option.some.inj (gSyn.symm.trans hg5)
    obtain rfl := Option.some.inj (tSyn.symm.trans ht5)
    rcases iface_of_trod Tryz.underlying78 hd5 with h | ⟨u, v, h⟩
    · exact ⟨.nilIface, by rw [World.var?_cell hg5 hv5]; exact one_cell h, Or.inl rfl⟩
    · exact ⟨.iface u v, by rw [World.var?_cell hg5 hv5]; exact one_cell h, Or.inr ⟨u, v, rfl⟩⟩
  · obtain rfl := Option.some.inj (gRng.symm.trans hg4)
    obtain rfl := Option.some.inj (tRng.symm.trans ht4)
    rcases iface_of_trod Tryz.underlying78 hd4 with h | ⟨u, v, h⟩
    · exact ⟨.nilIface, by rw [World.var?_cell hg4 hv4]; exact one_cell h, Or.inl rfl⟩
    · exact ⟨.iface u v, by rw [World.var?_cell hg4 hv4]; exact one_cell h, Or.inr ⟨u, v, rfl⟩⟩
  · obtain rfl := Option.some.inj (gTab.symm.trans hg2)
    obtain rfl := Option.some.inj (tPow.symm.trans ht2)
    have := Lib.cells_of_tab (k := .u64) (zs := Lib.pow10Tab) Tryz.underlying153 Tryz.underlying114 (by kernel_rfl) (by kernel_rfl) hd2
    unfold Lib.TabIs
    rw [hv2, ← this]
end Go.Proofs.YtdpbdcaefdcooaaGreatDoor
