/-
  indeliblelaw09.Case.programs: the made program, some program, the first operations of the given one, and some program more.
-/
import Derived.Test.YtlgcijafjcfnhaaDoorCase
import Derived.Test.YtlgcijafjcfnhaaDoorOdd
import Derived.Test.YtlgcijafjcfnhaaDoorOpen
namespace Go.Proofs.YtlgcijafjcfnhaaDoor
open Go.RowKit
set_option linter.unusedVariables false
set_option linter.unusedSimpArgs false

/-- The slice v is the program l, of whatever length. -/
def IsOpsR (w : World) (lo : Nat) (v : Value) (l : List Op3) : Prop :=
  ∃ A cap, v = .slice A l.length cap ∧ l.length ≤ cap ∧ cap ≤ 9223372036854775807 ∧ (A = none → cap = 0) ∧ ∀ i c n m, l[i]? = some (c, n, m) →
    ∃ pk po, pk < lo ∧ A = some ⟨pk, po, none⟩ ∧ w.cell? ⟨pk, po + i * 3, none⟩ = some (.int .i64 c) ∧ w.cell? ⟨pk, po + i * 3 + 1, none⟩ = some (.int .i64 n) ∧ w.cell? ⟨pk, po + i * 3 + 2, none⟩ = some (.int .i64 m)
theorem IsOpsR.kept {w w' : World} {lo : Nat} {p : Value} {l : List Op3} {F : Nat → Prop} (h : IsOpsR w lo p l) (hc : Ch F w w') (hF : ∀ k, k < lo → ¬ F k) : IsOpsR w' lo p l := by
  obtain ⟨A, cap, e, hl, hm, hn, h⟩ := h
  refine ⟨A, cap, e, hl, hm, hn, fun i c n m hi => ?_⟩
  obtain ⟨pk, po, hk, ea, h0, h1, h2⟩ := h i c n m hi
  exact ⟨pk, po, hk, ea, hc.cell h0 (hF _ hk), hc.cell h1 (hF _ hk), hc.cell h2 (hF _ hk)⟩
/-- Its first operations. -/
theorem IsOpsR.first {w : World} {lo : Nat} {A : Option Addr} {n cap : Nat} {l : List Op3} (h : IsOpsR w lo (.slice A n cap) l) (k : Nat) (hk : k ≤ n) (h63 : k ≤ 1000000) (cap' : Nat) : IsOps w lo (.slice A k cap') (l.take k) := by
  obtain ⟨A', c', e, hl, hm, hn, h⟩ := h
  injection e with e1 e2 e3
  subst e1 e2
  have hlen : (l.take k).length = k := by rw [List.length_take]; omega
  refine ⟨_, cap', by rw [hlen], by rw [hlen]; omega, fun i c n m hi => ?_⟩
  rw [List.getElem?_take] at hi
  split at hi
  · exact h i c n m hi
  · cases hi

theorem post_named {P : Program} {f : Func} {R : Ending → World → Prop} {e : Exit} {a : Act} {w : World} (h : ∀ W, W = w → bodyPost P f R e a W) : bodyPost P f R e a w := h _ rfl
theorem IsOps.other {w w' : World} {lo g : Nat} {v : Value} {l : List Op3} (h : IsOps w lo v l) (hc : Ch (· = g) w w') (hg : ∀ j x, w.cell? ⟨g, j, none⟩ ≠ some (.int .i64 x)) : IsOps w' lo v l := by
  obtain ⟨A, cap, e, hl, h⟩ := h
  refine ⟨A, cap, e, hl, fun i c n m hi => ?_⟩
  obtain ⟨pk, po, hk, ea, h0, h1, h2⟩ := h i c n m hi
  have hne : ¬ pk = g := by
    rintro rfl
    exact hg _ _ h0
  exact ⟨pk, po, hk, ea, hc.cell h0 hne, hc.cell h1 hne, hc.cell h2 hne⟩

set_option maxRecDepth 100000 in
set_option maxHeartbeats 4000000 in
theorem programs_any (lo : Nat) (v : Value) (c : CaseD) (vr : Value) (raw : List Op3) (w : World) (R : Ending → World → Prop) (hlo : lo ≤ w.heap.size) (hc : IsCase w lo v c) (hr : IsOpsR w lo vr raw)
    (hR : ∀ w' v0 v1 v2 v3 l0 l1 l2 l3 m, m ≤ 3 → IsMade (outC c).flatten.length m l0 → (l1.length ≤ 1000 ∧ l2.length ≤ 1000 ∧ l3.length ≤ 1000) → IsOps w' w'.heap.size v0 l0 → IsOps w' w'.heap.size v1 l1 → IsOps w' w'.heap.size v2 l2 → IsOps w' w'.heap.size v3 l3 →
      (CapOk v0 ∧ CapOk v1 ∧ CapOk v2 ∧ CapOk v3) → Nw w w' → R (.returned (.agg #[v0, v1, v2, v3])) w') : Calls Tryd.prog 6 #[v, vr] w R := by
  have HR := Lib.hid hR
  have HC := Lib.hid hc
  have HRAW := Lib.hid hr
  clear hR
  obtain ⟨vo, vp, rfl, -, -, wa, wb, wc⟩ := hc
  obtain ⟨A, cap, rfl, hrl, hrc, hrn, -⟩ := hr
  have WA := Lib.hid wa
  have WB := Lib.hid wb
  have WC := Lib.hid wc
  clear wa wb wc
  go_enter Tryd.func6, Tryd.ntmps6
  go_wp2_with (go_at_call 4; fail)
  have NA := Lib.hid (show Nw w ((w.alloc (.cells #[vo, vp, .int .i64 c.2.2.1, .int .i64 c.2.2.2.1, .int .i64 c.2.2.2.2] 26)).alloc (.cells #[.slice none 0 0, .slice none 0 0, .slice none 0 0, .slice none 0 0] 32)) from ((Ch.refl _ _).alloc _).alloc _)
  refine made_any lo _ c _ _ (by have := NA.out.size; omega) (HC.out.kept NA.out nof) ?_
  intro w1 vo1 vp1 p m hm hmade hout hown hn
  obtain ⟨p0, p1, p2, p3, p4⟩ := case_alloc (lo := lo) (((Ch.refl (fun _ => False) (w.alloc (.cells #[vo, vp, .int .i64 c.2.2.1, .int .i64 c.2.2.2.1, .int .i64 c.2.2.2.2] 26))).alloc (.cells #[.slice none 0 0, .slice none 0 0, .slice none 0 0, .slice none 0 0] 32)).trans hn)
  have QR := Lib.hid (show w1.heap[w.heap.size + 1]? = some (.cells #[.slice none 0 0, .slice none 0 0, .slice none 0 0, .slice none 0 0] 32 (0, 0)) from hn.heap (heap_alloc_eq _ (by simp only [alloc_size])) id)
  have HM := Lib.hid hmade
  have HW := Lib.hid (show OwnOps w1 (w.heap.size + 2) vp1 p from by simpa only [alloc_size] using hown)
  have N1 := Lib.hid (NA.out.trans hn)
  have lw := lt_of_heap QR.out
  clear hmade hout hown hn
  have PL := HM.out.len
  have plen : p.length ≤ 33 := by omega
  clear PL
  obtain ⟨Ap, cp, ep, -⟩ := HW.out.isOps (by omega)
  subst ep
  by_cases h40 : (raw.length : Int) ≤ 40
  · have h41 : raw.length ≤ cap := hrl
    have h42 : (raw.length : Int) ≤ (cap : Int) := by omega
    go_wp2_with (go_at_call 4; fail)
    refine Odd_any lo _ p _ _ _ _ _ (HW.out.isOps (by omega)) HW.out.nil_of (by omega) WA.out WB.out WC.out ?_
    intro w2 v1 l1 hl1 h1 hcap1 hn
    have HCAP1 := Lib.hid hcap1
    clear hcap1
    have HW2 := Lib.hid (HW.out.ch hn nof')
    have H1 := Lib.hid h1
    obtain ⟨Av, cv, ev, -⟩ := h1
    subst ev
    have QR2 := Lib.hid (hn.heap QR.out id)
    have N2 := Lib.hid (N1.out.trans hn)
    have HR2 := Lib.hid (HRAW.out.kept (N1.out.trans hn) nof)
    clear hn
    go_wp2_with (first | (at_builtin; refine wpList_append_any _ rfl (.tmp 23) (.tmp 24) (by rfl) w2.heap.size w2.heap.size 0 (.slice Ap p.length cp) [] p (by rfl) (by rfl) ?h1 (lo := w2.heap.size) ?h2 ?h3 ?h4 ?h5 ?_))
    case h1 => exact own_lit [] (Nat.le_refl _) (by simp)
    case h2 => exact (HW2.out.isOps (by omega)).kept ((Ch.refl (fun _ => False) w2).alloc _) nof
    case h3 => exact HW2.out.nil_of
    case h4 => simp; omega
    case h5 => simp only [alloc_size]; omega
    intro g1 cap1 w3 ho3 hg3 hor3
    have ch3 : Nw w2 w3 := ((Ch.refl (fun _ => False) w2).alloc _).grown hg3 (fun j hj hl => by injection hj with hj; omega)
    have H3 := Lib.hid ho3
    have C3 := Lib.hid ch3
    have HR3 := Lib.hid (HR2.out.kept ch3 nof)
    clear ho3 hg3 hor3 ch3
    go_wp2_with (first | (at_builtin; refine wpList_append_any _ rfl (.tmp 25) (.tmp 26) (by rfl) w2.heap.size g1 cap1 (.slice A raw.length cap) p (raw.take raw.length) (by rfl) (by rfl) ?h1 (lo := lo) ?h2 ?h3 ?h4 ?h5 ?_))
    case h1 => exact H3.out
    case h2 => exact HR3.out.first raw.length (by omega) (by omega) cap
    case h3 =>
      intro n' c' e
      injection e with e1 e2 e3
      have := hrn e1
      omega
    case h4 => rw [List.length_take]; omega
    case h5 => exact C3.out.size
    intro g2 cap2 w4 ho4 hg4 hor4
    have ch4 : Nw w2 w4 := C3.out.trans' ((Ch.refl (fun j => j = g1) w3).grown hg4 (fun j hj hl => by injection hj with hj; exact hj.symm)) (fun n hn e => by have := (H3.out.lt g1 rfl).1; omega)
    have H4 := Lib.hid (show OwnOps w4 w2.heap.size (.slice (some ⟨g2, 0, none⟩) (p ++ raw.take raw.length).length cap2) (p ++ raw.take raw.length) from by simpa using ho4)
    have C4 := Lib.hid ch4
    have q4 := ch4.heap QR2.out id
    have r0 : w4.cell? ⟨w.heap.size + 1, 0, none⟩ = some (.slice none 0 0) := by rw [cell_of q4]; rfl
    have r1 : w4.cell? ⟨w.heap.size + 1, 1, none⟩ = some (.slice none 0 0) := by rw [cell_of q4]; rfl
    have r2 : w4.cell? ⟨w.heap.size + 1, 2, none⟩ = some (.slice none 0 0) := by rw [cell_of q4]; rfl
    have r3 : w4.cell? ⟨w.heap.size + 1, 3, none⟩ = some (.slice none 0 0) := by rw [cell_of q4]; rfl
    have rf : ∀ j, w4.frozen? ⟨w.heap.size + 1, j, none⟩ = false := fun j => frozen_of q4
    have rf0 := rf 0
    have rf1 := rf 1
    have rf2 := rf 2
    have rf3 := rf 3
    have Q4 := Lib.hid q4
    clear ho4 hg4 hor4 ch4 q4 rf
    go_wp2
    have notint : ∀ j x, w4.cell? ⟨w.heap.size + 1, j, none⟩ ≠ some (.int .i64 x) := by
      intro j x h
      rw [cell_of Q4.out] at h
      match j, h with
      | 0, h => cases h
      | 1, h => cases h
      | 2, h => cases h
      | 3, h => cases h
    have chW : ∀ a b c d : Value, Ch (· = w.heap.size + 1) w4 ((((w4.setCell ⟨w.heap.size + 1, 0, none⟩ a).setCell ⟨w.heap.size + 1, 1, none⟩ b).setCell ⟨w.heap.size + 1, 2, none⟩ c).setCell ⟨w.heap.size + 1, 3, none⟩ d) := fun a b c d => ((((Ch.refl (· = w.heap.size + 1) w4).setb (fun _ => rfl) _).setb (fun _ => rfl) _).setb (fun _ => rfl) _).setb (fun _ => rfl) _
    have e : (p ++ raw.take raw.length).length = p.length + raw.length := by simp
    refine post_named ?_
    intro W eW
    have hb : W.heap[w.heap.size + 1]? = some (.cells #[.slice Ap p.length cp, .slice Av l1.length cv, .slice A raw.length cap, .slice (some ⟨g2, 0, none⟩) (p ++ raw.take raw.length).length cap2] 32 (0, 0)) := by
      rw [eW, e]
      exact heap_setCell_eq _ (heap_setCell_eq _ (heap_setCell_eq _ (heap_setCell_eq _ Q4.out)))
    have cW : Ch (· = w.heap.size + 1) w4 W := by rw [eW]; exact chW _ _ _ _
    have z0 : W.cell? ⟨w.heap.size + 1, 0, none⟩ = some (.slice Ap p.length cp) := by rw [cell_of hb]; rfl
    have z1 : W.cell? ⟨w.heap.size + 1, 1, none⟩ = some (.slice Av l1.length cv) := by rw [cell_of hb]; rfl
    have z2 : W.cell? ⟨w.heap.size + 1, 2, none⟩ = some (.slice A raw.length cap) := by rw [cell_of hb]; rfl
    have z3 : W.cell? ⟨w.heap.size + 1, 3, none⟩ = some (.slice (some ⟨g2, 0, none⟩) (p ++ raw.take raw.length).length cap2) := by rw [cell_of hb]; rfl
    clear eW
    refine bodyPost_ret (v := .agg #[.slice Ap p.length cp, .slice Av l1.length cv, .slice A raw.length cap, .slice (some ⟨g2, 0, none⟩) (p ++ raw.take raw.length).length cap2]) (by simp [results, Tryd.results6, go_sem, z0, z1, z2, z3]) rfl ?_
    have sz := C4.out.size
    have sz2 := cW.size
    have sz1 := N2.out.size
    have lw2 := lt_of_heap QR2.out
    refine HR.out W _ _ _ _ p l1 (raw.take raw.length) (p ++ raw.take raw.length) m hm HM.out ⟨by omega, by rw [List.length_take]; omega, by rw [List.length_append, List.length_take]; omega⟩ ?_ ?_ ?_ ?_ ⟨HW2.out.capOk, HCAP1.out, ⟨_, _, _, rfl, by omega, by omega⟩, H4.out.capOk⟩ ?_
    · exact (((HW2.out.ch C4.out nof').ch cW (fun k hk e => by have := (HW2.out.lt k hk).1; omega)).isOps (by omega))
    · exact (((H1.out.kept C4.out nof).other cW notint).hi (by omega))
    · exact ((((HR2.out.kept C4.out nof).kept cW (fun k hk e => by omega)).first raw.length (by omega) (by omega) cap).hi (by omega))
    · exact ((H4.out.ch cW (fun k hk e => by have := (H4.out.lt k hk).1; omega)).isOps (by rw [List.length_append, List.length_take]; omega))
    · exact (N2.out.trans C4.out).trans' cW (fun n hn e => by omega)
  · have h41 : (40 : Int) ≤ (raw.length : Int) := by omega
    have h42 : (40 : Int) ≤ (cap : Int) := by omega
    have h43 : 40 ≤ cap := by omega
    have h44 : (40 : Int) < (raw.length : Int) := by omega
    go_wp2_with (go_at_call 4; fail)
    refine Odd_any lo _ p _ _ _ _ _ (HW.out.isOps (by omega)) HW.out.nil_of (by omega) WA.out WB.out WC.out ?_
    intro w2 v1 l1 hl1 h1 hcap1 hn
    have HCAP1 := Lib.hid hcap1
    clear hcap1
    have HW2 := Lib.hid (HW.out.ch hn nof')
    have H1 := Lib.hid h1
    obtain ⟨Av, cv, ev, -⟩ := h1
    subst ev
    have QR2 := Lib.hid (hn.heap QR.out id)
    have N2 := Lib.hid (N1.out.trans hn)
    have HR2 := Lib.hid (HRAW.out.kept (N1.out.trans hn) nof)
    clear hn
    go_wp2_with (first | (at_builtin; refine wpList_append_any _ rfl (.tmp 23) (.tmp 24) (by rfl) w2.heap.size w2.heap.size 0 (.slice Ap p.length cp) [] p (by rfl) (by rfl) ?h1 (lo := w2.heap.size) ?h2 ?h3 ?h4 ?h5 ?_))
    case h1 => exact own_lit [] (Nat.le_refl _) (by simp)
    case h2 => exact (HW2.out.isOps (by omega)).kept ((Ch.refl (fun _ => False) w2).alloc _) nof
    case h3 => exact HW2.out.nil_of
    case h4 => simp; omega
    case h5 => simp only [alloc_size]; omega
    intro g1 cap1 w3 ho3 hg3 hor3
    have ch3 : Nw w2 w3 := ((Ch.refl (fun _ => False) w2).alloc _).grown hg3 (fun j hj hl => by injection hj with hj; omega)
    have H3 := Lib.hid ho3
    have C3 := Lib.hid ch3
    have HR3 := Lib.hid (HR2.out.kept ch3 nof)
    clear ho3 hg3 hor3 ch3
    go_wp2_with (first | (at_builtin; refine wpList_append_any _ rfl (.tmp 25) (.tmp 26) (by rfl) w2.heap.size g1 cap1 (.slice A 40 cap) p (raw.take 40) (by rfl) (by rfl) ?h1 (lo := lo) ?h2 ?h3 ?h4 ?h5 ?_))
    case h1 => exact H3.out
    case h2 => exact HR3.out.first 40 (by omega) (by omega) cap
    case h3 =>
      intro n' c' e
      injection e with e1 e2 e3
      have := hrn e1
      omega
    case h4 => rw [List.length_take]; omega
    case h5 => exact C3.out.size
    intro g2 cap2 w4 ho4 hg4 hor4
    have ch4 : Nw w2 w4 := C3.out.trans' ((Ch.refl (fun j => j = g1) w3).grown hg4 (fun j hj hl => by injection hj with hj; exact hj.symm)) (fun n hn e => by have := (H3.out.lt g1 rfl).1; omega)
    have H4 := Lib.hid (show OwnOps w4 w2.heap.size (.slice (some ⟨g2, 0, none⟩) (p ++ raw.take 40).length cap2) (p ++ raw.take 40) from by simpa using ho4)
    have C4 := Lib.hid ch4
    have q4 := ch4.heap QR2.out id
    have r0 : w4.cell? ⟨w.heap.size + 1, 0, none⟩ = some (.slice none 0 0) := by rw [cell_of q4]; rfl
    have r1 : w4.cell? ⟨w.heap.size + 1, 1, none⟩ = some (.slice none 0 0) := by rw [cell_of q4]; rfl
    have r2 : w4.cell? ⟨w.heap.size + 1, 2, none⟩ = some (.slice none 0 0) := by rw [cell_of q4]; rfl
    have r3 : w4.cell? ⟨w.heap.size + 1, 3, none⟩ = some (.slice none 0 0) := by rw [cell_of q4]; rfl
    have rf : ∀ j, w4.frozen? ⟨w.heap.size + 1, j, none⟩ = false := fun j => frozen_of q4
    have rf0 := rf 0
    have rf1 := rf 1
    have rf2 := rf 2
    have rf3 := rf 3
    have Q4 := Lib.hid q4
    clear ho4 hg4 hor4 ch4 q4 rf
    go_wp2
    have notint : ∀ j x, w4.cell? ⟨w.heap.size + 1, j, none⟩ ≠ some (.int .i64 x) := by
      intro j x h
      rw [cell_of Q4.out] at h
      match j, h with
      | 0, h => cases h
      | 1, h => cases h
      | 2, h => cases h
      | 3, h => cases h
    have chW : ∀ a b c d : Value, Ch (· = w.heap.size + 1) w4 ((((w4.setCell ⟨w.heap.size + 1, 0, none⟩ a).setCell ⟨w.heap.size + 1, 1, none⟩ b).setCell ⟨w.heap.size + 1, 2, none⟩ c).setCell ⟨w.heap.size + 1, 3, none⟩ d) := fun a b c d => ((((Ch.refl (· = w.heap.size + 1) w4).setb (fun _ => rfl) _).setb (fun _ => rfl) _).setb (fun _ => rfl) _).setb (fun _ => rfl) _
    have e : (p ++ raw.take 40).length = p.length + min 40 raw.length := by simp
    refine post_named ?_
    intro W eW
    have hb : W.heap[w.heap.size + 1]? = some (.cells #[.slice Ap p.length cp, .slice Av l1.length cv, .slice A 40 cap, .slice (some ⟨g2, 0, none⟩) (p ++ raw.take 40).length cap2] 32 (0, 0)) := by
      rw [eW, e]
      exact heap_setCell_eq _ (heap_setCell_eq _ (heap_setCell_eq _ (heap_setCell_eq _ Q4.out)))
    have cW : Ch (· = w.heap.size + 1) w4 W := by rw [eW]; exact chW _ _ _ _
    have z0 : W.cell? ⟨w.heap.size + 1, 0, none⟩ = some (.slice Ap p.length cp) := by rw [cell_of hb]; rfl
    have z1 : W.cell? ⟨w.heap.size + 1, 1, none⟩ = some (.slice Av l1.length cv) := by rw [cell_of hb]; rfl
    have z2 : W.cell? ⟨w.heap.size + 1, 2, none⟩ = some (.slice A 40 cap) := by rw [cell_of hb]; rfl
    have z3 : W.cell? ⟨w.heap.size + 1, 3, none⟩ = some (.slice (some ⟨g2, 0, none⟩) (p ++ raw.take 40).length cap2) := by rw [cell_of hb]; rfl
    clear eW
    refine bodyPost_ret (v := .agg #[.slice Ap p.length cp, .slice Av l1.length cv, .slice A 40 cap, .slice (some ⟨g2, 0, none⟩) (p ++ raw.take 40).length cap2]) (by simp [results, Tryd.results6, go_sem, z0, z1, z2, z3]) rfl ?_
    have sz := C4.out.size
    have sz2 := cW.size
    have sz1 := N2.out.size
    have lw2 := lt_of_heap QR2.out
    refine HR.out W _ _ _ _ p l1 (raw.take 40) (p ++ raw.take 40) m hm HM.out ⟨by omega, by rw [List.length_take]; omega, by rw [List.length_append, List.length_take]; omega⟩ ?_ ?_ ?_ ?_ ⟨HW2.out.capOk, HCAP1.out, ⟨_, _, _, rfl, by omega, by omega⟩, H4.out.capOk⟩ ?_
    · exact (((HW2.out.ch C4.out nof').ch cW (fun k hk e => by have := (HW2.out.lt k hk).1; omega)).isOps (by omega))
    · exact (((H1.out.kept C4.out nof).other cW notint).hi (by omega))
    · exact ((((HR2.out.kept C4.out nof).kept cW (fun k hk e => by omega)).first 40 (by omega) (by omega) cap).hi (by omega))
    · exact ((H4.out.ch cW (fun k hk e => by have := (H4.out.lt k hk).1; omega)).isOps (by rw [List.length_append, List.length_take]; omega))
    · exact (N2.out.trans C4.out).trans' cW (fun n hn e => by omega)
end Go.Proofs.YtlgcijafjcfnhaaDoor
