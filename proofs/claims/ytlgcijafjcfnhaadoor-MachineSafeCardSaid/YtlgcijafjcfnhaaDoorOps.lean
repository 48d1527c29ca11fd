/-
  The closures that carry out the operations of the machine.
-/
import Derived.Test.YtlgcijafjcfnhaaDoorMs
import Derived.Deep.RegionHeld3
import Derived.Deep.DrawnRows
namespace Go.Proofs.YtlgcijafjcfnhaaDoor
open Go.RowKit
attribute [local go_sem ↓] Go.wp_at_zero Go.wp_at_succ

section
variable {w : World} {b : Nat} {p pts : Value} {size : Int} {stk : List Int} {steps : Int}
set_option maxRecDepth 100000 in
theorem one1_any (bm bf F : Nat) (g : Int → Int) (n x : Int) (h : MS w b p pts size (stk ++ [x]) steps) (hbm : b ≠ bm) (hbf : b ≠ bf)
    (h1 : w.cell? ⟨bm, 0, none⟩ = some (.pointer (some ⟨b, 0, none⟩))) (h2 : w.cell? ⟨bf, 0, none⟩ = some (.func (.func F) #[] #[]))
    (hcf : ∀ args w, (callFunc F args).run Tryd.prog w = .ok (.enter F args) w)
    (hF : Hid (∀ (w : World) (R : Ending → World → Prop), R (.returned (.int .i64 (g x))) w → Calls Tryd.prog F #[.int .i64 x] w R))
    (R : Ending → World → Prop)
    (hR : ∀ w', MS w' b p pts size (stk ++ [lim (g x)]) steps → Ch (· = b) w w' → R (.returned (.tuple #[])) w') :
    Calls Tryd.prog 77 #[.int .i64 n, .pointer (some ⟨bm, 0, none⟩), .pointer (some ⟨bf, 0, none⟩)] w R := by
  have hl := h.le
  have H : Hid (MS w b p pts size (stk ++ [x]) steps) := h
  go_enter Tryd.func77, Tryd.ntmps77
  clear h
  go_wp2_with fail
  go_region_held3 (fun w' => w'.cell? ⟨bm, 0, none⟩ = some (.pointer (some ⟨b, 0, none⟩)) ∧ w'.cell? ⟨bf, 0, none⟩ = some (.func (.func F) #[] #[])) (first | (exact ⟨h1, h2⟩) | (exact ⟨c1.cell h1 hbm.symm, c1.cell h2 hbf.symm⟩) | (exact ⟨c2.cell (c1.cell h1 hbm.symm) hbm.symm, c2.cell (c1.cell h2 hbf.symm) hbf.symm⟩)) (first | (go_at_call 38; refine pop_any (stk := stk) x (by exact H.out) _ ?_; intro w1 m1 c1) | (refine hF.out _ _ ?_) | (go_at_call 58; refine push_any (stk := stk) _ (by exact m1) (by simp at hl; omega) _ ?_; intro w2 m2 c2))
  go_end0
  exact hR _ m2 (c1.undrew.trans c2)

set_option maxRecDepth 100000 in
theorem two1_any (bm bf F : Nat) (g : Int → Int → Int) (n x y : Int) (h : MS w b p pts size (stk ++ [x] ++ [y]) steps) (hbm : b ≠ bm) (hbf : b ≠ bf)
    (h1 : w.cell? ⟨bm, 0, none⟩ = some (.pointer (some ⟨b, 0, none⟩))) (h2 : w.cell? ⟨bf, 0, none⟩ = some (.func (.func F) #[] #[]))
    (hcf : ∀ args w, (callFunc F args).run Tryd.prog w = .ok (.enter F args) w)
    (hF : Hid (∀ (w : World) (R : Ending → World → Prop), R (.returned (.int .i64 (g x y))) w → Calls Tryd.prog F #[.int .i64 x, .int .i64 y] w R))
    (R : Ending → World → Prop)
    (hR : ∀ w', MS w' b p pts size (stk ++ [lim (g x y)]) steps → Ch (· = b) w w' → R (.returned (.tuple #[])) w') :
    Calls Tryd.prog 76 #[.int .i64 n, .pointer (some ⟨bm, 0, none⟩), .pointer (some ⟨bf, 0, none⟩)] w R := by
  have hl := h.le
  have H : Hid (MS w b p pts size (stk ++ [x] ++ [y]) steps) := h
  go_enter Tryd.func76, Tryd.ntmps76
  clear h
  go_wp2_with (go_at_call 38; refine pop_any (stk := stk ++ [x]) y (by exact H.out) _ ?_; intro w0 m0 c0)
  have h1' := c0.cell h1 hbm.symm
  have h2' := c0.cell h2 hbf.symm
  have M0 : Hid (MS w0 b p pts size (stk ++ [x]) steps) := m0
  clear m0
  go_region_held3 (fun w' => w'.cell? ⟨bm, 0, none⟩ = some (.pointer (some ⟨b, 0, none⟩)) ∧ w'.cell? ⟨bf, 0, none⟩ = some (.func (.func F) #[] #[])) (first | (exact ⟨h1', h2'⟩) | (exact ⟨c1.cell h1' hbm.symm, c1.cell h2' hbf.symm⟩) | (exact ⟨c2.cell (c1.cell h1' hbm.symm) hbm.symm, c2.cell (c1.cell h2' hbf.symm) hbf.symm⟩)) (first | (go_at_call 38; refine pop_any (stk := stk) x (by exact M0.out) _ ?_; intro w1 m1 c1) | (refine hF.out _ _ ?_) | (go_at_call 58; refine push_any (stk := stk) _ (by exact m1) (by simp at hl; omega) _ ?_; intro w2 m2 c2))
  go_end0
  exact hR _ m2 (c0.trans (c1.undrew.trans c2))

set_option maxRecDepth 100000 in
theorem of7_any (bm : Nat) (n : Int) (h : MS w b p pts size stk steps) (hs : stk.length < 8) (hbm : b ≠ bm)
    (h1 : w.cell? ⟨bm, 0, none⟩ = some (.pointer (some ⟨b, 0, none⟩)))
    (R : Ending → World → Prop)
    (hR : ∀ w', MS w' b p pts size (stk ++ [lim size]) steps → Ch (· = b) w w' → R (.returned (.tuple #[])) w') :
    Calls Tryd.prog 68 #[.int .i64 n, .pointer (some ⟨bm, 0, none⟩)] w R := by
  have hz := h.c2
  have H : Hid (MS w b p pts size stk steps) := h
  go_enter Tryd.func68, Tryd.ntmps68
  clear h
  go_wp2_with fail
  go_region_held3 (fun w' => w'.cell? ⟨bm, 0, none⟩ = some (.pointer (some ⟨b, 0, none⟩)) ∧ w'.cell? ⟨b, 2, none⟩ = some (.int .i64 size)) (first | (exact ⟨h1, hz⟩) | (exact ⟨c2.cell h1 hbm.symm, m2.c2⟩)) (first | (go_at_call 58; refine push_any (stk := stk) _ (by exact H.out) hs _ ?_; intro w2 m2 c2))
  go_end0
  exact hR _ m2 c2.undrew

set_option maxRecDepth 100000 in
theorem get1_any (bm bf F bp n pb po j len cap : Nat) (x : Int) (h : MS w b p (.slice (some ⟨bp, 0, none⟩) len cap) size stk steps) (hs : stk.length < 8) (hbm : b ≠ bm) (hbf : b ≠ bf) (hbp : b ≠ bp) (hpb : b ≠ pb)
    (h1 : w.cell? ⟨bm, 0, none⟩ = some (.pointer (some ⟨b, 0, none⟩))) (h2 : w.cell? ⟨bf, 0, none⟩ = some (.func (.func F) #[] #[]))
    (h3 : w.cell? ⟨bp, n, none⟩ = some (.pointer (some ⟨pb, po, none⟩))) (hn : n < len) (h4 : w.cell? ⟨pb, po + j, none⟩ = some (.int .i64 x))
    (hcf : ∀ args w, (callFunc F args).run Tryd.prog w = .ok (.enter F args) w)
    (hF : Hid (∀ (pb po : Nat) (w : World) (R : Ending → World → Prop), R (.returned (.pointer (some ⟨pb, po + j, none⟩))) w → Calls Tryd.prog F #[.pointer (some ⟨pb, po, none⟩)] w R))
    (R : Ending → World → Prop)
    (hR : ∀ w', MS w' b p (.slice (some ⟨bp, 0, none⟩) len cap) size (stk ++ [lim x]) steps → Ch (· = b) w w' → R (.returned (.tuple #[])) w') :
    Calls Tryd.prog 79 #[.int .i64 n, .pointer (some ⟨bm, 0, none⟩), .pointer (some ⟨bf, 0, none⟩)] w R := by
  have hz := h.c1
  have H : Hid (MS w b p (.slice (some ⟨bp, 0, none⟩) len cap) size stk steps) := h
  have k0 : (0 : Int) ≤ (n : Int) := by omega
  have k1 : (n : Int) < (len : Int) := by omega
  go_enter Tryd.func79, Tryd.ntmps79
  clear h
  go_wp2_with fail
  go_region_held3 (fun w' => w'.cell? ⟨bm, 0, none⟩ = some (.pointer (some ⟨b, 0, none⟩)) ∧ w'.cell? ⟨bf, 0, none⟩ = some (.func (.func F) #[] #[]) ∧ w'.cell? ⟨b, 1, none⟩ = some (.slice (some ⟨bp, 0, none⟩) len cap) ∧ w'.cell? ⟨bp, n, none⟩ = some (.pointer (some ⟨pb, po, none⟩)) ∧ w'.cell? ⟨pb, po + j, none⟩ = some (.int .i64 x)) (first | (exact ⟨h1, h2, hz, h3, h4⟩) | (exact ⟨c2.cell h1 hbm.symm, c2.cell h2 hbf.symm, m2.c1, c2.cell h3 hbp.symm, c2.cell h4 hpb.symm⟩)) (first | (refine hF.out _ _ _ _ ?_) | (go_at_call 58; refine push_any (stk := stk) _ (by exact H.out) hs _ ?_; intro w2 m2 c2))
  go_end0
  exact hR _ m2 c2.undrew

set_option maxRecDepth 100000 in
theorem set1_any (bm bf F bp n pb po j len cap : Nat) (x : Int) (y : Value) (h : MS w b p (.slice (some ⟨bp, 0, none⟩) len cap) size (stk ++ [x]) steps) (hbm : b ≠ bm) (hbf : b ≠ bf) (hbp : b ≠ bp) (hpb : b ≠ pb) (hp1 : bm ≠ pb) (hp2 : bf ≠ pb) (hp3 : bp ≠ pb)
    (h1 : w.cell? ⟨bm, 0, none⟩ = some (.pointer (some ⟨b, 0, none⟩))) (h2 : w.cell? ⟨bf, 0, none⟩ = some (.func (.func F) #[] #[]))
    (h3 : w.cell? ⟨bp, n, none⟩ = some (.pointer (some ⟨pb, po, none⟩))) (hn : n < len) (h4 : w.cell? ⟨pb, po + j, none⟩ = some y) (h5 : w.frozen? ⟨pb, po + j, none⟩ = false)
    (hcf : ∀ args w, (callFunc F args).run Tryd.prog w = .ok (.enter F args) w)
    (hF : Hid (∀ (pb po : Nat) (w : World) (R : Ending → World → Prop), R (.returned (.pointer (some ⟨pb, po + j, none⟩))) w → Calls Tryd.prog F #[.pointer (some ⟨pb, po, none⟩)] w R))
    (R : Ending → World → Prop)
    (hR : ∀ w' d, MS w' b p (.slice (some ⟨bp, 0, none⟩) len cap) size stk steps → Ch (· = b) w w' → R (.returned (.tuple #[])) ((w'.setCell ⟨pb, po + j, none⟩ (.int .i64 x)).drewN d)) :
    Calls Tryd.prog 80 #[.int .i64 n, .pointer (some ⟨bm, 0, none⟩), .pointer (some ⟨bf, 0, none⟩)] w R := by
  have hz := h.c1
  have H : Hid (MS w b p (.slice (some ⟨bp, 0, none⟩) len cap) size (stk ++ [x]) steps) := h
  have k0 : (0 : Int) ≤ (n : Int) := by omega
  have k1 : (n : Int) < (len : Int) := by omega
  have kp : pb < w.heap.size := World.block_lt_of_cell? w ⟨pb, po + j, none⟩ h4
  go_enter Tryd.func80, Tryd.ntmps80
  clear h
  go_wp2_with fail
  go_region_held3 (fun w' => w'.cell? ⟨bm, 0, none⟩ = some (.pointer (some ⟨b, 0, none⟩)) ∧ w'.cell? ⟨bf, 0, none⟩ = some (.func (.func F) #[] #[]) ∧ w'.cell? ⟨b, 1, none⟩ = some (.slice (some ⟨bp, 0, none⟩) len cap) ∧ w'.cell? ⟨bp, n, none⟩ = some (.pointer (some ⟨pb, po, none⟩))) (first | (exact ⟨h1, h2, hz, h3⟩) | (exact ⟨c2.cell h1 hbm.symm, c2.cell h2 hbf.symm, m2.c1, c2.cell h3 hbp.symm⟩) | (exact ⟨cell_setCell_ne _ (c2.cell h1 hbm.symm) hp1, cell_setCell_ne _ (c2.cell h2 hbf.symm) hp2, cell_setCell_ne _ m2.c1 hpb, cell_setCell_ne _ (c2.cell h3 hbp.symm) hp3⟩)) (first | (refine hF.out _ _ _ _ ?_) | (go_at_call 38; refine pop_any (stk := stk) _ (by exact H.out) _ ?_; intro w2 m2 c2; have h4' := c2.cell h4 hpb.symm; have h5' := (c2.frozen kp hpb.symm).trans h5))
  go_end0
  exact hR w2 0 m2 c2.undrew
end
end Go.Proofs.YtlgcijafjcfnhaaDoor
