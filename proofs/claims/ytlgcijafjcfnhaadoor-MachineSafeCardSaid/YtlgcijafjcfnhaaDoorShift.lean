/-
  outline.Shift by (0, 0): a copy of the outline, in memory of its own.
-/
import Derived.Test.YtlgcijafjcfnhaaDoorOut
import Derived.Deep.RegionHeld3
import Derived.Deep.DrawnRows
import Derived.Deep.LoopGhost
namespace Go.Proofs.YtlgcijafjcfnhaaDoor
open Go.RowKit
attribute [local go_sem ↓] Go.wp_at_zero Go.wp_at_succ
set_option linter.unusedVariables false

set_option maxRecDepth 100000 in
theorem shift1_any (bx bz : Nat) (n : Int) (q : Pt) (w : World) (R : Ending → World → Prop) (hq : wfP q)
    (h1 : w.cell? ⟨bx, 0, none⟩ = some (.int .i64 0)) (h2 : w.cell? ⟨bz, 0, none⟩ = some (.int .i64 0))
    (hR : ∀ w', Nw w w' → R (.returned (.agg #[.int .i64 q.1, .int .i64 q.2.1, .bool q.2.2])) w') :
    Calls Tryd.prog 36 #[.int .i64 n, .agg #[.int .i64 q.1, .int .i64 q.2.1, .bool q.2.2], .pointer (some ⟨bx, 0, none⟩), .pointer (some ⟨bz, 0, none⟩)] w R := by
  have HR := Lib.hid hR
  clear hR
  obtain ⟨x, y, b⟩ := q
  obtain ⟨⟨x1, x2⟩, y1, y2⟩ := hq
  simp only at x1 x2 y1 y2
  have l1 : bx < w.heap.size := World.block_lt_of_cell? w ⟨bx, 0, none⟩ h1
  have l2 : bz < w.heap.size := World.block_lt_of_cell? w ⟨bz, 0, none⟩ h2
  simp only at HR ⊢
  go_enter Tryd.func36, Tryd.ntmps36
  go_wp2
  refine bodyPost_ret (v := .agg #[.int .i64 x, .int .i64 y, .bool b]) (by simp [results, Tryd.results36, go_sem]) rfl ?_
  exact HR.out _ (((Ch.refl _ _).alloc _).alloc _)

theorem cell_set3 {w : World} {k j : Nat} {a : Addr} {u : Value} (h : w.cell? a = some u) (hb : a.block ≠ k) (v0 v1 v2 : Value) :
    (((w.setCell ⟨k, j, none⟩ v0).setCell ⟨k, j + 1, none⟩ v1).setCell ⟨k, j + 2, none⟩ v2).cell? a = some u :=
  cell_setCell_ne _ (cell_setCell_ne _ (cell_setCell_ne _ h hb) hb) hb

set_option maxRecDepth 100000 in
set_option maxHeartbeats 1000000 in
theorem changed_any (lo bx bz : Nat) (v : Value) (o : List (List Pt)) (w : World) (R : Ending → World → Prop) (ho : IsOut w lo v o) (hlo : lo ≤ w.heap.size)
    (h1 : w.cell? ⟨bx, 0, none⟩ = some (.int .i64 0)) (h2 : w.cell? ⟨bz, 0, none⟩ = some (.int .i64 0))
    (hR : ∀ w' bs, OwnOut w' w.heap.size bs o → Nw w w' → R (.returned (.slice (some ⟨w.heap.size, 0, none⟩) o.length o.length)) w') :
    Calls Tryd.prog 35 #[v, .func (.func 36) #[] #[.pointer (some ⟨bx, 0, none⟩), .pointer (some ⟨bz, 0, none⟩)]] w R := by
  have HR := Lib.hid hR
  clear hR
  have HO := Lib.hid ho
  obtain ⟨A, cap, rfl, hl, hel⟩ := ho
  have HEL := Lib.hid hel
  clear hel
  have hmk := mk_out o.length hl
  go_enter Tryd.func35, Tryd.ntmps35
  go_wp2_with fail
  clear hmk
  generalize hB : w.heap.size = B at *
  have HB := Lib.hid hB
  clear hB
  go_loopw [6, 16] (fun s6 s16 wr => ∃ (k : Nat) (cnt : Nat) (bs : List Nat), s16 = .int .i64 k ∧ s6 = .int .i64 cnt ∧ k ≤ o.length ∧ cnt ≤ 64 * k ∧ wr.heap[B]? = some (.cells (sls bs (o.take k) ++ nils (o.length - k)).toArray 69 (0, 0)) ∧ Hold wr B bs (o.take k) ∧ Nw w wr)
    (fun _ s16 _ => o.length - (intOf s16).toNat)
  case atStart => exact ⟨0, 0, [], rfl, rfl, Nat.zero_le _, Nat.le_refl _, by rw [← HB.out]; exact heap_alloc_eq _ rfl, ⟨rfl, List.nodup_nil, fun k b c h => by cases h⟩, (Ch.refl _ _).alloc _⟩
  case round =>
    obtain ⟨k, cnt, bs, rfl, rfl, hk, hcnt, hBk, hold, hnw⟩ := hrel
    have HBK := Lib.hid hBk
    have HOLD := Lib.hid hold
    have HNW := Lib.hid hnw
    have lB : B < wr.heap.size := lt_of_heap hBk
    clear hBk hold hnw
    by_cases hlt : k < o.length
    · have hck : o[k]? = some o[k] := List.getElem?_eq_getElem hlt
      generalize o[k] = c at hck
      obtain ⟨hc64, hwf, bk, bo, vi, hbk, rfl, hcell, A2, cap2, rfl, -, hpts⟩ := HEL.out k c hck
      have HWF := Lib.hid hwf
      have HPTS := Lib.hid hpts
      have HCK := Lib.hid hck
      have hcell' := HNW.out.cell hcell (fun x => x)
      have lbk : bk < wr.heap.size := World.block_lt_of_cell? wr ⟨bk, _, none⟩ hcell'
      have zc : wr.cell? ⟨B, k, none⟩ = some (.slice none 0 0) := by
        rw [cell_of HBK.out]
        have hlen : (sls bs (o.take k)).length = k := by rw [sls_length HOLD.out.1]; simp; omega
        simp only [List.getElem?_toArray]
        rw [List.getElem?_append_right (by omega), hlen, Nat.sub_self]
        simp [nils, List.getElem?_replicate]; omega
      have zf : wr.frozen? ⟨B, k, none⟩ = false := frozen_of HBK.out
      have hmk := mk_pts c.length hc64
      have b1 : (0 : Int) ≤ (k : Int) := by omega
      have b2 : (k : Int) < (o.length : Int) := by omega
      have b3 : bk ≠ B := by have := HB.out; omega
      clear hcell hwf hpts hck
      go_wp2
      clear hmk
      have BZ : wr.heap.size ≠ B := by omega
      have f1 : ((wr.setCell ⟨B, k, none⟩ (.slice (some ⟨wr.heap.size, 0, none⟩) c.length c.length)).alloc (.cells (flat (zeros c.length)).toArray 72)).heap[wr.heap.size]? = some (.cells (flat (c.take 0 ++ zeros (c.length - 0))).toArray 72 (0, 0)) := heap_alloc_eq _ (by simp)
      have f2 : ((wr.setCell ⟨B, k, none⟩ (.slice (some ⟨wr.heap.size, 0, none⟩) c.length c.length)).alloc (.cells (flat (zeros c.length)).toArray 72)).heap[B]? = some (.cells (sls (bs ++ [wr.heap.size]) (o.take (k + 1)) ++ nils (o.length - (k + 1))).toArray 69 (0, 0)) := by
        refine heap_alloc_old' _ ?_
        rw [heap_setCell_eq _ HBK.out]
        congr 2
        have hlen : (sls bs (o.take k)).length = k := by rw [sls_length HOLD.out.1]; simp; omega
        have ht : o.take (k + 1) = o.take k ++ [c] := by rw [List.take_add_one, HCK.out]; rfl
        rw [ht, sls_snoc HOLD.out.1]
        simp only [List.setIfInBounds_toArray]
        rw [List.set_append_right _ _ (by omega), hlen, Nat.sub_self, show o.length - k = (o.length - (k + 1)) + 1 from by omega]
        simp [nils, List.replicate_succ]
      have f3 : Ch (· = B) wr ((wr.setCell ⟨B, k, none⟩ (.slice (some ⟨wr.heap.size, 0, none⟩) c.length c.length)).alloc (.cells (flat (zeros c.length)).toArray 72)) := ((Ch.refl (· = B) wr).setb (fun _ => rfl) _).alloc _
      have F1 := Lib.hid f1
      have F2 := Lib.hid f2
      have F3 := Lib.hid f3
      clear f1 f2 f3
      generalize ((wr.setCell ⟨B, k, none⟩ (.slice (some ⟨wr.heap.size, 0, none⟩) c.length c.length)).alloc (.cells (flat (zeros c.length)).toArray 72)) = w1 at F1 F2 F3 ⊢
      generalize hb : wr.heap.size = b at F1 F2 F3 BZ lB lbk ⊢
      have HBb := Lib.hid hb
      clear hb
      clear zc zf hcell'
      obtain ⟨wo, rfl⟩ : ∃ wo : World, wo = wr := ⟨_, rfl⟩
      go_loopw [6, 29] (fun s6 s29 wy => ∃ (i : Nat) (cn : Nat), s29 = .int .i64 i ∧ s6 = .int .i64 cn ∧ i ≤ c.length ∧ cn ≤ 64 * k + i ∧ wy.heap[b]? = some (.cells (flat (c.take i ++ zeros (c.length - i))).toArray 72 (0, 0)) ∧ Ch (· = b) w1 wy)
        (fun _ s29 _ => c.length - (intOf s29).toNat)
      case atStart => exact ⟨0, cnt, rfl, rfl, Nat.zero_le _, by omega, F1.out, Ch.refl _ _⟩
      case round =>
        obtain ⟨i, cn, rfl, rfl, hi, hcn, hbi, hch⟩ := hrel
        have HBI := Lib.hid hbi
        have HCH := Lib.hid hch
        have lb : b < wr.heap.size := lt_of_heap hbi
        clear hbi hch
        have nw1 : Nw w wr := by
          have h1 : Ch (· = B) w w1 := (HNW.out.mono fun _ _ x => x.elim).trans F3.out
          have h2 : Ch (fun j => j = B ∨ j = b) w wr := (h1.mono fun _ _ x => .inl x).trans (HCH.out.mono fun _ _ x => .inr x)
          exact h2.mono fun j hj hx => by have := HB.out; rcases hx with rfl | rfl <;> omega
        have NW := Lib.hid nw1
        clear nw1
        have g0 : wr.cell? ⟨B, k, none⟩ = some (.slice (some ⟨b, 0, none⟩) c.length c.length) := by
          rw [cell_of (HCH.out.heap F2.out (fun e => BZ e.symm))]
          have e1 : (bs ++ [b])[k]? = some b := by
            have := HOLD.out.1
            rw [List.getElem?_append_right (by simp at this; omega), show k - bs.length = 0 from by simp at this; omega]; rfl
          have e2 : (o.take (k + 1))[k]? = some c := by rw [List.getElem?_take, if_pos (by omega)]; exact HCK.out
          have := sls_get e1 e2
          simp only [List.getElem?_toArray]
          rw [List.getElem?_append_left (List.getElem?_eq_some_iff.1 this).1]
          exact this
        by_cases hil : i < c.length
        · have hqi : c[i]? = some c[i] := List.getElem?_eq_getElem hil
          have hset := upd_next hil
          generalize c[i] = q at hqi hset
          obtain ⟨pk, po, hpk, rfl, p0, p1, p2⟩ := HPTS.out i q hqi
          have wq : wfP q := HWF.out q (List.mem_of_getElem? hqi)
          have p0 := NW.out.cell p0 (fun x => x)
          have p1 := NW.out.cell p1 (fun x => x)
          have p2 := NW.out.cell p2 (fun x => x)
          have h1' := NW.out.cell h1 (fun x => x)
          have h2' := NW.out.cell h2 (fun x => x)
          have lpk : pk < wr.heap.size := World.block_lt_of_cell? wr ⟨pk, _, none⟩ p0
          have HSET := Lib.hid hset
          have WQ := Lib.hid wq
          clear hset wq hqi
          have i0 : (0 : Int) ≤ (i : Int) := by omega
          have i1 : (i : Int) < (c.length : Int) := by omega
          have lBy : B < wr.heap.size := World.block_lt_of_cell? wr ⟨B, _, none⟩ g0
          go_wp2_with fail
          obtain ⟨z, hz⟩ : ∃ z, (c.take i ++ zeros (c.length - i))[i]? = some z := ⟨_, List.getElem?_eq_getElem (by simp [zeros]; omega)⟩
          have HZ := Lib.hid (flat_get hz)
          clear hz
          go_region_held3 (fun w' => w'.cell? ⟨B, k, none⟩ = some (.slice (some ⟨b, 0, none⟩) c.length c.length) ∧ w'.cell? ⟨wr.heap.size, 0, none⟩ = some (.int .i64 q.1) ∧ w'.cell? ⟨wr.heap.size, 1, none⟩ = some (.int .i64 q.2.1) ∧ w'.cell? ⟨wr.heap.size, 2, none⟩ = some (.bool q.2.2))
            (first | (exact ⟨cell_alloc_old _ g0, cell_alloc_new rfl rfl, cell_alloc_new rfl rfl, cell_alloc_new rfl rfl⟩) | (exact ⟨N2.cell g0 id, d0, d1, d2⟩) | (exact ⟨cell_set3 (N2.cell g0 id) BZ.symm _ _ _, cell_set3 d0 (by show wr.heap.size ≠ b; omega) _ _ _, cell_set3 d1 (by show wr.heap.size ≠ b; omega) _ _ _, cell_set3 d2 (by show wr.heap.size ≠ b; omega) _ _ _⟩))
            (first | (go_at_call 36; refine shift1_any bx bz _ q _ _ WQ.out (by exact cell_alloc_old _ h1') (by exact cell_alloc_old _ h2') ?_; intro w2 c2; (have N2 : Nw wr w2 := ((Ch.refl _ wr).alloc _).trans c2.undrew); (have d0 : w2.cell? ⟨wr.heap.size, 0, none⟩ = some (.int .i64 q.1) := c2.undrew.cell (cell_alloc_new rfl rfl) id); (have d1 : w2.cell? ⟨wr.heap.size, 1, none⟩ = some (.int .i64 q.2.1) := c2.undrew.cell (cell_alloc_new rfl rfl) id); (have d2 : w2.cell? ⟨wr.heap.size, 2, none⟩ = some (.bool q.2.2) := c2.undrew.cell (cell_alloc_new rfl rfl) id); (have hb2 := N2.heap HBI.out id); (have x0 : w2.cell? ⟨b, i * 3, none⟩ = some (.int .i64 z.1) := (cell_of (o := i * 3) hb2).trans (by rw [List.getElem?_toArray]; exact HZ.out.1)); (have x1 : w2.cell? ⟨b, i * 3 + 1, none⟩ = some (.int .i64 z.2.1) := (cell_of (o := i * 3 + 1) hb2).trans (by rw [List.getElem?_toArray]; exact HZ.out.2.1)); (have x2 : w2.cell? ⟨b, i * 3 + 2, none⟩ = some (.bool z.2.2) := (cell_of (o := i * 3 + 2) hb2).trans (by rw [List.getElem?_toArray]; exact HZ.out.2.2)); (have xf : ∀ j, w2.frozen? ⟨b, j, none⟩ = false := fun j => frozen_of hb2); (have HB2 := Lib.hid hb2); clear hb2))
          have f4 : (((w2.setCell ⟨b, i * 3, none⟩ (.int .i64 q.1)).setCell ⟨b, i * 3 + 1, none⟩ (.int .i64 q.2.1)).setCell ⟨b, i * 3 + 2, none⟩ (.bool q.2.2)).heap[b]? = some (.cells (flat (c.take (i + 1) ++ zeros (c.length - (i + 1)))).toArray 72 (0, 0)) := by
            rw [heap_setCell_eq _ (heap_setCell_eq _ (heap_setCell_eq _ HB2.out))]
            simp only [List.setIfInBounds_toArray]
            rw [flat_set q (by simp [zeros]; omega), HSET.out]
          have f5 : Ch (· = b) w1 (((w2.setCell ⟨b, i * 3, none⟩ (.int .i64 q.1)).setCell ⟨b, i * 3 + 1, none⟩ (.int .i64 q.2.1)).setCell ⟨b, i * 3 + 2, none⟩ (.bool q.2.2)) :=
            (((HCH.out.trans (N2.mono fun _ _ x => x.elim)).setb (fun _ => rfl) _).setb (fun _ => rfl) _).setb (fun _ => rfl) _
          have F4 := Lib.hid f4
          have F5 := Lib.hid f5
          clear f4 f5
          go_wp2
          go_roundw
          case rel => exact ⟨i + 1, cn + 1, by go_num, by go_num, by omega, by omega, F4.out, F5.out⟩
          case measure => simp [intOf]; omega
        · obtain rfl : i = c.length := by omega
          go_wp2
          go_roundw
          case rel =>
            refine ⟨k + 1, cn, bs ++ [b], by go_num, rfl, by omega, by omega, HCH.out.heap F2.out (fun e => BZ e.symm), ?_, NW.out⟩
            have ht : o.take (k + 1) = o.take k ++ [c] := by rw [List.take_add_one, HCK.out]; rfl
            have hl1 := HOLD.out.1
            refine ⟨by rw [ht]; simp at hl1 ⊢; omega, ?_, ?_⟩
            · rw [List.nodup_append]
              refine ⟨HOLD.out.2.1, List.nodup_cons.2 ⟨List.not_mem_nil, List.nodup_nil⟩, ?_⟩
              intro x hx y hy
              simp at hy; subst hy
              have := (HOLD.out.lt hx).2
              have := HBb.out
              omega
            · intro j x y hx hy
              rw [ht] at hy
              by_cases hj : j < bs.length
              · rw [List.getElem?_append_left hj] at hx
                rw [List.getElem?_append_left (by rw [← hl1]; exact hj)] at hy
                have h3 := HOLD.out.2.2 j x y hx hy
                have hx1 := (HOLD.out.lt (List.mem_of_getElem? hx)).2
                have := HBb.out
                exact ⟨h3.1, HCH.out.heap (F3.out.heap h3.2 (by omega)) (by omega)⟩
              · rw [List.getElem?_append_right (by omega)] at hx
                rw [List.getElem?_append_right (by omega)] at hy
                rw [← hl1] at hy
                obtain ⟨d, hd⟩ : ∃ d, d = j - bs.length := ⟨_, rfl⟩
                rw [← hd] at hx hy
                cases d with
                | succ d => cases hx
                | zero =>
                  simp at hx hy
                  subst hx hy
                  refine ⟨lB, ?_⟩
                  have := HBI.out
                  rw [List.take_length, Nat.sub_self] at this
                  simpa [zeros] using this
          case measure => simp [intOf]; omega
    · obtain rfl : k = o.length := by omega
      have hBk := HBK.out
      have hold := HOLD.out
      rw [List.take_length] at hBk hold
      rw [Nat.sub_self, show nils 0 = [] from rfl, List.append_nil] at hBk
      have K := Lib.hid (HR.out wr bs ⟨hBk, hold⟩ HNW.out)
      clear hBk hold
      go_wp2
      exact K.out

set_option maxRecDepth 100000 in
theorem shift_any (lo : Nat) (v : Value) (o : List (List Pt)) (w : World) (R : Ending → World → Prop) (ho : IsOut w lo v o) (hlo : lo ≤ w.heap.size)
    (hR : ∀ w' bs B, w.heap.size ≤ B → OwnOut w' B bs o → Nw w w' → R (.returned (.slice (some ⟨B, 0, none⟩) o.length o.length)) w') :
    Calls Tryd.prog 24 #[v, .int .i64 0, .int .i64 0] w R := by
  have HR := Lib.hid hR
  clear hR
  have HO := Lib.hid ho
  clear ho
  have hmf : ∀ (fn : Fn) (first cap : Array Value) (w : World), (Instr.makeFunc fn first cap).run Tryd.prog w = .ok (.func fn first cap) w := fun _ _ _ _ => rfl
  go_enter Tryd.func24, Tryd.ntmps24
  go_wp2_with (go_at_call 35; refine changed_any lo w.heap.size (w.heap.size + 1) v o _ _ (by exact HO.out.kept (((Ch.refl (fun _ => False) w).alloc _).alloc _) (fun _ _ x => x)) (by simp; omega) (by exact cell_alloc_old _ (cell_alloc_new rfl rfl)) (by exact cell_alloc_new (by simp) rfl) ?_; intro w1 bs e1 c1; (have N1 := Lib.hid ((((Ch.refl (fun _ => False) w).alloc _).alloc _).trans c1)); (have E1 := Lib.hid e1); clear e1 c1)
  exact HR.out w1 bs _ (by omega) (by simpa using E1.out) N1.out
end Go.Proofs.YtlgcijafjcfnhaaDoor
