/-
  names.pieces: the pieces of a string.
-/
import Derived.Test.YtnibgjpbijlhbaaDoorNg
import Derived.Test.YtnibgjpbijlhbaaDoorCRow
import Derived.Test.YtnibgjpbijlhbaaDoorSlr
import Derived.Test.YtnibgjpbijlhbaaDoorRegI
import Derived.Sort.CutIn
namespace Go.Proofs.YtnibgjpbijlhbaaDoor
open Go.RowKit Go.Shelf
attribute [local go_sem] Oper.semAt_some
set_option linter.unusedVariables false
set_option linter.unusedSimpArgs false
set_option maxRecDepth 100000

set_option maxHeartbeats 2000000 in
theorem piecesG_any (w : World) (x y : UInt8) (R : Ending → World → Prop) (hR : ∀ w', Nw w w' → R (.returned (.bool (goesD x y))) w') : Calls Tryd.prog 47 #[.int .u8 (x.toNat : Nat), .int .u8 (y.toNat : Nat)] w R := by
  have HR := Lib.hid hR
  clear hR
  go_enter Tryd.func47, Tryd.ntmps47
  obtain ⟨a, ha⟩ : ∃ a, scr x = a := ⟨_, rfl⟩
  obtain ⟨b, hb⟩ : ∃ b, scr y = b := ⟨_, rfl⟩
  have HA := Lib.hid ha
  have HB := Lib.hid hb
  clear ha hb
  by_cases h2 : a = 2
  · have e2 : ((a : Int) == 2) = true := by simp; omega
    have HE := Lib.hid (show goesD x y = ((b : Int) == 2) from by
      unfold goesD
      rw [HA.out, HB.out, Bool.eq_iff_iff]
      simp only [Bool.and_eq_true, beq_iff_eq, decide_eq_true_eq]
      omega)
    clear h2
    go_wp2_with (go_at_call 18; first | (with_reducible refine script_any x _ _ ?_; rw [HA.out]) | (with_reducible refine script_any y _ _ ?_; rw [HB.out]))
    exact ret_b (HR.out _ (Ch.refl _ _)) HE.out
  · have e2 : ((a : Int) == 2) = false := by simp; omega
    have HE := Lib.hid (show goesD x y = false from by
      unfold goesD
      rw [HA.out, decide_eq_false h2]
      rfl)
    clear h2
    go_wp2_with (go_at_call 18; first | (with_reducible refine script_any x _ _ ?_; rw [HA.out]) | (with_reducible refine script_any y _ _ ?_; rw [HB.out]))
    exact ret_b (HR.out _ (Ch.refl _ _)) HE.out
/-- The cells of pieces. -/
def pcV (p : Pc) : List Value := [.bool p.1, .int .i64 (p.2.1 : Nat), .string ⟨p.2.2.toArray⟩]
def pcC (R : List Pc) : List Value := R.flatMap pcV
def rgP (L : List UInt8) {n : Nat} (pre : List (Rg n)) : List Value := pcC (pre.map fun x => pcOf L x.1)
theorem rgP_snoc (L : List UInt8) {n : Nat} (pre : List (Rg n)) (x : Rg n) : rgP L (pre ++ [x]) = rgP L pre ++ pcV (pcOf L x.1) := by simp [rgP, pcC]
theorem rgP_all {L : List UInt8} {n : Nat} {pre : List (Rg n)} (h : pre.map Subtype.val = ranges goesD L) : rgP L pre = pcC (pcs L) ∧ pre.length = (pcs L).length := by
  unfold rgP
  rw [← pcs_ranges, ← h, List.map_map, List.length_map]
  exact ⟨rfl, rfl⟩
theorem extract_sub (s : ByteArray) (f t : Nat) : s.extract f t = ⟨(sub s.data.toList f t).toArray⟩ := by
  apply ByteArray.ext
  rw [ByteArray.data_extract]
  apply Array.toList_inj.1
  simp [sub, List.extract_eq_take_drop]
theorem len_drop_le (l : List UInt8) (p : UInt8 → Bool) : (l.dropWhile p).length ≤ l.length := (List.dropWhile_suffix p).length_le

set_option maxHeartbeats 8000000 in
theorem npieces_any (s : ByteArray) (w : World) (R : Ending → World → Prop) (hs : s.size ≤ 1000000)
    (hR : ∀ w' v, CRow w' 60 3 w.heap.size v (pcs s.data.toList).length (pcC (pcs s.data.toList)) → Nw w w' → R (.returned v) w') : Calls Tryd.prog 34 #[.string s] w R := by
  have HR := Lib.hid hR
  clear hR
  have NX := Lib.hid (Ch.refl (fun _ => False) w)
  refine (callsIn_wide (n := 4)).1 ?_
  have hro : (Fence.wide).round = none := rfl
  have hf2 : (Fence.wide).fn 45 := trivial
  refine callsIn_of_wp_marks Tryd.func34 rfl trivial ?_ hro
  simp only [Tryd.ntmps34, List.size_toArray, List.length_cons, List.length_nil, Nat.reduceAdd, Nat.reduceSub, Array.replicate_succ, Array.replicate_zero, List.push_toArray, List.append_toArray, List.nil_append, List.cons_append]
  refine wpIn_wide.2 ?_
  go_wp2_with (fail)
  refine Calls_nm ?_
  intro W1 hW
  have n : Nw w W1 := by rw [hW]; exact ((Ch.refl _ _).alloc _).alloc _
  replace NX := Lib.hid (NX.out.trans n)
  have HBX := Lib.hid (show W1.heap[w.heap.size]? = some (.cells #[.string s] 9 (0, 0)) from by rw [hW]; exact heap_alloc_old' _ (heap_alloc_eq _ rfl))
  have HOB := Lib.hid (show W1.heap[w.heap.size + 1]? = some (.cells #[.slice none 0 0] 57 (0, 0)) from by rw [hW]; exact heap_alloc_eq _ (by simp only [alloc_size]))
  clear hW n
  have SZ : w.heap.size + 1 < W1.heap.size := lt_of_heap HOB.out
  refine callsIn_wide.1 ((ranges_in 4 s 47 W1).mono ?_)
  rintro e w' ⟨rfl, rfl⟩
  go_wp2_with (fail)
  refine wp_named ?_
  intro W2 hW
  have n : Nw W1 W2 := by rw [hW]; exact ((Ch.refl _ _).alloc _).alloc _
  replace NX := Lib.hid (NX.out.trans n)
  replace HBX := Lib.hid (n.heap HBX.out id)
  replace HOB := Lib.hid (n.heap HOB.out id)
  have HBD := Lib.hid (show W2.heap[W1.heap.size]? = some (.cells #[.string s] 9 (0, 0)) from by rw [hW]; exact heap_alloc_old' _ (heap_alloc_eq _ rfl))
  have HBG := Lib.hid (show W2.heap[W1.heap.size + 1]? = some (.cells #[.func (.func 47) #[] #[]] 55 (0, 0)) from by rw [hW]; exact heap_alloc_eq _ (by simp only [alloc_size]))
  clear hW n
  have SB : W1.heap.size + 1 < W2.heap.size := lt_of_heap HBG.out
  obtain ⟨L, hL⟩ : ∃ L, s.data.toList = L := ⟨_, rfl⟩
  have hlen : L.length = s.size := by rw [← hL]; exact ba_len s
  have HL := Lib.hid hL
  rw [hL] at HR
  clear hL
  refine (wpIn_wide (n := 4)).1 ?_
  refine wpIn_rangeFunc_ownH hro (by omega) (gf := 45) (lb := #[.pointer (some ⟨W1.heap.size, 0, none⟩), .pointer (some ⟨W1.heap.size + 1, 0, none⟩)]) rfl hf2 (enters_of Tryd.func45 (by kernel_rfl) rfl)
    (ranges_stops 3 (by omega) (W1.heap.size) (W1.heap.size + 1) (FpD (w.heap.size + 1) W2.heap.size) s 47 goesD W2 HBD.out HBG.out (by kernel_rfl) hs (fun w' x y R' h => piecesG_any w' x y R' h) (by rintro (h | h) <;> omega) (by rintro (h | h) <;> omega))
    (fun h k => h.trans k) (fun W l o o' hl _ _ _ => ch_putObj W l o' (by omega)) (Below.refl _ _) (fun _ => rfl)
    (fun (pre : List (Rg s.size)) W' => ∃ v, W'.heap[w.heap.size + 1]? = some (.cells #[v] 57 (0, 0)) ∧ CRow W' 60 3 (W2.heap.size) v pre.length (rgP L pre) ∧ Ch (FpD (w.heap.size + 1) W2.heap.size) W2 W')
    (fun _ _ _ => False) ?own (fun _ _ _ _ _ h _ _ => h) ⟨_, HOB.out, CRow.nil _ _, Ch.refl _ _⟩
    (fun d a' W' => a' = { tmps := #[.string s, .pointer (some ⟨w.heap.size, 0, none⟩), .slice none 0 0, .pointer (some ⟨w.heap.size + 1, 0, none⟩), .int .i64 (d.1.1 : Nat), .int .i64 (d.1.2 : Nat), undef, .string s, .func (.func 45) #[] #[.pointer (some ⟨W1.heap.size, 0, none⟩), .pointer (some ⟨W1.heap.size + 1, 0, none⟩)], .int .i64 (d.1.1 : Nat), .int .i64 (d.1.2 : Nat), undef, undef, undef, undef, undef, undef, undef, undef, undef, undef, undef, undef, undef, undef, undef, undef, undef, undef, undef, undef, undef, undef, undef, undef, undef, undef], defers := [] })
    ?axo ?assign ?body ?done ?stop
  case own =>
    rintro pre W' W2 row ⟨v, h1, h2, h3⟩ hg hr
    refine ⟨v, ?_, h2.grown hg (fun k e => (hr k e).2), h3.grown hg (fun k e hk => Or.inr (hr k e).1)⟩
    rw [hg.block _ (lt_of_heap h1) (fun e => by have := (hr _ e.symm).1; omega)]
    exact h1
  case axo =>
    intro d a' u W' W2 row h hg hr
    exact h
  case assign =>
    intro lp pre d W' K hI hK
    have htm : ((#[9, 10].zip (encR d.1)).foldl (fun t (p, v) => t.setIfInBounds p v) #[.string s, .pointer (some ⟨w.heap.size, 0, none⟩), .slice none 0 0, .pointer (some ⟨w.heap.size + 1, 0, none⟩), undef, undef, undef, .string s, .func (.func 45) #[] #[.pointer (some ⟨W1.heap.size, 0, none⟩), .pointer (some ⟨W1.heap.size + 1, 0, none⟩)], undef, undef, undef, undef, undef, undef, undef, undef, undef, undef, undef, undef, undef, undef, undef, undef, undef, undef, undef, undef, undef, undef, undef, undef, undef, undef, undef, undef]) = #[.string s, .pointer (some ⟨w.heap.size, 0, none⟩), .slice none 0 0, .pointer (some ⟨w.heap.size + 1, 0, none⟩), undef, undef, undef, .string s, .func (.func 45) #[] #[.pointer (some ⟨W1.heap.size, 0, none⟩), .pointer (some ⟨W1.heap.size + 1, 0, none⟩)], .int .i64 (d.1.1 : Nat), .int .i64 (d.1.2 : Nat), undef, undef, undef, undef, undef, undef, undef, undef, undef, undef, undef, undef, undef, undef, undef, undef, undef, undef, undef, undef, undef, undef, undef, undef, undef, undef] := by simp [encR]
    first | rw [htm] | skip
    clear htm
    gi_wp2
    exact hK _ _ ((KeepsOthers.refl W').from _) (Ch.refl _ _) hI rfl
  case body =>
    rintro lp pre ⟨⟨f, t⟩, hft1, hft2⟩ a' W' hl hlp ⟨v, hbo, hbr, hch⟩ rfl hlt
    simp only at hft1 hft2 ⊢
    obtain ⟨Av, cv, rfl⟩ := hbr.form
    have HBO := Lib.hid hbo
    have HBR := Lib.hid hbr
    have HCH := Lib.hid hch
    have HCH0 := Lib.hid hch
    clear hbo hbr hch
    obtain ⟨c, hc⟩ : ∃ c, s.data.toList[f]? = some c := ⟨_, List.getElem?_eq_getElem (by rw [HL.out, hlen]; omega)⟩
    have HCF := Lib.hid (show at0 L f = c from by rw [← HL.out]; exact at0_get hc)
    have f0 : (0 : Int) ≤ (f : Int) := by omega
    have f1 : (f : Int) ≤ (t : Int) := by omega
    have f2 : (t : Int) ≤ (s.size : Int) := by omega
    obtain ⟨T, hT⟩ : ∃ T, s.extract f t = T := ⟨_, rfl⟩
    have HTX := Lib.hid (show T = ⟨(sub L f t).toArray⟩ from by rw [← hT, extract_sub, HL.out])
    have HTS := Lib.hid (show T.size ≤ s.size from by rw [← hT, ByteArray.size_extract]; omega)
    have LBR : ∀ k, (Value.slice Av pre.length cv).ownBlock = some k → k < W'.heap.size := fun k hk => (HBR.out.lt k hk).2
    have LBO := lt_of_heap HBO.out
    have HBX3 := Lib.hid (HCH.out.heap HBX.out (by rintro (h | h) <;> omega))
    have HN := Lib.hid (Ch.refl (fun _ => False) W')
    have MW : W2.heap.size ≤ W'.heap.size := HCH.out.size
    obtain ⟨x, hx⟩ : ∃ x : Nat, scr c = x := ⟨_, rfl⟩
    have HX := Lib.hid hx
    have HD := Lib.hid (show isD c = true ↔ x = 2 from by rw [← hx]; exact (scr_two c).symm)
    clear hx
    by_cases hx2 : x = 2
    · have e2 : ((x : Int) != 2) = false := by simp; omega
      gi_wp2
      have SWL : W'.heap.size ≤ W'.heap.size := Nat.le_refl _
      refine wpIn_named ?_
      intro W3 hW
      have n : Nw W' W3 := by rw [hW]; first | exact Ch.refl _ _ | exact (Ch.refl _ _).alloc _
      replace HCH := Lib.hid (HCH.out.trans' n (fun _ _ e => e.elim))
      replace HBO := Lib.hid (n.heap HBO.out id)
      replace HBR := Lib.hid (HBR.out.ch' n (fun _ _ e => e))
      replace HBX3 := Lib.hid (n.heap HBX3.out id)
      replace HN := Lib.hid (HN.out.trans n)
      replace MW := Nat.le_trans MW n.size
      replace SWL := Nat.le_trans SWL n.size
      clear hW n
      refine wpIn_region_V (F := fun w' => w'.cell? ⟨w.heap.size, 0, none⟩ = some (.string s)) (opsOf Tryd.f34 5) 11 12 (by kernel_rfl) (by kernel_rfl) (by kernel_rfl) (by kernel_rfl) (by rintro ⟨_, _, h⟩; exact h) (fun w w' h n => (n.cell h id)) (by show W3.cell? _ = _; rw [cell_of HBX3.out]; rfl) (fun HOPS HCL hHeld => ?_)
      refine wpU_named ?_
      intro W4 hW
      try rw [← hW] at hHeld
      have n : Nw W3 W4 := by rw [hW]; exact (Ch.refl _ _).drew
      replace HCH := Lib.hid (HCH.out.trans' n (fun _ _ e => e.elim))
      replace HBO := Lib.hid (n.heap HBO.out id)
      replace HBR := Lib.hid (HBR.out.ch' n (fun _ _ e => e))
      replace HBX3 := Lib.hid (n.heap HBX3.out id)
      replace HN := Lib.hid (HN.out.trans n)
      replace MW := Nat.le_trans MW n.size
      replace SWL := Nat.le_trans SWL n.size
      clear hW n
      first | (refine wpU_takeB (i := 0) (v := ?_) HOPS rfl (by kernel_rfl) (fun _ _ _ h => h) HCL (goes_read (by rfl) ?hy) ?_; case hy => (intro w hSw; (try dsimp only at hSw); go_simp; (try with_reducible rfl))) | (refine wpU_takeB (i := 0) (v := _) HOPS rfl (by kernel_rfl) (fun _ _ _ h => h) HCL (goes_not (by rfl)) ?_)
      try simp only [Act.put, List.getElem_toArray, List.getElem_cons_succ, List.getElem_cons_zero, List.setIfInBounds_toArray, List.set_cons_zero, List.set_cons_succ]
      first | (refine wpU_takeB (i := 1) (v := ?_) HOPS rfl (by kernel_rfl) (fun _ _ _ h => h) HCL (goes_read (by rfl) ?hy) ?_; case hy => (intro w hSw; (try dsimp only at hSw); go_simp; (try with_reducible rfl))) | (refine wpU_takeB (i := 1) (v := _) HOPS rfl (by kernel_rfl) (fun _ _ _ h => h) HCL (goes_not (by rfl)) ?_)
      try simp only [Act.put, List.getElem_toArray, List.getElem_cons_succ, List.getElem_cons_zero, List.setIfInBounds_toArray, List.set_cons_zero, List.set_cons_succ]
      first | (refine wpU_takeB (i := 5) (v := ?_) HOPS rfl (by kernel_rfl) (fun _ _ _ h => h) HCL (goes_read (by rfl) ?hy) ?_; case hy => (intro w hSw; (try dsimp only at hSw); go_simp; (try with_reducible rfl))) | (refine wpU_takeB (i := 5) (v := _) HOPS rfl (by kernel_rfl) (fun _ _ _ h => h) HCL (goes_not (by rfl)) ?_)
      try simp only [Act.put, List.getElem_toArray, List.getElem_cons_succ, List.getElem_cons_zero, List.setIfInBounds_toArray, List.set_cons_zero, List.set_cons_succ]
      first | (refine wpU_takeB (i := 6) (v := ?_) HOPS rfl (by kernel_rfl) (fun _ _ _ h => h) HCL (goes_read (by rfl) ?hy) ?_; case hy => (intro w hSw; (try dsimp only at hSw); go_simp; (try with_reducible rfl))) | (refine wpU_takeB (i := 6) (v := _) HOPS rfl (by kernel_rfl) (fun _ _ _ h => h) HCL (goes_not (by rfl)) ?_)
      try simp only [Act.put, List.getElem_toArray, List.getElem_cons_succ, List.getElem_cons_zero, List.setIfInBounds_toArray, List.set_cons_zero, List.set_cons_succ]
      first | (refine wpU_takeB (i := 7) (v := ?_) HOPS rfl (by kernel_rfl) (fun _ _ _ h => h) HCL (goes_read (by rfl) ?hy) ?_; case hy => (intro w hSw; (try dsimp only at hSw); go_simp; (try with_reducible rfl))) | (refine wpU_takeB (i := 7) (v := _) HOPS rfl (by kernel_rfl) (fun _ _ _ h => h) HCL (goes_not (by rfl)) ?_)
      try simp only [Act.put, List.getElem_toArray, List.getElem_cons_succ, List.getElem_cons_zero, List.setIfInBounds_toArray, List.set_cons_zero, List.set_cons_succ]
      first | (refine wpU_takeB (i := 8) (v := ?_) HOPS rfl (by kernel_rfl) (fun _ _ _ h => h) HCL (goes_read (by rfl) ?hy) ?_; case hy => (intro w hSw; (try dsimp only at hSw); go_simp; (try with_reducible rfl))) | (refine wpU_takeB (i := 8) (v := _) HOPS rfl (by kernel_rfl) (fun _ _ _ h => h) HCL (goes_not (by rfl)) ?_)
      try simp only [Act.put, List.getElem_toArray, List.getElem_cons_succ, List.getElem_cons_zero, List.setIfInBounds_toArray, List.set_cons_zero, List.set_cons_succ]
      refine wpU_takeB (i := 2) HOPS rfl (by kernel_rfl) (fun _ _ _ h => h) HCL (goes_idx _ _ _ s f c _ (by rfl) rfl Tryd.underlying9 (by rfl) (by rfl) hc rfl) ?_
      try simp only [Act.put, List.getElem_toArray, List.getElem_cons_succ, List.getElem_cons_zero, List.setIfInBounds_toArray, List.set_cons_zero, List.set_cons_succ]
      refine wpU_takeB (i := 3) HOPS rfl (by kernel_rfl) (fun _ _ _ h => h) HCL (goes_fn (v := .int .i64 (x : Nat)) 18 _ _ _ #[.int .u8 (c.toNat : Nat)] (by rfl) rfl (by kernel_rfl) (by kernel_rfl) (by kernel_rfl) (fun wq n R hR => ?_)) ?_
      · exact script_any c _ _ (by rw [HX.out]; exact hR _ (Ch.refl _ _))
      try simp only [Act.put, List.getElem_toArray, List.getElem_cons_succ, List.getElem_cons_zero, List.setIfInBounds_toArray, List.set_cons_zero, List.set_cons_succ]
      first | (refine wpU_takeB (i := 4) (v := ?_) HOPS rfl (by kernel_rfl) (fun _ _ _ h => h) HCL (goes_read (by rfl) ?hy) ?_; case hy => (intro w hSw; (try dsimp only at hSw); go_simp; (try with_reducible rfl))) | (refine wpU_takeB (i := 4) (v := _) HOPS rfl (by kernel_rfl) (fun _ _ _ h => h) HCL (goes_not (by rfl)) ?_)
      try simp only [Act.put, List.getElem_toArray, List.getElem_cons_succ, List.getElem_cons_zero, List.setIfInBounds_toArray, List.set_cons_zero, List.set_cons_succ]
      first | (refine wpU_takeB (i := 9) (v := ?_) HOPS rfl (by kernel_rfl) (fun _ _ _ h => h) HCL (goes_read (by rfl) ?hy) ?_; case hy => (intro w hSw; (try dsimp only at hSw); go_simp; (try with_reducible rfl))) | (refine wpU_takeB (i := 9) (v := _) HOPS rfl (by kernel_rfl) (fun _ _ _ h => h) HCL (goes_not (by rfl)) ?_)
      try simp only [Act.put, List.getElem_toArray, List.getElem_cons_succ, List.getElem_cons_zero, List.setIfInBounds_toArray, List.set_cons_zero, List.set_cons_succ]
      refine wpU_ready (rs := [10]) (by kernel_rfl) (by simp) ?_
      intro w5 hle
      obtain ⟨n, hHeld⟩ := hle.ahead (by kernel_rfl)
      clear hle
      replace HCH := Lib.hid (HCH.out.trans' n (fun _ _ e => e.elim))
      replace HBO := Lib.hid (n.heap HBO.out id)
      replace HBR := Lib.hid (HBR.out.ch' n (fun _ _ e => e))
      replace HBX3 := Lib.hid (n.heap HBX3.out id)
      replace HN := Lib.hid (HN.out.trans n)
      replace MW := Nat.le_trans MW n.size
      replace SWL := Nat.le_trans SWL n.size
      clear n
      refine ReadyU.cons HOPS rfl (by rfl) (fun K hK => ?_) ReadyU.nil
      go_simp
      refine hK.out _ _ ((Ch.refl _ _).alloc _) (cell_alloc_old _ (by rw [cell_of HBX3.out]; rfl)) (fun hHeld => ?_)
      clear hK K
      try simp only [Act.put, List.getElem_toArray, List.getElem_cons_succ, List.getElem_cons_zero, List.setIfInBounds_toArray, List.set_cons_zero, List.set_cons_succ]
      have MWAHPB := MW
      have SWLAHPB := SWL
      refine wpU_named ?_
      intro W6 hW
      try rw [← hW] at hHeld
      have NA := Lib.hid (show Nw w5 W6 from by rw [hW]; exact (Ch.refl _ _).alloc _)
      have HPB := Lib.hid (show W6.heap[w5.heap.size]? = some (.cells #[.bool false, .int .i64 0, .string ⟨#[]⟩] 60 (0, 0)) from by rw [hW]; exact heap_alloc_eq _ rfl)
      clear hW
      refine wpU_ready (rs := [11]) (by kernel_rfl) (by simp) ?_
      intro w7 hle
      obtain ⟨n, hHeld⟩ := hle.ahead (by kernel_rfl)
      clear hle
      replace NA := Lib.hid (NA.out.trans n)
      replace HPB := Lib.hid (n.heap HPB.out id)
      clear n
      refine ReadyU.last HOPS rfl (by rfl) (by kernel_rfl) (fun K hK => ?_) ReadyU.nil
      have o0 : w7.cell? ⟨w5.heap.size, 0, none⟩ = some (.bool false) := by rw [cell_of HPB.out]; rfl
      have o1 : w7.cell? ⟨w5.heap.size, 1, none⟩ = some (.int .i64 0) := by rw [cell_of HPB.out]; rfl
      have o2 : w7.cell? ⟨w5.heap.size, 2, none⟩ = some (.string ⟨#[]⟩) := by rw [cell_of HPB.out]; rfl
      have p0 : w7.frozen? ⟨w5.heap.size, 0, none⟩ = false := frozen_of HPB.out
      have p1 : w7.frozen? ⟨w5.heap.size, 1, none⟩ = false := frozen_of HPB.out
      have p2 : w7.frozen? ⟨w5.heap.size, 2, none⟩ = false := frozen_of HPB.out
      go_simp
      refine hK.out _ _ ?_
      clear hK K o0 p0 o1 p1 o2 p2
      try simp only [Act.put, List.getElem_toArray, List.getElem_cons_succ, List.getElem_cons_zero, List.setIfInBounds_toArray, List.set_cons_zero, List.set_cons_succ]
      refine wpU_named ?_
      intro W8 hW
      have c : Ch (· = w5.heap.size) w7 W8 := by rw [hW]; exact (((Ch.refl (· = w5.heap.size) w7).setb (fun _ => rfl) _).setb (fun _ => rfl) _).setb (fun _ => rfl) _
      have n : Nw w5 W8 := NA.out.trans' c (fun j hj e => by have e' : j = w5.heap.size := e; omega)
      replace HPB := Lib.hid (show W8.heap[w5.heap.size]? = some (.cells #[.bool false, .int .i64 0, .string T] 60 (0, 0)) from by rw [hW]; exact heap_setCell_eq _ (heap_setCell_eq _ (heap_setCell_eq _ (HPB.out))))
      clear hW c NA
      replace HCH := Lib.hid (HCH.out.trans' n (fun _ _ e => e.elim))
      replace HBO := Lib.hid (n.heap HBO.out id)
      replace HBR := Lib.hid (HBR.out.ch' n (fun _ _ e => e))
      replace HBX3 := Lib.hid (n.heap HBX3.out id)
      replace HN := Lib.hid (HN.out.trans n)
      replace MW := Nat.le_trans MW n.size
      replace SWL := Nat.le_trans SWL n.size
      clear n
      refine wpU_done (by kernel_rfl) (fun w9 hle => ?_) _
      rw [hle.behind (by kernel_rfl)]
      clear HOPS HCL hle
      repeat clear hHeld
      obtain ⟨T2, hT2⟩ : ∃ T2 : ByteArray, ⟨(Lib.trimLeftB T.data.toList 48).toArray⟩ = T2 := ⟨_, rfl⟩
      have HT2 := Lib.hid hT2
      clear hT2
      have k0 : W8.cell? ⟨w5.heap.size, 0, none⟩ = some (.bool false) := by rw [cell_of HPB.out]; rfl
      have k1 : W8.cell? ⟨w5.heap.size, 1, none⟩ = some (.int .i64 0) := by rw [cell_of HPB.out]; rfl
      have k2 : W8.cell? ⟨w5.heap.size, 2, none⟩ = some (.string T) := by rw [cell_of HPB.out]; rfl
      have q0 : W8.frozen? ⟨w5.heap.size, 0, none⟩ = false := frozen_of HPB.out
      have q1 : W8.frozen? ⟨w5.heap.size, 1, none⟩ = false := frozen_of HPB.out
      have q2 : W8.frozen? ⟨w5.heap.size, 2, none⟩ = false := frozen_of HPB.out
      gi_wp2_with (fail)
      refine ⟨trivial, CallsIn.inRound lp (callsIn_wide.2 ((Tryd.strings_TrimLeft_one T 48 (by decide) _).mono ?_))⟩
      rintro e w' ⟨rfl, hw⟩
      obtain rfl := hw.symm
      rw [HT2.out]
      have T2s : T2.size ≤ 1000000 := by
        rw [← HT2.out]
        show (Lib.trimLeftB T.data.toList 48).toArray.size ≤ _
        rw [List.size_toArray]
        have h1 := len_drop_le T.data.toList (· == 48)
        have h2 := HTS.out
        have h3 := ba_len T
        unfold Lib.trimLeftB
        omega
      gi_upto_region 9 with (fail)
      clear k0 k1 k2 q0 q1 q2
      refine wpIn_named ?_
      intro W10 hW
      have cs : Ch (· = w5.heap.size) W8 W10 := by rw [hW]; exact ((Ch.refl (· = w5.heap.size) W8).setb (fun _ => rfl) _).setb (fun _ => rfl) _
      have HPBn := Lib.hid (show W10.heap[w5.heap.size]? = some (.cells #[.bool false, .int .i64 (T2.size : Nat), .string T2] 60 (0, 0)) from by rw [hW]; exact heap_setCell_eq _ (heap_setCell_eq _ HPB.out))
      clear hW
      clear HCH
      replace HBO := Lib.hid (cs.heap HBO.out (by show w.heap.size + 1 ≠ w5.heap.size; omega))
      replace HBR := Lib.hid (HBR.out.ch' cs (fun k hk e => by have e' : k = w5.heap.size := e; have := LBR k hk; omega))
      replace HBX3 := Lib.hid (cs.heap HBX3.out (by show w.heap.size ≠ w5.heap.size; omega))
      replace HN := Lib.hid (HN.out.trans' cs (fun j hj e => by have e' : j = w5.heap.size := e; omega))
      replace MW := Nat.le_trans MW cs.size
      replace SWL := Nat.le_trans SWL cs.size
      replace HPB := Lib.hid (HPBn.out)
      clear HPBn cs
      have HEQ := Lib.hid (show pcV (pcOf L (f, t)) = [.bool false, .int .i64 (T2.size : Nat), .string T2] from by
        unfold pcOf
        rw [HCF.out, if_pos (HD.out.2 hx2)]
        have h1 := HT2.out
        rw [HTX.out] at h1
        have h2 := ba_len T2
        rw [← h1] at h2 ⊢
        simp only [pcV, numP, Lib.trimLeftB] at h2 ⊢
        rw [← h2])
      refine wpIn_region_round (by kernel_rfl) (by rintro ⟨_, _, h⟩; exact h) ?_
      have k0 : W10.cell? ⟨w.heap.size + 1, 0, none⟩ = some (.slice Av pre.length cv) := by rw [cell_of HBO.out]; rfl
      have c0 : W10.cell? ⟨w5.heap.size, 0, none⟩ = some (.bool false) := by rw [cell_of HPB.out]; rfl
      have c1 : W10.cell? ⟨w5.heap.size, 1, none⟩ = some (.int .i64 (T2.size : Nat)) := by rw [cell_of HPB.out]; rfl
      have c2 : W10.cell? ⟨w5.heap.size, 2, none⟩ = some (.string T2) := by rw [cell_of HPB.out]; rfl
      refine wpList_plain rfl fun K hK => ?_
      go_simp
      refine hK _ _ ?_
      clear hK K
      try simp only [Act.put, List.getElem_toArray, List.getElem_cons_succ, List.getElem_cons_zero, List.setIfInBounds_toArray, List.set_cons_zero, List.set_cons_succ]
      refine wpList_plain rfl fun K hK => ?_
      go_simp
      refine hK _ _ ?_
      clear hK K
      try simp only [Act.put, List.getElem_toArray, List.getElem_cons_succ, List.getElem_cons_zero, List.setIfInBounds_toArray, List.set_cons_zero, List.set_cons_succ]
      refine wpList_plain rfl fun K hK => ?_
      refine wp_lit1x3 57 60 _ rfl Tryd.underlying57 (by kernel_rfl) (by rfl) ?_
      refine hK _ _ ?_
      clear hK K
      try simp only [Act.put, List.getElem_toArray, List.getElem_cons_succ, List.getElem_cons_zero, List.setIfInBounds_toArray, List.set_cons_zero, List.set_cons_succ]
      refine wpList_plain rfl fun K hK => ?_
      have HBA := HBR.out.ch' ((Ch.refl (fun _ => False) W10).alloc (.cells #[.bool false, .int .i64 (T2.size : Nat), .string T2] 60)) (fun _ _ e => e)
      refine wp_app _ (.tmp 32) (.tmp 34) 57 60 3 32 rfl Tryd.underlying57 (.agg #[.bool false, .int .i64 0, .string ⟨#[]⟩]) (by kernel_rfl) rfl (by omega) (by omega) (W2.heap.size) _ pre.length _ (by rfl) HBA _ #[.bool false, .int .i64 (T2.size : Nat), .string T2] (0, 0) (by rfl) (heap_alloc_eq _ rfl) rfl (by intro u hu; simp at hu; rcases hu with rfl | rfl | rfl <;> rfl) (by omega) (by rw [alloc_size]; omega) ?_
      intro g9 c9 w9 hrow9 hgr9 hor9
      refine hK _ _ ?_
      clear hK K
      try simp only [Act.put, List.getElem_toArray, List.getElem_cons_succ, List.getElem_cons_zero, List.setIfInBounds_toArray, List.set_cons_zero, List.set_cons_succ]
      have hne : (Value.slice Av pre.length cv).ownBlock ≠ some (w.heap.size + 1) := fun e => by have := (HBR.out.lt _ e).1; omega
      have hob9 : w9.heap[w.heap.size + 1]? = some (.cells #[.slice Av pre.length cv] 57 (0, 0)) := by rw [hgr9.block _ (by rw [alloc_size]; have := lt_of_heap HBO.out; omega) (fun e => hne e.symm)]; exact heap_alloc_old' _ HBO.out
      have o0 : w9.cell? ⟨w.heap.size + 1, 0, none⟩ = some (.slice Av pre.length cv) := by rw [cell_of hob9]; rfl
      have p0 : w9.frozen? ⟨w.heap.size + 1, 0, none⟩ = false := frozen_of hob9
      refine wpList_plain rfl fun K hK => ?_
      go_simp
      refine hK _ _ ?_
      clear hK K o0 p0
      try simp only [Act.put, List.getElem_toArray, List.getElem_cons_succ, List.getElem_cons_zero, List.setIfInBounds_toArray, List.set_cons_zero, List.set_cons_succ]
      refine wpList_nil ?_
      gi_wp2
      have hg9 := (hrow9.lt g9 rfl).1
      have kz : Ch (· = w.heap.size + 1) w9 (w9.setCell ⟨w.heap.size + 1, 0, none⟩ (.slice (some ⟨g9, 0, none⟩) (pre.length + 1) c9)) := (Ch.refl (· = w.heap.size + 1) w9).setb (fun _ => rfl) _
      have hna : Nw W' (W10.alloc (.cells #[.bool false, .int .i64 (T2.size : Nat), .string T2] 60)) := HN.out.alloc _
      have kgr : Ch (FpD (w.heap.size + 1) W2.heap.size) W' w9 := (hna.mono (fun _ _ h => h.elim)).grown hgr9 (fun k e hk => Or.inr (HBR.out.lt k e).1)
      have hko : KeepsOthers W' (W10.alloc (.cells #[.bool false, .int .i64 (T2.size : Nat), .string T2] 60)) := ⟨hna.size, fun k o hk _ => hna.heap hk id⟩
      refine ⟨((hko.trans (HBA.keeps hgr9)).trans (KeepsOthers.setCell _ _ _)).from _, kgr.setb (fun _ => Or.inl rfl) _, _, heap_setCell_eq _ hob9, ?_, (HCH0.out.trans kgr).setb (fun _ => Or.inl rfl) _⟩
      rw [rgP_snoc, List.length_append, HEQ.out]
      exact hrow9.ch' kz (fun k hk e => by have e' : k = w.heap.size + 1 := e; have := (hrow9.lt k hk).1; omega)
    · have e2 : ((x : Int) != 2) = true := by simp; omega
      gi_wp2
      have SWL : W'.heap.size ≤ W'.heap.size := Nat.le_refl _
      refine wpIn_named ?_
      intro W11 hW
      have n : Nw W' W11 := by rw [hW]; first | exact Ch.refl _ _ | exact (Ch.refl _ _).alloc _
      replace HCH := Lib.hid (HCH.out.trans' n (fun _ _ e => e.elim))
      replace HBO := Lib.hid (n.heap HBO.out id)
      replace HBR := Lib.hid (HBR.out.ch' n (fun _ _ e => e))
      replace HBX3 := Lib.hid (n.heap HBX3.out id)
      replace HN := Lib.hid (HN.out.trans n)
      replace MW := Nat.le_trans MW n.size
      replace SWL := Nat.le_trans SWL n.size
      clear hW n
      refine wpIn_region_V (F := fun w' => w'.cell? ⟨w.heap.size, 0, none⟩ = some (.string s)) (opsOf Tryd.f34 5) 11 12 (by kernel_rfl) (by kernel_rfl) (by kernel_rfl) (by kernel_rfl) (by rintro ⟨_, _, h⟩; exact h) (fun w w' h n => (n.cell h id)) (by show W11.cell? _ = _; rw [cell_of HBX3.out]; rfl) (fun HOPS HCL hHeld => ?_)
      refine wpU_named ?_
      intro W12 hW
      try rw [← hW] at hHeld
      have n : Nw W11 W12 := by rw [hW]; exact (Ch.refl _ _).drew
      replace HCH := Lib.hid (HCH.out.trans' n (fun _ _ e => e.elim))
      replace HBO := Lib.hid (n.heap HBO.out id)
      replace HBR := Lib.hid (HBR.out.ch' n (fun _ _ e => e))
      replace HBX3 := Lib.hid (n.heap HBX3.out id)
      replace HN := Lib.hid (HN.out.trans n)
      replace MW := Nat.le_trans MW n.size
      replace SWL := Nat.le_trans SWL n.size
      clear hW n
      first | (refine wpU_takeB (i := 0) (v := ?_) HOPS rfl (by kernel_rfl) (fun _ _ _ h => h) HCL (goes_read (by rfl) ?hy) ?_; case hy => (intro w hSw; (try dsimp only at hSw); go_simp; (try with_reducible rfl))) | (refine wpU_takeB (i := 0) (v := _) HOPS rfl (by kernel_rfl) (fun _ _ _ h => h) HCL (goes_not (by rfl)) ?_)
      try simp only [Act.put, List.getElem_toArray, List.getElem_cons_succ, List.getElem_cons_zero, List.setIfInBounds_toArray, List.set_cons_zero, List.set_cons_succ]
      first | (refine wpU_takeB (i := 1) (v := ?_) HOPS rfl (by kernel_rfl) (fun _ _ _ h => h) HCL (goes_read (by rfl) ?hy) ?_; case hy => (intro w hSw; (try dsimp only at hSw); go_simp; (try with_reducible rfl))) | (refine wpU_takeB (i := 1) (v := _) HOPS rfl (by kernel_rfl) (fun _ _ _ h => h) HCL (goes_not (by rfl)) ?_)
      try simp only [Act.put, List.getElem_toArray, List.getElem_cons_succ, List.getElem_cons_zero, List.setIfInBounds_toArray, List.set_cons_zero, List.set_cons_succ]
      first | (refine wpU_takeB (i := 5) (v := ?_) HOPS rfl (by kernel_rfl) (fun _ _ _ h => h) HCL (goes_read (by rfl) ?hy) ?_; case hy => (intro w hSw; (try dsimp only at hSw); go_simp; (try with_reducible rfl))) | (refine wpU_takeB (i := 5) (v := _) HOPS rfl (by kernel_rfl) (fun _ _ _ h => h) HCL (goes_not (by rfl)) ?_)
      try simp only [Act.put, List.getElem_toArray, List.getElem_cons_succ, List.getElem_cons_zero, List.setIfInBounds_toArray, List.set_cons_zero, List.set_cons_succ]
      first | (refine wpU_takeB (i := 6) (v := ?_) HOPS rfl (by kernel_rfl) (fun _ _ _ h => h) HCL (goes_read (by rfl) ?hy) ?_; case hy => (intro w hSw; (try dsimp only at hSw); go_simp; (try with_reducible rfl))) | (refine wpU_takeB (i := 6) (v := _) HOPS rfl (by kernel_rfl) (fun _ _ _ h => h) HCL (goes_not (by rfl)) ?_)
      try simp only [Act.put, List.getElem_toArray, List.getElem_cons_succ, List.getElem_cons_zero, List.setIfInBounds_toArray, List.set_cons_zero, List.set_cons_succ]
      first | (refine wpU_takeB (i := 7) (v := ?_) HOPS rfl (by kernel_rfl) (fun _ _ _ h => h) HCL (goes_read (by rfl) ?hy) ?_; case hy => (intro w hSw; (try dsimp only at hSw); go_simp; (try with_reducible rfl))) | (refine wpU_takeB (i := 7) (v := _) HOPS rfl (by kernel_rfl) (fun _ _ _ h => h) HCL (goes_not (by rfl)) ?_)
      try simp only [Act.put, List.getElem_toArray, List.getElem_cons_succ, List.getElem_cons_zero, List.setIfInBounds_toArray, List.set_cons_zero, List.set_cons_succ]
      first | (refine wpU_takeB (i := 8) (v := ?_) HOPS rfl (by kernel_rfl) (fun _ _ _ h => h) HCL (goes_read (by rfl) ?hy) ?_; case hy => (intro w hSw; (try dsimp only at hSw); go_simp; (try with_reducible rfl))) | (refine wpU_takeB (i := 8) (v := _) HOPS rfl (by kernel_rfl) (fun _ _ _ h => h) HCL (goes_not (by rfl)) ?_)
      try simp only [Act.put, List.getElem_toArray, List.getElem_cons_succ, List.getElem_cons_zero, List.setIfInBounds_toArray, List.set_cons_zero, List.set_cons_succ]
      refine wpU_takeB (i := 2) HOPS rfl (by kernel_rfl) (fun _ _ _ h => h) HCL (goes_idx _ _ _ s f c _ (by rfl) rfl Tryd.underlying9 (by rfl) (by rfl) hc rfl) ?_
      try simp only [Act.put, List.getElem_toArray, List.getElem_cons_succ, List.getElem_cons_zero, List.setIfInBounds_toArray, List.set_cons_zero, List.set_cons_succ]
      refine wpU_takeB (i := 3) HOPS rfl (by kernel_rfl) (fun _ _ _ h => h) HCL (goes_fn (v := .int .i64 (x : Nat)) 18 _ _ _ #[.int .u8 (c.toNat : Nat)] (by rfl) rfl (by kernel_rfl) (by kernel_rfl) (by kernel_rfl) (fun wq n R hR => ?_)) ?_
      · exact script_any c _ _ (by rw [HX.out]; exact hR _ (Ch.refl _ _))
      try simp only [Act.put, List.getElem_toArray, List.getElem_cons_succ, List.getElem_cons_zero, List.setIfInBounds_toArray, List.set_cons_zero, List.set_cons_succ]
      first | (refine wpU_takeB (i := 4) (v := ?_) HOPS rfl (by kernel_rfl) (fun _ _ _ h => h) HCL (goes_read (by rfl) ?hy) ?_; case hy => (intro w hSw; (try dsimp only at hSw); go_simp; (try with_reducible rfl))) | (refine wpU_takeB (i := 4) (v := _) HOPS rfl (by kernel_rfl) (fun _ _ _ h => h) HCL (goes_not (by rfl)) ?_)
      try simp only [Act.put, List.getElem_toArray, List.getElem_cons_succ, List.getElem_cons_zero, List.setIfInBounds_toArray, List.set_cons_zero, List.set_cons_succ]
      first | (refine wpU_takeB (i := 9) (v := ?_) HOPS rfl (by kernel_rfl) (fun _ _ _ h => h) HCL (goes_read (by rfl) ?hy) ?_; case hy => (intro w hSw; (try dsimp only at hSw); go_simp; (try with_reducible rfl))) | (refine wpU_takeB (i := 9) (v := _) HOPS rfl (by kernel_rfl) (fun _ _ _ h => h) HCL (goes_not (by rfl)) ?_)
      try simp only [Act.put, List.getElem_toArray, List.getElem_cons_succ, List.getElem_cons_zero, List.setIfInBounds_toArray, List.set_cons_zero, List.set_cons_succ]
      refine wpU_ready (rs := [10]) (by kernel_rfl) (by simp) ?_
      intro w13 hle
      obtain ⟨n, hHeld⟩ := hle.ahead (by kernel_rfl)
      clear hle
      replace HCH := Lib.hid (HCH.out.trans' n (fun _ _ e => e.elim))
      replace HBO := Lib.hid (n.heap HBO.out id)
      replace HBR := Lib.hid (HBR.out.ch' n (fun _ _ e => e))
      replace HBX3 := Lib.hid (n.heap HBX3.out id)
      replace HN := Lib.hid (HN.out.trans n)
      replace MW := Nat.le_trans MW n.size
      replace SWL := Nat.le_trans SWL n.size
      clear n
      refine ReadyU.cons HOPS rfl (by rfl) (fun K hK => ?_) ReadyU.nil
      go_simp
      refine hK.out _ _ ((Ch.refl _ _).alloc _) (cell_alloc_old _ (by rw [cell_of HBX3.out]; rfl)) (fun hHeld => ?_)
      clear hK K
      try simp only [Act.put, List.getElem_toArray, List.getElem_cons_succ, List.getElem_cons_zero, List.setIfInBounds_toArray, List.set_cons_zero, List.set_cons_succ]
      have MWAHPB := MW
      have SWLAHPB := SWL
      refine wpU_named ?_
      intro W14 hW
      try rw [← hW] at hHeld
      have NA := Lib.hid (show Nw w13 W14 from by rw [hW]; exact (Ch.refl _ _).alloc _)
      have HPB := Lib.hid (show W14.heap[w13.heap.size]? = some (.cells #[.bool false, .int .i64 0, .string ⟨#[]⟩] 60 (0, 0)) from by rw [hW]; exact heap_alloc_eq _ rfl)
      clear hW
      refine wpU_ready (rs := [11]) (by kernel_rfl) (by simp) ?_
      intro w15 hle
      obtain ⟨n, hHeld⟩ := hle.ahead (by kernel_rfl)
      clear hle
      replace NA := Lib.hid (NA.out.trans n)
      replace HPB := Lib.hid (n.heap HPB.out id)
      clear n
      refine ReadyU.last HOPS rfl (by rfl) (by kernel_rfl) (fun K hK => ?_) ReadyU.nil
      have o0 : w15.cell? ⟨w13.heap.size, 0, none⟩ = some (.bool false) := by rw [cell_of HPB.out]; rfl
      have o1 : w15.cell? ⟨w13.heap.size, 1, none⟩ = some (.int .i64 0) := by rw [cell_of HPB.out]; rfl
      have o2 : w15.cell? ⟨w13.heap.size, 2, none⟩ = some (.string ⟨#[]⟩) := by rw [cell_of HPB.out]; rfl
      have p0 : w15.frozen? ⟨w13.heap.size, 0, none⟩ = false := frozen_of HPB.out
      have p1 : w15.frozen? ⟨w13.heap.size, 1, none⟩ = false := frozen_of HPB.out
      have p2 : w15.frozen? ⟨w13.heap.size, 2, none⟩ = false := frozen_of HPB.out
      go_simp
      refine hK.out _ _ ?_
      clear hK K o0 p0 o1 p1 o2 p2
      try simp only [Act.put, List.getElem_toArray, List.getElem_cons_succ, List.getElem_cons_zero, List.setIfInBounds_toArray, List.set_cons_zero, List.set_cons_succ]
      refine wpU_named ?_
      intro W16 hW
      have c : Ch (· = w13.heap.size) w15 W16 := by rw [hW]; exact (((Ch.refl (· = w13.heap.size) w15).setb (fun _ => rfl) _).setb (fun _ => rfl) _).setb (fun _ => rfl) _
      have n : Nw w13 W16 := NA.out.trans' c (fun j hj e => by have e' : j = w13.heap.size := e; omega)
      replace HPB := Lib.hid (show W16.heap[w13.heap.size]? = some (.cells #[.bool true, .int .i64 0, .string T] 60 (0, 0)) from by rw [hW]; exact heap_setCell_eq _ (heap_setCell_eq _ (heap_setCell_eq _ (HPB.out))))
      clear hW c NA
      replace HCH := Lib.hid (HCH.out.trans' n (fun _ _ e => e.elim))
      replace HBO := Lib.hid (n.heap HBO.out id)
      replace HBR := Lib.hid (HBR.out.ch' n (fun _ _ e => e))
      replace HBX3 := Lib.hid (n.heap HBX3.out id)
      replace HN := Lib.hid (HN.out.trans n)
      replace MW := Nat.le_trans MW n.size
      replace SWL := Nat.le_trans SWL n.size
      clear n
      refine wpU_done (by kernel_rfl) (fun w17 hle => ?_) _
      rw [hle.behind (by kernel_rfl)]
      clear HOPS HCL hle
      repeat clear hHeld
      have k0 : W16.cell? ⟨w13.heap.size, 0, none⟩ = some (.bool true) := by rw [cell_of HPB.out]; rfl
      gi_upto_region 9 with (fail)
      clear k0
      have HEQ := Lib.hid (show pcV (pcOf L (f, t)) = [.bool true, .int .i64 0, .string T] from by
        unfold pcOf
        rw [HCF.out, if_neg (fun h => hx2 (HD.out.1 h))]
        rw [HTX.out]
        rfl)
      refine wpIn_region_round (by kernel_rfl) (by rintro ⟨_, _, h⟩; exact h) ?_
      have k0 : W16.cell? ⟨w.heap.size + 1, 0, none⟩ = some (.slice Av pre.length cv) := by rw [cell_of HBO.out]; rfl
      have c0 : W16.cell? ⟨w13.heap.size, 0, none⟩ = some (.bool true) := by rw [cell_of HPB.out]; rfl
      have c1 : W16.cell? ⟨w13.heap.size, 1, none⟩ = some (.int .i64 0) := by rw [cell_of HPB.out]; rfl
      have c2 : W16.cell? ⟨w13.heap.size, 2, none⟩ = some (.string T) := by rw [cell_of HPB.out]; rfl
      refine wpList_plain rfl fun K hK => ?_
      go_simp
      refine hK _ _ ?_
      clear hK K
      try simp only [Act.put, List.getElem_toArray, List.getElem_cons_succ, List.getElem_cons_zero, List.setIfInBounds_toArray, List.set_cons_zero, List.set_cons_succ]
      refine wpList_plain rfl fun K hK => ?_
      go_simp
      refine hK _ _ ?_
      clear hK K
      try simp only [Act.put, List.getElem_toArray, List.getElem_cons_succ, List.getElem_cons_zero, List.setIfInBounds_toArray, List.set_cons_zero, List.set_cons_succ]
      refine wpList_plain rfl fun K hK => ?_
      refine wp_lit1x3 57 60 _ rfl Tryd.underlying57 (by kernel_rfl) (by rfl) ?_
      refine hK _ _ ?_
      clear hK K
      try simp only [Act.put, List.getElem_toArray, List.getElem_cons_succ, List.getElem_cons_zero, List.setIfInBounds_toArray, List.set_cons_zero, List.set_cons_succ]
      refine wpList_plain rfl fun K hK => ?_
      have HBA := HBR.out.ch' ((Ch.refl (fun _ => False) W16).alloc (.cells #[.bool true, .int .i64 0, .string T] 60)) (fun _ _ e => e)
      refine wp_app _ (.tmp 32) (.tmp 34) 57 60 3 32 rfl Tryd.underlying57 (.agg #[.bool false, .int .i64 0, .string ⟨#[]⟩]) (by kernel_rfl) rfl (by omega) (by omega) (W2.heap.size) _ pre.length _ (by rfl) HBA _ #[.bool true, .int .i64 0, .string T] (0, 0) (by rfl) (heap_alloc_eq _ rfl) rfl (by intro u hu; simp at hu; rcases hu with rfl | rfl | rfl <;> rfl) (by omega) (by rw [alloc_size]; omega) ?_
      intro g9 c9 w9 hrow9 hgr9 hor9
      refine hK _ _ ?_
      clear hK K
      try simp only [Act.put, List.getElem_toArray, List.getElem_cons_succ, List.getElem_cons_zero, List.setIfInBounds_toArray, List.set_cons_zero, List.set_cons_succ]
      have hne : (Value.slice Av pre.length cv).ownBlock ≠ some (w.heap.size + 1) := fun e => by have := (HBR.out.lt _ e).1; omega
      have hob9 : w9.heap[w.heap.size + 1]? = some (.cells #[.slice Av pre.length cv] 57 (0, 0)) := by rw [hgr9.block _ (by rw [alloc_size]; have := lt_of_heap HBO.out; omega) (fun e => hne e.symm)]; exact heap_alloc_old' _ HBO.out
      have o0 : w9.cell? ⟨w.heap.size + 1, 0, none⟩ = some (.slice Av pre.length cv) := by rw [cell_of hob9]; rfl
      have p0 : w9.frozen? ⟨w.heap.size + 1, 0, none⟩ = false := frozen_of hob9
      refine wpList_plain rfl fun K hK => ?_
      go_simp
      refine hK _ _ ?_
      clear hK K o0 p0
      try simp only [Act.put, List.getElem_toArray, List.getElem_cons_succ, List.getElem_cons_zero, List.setIfInBounds_toArray, List.set_cons_zero, List.set_cons_succ]
      refine wpList_nil ?_
      gi_wp2
      have hg9 := (hrow9.lt g9 rfl).1
      have kz : Ch (· = w.heap.size + 1) w9 (w9.setCell ⟨w.heap.size + 1, 0, none⟩ (.slice (some ⟨g9, 0, none⟩) (pre.length + 1) c9)) := (Ch.refl (· = w.heap.size + 1) w9).setb (fun _ => rfl) _
      have hna : Nw W' (W16.alloc (.cells #[.bool true, .int .i64 0, .string T] 60)) := HN.out.alloc _
      have kgr : Ch (FpD (w.heap.size + 1) W2.heap.size) W' w9 := (hna.mono (fun _ _ h => h.elim)).grown hgr9 (fun k e hk => Or.inr (HBR.out.lt k e).1)
      have hko : KeepsOthers W' (W16.alloc (.cells #[.bool true, .int .i64 0, .string T] 60)) := ⟨hna.size, fun k o hk _ => hna.heap hk id⟩
      refine ⟨((hko.trans (HBA.keeps hgr9)).trans (KeepsOthers.setCell _ _ _)).from _, kgr.setb (fun _ => Or.inl rfl) _, _, heap_setCell_eq _ hob9, ?_, (HCH0.out.trans kgr).setb (fun _ => Or.inl rfl) _⟩
      rw [rgP_snoc, List.length_append, HEQ.out]
      exact hrow9.ch' kz (fun k hk e => by have e' : k = w.heap.size + 1 := e; have := (hrow9.lt k hk).1; omega)
  case done =>
    rintro D ys W' hD hys ⟨v, hbo, hbr, hch⟩ hK
    rw [HL.out] at hys
    obtain ⟨ha1, ha2⟩ := rgP_all hys
    rw [ha1, ha2] at hbr
    have HNF := Lib.hid (NX.out.trans' hch (fun j hj e => by rcases e with h | h <;> omega))
    have HBW := Lib.hid hbr
    have k0 : W'.cell? ⟨w.heap.size + 1, 0, none⟩ = some v := by rw [cell_of hbo]; rfl
    clear hbo hbr hch ha1 ha2 hys
    obtain ⟨Av, cv, rfl⟩ := HBW.out.form
    go_wp2
    refine ⟨by simp, .inl ⟨_, _, rfl, run_takeDeferred hK, ?_⟩⟩
    obtain ⟨Wp, hWp⟩ : ∃ Wp, W'.putObj D (Obj.deferred none) = Wp := ⟨_, rfl⟩
    rw [hWp]
    have cp : Ch (FpD D D) W' Wp := by rw [← hWp]; exact ch_putObj W' D _ (Nat.le_refl _)
    have HBP := HBW.out.grown (w' := Wp) (row := some D) (by rw [← hWp]; exact grownBy_putObj' W' D _) (fun k e => by cases e; exact ⟨_, hK, rfl⟩)
    refine ⟨.slice Av (pcs L).length cv, by simp [results, Tryd.results34, go_sem], ?_⟩
    exact HR.out Wp _ (HBP.lo (by omega)) (HNF.out.trans' cp (fun j hj e => by rcases e with e | e <;> omega))
  case stop =>
    rintro D c pre W' _ _ h _
    exact h.elim
end Go.Proofs.YtnibgjpbijlhbaaDoor
