/-
  names.Runs: the runs of a string.
-/
import Derived.Test.YtnibgjpbijlhbaaDoorNg
import Derived.Test.YtnibgjpbijlhbaaDoorCRow
import Derived.Test.YtnibgjpbijlhbaaDoorSlr
import Derived.Test.YtnibgjpbijlhbaaDoorRegI
namespace Go.Proofs.YtnibgjpbijlhbaaDoor
open Go.RowKit Go.Shelf
attribute [local go_sem] Oper.semAt_some
set_option linter.unusedVariables false
set_option linter.unusedSimpArgs false
set_option maxRecDepth 100000

set_option maxHeartbeats 2000000 in
theorem runsG_any (w : World) (x y : UInt8) (R : Ending → World → Prop) (hR : ∀ w', Nw w w' → R (.returned (.bool (goesS x y))) w') : Calls Tryd.prog 32 #[.int .u8 (x.toNat : Nat), .int .u8 (y.toNat : Nat)] w R := by
  have HR := Lib.hid hR
  clear hR
  go_enter Tryd.func32, Tryd.ntmps32
  obtain ⟨a, ha⟩ : ∃ a, scr x = a := ⟨_, rfl⟩
  obtain ⟨b, hb⟩ : ∃ b, scr y = b := ⟨_, rfl⟩
  have HA := Lib.hid ha
  have HB := Lib.hid hb
  clear ha hb
  have HE := Lib.hid (show ((a : Int) == (b : Int)) = goesS x y from by
    unfold goesS
    rw [HA.out, HB.out, Bool.eq_iff_iff]
    simp only [beq_iff_eq, decide_eq_true_eq]
    omega)
  go_wp2_with (go_at_call 18; first | (with_reducible refine script_any x _ _ ?_; rw [HA.out]) | (with_reducible refine script_any y _ _ ?_; rw [HB.out]))
  exact ret_b (HR.out _ (Ch.refl _ _)) HE.out.symm
/-- The cells of runs. -/
def runC (R : List Rn) : List Value := R.flatMap fun r => [.int .i64 (r.1 : Nat), .int .i64 (r.2.1 : Nat), .int .i64 (r.2.2 : Nat)]

def rgC (L : List UInt8) {n : Nat} (pre : List (Rg n)) : List Value := runC (pre.map fun x => rnOf L x.1)
theorem rgC_snoc (L : List UInt8) {n : Nat} (pre : List (Rg n)) (x : Rg n) : rgC L (pre ++ [x]) = rgC L pre ++ [.int .i64 (scr (at0 L x.1.1) : Nat), .int .i64 (x.1.1 : Nat), .int .i64 (x.1.2 : Nat)] := by simp [rgC, runC, rnOf]
theorem rgC_all {L : List UInt8} {n : Nat} {pre : List (Rg n)} (h : pre.map Subtype.val = ranges goesS L) : rgC L pre = runC (runsM L) ∧ pre.length = (runsM L).length := by
  unfold rgC runsM
  rw [← h, List.map_map, List.length_map]
  exact ⟨rfl, rfl⟩

set_option maxHeartbeats 8000000 in
theorem nruns_any (s : ByteArray) (w : World) (R : Ending → World → Prop) (hs : s.size ≤ 1000000)
    (hR : ∀ w' v, CRow w' 37 3 w.heap.size v (runsM s.data.toList).length (runC (runsM s.data.toList)) → Nw w w' → R (.returned v) w') : Calls Tryd.prog 14 #[.string s] w R := by
  have HR := Lib.hid hR
  clear hR
  have NX := Lib.hid (Ch.refl (fun _ => False) w)
  refine (callsIn_wide (n := 4)).1 ?_
  have hro : (Fence.wide).round = none := rfl
  have hf2 : (Fence.wide).fn 45 := trivial
  refine callsIn_of_wp_marks Tryd.func14 rfl trivial ?_ hro
  simp only [Tryd.ntmps14, List.size_toArray, List.length_cons, List.length_nil, Nat.reduceAdd, Nat.reduceSub, Array.replicate_succ, Array.replicate_zero, List.push_toArray, List.append_toArray, List.nil_append, List.cons_append]
  refine wpIn_wide.2 ?_
  go_wp2_with (fail)
  refine Calls_nm ?_
  intro W1 hW
  have n : Nw w W1 := by rw [hW]; exact ((Ch.refl _ _).alloc _).alloc _
  replace NX := Lib.hid (NX.out.trans n)
  have HBX := Lib.hid (show W1.heap[w.heap.size]? = some (.cells #[.string s] 9 (0, 0)) from by rw [hW]; exact heap_alloc_old' _ (heap_alloc_eq _ rfl))
  have HOB := Lib.hid (show W1.heap[w.heap.size + 1]? = some (.cells #[.slice none 0 0] 32 (0, 0)) from by rw [hW]; exact heap_alloc_eq _ (by simp only [alloc_size]))
  clear hW n
  have SZ : w.heap.size + 1 < W1.heap.size := lt_of_heap HOB.out
  refine callsIn_wide.1 ((ranges_in 4 s 32 W1).mono ?_)
  rintro e w' ⟨rfl, rfl⟩
  go_wp2_with (fail)
  refine wp_named ?_
  intro W2 hW
  have n : Nw W1 W2 := by rw [hW]; exact ((Ch.refl _ _).alloc _).alloc _
  replace NX := Lib.hid (NX.out.trans n)
  replace HBX := Lib.hid (n.heap HBX.out id)
  replace HOB := Lib.hid (n.heap HOB.out id)
  have HBD := Lib.hid (show W2.heap[W1.heap.size]? = some (.cells #[.string s] 9 (0, 0)) from by rw [hW]; exact heap_alloc_old' _ (heap_alloc_eq _ rfl))
  have HBG := Lib.hid (show W2.heap[W1.heap.size + 1]? = some (.cells #[.func (.func 32) #[] #[]] 55 (0, 0)) from by rw [hW]; exact heap_alloc_eq _ (by simp only [alloc_size]))
  clear hW n
  have SB : W1.heap.size + 1 < W2.heap.size := lt_of_heap HBG.out
  obtain ⟨L, hL⟩ : ∃ L, s.data.toList = L := ⟨_, rfl⟩
  have hlen : L.length = s.size := by rw [← hL]; exact ba_len s
  have HL := Lib.hid hL
  rw [hL] at HR
  clear hL
  refine (wpIn_wide (n := 4)).1 ?_
  refine wpIn_rangeFunc_ownH hro (by omega) (gf := 45) (lb := #[.pointer (some ⟨W1.heap.size, 0, none⟩), .pointer (some ⟨W1.heap.size + 1, 0, none⟩)]) rfl hf2 (enters_of Tryd.func45 (by kernel_rfl) rfl)
    (ranges_stops 3 (by omega) (W1.heap.size) (W1.heap.size + 1) (FpD (w.heap.size + 1) W2.heap.size) s 32 goesS W2 HBD.out HBG.out (by kernel_rfl) hs (fun w' x y R' h => runsG_any w' x y R' h) (by rintro (h | h) <;> omega) (by rintro (h | h) <;> omega))
    (fun h k => h.trans k) (fun W l o o' hl _ _ _ => ch_putObj W l o' (by omega)) (Below.refl _ _) (fun _ => rfl)
    (fun (pre : List (Rg s.size)) W' => ∃ v, W'.heap[w.heap.size + 1]? = some (.cells #[v] 32 (0, 0)) ∧ CRow W' 37 3 (W2.heap.size) v pre.length (rgC L pre) ∧ Ch (FpD (w.heap.size + 1) W2.heap.size) W2 W')
    (fun _ _ _ => False) ?own (fun _ _ _ _ _ h _ _ => h) ⟨_, HOB.out, CRow.nil _ _, Ch.refl _ _⟩
    (fun d a' W' => a' = { tmps := #[.string s, .pointer (some ⟨w.heap.size, 0, none⟩), .slice none 0 0, .pointer (some ⟨w.heap.size + 1, 0, none⟩), .int .i64 (d.1.1 : Nat), .int .i64 (d.1.2 : Nat), .string s, .func (.func 45) #[] #[.pointer (some ⟨W1.heap.size, 0, none⟩), .pointer (some ⟨W1.heap.size + 1, 0, none⟩)], .int .i64 (d.1.1 : Nat), .int .i64 (d.1.2 : Nat), undef, undef, undef, undef, undef, undef, undef, undef, undef, undef, undef], defers := [] })
    ?axo ?assign ?body ?done ?stop
  case own =>
    rintro pre W' W2 row ⟨v, h1, h2, h3⟩ hg hr
    refine ⟨v, ?_, h2.grown hg (fun k e => (hr k e).2), h3.grown hg (fun k e hk => Or.inr (hr k e).1)⟩
    rw [hg.block _ (lt_of_heap h1) (fun e => by have := (hr _ e.symm).1; omega)]
    exact h1
  case axo =>
    intro d a' u W' W2 row h hg hr
    exact h
  case assign =>
    intro lp pre d W' K hI hK
    have htm : ((#[8, 9].zip (encR d.1)).foldl (fun t (p, v) => t.setIfInBounds p v) #[.string s, .pointer (some ⟨w.heap.size, 0, none⟩), .slice none 0 0, .pointer (some ⟨w.heap.size + 1, 0, none⟩), undef, undef, .string s, .func (.func 45) #[] #[.pointer (some ⟨W1.heap.size, 0, none⟩), .pointer (some ⟨W1.heap.size + 1, 0, none⟩)], undef, undef, undef, undef, undef, undef, undef, undef, undef, undef, undef, undef, undef]) = #[.string s, .pointer (some ⟨w.heap.size, 0, none⟩), .slice none 0 0, .pointer (some ⟨w.heap.size + 1, 0, none⟩), undef, undef, .string s, .func (.func 45) #[] #[.pointer (some ⟨W1.heap.size, 0, none⟩), .pointer (some ⟨W1.heap.size + 1, 0, none⟩)], .int .i64 (d.1.1 : Nat), .int .i64 (d.1.2 : Nat), undef, undef, undef, undef, undef, undef, undef, undef, undef, undef, undef] := by simp [encR]
    first | rw [htm] | skip
    clear htm
    gi_wp2
    exact hK _ _ ((KeepsOthers.refl W').from _) (Ch.refl _ _) hI rfl
  case body =>
    rintro lp pre ⟨⟨f, t⟩, hft1, hft2⟩ a' W' hl hlp ⟨v, hbo, hbr, hch⟩ rfl hlt
    simp only at hft1 hft2 ⊢
    obtain ⟨Av, cv, rfl⟩ := hbr.form
    have HBO := Lib.hid hbo
    have HBR := Lib.hid hbr
    have HCH := Lib.hid hch
    have HCH0 := Lib.hid hch
    clear hbo hbr hch
    obtain ⟨c, hc⟩ : ∃ c, s.data.toList[f]? = some c := ⟨_, List.getElem?_eq_getElem (by rw [HL.out, hlen]; omega)⟩
    have HCF := Lib.hid (show at0 L f = c from by rw [← HL.out]; exact at0_get hc)
    have HBX3 := Lib.hid (HCH.out.heap HBX.out (by rintro (h | h) <;> omega))
    have HN := Lib.hid (Ch.refl (fun _ => False) W')
    have MW : W2.heap.size ≤ W'.heap.size := HCH.out.size
    gi_wp2
    refine wpIn_named ?_
    intro W3 hW
    have n : Nw W' W3 := by rw [hW]; first | exact Ch.refl _ _ | exact (Ch.refl _ _).alloc _
    replace HCH := Lib.hid (HCH.out.trans' n (fun _ _ e => e.elim))
    replace HBO := Lib.hid (n.heap HBO.out id)
    replace HBR := Lib.hid (HBR.out.ch' n (fun _ _ e => e))
    replace HBX3 := Lib.hid (n.heap HBX3.out id)
    replace HN := Lib.hid (HN.out.trans n)
    replace MW := Nat.le_trans MW n.size
    clear hW n
    refine wpIn_region_V (F := fun w' => w'.cell? ⟨w.heap.size + 1, 0, none⟩ = some (.slice Av pre.length cv) ∧ w'.cell? ⟨w.heap.size, 0, none⟩ = some (.string s)) (opsOf Tryd.f14 5) 9 11 (by kernel_rfl) (by kernel_rfl) (by kernel_rfl) (by kernel_rfl) (by rintro ⟨_, _, h⟩; exact h) (fun w w' h n => ⟨n.cell h.1 id, n.cell h.2 id⟩) ⟨by show W3.cell? _ = _; rw [cell_of HBO.out]; rfl, by show W3.cell? _ = _; rw [cell_of HBX3.out]; rfl⟩ (fun HOPS HCL hHeld => ?_)
    refine wpU_named ?_
    intro W4 hW
    try rw [← hW] at hHeld
    have n : Nw W3 W4 := by rw [hW]; exact (Ch.refl _ _).drew
    replace HCH := Lib.hid (HCH.out.trans' n (fun _ _ e => e.elim))
    replace HBO := Lib.hid (n.heap HBO.out id)
    replace HBR := Lib.hid (HBR.out.ch' n (fun _ _ e => e))
    replace HBX3 := Lib.hid (n.heap HBX3.out id)
    replace HN := Lib.hid (HN.out.trans n)
    replace MW := Nat.le_trans MW n.size
    clear hW n
    first | (refine wpU_takeA (i := 0) (v := ?_) HOPS rfl (by kernel_rfl) (fun _ _ _ h => h) HCL (goes_read (by rfl) ?hy) ?_; case hy => (intro w hSw; (try dsimp only at hSw); go_simp; (try with_reducible rfl))) | (refine wpU_takeA (i := 0) (v := _) HOPS rfl (by kernel_rfl) (fun _ _ _ h => h) HCL (goes_not (by rfl)) ?_)
    try simp only [Act.put, List.getElem_toArray, List.getElem_cons_succ, List.getElem_cons_zero, List.setIfInBounds_toArray, List.set_cons_zero, List.set_cons_succ]
    first | (refine wpU_takeA (i := 1) (v := ?_) HOPS rfl (by kernel_rfl) (fun _ _ _ h => h) HCL (goes_read (by rfl) ?hy) ?_; case hy => (intro w hSw; (try dsimp only at hSw); go_simp; (try with_reducible rfl))) | (refine wpU_takeA (i := 1) (v := _) HOPS rfl (by kernel_rfl) (fun _ _ _ h => h) HCL (goes_not (by rfl)) ?_)
    try simp only [Act.put, List.getElem_toArray, List.getElem_cons_succ, List.getElem_cons_zero, List.setIfInBounds_toArray, List.set_cons_zero, List.set_cons_succ]
    first | (refine wpU_takeA (i := 2) (v := ?_) HOPS rfl (by kernel_rfl) (fun _ _ _ h => h) HCL (goes_read (by rfl) ?hy) ?_; case hy => (intro w hSw; (try dsimp only at hSw); go_simp; (try with_reducible rfl))) | (refine wpU_takeA (i := 2) (v := _) HOPS rfl (by kernel_rfl) (fun _ _ _ h => h) HCL (goes_not (by rfl)) ?_)
    try simp only [Act.put, List.getElem_toArray, List.getElem_cons_succ, List.getElem_cons_zero, List.setIfInBounds_toArray, List.set_cons_zero, List.set_cons_succ]
    first | (refine wpU_takeA (i := 5) (v := ?_) HOPS rfl (by kernel_rfl) (fun _ _ _ h => h) HCL (goes_read (by rfl) ?hy) ?_; case hy => (intro w hSw; (try dsimp only at hSw); go_simp; (try with_reducible rfl))) | (refine wpU_takeA (i := 5) (v := _) HOPS rfl (by kernel_rfl) (fun _ _ _ h => h) HCL (goes_not (by rfl)) ?_)
    try simp only [Act.put, List.getElem_toArray, List.getElem_cons_succ, List.getElem_cons_zero, List.setIfInBounds_toArray, List.set_cons_zero, List.set_cons_succ]
    first | (refine wpU_takeA (i := 6) (v := ?_) HOPS rfl (by kernel_rfl) (fun _ _ _ h => h) HCL (goes_read (by rfl) ?hy) ?_; case hy => (intro w hSw; (try dsimp only at hSw); go_simp; (try with_reducible rfl))) | (refine wpU_takeA (i := 6) (v := _) HOPS rfl (by kernel_rfl) (fun _ _ _ h => h) HCL (goes_not (by rfl)) ?_)
    try simp only [Act.put, List.getElem_toArray, List.getElem_cons_succ, List.getElem_cons_zero, List.setIfInBounds_toArray, List.set_cons_zero, List.set_cons_succ]
    refine wpU_takeA (i := 3) HOPS rfl (by kernel_rfl) (fun _ _ _ h => h) HCL (goes_idx _ _ _ s f c _ (by rfl) rfl Tryd.underlying9 (by rfl) (by rfl) hc rfl) ?_
    try simp only [Act.put, List.getElem_toArray, List.getElem_cons_succ, List.getElem_cons_zero, List.setIfInBounds_toArray, List.set_cons_zero, List.set_cons_succ]
    refine wpU_takeA (i := 4) HOPS rfl (by kernel_rfl) (fun _ _ _ h => h) HCL (goes_fn (v := .int .i64 (scr c : Nat)) 18 _ _ _ #[.int .u8 (c.toNat : Nat)] (by rfl) rfl (by kernel_rfl) (by kernel_rfl) (by kernel_rfl) (fun wq n R hR => ?_)) ?_
    · exact script_any c _ _ (hR _ (Ch.refl _ _))
    try simp only [Act.put, List.getElem_toArray, List.getElem_cons_succ, List.getElem_cons_zero, List.setIfInBounds_toArray, List.set_cons_zero, List.set_cons_succ]
    first | (refine wpU_takeA (i := 7) (v := ?_) HOPS rfl (by kernel_rfl) (fun _ _ _ h => h) HCL (goes_read (by rfl) ?hy) ?_; case hy => (intro w hSw; (try dsimp only at hSw); go_simp; (try with_reducible rfl))) | (refine wpU_takeA (i := 7) (v := _) HOPS rfl (by kernel_rfl) (fun _ _ _ h => h) HCL (goes_not (by rfl)) ?_)
    try simp only [Act.put, List.getElem_toArray, List.getElem_cons_succ, List.getElem_cons_zero, List.setIfInBounds_toArray, List.set_cons_zero, List.set_cons_succ]
    refine wpU_ready (rs := [8]) (by kernel_rfl) (by simp) ?_
    intro w5 hle
    obtain ⟨n, hHeld⟩ := hle.ahead (by kernel_rfl)
    clear hle
    replace HCH := Lib.hid (HCH.out.trans' n (fun _ _ e => e.elim))
    replace HBO := Lib.hid (n.heap HBO.out id)
    replace HBR := Lib.hid (HBR.out.ch' n (fun _ _ e => e))
    replace HBX3 := Lib.hid (n.heap HBX3.out id)
    replace HN := Lib.hid (HN.out.trans n)
    replace MW := Nat.le_trans MW n.size
    clear n
    refine ReadyU.cons HOPS rfl (by rfl) (fun K hK => ?_) ReadyU.nil
    refine wp_lit1x3 32 37 _ rfl Tryd.underlying32 (by kernel_rfl) (by rfl) ?_
    refine hK.out _ _ ((Ch.refl _ _).alloc _) ⟨cell_alloc_old _ (by rw [cell_of HBO.out]; rfl), cell_alloc_old _ (by rw [cell_of HBX3.out]; rfl)⟩ (fun hHeld => ?_)
    clear hK K
    try simp only [Act.put, List.getElem_toArray, List.getElem_cons_succ, List.getElem_cons_zero, List.setIfInBounds_toArray, List.set_cons_zero, List.set_cons_succ]
    have MWAHEL := MW
    refine wpU_named ?_
    intro W6 hW
    try rw [← hW] at hHeld
    have n : Nw w5 W6 := by rw [hW]; exact (Ch.refl _ _).alloc _
    replace HCH := Lib.hid (HCH.out.trans' n (fun _ _ e => e.elim))
    replace HBO := Lib.hid (n.heap HBO.out id)
    replace HBR := Lib.hid (HBR.out.ch' n (fun _ _ e => e))
    replace HBX3 := Lib.hid (n.heap HBX3.out id)
    replace HN := Lib.hid (HN.out.trans n)
    replace MW := Nat.le_trans MW n.size
    have HEL := Lib.hid (show W6.heap[w5.heap.size]? = some (.cells #[.int .i64 (scr c : Nat), .int .i64 (f : Nat), .int .i64 (t : Nat)] 37 (0, 0)) from by rw [hW]; exact heap_alloc_eq _ rfl)
    clear hW n
    refine wpU_ready (rs := [9]) (by kernel_rfl) (by simp) ?_
    intro w7 hle
    obtain ⟨n, hHeld⟩ := hle.ahead (by kernel_rfl)
    clear hle
    replace HCH := Lib.hid (HCH.out.trans' n (fun _ _ e => e.elim))
    replace HBO := Lib.hid (n.heap HBO.out id)
    replace HBR := Lib.hid (HBR.out.ch' n (fun _ _ e => e))
    replace HBX3 := Lib.hid (n.heap HBX3.out id)
    replace HN := Lib.hid (HN.out.trans n)
    replace MW := Nat.le_trans MW n.size
    replace HEL := Lib.hid (n.heap HEL.out id)
    clear n
    refine ReadyU.last HOPS rfl (by rfl) (by kernel_rfl) (fun K hK => ?_) ReadyU.nil
    refine wp_app _ (.tmp 10) (.tmp 18) 32 37 3 24 rfl Tryd.underlying32 (.agg #[.int .i64 0, .int .i64 0, .int .i64 0]) (by kernel_rfl) rfl (by omega) (by omega) (W2.heap.size) _ pre.length _ (by rfl) HBR.out _ _ _ (by rfl) HEL.out rfl (by intro u hu; simp at hu; rcases hu with rfl | rfl | rfl <;> rfl) (by omega) (by omega) ?_
    intro g9 c9 w9 hrow9 hgr9 hor9
    refine hK.out _ _ ?_
    clear hK K
    try simp only [Act.put, List.getElem_toArray, List.getElem_cons_succ, List.getElem_cons_zero, List.setIfInBounds_toArray, List.set_cons_zero, List.set_cons_succ]
    refine wpU_ready (rs := [10]) (by kernel_rfl) (by simp) ?_
    intro wq hle
    rw [hle.behind (by kernel_rfl)]
    clear hle wq
    refine ReadyU.last HOPS rfl (by rfl) (by kernel_rfl) (fun K hK => ?_) ReadyU.nil
    have hne : (Value.slice Av pre.length cv).ownBlock ≠ some (w.heap.size + 1) := fun e => by have := (HBR.out.lt _ e).1; omega
    have hob9 : w9.heap[w.heap.size + 1]? = some (.cells #[.slice Av pre.length cv] 32 (0, 0)) := by rw [hgr9.block _ (lt_of_heap HBO.out) (fun e => hne e.symm)]; exact HBO.out
    have o0 : w9.cell? ⟨w.heap.size + 1, 0, none⟩ = some (.slice Av pre.length cv) := by rw [cell_of hob9]; rfl
    have p0 : w9.frozen? ⟨w.heap.size + 1, 0, none⟩ = false := frozen_of hob9
    go_simp
    refine hK.out _ _ ?_
    clear hK K o0 p0
    try simp only [Act.put, List.getElem_toArray, List.getElem_cons_succ, List.getElem_cons_zero, List.setIfInBounds_toArray, List.set_cons_zero, List.set_cons_succ]
    refine wpU_done (by kernel_rfl) (fun w8 hle => ?_) _
    rw [hle.behind (by kernel_rfl)]
    clear HOPS HCL hle
    repeat clear hHeld
    gi_wp2
    have hg9 := (hrow9.lt g9 rfl).1
    have kz : Ch (· = w.heap.size + 1) w9 (w9.setCell ⟨w.heap.size + 1, 0, none⟩ (.slice (some ⟨g9, 0, none⟩) (pre.length + 1) c9)) := (Ch.refl (· = w.heap.size + 1) w9).setb (fun _ => rfl) _
    have kgr : Ch (FpD (w.heap.size + 1) W2.heap.size) W' w9 := (HN.out.mono (fun _ _ h => h.elim)).grown hgr9 (fun k e hk => Or.inr (HBR.out.lt k e).1)
    have hko : KeepsOthers W' w7 := ⟨HN.out.size, fun k o hk _ => HN.out.heap hk id⟩
    refine ⟨((hko.trans (HBR.out.keeps hgr9)).trans (KeepsOthers.setCell _ _ _)).from _, kgr.setb (fun _ => Or.inl rfl) _, _, heap_setCell_eq _ hob9, ?_, (HCH0.out.trans kgr).setb (fun _ => Or.inl rfl) _⟩
    rw [rgC_snoc, List.length_append, HCF.out]
    exact hrow9.ch' kz (fun k hk e => by have e' : k = w.heap.size + 1 := e; have := (hrow9.lt k hk).1; omega)
  case done =>
    rintro D ys W' hD hys ⟨v, hbo, hbr, hch⟩ hK
    rw [HL.out] at hys
    obtain ⟨ha1, ha2⟩ := rgC_all hys
    rw [ha1, ha2] at hbr
    have HNF := Lib.hid (NX.out.trans' hch (fun j hj e => by rcases e with h | h <;> omega))
    have HBW := Lib.hid hbr
    have k0 : W'.cell? ⟨w.heap.size + 1, 0, none⟩ = some v := by rw [cell_of hbo]; rfl
    clear hbo hbr hch ha1 ha2 hys
    obtain ⟨Av, cv, rfl⟩ := HBW.out.form
    go_wp2
    refine ⟨by simp, .inl ⟨_, _, rfl, run_takeDeferred hK, ?_⟩⟩
    obtain ⟨Wp, hWp⟩ : ∃ Wp, W'.putObj D (Obj.deferred none) = Wp := ⟨_, rfl⟩
    rw [hWp]
    have cp : Ch (FpD D D) W' Wp := by rw [← hWp]; exact ch_putObj W' D _ (Nat.le_refl _)
    have HBP := HBW.out.grown (w' := Wp) (row := some D) (by rw [← hWp]; exact grownBy_putObj' W' D _) (fun k e => by cases e; exact ⟨_, hK, rfl⟩)
    refine ⟨.slice Av (runsM L).length cv, by simp [results, Tryd.results14, go_sem], ?_⟩
    exact HR.out Wp _ (HBP.lo (by omega)) (HNF.out.trans' cp (fun j hj e => by rcases e with e | e <;> omega))
  case stop =>
    rintro D c pre W' _ _ h _
    exact h.elim
end Go.Proofs.YtnibgjpbijlhbaaDoor
