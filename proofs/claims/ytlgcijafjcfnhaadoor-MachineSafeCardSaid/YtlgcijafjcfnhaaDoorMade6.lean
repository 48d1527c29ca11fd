/-
  indelibleref06.Made: an outline that numbers make.
-/
import Derived.Test.YtlgcijafjcfnhaaDoorDraw
import Derived.Test.YtlgcijafjcfnhaaDoorCopy
namespace Go.Proofs.YtlgcijafjcfnhaaDoor
open Go.RowKit
set_option linter.unusedVariables false

theorem ownsRow_ch {w w' : World} {F : Nat → Prop} {base size n : Nat} {e : TypeId} {v : Value} {xs : List Value} (h : w.ownsRow base e size v n xs) (hc : Ch F w w') (hF : ∀ k, v.ownBlock = some k → ¬ F k) : w'.ownsRow base e size v n xs := by
  refine ⟨h.1, ?_⟩
  rcases h.2 with hn | ⟨g, cap, cur, rfl, hb, hgg, rest⟩
  · exact .inl hn
  · exact .inr ⟨g, cap, cur, rfl, hb, hc.heap hgg (hF g rfl), rest⟩

theorem CopyOk.blocks {w : World} {B : Nat} {v : Value} {bs : List (Nat × Nat)} {o : List (List Pt)} (h : CopyOk w B v bs o) : ∀ k, v.ownBlock = some k ∨ k ∈ bs.map (·.1) → B ≤ k ∧ k < w.heap.size := by
  obtain ⟨hl, hnd, how, hin⟩ := h
  rintro k (hk | hk)
  · exact how.lt k hk
  · obtain ⟨b, hb, rfl⟩ := List.mem_map.1 hk
    obtain ⟨j, hj, rfl⟩ := List.mem_iff_getElem.1 hb
    exact (hin j _ _ (List.getElem?_eq_getElem hj) (List.getElem?_eq_getElem (hl ▸ hj))).2.lt _ rfl

theorem CopyOk.ch {w w' : World} {B : Nat} {v : Value} {bs : List (Nat × Nat)} {o : List (List Pt)} {F : Nat → Prop} (h : CopyOk w B v bs o) (hc : Ch F w w') (hF : ∀ k, v.ownBlock = some k ∨ k ∈ bs.map (·.1) → ¬ F k) : CopyOk w' B v bs o := by
  obtain ⟨hl, hnd, how, hin⟩ := h
  refine ⟨hl, hnd, ownsRow_ch how hc (fun k hk => hF k (.inl hk)), fun k b c hb hk => ?_⟩
  obtain ⟨hne, hi⟩ := hin k b c hb hk
  refine ⟨hne, ownsRow_ch hi hc (fun j hj => hF j (.inr ?_))⟩
  injection hj with hj
  rw [← hj]
  exact List.mem_map.2 ⟨b, List.mem_of_getElem? hb, rfl⟩

theorem ownsRow_lo {w : World} {base base' size n : Nat} {e : TypeId} {v : Value} {xs : List Value} (h : w.ownsRow base e size v n xs) (hb : base' ≤ base) : w.ownsRow base' e size v n xs := by
  refine ⟨h.1, ?_⟩
  rcases h.2 with hn | ⟨g, cap, cur, rfl, h1, rest⟩
  · exact .inl hn
  · exact .inr ⟨g, cap, cur, rfl, by omega, rest⟩

/-- One contour more. -/
theorem CopyOk.push {w w3 : World} {B : Nat} {v : Value} {bs : List (Nat × Nat)} {o : List (List Pt)} {c : List Pt} {Y : Obj} {g g' cap cap' : Nat}
    (h : CopyOk w B v bs o) (hc : w.ownsRow B 72 3 (.slice (some ⟨g, 0, none⟩) c.length cap) c.length (flat c)) (hg : ∀ k, v.ownBlock = some k ∨ k ∈ bs.map (·.1) → k ≠ g)
    (hg2 : (w.alloc Y).grownBy w3 v.ownBlock) (ho3 : w3.ownsRow B 69 1 (.slice (some ⟨g', 0, none⟩) (o.length + 1) cap') (o.length + 1) (slc bs o ++ [.slice (some ⟨g, 0, none⟩) c.length cap]))
    (hor : v.ownBlock = some g' ∨ g' = (w.alloc Y).heap.size) : CopyOk w3 B (.slice (some ⟨g', 0, none⟩) (o.length + 1) cap') (bs ++ [(g, cap)]) (o ++ [c]) := by
  have hbl := h.blocks
  have hgl := hc.lt g rfl
  obtain ⟨hl, hnd, how, hin⟩ := h
  have hY : (w.alloc Y).heap.size = w.heap.size + 1 := alloc_size _ _
  refine ⟨by simp [hl], ?_, ?_, ?_⟩
  · rw [List.map_append, List.nodup_append]
    refine ⟨hnd, by simp, ?_⟩
    intro a ha b hb
    simp at hb
    subst hb
    exact hg a (.inr ha)
  · rw [slc_snoc hl, List.length_append]; exact ho3
  · intro k b d hb hd
    by_cases hk : k < o.length
    · rw [List.getElem?_append_left (by omega)] at hb
      rw [List.getElem?_append_left hk] at hd
      obtain ⟨hne, hb1⟩ := hin k b d hb hd
      have hlt := hbl b.1 (.inr (List.mem_map.2 ⟨b, List.mem_of_getElem? hb, rfl⟩))
      refine ⟨?_, (hb1.alloc Y).kept hg2 (Or.inr (fun e => hne e.symm))⟩
      intro e
      injection e with e
      have e2 : g' = b.1 := e
      rcases hor with h' | h'
      · exact hne (h'.trans (congrArg some e))
      · omega
    · rw [List.getElem?_append_right (by omega)] at hb
      rw [List.getElem?_append_right (by omega)] at hd
      have h0 : k - bs.length = 0 := by
        have := (List.getElem?_eq_some_iff.1 hb).1
        simp at this
        omega
      rw [h0] at hb
      rw [← hl, h0] at hd
      simp at hb hd
      subst hb hd
      refine ⟨?_, (hc.alloc Y).kept hg2 (Or.inr ?_)⟩
      · intro e
        injection e with e
        have e2 : g' = g := e
        rcases hor with h' | h'
        · exact hg g (.inl (by rw [h', e2])) rfl
        · omega
      · intro e
        exact hg g (.inl e.symm) rfl

theorem CopyOk.isOut {w : World} {B : Nat} {v : Value} {bs : List (Nat × Nat)} {o : List (List Pt)} (h : CopyOk w B v bs o) (hl : o.length ≤ 64) (hc : ∀ c ∈ o, c.length ≤ 64 ∧ ∀ q ∈ c, wfP q) : IsOut w w.heap.size v o := by
  obtain ⟨hbl, hnd, how, hin⟩ := h
  have hv : ∃ A cap, v = .slice A o.length cap := by
    rcases how.2 with ⟨h1, h2⟩ | ⟨g, cap, cur, h1, -⟩
    · exact ⟨none, 0, by rw [h2]; exact h1⟩
    · exact ⟨_, cap, h1⟩
  obtain ⟨A, cap, hv⟩ := hv
  refine ⟨A, cap, hv, hl, fun k c hk => ?_⟩
  have hm := hc c (List.mem_of_getElem? hk)
  have hkl := (List.getElem?_eq_some_iff.1 hk).1
  have hkb : k < bs.length := by rw [hbl]; exact hkl
  have hb := List.getElem?_eq_getElem hkb
  obtain ⟨hne, hi⟩ := hin k _ c hb hk
  obtain ⟨g, cap', rfl, -⟩ := how.form (by omega)
  injection hv with e1 e2 e3
  have hA := how.lt g rfl
  have hcell := how.cells (g := g) rfl k _ (slc_get hb hk)
  have hgi := hi.lt _ rfl
  have hadd : ∀ (g j : Nat), (⟨g, 0, none⟩ : Addr).add j = ⟨g, 0 + j, none⟩ := by intro g j; unfold Addr.add; split <;> simp_all
  rw [hadd] at hcell
  refine ⟨hm.1, hm.2, g, 0, _, hA.2, e1.symm, hcell, _, _, rfl, (fun h => by cases h), fun i q hi2 => ⟨_, 0, hgi.2, rfl, ?_⟩⟩
  have hf := flat_get hi2
  have hc2 := hi.cells (g := bs[k].1) rfl
  have f0 := hc2 _ _ hf.1
  have f1 := hc2 _ _ hf.2.1
  have f2 := hc2 _ _ hf.2.2
  rw [hadd] at f0 f1 f2
  exact ⟨f0, by rw [Nat.add_assoc]; exact f1, by rw [Nat.add_assoc]; exact f2⟩

theorem flat_append (a b : List Pt) : flat (a ++ b) = flat a ++ flat b := by
  induction a with
  | nil => rfl
  | cons q a ih => simp [flat, ih]

/-- The slice v is the list L of lists. -/
def IsIntss (w : World) (lo : Nat) (v : Value) (L : List (List Int)) : Prop :=
  ∃ A cap, v = .slice A L.length cap ∧ L.length ≤ 9223372036854775807 ∧ ∀ i l, L[i]? = some l → ∃ vi pk po, pk < lo ∧ A = some ⟨pk, po, none⟩ ∧ w.cell? ⟨pk, po + i, none⟩ = some vi ∧ IsInts w lo vi l
theorem IsIntss.kept {w w' : World} {lo : Nat} {v : Value} {L : List (List Int)} {F : Nat → Prop} (h : IsIntss w lo v L) (hc : Ch F w w') (hF : ∀ k, k < lo → ¬ F k) : IsIntss w' lo v L := by
  obtain ⟨A, cap, e, hl, h⟩ := h
  refine ⟨A, cap, e, hl, fun i x hi => ?_⟩
  obtain ⟨vi, pk, po, hk, ea, h0, h1⟩ := h i x hi
  exact ⟨vi, pk, po, hk, ea, hc.cell h0 (hF _ hk), h1.kept hc hF⟩

/-- A contour, point by point: how many numbers are taken, and the points. -/
def mcs (l : List Int) : Nat → Nat × List Pt
  | 0 => (nk l 0, [])
  | i + 1 =>
    let s := mcs l i
    let k1 := nk l s.1
    let k2 := nk l k1
    (if i = 0 then k2 else nk l k2, s.2 ++ [(4 * nx l s.1 13, 4 * nx l k1 13, decide (i = 0) || decide (0 < nx l k2 3))])
theorem mcs_one (l : List Int) (i : Nat) : (mcs l (i + 1)).1 = if i = 0 then nk l (nk l (mcs l i).1) else nk l (nk l (nk l (mcs l i).1)) := rfl
theorem mcs_two (l : List Int) (i : Nat) : (mcs l (i + 1)).2 = (mcs l i).2 ++ [(4 * nx l (mcs l i).1 13, 4 * nx l (nk l (mcs l i).1) 13, if i = 0 then true else decide (0 < nx l (nk l (nk l (mcs l i).1)) 3))] := by
  simp only [mcs]
  split <;> rename_i h <;> simp [h]
def madeC (l : List Int) : List Pt := (mcs l (3 + nx l 0 4).toNat).2
def madeO (L : List (List Int)) : List (List Pt) := (L.map madeC).take 2
theorem mcs_len (l : List Int) (i : Nat) : (mcs l i).2.length = i ∧ (∀ q ∈ (mcs l i).2, (0 ≤ q.1 ∧ q.1 ≤ 48) ∧ 0 ≤ q.2.1 ∧ q.2.1 ≤ 48) := by
  induction i with
  | zero => exact ⟨rfl, fun q h => by cases h⟩
  | succ i ih =>
    refine ⟨by simp [mcs, ih.1], fun q hq => ?_⟩
    simp only [mcs, List.mem_append, List.mem_singleton] at hq
    rcases hq with hq | rfl
    · exact ih.2 q hq
    · have a := nx_in l (mcs l i).1 13 (by omega)
      have b := nx_in l (nk l (mcs l i).1) 13 (by omega)
      simp only
      omega
theorem madeC_len (l : List Int) : 3 ≤ (madeC l).length ∧ (madeC l).length ≤ 6 ∧ ∀ q ∈ madeC l, (0 ≤ q.1 ∧ q.1 ≤ 48) ∧ 0 ≤ q.2.1 ∧ q.2.1 ≤ 48 := by
  have h := nx_in l 0 4 (by omega)
  have := mcs_len l (3 + nx l 0 4).toNat
  unfold madeC
  exact ⟨by omega, by omega, this.2⟩

set_option maxRecDepth 100000 in
set_option maxHeartbeats 2000000 in
theorem Made6_any (lo : Nat) (v : Value) (L : List (List Int)) (w : World) (R : Ending → World → Prop) (h : IsIntss w lo v L) (hlo : lo ≤ w.heap.size)
    (hR : ∀ w' v' bs, CopyOk w' w.heap.size v' bs (madeO L) → Nw w w' → R (.returned v') w') : Calls Tryd.prog 15 #[v] w R := by
  have HR := Lib.hid hR
  clear hR
  obtain ⟨A, cap, rfl, hl, hel⟩ := h
  have HEL := Lib.hid hel
  clear hel
  obtain ⟨ti, hi1, hz1, hs1, hb1⟩ := info_parts info_pt
  obtain ⟨tj, hi2, hz2, hs2, hb2⟩ := info_parts info_pts
  go_enter Tryd.func15, Tryd.ntmps15
  go_wp2
  go_loopw [3, 4] (fun s3 s4 wr => ∃ (k : Nat) (bs : List (Nat × Nat)) (v : Value), s4 = .int .i64 k ∧ v = s3 ∧ k ≤ L.length ∧ k ≤ 2 ∧ CopyOk wr w.heap.size v bs ((L.map madeC).take k) ∧ Nw w wr)
    (fun _ s4 _ => L.length - (intOf s4).toNat)
  case atStart => exact ⟨0, [], _, rfl, rfl, Nat.zero_le _, by omega, ⟨rfl, List.nodup_nil, World.ownsRow_nil _ _ _ _, fun k b c h => by cases h⟩, Ch.refl _ _⟩
  case round =>
    obtain ⟨k, bs, v, rfl, rfl, hk, hk2, hcopy, hnw⟩ := hrel
    have HC := Lib.hid hcopy
    have HNW := Lib.hid hnw
    have hsz := hnw.size
    clear hcopy hnw
    have k0 : (0 : Int) ≤ (k : Int) := by omega
    have fin : k = L.length ∨ k = 2 → (L.map madeC).take k = madeO L := by
      unfold madeO
      rintro (h | h)
      · rw [List.take_of_length_le (by simp; omega), List.take_of_length_le (by simp; omega)]
      · rw [h]
    have FIN := Lib.hid fin
    clear fin
    by_cases hlt : k < L.length
    · by_cases hlt2 : k < 2
      · obtain ⟨l, hlk⟩ : ∃ l, L[k]? = some l := ⟨_, List.getElem?_eq_getElem hlt⟩
        obtain ⟨vi, pk, po, hpk, rfl, hcell, hints⟩ := HEL.out k l hlk
        have HLK := Lib.hid hlk
        have HIN := Lib.hid (hints.kept HNW.out (fun _ _ x => x))
        obtain ⟨A2, cap2, rfl, hl2, -⟩ := hints
        have hcell := HNW.out.cell hcell (fun x => x)
        have k1 : (k : Int) < (L.length : Int) := by omega
        have k3 : (k : Int) < 2 := by omega
        clear hlk
        obtain ⟨wo, rfl⟩ : ∃ wo : World, wo = wr := ⟨_, rfl⟩
        go_wp2_with (go_at_call 27; fail)
        have D0 : DS (wo.alloc (.cells #[.slice A2 l.length cap2, .int .i64 0] 77)) lo wo.heap.size (.slice A2 l.length cap2) l 0 := ⟨heap_alloc_eq _ rfl, HIN.out.kept ((Ch.refl (fun _ => False) wo).alloc _) (fun _ _ x => x), Nat.zero_le _, by omega⟩
        refine Next_any lo wo.heap.size _ l 0 4 _ _ D0 (by omega) (by omega) ?_
        intro w1 d1 c1
        have b1 : wo.heap.size < w1.heap.size := lt_of_heap d1.blk
        have D1 := Lib.hid d1
        have C01 := Lib.hid (((Ch.refl (· = wo.heap.size) wo).alloc (.cells #[.slice A2 l.length cap2, .int .i64 0] 77)).trans c1)
        have HC1 := Lib.hid (HC.out.ch C01.out (fun j hj e => by have := (HC.out.blocks j hj).2; omega))
        clear D0 d1 c1
        obtain ⟨n1, n2⟩ := nx_in l 0 4 (by omega)
        go_wp2
        go_loopw [6, 8] (fun s6 s8 wr => ∃ (i : Nat) (c : Value), s8 = .int .i64 i ∧ c = s6 ∧ i ≤ (3 + nx l 0 4).toNat ∧ DS wr lo wo.heap.size (.slice A2 l.length cap2) l (mcs l i).1 ∧ wr.ownsRow w1.heap.size 72 3 c i (flat (mcs l i).2) ∧ Ch (· = wo.heap.size) w1 wr)
          (fun _ s8 _ => (3 + nx l 0 4).toNat - (intOf s8).toNat)
        case atStart => exact ⟨0, _, rfl, rfl, Nat.zero_le _, D1.out, World.ownsRow_nil _ _ _ _, Ch.refl _ _⟩
        case round =>
        obtain ⟨i, c, rfl, rfl, hi, hds, hown, hch⟩ := hrel
        have HD := Lib.hid hds
        have HO := Lib.hid hown
        have HCh := Lib.hid hch
        clear hds hown hch
        have i0 : (0 : Int) ≤ (i : Int) := by omega
        by_cases hil : i < (3 + nx l 0 4).toNat
        · have i1 : (i : Int) < 3 + nx l 0 4 := by omega
          obtain ⟨x1, x2⟩ := nx_in l (mcs l i).1 13 (by omega)
          obtain ⟨y1, y2⟩ := nx_in l (nk l (mcs l i).1) 13 (by omega)
          obtain ⟨z1, z2⟩ := nx_in l (nk l (nk l (mcs l i).1)) 3 (by omega)
          go_wp2_with (go_at_call 27; fail)
          refine Next_any lo wo.heap.size _ l (mcs l i).1 13 _ _ HD.out (by omega) (by omega) ?_
          intro wa da ca
          have DA := Lib.hid da
          have CA := Lib.hid ca
          clear da ca
          go_wp2_with (go_at_call 27; fail)
          refine Next_any lo wo.heap.size _ l (nk l (mcs l i).1) 13 _ _ DA.out (by omega) (by omega) ?_
          intro wb db cb
          have DB := Lib.hid db
          have CB := Lib.hid (CA.out.trans cb)
          clear db cb
          rcases Nat.eq_zero_or_pos i with hz | hz
          · subst hz
            have CX := CB
            have DX := DB
            go_wp2_with (first | (at_builtin; refine wpList_append_lies _ rfl (.tmp 33) (.tmp 48) _ (by rfl) w1.heap.size 72 ti _ 3 24 Tryd.underlying69 hi1 hz1 hs1 hb1 rfl (by omega) c 0 (flat (mcs l 0).2) (by rfl) ?h1 ⟨wb.heap.size, 0, none⟩ 1 1 [.int .i64 (4 * nx l (mcs l 0).1 13), .int .i64 (4 * nx l (nk l (mcs l 0).1) 13), .bool true] (by rfl) (by rfl) ?h3 ?h4 (by omega) (by unfold maxLen; omega) (by omega) ?h5 _ rfl ?_))
            case h1 => exact (ownsRow_ch HO.out CX.out (fun j hj e => by have := (HO.out.lt j hj).1; omega)).alloc _
            case h3 => exact World.news_of_block (heap_alloc_eq _ rfl)
            case h4 =>
              intro u hu
              simp only [List.mem_cons, List.not_mem_nil, or_false] at hu
              rcases hu with rfl | rfl | rfl <;> rfl
            case h5 => have := CX.out.size; have := HCh.out.size; rw [alloc_size]; omega
            intro g1 cap1 w2 ho2 hg2 hor2 hlt3
            have HO2 := Lib.hid ho2
            have HG2 := Lib.hid hg2
            clear ho2 hg2 hor2
            go_wp2
            have chA : Ch (fun j => c.ownBlock = some j) wb w2 := ((Ch.refl _ _).alloc _).grown HG2.out (fun j hj _ => hj)
            have ds1 := DX.out.kept chA (fun j hj e => by have := (HO.out.lt j e).1; omega)
            have own1 := HO2.out
            refine ⟨⟨0 + 1, _, rfl, rfl, by omega, ds1, (by rw [mcs_two, if_pos rfl, flat_append]; exact own1), (HCh.out.trans CX.out).trans' chA (fun n hn e => by have := (HO.out.lt n e).1; omega)⟩, ?_⟩
            simp [intOf]; omega
          · have iz : ((i : Int) == 0) = false := beq_eq_false_iff_ne.2 (by omega)
            go_wp2_with (go_at_call 27; fail)
            refine Next_any lo wo.heap.size _ l (nk l (nk l (mcs l i).1)) 3 _ _ DB.out (by omega) (by omega) ?_
            intro wc dc cc
            have DX := Lib.hid dc
            have CX := Lib.hid (CB.out.trans cc)
            clear dc cc
            go_wp2_with (first | (at_builtin; refine wpList_append_lies _ rfl (.tmp 33) (.tmp 48) _ (by rfl) w1.heap.size 72 ti _ 3 24 Tryd.underlying69 hi1 hz1 hs1 hb1 rfl (by omega) c i (flat (mcs l i).2) (by rfl) ?h1 ⟨wc.heap.size, 0, none⟩ 1 1 [.int .i64 (4 * nx l (mcs l i).1 13), .int .i64 (4 * nx l (nk l (mcs l i).1) 13), .bool (decide (0 < nx l (nk l (nk l (mcs l i).1)) 3))] (by rfl) (by rfl) ?h3 ?h4 (by omega) (by unfold maxLen; omega) (by omega) ?h5 _ rfl ?_))
            case h1 => exact (ownsRow_ch HO.out CX.out (fun j hj e => by have := (HO.out.lt j hj).1; omega)).alloc _
            case h3 => exact World.news_of_block (heap_alloc_eq _ rfl)
            case h4 =>
              intro u hu
              simp only [List.mem_cons, List.not_mem_nil, or_false] at hu
              rcases hu with rfl | rfl | rfl <;> rfl
            case h5 => have := CX.out.size; have := HCh.out.size; rw [alloc_size]; omega
            intro g1 cap1 w2 ho2 hg2 hor2 hlt3
            have HO2 := Lib.hid ho2
            have HG2 := Lib.hid hg2
            clear ho2 hg2 hor2
            go_wp2
            have chA : Ch (fun j => c.ownBlock = some j) wc w2 := ((Ch.refl _ _).alloc _).grown HG2.out (fun j hj _ => hj)
            have ds1 := DX.out.kept chA (fun j hj e => by have := (HO.out.lt j e).1; omega)
            have own1 := HO2.out
            refine ⟨⟨i + 1, _, rfl, rfl, by omega, (by rw [mcs_one, if_neg (by omega)]; exact ds1), (by rw [mcs_two, if_neg (by omega), flat_append]; exact own1), (HCh.out.trans CX.out).trans' chA (fun n hn e => by have := (HO.out.lt n e).1; omega)⟩, ?_⟩
            simp [intOf]; omega
        · have i1 : ¬ (i : Int) < 3 + nx l 0 4 := by omega
          obtain rfl : i = (3 + nx l 0 4).toNat := by omega
          obtain ⟨g, cap4, rfl, -⟩ := HO.out.form (by omega)
          have hlen : (madeC l).length = (3 + nx l 0 4).toNat := (mcs_len l _).1
          have hcr := HC1.out.ch HCh.out (fun j hj e => by have := (HC.out.blocks j hj).2; omega)
          have HCr := Lib.hid hcr
          have o1 : wr.ownsRow w.heap.size 72 3 (.slice (some ⟨g, 0, none⟩) (madeC l).length cap4) (madeC l).length (flat (madeC l)) := by rw [hlen]; exact ownsRow_lo HO.out (by omega)
          have O1 := Lib.hid o1
          have HLEN := Lib.hid hlen
          have hn3 : ((L.map madeC).take k).length = k := by simp; omega
          have HN3 := Lib.hid hn3
          have gw := (HO.out.lt g rfl).1
          have lw := HCh.out.size
          clear hcr o1 hlen hn3
          go_wp2_with (first | (at_builtin; refine wpList_append_lies _ rfl (.tmp 50) (.tmp 52) _ (by rfl) w.heap.size 69 tj _ 1 24 Tryd.underlying29 hi2 hz2 hs2 hb2 rfl (by omega) v k (slc bs ((L.map madeC).take k)) (by rfl) ?h1 ⟨wr.heap.size, 0, none⟩ 1 1 [.slice (some ⟨g, 0, none⟩) (3 + nx l 0 4).toNat cap4] (by rfl) (by rfl) ?h3 ?h4 (by omega) (by unfold maxLen; omega) (by omega) ?h5 _ rfl ?_))
          case h1 =>
            have h0 := HCr.out.2.2.1
            rw [HN3.out] at h0
            exact h0.alloc _
          case h4 => rfl
          case h5 => omega
          intro g2 cap3 w3 ho3 hg3 hor3 hlt3
          have HO3 := Lib.hid ho3
          have HG3 := Lib.hid hg3
          have HOR3 := Lib.hid hor3
          clear ho3 hg3 hor3
          go_wp2
          have htk : (L.map madeC).take (k + 1) = (L.map madeC).take k ++ [madeC l] := by rw [List.take_add_one, List.getElem?_map, HLK.out]; rfl
          have hst := CopyOk.push HCr.out O1.out (fun j hj e => by have := (HC.out.blocks j hj).2; omega) HG3.out (by rw [HN3.out, HLEN.out]; exact HO3.out) (by rw [alloc_size]; exact HOR3.out)
          rw [HN3.out, ← htk] at hst
          refine ⟨⟨k + 1, bs ++ [(g, cap4)], _, rfl, rfl, by omega, by omega, hst, ?_⟩, ?_⟩
          · refine ((((HNW.out.trans' C01.out (fun n hn e => by omega)).trans' HCh.out (fun n hn e => by omega)).alloc _).grown HG3.out ?_)
            intro j hj hl2
            have := (HC.out.2.2.1.lt _ hj).1
            omega
          · simp [intOf]; omega
      · have k3 : ¬ (k : Int) < 2 := by omega
        have k1 : (k : Int) < (L.length : Int) := by omega
        go_wp2
        have h0 := HC.out
        rw [FIN.out (by omega)] at h0
        exact HR.out _ _ bs h0 HNW.out
    · have k1 : ¬ (k : Int) < (L.length : Int) := by omega
      go_wp2
      have h0 := HC.out
      rw [FIN.out (by omega)] at h0
      exact HR.out _ _ bs h0 HNW.out
end Go.Proofs.YtlgcijafjcfnhaaDoor
