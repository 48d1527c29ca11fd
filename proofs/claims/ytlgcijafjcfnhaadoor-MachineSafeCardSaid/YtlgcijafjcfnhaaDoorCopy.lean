/-
  indelibleref06.Copy: an outline that shares no memory.
-/
import Derived.Test.YtlgcijafjcfnhaaDoorOut
import Derived.Deep.AppendLies
namespace Go.Proofs.YtlgcijafjcfnhaaDoor
open Go.RowKit
set_option linter.unusedVariables false

/-- The slices over the blocks bs (a block, a capacity). -/
def slc : List (Nat × Nat) → List (List Pt) → List Value
  | b :: bs, c :: o => .slice (some ⟨b.1, 0, none⟩) c.length b.2 :: slc bs o
  | _, _ => []
theorem slc_get {bs : List (Nat × Nat)} {o : List (List Pt)} {k : Nat} {b : Nat × Nat} {c : List Pt} (hb : bs[k]? = some b) (hc : o[k]? = some c) : (slc bs o)[k]? = some (.slice (some ⟨b.1, 0, none⟩) c.length b.2) := by
  induction bs generalizing o k with
  | nil => cases hb
  | cons x bs ih =>
    cases o with
    | nil => cases hc
    | cons y o =>
      cases k with
      | zero => simp at hb hc; subst hb hc; rfl
      | succ k => exact ih (by simpa using hb) (by simpa using hc)
theorem slc_snoc {bs : List (Nat × Nat)} {o : List (List Pt)} {b : Nat × Nat} {c : List Pt} (h : bs.length = o.length) : slc (bs ++ [b]) (o ++ [c]) = slc bs o ++ [.slice (some ⟨b.1, 0, none⟩) c.length b.2] := by
  induction bs generalizing o with
  | nil => cases o with
    | nil => rfl
    | cons y o => cases h
  | cons x bs ih =>
    cases o with
    | nil => cases h
    | cons y o => simp [slc]; exact ih (by simpa using h)

/-- v is the outline o in memory of the call's own, in the blocks from B on. -/
def CopyOk (w : World) (B : Nat) (v : Value) (bs : List (Nat × Nat)) (o : List (List Pt)) : Prop :=
  bs.length = o.length ∧ (bs.map (·.1)).Nodup ∧ w.ownsRow B 69 1 v o.length (slc bs o) ∧
  ∀ (k : Nat) (b : Nat × Nat) (c : List Pt), bs[k]? = some b → o[k]? = some c → v.ownBlock ≠ some b.1 ∧ w.ownsRow B 72 3 (.slice (some ⟨b.1, 0, none⟩) c.length b.2) c.length (flat c)

theorem oneCell_flat (c : List Pt) : ∀ u ∈ flat c, u.oneCell' = true := by
  induction c with
  | nil => intro u h; cases h
  | cons q c ih =>
    intro u h
    simp only [flat, List.mem_cons] at h
    rcases h with rfl | rfl | rfl | h
    · rfl
    · rfl
    · rfl
    · exact ih u h
theorem flat_cells {w : World} {lo : Nat} {A : Option Addr} {n cap : Nat} {c : List Pt} (h : ∀ i q, c[i]? = some q → ∃ pk po, pk < lo ∧ A = some ⟨pk, po, none⟩ ∧
    w.cell? ⟨pk, po + i * 3, none⟩ = some (.int .i64 q.1) ∧ w.cell? ⟨pk, po + i * 3 + 1, none⟩ = some (.int .i64 q.2.1) ∧ w.cell? ⟨pk, po + i * 3 + 2, none⟩ = some (.bool q.2.2)) :
    ∀ ad, A = some ad → ∀ j u, (flat c)[j]? = some u → w.cell? (ad.add j) = some u := by
  intro ad ha j u hj
  have hjl : j < c.length * 3 := by rw [← flat_length]; exact (List.getElem?_eq_some_iff.1 hj).1
  obtain ⟨i, r, hr, rfl⟩ : ∃ i r, r < 3 ∧ j = i * 3 + r := ⟨j / 3, j % 3, Nat.mod_lt _ (by omega), by omega⟩
  have hi : c[i]? = some (c[i]'(by omega)) := List.getElem?_eq_getElem _
  obtain ⟨pk, po, -, e, h0, h1, h2⟩ := h i _ hi
  rw [ha] at e
  injection e with e
  subst e
  have hf := flat_get hi
  have hadd : (⟨pk, po, none⟩ : Addr).add (i * 3 + r) = ⟨pk, po + i * 3 + r, none⟩ := by unfold Addr.add; split <;> simp_all <;> omega
  rw [hadd]
  obtain rfl | rfl | rfl : r = 0 ∨ r = 1 ∨ r = 2 := by omega
  · rw [Nat.add_zero] at hj ⊢; rw [hf.1] at hj; injection hj with hj; subst hj; exact h0
  · rw [hf.2.1] at hj; injection hj with hj; subst hj; exact h1
  · rw [hf.2.2] at hj; injection hj with hj; subst hj; exact h2

theorem alloc_size (w : World) (o : Obj) : (w.alloc o).heap.size = w.heap.size + 1 := Array.size_push _
theorem CopyOk.step {w w1 w3 : World} {B : Nat} {v : Value} {bs : List (Nat × Nat)} {o : List (List Pt)} {c : List Pt} {X Y : Obj} {g g' cap cap' : Nat}
    (h : CopyOk w B v bs o) (hg1 : (w.alloc X).grownBy w1 (some w.heap.size)) (ho1 : w1.ownsRow B 72 3 (.slice (some ⟨g, 0, none⟩) c.length cap) c.length (flat c)) (hgn : w.heap.size ≤ g)
    (hg2 : (w1.alloc Y).grownBy w3 v.ownBlock) (ho3 : w3.ownsRow B 69 1 (.slice (some ⟨g', 0, none⟩) (o.length + 1) cap') (o.length + 1) (slc bs o ++ [.slice (some ⟨g, 0, none⟩) c.length cap]))
    (hor : v.ownBlock = some g' ∨ g' = (w1.alloc Y).heap.size) : CopyOk w3 B (.slice (some ⟨g', 0, none⟩) (o.length + 1) cap') (bs ++ [(g, cap)]) (o ++ [c]) := by
  obtain ⟨hl, hnd, how, hin⟩ := h
  have hsz1 : w.heap.size ≤ w1.heap.size := Nat.le_trans (by rw [alloc_size]; omega) hg1.size
  have hgl : g < w1.heap.size := (ho1.lt g rfl).2
  have hY : (w1.alloc Y).heap.size = w1.heap.size + 1 := alloc_size _ _
  have hvb : ∀ k, v.ownBlock = some k → k < w.heap.size := fun k hk => (how.lt k hk).2
  have hbl : ∀ b ∈ bs, b.1 < w.heap.size := by
    intro b hb
    obtain ⟨j, hj, rfl⟩ := List.mem_iff_getElem.1 hb
    exact ((hin j _ _ (List.getElem?_eq_getElem hj) (List.getElem?_eq_getElem (hl ▸ hj))).2.lt _ rfl).2
  refine ⟨by simp [hl], ?_, ?_, ?_⟩
  · rw [List.map_append, List.nodup_append]
    refine ⟨hnd, by simp, ?_⟩
    intro a ha b hb
    simp at hb
    subst hb
    obtain ⟨y, hy, rfl⟩ := List.mem_map.1 ha
    have := hbl y hy
    omega
  · rw [slc_snoc hl, List.length_append]; exact ho3
  · intro k b d hb hd
    by_cases hk : k < o.length
    · rw [List.getElem?_append_left (by omega)] at hb
      rw [List.getElem?_append_left hk] at hd
      obtain ⟨hne, hb1⟩ := hin k b d hb hd
      have hlt := hbl b (List.mem_of_getElem? hb)
      refine ⟨?_, ((((hb1.alloc X).kept hg1 (Or.inr ?_)).alloc Y).kept hg2 (Or.inr (fun e => hne e.symm)))⟩
      · intro e
        injection e with e
        rcases hor with h' | h'
        · exact hne (h'.trans (congrArg some e))
        · have e2 : g' = b.1 := e
          omega
      · intro e
        injection e with e
        simp at e
        omega
    · rw [List.getElem?_append_right (by omega)] at hb
      rw [List.getElem?_append_right (by omega)] at hd
      have h0 : k - bs.length = 0 := by
        have := (List.getElem?_eq_some_iff.1 hb).1
        simp at this
        omega
      rw [h0] at hb
      rw [← hl, h0] at hd
      simp at hb hd
      subst hb hd
      refine ⟨?_, (ho1.alloc Y).kept hg2 (Or.inr ?_)⟩
      · intro e
        injection e with e
        have e2 : g' = g := e
        rcases hor with h' | h'
        · have := hvb _ h'; omega
        · omega
      · intro e
        have : g < w.heap.size := hvb _ e.symm
        omega

/-- 'append(s, x...)' onto an empty slice with a block of its own, whatever the number. -/
theorem wpList_append_copy {P : Program} {ops : Array Oper} {rest : List Oper} {oo : Oper} {a : Act} {Q : Exit → Act → World → Prop} (w : World) (hgd : oo.guard = none) (s x : Operand) (t : TypeId)
    (ho : oo.op = .call { callee := .builtin .append, args := #[s, x], argTypes := #[t, t] })
    (base : Nat) (e : TypeId) (i : TypeInfo) (z : Value) (size bytes : Nat) (ht : P.underlying t = some (.slice e)) (hi : P.info? e = some i) (hz : i.zero = some z)
    (hsize : i.size = size) (hby : i.bytes = bytes) (hzs : z.cells.size = size) (hsz : 0 < size)
    (g0 : Nat) (hs : a.eval s = .slice (some ⟨g0, 0, none⟩) 0 0) (hown : w.ownsRow base e size (.slice (some ⟨g0, 0, none⟩) 0 0) 0 [])
    (A : Option Addr) (m c : Nat) (news : List Value) (hx : a.eval x = .slice A m c) (hA : A = none → m = 0 ∧ c = 0) (hl : news.length = m * size)
    (hnews : ∀ ad, A = some ad → ∀ j u, news[j]? = some u → w.cell? (ad.add j) = some u) (h1 : ∀ u ∈ news, u.oneCell' = true)
    (h63 : m ≤ maxLen) (hbytes : m * bytes ≤ 140737488355328) (hbase : base ≤ w.heap.size) (H : Nat) (hH : w.heap.size = H)
    (h : ∀ g cap w', w'.ownsRow base e size (.slice (some ⟨g, 0, none⟩) m cap) m news → w.grownBy w' (some g0) → (g0 = g ∨ g = H) → wpList P ops Q rest (a.put oo.dst (.slice (some ⟨g, 0, none⟩) m cap)) w') :
    wpList P ops Q (oo :: rest) a w := by
  by_cases hm : m = 0
  · subst hm
    have hn : news = [] := List.eq_nil_of_length_eq_zero (by simpa using hl)
    subst hn
    refine wpList_append_fits_any w hgd s x t ho base e i size ht hi hsize g0 0 0 [] hs hown A 0 c [] hx hl hA hnews h1 (by omega) ?_
    intro w' h1 h2
    exact h g0 0 w' h1 h2 (Or.inl rfl)
  · obtain ⟨ad, rfl⟩ : ∃ ad, A = some ad := by
      cases A with
      | none => exact absurd (hA rfl).1 hm
      | some ad => exact ⟨ad, rfl⟩
    refine wpList_append_lies w hgd s x t ho base e i z size bytes ht hi hz hsize hby hzs hsz _ 0 [] hs hown ad m c news hx hl (hnews ad rfl) h1 (by omega) (by simpa using h63) (by simpa using hbytes) hbase H hH ?_
    intro g cap w' h1 h2 h3 _
    simp only [Nat.zero_add, List.nil_append] at h1 ⊢
    refine h g cap w' h1 h2 ?_
    rcases h3 with h3 | h3
    · injection h3 with h3; exact Or.inl h3
    · exact Or.inr h3

set_option maxRecDepth 100000 in
set_option maxHeartbeats 1000000 in
theorem Copy_any (lo : Nat) (v : Value) (o : List (List Pt)) (w : World) (R : Ending → World → Prop) (ho : IsOut w lo v o) (hlo : lo ≤ w.heap.size)
    (hR : ∀ w' v' bs, CopyOk w' w.heap.size v' bs o → Nw w w' → R (.returned v') w') : Calls Tryd.prog 26 #[v] w R := by
  have HR := Lib.hid hR
  clear hR
  obtain ⟨A, cap, rfl, hl, hel⟩ := ho
  have HEL := Lib.hid hel
  clear hel
  obtain ⟨ti, hi1, hz1, hs1, hb1⟩ := info_parts info_pt
  obtain ⟨tj, hi2, hz2, hs2, hb2⟩ := info_parts info_pts
  go_enter Tryd.func26, Tryd.ntmps26
  go_wp2
  go_loopw [3, 4] (fun s3 s4 wr => ∃ (k : Nat) (bs : List (Nat × Nat)) (v : Value), s4 = .int .i64 k ∧ v = s3 ∧ k ≤ o.length ∧ CopyOk wr w.heap.size v bs (o.take k) ∧ Nw w wr)
    (fun _ s4 _ => o.length - (intOf s4).toNat)
  case atStart => exact ⟨0, [], _, rfl, rfl, Nat.zero_le _, ⟨rfl, List.nodup_nil, World.ownsRow_nil _ _ _ _, fun k b c h => by cases h⟩, Ch.refl _ _⟩
  case round =>
    obtain ⟨k, bs, v, rfl, rfl, hk, hcopy, hnw⟩ := hrel
    have HC := Lib.hid hcopy
    have HNW := Lib.hid hnw
    have hsz := hnw.size
    clear hcopy hnw
    by_cases hlt : k < o.length
    · have hck : o[k]? = some o[k] := List.getElem?_eq_getElem hlt
      generalize o[k] = c at hck
      obtain ⟨hc64, -, bk, bo, vi, hbk, rfl, hcell, A2, cap2, rfl, hA2, hpts⟩ := HEL.out k c hck
      have HPTS := Lib.hid hpts
      have HCK := Lib.hid hck
      have HA2 := Lib.hid hA2
      have hcell' := HNW.out.cell hcell (fun x => x)
      have lbk : bk < wr.heap.size := World.block_lt_of_cell? wr ⟨bk, _, none⟩ hcell'
      have k0 : (0 : Int) ≤ (k : Int) := by omega
      have k1 : (k : Int) < (o.length : Int) := by omega
      have hn3 : (o.take k).length = k := by simp; omega
      have HN3 := Lib.hid hn3
      have hcells := flat_cells (fun i q hi => by obtain ⟨pk, po, a, e, h0, h1, h2⟩ := HPTS.out i q hi; exact ⟨pk, po, a, e, HNW.out.cell h0 id, HNW.out.cell h1 id, HNW.out.cell h2 id⟩) (w := wr) (lo := lo) (A := A2) (n := c.length) (cap := cap2) (c := c)
      have HCELLS := Lib.hid hcells
      clear hcell hpts hck hA2 hn3 hcells
      go_wp2_with (first | (at_builtin; refine wpList_append_copy _ rfl (.tmp 12) (.tmp 16) _ (by rfl) w.heap.size 72 ti _ 3 24 Tryd.underlying69 hi1 hz1 hs1 hb1 rfl (by omega) wr.heap.size (by rfl) ?h1 A2 c.length cap2 (flat c) (by rfl) (fun e => ?hA) (flat_length c) (fun ad e j u hj => ?h3) (oneCell_flat c) (by unfold maxLen; omega) (by omega) ?h5 _ rfl ?_))
      case h1 => exact World.ownsRow_made _ _ _ (by omega) (by unfold maxLen; omega) rfl
      case hA =>
        refine ⟨?_, HA2.out e⟩
        cases c with
        | nil => rfl
        | cons q c =>
          obtain ⟨pk, po, -, e2, -⟩ := HPTS.out 0 q rfl
          rw [e] at e2
          cases e2
      case h3 => exact cell_alloc_old _ (HCELLS.out ad e j u hj)
      case h5 => rw [alloc_size]; omega
      intro g1 cap1 w1 ho1 hg1 hor1
      have HO1 := Lib.hid ho1
      have HG1 := Lib.hid hg1
      have HOR1 := Lib.hid hor1
      clear ho1 hg1 hor1
      go_wp2_with (first | (at_builtin; refine wpList_append_lies _ rfl (.tmp 11) (.tmp 18) _ (by rfl) w.heap.size 69 tj _ 1 24 Tryd.underlying29 hi2 hz2 hs2 hb2 rfl (by omega) v k (slc bs (o.take k)) (by rfl) ?h1 ⟨w1.heap.size, 0, none⟩ 1 1 [.slice (some ⟨g1, 0, none⟩) c.length cap1] (by rfl) (by rfl) ?h3 ?h4 (by omega) (by unfold maxLen; omega) (by omega) ?h5 _ rfl ?_))
      case h1 =>
        have h0 := HC.out.2.2.1
        rw [HN3.out] at h0
        refine ((h0.alloc _).kept HG1.out (Or.inr ?_)).alloc _
        intro hv
        have := (h0.lt _ hv).2
        omega
      case h3 => exact World.news_of_block (heap_alloc_eq _ rfl)
      case h4 => intro u hu; rw [List.mem_singleton.1 hu]; rfl
      case h5 => have := HG1.out.size; rw [alloc_size] at this ⊢; omega
      intro g2 cap3 w3 ho3 hg3 hor3 hlt3
      have HO3 := Lib.hid ho3
      have HG3 := Lib.hid hg3
      have HOR3 := Lib.hid hor3
      clear ho3 hg3 hor3
      go_wp2
      have hb0 := HC.out.1
      rw [HN3.out] at hb0
      have htk : o.take (k + 1) = o.take k ++ [c] := by rw [List.take_add_one, HCK.out]; rfl
      have hst := CopyOk.step HC.out HG1.out HO1.out (by have := HOR1.out; omega) HG3.out (by rw [HN3.out]; exact HO3.out) (by
        rcases HOR3.out with h' | h'
        · exact Or.inl h'
        · exact Or.inr (by rw [alloc_size]; exact h'))
      rw [HN3.out, ← htk] at hst
      refine ⟨⟨k + 1, bs ++ [(g1, cap1)], _, rfl, rfl, by omega, hst, ?_⟩, ?_⟩
      · refine ((((HNW.out.alloc _).grown HG1.out ?_).alloc _).grown HG3.out ?_)
        · intro j hj hl2
          injection hj with hj
          omega
        · intro j hj hl2
          have := (HC.out.2.2.1.lt _ hj).1
          omega
      · simp [intOf]; omega
    · have hk2 : k = o.length := by omega
      subst hk2
      have k2 : ¬ (((o.length : Nat) : Int) < ((o.length : Nat) : Int)) := by omega
      go_wp2
      have h0 := HC.out
      rw [List.take_length] at h0
      exact HR.out _ _ bs h0 HNW.out
end Go.Proofs.YtlgcijafjcfnhaaDoor
