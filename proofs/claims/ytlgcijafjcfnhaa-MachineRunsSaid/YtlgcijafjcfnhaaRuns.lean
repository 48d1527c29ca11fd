/-
  indeliblelaw09.MachineRuns: Run returns what the reference's Run returns.
-/
import Derived.Test.YtlgcijafjcfnhaaRRun
import Derived.Test.YtlgcijafjcfnhaaSizes
namespace Go.Proofs.Ytlgcijafjcfnhaa
open Go.RowKit
set_option linter.unusedVariables false
set_option linter.unusedSimpArgs false

/-- The slice v is the contour c, of whatever length. -/
def IsPtsR (w : World) (lo : Nat) (v : Value) (c : List Pt) : Prop :=
  ∃ A cap, v = .slice A c.length cap ∧ c.length ≤ cap ∧ cap ≤ 9223372036854775807 ∧ (A = none → cap = 0) ∧ ∀ i q, c[i]? = some q → ∃ pk po, pk < lo ∧ A = some ⟨pk, po, none⟩ ∧
    w.cell? ⟨pk, po + i * 3, none⟩ = some (.int .i64 q.1) ∧ w.cell? ⟨pk, po + i * 3 + 1, none⟩ = some (.int .i64 q.2.1) ∧ w.cell? ⟨pk, po + i * 3 + 2, none⟩ = some (.bool q.2.2)
/-- The slice v is the outline o, of whatever size. -/
def IsOutR (w : World) (lo : Nat) (v : Value) (o : List (List Pt)) : Prop :=
  ∃ A cap, v = .slice A o.length cap ∧ o.length ≤ 9223372036854775807 ∧ ∀ k c, o[k]? = some c → (∀ q ∈ c, wfP q) ∧ ∃ bk bo vi, bk < lo ∧ A = some ⟨bk, bo, none⟩ ∧ w.cell? ⟨bk, bo + k, none⟩ = some vi ∧ IsPtsR w lo vi c
theorem IsPtsR.kept {w w' : World} {lo : Nat} {v : Value} {c : List Pt} {F : Nat → Prop} (h : IsPtsR w lo v c) (hc : Ch F w w') (hF : ∀ k, k < lo → ¬ F k) : IsPtsR w' lo v c := by
  obtain ⟨A, cap, e, h1, h2, h3, h⟩ := h
  refine ⟨A, cap, e, h1, h2, h3, fun i q hi => ?_⟩
  obtain ⟨pk, po, hk, ea, c0, c1, c2⟩ := h i q hi
  exact ⟨pk, po, hk, ea, hc.cell c0 (hF _ hk), hc.cell c1 (hF _ hk), hc.cell c2 (hF _ hk)⟩
theorem IsOutR.kept {w w' : World} {lo : Nat} {v : Value} {o : List (List Pt)} {F : Nat → Prop} (h : IsOutR w lo v o) (hc : Ch F w w') (hF : ∀ k, k < lo → ¬ F k) : IsOutR w' lo v o := by
  obtain ⟨A, cap, e, h1, h⟩ := h
  refine ⟨A, cap, e, h1, fun k c hk => ?_⟩
  obtain ⟨hw, bk, bo, vi, b1, b2, b3, b4⟩ := h k c hk
  exact ⟨hw, bk, bo, vi, b1, b2, hc.cell b3 (hF _ b1), b4.kept hc hF⟩
/-- Its first points. -/
theorem IsPtsR.first {w : World} {lo : Nat} {A : Option Addr} {n cap : Nat} {c : List Pt} (h : IsPtsR w lo (.slice A n cap) c) (k : Nat) (hk : k ≤ n) : IsPts w lo (.slice A k cap) (c.take k) := by
  obtain ⟨A', c', e, h1, h2, h3, h⟩ := h
  injection e with e1 e2 e3
  subst e1 e3
  have hlen : (c.take k).length = k := by rw [List.length_take]; omega
  refine ⟨A, cap, by rw [hlen], h3, fun i q hi => ?_⟩
  rw [List.getElem?_take] at hi
  split at hi
  · exact h i q hi
  · cases hi

/-- The outline o in a row of slices of the call's own, over memory below lo. -/
def AnyOk (w : World) (B lo : Nat) (v : Value) (o : List (List Pt)) : Prop :=
  ∃ hs : List Value, hs.length = o.length ∧ w.ownsRow B 32 1 v o.length hs ∧ ∀ (k : Nat) (c : List Pt), o[k]? = some c → (c.length ≤ 8 ∧ ∀ q ∈ c, wfP q) ∧ ∃ vi, hs[k]? = some vi ∧ IsPts w lo vi c
theorem AnyOk.nil (w : World) (B lo : Nat) : AnyOk w B lo (.slice none 0 0) [] := ⟨[], rfl, World.ownsRow_nil _ _ _ _, fun k c h => by cases h⟩
theorem AnyOk.kept {w w' : World} {B lo : Nat} {v : Value} {o : List (List Pt)} {F : Nat → Prop} (h : AnyOk w B lo v o) (hc : Ch F w w') (hF : ∀ k, v.ownBlock = some k ∨ k < lo → ¬ F k) : AnyOk w' B lo v o := by
  obtain ⟨hs, h1, h2, h3⟩ := h
  refine ⟨hs, h1, row_ch h2 hc (fun k hk => hF k (.inl hk)), fun k c hk => ?_⟩
  obtain ⟨a, vi, b1, b2⟩ := h3 k c hk
  exact ⟨a, vi, b1, b2.kept hc (fun k hk => hF k (.inr hk))⟩
theorem AnyOk.isOut {w : World} {B lo : Nat} {v : Value} {o : List (List Pt)} (h : AnyOk w B lo v o) (hl : o.length ≤ 64) (hlo : lo ≤ w.heap.size) : IsOut w w.heap.size v o := by
  obtain ⟨hs, h1, h2, h3⟩ := h
  have hv : ∃ A cap, v = .slice A o.length cap := by
    rcases h2.2 with ⟨e1, e2⟩ | ⟨g, cap, cur, e1, -⟩
    · exact ⟨none, 0, by rw [e2]; exact e1⟩
    · exact ⟨_, cap, e1⟩
  obtain ⟨A, cap, hv⟩ := hv
  refine ⟨A, cap, hv, hl, fun k c hk => ?_⟩
  obtain ⟨⟨a1, a2⟩, vi, b1, b2⟩ := h3 k c hk
  have hkl := (List.getElem?_eq_some_iff.1 hk).1
  obtain ⟨g, cap', rfl, -⟩ := h2.form (by omega)
  injection hv with e1 e2 e3
  have hcell := h2.cells (g := g) rfl k _ b1
  have hadd : (⟨g, 0, none⟩ : Addr).add k = ⟨g, 0 + k, none⟩ := by unfold Addr.add; split <;> simp_all
  rw [hadd] at hcell
  exact ⟨by omega, a2, g, 0, vi, (h2.lt g rfl).2, e1.symm, hcell, b2.hi hlo⟩
/-- One contour more. -/
theorem AnyOk.push {w w' : World} {B lo : Nat} {v' : Value} {o : List (List Pt)} {c : List Pt} {vi : Value} {hs : List Value} {F : Nat → Prop} (h1 : hs.length = o.length) (h3 : ∀ (k : Nat) (c : List Pt), o[k]? = some c → (c.length ≤ 8 ∧ ∀ q ∈ c, wfP q) ∧ ∃ vi, hs[k]? = some vi ∧ IsPts w lo vi c)
    (hc : Ch F w w') (hF : ∀ k, k < lo → ¬ F k) (ho : w'.ownsRow B 32 1 v' (o.length + 1) (hs ++ [vi]))
    (h8 : c.length ≤ 8) (hw : ∀ q ∈ c, wfP q) (hp : IsPts w lo vi c) : AnyOk w' B lo v' (o ++ [c]) := by
  refine ⟨hs ++ [vi], by simp [h1], by rw [List.length_append]; exact ho, fun k d hk => ?_⟩
  by_cases hlt : k < o.length
  · rw [List.getElem?_append_left hlt] at hk
    obtain ⟨a, vj, b1, b2⟩ := h3 k d hk
    exact ⟨a, vj, by rw [List.getElem?_append_left (by omega)]; exact b1, b2.kept hc hF⟩
  · rw [List.getElem?_append_right (by omega)] at hk
    have h0 : k - o.length = 0 := by
      have := (List.getElem?_eq_some_iff.1 hk).1
      simp at this
      omega
    rw [h0] at hk
    simp at hk
    subst hk
    exact ⟨⟨h8, hw⟩, vi, by rw [List.getElem?_append_right (by omega), h1, h0]; rfl, hp.kept hc hF⟩

/-- The two outlines in the literal at block g. -/
def AllOuts (w : World) (g : Nat) : Prop := ∀ j, j < 2 → ∃ v o, w.cell? ⟨g, j, none⟩ = some v ∧ IsOut w w.heap.size v o
theorem AllOuts.kept {w w' : World} {g : Nat} (h : AllOuts w g) (hc : Nw w w') : AllOuts w' g := fun j hj => by
  obtain ⟨v, l, h1, h2⟩ := h j hj
  exact ⟨v, l, hc.cell h1 id, (h2.kept hc nof).hi hc.size⟩

set_option maxRecDepth 100000 in
set_option maxHeartbeats 1000000 in
theorem Runs_any (lo : Nat) (v : Value) (c : CaseD) (vr : Value) (raw : List Op3) (vx : Value) (other : List (List Pt)) (size : Int) (w : World) (R : Ending → World → Prop) (hlo : lo ≤ w.heap.size) (hc : IsCase w lo v c) (hr : IsOpsR w lo vr raw) (hx : IsOutR w lo vx other)
    (hz : -9223372036854775808 ≤ size ∧ size ≤ 9223372036854775807)
    (hR : ∀ w', Nw w w' → R (.returned (.bool true)) w') : Calls Try.prog 3 #[v, vr, vx, .int .i64 size] w R := by
  have HR := Lib.hid hR
  have HC := Lib.hid hc
  have HRAW := Lib.hid hr
  have HX := Lib.hid hx
  clear hR hz hr
  obtain ⟨vo, vp, rfl, -⟩ := hc
  obtain ⟨Ax, capx, rfl, hxl, -⟩ := hx
  obtain ⟨tj, hi2, hz2, hs2, hb2⟩ := info_parts info_pts
  go_enter Try.func3, Try.ntmps3
  go_wp2_with (go_at_call 9; fail)
  refine sanity_any _ _ ?_
  intro w1 hn
  obtain ⟨p0, p1, p2, p3, p4⟩ := case_alloc (lo := lo) hn
  have N1 := Lib.hid (show Nw w w1 from ((Ch.refl (fun _ => False) w).alloc _).trans hn)
  clear hn
  go_wp2_with (go_at_call 9; fail)
  refine made_any lo _ c _ _ (by have := N1.out.size; omega) (HC.out.kept N1.out nof) ?_
  intro w2 vo2 vp2 p m hm hmade hout hown hn
  have p0 := hn.cell p0 id
  have p1 := hn.cell p1 id
  have p2 := hn.cell p2 id
  have p3 := hn.cell p3 id
  have p4 := hn.cell p4 id
  have HO := Lib.hid hout
  have N2 := Lib.hid (N1.out.trans hn)
  have HX2 := Lib.hid (HX.out.kept N2.out nof)
  have lw2 : lo ≤ w2.heap.size := by have := N2.out.size; omega
  clear hmade hout hown hn
  go_upto_block 0 with fail
  go_cut [12] (fun s12 wx => ∃ oa : List (List Pt), oa.length ≤ 3 ∧ AnyOk wx w2.heap.size lo s12 oa ∧ Nw w2 wx)
  case first =>
    go_wp2
    go_loopw [12, 13] (fun s12 s13 wr => ∃ (k : Nat) (va : Value) (oa : List (List Pt)), s13 = .int .i64 k ∧ va = s12 ∧ oa.length = k ∧ k ≤ 3 ∧ k ≤ other.length ∧ AnyOk wr w2.heap.size lo va oa ∧ Nw w2 wr) (fun _ s13 _ => 3 - (intOf s13).toNat)
    case atStart => exact ⟨0, _, [], rfl, rfl, rfl, by omega, by omega, AnyOk.nil _ _ _, Ch.refl _ _⟩
    case round =>
      obtain ⟨k, va, oa, rfl, rfl, hoa, hk3, hkn, hany, hch⟩ := hrel
      have HANY := Lib.hid hany
      have HCH := Lib.hid hch
      clear hany hch
      have k0 : (0 : Int) ≤ (k : Int) := by omega
      by_cases hlt : k < other.length
      · have k1 : (k : Int) < (other.length : Int) := by omega
        by_cases h3 : k < 3
        · have k2 : (k : Int) < 3 := by omega
          obtain ⟨ck, hck⟩ : ∃ q, other[k]? = some q := ⟨_, List.getElem?_eq_getElem hlt⟩
          have hx3 := HX2.out.kept HCH.out nof
          obtain ⟨_, _, he, -, hel⟩ := hx3
          obtain ⟨hwf, bk, bo, vi, hb1, hb2, hb3, hpt⟩ := hel k ck hck
          injection he with e1 e2 e3
          subst e1 e3
          subst hb2
          clear hel
          have HPT := Lib.hid hpt
          obtain ⟨Ak, capk, rfl, hcl, hcm, hcn, -⟩ := hpt
          obtain ⟨hs, g1, g2, g3⟩ := HANY.out
          have G2 := Lib.hid g2
          have G3 := Lib.hid g3
          have HWF := Lib.hid hwf
          have lw := HCH.out.size
          clear g2 g3 hck hwf
          by_cases h8 : (8 : Int) < (ck.length : Int)
          · have h9 : (8 : Int) ≤ (capk : Int) := by omega
            have h10 : (0 : Int) ≤ 8 := by omega
            go_wp2_with fail
            refine wp_region_noPanic ?_
            go_region_law ((refine step_append_lies _ (by rfl) _ _ _ (by rfl) w2.heap.size 32 tj _ 1 24 Try.underlying28 hi2 hz2 hs2 hb2 rfl (by omega) va k hs (by rfl) (by rw [← hoa]; exact (G2.out.alloc _).drew) ⟨wr.heap.size, 0, none⟩ 1 1 [.slice Ak 8 capk] (by rfl) (by rfl) (by exact World.news_of_block (heap_alloc_new wr _)) (by simp [Value.oneCell']) (by omega) (by unfold maxLen; omega) (by omega) (by simp; omega) (wr.heap.size + 1) (by simp) ?_; intro gg cap w3 hown1 hgrow hat hlt3))
            all_goals
              have ch3 : Ch (fun j => va.ownBlock = some j) wr w3 := ((Ch.refl _ _).alloc _).drew.grown hgrow (fun j hj hl => hj)
              have A3 := Lib.hid (show AnyOk w3 w2.heap.size lo (.slice (some ⟨gg, 0, none⟩) (k + 1) cap) (oa ++ [ck.take 8]) from AnyOk.push g1 G3.out ch3 (fun j hj e => by have := (G2.out.lt j e).1; omega) (by rw [hoa]; exact hown1) (by simp; omega) (fun q hq => HWF.out q (List.mem_of_mem_take hq)) (HPT.out.first 8 (by omega)))
              have C3 := Lib.hid (HCH.out.trans' ch3 (fun n hn e => by have := (G2.out.lt n e).1; omega))
              clear hown1 hgrow hat ch3
              refine NoPanic.normal ?_
              go_wp2
              go_roundw
              case rel => exact ⟨k + 1, _, _, by go_num, rfl, by simp [hoa], by omega, by omega, A3.out, C3.out⟩
              case measure => simp [intOf]; omega
          · have hif : (if (8 : Int) < (ck.length : Int) then (8 : Int) else (ck.length : Int)) = (ck.length : Int) := if_neg h8
            have h9 : (ck.length : Int) ≤ (capk : Int) := by omega
            have h10 : (0 : Int) ≤ (ck.length : Int) := by omega
            go_wp2_with fail
            refine wp_region_noPanic ?_
            go_region_law ((refine step_append_lies _ (by rfl) _ _ _ (by rfl) w2.heap.size 32 tj _ 1 24 Try.underlying28 hi2 hz2 hs2 hb2 rfl (by omega) va k hs (by rfl) (by rw [← hoa]; exact (G2.out.alloc _).drew) ⟨wr.heap.size, 0, none⟩ 1 1 [.slice Ak ck.length capk] (by rfl) (by rfl) (by exact World.news_of_block (heap_alloc_new wr _)) (by simp [Value.oneCell']) (by omega) (by unfold maxLen; omega) (by omega) (by simp; omega) (wr.heap.size + 1) (by simp) ?_; intro gg cap w3 hown1 hgrow hat hlt3))
            all_goals
              have ch3 : Ch (fun j => va.ownBlock = some j) wr w3 := ((Ch.refl _ _).alloc _).drew.grown hgrow (fun j hj hl => hj)
              have A3 := Lib.hid (show AnyOk w3 w2.heap.size lo (.slice (some ⟨gg, 0, none⟩) (k + 1) cap) (oa ++ [ck.take ck.length]) from AnyOk.push g1 G3.out ch3 (fun j hj e => by have := (G2.out.lt j e).1; omega) (by rw [hoa]; exact hown1) (by simp; omega) (fun q hq => HWF.out q (List.mem_of_mem_take hq)) (HPT.out.first ck.length (by omega)))
              have C3 := Lib.hid (HCH.out.trans' ch3 (fun n hn e => by have := (G2.out.lt n e).1; omega))
              clear hown1 hgrow hat ch3
              refine NoPanic.normal ?_
              go_wp2
              go_roundw
              case rel => exact ⟨k + 1, _, _, by go_num, rfl, by simp [hoa], by omega, by omega, A3.out, C3.out⟩
              case measure => simp [intOf]; omega
        · have k2 : ¬ (k : Int) < 3 := by omega
          go_wp2
          go_meet
          exact ⟨_, by omega, HANY.out, HCH.out⟩
      · have k1 : ¬ (k : Int) < (other.length : Int) := by omega
        go_wp2
        go_meet
        exact ⟨_, by omega, HANY.out, HCH.out⟩
  case rest =>
    obtain ⟨oa, hoa3, hany, hnw⟩ := hcut
    have HA := Lib.hid (hany.isOut (by omega) (by have := hnw.size; omega))
    have HOa := Lib.hid ((HO.out.kept hnw nof).hi hnw.size)
    have N3 := Lib.hid (N2.out.trans hnw)
    have p0 := hnw.cell p0 id
    have p1 := hnw.cell p1 id
    have p2 := hnw.cell p2 id
    have p3 := hnw.cell p3 id
    have p4 := hnw.cell p4 id
    clear hany hnw HX2 HO
    go_wp2_with (go_at_call 9; fail)
    refine programs_any lo _ c _ raw _ _ (by have := N3.out.size; omega) (HC.out.kept N3.out nof) (HRAW.out.kept N3.out nof) ?_
    intro w3 v0 v1 v2 v3 l0 l1 l2 l3 m' hm' hmade hlen h0 h1 h2 h3 hn
    have N4 := Lib.hid (N3.out.trans hn)
    have HO3 := Lib.hid ((HOa.out.kept hn nof).hi hn.size)
    have HA3 := Lib.hid ((HA.out.kept hn nof).hi hn.size)
    generalize outC c = o at HO3
    obtain ⟨A0, c0, e0, -⟩ := id h0
    obtain ⟨A1, c1, e1, -⟩ := id h1
    obtain ⟨A2, c2, e2, -⟩ := id h2
    obtain ⟨A3, c3, e3, -⟩ := id h3
    obtain ⟨Ao, co, eo, -⟩ := id HO3.out
    obtain ⟨Aa, ca, ea, -⟩ := id HA3.out
    subst e0 e1 e2 e3 eo ea
    have H0 := Lib.hid h0
    have H1 := Lib.hid h1
    have H2 := Lib.hid h2
    have H3 := Lib.hid h3
    clear p0 p1 p2 p3 p4 hmade hlen h0 h1 h2 h3 hn HOa HA
    go_wp2
    go_loopw [15] (fun s15 wr => ∃ k : Nat, s15 = .int .i64 k ∧ k ≤ 4 ∧ AllOps wr w3.heap.size ∧ IsOut wr wr.heap.size (.slice Ao o.length co) o ∧ IsOut wr wr.heap.size (.slice Aa oa.length ca) oa ∧ Nw w wr) (fun s15 _ => 4 - (intOf s15).toNat)
    case atStart =>
      have C : Nw w3 (w3.alloc (.cells #[.slice A0 l0.length c0, .slice A1 l1.length c1, .slice A2 l2.length c2, .slice A3 l3.length c3] 33)) := (Ch.refl (fun _ => False) w3).alloc _
      have B : (w3.alloc (.cells #[.slice A0 l0.length c0, .slice A1 l1.length c1, .slice A2 l2.length c2, .slice A3 l3.length c3] 33)).heap[w3.heap.size]? = some (.cells #[.slice A0 l0.length c0, .slice A1 l1.length c1, .slice A2 l2.length c2, .slice A3 l3.length c3] 33 (0, 0)) := heap_alloc_eq _ rfl
      have sz := C.size
      refine ⟨0, rfl, by omega, ?_, (HO3.out.kept C nof).hi sz, (HA3.out.kept C nof).hi sz, N4.out.trans C⟩
      intro j hj
      match j, hj with
      | 0, _ => exact ⟨_, l0, by rw [cell_of B]; rfl, (H0.out.kept C nof).hi sz⟩
      | 1, _ => exact ⟨_, l1, by rw [cell_of B]; rfl, (H1.out.kept C nof).hi sz⟩
      | 2, _ => exact ⟨_, l2, by rw [cell_of B]; rfl, (H2.out.kept C nof).hi sz⟩
      | 3, _ => exact ⟨_, l3, by rw [cell_of B]; rfl, (H3.out.kept C nof).hi sz⟩
    case round =>
      obtain ⟨k, rfl, hk, hall, hout, hany, hnw⟩ := hrel
      have HALL := Lib.hid hall
      have HOR := Lib.hid hout
      have HAR := Lib.hid hany
      have HNW := Lib.hid hnw
      clear hall hout hany hnw
      have k0 : (0 : Int) ≤ (k : Int) := by omega
      by_cases hlt : k < 4
      · have k1 : (k : Int) < 4 := by omega
        go_wp2
        go_loopw [65] (fun s65 wq => ∃ i : Nat, s65 = .int .i64 i ∧ i ≤ 2 ∧ AllOps wq w3.heap.size ∧ AllOuts wq wr.heap.size ∧ IsOut wq wq.heap.size (.slice Ao o.length co) o ∧ IsOut wq wq.heap.size (.slice Aa oa.length ca) oa ∧ Nw w wq) (fun s65 _ => 2 - (intOf s65).toNat)
        case atStart =>
          have C : Nw wr (wr.alloc (.cells #[.slice Ao o.length co, .slice Aa oa.length ca] 28)) := (Ch.refl (fun _ => False) wr).alloc _
          have B : (wr.alloc (.cells #[.slice Ao o.length co, .slice Aa oa.length ca] 28)).heap[wr.heap.size]? = some (.cells #[.slice Ao o.length co, .slice Aa oa.length ca] 28 (0, 0)) := heap_alloc_eq _ rfl
          have sz := C.size
          refine ⟨0, rfl, by omega, HALL.out.kept C, ?_, (HOR.out.kept C nof).hi sz, (HAR.out.kept C nof).hi sz, HNW.out.trans C⟩
          intro j hj
          match j, hj with
          | 0, _ => exact ⟨_, o, by rw [cell_of B]; rfl, (HOR.out.kept C nof).hi sz⟩
          | 1, _ => exact ⟨_, oa, by rw [cell_of B]; rfl, (HAR.out.kept C nof).hi sz⟩
        case round =>
          obtain ⟨i, rfl, hi, hall, houts, hout, hany, hnw⟩ := hrel
          clear HALL HOR HAR HNW
          have HALL := Lib.hid hall
          have HOUTS := Lib.hid houts
          have HOR := Lib.hid hout
          have HAR := Lib.hid hany
          have HNW := Lib.hid hnw
          clear hall houts hout hany hnw
          have i0 : (0 : Int) ≤ (i : Int) := by omega
          by_cases hil : i < 2
          · have i1 : (i : Int) < 2 := by omega
            obtain ⟨vk, l, hcell, hops⟩ := HALL.out k hlt
            obtain ⟨vu, u, hcellu, hu⟩ := HOUTS.out i hil
            have HOPS := Lib.hid hops
            have HU := Lib.hid hu
            clear hops hu
            cases he0 : runM l size u with
            | error x =>
              have E1 := Lib.hid he0
              clear he0
              have hx0 : (x != x) = false := by simp
              go_wp2_with (go_at_call 9; fail)
              refine Run_any wr.heap.size _ _ l u size _ _ HOPS.out HU.out (Nat.le_refl _) ?_ (by intro w' v' o' st he; rw [E1.out] at he; cases he)
              intro w5 x' he hn
              rw [E1.out] at he
              cases he
              have HOP5 := Lib.hid ((HOPS.out.kept hn nof).hi hn.size)
              have HU5 := Lib.hid ((HU.out.kept hn nof).hi hn.size)
              have HOR5 := Lib.hid ((HOR.out.kept hn nof).hi hn.size)
              have HAR5 := Lib.hid ((HAR.out.kept hn nof).hi hn.size)
              have HA5 := Lib.hid (HALL.out.kept hn)
              have HB5 := Lib.hid (HOUTS.out.kept hn)
              have NW5 := Lib.hid (HNW.out.trans hn)
              have hcell := hn.cell hcell id
              clear hn
              go_wp2_with (go_at_call 9; fail)
              refine refRun_any w5.heap.size _ _ l u size _ _ HOP5.out HU5.out (Nat.le_refl _) ?_ (by intro w' v' o' st he; rw [E1.out] at he; cases he)
              intro w6 x' he hn
              rw [E1.out] at he
              cases he
              have HOR6 := Lib.hid ((HOR5.out.kept hn nof).hi hn.size)
              have HAR6 := Lib.hid ((HAR5.out.kept hn nof).hi hn.size)
              have HA6 := Lib.hid (HA5.out.kept hn)
              have HB6 := Lib.hid (HB5.out.kept hn)
              have NW6 := Lib.hid (NW5.out.trans hn)
              clear hn
              go_wp2_with (go_at_call 9; fail)
              refine Same_true w6.heap.size _ _ [] _ _ (isOut_nil _ _) (isOut_nil _ _) ?_
              intro d
              go_wp2
              refine ⟨⟨i + 1, rfl, by omega, HA6.out.kept ((Ch.refl _ _).drewN _), HB6.out.kept ((Ch.refl _ _).drewN _), HOR6.out.kept ((Ch.refl (fun _ => False) _).drewN _) nof, HAR6.out.kept ((Ch.refl (fun _ => False) _).drewN _) nof, NW6.out.drewN _⟩, ?_⟩
              simp [intOf]; omega
            | ok r =>
              obtain ⟨a, n⟩ := r
              have E1 := Lib.hid he0
              clear he0
              have hx0 : (n != n) = false := by simp
              go_wp2_with (go_at_call 9; fail)
              refine Run_any wr.heap.size _ _ l u size _ _ HOPS.out HU.out (Nat.le_refl _) (by intro w' x he; rw [E1.out] at he; cases he) ?_
              intro w5 va oa' sa he hout hn
              rw [E1.out] at he
              injection he with he
              injection he with he1 he2
              subst he1 he2
              have HA := Lib.hid hout
              have HOP5 := Lib.hid ((HOPS.out.kept hn nof).hi hn.size)
              have HU5 := Lib.hid ((HU.out.kept hn nof).hi hn.size)
              have HOR5 := Lib.hid ((HOR.out.kept hn nof).hi hn.size)
              have HAR5 := Lib.hid ((HAR.out.kept hn nof).hi hn.size)
              have HA5 := Lib.hid (HALL.out.kept hn)
              have HB5 := Lib.hid (HOUTS.out.kept hn)
              have NW5 := Lib.hid (HNW.out.trans hn)
              have hcell := hn.cell hcell id
              clear hn hout
              go_wp2_with (go_at_call 9; fail)
              refine refRun_any w5.heap.size _ _ l u size _ _ HOP5.out HU5.out (Nat.le_refl _) (by intro w' x he; rw [E1.out] at he; cases he) ?_
              intro w6 vb ob sb he hout hn
              rw [E1.out] at he
              injection he with he
              injection he with he1 he2
              subst he1 he2
              have HB := Lib.hid hout
              have HAA := Lib.hid ((HA.out.kept hn nof).hi hn.size)
              have HOR6 := Lib.hid ((HOR5.out.kept hn nof).hi hn.size)
              have HAR6 := Lib.hid ((HAR5.out.kept hn nof).hi hn.size)
              have HA6 := Lib.hid (HA5.out.kept hn)
              have HB6 := Lib.hid (HB5.out.kept hn)
              have NW6 := Lib.hid (NW5.out.trans hn)
              clear hn hout
              go_wp2_with (go_at_call 9; fail)
              refine Same_true w6.heap.size _ _ a _ _ HAA.out HB.out ?_
              intro d
              go_wp2
              refine ⟨⟨i + 1, rfl, by omega, HA6.out.kept ((Ch.refl _ _).drewN _), HB6.out.kept ((Ch.refl _ _).drewN _), HOR6.out.kept ((Ch.refl (fun _ => False) _).drewN _) nof, HAR6.out.kept ((Ch.refl (fun _ => False) _).drewN _) nof, NW6.out.drewN _⟩, ?_⟩
              simp [intOf]; omega
          · have i1 : ¬ (i : Int) < 2 := by omega
            go_wp2
            refine ⟨⟨k + 1, rfl, by omega, HALL.out, HOR.out, HAR.out, HNW.out⟩, ?_⟩
            simp [intOf]; omega
      · have k1 : ¬ (k : Int) < 4 := by omega
        go_wp2
        exact HR.out _ HNW.out
end Go.Proofs.Ytlgcijafjcfnhaa
