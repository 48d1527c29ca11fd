/-
  verify.block: what it computes is V.
-/
import Derived.Test.YtdpbdcaefdcooaaGreatDoorVForm
import Derived.StillTailTactics
import Derived.Deep.RegionHeld3
import Derived.Deep.RegionLaw
import Derived.Deep.AppendLies
import Derived.Deep.DrawnRows
import Derived.Deep.DeepCutAuto
import Derived.Deep.CutBlock
import Derived.Outline
import Derived.WalkMore
import Derived.ScopeJumps
namespace Go.Proofs.YtdpbdcaefdcooaaGreatDoor
open Go.RowKit
attribute [local go_sem ↓] Go.wp_at_zero Go.wp_at_succ
set_option linter.unusedVariables false
set_option linter.unusedSimpArgs false

/-- The slice v is the program l, in blocks below lo. -/
def IsProg (w : World) (lo : Nat) (v : Value) (l : List VOp) : Prop :=
  ∃ A cap, v = .slice A l.length cap ∧ l.length ≤ cap ∧ cap ≤ 9223372036854775807 ∧ ∀ i c n m, l[i]? = some (c, n, m) →
    ∃ pk po, pk < lo ∧ A = some ⟨pk, po, none⟩ ∧ w.cell? ⟨pk, po + i * 3, none⟩ = some (.int .i64 c) ∧ w.cell? ⟨pk, po + i * 3 + 1, none⟩ = some (.int .i64 n) ∧ w.cell? ⟨pk, po + i * 3 + 2, none⟩ = some (.int .i64 m)
theorem IsProg.kept {w w' : World} {lo : Nat} {p : Value} {l : List VOp} {F : Nat → Prop} (h : IsProg w lo p l) (hc : Ch F w w') (hF : ∀ k, k < lo → ¬ F k) : IsProg w' lo p l := by
  obtain ⟨A, cap, e, hl, hm, h⟩ := h
  refine ⟨A, cap, e, hl, hm, fun i c n m hi => ?_⟩
  obtain ⟨pk, po, hk, ea, h0, h1, h2⟩ := h i c n m hi
  exact ⟨pk, po, hk, ea, hc.cell h0 (hF _ hk), hc.cell h1 (hF _ hk), hc.cell h2 (hF _ hk)⟩

/-- Block b holds a verifier. -/
def IsVer (w : World) (b : Nat) (np : Int) (s : VS) : Prop :=
  ∃ v, w.heap[b]? = some (.cells #[.int .i64 np, .int .i64 s.h, .int .i64 s.d, v] 53 (0, 0)) ∧ w.ownsRow (b + 1) 3 1 v s.r.length (s.r.map (Value.int .i64))

theorem vrow_ch {w w' : World} {F : Nat → Prop} {base size n : Nat} {e : TypeId} {v : Value} {xs : List Value} (h : w.ownsRow base e size v n xs) (hc : Ch F w w') (hF : ∀ k, v.ownBlock = some k → ¬ F k) : w'.ownsRow base e size v n xs := by
  refine ⟨h.1, ?_⟩
  rcases h.2 with hn | ⟨g, cap, cur, rfl, hb, hgg, rest⟩
  · exact .inl hn
  · exact .inr ⟨g, cap, cur, rfl, hb, hc.heap hgg (hF g rfl), rest⟩
theorem vwp_name {P : Program} {c : Code} {Q : Exit → Act → World → Prop} {a : Act} {w : World} (h : ∀ W, W = w → Code.wp P c Q a W) : Code.wp P c Q a w := h _ rfl
theorem vinfo_int : (Tryz.prog.info? 3).map (fun i => (i.zero, i.size, i.bytes)) = some (some (.int .i64 0), 1, 8) := by kernel_rfl
theorem V_err_ne {np a x : Int} {L : List VOp} {nest : Nat} {v : VS} (h : V np L nest a v = .error x) : x ≠ 0 := vb_err_ne np _ L nest a v x h
theorem vcost {r k : Int} {ln nest : Nat} (hr : 1 ≤ r ∧ r ≤ 16) (hk : 0 ≤ k) (hb : k ≤ ln * vmax (nest + 1)) (hn : nest < 3) : 0 ≤ r * k ∧ r * k ≤ ln * 4096 := by
  have h1 : r * k ≤ 16 * k := Int.mul_le_mul_of_nonneg_right hr.2 hk
  have h2 : 0 ≤ r * k := Int.mul_nonneg (by omega) hk
  refine ⟨h2, ?_⟩
  obtain rfl | rfl | rfl : nest = 0 ∨ nest = 1 ∨ nest = 2 := by omega
  all_goals
    simp only [vmax] at hb
    omega
theorem vcost1 {k : Int} {ln nest : Nat} (hk : 0 ≤ k) (hb : k ≤ ln * vmax (nest + 1)) (hn : nest < 3) : k ≤ ln * 256 := by
  obtain rfl | rfl | rfl : nest = 0 ∨ nest = 1 ∨ nest = 2 := by omega
  all_goals
    simp only [vmax] at hb
    omega
theorem IsProg.sub {w : World} {lo pk po cap i ln : Nat} {L : List VOp} (h : IsProg w lo (.slice (some ⟨pk, po, none⟩) L.length cap) L) (hl : i + ln ≤ L.length) : IsProg w lo (.slice (some ⟨pk, po + i * 3, none⟩) ln (cap - i)) ((L.drop i).take ln) := by
  obtain ⟨A, cap', e, h1, h2, h⟩ := h
  injection e with e1 e2 e3
  subst e1 e3
  have hlen : ((L.drop i).take ln).length = ln := by rw [List.length_take, List.length_drop]; omega
  refine ⟨_, _, by rw [hlen], by rw [hlen]; omega, by omega, fun j c n m hj => ?_⟩
  rw [List.getElem?_take] at hj
  split at hj
  · rw [List.getElem?_drop] at hj
    obtain ⟨pk', po', g1, g2, g3, g4, g5⟩ := h _ c n m hj
    injection g2 with g2
    injection g2 with g2 g2'
    subst g2 g2'
    refine ⟨pk, po + i * 3, g1, rfl, ?_, ?_, ?_⟩
    · rw [show po + i * 3 + j * 3 = po + (i + j) * 3 from by omega]; exact g3
    · rw [show po + i * 3 + j * 3 = po + (i + j) * 3 from by omega]; exact g4
    · rw [show po + i * 3 + j * 3 = po + (i + j) * 3 from by omega]; exact g5
  · cases hj
theorem vtakes_le (c : Int) : vtakes c ≤ 2 := by unfold vtakes; split <;> (try split) <;> decide
theorem vputs_le (c : Int) : vputs c ≤ 1 := by unfold vputs; split <;> decide
theorem vchk_rest {c n m np : Int} {room nest h : Nat} (hf : vform c n m) (hl : c = 15 → 1 ≤ n ∧ n ≤ 16) (hb : 14 ≤ c → (1 ≤ vlen c n m ∧ vlen c n m < (room : Int)) ∧ nest ≠ 3) : vchk c n m room nest np h = if (10 ≤ c ∧ c ≤ 13) ∧ (n < 0 ∨ np ≤ n) then some 22 else if h < vtakes c ∨ 8 < h - vtakes c + vputs c then some 20 else none := by
  unfold vchk
  rw [if_neg (by rintro (h | h); exact h hf; omega), if_neg (by rintro ⟨a, b⟩; have := hb a; omega), if_neg (by rintro ⟨a, b⟩; have := hb a; omega)]
theorem vchk_len {c n m np : Int} {room nest h : Nat} (hf : vform c n m) (hl : c = 15 → 1 ≤ n ∧ n ≤ 16) (h14 : 14 ≤ c) (hb : vlen c n m < 1 ∨ (room : Int) ≤ vlen c n m) : vchk c n m room nest np h = some 5 := by
  unfold vchk
  rw [if_neg (by rintro (h | h); exact h hf; omega), if_pos ⟨h14, hb⟩]
theorem vchk_nest {c n m np : Int} {room nest h : Nat} (hf : vform c n m) (hl : c = 15 → 1 ≤ n ∧ n ≤ 16) (h14 : 14 ≤ c) (hb : 1 ≤ vlen c n m ∧ vlen c n m < (room : Int)) (hn : nest = 3) : vchk c n m room nest np h = some 20 := by
  unfold vchk
  rw [if_neg (by rintro (h | h); exact h hf; omega), if_neg (by omega), if_pos ⟨h14, hn⟩]
theorem KindsOk.int {w : World} (h : KindsOk w) {c : Int} (h1 : 1 ≤ c) (h2 : c ≤ 15) : ∃ s, w.cell? ⟨0, c.toNat * 5, none⟩ = some (.string s) ∧ w.cell? ⟨0, c.toNat * 5 + 1, none⟩ = some (.bool (kN c.toNat)) ∧ w.cell? ⟨0, c.toNat * 5 + 2, none⟩ = some (.bool (kM c.toNat)) ∧
    w.cell? ⟨0, c.toNat * 5 + 3, none⟩ = some (.int .i64 (vtakes c)) ∧ w.cell? ⟨0, c.toNat * 5 + 4, none⟩ = some (.int .i64 (vputs c)) := by
  have := h c.toNat (by omega) (by omega)
  rwa [show ((c.toNat : Nat) : Int) = c from by omega] at this
theorem IsVer.kept {w w' : World} {b : Nat} {np : Int} {s : VS} {F : Nat → Prop} (h : IsVer w b np s) (hc : Ch F w w') (hF : ∀ k, b ≤ k → k < w.heap.size → ¬ F k) : IsVer w' b np s := by
  obtain ⟨v, h1, h2⟩ := h
  exact ⟨v, hc.heap h1 (hF _ (Nat.le_refl _) (lt_of_heap h1)), vrow_ch h2 hc (fun k hk => hF k (by have := (h2.lt k hk).1; omega) (h2.lt k hk).2)⟩

set_option maxRecDepth 100000 in
set_option maxHeartbeats 8000000 in
theorem block_any (np : Int) (lo b N : Nat) (hlo : lo ≤ b) : ∀ (L : List VOp) (nest : Nat) (p : Value) (s : VS) (w : World) (R : Ending → World → Prop), L.length < N → IsProg w lo p L → L.length ≤ 64 → nest ≤ 3 → IsVer w b np s → KindsOk w → 0 < lo →
    s.h ≤ 8 → s.d ≤ 8 → s.r.length + L.length ≤ 64 →
    (∀ w' k x, V np L nest 0 s = .error x → Ch (fun j => b ≤ j) w w' → R (.returned (.tuple #[.int .i64 k, .int .i64 x])) w') →
    (∀ w' k s', V np L nest 0 s = .ok (k, s') → IsVer w' b np s' → Ch (fun j => b ≤ j) w w' → R (.returned (.tuple #[.int .i64 k, .int .i64 0])) w') →
    Calls Tryz.prog 21 #[.pointer (some ⟨b, 0, none⟩), p, .int .i64 nest] w R := by
  induction N with
  | zero => intro L nest p s w R hN; omega
  | succ N ih =>
  intro L nest p s w R hN hp h64 hn3 hv hk hlo0 hh hd hr hE hK
  have IH := Lib.hid ih
  have HE := Lib.hid hE
  have HK := Lib.hid hK
  have HP := Lib.hid hp
  have HVR := Lib.hid hv
  have HKD := Lib.hid hk
  obtain ⟨A, cap, rfl, hl1, hl2, hel⟩ := hp
  have HEL := Lib.hid hel
  clear ih hE hK hv hk hel
  have hmf : ∀ (fn : Fn) (first cap : Array Value) (w : World), (Instr.makeFunc fn first cap).run Tryz.prog w = .ok (.func fn first cap) w := fun _ _ _ _ => rfl
  go_enter Tryz.func21, Tryz.ntmps21
  go_wp2_with fail
  go_step3
  go_wp2_with fail
  go_step3
  go_wp2_with fail
  go_loopw [8, 9, 11] (fun s8 s9 s11 wr => ∃ (i : Nat) (a : Int) (s' : VS), s8 = .int .i64 a ∧ s9 = .int .i64 0 ∧ s11 = .int .i64 i ∧ i ≤ L.length ∧ (0 ≤ a ∧ a ≤ i * 4096) ∧ V np L nest 0 s = V np (L.drop i) nest a s' ∧ IsVer wr b np s' ∧ s'.h ≤ 8 ∧ s'.d ≤ 8 ∧ s'.r.length ≤ s.r.length + i ∧ Ch (fun j => b ≤ j) w wr) (fun _ _ s11 _ => L.length - (intOf s11).toNat)
  case atStart => exact ⟨0, 0, s, rfl, rfl, rfl, Nat.zero_le _, by omega, rfl, HVR.out, hh, hd, by omega, Ch.refl _ _⟩
  case round =>
    obtain ⟨i, a, s1, rfl, rfl, rfl, hi, ⟨ha0, ha1⟩, hV, hver, hh1, hd1, hr1, hch⟩ := hrel
    have HV := Lib.hid hV
    have HVER := Lib.hid hver
    have HCH := Lib.hid hch
    clear hV hver hch
    have i0 : (0 : Int) ≤ (i : Int) := by omega
    by_cases hlt : i < L.length
    · have i1 : (i : Int) < (L.length : Int) := by omega
      obtain ⟨⟨c, n, m⟩, hq⟩ : ∃ q, L[i]? = some q := ⟨_, List.getElem?_eq_getElem hlt⟩
      have hdrop : L.drop i = (c, n, m) :: L.drop (i + 1) := by
        rw [List.drop_eq_getElem_cons hlt]
        congr 1
        rw [List.getElem?_eq_getElem hlt] at hq
        exact Option.some.inj hq
      obtain ⟨pk, po, hpk, rfl, c0, c1, c2⟩ := HEL.out i c n m hq
      have hb0 : ¬ b ≤ pk := by omega
      have c0 := HCH.out.cell c0 hb0
      have c1 := HCH.out.cell c1 hb0
      have c2 := HCH.out.cell c2 hb0
      have HDROP := Lib.hid hdrop
      have HKW := Lib.hid (HKD.out.kept HCH.out (show ¬ b ≤ 0 by omega))
      clear hq hdrop
      go_upto_region 6 with fail
      go_cut [48] (fun s48 wx => ∃ B : Bool, s48 = .bool B ∧ (B = true ↔ (¬ vform c n m ∨ (c = 15 ∧ (n < 1 ∨ 16 < n)))) ∧ Nw (wr.alloc (.cells #[.int .i64 c, .int .i64 n, .int .i64 m] 49)) wx)
      case first => as_aux_lemma =>
        have KA := Lib.hid (HKW.out.kept ((Ch.refl (fun _ => False) wr).alloc (.cells #[.int .i64 c, .int .i64 n, .int .i64 m] 49)) id)
        by_cases hf : vform c n m
        · have HF : ∀ (w : World) (R : Ending → World → Prop), KindsOk w → (∀ w', Nw w w' → R (.returned (.bool true)) w') → Calls Tryz.prog 26 #[.agg #[.int .i64 c, .int .i64 n, .int .i64 m]] w R := fun w R hk h => formed_any c n m w R hk (by rw [decide_eq_true hf]; exact h)
          have HFT := Lib.hid HF
          have HVF := Lib.hid hf
          clear HF hf
          by_cases h15 : c = 15
          · have t15 : (c == 15) = true := by simp [h15]
            have H15 := Lib.hid h15
            clear h15
            obtain h | ⟨h1, h2⟩ | h : n < 1 ∨ (1 ≤ n ∧ n ≤ 16) ∨ 16 < n := by omega
            all_goals
              go_wp2_with (go_at_call 26; refine HFT.out _ _ (by exact KA.out) ?_; intro w1 hn; (have k0 : w1.cell? ⟨wr.heap.size, 0, none⟩ = some (.int .i64 c) := hn.cell (cell_alloc_new rfl rfl) id); (have k1 : w1.cell? ⟨wr.heap.size, 1, none⟩ = some (.int .i64 n) := hn.cell (cell_alloc_new rfl rfl) id); (have N1 := Lib.hid hn); clear hn)
              go_meet
              refine ⟨_, rfl, ?_, N1.out⟩
              have v := HVF.out
              have e := H15.out
              constructor
              · intro h; first | (cases h; done) | (refine .inr ⟨e, ?_⟩; first | omega | (simp at h; omega))
              · intro h; first | rfl | (rcases h with h | ⟨h, h'⟩ <;> first | exact absurd v h | (exfalso; omega) | (simp; omega))
          · have t15 : (c == 15) = false := by simp [h15]
            have H15 := Lib.hid h15
            clear h15
            go_wp2_with (go_at_call 26; refine HFT.out _ _ (by exact KA.out) ?_; intro w1 hn; (have k0 : w1.cell? ⟨wr.heap.size, 0, none⟩ = some (.int .i64 c) := hn.cell (cell_alloc_new rfl rfl) id); (have k1 : w1.cell? ⟨wr.heap.size, 1, none⟩ = some (.int .i64 n) := hn.cell (cell_alloc_new rfl rfl) id); (have N1 := Lib.hid hn); clear hn)
            go_meet
            refine ⟨_, rfl, ?_, N1.out⟩
            have v := HVF.out
            have e := H15.out
            constructor
            · intro h; first | (cases h; done) | (refine .inr ⟨e, ?_⟩; first | omega | (simp at h; omega))
            · intro h; first | rfl | (rcases h with h | ⟨h, h'⟩ <;> first | exact absurd v h | (exfalso; omega) | (simp; omega))
        · have HF : ∀ (w : World) (R : Ending → World → Prop), KindsOk w → (∀ w', Nw w w' → R (.returned (.bool false)) w') → Calls Tryz.prog 26 #[.agg #[.int .i64 c, .int .i64 n, .int .i64 m]] w R := fun w R hk h => formed_any c n m w R hk (by rw [decide_eq_false hf]; exact h)
          have HFT := Lib.hid HF
          have HVF := Lib.hid hf
          clear HF hf
          go_wp2_with (go_at_call 26; refine HFT.out _ _ (by exact KA.out) ?_; intro w1 hn; (have N1 := Lib.hid hn); clear hn)
          go_meet
          exact ⟨_, rfl, ⟨fun _ => .inl HVF.out, fun _ => rfl⟩, N1.out⟩
      case rest => as_aux_lemma =>
        obtain ⟨B, rfl, hB, hn⟩ := hcut
        obtain ⟨W1, rfl⟩ : ∃ W : World, W = wc := ⟨_, rfl⟩
        have HB := Lib.hid hB
        have C1 := Lib.hid (HCH.out.trans (((Ch.refl (fun j => b ≤ j) wr).alloc (.cells #[.int .i64 c, .int .i64 n, .int .i64 m] 49)).trans' hn (fun _ _ e => e.elim)))
        have hbw : b < wr.heap.size := by obtain ⟨v, h1, -⟩ := HVER.out; exact lt_of_heap h1
        have N1 := Lib.hid (((Ch.refl (fun _ => False) wr).alloc (.cells #[.int .i64 c, .int .i64 n, .int .i64 m] 49)).trans hn)
        have k0 : W1.cell? ⟨wr.heap.size, 0, none⟩ = some (.int .i64 c) := hn.cell (cell_alloc_new rfl rfl) id
        have k1 : W1.cell? ⟨wr.heap.size, 1, none⟩ = some (.int .i64 n) := hn.cell (cell_alloc_new rfl rfl) id
        have k2 : W1.cell? ⟨wr.heap.size, 2, none⟩ = some (.int .i64 m) := hn.cell (cell_alloc_new rfl rfl) id
        have kl : wr.heap.size < W1.heap.size := by have := hn.size; simp at this; omega
        clear hB hn
        cases B with
        | true => as_aux_lemma =>
          have HBAD := Lib.hid (HB.out.1 rfl)
          clear HB
          go_wp2
          refine HE.out _ a 5 ?_ C1.out
          rw [HV.out, HDROP.out]
          exact V_bad (by unfold vchk; rw [if_pos HBAD.out])
        | false => as_aux_lemma =>
          have hnb := mt HB.out.2 (by simp)
          have hvf : vform c n m := Decidable.byContradiction fun h => hnb (.inl h)
          have hlp : c = 15 → 1 ≤ n ∧ n ≤ 16 := by omega
          have HVF := Lib.hid hvf
          have HLP := Lib.hid hlp
          have hc1 : 1 ≤ c := hvf.1.1
          have hc15 : c ≤ 15 := hvf.1.2
          clear hnb hvf hlp HB
          go_upto_block 2 with fail
          go_cut [13] (fun s13 wx => s13 = .int .i64 (vlen c n m) ∧ W1 = wx)
          case first => as_aux_lemma =>
            obtain h | h | ⟨h, h'⟩ : c = 14 ∨ c = 15 ∨ (c ≠ 14 ∧ c ≠ 15) := by omega
            · have t14 : (c == 14) = true := by simp [h]
              have H := Lib.hid h
              clear h
              go_wp2
              go_meet
              exact ⟨congrArg (Value.int .i64) (by rw [H.out]; rfl), rfl⟩
            · have t14 : (c == 14) = false := by simp [h]
              have t15 : (c == 15) = true := by simp [h]
              have H := Lib.hid h
              clear h
              go_wp2
              go_meet
              exact ⟨congrArg (Value.int .i64) (by rw [H.out]; rfl), rfl⟩
            · have t14 : (c == 14) = false := by simp [h]
              have t15 : (c == 15) = false := by simp [h']
              have H := Lib.hid h
              have H' := Lib.hid h'
              clear h h'
              go_wp2
              go_meet
              exact ⟨congrArg (Value.int .i64) (by unfold vlen; rw [if_neg H.out, if_neg H'.out]), rfl⟩
          case rest => as_aux_lemma =>
            obtain ⟨rfl, rfl⟩ := hcut
            obtain ⟨str, kd0, kd1, kd2, kd3, kd4⟩ := (HKW.out.kept N1.out id).int hc1 hc15
            have kz : (0 : Int) ≤ c := by omega
            have kz1 : c < 16 := by omega
            have kz2 : 0 < W1.heap.size := by omega
            obtain ⟨vr, hvb, hvo⟩ := id HVER.out
            have hvo0 := Lib.hid hvo
            clear hvo
            have f0 : W1.cell? ⟨b, 0, none⟩ = some (.int .i64 np) := N1.out.cell (a := ⟨b, 0, none⟩) (by rw [cell_of hvb]; rfl) id
            have f1 : W1.cell? ⟨b, 1, none⟩ = some (.int .i64 s1.h) := N1.out.cell (a := ⟨b, 1, none⟩) (by rw [cell_of hvb]; rfl) id
            have lw : wr.heap.size < W1.heap.size := by omega
            have g0 := cell_alloc_old (.cells #[.string str, .bool (kN c.toNat), .bool (kM c.toNat), .int .i64 (vtakes c), .int .i64 (vputs c)] 66) f0
            have g1 := cell_alloc_old (.cells #[.string str, .bool (kN c.toNat), .bool (kM c.toNat), .int .i64 (vtakes c), .int .i64 (vputs c)] 66) f1
            have gc := cell_alloc_old (.cells #[.string str, .bool (kN c.toNat), .bool (kM c.toNat), .int .i64 (vtakes c), .int .i64 (vputs c)] 66) k0
            have g2 := cell_alloc_old (.cells #[.string str, .bool (kN c.toNat), .bool (kM c.toNat), .int .i64 (vtakes c), .int .i64 (vputs c)] 66) k1
            have gm := cell_alloc_old (.cells #[.string str, .bool (kN c.toNat), .bool (kM c.toNat), .int .i64 (vtakes c), .int .i64 (vputs c)] 66) k2
            have g3 : (W1.alloc (.cells #[.string str, .bool (kN c.toNat), .bool (kM c.toNat), .int .i64 (vtakes c), .int .i64 (vputs c)] 66)).cell? ⟨W1.heap.size, 3, none⟩ = some (.int .i64 (vtakes c)) := cell_alloc_new rfl rfl
            have g4 : (W1.alloc (.cells #[.string str, .bool (kN c.toNat), .bool (kM c.toNat), .int .i64 (vtakes c), .int .i64 (vputs c)] 66)).cell? ⟨W1.heap.size, 4, none⟩ = some (.int .i64 (vputs c)) := cell_alloc_new rfl rfl
            have HVB := Lib.hid hvb
            clear hvb
            go_upto_block 3 with fail
            go_cut [9, 15] (fun s9 s15 wx => ∃ x : Int, s9 = .int .i64 x ∧ s15 = .bool (decide (14 ≤ c)) ∧ ((x = 0 ∧ vchk c n m ((L.drop (i + 1)).length + 1) nest np s1.h = none) ∨ (x ≠ 0 ∧ vchk c n m ((L.drop (i + 1)).length + 1) nest np s1.h = some x)) ∧ Nw (W1.alloc (.cells #[.string str, .bool (kN c.toNat), .bool (kM c.toNat), .int .i64 (vtakes c), .int .i64 (vputs c)] 66)) wx)
            case first =>
              have hroom : (L.drop (i + 1)).length + 1 = L.length - i := by rw [List.length_drop]; omega
              have HROOM := Lib.hid hroom
              clear hroom
              obtain ⟨h14, hl⟩ | ⟨h14, hl, hl'⟩ | ⟨h14, hl, hl', hn'⟩ | h14 | ⟨h14, hl, hl', hn'⟩ : (14 ≤ c ∧ vlen c n m < 1) ∨ (14 ≤ c ∧ 1 ≤ vlen c n m ∧ (L.length : Int) - i - 1 < vlen c n m) ∨ (14 ≤ c ∧ 1 ≤ vlen c n m ∧ vlen c n m ≤ (L.length : Int) - i - 1 ∧ nest = 3) ∨ c < 14 ∨ (14 ≤ c ∧ 1 ≤ vlen c n m ∧ vlen c n m ≤ (L.length : Int) - i - 1 ∧ nest < 3) := by omega
              · as_aux_lemma =>
                have b14 : decide (14 ≤ c) = true := by simp; omega
                have B14 := Lib.hid b14
                have d1 : decide (vlen c n m < 1) = true := by simp; omega
                go_wp2
                go_meet
                exact ⟨_, rfl, (congrArg Value.bool B14.out).symm, .inr ⟨by decide, vchk_len HVF.out HLP.out h14 (.inl hl)⟩, Ch.refl _ _⟩
              · as_aux_lemma =>
                have b14 : decide (14 ≤ c) = true := by simp; omega
                have B14 := Lib.hid b14
                have d1 : decide (vlen c n m < 1) = false := by simp; omega
                have d2 : decide ((L.length : Int) - i - 1 < vlen c n m) = true := by simp; omega
                go_wp2
                go_meet
                exact ⟨_, rfl, (congrArg Value.bool B14.out).symm, .inr ⟨by decide, vchk_len HVF.out HLP.out h14 (.inr (by rw [HROOM.out]; omega))⟩, Ch.refl _ _⟩
              · as_aux_lemma =>
                have b14 : decide (14 ≤ c) = true := by simp; omega
                have B14 := Lib.hid b14
                have d1 : decide (vlen c n m < 1) = false := by simp; omega
                have d2 : decide ((L.length : Int) - i - 1 < vlen c n m) = false := by simp; omega
                have d3 : ((nest : Int) == 3) = true := by simp; omega
                have HN3 := Lib.hid hn'
                clear hn'
                go_wp2
                go_meet
                exact ⟨_, rfl, (congrArg Value.bool B14.out).symm, .inr ⟨by decide, vchk_nest HVF.out HLP.out h14 ⟨hl, by rw [HROOM.out]; omega⟩ HN3.out⟩, Ch.refl _ _⟩
              · as_aux_lemma =>
                have b14 : decide (14 ≤ c) = false := by simp; omega
                have B14 := Lib.hid b14
                have hblk : 14 ≤ c → (1 ≤ vlen c n m ∧ vlen c n m < (((L.drop (i + 1)).length + 1 : Nat) : Int)) ∧ nest ≠ 3 := by omega
                have HBLK := Lib.hid hblk
                clear hblk
                go_upto_region 19 with fail
                go_cut [87] (fun s87 wy => ∃ B : Bool, s87 = .bool B ∧ (B = true ↔ ((10 ≤ c ∧ c ≤ 13) ∧ (n < 0 ∨ np ≤ n))) ∧ Nw (W1.alloc (.cells #[.string str, .bool (kN c.toNat), .bool (kM c.toNat), .int .i64 (vtakes c), .int .i64 (vputs c)] 66)) wy)
                case first =>
                  obtain h10 | ⟨h10, hx⟩ | ⟨h10, hx1, hx2⟩ | ⟨h10, hx1, hx2⟩ : c < 10 ∨ (10 ≤ c ∧ n < 0) ∨ (10 ≤ c ∧ 0 ≤ n ∧ np ≤ n) ∨ (10 ≤ c ∧ 0 ≤ n ∧ n < np) := by omega
                  · as_aux_lemma =>
                    have HP1 : ∀ (w : World) (R : Ending → World → Prop), (∀ w', Nw w w' → R (.returned (.bool false)) w') → Calls Tryz.prog 39 #[.agg #[.int .i64 c, .int .i64 n, .int .i64 m]] w R := fun w R h => point_any c n m w R (by first | (rw [decide_eq_false (by omega)]; exact h) | (rw [decide_eq_true (by omega)]; exact h))
                    have HPT := Lib.hid HP1
                    clear HP1
                    refine wp_region_held_drew (S := fun w' => w'.cell? ⟨wr.heap.size, 0, none⟩ = some (.int .i64 c) ∧ w'.cell? ⟨wr.heap.size, 1, none⟩ = some (.int .i64 n) ∧ w'.cell? ⟨wr.heap.size, 2, none⟩ = some (.int .i64 m) ∧ w'.cell? ⟨b, 0, none⟩ = some (.int .i64 np)) (by kernel_rfl) ⟨gc, g2, gm, g0⟩ (fun hHeld => ?_)
                    first | (refine wpAnyH_take (i := 0) (v := ?_) rfl (by kernel_rfl) (by kernel_rfl) (by kernel_rfl) (fun _ _ _ h => h) (Or.inl ⟨by rfl, ?hy⟩) (by assumption) ?_; case hy => (intro w hSw; (try dsimp only at hSw); go_simp; (try with_reducible rfl))) | (refine wpAnyH_take (i := 0) (v := _) rfl (by kernel_rfl) (by kernel_rfl) (by kernel_rfl) (fun _ _ _ h => h) (Or.inr ⟨by rfl, rfl⟩) (by assumption) ?_)
                    try simp only [Act.put, List.getElem_toArray, List.getElem_cons_succ, List.getElem_cons_zero, List.setIfInBounds_toArray, List.set_cons_zero, List.set_cons_succ]
                    refine wpAnyH_ready (rs := [1]) (by kernel_rfl) (by simp) ?_
                    refine AllReadyH.cons rfl (fun K hK => ?_) AllReadyH.nil
                    go_simp
                    go_at_call 39
                    refine HPT.out _ _ ?_
                    intro w2 hn
                    refine hK.out _ _ ⟨hn.cell gc id, hn.cell g2 id, hn.cell gm id, hn.cell g0 id⟩ (fun hHeld2 => ?_)
                    clear hK K
                    first | (refine wpAnyH_take (i := 2) (v := ?_) rfl (by kernel_rfl) (by kernel_rfl) (by kernel_rfl) (fun _ _ _ h => h) (Or.inl ⟨by rfl, ?hy⟩) (by assumption) ?_; case hy => (intro w hSw; (try dsimp only at hSw); go_simp; (try with_reducible rfl))) | (refine wpAnyH_take (i := 2) (v := _) rfl (by kernel_rfl) (by kernel_rfl) (by kernel_rfl) (fun _ _ _ h => h) (Or.inr ⟨by rfl, rfl⟩) (by assumption) ?_)
                    try simp only [Act.put, List.getElem_toArray, List.getElem_cons_succ, List.getElem_cons_zero, List.setIfInBounds_toArray, List.set_cons_zero, List.set_cons_succ]
                    first | (refine wpAnyH_take (i := 3) (v := ?_) rfl (by kernel_rfl) (by kernel_rfl) (by kernel_rfl) (fun _ _ _ h => h) (Or.inl ⟨by rfl, ?hy⟩) (by assumption) ?_; case hy => (intro w hSw; (try dsimp only at hSw); go_simp; (try with_reducible rfl))) | (refine wpAnyH_take (i := 3) (v := _) rfl (by kernel_rfl) (by kernel_rfl) (by kernel_rfl) (fun _ _ _ h => h) (Or.inr ⟨by rfl, rfl⟩) (by assumption) ?_)
                    try simp only [Act.put, List.getElem_toArray, List.getElem_cons_succ, List.getElem_cons_zero, List.setIfInBounds_toArray, List.set_cons_zero, List.set_cons_succ]
                    first | (refine wpAnyH_take (i := 4) (v := ?_) rfl (by kernel_rfl) (by kernel_rfl) (by kernel_rfl) (fun _ _ _ h => h) (Or.inl ⟨by rfl, ?hy⟩) (by assumption) ?_; case hy => (intro w hSw; (try dsimp only at hSw); go_simp; (try with_reducible rfl))) | (refine wpAnyH_take (i := 4) (v := _) rfl (by kernel_rfl) (by kernel_rfl) (by kernel_rfl) (fun _ _ _ h => h) (Or.inr ⟨by rfl, rfl⟩) (by assumption) ?_)
                    try simp only [Act.put, List.getElem_toArray, List.getElem_cons_succ, List.getElem_cons_zero, List.setIfInBounds_toArray, List.set_cons_zero, List.set_cons_succ]
                    first | (refine wpAnyH_take (i := 5) (v := ?_) rfl (by kernel_rfl) (by kernel_rfl) (by kernel_rfl) (fun _ _ _ h => h) (Or.inl ⟨by rfl, ?hy⟩) (by assumption) ?_; case hy => (intro w hSw; (try dsimp only at hSw); go_simp; (try with_reducible rfl))) | (refine wpAnyH_take (i := 5) (v := _) rfl (by kernel_rfl) (by kernel_rfl) (by kernel_rfl) (fun _ _ _ h => h) (Or.inr ⟨by rfl, rfl⟩) (by assumption) ?_)
                    try simp only [Act.put, List.getElem_toArray, List.getElem_cons_succ, List.getElem_cons_zero, List.setIfInBounds_toArray, List.set_cons_zero, List.set_cons_succ]
                    first | (refine wpAnyH_take (i := 6) (v := ?_) rfl (by kernel_rfl) (by kernel_rfl) (by kernel_rfl) (fun _ _ _ h => h) (Or.inl ⟨by rfl, ?hy⟩) (by assumption) ?_; case hy => (intro w hSw; (try dsimp only at hSw); go_simp; (try with_reducible rfl))) | (refine wpAnyH_take (i := 6) (v := _) rfl (by kernel_rfl) (by kernel_rfl) (by kernel_rfl) (fun _ _ _ h => h) (Or.inr ⟨by rfl, rfl⟩) (by assumption) ?_)
                    try simp only [Act.put, List.getElem_toArray, List.getElem_cons_succ, List.getElem_cons_zero, List.setIfInBounds_toArray, List.set_cons_zero, List.set_cons_succ]
                    first | (refine wpAnyH_take (i := 7) (v := ?_) rfl (by kernel_rfl) (by kernel_rfl) (by kernel_rfl) (fun _ _ _ h => h) (Or.inl ⟨by rfl, ?hy⟩) (by assumption) ?_; case hy => (intro w hSw; (try dsimp only at hSw); go_simp; (try with_reducible rfl))) | (refine wpAnyH_take (i := 7) (v := _) rfl (by kernel_rfl) (by kernel_rfl) (by kernel_rfl) (fun _ _ _ h => h) (Or.inr ⟨by rfl, rfl⟩) (by assumption) ?_)
                    try simp only [Act.put, List.getElem_toArray, List.getElem_cons_succ, List.getElem_cons_zero, List.setIfInBounds_toArray, List.set_cons_zero, List.set_cons_succ]
                    first | (refine wpAnyH_take (i := 8) (v := ?_) rfl (by kernel_rfl) (by kernel_rfl) (by kernel_rfl) (fun _ _ _ h => h) (Or.inl ⟨by rfl, ?hy⟩) (by assumption) ?_; case hy => (intro w hSw; (try dsimp only at hSw); go_simp; (try with_reducible rfl))) | (refine wpAnyH_take (i := 8) (v := _) rfl (by kernel_rfl) (by kernel_rfl) (by kernel_rfl) (fun _ _ _ h => h) (Or.inr ⟨by rfl, rfl⟩) (by assumption) ?_)
                    try simp only [Act.put, List.getElem_toArray, List.getElem_cons_succ, List.getElem_cons_zero, List.setIfInBounds_toArray, List.set_cons_zero, List.set_cons_succ]
                    first | (refine wpAnyH_take (i := 9) (v := ?_) rfl (by kernel_rfl) (by kernel_rfl) (by kernel_rfl) (fun _ _ _ h => h) (Or.inl ⟨by rfl, ?hy⟩) (by assumption) ?_; case hy => (intro w hSw; (try dsimp only at hSw); go_simp; (try with_reducible rfl))) | (refine wpAnyH_take (i := 9) (v := _) rfl (by kernel_rfl) (by kernel_rfl) (by kernel_rfl) (fun _ _ _ h => h) (Or.inr ⟨by rfl, rfl⟩) (by assumption) ?_)
                    try simp only [Act.put, List.getElem_toArray, List.getElem_cons_succ, List.getElem_cons_zero, List.setIfInBounds_toArray, List.set_cons_zero, List.set_cons_succ]
                    first | (refine wpAnyH_take (i := 10) (v := ?_) rfl (by kernel_rfl) (by kernel_rfl) (by kernel_rfl) (fun _ _ _ h => h) (Or.inl ⟨by rfl, ?hy⟩) (by assumption) ?_; case hy => (intro w hSw; (try dsimp only at hSw); go_simp; (try with_reducible rfl))) | (refine wpAnyH_take (i := 10) (v := _) rfl (by kernel_rfl) (by kernel_rfl) (by kernel_rfl) (fun _ _ _ h => h) (Or.inr ⟨by rfl, rfl⟩) (by assumption) ?_)
                    try simp only [Act.put, List.getElem_toArray, List.getElem_cons_succ, List.getElem_cons_zero, List.setIfInBounds_toArray, List.set_cons_zero, List.set_cons_succ]
                    first | (refine wpAnyH_take (i := 11) (v := ?_) rfl (by kernel_rfl) (by kernel_rfl) (by kernel_rfl) (fun _ _ _ h => h) (Or.inl ⟨by rfl, ?hy⟩) (by assumption) ?_; case hy => (intro w hSw; (try dsimp only at hSw); go_simp; (try with_reducible rfl))) | (refine wpAnyH_take (i := 11) (v := _) rfl (by kernel_rfl) (by kernel_rfl) (by kernel_rfl) (fun _ _ _ h => h) (Or.inr ⟨by rfl, rfl⟩) (by assumption) ?_)
                    try simp only [Act.put, List.getElem_toArray, List.getElem_cons_succ, List.getElem_cons_zero, List.setIfInBounds_toArray, List.set_cons_zero, List.set_cons_succ]
                    first | (refine wpAnyH_take (i := 12) (v := ?_) rfl (by kernel_rfl) (by kernel_rfl) (by kernel_rfl) (fun _ _ _ h => h) (Or.inl ⟨by rfl, ?hy⟩) (by assumption) ?_; case hy => (intro w hSw; (try dsimp only at hSw); go_simp; (try with_reducible rfl))) | (refine wpAnyH_take (i := 12) (v := _) rfl (by kernel_rfl) (by kernel_rfl) (by kernel_rfl) (fun _ _ _ h => h) (Or.inr ⟨by rfl, rfl⟩) (by assumption) ?_)
                    try simp only [Act.put, List.getElem_toArray, List.getElem_cons_succ, List.getElem_cons_zero, List.setIfInBounds_toArray, List.set_cons_zero, List.set_cons_succ]
                    first | (refine wpAnyH_take (i := 13) (v := ?_) rfl (by kernel_rfl) (by kernel_rfl) (by kernel_rfl) (fun _ _ _ h => h) (Or.inl ⟨by rfl, ?hy⟩) (by assumption) ?_; case hy => (intro w hSw; (try dsimp only at hSw); go_simp; (try with_reducible rfl))) | (refine wpAnyH_take (i := 13) (v := _) rfl (by kernel_rfl) (by kernel_rfl) (by kernel_rfl) (fun _ _ _ h => h) (Or.inr ⟨by rfl, rfl⟩) (by assumption) ?_)
                    try simp only [Act.put, List.getElem_toArray, List.getElem_cons_succ, List.getElem_cons_zero, List.setIfInBounds_toArray, List.set_cons_zero, List.set_cons_succ]
                    first | (refine wpAnyH_take (i := 14) (v := ?_) rfl (by kernel_rfl) (by kernel_rfl) (by kernel_rfl) (fun _ _ _ h => h) (Or.inl ⟨by rfl, ?hy⟩) (by assumption) ?_; case hy => (intro w hSw; (try dsimp only at hSw); go_simp; (try with_reducible rfl))) | (refine wpAnyH_take (i := 14) (v := _) rfl (by kernel_rfl) (by kernel_rfl) (by kernel_rfl) (fun _ _ _ h => h) (Or.inr ⟨by rfl, rfl⟩) (by assumption) ?_)
                    try simp only [Act.put, List.getElem_toArray, List.getElem_cons_succ, List.getElem_cons_zero, List.setIfInBounds_toArray, List.set_cons_zero, List.set_cons_succ]
                    first | (refine wpAnyH_take (i := 15) (v := ?_) rfl (by kernel_rfl) (by kernel_rfl) (by kernel_rfl) (fun _ _ _ h => h) (Or.inl ⟨by rfl, ?hy⟩) (by assumption) ?_; case hy => (intro w hSw; (try dsimp only at hSw); go_simp; (try with_reducible rfl))) | (refine wpAnyH_take (i := 15) (v := _) rfl (by kernel_rfl) (by kernel_rfl) (by kernel_rfl) (fun _ _ _ h => h) (Or.inr ⟨by rfl, rfl⟩) (by assumption) ?_)
                    try simp only [Act.put, List.getElem_toArray, List.getElem_cons_succ, List.getElem_cons_zero, List.setIfInBounds_toArray, List.set_cons_zero, List.set_cons_succ]
                    first | (refine wpAnyH_take (i := 16) (v := ?_) rfl (by kernel_rfl) (by kernel_rfl) (by kernel_rfl) (fun _ _ _ h => h) (Or.inl ⟨by rfl, ?hy⟩) (by assumption) ?_; case hy => (intro w hSw; (try dsimp only at hSw); go_simp; (try with_reducible rfl))) | (refine wpAnyH_take (i := 16) (v := _) rfl (by kernel_rfl) (by kernel_rfl) (by kernel_rfl) (fun _ _ _ h => h) (Or.inr ⟨by rfl, rfl⟩) (by assumption) ?_)
                    try simp only [Act.put, List.getElem_toArray, List.getElem_cons_succ, List.getElem_cons_zero, List.setIfInBounds_toArray, List.set_cons_zero, List.set_cons_succ]
                    refine wpAnyH_done (by kernel_rfl) ?_ _
                    go_wp2_with fail
                    go_meet
                    exact ⟨_, rfl, by simp; omega, hn.undrew⟩
                  · as_aux_lemma =>
                    have d1 : decide (n < 0) = true := by simp; omega
                    have HP1 : ∀ (w : World) (R : Ending → World → Prop), (∀ w', Nw w w' → R (.returned (.bool true)) w') → Calls Tryz.prog 39 #[.agg #[.int .i64 c, .int .i64 n, .int .i64 m]] w R := fun w R h => point_any c n m w R (by first | (rw [decide_eq_false (by omega)]; exact h) | (rw [decide_eq_true (by omega)]; exact h))
                    have HPT := Lib.hid HP1
                    clear HP1
                    refine wp_region_held_drew (S := fun w' => w'.cell? ⟨wr.heap.size, 0, none⟩ = some (.int .i64 c) ∧ w'.cell? ⟨wr.heap.size, 1, none⟩ = some (.int .i64 n) ∧ w'.cell? ⟨wr.heap.size, 2, none⟩ = some (.int .i64 m) ∧ w'.cell? ⟨b, 0, none⟩ = some (.int .i64 np)) (by kernel_rfl) ⟨gc, g2, gm, g0⟩ (fun hHeld => ?_)
                    first | (refine wpAnyH_take (i := 0) (v := ?_) rfl (by kernel_rfl) (by kernel_rfl) (by kernel_rfl) (fun _ _ _ h => h) (Or.inl ⟨by rfl, ?hy⟩) (by assumption) ?_; case hy => (intro w hSw; (try dsimp only at hSw); go_simp; (try with_reducible rfl))) | (refine wpAnyH_take (i := 0) (v := _) rfl (by kernel_rfl) (by kernel_rfl) (by kernel_rfl) (fun _ _ _ h => h) (Or.inr ⟨by rfl, rfl⟩) (by assumption) ?_)
                    try simp only [Act.put, List.getElem_toArray, List.getElem_cons_succ, List.getElem_cons_zero, List.setIfInBounds_toArray, List.set_cons_zero, List.set_cons_succ]
                    refine wpAnyH_ready (rs := [1]) (by kernel_rfl) (by simp) ?_
                    refine AllReadyH.cons rfl (fun K hK => ?_) AllReadyH.nil
                    go_simp
                    go_at_call 39
                    refine HPT.out _ _ ?_
                    intro w2 hn
                    refine hK.out _ _ ⟨hn.cell gc id, hn.cell g2 id, hn.cell gm id, hn.cell g0 id⟩ (fun hHeld2 => ?_)
                    clear hK K
                    first | (refine wpAnyH_take (i := 2) (v := ?_) rfl (by kernel_rfl) (by kernel_rfl) (by kernel_rfl) (fun _ _ _ h => h) (Or.inl ⟨by rfl, ?hy⟩) (by assumption) ?_; case hy => (intro w hSw; (try dsimp only at hSw); go_simp; (try with_reducible rfl))) | (refine wpAnyH_take (i := 2) (v := _) rfl (by kernel_rfl) (by kernel_rfl) (by kernel_rfl) (fun _ _ _ h => h) (Or.inr ⟨by rfl, rfl⟩) (by assumption) ?_)
                    try simp only [Act.put, List.getElem_toArray, List.getElem_cons_succ, List.getElem_cons_zero, List.setIfInBounds_toArray, List.set_cons_zero, List.set_cons_succ]
                    first | (refine wpAnyH_take (i := 3) (v := ?_) rfl (by kernel_rfl) (by kernel_rfl) (by kernel_rfl) (fun _ _ _ h => h) (Or.inl ⟨by rfl, ?hy⟩) (by assumption) ?_; case hy => (intro w hSw; (try dsimp only at hSw); go_simp; (try with_reducible rfl))) | (refine wpAnyH_take (i := 3) (v := _) rfl (by kernel_rfl) (by kernel_rfl) (by kernel_rfl) (fun _ _ _ h => h) (Or.inr ⟨by rfl, rfl⟩) (by assumption) ?_)
                    try simp only [Act.put, List.getElem_toArray, List.getElem_cons_succ, List.getElem_cons_zero, List.setIfInBounds_toArray, List.set_cons_zero, List.set_cons_succ]
                    first | (refine wpAnyH_take (i := 4) (v := ?_) rfl (by kernel_rfl) (by kernel_rfl) (by kernel_rfl) (fun _ _ _ h => h) (Or.inl ⟨by rfl, ?hy⟩) (by assumption) ?_; case hy => (intro w hSw; (try dsimp only at hSw); go_simp; (try with_reducible rfl))) | (refine wpAnyH_take (i := 4) (v := _) rfl (by kernel_rfl) (by kernel_rfl) (by kernel_rfl) (fun _ _ _ h => h) (Or.inr ⟨by rfl, rfl⟩) (by assumption) ?_)
                    try simp only [Act.put, List.getElem_toArray, List.getElem_cons_succ, List.getElem_cons_zero, List.setIfInBounds_toArray, List.set_cons_zero, List.set_cons_succ]
                    first | (refine wpAnyH_take (i := 5) (v := ?_) rfl (by kernel_rfl) (by kernel_rfl) (by kernel_rfl) (fun _ _ _ h => h) (Or.inl ⟨by rfl, ?hy⟩) (by assumption) ?_; case hy => (intro w hSw; (try dsimp only at hSw); go_simp; (try with_reducible rfl))) | (refine wpAnyH_take (i := 5) (v := _) rfl (by kernel_rfl) (by kernel_rfl) (by kernel_rfl) (fun _ _ _ h => h) (Or.inr ⟨by rfl, rfl⟩) (by assumption) ?_)
                    try simp only [Act.put, List.getElem_toArray, List.getElem_cons_succ, List.getElem_cons_zero, List.setIfInBounds_toArray, List.set_cons_zero, List.set_cons_succ]
                    first | (refine wpAnyH_take (i := 6) (v := ?_) rfl (by kernel_rfl) (by kernel_rfl) (by kernel_rfl) (fun _ _ _ h => h) (Or.inl ⟨by rfl, ?hy⟩) (by assumption) ?_; case hy => (intro w hSw; (try dsimp only at hSw); go_simp; (try with_reducible rfl))) | (refine wpAnyH_take (i := 6) (v := _) rfl (by kernel_rfl) (by kernel_rfl) (by kernel_rfl) (fun _ _ _ h => h) (Or.inr ⟨by rfl, rfl⟩) (by assumption) ?_)
                    try simp only [Act.put, List.getElem_toArray, List.getElem_cons_succ, List.getElem_cons_zero, List.setIfInBounds_toArray, List.set_cons_zero, List.set_cons_succ]
                    first | (refine wpAnyH_take (i := 7) (v := ?_) rfl (by kernel_rfl) (by kernel_rfl) (by kernel_rfl) (fun _ _ _ h => h) (Or.inl ⟨by rfl, ?hy⟩) (by assumption) ?_; case hy => (intro w hSw; (try dsimp only at hSw); go_simp; (try with_reducible rfl))) | (refine wpAnyH_take (i := 7) (v := _) rfl (by kernel_rfl) (by kernel_rfl) (by kernel_rfl) (fun _ _ _ h => h) (Or.inr ⟨by rfl, rfl⟩) (by assumption) ?_)
                    try simp only [Act.put, List.getElem_toArray, List.getElem_cons_succ, List.getElem_cons_zero, List.setIfInBounds_toArray, List.set_cons_zero, List.set_cons_succ]
                    first | (refine wpAnyH_take (i := 8) (v := ?_) rfl (by kernel_rfl) (by kernel_rfl) (by kernel_rfl) (fun _ _ _ h => h) (Or.inl ⟨by rfl, ?hy⟩) (by assumption) ?_; case hy => (intro w hSw; (try dsimp only at hSw); go_simp; (try with_reducible rfl))) | (refine wpAnyH_take (i := 8) (v := _) rfl (by kernel_rfl) (by kernel_rfl) (by kernel_rfl) (fun _ _ _ h => h) (Or.inr ⟨by rfl, rfl⟩) (by assumption) ?_)
                    try simp only [Act.put, List.getElem_toArray, List.getElem_cons_succ, List.getElem_cons_zero, List.setIfInBounds_toArray, List.set_cons_zero, List.set_cons_succ]
                    first | (refine wpAnyH_take (i := 9) (v := ?_) rfl (by kernel_rfl) (by kernel_rfl) (by kernel_rfl) (fun _ _ _ h => h) (Or.inl ⟨by rfl, ?hy⟩) (by assumption) ?_; case hy => (intro w hSw; (try dsimp only at hSw); go_simp; (try with_reducible rfl))) | (refine wpAnyH_take (i := 9) (v := _) rfl (by kernel_rfl) (by kernel_rfl) (by kernel_rfl) (fun _ _ _ h => h) (Or.inr ⟨by rfl, rfl⟩) (by assumption) ?_)
                    try simp only [Act.put, List.getElem_toArray, List.getElem_cons_succ, List.getElem_cons_zero, List.setIfInBounds_toArray, List.set_cons_zero, List.set_cons_succ]
                    first | (refine wpAnyH_take (i := 10) (v := ?_) rfl (by kernel_rfl) (by kernel_rfl) (by kernel_rfl) (fun _ _ _ h => h) (Or.inl ⟨by rfl, ?hy⟩) (by assumption) ?_; case hy => (intro w hSw; (try dsimp only at hSw); go_simp; (try with_reducible rfl))) | (refine wpAnyH_take (i := 10) (v := _) rfl (by kernel_rfl) (by kernel_rfl) (by kernel_rfl) (fun _ _ _ h => h) (Or.inr ⟨by rfl, rfl⟩) (by assumption) ?_)
                    try simp only [Act.put, List.getElem_toArray, List.getElem_cons_succ, List.getElem_cons_zero, List.setIfInBounds_toArray, List.set_cons_zero, List.set_cons_succ]
                    first | (refine wpAnyH_take (i := 11) (v := ?_) rfl (by kernel_rfl) (by kernel_rfl) (by kernel_rfl) (fun _ _ _ h => h) (Or.inl ⟨by rfl, ?hy⟩) (by assumption) ?_; case hy => (intro w hSw; (try dsimp only at hSw); go_simp; (try with_reducible rfl))) | (refine wpAnyH_take (i := 11) (v := _) rfl (by kernel_rfl) (by kernel_rfl) (by kernel_rfl) (fun _ _ _ h => h) (Or.inr ⟨by rfl, rfl⟩) (by assumption) ?_)
                    try simp only [Act.put, List.getElem_toArray, List.getElem_cons_succ, List.getElem_cons_zero, List.setIfInBounds_toArray, List.set_cons_zero, List.set_cons_succ]
                    first | (refine wpAnyH_take (i := 12) (v := ?_) rfl (by kernel_rfl) (by kernel_rfl) (by kernel_rfl) (fun _ _ _ h => h) (Or.inl ⟨by rfl, ?hy⟩) (by assumption) ?_; case hy => (intro w hSw; (try dsimp only at hSw); go_simp; (try with_reducible rfl))) | (refine wpAnyH_take (i := 12) (v := _) rfl (by kernel_rfl) (by kernel_rfl) (by kernel_rfl) (fun _ _ _ h => h) (Or.inr ⟨by rfl, rfl⟩) (by assumption) ?_)
                    try simp only [Act.put, List.getElem_toArray, List.getElem_cons_succ, List.getElem_cons_zero, List.setIfInBounds_toArray, List.set_cons_zero, List.set_cons_succ]
                    first | (refine wpAnyH_take (i := 13) (v := ?_) rfl (by kernel_rfl) (by kernel_rfl) (by kernel_rfl) (fun _ _ _ h => h) (Or.inl ⟨by rfl, ?hy⟩) (by assumption) ?_; case hy => (intro w hSw; (try dsimp only at hSw); go_simp; (try with_reducible rfl))) | (refine wpAnyH_take (i := 13) (v := _) rfl (by kernel_rfl) (by kernel_rfl) (by kernel_rfl) (fun _ _ _ h => h) (Or.inr ⟨by rfl, rfl⟩) (by assumption) ?_)
                    try simp only [Act.put, List.getElem_toArray, List.getElem_cons_succ, List.getElem_cons_zero, List.setIfInBounds_toArray, List.set_cons_zero, List.set_cons_succ]
                    first | (refine wpAnyH_take (i := 14) (v := ?_) rfl (by kernel_rfl) (by kernel_rfl) (by kernel_rfl) (fun _ _ _ h => h) (Or.inl ⟨by rfl, ?hy⟩) (by assumption) ?_; case hy => (intro w hSw; (try dsimp only at hSw); go_simp; (try with_reducible rfl))) | (refine wpAnyH_take (i := 14) (v := _) rfl (by kernel_rfl) (by kernel_rfl) (by kernel_rfl) (fun _ _ _ h => h) (Or.inr ⟨by rfl, rfl⟩) (by assumption) ?_)
                    try simp only [Act.put, List.getElem_toArray, List.getElem_cons_succ, List.getElem_cons_zero, List.setIfInBounds_toArray, List.set_cons_zero, List.set_cons_succ]
                    first | (refine wpAnyH_take (i := 15) (v := ?_) rfl (by kernel_rfl) (by kernel_rfl) (by kernel_rfl) (fun _ _ _ h => h) (Or.inl ⟨by rfl, ?hy⟩) (by assumption) ?_; case hy => (intro w hSw; (try dsimp only at hSw); go_simp; (try with_reducible rfl))) | (refine wpAnyH_take (i := 15) (v := _) rfl (by kernel_rfl) (by kernel_rfl) (by kernel_rfl) (fun _ _ _ h => h) (Or.inr ⟨by rfl, rfl⟩) (by assumption) ?_)
                    try simp only [Act.put, List.getElem_toArray, List.getElem_cons_succ, List.getElem_cons_zero, List.setIfInBounds_toArray, List.set_cons_zero, List.set_cons_succ]
                    first | (refine wpAnyH_take (i := 16) (v := ?_) rfl (by kernel_rfl) (by kernel_rfl) (by kernel_rfl) (fun _ _ _ h => h) (Or.inl ⟨by rfl, ?hy⟩) (by assumption) ?_; case hy => (intro w hSw; (try dsimp only at hSw); go_simp; (try with_reducible rfl))) | (refine wpAnyH_take (i := 16) (v := _) rfl (by kernel_rfl) (by kernel_rfl) (by kernel_rfl) (fun _ _ _ h => h) (Or.inr ⟨by rfl, rfl⟩) (by assumption) ?_)
                    try simp only [Act.put, List.getElem_toArray, List.getElem_cons_succ, List.getElem_cons_zero, List.setIfInBounds_toArray, List.set_cons_zero, List.set_cons_succ]
                    refine wpAnyH_done (by kernel_rfl) ?_ _
                    go_wp2_with fail
                    go_meet
                    exact ⟨_, rfl, by simp; omega, hn.undrew⟩
                  · as_aux_lemma =>
                    have d1 : decide (n < 0) = false := by simp; omega
                    have d2 : decide (np ≤ n) = true := by simp; omega
                    have HP1 : ∀ (w : World) (R : Ending → World → Prop), (∀ w', Nw w w' → R (.returned (.bool true)) w') → Calls Tryz.prog 39 #[.agg #[.int .i64 c, .int .i64 n, .int .i64 m]] w R := fun w R h => point_any c n m w R (by first | (rw [decide_eq_false (by omega)]; exact h) | (rw [decide_eq_true (by omega)]; exact h))
                    have HPT := Lib.hid HP1
                    clear HP1
                    refine wp_region_held_drew (S := fun w' => w'.cell? ⟨wr.heap.size, 0, none⟩ = some (.int .i64 c) ∧ w'.cell? ⟨wr.heap.size, 1, none⟩ = some (.int .i64 n) ∧ w'.cell? ⟨wr.heap.size, 2, none⟩ = some (.int .i64 m) ∧ w'.cell? ⟨b, 0, none⟩ = some (.int .i64 np)) (by kernel_rfl) ⟨gc, g2, gm, g0⟩ (fun hHeld => ?_)
                    first | (refine wpAnyH_take (i := 0) (v := ?_) rfl (by kernel_rfl) (by kernel_rfl) (by kernel_rfl) (fun _ _ _ h => h) (Or.inl ⟨by rfl, ?hy⟩) (by assumption) ?_; case hy => (intro w hSw; (try dsimp only at hSw); go_simp; (try with_reducible rfl))) | (refine wpAnyH_take (i := 0) (v := _) rfl (by kernel_rfl) (by kernel_rfl) (by kernel_rfl) (fun _ _ _ h => h) (Or.inr ⟨by rfl, rfl⟩) (by assumption) ?_)
                    try simp only [Act.put, List.getElem_toArray, List.getElem_cons_succ, List.getElem_cons_zero, List.setIfInBounds_toArray, List.set_cons_zero, List.set_cons_succ]
                    refine wpAnyH_ready (rs := [1]) (by kernel_rfl) (by simp) ?_
                    refine AllReadyH.cons rfl (fun K hK => ?_) AllReadyH.nil
                    go_simp
                    go_at_call 39
                    refine HPT.out _ _ ?_
                    intro w2 hn
                    refine hK.out _ _ ⟨hn.cell gc id, hn.cell g2 id, hn.cell gm id, hn.cell g0 id⟩ (fun hHeld2 => ?_)
                    clear hK K
                    first | (refine wpAnyH_take (i := 2) (v := ?_) rfl (by kernel_rfl) (by kernel_rfl) (by kernel_rfl) (fun _ _ _ h => h) (Or.inl ⟨by rfl, ?hy⟩) (by assumption) ?_; case hy => (intro w hSw; (try dsimp only at hSw); go_simp; (try with_reducible rfl))) | (refine wpAnyH_take (i := 2) (v := _) rfl (by kernel_rfl) (by kernel_rfl) (by kernel_rfl) (fun _ _ _ h => h) (Or.inr ⟨by rfl, rfl⟩) (by assumption) ?_)
                    try simp only [Act.put, List.getElem_toArray, List.getElem_cons_succ, List.getElem_cons_zero, List.setIfInBounds_toArray, List.set_cons_zero, List.set_cons_succ]
                    first | (refine wpAnyH_take (i := 3) (v := ?_) rfl (by kernel_rfl) (by kernel_rfl) (by kernel_rfl) (fun _ _ _ h => h) (Or.inl ⟨by rfl, ?hy⟩) (by assumption) ?_; case hy => (intro w hSw; (try dsimp only at hSw); go_simp; (try with_reducible rfl))) | (refine wpAnyH_take (i := 3) (v := _) rfl (by kernel_rfl) (by kernel_rfl) (by kernel_rfl) (fun _ _ _ h => h) (Or.inr ⟨by rfl, rfl⟩) (by assumption) ?_)
                    try simp only [Act.put, List.getElem_toArray, List.getElem_cons_succ, List.getElem_cons_zero, List.setIfInBounds_toArray, List.set_cons_zero, List.set_cons_succ]
                    first | (refine wpAnyH_take (i := 4) (v := ?_) rfl (by kernel_rfl) (by kernel_rfl) (by kernel_rfl) (fun _ _ _ h => h) (Or.inl ⟨by rfl, ?hy⟩) (by assumption) ?_; case hy => (intro w hSw; (try dsimp only at hSw); go_simp; (try with_reducible rfl))) | (refine wpAnyH_take (i := 4) (v := _) rfl (by kernel_rfl) (by kernel_rfl) (by kernel_rfl) (fun _ _ _ h => h) (Or.inr ⟨by rfl, rfl⟩) (by assumption) ?_)
                    try simp only [Act.put, List.getElem_toArray, List.getElem_cons_succ, List.getElem_cons_zero, List.setIfInBounds_toArray, List.set_cons_zero, List.set_cons_succ]
                    first | (refine wpAnyH_take (i := 5) (v := ?_) rfl (by kernel_rfl) (by kernel_rfl) (by kernel_rfl) (fun _ _ _ h => h) (Or.inl ⟨by rfl, ?hy⟩) (by assumption) ?_; case hy => (intro w hSw; (try dsimp only at hSw); go_simp; (try with_reducible rfl))) | (refine wpAnyH_take (i := 5) (v := _) rfl (by kernel_rfl) (by kernel_rfl) (by kernel_rfl) (fun _ _ _ h => h) (Or.inr ⟨by rfl, rfl⟩) (by assumption) ?_)
                    try simp only [Act.put, List.getElem_toArray, List.getElem_cons_succ, List.getElem_cons_zero, List.setIfInBounds_toArray, List.set_cons_zero, List.set_cons_succ]
                    first | (refine wpAnyH_take (i := 6) (v := ?_) rfl (by kernel_rfl) (by kernel_rfl) (by kernel_rfl) (fun _ _ _ h => h) (Or.inl ⟨by rfl, ?hy⟩) (by assumption) ?_; case hy => (intro w hSw; (try dsimp only at hSw); go_simp; (try with_reducible rfl))) | (refine wpAnyH_take (i := 6) (v := _) rfl (by kernel_rfl) (by kernel_rfl) (by kernel_rfl) (fun _ _ _ h => h) (Or.inr ⟨by rfl, rfl⟩) (by assumption) ?_)
                    try simp only [Act.put, List.getElem_toArray, List.getElem_cons_succ, List.getElem_cons_zero, List.setIfInBounds_toArray, List.set_cons_zero, List.set_cons_succ]
                    first | (refine wpAnyH_take (i := 7) (v := ?_) rfl (by kernel_rfl) (by kernel_rfl) (by kernel_rfl) (fun _ _ _ h => h) (Or.inl ⟨by rfl, ?hy⟩) (by assumption) ?_; case hy => (intro w hSw; (try dsimp only at hSw); go_simp; (try with_reducible rfl))) | (refine wpAnyH_take (i := 7) (v := _) rfl (by kernel_rfl) (by kernel_rfl) (by kernel_rfl) (fun _ _ _ h => h) (Or.inr ⟨by rfl, rfl⟩) (by assumption) ?_)
                    try simp only [Act.put, List.getElem_toArray, List.getElem_cons_succ, List.getElem_cons_zero, List.setIfInBounds_toArray, List.set_cons_zero, List.set_cons_succ]
                    first | (refine wpAnyH_take (i := 8) (v := ?_) rfl (by kernel_rfl) (by kernel_rfl) (by kernel_rfl) (fun _ _ _ h => h) (Or.inl ⟨by rfl, ?hy⟩) (by assumption) ?_; case hy => (intro w hSw; (try dsimp only at hSw); go_simp; (try with_reducible rfl))) | (refine wpAnyH_take (i := 8) (v := _) rfl (by kernel_rfl) (by kernel_rfl) (by kernel_rfl) (fun _ _ _ h => h) (Or.inr ⟨by rfl, rfl⟩) (by assumption) ?_)
                    try simp only [Act.put, List.getElem_toArray, List.getElem_cons_succ, List.getElem_cons_zero, List.setIfInBounds_toArray, List.set_cons_zero, List.set_cons_succ]
                    first | (refine wpAnyH_take (i := 9) (v := ?_) rfl (by kernel_rfl) (by kernel_rfl) (by kernel_rfl) (fun _ _ _ h => h) (Or.inl ⟨by rfl, ?hy⟩) (by assumption) ?_; case hy => (intro w hSw; (try dsimp only at hSw); go_simp; (try with_reducible rfl))) | (refine wpAnyH_take (i := 9) (v := _) rfl (by kernel_rfl) (by kernel_rfl) (by kernel_rfl) (fun _ _ _ h => h) (Or.inr ⟨by rfl, rfl⟩) (by assumption) ?_)
                    try simp only [Act.put, List.getElem_toArray, List.getElem_cons_succ, List.getElem_cons_zero, List.setIfInBounds_toArray, List.set_cons_zero, List.set_cons_succ]
                    first | (refine wpAnyH_take (i := 10) (v := ?_) rfl (by kernel_rfl) (by kernel_rfl) (by kernel_rfl) (fun _ _ _ h => h) (Or.inl ⟨by rfl, ?hy⟩) (by assumption) ?_; case hy => (intro w hSw; (try dsimp only at hSw); go_simp; (try with_reducible rfl))) | (refine wpAnyH_take (i := 10) (v := _) rfl (by kernel_rfl) (by kernel_rfl) (by kernel_rfl) (fun _ _ _ h => h) (Or.inr ⟨by rfl, rfl⟩) (by assumption) ?_)
                    try simp only [Act.put, List.getElem_toArray, List.getElem_cons_succ, List.getElem_cons_zero, List.setIfInBounds_toArray, List.set_cons_zero, List.set_cons_succ]
                    first | (refine wpAnyH_take (i := 11) (v := ?_) rfl (by kernel_rfl) (by kernel_rfl) (by kernel_rfl) (fun _ _ _ h => h) (Or.inl ⟨by rfl, ?hy⟩) (by assumption) ?_; case hy => (intro w hSw; (try dsimp only at hSw); go_simp; (try with_reducible rfl))) | (refine wpAnyH_take (i := 11) (v := _) rfl (by kernel_rfl) (by kernel_rfl) (by kernel_rfl) (fun _ _ _ h => h) (Or.inr ⟨by rfl, rfl⟩) (by assumption) ?_)
                    try simp only [Act.put, List.getElem_toArray, List.getElem_cons_succ, List.getElem_cons_zero, List.setIfInBounds_toArray, List.set_cons_zero, List.set_cons_succ]
                    first | (refine wpAnyH_take (i := 12) (v := ?_) rfl (by kernel_rfl) (by kernel_rfl) (by kernel_rfl) (fun _ _ _ h => h) (Or.inl ⟨by rfl, ?hy⟩) (by assumption) ?_; case hy => (intro w hSw; (try dsimp only at hSw); go_simp; (try with_reducible rfl))) | (refine wpAnyH_take (i := 12) (v := _) rfl (by kernel_rfl) (by kernel_rfl) (by kernel_rfl) (fun _ _ _ h => h) (Or.inr ⟨by rfl, rfl⟩) (by assumption) ?_)
                    try simp only [Act.put, List.getElem_toArray, List.getElem_cons_succ, List.getElem_cons_zero, List.setIfInBounds_toArray, List.set_cons_zero, List.set_cons_succ]
                    first | (refine wpAnyH_take (i := 13) (v := ?_) rfl (by kernel_rfl) (by kernel_rfl) (by kernel_rfl) (fun _ _ _ h => h) (Or.inl ⟨by rfl, ?hy⟩) (by assumption) ?_; case hy => (intro w hSw; (try dsimp only at hSw); go_simp; (try with_reducible rfl))) | (refine wpAnyH_take (i := 13) (v := _) rfl (by kernel_rfl) (by kernel_rfl) (by kernel_rfl) (fun _ _ _ h => h) (Or.inr ⟨by rfl, rfl⟩) (by assumption) ?_)
                    try simp only [Act.put, List.getElem_toArray, List.getElem_cons_succ, List.getElem_cons_zero, List.setIfInBounds_toArray, List.set_cons_zero, List.set_cons_succ]
                    first | (refine wpAnyH_take (i := 14) (v := ?_) rfl (by kernel_rfl) (by kernel_rfl) (by kernel_rfl) (fun _ _ _ h => h) (Or.inl ⟨by rfl, ?hy⟩) (by assumption) ?_; case hy => (intro w hSw; (try dsimp only at hSw); go_simp; (try with_reducible rfl))) | (refine wpAnyH_take (i := 14) (v := _) rfl (by kernel_rfl) (by kernel_rfl) (by kernel_rfl) (fun _ _ _ h => h) (Or.inr ⟨by rfl, rfl⟩) (by assumption) ?_)
                    try simp only [Act.put, List.getElem_toArray, List.getElem_cons_succ, List.getElem_cons_zero, List.setIfInBounds_toArray, List.set_cons_zero, List.set_cons_succ]
                    first | (refine wpAnyH_take (i := 15) (v := ?_) rfl (by kernel_rfl) (by kernel_rfl) (by kernel_rfl) (fun _ _ _ h => h) (Or.inl ⟨by rfl, ?hy⟩) (by assumption) ?_; case hy => (intro w hSw; (try dsimp only at hSw); go_simp; (try with_reducible rfl))) | (refine wpAnyH_take (i := 15) (v := _) rfl (by kernel_rfl) (by kernel_rfl) (by kernel_rfl) (fun _ _ _ h => h) (Or.inr ⟨by rfl, rfl⟩) (by assumption) ?_)
                    try simp only [Act.put, List.getElem_toArray, List.getElem_cons_succ, List.getElem_cons_zero, List.setIfInBounds_toArray, List.set_cons_zero, List.set_cons_succ]
                    first | (refine wpAnyH_take (i := 16) (v := ?_) rfl (by kernel_rfl) (by kernel_rfl) (by kernel_rfl) (fun _ _ _ h => h) (Or.inl ⟨by rfl, ?hy⟩) (by assumption) ?_; case hy => (intro w hSw; (try dsimp only at hSw); go_simp; (try with_reducible rfl))) | (refine wpAnyH_take (i := 16) (v := _) rfl (by kernel_rfl) (by kernel_rfl) (by kernel_rfl) (fun _ _ _ h => h) (Or.inr ⟨by rfl, rfl⟩) (by assumption) ?_)
                    try simp only [Act.put, List.getElem_toArray, List.getElem_cons_succ, List.getElem_cons_zero, List.setIfInBounds_toArray, List.set_cons_zero, List.set_cons_succ]
                    refine wpAnyH_done (by kernel_rfl) ?_ _
                    go_wp2_with fail
                    go_meet
                    exact ⟨_, rfl, by simp; omega, hn.undrew⟩
                  · as_aux_lemma =>
                    have d1 : decide (n < 0) = false := by simp; omega
                    have d2 : decide (np ≤ n) = false := by simp; omega
                    have HP1 : ∀ (w : World) (R : Ending → World → Prop), (∀ w', Nw w w' → R (.returned (.bool true)) w') → Calls Tryz.prog 39 #[.agg #[.int .i64 c, .int .i64 n, .int .i64 m]] w R := fun w R h => point_any c n m w R (by first | (rw [decide_eq_false (by omega)]; exact h) | (rw [decide_eq_true (by omega)]; exact h))
                    have HPT := Lib.hid HP1
                    clear HP1
                    refine wp_region_held_drew (S := fun w' => w'.cell? ⟨wr.heap.size, 0, none⟩ = some (.int .i64 c) ∧ w'.cell? ⟨wr.heap.size, 1, none⟩ = some (.int .i64 n) ∧ w'.cell? ⟨wr.heap.size, 2, none⟩ = some (.int .i64 m) ∧ w'.cell? ⟨b, 0, none⟩ = some (.int .i64 np)) (by kernel_rfl) ⟨gc, g2, gm, g0⟩ (fun hHeld => ?_)
                    first | (refine wpAnyH_take (i := 0) (v := ?_) rfl (by kernel_rfl) (by kernel_rfl) (by kernel_rfl) (fun _ _ _ h => h) (Or.inl ⟨by rfl, ?hy⟩) (by assumption) ?_; case hy => (intro w hSw; (try dsimp only at hSw); go_simp; (try with_reducible rfl))) | (refine wpAnyH_take (i := 0) (v := _) rfl (by kernel_rfl) (by kernel_rfl) (by kernel_rfl) (fun _ _ _ h => h) (Or.inr ⟨by rfl, rfl⟩) (by assumption) ?_)
                    try simp only [Act.put, List.getElem_toArray, List.getElem_cons_succ, List.getElem_cons_zero, List.setIfInBounds_toArray, List.set_cons_zero, List.set_cons_succ]
                    refine wpAnyH_ready (rs := [1]) (by kernel_rfl) (by simp) ?_
                    refine AllReadyH.cons rfl (fun K hK => ?_) AllReadyH.nil
                    go_simp
                    go_at_call 39
                    refine HPT.out _ _ ?_
                    intro w2 hn
                    refine hK.out _ _ ⟨hn.cell gc id, hn.cell g2 id, hn.cell gm id, hn.cell g0 id⟩ (fun hHeld2 => ?_)
                    clear hK K
                    first | (refine wpAnyH_take (i := 2) (v := ?_) rfl (by kernel_rfl) (by kernel_rfl) (by kernel_rfl) (fun _ _ _ h => h) (Or.inl ⟨by rfl, ?hy⟩) (by assumption) ?_; case hy => (intro w hSw; (try dsimp only at hSw); go_simp; (try with_reducible rfl))) | (refine wpAnyH_take (i := 2) (v := _) rfl (by kernel_rfl) (by kernel_rfl) (by kernel_rfl) (fun _ _ _ h => h) (Or.inr ⟨by rfl, rfl⟩) (by assumption) ?_)
                    try simp only [Act.put, List.getElem_toArray, List.getElem_cons_succ, List.getElem_cons_zero, List.setIfInBounds_toArray, List.set_cons_zero, List.set_cons_succ]
                    first | (refine wpAnyH_take (i := 3) (v := ?_) rfl (by kernel_rfl) (by kernel_rfl) (by kernel_rfl) (fun _ _ _ h => h) (Or.inl ⟨by rfl, ?hy⟩) (by assumption) ?_; case hy => (intro w hSw; (try dsimp only at hSw); go_simp; (try with_reducible rfl))) | (refine wpAnyH_take (i := 3) (v := _) rfl (by kernel_rfl) (by kernel_rfl) (by kernel_rfl) (fun _ _ _ h => h) (Or.inr ⟨by rfl, rfl⟩) (by assumption) ?_)
                    try simp only [Act.put, List.getElem_toArray, List.getElem_cons_succ, List.getElem_cons_zero, List.setIfInBounds_toArray, List.set_cons_zero, List.set_cons_succ]
                    first | (refine wpAnyH_take (i := 4) (v := ?_) rfl (by kernel_rfl) (by kernel_rfl) (by kernel_rfl) (fun _ _ _ h => h) (Or.inl ⟨by rfl, ?hy⟩) (by assumption) ?_; case hy => (intro w hSw; (try dsimp only at hSw); go_simp; (try with_reducible rfl))) | (refine wpAnyH_take (i := 4) (v := _) rfl (by kernel_rfl) (by kernel_rfl) (by kernel_rfl) (fun _ _ _ h => h) (Or.inr ⟨by rfl, rfl⟩) (by assumption) ?_)
                    try simp only [Act.put, List.getElem_toArray, List.getElem_cons_succ, List.getElem_cons_zero, List.setIfInBounds_toArray, List.set_cons_zero, List.set_cons_succ]
                    first | (refine wpAnyH_take (i := 5) (v := ?_) rfl (by kernel_rfl) (by kernel_rfl) (by kernel_rfl) (fun _ _ _ h => h) (Or.inl ⟨by rfl, ?hy⟩) (by assumption) ?_; case hy => (intro w hSw; (try dsimp only at hSw); go_simp; (try with_reducible rfl))) | (refine wpAnyH_take (i := 5) (v := _) rfl (by kernel_rfl) (by kernel_rfl) (by kernel_rfl) (fun _ _ _ h => h) (Or.inr ⟨by rfl, rfl⟩) (by assumption) ?_)
                    try simp only [Act.put, List.getElem_toArray, List.getElem_cons_succ, List.getElem_cons_zero, List.setIfInBounds_toArray, List.set_cons_zero, List.set_cons_succ]
                    first | (refine wpAnyH_take (i := 6) (v := ?_) rfl (by kernel_rfl) (by kernel_rfl) (by kernel_rfl) (fun _ _ _ h => h) (Or.inl ⟨by rfl, ?hy⟩) (by assumption) ?_; case hy => (intro w hSw; (try dsimp only at hSw); go_simp; (try with_reducible rfl))) | (refine wpAnyH_take (i := 6) (v := _) rfl (by kernel_rfl) (by kernel_rfl) (by kernel_rfl) (fun _ _ _ h => h) (Or.inr ⟨by rfl, rfl⟩) (by assumption) ?_)
                    try simp only [Act.put, List.getElem_toArray, List.getElem_cons_succ, List.getElem_cons_zero, List.setIfInBounds_toArray, List.set_cons_zero, List.set_cons_succ]
                    first | (refine wpAnyH_take (i := 7) (v := ?_) rfl (by kernel_rfl) (by kernel_rfl) (by kernel_rfl) (fun _ _ _ h => h) (Or.inl ⟨by rfl, ?hy⟩) (by assumption) ?_; case hy => (intro w hSw; (try dsimp only at hSw); go_simp; (try with_reducible rfl))) | (refine wpAnyH_take (i := 7) (v := _) rfl (by kernel_rfl) (by kernel_rfl) (by kernel_rfl) (fun _ _ _ h => h) (Or.inr ⟨by rfl, rfl⟩) (by assumption) ?_)
                    try simp only [Act.put, List.getElem_toArray, List.getElem_cons_succ, List.getElem_cons_zero, List.setIfInBounds_toArray, List.set_cons_zero, List.set_cons_succ]
                    first | (refine wpAnyH_take (i := 8) (v := ?_) rfl (by kernel_rfl) (by kernel_rfl) (by kernel_rfl) (fun _ _ _ h => h) (Or.inl ⟨by rfl, ?hy⟩) (by assumption) ?_; case hy => (intro w hSw; (try dsimp only at hSw); go_simp; (try with_reducible rfl))) | (refine wpAnyH_take (i := 8) (v := _) rfl (by kernel_rfl) (by kernel_rfl) (by kernel_rfl) (fun _ _ _ h => h) (Or.inr ⟨by rfl, rfl⟩) (by assumption) ?_)
                    try simp only [Act.put, List.getElem_toArray, List.getElem_cons_succ, List.getElem_cons_zero, List.setIfInBounds_toArray, List.set_cons_zero, List.set_cons_succ]
                    first | (refine wpAnyH_take (i := 9) (v := ?_) rfl (by kernel_rfl) (by kernel_rfl) (by kernel_rfl) (fun _ _ _ h => h) (Or.inl ⟨by rfl, ?hy⟩) (by assumption) ?_; case hy => (intro w hSw; (try dsimp only at hSw); go_simp; (try with_reducible rfl))) | (refine wpAnyH_take (i := 9) (v := _) rfl (by kernel_rfl) (by kernel_rfl) (by kernel_rfl) (fun _ _ _ h => h) (Or.inr ⟨by rfl, rfl⟩) (by assumption) ?_)
                    try simp only [Act.put, List.getElem_toArray, List.getElem_cons_succ, List.getElem_cons_zero, List.setIfInBounds_toArray, List.set_cons_zero, List.set_cons_succ]
                    first | (refine wpAnyH_take (i := 10) (v := ?_) rfl (by kernel_rfl) (by kernel_rfl) (by kernel_rfl) (fun _ _ _ h => h) (Or.inl ⟨by rfl, ?hy⟩) (by assumption) ?_; case hy => (intro w hSw; (try dsimp only at hSw); go_simp; (try with_reducible rfl))) | (refine wpAnyH_take (i := 10) (v := _) rfl (by kernel_rfl) (by kernel_rfl) (by kernel_rfl) (fun _ _ _ h => h) (Or.inr ⟨by rfl, rfl⟩) (by assumption) ?_)
                    try simp only [Act.put, List.getElem_toArray, List.getElem_cons_succ, List.getElem_cons_zero, List.setIfInBounds_toArray, List.set_cons_zero, List.set_cons_succ]
                    first | (refine wpAnyH_take (i := 11) (v := ?_) rfl (by kernel_rfl) (by kernel_rfl) (by kernel_rfl) (fun _ _ _ h => h) (Or.inl ⟨by rfl, ?hy⟩) (by assumption) ?_; case hy => (intro w hSw; (try dsimp only at hSw); go_simp; (try with_reducible rfl))) | (refine wpAnyH_take (i := 11) (v := _) rfl (by kernel_rfl) (by kernel_rfl) (by kernel_rfl) (fun _ _ _ h => h) (Or.inr ⟨by rfl, rfl⟩) (by assumption) ?_)
                    try simp only [Act.put, List.getElem_toArray, List.getElem_cons_succ, List.getElem_cons_zero, List.setIfInBounds_toArray, List.set_cons_zero, List.set_cons_succ]
                    first | (refine wpAnyH_take (i := 12) (v := ?_) rfl (by kernel_rfl) (by kernel_rfl) (by kernel_rfl) (fun _ _ _ h => h) (Or.inl ⟨by rfl, ?hy⟩) (by assumption) ?_; case hy => (intro w hSw; (try dsimp only at hSw); go_simp; (try with_reducible rfl))) | (refine wpAnyH_take (i := 12) (v := _) rfl (by kernel_rfl) (by kernel_rfl) (by kernel_rfl) (fun _ _ _ h => h) (Or.inr ⟨by rfl, rfl⟩) (by assumption) ?_)
                    try simp only [Act.put, List.getElem_toArray, List.getElem_cons_succ, List.getElem_cons_zero, List.setIfInBounds_toArray, List.set_cons_zero, List.set_cons_succ]
                    first | (refine wpAnyH_take (i := 13) (v := ?_) rfl (by kernel_rfl) (by kernel_rfl) (by kernel_rfl) (fun _ _ _ h => h) (Or.inl ⟨by rfl, ?hy⟩) (by assumption) ?_; case hy => (intro w hSw; (try dsimp only at hSw); go_simp; (try with_reducible rfl))) | (refine wpAnyH_take (i := 13) (v := _) rfl (by kernel_rfl) (by kernel_rfl) (by kernel_rfl) (fun _ _ _ h => h) (Or.inr ⟨by rfl, rfl⟩) (by assumption) ?_)
                    try simp only [Act.put, List.getElem_toArray, List.getElem_cons_succ, List.getElem_cons_zero, List.setIfInBounds_toArray, List.set_cons_zero, List.set_cons_succ]
                    first | (refine wpAnyH_take (i := 14) (v := ?_) rfl (by kernel_rfl) (by kernel_rfl) (by kernel_rfl) (fun _ _ _ h => h) (Or.inl ⟨by rfl, ?hy⟩) (by assumption) ?_; case hy => (intro w hSw; (try dsimp only at hSw); go_simp; (try with_reducible rfl))) | (refine wpAnyH_take (i := 14) (v := _) rfl (by kernel_rfl) (by kernel_rfl) (by kernel_rfl) (fun _ _ _ h => h) (Or.inr ⟨by rfl, rfl⟩) (by assumption) ?_)
                    try simp only [Act.put, List.getElem_toArray, List.getElem_cons_succ, List.getElem_cons_zero, List.setIfInBounds_toArray, List.set_cons_zero, List.set_cons_succ]
                    first | (refine wpAnyH_take (i := 15) (v := ?_) rfl (by kernel_rfl) (by kernel_rfl) (by kernel_rfl) (fun _ _ _ h => h) (Or.inl ⟨by rfl, ?hy⟩) (by assumption) ?_; case hy => (intro w hSw; (try dsimp only at hSw); go_simp; (try with_reducible rfl))) | (refine wpAnyH_take (i := 15) (v := _) rfl (by kernel_rfl) (by kernel_rfl) (by kernel_rfl) (fun _ _ _ h => h) (Or.inr ⟨by rfl, rfl⟩) (by assumption) ?_)
                    try simp only [Act.put, List.getElem_toArray, List.getElem_cons_succ, List.getElem_cons_zero, List.setIfInBounds_toArray, List.set_cons_zero, List.set_cons_succ]
                    first | (refine wpAnyH_take (i := 16) (v := ?_) rfl (by kernel_rfl) (by kernel_rfl) (by kernel_rfl) (fun _ _ _ h => h) (Or.inl ⟨by rfl, ?hy⟩) (by assumption) ?_; case hy => (intro w hSw; (try dsimp only at hSw); go_simp; (try with_reducible rfl))) | (refine wpAnyH_take (i := 16) (v := _) rfl (by kernel_rfl) (by kernel_rfl) (by kernel_rfl) (fun _ _ _ h => h) (Or.inr ⟨by rfl, rfl⟩) (by assumption) ?_)
                    try simp only [Act.put, List.getElem_toArray, List.getElem_cons_succ, List.getElem_cons_zero, List.setIfInBounds_toArray, List.set_cons_zero, List.set_cons_succ]
                    refine wpAnyH_done (by kernel_rfl) ?_ _
                    go_wp2_with fail
                    go_meet
                    exact ⟨_, rfl, by simp; omega, hn.undrew⟩
                case rest => as_aux_lemma =>
                  obtain ⟨B, rfl, hB, hn⟩ := hcut
                  have HB := Lib.hid hB
                  clear hB
                  cases B with
                  | true => as_aux_lemma =>
                    have HBAD := Lib.hid (HB.out.1 rfl)
                    clear HB
                    go_wp2
                    go_meet
                    exact ⟨_, rfl, (congrArg Value.bool B14.out).symm, .inr ⟨by decide, by rw [vchk_rest HVF.out HLP.out HBLK.out, if_pos HBAD.out]⟩, hn⟩
                  | false => as_aux_lemma =>
                    have HBAD := Lib.hid (mt HB.out.2 (by simp))
                    have z1 := hn.cell (a := ⟨b, 1, none⟩) g1 id
                    have z3 := hn.cell (a := ⟨W1.heap.size, 3, none⟩) g3 id
                    have z4 := hn.cell (a := ⟨W1.heap.size, 4, none⟩) g4 id
                    have HN := Lib.hid hn
                    have HVP := Lib.hid (show vchk c n m ((L.drop (i + 1)).length + 1) nest np s1.h = if s1.h < vtakes c ∨ 8 < s1.h - vtakes c + vputs c then some 20 else none from by rw [vchk_rest HVF.out HLP.out HBLK.out, if_neg HBAD.out])
                    clear HB hn
                    have hTb := vtakes_le c
                    have hPb := vputs_le c
                    generalize vtakes c = T at *
                    generalize vputs c = P at *
                    have y1 : IntKind.i64.wrap ((s1.h : Int) - (T : Int)) = (s1.h : Int) - (T : Int) := by rw [IntKind.wrap_i64]; omega
                    have y2 : IntKind.i64.wrap ((s1.h : Int) - (T : Int) + (P : Int)) = (s1.h : Int) - (T : Int) + (P : Int) := by rw [IntKind.wrap_i64]; omega
                    by_cases hT : s1.h < T
                    · as_aux_lemma =>
                      have d1 : decide (s1.h < T) = true := by simp; omega
                      have d2 : decide ((s1.h : Int) < (T : Int)) = true := by simp; omega
                      go_wp2
                      go_quiet (fail)
                      clear y1 y2
                      go_wp2
                      go_meet
                      exact ⟨_, rfl, (congrArg Value.bool B14.out).symm, .inr ⟨by decide, by rw [HVP.out, if_pos (.inl hT)]⟩, HN.out.drewN _⟩
                    · by_cases hP : 8 < s1.h - T + P
                      · as_aux_lemma =>
                        have d1 : decide (s1.h < T) = false := by simp; omega
                        have d2 : decide ((s1.h : Int) < (T : Int)) = false := by simp; omega
                        have d3 : decide (8 < (s1.h : Int) - (T : Int) + (P : Int)) = true := by simp; omega
                        go_wp2
                        go_quiet (fail)
                        clear y1 y2
                        go_wp2
                        go_meet
                        exact ⟨_, rfl, (congrArg Value.bool B14.out).symm, .inr ⟨by decide, by rw [HVP.out, if_pos (.inr hP)]⟩, HN.out.drewN _⟩
                      · as_aux_lemma =>
                        have d1 : decide (s1.h < T) = false := by simp; omega
                        have d2 : decide ((s1.h : Int) < (T : Int)) = false := by simp; omega
                        have d3 : decide (8 < (s1.h : Int) - (T : Int) + (P : Int)) = false := by simp; omega
                        go_wp2
                        go_quiet (fail)
                        clear y1 y2
                        go_wp2
                        go_meet
                        exact ⟨_, rfl, (congrArg Value.bool B14.out).symm, .inl ⟨rfl, by rw [HVP.out, if_neg (by omega)]⟩, HN.out.drewN _⟩
              · as_aux_lemma =>
                have b14 : decide (14 ≤ c) = true := by simp; omega
                have B14 := Lib.hid b14
                have d1 : decide (vlen c n m < 1) = false := by simp; omega
                have d2 : decide ((L.length : Int) - i - 1 < vlen c n m) = false := by simp; omega
                have d3 : ((nest : Int) == 3) = false := by simp; omega
                have hblk : 14 ≤ c → (1 ≤ vlen c n m ∧ vlen c n m < (((L.drop (i + 1)).length + 1 : Nat) : Int)) ∧ nest ≠ 3 := fun _ => ⟨⟨hl, by rw [HROOM.out]; omega⟩, by omega⟩
                have HBLK := Lib.hid hblk
                clear hblk
                go_upto_region 19 with fail
                go_cut [87] (fun s87 wy => ∃ B : Bool, s87 = .bool B ∧ (B = true ↔ ((10 ≤ c ∧ c ≤ 13) ∧ (n < 0 ∨ np ≤ n))) ∧ Nw (W1.alloc (.cells #[.string str, .bool (kN c.toNat), .bool (kM c.toNat), .int .i64 (vtakes c), .int .i64 (vputs c)] 66)) wy)
                case first =>
                  · as_aux_lemma =>
                    have HP1 : ∀ (w : World) (R : Ending → World → Prop), (∀ w', Nw w w' → R (.returned (.bool false)) w') → Calls Tryz.prog 39 #[.agg #[.int .i64 c, .int .i64 n, .int .i64 m]] w R := fun w R h => point_any c n m w R (by first | (rw [decide_eq_false (by omega)]; exact h) | (rw [decide_eq_true (by omega)]; exact h))
                    have HPT := Lib.hid HP1
                    clear HP1
                    refine wp_region_held_drew (S := fun w' => w'.cell? ⟨wr.heap.size, 0, none⟩ = some (.int .i64 c) ∧ w'.cell? ⟨wr.heap.size, 1, none⟩ = some (.int .i64 n) ∧ w'.cell? ⟨wr.heap.size, 2, none⟩ = some (.int .i64 m) ∧ w'.cell? ⟨b, 0, none⟩ = some (.int .i64 np)) (by kernel_rfl) ⟨gc, g2, gm, g0⟩ (fun hHeld => ?_)
                    first | (refine wpAnyH_take (i := 0) (v := ?_) rfl (by kernel_rfl) (by kernel_rfl) (by kernel_rfl) (fun _ _ _ h => h) (Or.inl ⟨by rfl, ?hy⟩) (by assumption) ?_; case hy => (intro w hSw; (try dsimp only at hSw); go_simp; (try with_reducible rfl))) | (refine wpAnyH_take (i := 0) (v := _) rfl (by kernel_rfl) (by kernel_rfl) (by kernel_rfl) (fun _ _ _ h => h) (Or.inr ⟨by rfl, rfl⟩) (by assumption) ?_)
                    try simp only [Act.put, List.getElem_toArray, List.getElem_cons_succ, List.getElem_cons_zero, List.setIfInBounds_toArray, List.set_cons_zero, List.set_cons_succ]
                    refine wpAnyH_ready (rs := [1]) (by kernel_rfl) (by simp) ?_
                    refine AllReadyH.cons rfl (fun K hK => ?_) AllReadyH.nil
                    go_simp
                    go_at_call 39
                    refine HPT.out _ _ ?_
                    intro w2 hn
                    refine hK.out _ _ ⟨hn.cell gc id, hn.cell g2 id, hn.cell gm id, hn.cell g0 id⟩ (fun hHeld2 => ?_)
                    clear hK K
                    first | (refine wpAnyH_take (i := 2) (v := ?_) rfl (by kernel_rfl) (by kernel_rfl) (by kernel_rfl) (fun _ _ _ h => h) (Or.inl ⟨by rfl, ?hy⟩) (by assumption) ?_; case hy => (intro w hSw; (try dsimp only at hSw); go_simp; (try with_reducible rfl))) | (refine wpAnyH_take (i := 2) (v := _) rfl (by kernel_rfl) (by kernel_rfl) (by kernel_rfl) (fun _ _ _ h => h) (Or.inr ⟨by rfl, rfl⟩) (by assumption) ?_)
                    try simp only [Act.put, List.getElem_toArray, List.getElem_cons_succ, List.getElem_cons_zero, List.setIfInBounds_toArray, List.set_cons_zero, List.set_cons_succ]
                    first | (refine wpAnyH_take (i := 3) (v := ?_) rfl (by kernel_rfl) (by kernel_rfl) (by kernel_rfl) (fun _ _ _ h => h) (Or.inl ⟨by rfl, ?hy⟩) (by assumption) ?_; case hy => (intro w hSw; (try dsimp only at hSw); go_simp; (try with_reducible rfl))) | (refine wpAnyH_take (i := 3) (v := _) rfl (by kernel_rfl) (by kernel_rfl) (by kernel_rfl) (fun _ _ _ h => h) (Or.inr ⟨by rfl, rfl⟩) (by assumption) ?_)
                    try simp only [Act.put, List.getElem_toArray, List.getElem_cons_succ, List.getElem_cons_zero, List.setIfInBounds_toArray, List.set_cons_zero, List.set_cons_succ]
                    first | (refine wpAnyH_take (i := 4) (v := ?_) rfl (by kernel_rfl) (by kernel_rfl) (by kernel_rfl) (fun _ _ _ h => h) (Or.inl ⟨by rfl, ?hy⟩) (by assumption) ?_; case hy => (intro w hSw; (try dsimp only at hSw); go_simp; (try with_reducible rfl))) | (refine wpAnyH_take (i := 4) (v := _) rfl (by kernel_rfl) (by kernel_rfl) (by kernel_rfl) (fun _ _ _ h => h) (Or.inr ⟨by rfl, rfl⟩) (by assumption) ?_)
                    try simp only [Act.put, List.getElem_toArray, List.getElem_cons_succ, List.getElem_cons_zero, List.setIfInBounds_toArray, List.set_cons_zero, List.set_cons_succ]
                    first | (refine wpAnyH_take (i := 5) (v := ?_) rfl (by kernel_rfl) (by kernel_rfl) (by kernel_rfl) (fun _ _ _ h => h) (Or.inl ⟨by rfl, ?hy⟩) (by assumption) ?_; case hy => (intro w hSw; (try dsimp only at hSw); go_simp; (try with_reducible rfl))) | (refine wpAnyH_take (i := 5) (v := _) rfl (by kernel_rfl) (by kernel_rfl) (by kernel_rfl) (fun _ _ _ h => h) (Or.inr ⟨by rfl, rfl⟩) (by assumption) ?_)
                    try simp only [Act.put, List.getElem_toArray, List.getElem_cons_succ, List.getElem_cons_zero, List.setIfInBounds_toArray, List.set_cons_zero, List.set_cons_succ]
                    first | (refine wpAnyH_take (i := 6) (v := ?_) rfl (by kernel_rfl) (by kernel_rfl) (by kernel_rfl) (fun _ _ _ h => h) (Or.inl ⟨by rfl, ?hy⟩) (by assumption) ?_; case hy => (intro w hSw; (try dsimp only at hSw); go_simp; (try with_reducible rfl))) | (refine wpAnyH_take (i := 6) (v := _) rfl (by kernel_rfl) (by kernel_rfl) (by kernel_rfl) (fun _ _ _ h => h) (Or.inr ⟨by rfl, rfl⟩) (by assumption) ?_)
                    try simp only [Act.put, List.getElem_toArray, List.getElem_cons_succ, List.getElem_cons_zero, List.setIfInBounds_toArray, List.set_cons_zero, List.set_cons_succ]
                    first | (refine wpAnyH_take (i := 7) (v := ?_) rfl (by kernel_rfl) (by kernel_rfl) (by kernel_rfl) (fun _ _ _ h => h) (Or.inl ⟨by rfl, ?hy⟩) (by assumption) ?_; case hy => (intro w hSw; (try dsimp only at hSw); go_simp; (try with_reducible rfl))) | (refine wpAnyH_take (i := 7) (v := _) rfl (by kernel_rfl) (by kernel_rfl) (by kernel_rfl) (fun _ _ _ h => h) (Or.inr ⟨by rfl, rfl⟩) (by assumption) ?_)
                    try simp only [Act.put, List.getElem_toArray, List.getElem_cons_succ, List.getElem_cons_zero, List.setIfInBounds_toArray, List.set_cons_zero, List.set_cons_succ]
                    first | (refine wpAnyH_take (i := 8) (v := ?_) rfl (by kernel_rfl) (by kernel_rfl) (by kernel_rfl) (fun _ _ _ h => h) (Or.inl ⟨by rfl, ?hy⟩) (by assumption) ?_; case hy => (intro w hSw; (try dsimp only at hSw); go_simp; (try with_reducible rfl))) | (refine wpAnyH_take (i := 8) (v := _) rfl (by kernel_rfl) (by kernel_rfl) (by kernel_rfl) (fun _ _ _ h => h) (Or.inr ⟨by rfl, rfl⟩) (by assumption) ?_)
                    try simp only [Act.put, List.getElem_toArray, List.getElem_cons_succ, List.getElem_cons_zero, List.setIfInBounds_toArray, List.set_cons_zero, List.set_cons_succ]
                    first | (refine wpAnyH_take (i := 9) (v := ?_) rfl (by kernel_rfl) (by kernel_rfl) (by kernel_rfl) (fun _ _ _ h => h) (Or.inl ⟨by rfl, ?hy⟩) (by assumption) ?_; case hy => (intro w hSw; (try dsimp only at hSw); go_simp; (try with_reducible rfl))) | (refine wpAnyH_take (i := 9) (v := _) rfl (by kernel_rfl) (by kernel_rfl) (by kernel_rfl) (fun _ _ _ h => h) (Or.inr ⟨by rfl, rfl⟩) (by assumption) ?_)
                    try simp only [Act.put, List.getElem_toArray, List.getElem_cons_succ, List.getElem_cons_zero, List.setIfInBounds_toArray, List.set_cons_zero, List.set_cons_succ]
                    first | (refine wpAnyH_take (i := 10) (v := ?_) rfl (by kernel_rfl) (by kernel_rfl) (by kernel_rfl) (fun _ _ _ h => h) (Or.inl ⟨by rfl, ?hy⟩) (by assumption) ?_; case hy => (intro w hSw; (try dsimp only at hSw); go_simp; (try with_reducible rfl))) | (refine wpAnyH_take (i := 10) (v := _) rfl (by kernel_rfl) (by kernel_rfl) (by kernel_rfl) (fun _ _ _ h => h) (Or.inr ⟨by rfl, rfl⟩) (by assumption) ?_)
                    try simp only [Act.put, List.getElem_toArray, List.getElem_cons_succ, List.getElem_cons_zero, List.setIfInBounds_toArray, List.set_cons_zero, List.set_cons_succ]
                    first | (refine wpAnyH_take (i := 11) (v := ?_) rfl (by kernel_rfl) (by kernel_rfl) (by kernel_rfl) (fun _ _ _ h => h) (Or.inl ⟨by rfl, ?hy⟩) (by assumption) ?_; case hy => (intro w hSw; (try dsimp only at hSw); go_simp; (try with_reducible rfl))) | (refine wpAnyH_take (i := 11) (v := _) rfl (by kernel_rfl) (by kernel_rfl) (by kernel_rfl) (fun _ _ _ h => h) (Or.inr ⟨by rfl, rfl⟩) (by assumption) ?_)
                    try simp only [Act.put, List.getElem_toArray, List.getElem_cons_succ, List.getElem_cons_zero, List.setIfInBounds_toArray, List.set_cons_zero, List.set_cons_succ]
                    first | (refine wpAnyH_take (i := 12) (v := ?_) rfl (by kernel_rfl) (by kernel_rfl) (by kernel_rfl) (fun _ _ _ h => h) (Or.inl ⟨by rfl, ?hy⟩) (by assumption) ?_; case hy => (intro w hSw; (try dsimp only at hSw); go_simp; (try with_reducible rfl))) | (refine wpAnyH_take (i := 12) (v := _) rfl (by kernel_rfl) (by kernel_rfl) (by kernel_rfl) (fun _ _ _ h => h) (Or.inr ⟨by rfl, rfl⟩) (by assumption) ?_)
                    try simp only [Act.put, List.getElem_toArray, List.getElem_cons_succ, List.getElem_cons_zero, List.setIfInBounds_toArray, List.set_cons_zero, List.set_cons_succ]
                    first | (refine wpAnyH_take (i := 13) (v := ?_) rfl (by kernel_rfl) (by kernel_rfl) (by kernel_rfl) (fun _ _ _ h => h) (Or.inl ⟨by rfl, ?hy⟩) (by assumption) ?_; case hy => (intro w hSw; (try dsimp only at hSw); go_simp; (try with_reducible rfl))) | (refine wpAnyH_take (i := 13) (v := _) rfl (by kernel_rfl) (by kernel_rfl) (by kernel_rfl) (fun _ _ _ h => h) (Or.inr ⟨by rfl, rfl⟩) (by assumption) ?_)
                    try simp only [Act.put, List.getElem_toArray, List.getElem_cons_succ, List.getElem_cons_zero, List.setIfInBounds_toArray, List.set_cons_zero, List.set_cons_succ]
                    first | (refine wpAnyH_take (i := 14) (v := ?_) rfl (by kernel_rfl) (by kernel_rfl) (by kernel_rfl) (fun _ _ _ h => h) (Or.inl ⟨by rfl, ?hy⟩) (by assumption) ?_; case hy => (intro w hSw; (try dsimp only at hSw); go_simp; (try with_reducible rfl))) | (refine wpAnyH_take (i := 14) (v := _) rfl (by kernel_rfl) (by kernel_rfl) (by kernel_rfl) (fun _ _ _ h => h) (Or.inr ⟨by rfl, rfl⟩) (by assumption) ?_)
                    try simp only [Act.put, List.getElem_toArray, List.getElem_cons_succ, List.getElem_cons_zero, List.setIfInBounds_toArray, List.set_cons_zero, List.set_cons_succ]
                    first | (refine wpAnyH_take (i := 15) (v := ?_) rfl (by kernel_rfl) (by kernel_rfl) (by kernel_rfl) (fun _ _ _ h => h) (Or.inl ⟨by rfl, ?hy⟩) (by assumption) ?_; case hy => (intro w hSw; (try dsimp only at hSw); go_simp; (try with_reducible rfl))) | (refine wpAnyH_take (i := 15) (v := _) rfl (by kernel_rfl) (by kernel_rfl) (by kernel_rfl) (fun _ _ _ h => h) (Or.inr ⟨by rfl, rfl⟩) (by assumption) ?_)
                    try simp only [Act.put, List.getElem_toArray, List.getElem_cons_succ, List.getElem_cons_zero, List.setIfInBounds_toArray, List.set_cons_zero, List.set_cons_succ]
                    first | (refine wpAnyH_take (i := 16) (v := ?_) rfl (by kernel_rfl) (by kernel_rfl) (by kernel_rfl) (fun _ _ _ h => h) (Or.inl ⟨by rfl, ?hy⟩) (by assumption) ?_; case hy => (intro w hSw; (try dsimp only at hSw); go_simp; (try with_reducible rfl))) | (refine wpAnyH_take (i := 16) (v := _) rfl (by kernel_rfl) (by kernel_rfl) (by kernel_rfl) (fun _ _ _ h => h) (Or.inr ⟨by rfl, rfl⟩) (by assumption) ?_)
                    try simp only [Act.put, List.getElem_toArray, List.getElem_cons_succ, List.getElem_cons_zero, List.setIfInBounds_toArray, List.set_cons_zero, List.set_cons_succ]
                    refine wpAnyH_done (by kernel_rfl) ?_ _
                    go_wp2_with fail
                    go_meet
                    exact ⟨_, rfl, by simp; omega, hn.undrew⟩
                case rest => as_aux_lemma =>
                  obtain ⟨B, rfl, hB, hn⟩ := hcut
                  have HB := Lib.hid hB
                  clear hB
                  cases B with
                  | true => as_aux_lemma =>
                    have HBAD := Lib.hid (HB.out.1 rfl)
                    clear HB
                    go_wp2
                    go_meet
                    exact ⟨_, rfl, (congrArg Value.bool B14.out).symm, .inr ⟨by decide, by rw [vchk_rest HVF.out HLP.out HBLK.out, if_pos HBAD.out]⟩, hn⟩
                  | false => as_aux_lemma =>
                    have HBAD := Lib.hid (mt HB.out.2 (by simp))
                    have z1 := hn.cell (a := ⟨b, 1, none⟩) g1 id
                    have z3 := hn.cell (a := ⟨W1.heap.size, 3, none⟩) g3 id
                    have z4 := hn.cell (a := ⟨W1.heap.size, 4, none⟩) g4 id
                    have HN := Lib.hid hn
                    have HVP := Lib.hid (show vchk c n m ((L.drop (i + 1)).length + 1) nest np s1.h = if s1.h < vtakes c ∨ 8 < s1.h - vtakes c + vputs c then some 20 else none from by rw [vchk_rest HVF.out HLP.out HBLK.out, if_neg HBAD.out])
                    clear HB hn
                    have hTb := vtakes_le c
                    have hPb := vputs_le c
                    generalize vtakes c = T at *
                    generalize vputs c = P at *
                    have y1 : IntKind.i64.wrap ((s1.h : Int) - (T : Int)) = (s1.h : Int) - (T : Int) := by rw [IntKind.wrap_i64]; omega
                    have y2 : IntKind.i64.wrap ((s1.h : Int) - (T : Int) + (P : Int)) = (s1.h : Int) - (T : Int) + (P : Int) := by rw [IntKind.wrap_i64]; omega
                    by_cases hT : s1.h < T
                    · as_aux_lemma =>
                      have d1 : decide (s1.h < T) = true := by simp; omega
                      have d2 : decide ((s1.h : Int) < (T : Int)) = true := by simp; omega
                      go_wp2
                      go_quiet (fail)
                      clear y1 y2
                      go_wp2
                      go_meet
                      exact ⟨_, rfl, (congrArg Value.bool B14.out).symm, .inr ⟨by decide, by rw [HVP.out, if_pos (.inl hT)]⟩, HN.out.drewN _⟩
                    · by_cases hP : 8 < s1.h - T + P
                      · as_aux_lemma =>
                        have d1 : decide (s1.h < T) = false := by simp; omega
                        have d2 : decide ((s1.h : Int) < (T : Int)) = false := by simp; omega
                        have d3 : decide (8 < (s1.h : Int) - (T : Int) + (P : Int)) = true := by simp; omega
                        go_wp2
                        go_quiet (fail)
                        clear y1 y2
                        go_wp2
                        go_meet
                        exact ⟨_, rfl, (congrArg Value.bool B14.out).symm, .inr ⟨by decide, by rw [HVP.out, if_pos (.inr hP)]⟩, HN.out.drewN _⟩
                      · as_aux_lemma =>
                        have d1 : decide (s1.h < T) = false := by simp; omega
                        have d2 : decide ((s1.h : Int) < (T : Int)) = false := by simp; omega
                        have d3 : decide (8 < (s1.h : Int) - (T : Int) + (P : Int)) = false := by simp; omega
                        go_wp2
                        go_quiet (fail)
                        clear y1 y2
                        go_wp2
                        go_meet
                        exact ⟨_, rfl, (congrArg Value.bool B14.out).symm, .inl ⟨rfl, by rw [HVP.out, if_neg (by omega)]⟩, HN.out.drewN _⟩
            case rest => as_aux_lemma =>
              obtain ⟨x, rfl, rfl, hx, hn⟩ := hcut
              obtain ⟨W3, rfl⟩ : ∃ W : World, W = wc := ⟨_, rfl⟩
              have C3 := Lib.hid (C1.out.trans (((Ch.refl (fun j => b ≤ j) W1).alloc (.cells #[.string str, .bool (kN c.toNat), .bool (kM c.toNat), .int .i64 (vtakes c), .int .i64 (vputs c)] 66)).trans' hn (fun _ _ e => e.elim)))
              have N3 := Lib.hid (N1.out.trans (((Ch.refl (fun _ => False) W1).alloc (.cells #[.string str, .bool (kN c.toNat), .bool (kM c.toNat), .int .i64 (vtakes c), .int .i64 (vputs c)] 66)).trans hn))
              have q0 := hn.cell gc id
              have q1 := hn.cell g2 id
              have q3 := hn.cell g3 id
              have q4 := hn.cell g4 id
              have lw3 : W1.heap.size < W3.heap.size := by have := hn.size; simp at this; omega
              clear hn f0 f1 g0 g1 gc g2 gm g3 g4 kd0 kd1 kd2 kd3 kd4 k0 k1 k2 c0 c1 c2
              rcases hx with ⟨rfl, hck⟩ | ⟨hx, hck⟩
              · have HCK := Lib.hid hck
                clear hck
                obtain ⟨hform, hloop, hblk, hpt, hTh, h8⟩ := vchk_none HCK.out
                have HBLK := Lib.hid hblk
                have HVO := Lib.hid (show W3.ownsRow (b + 1) 3 1 vr s1.r.length (s1.r.map (Value.int .i64)) from vrow_ch hvo0.out N3.out (fun _ _ e => e))
                have hvb3 := N3.out.heap HVB.out id
                have v1 : W3.cell? ⟨b, 1, none⟩ = some (.int .i64 s1.h) := by rw [cell_of hvb3]; rfl
                have v2 : W3.cell? ⟨b, 2, none⟩ = some (.int .i64 s1.d) := by rw [cell_of hvb3]; rfl
                have vf1 : W3.frozen? ⟨b, 1, none⟩ = false := frozen_of hvb3
                have HVB3 := Lib.hid hvb3
                have hTb := vtakes_le c
                have hPb := vputs_le c
                obtain ⟨H, hH⟩ : ∃ H : Nat, H = s1.h - vtakes c + vputs c := ⟨_, rfl⟩
                have hH8 : H ≤ 8 := by omega
                have HH := Lib.hid hH
                clear hH
                have y1 : IntKind.i64.wrap ((vputs c : Int) - (vtakes c : Int)) = (vputs c : Int) - (vtakes c : Int) := by rw [IntKind.wrap_i64]; omega
                have y2 : IntKind.i64.wrap ((s1.h : Int) + ((vputs c : Int) - (vtakes c : Int))) = (H : Int) := by rw [IntKind.wrap_i64]; have := HH.out; omega
                clear hvb3 hform hloop hblk hpt
                go_wp2
                go_still_tail 12, (by kernel_rfl)
                clear y1 y2
                go_wp2
                refine vwp_name ?_
                intro W4 hW4
                have hvb4 : W4.heap[b]? = some (.cells #[.int .i64 np, .int .i64 (H : Int), .int .i64 s1.d, vr] 53 (0, 0)) := by rw [hW4]; exact heap_setCell_eq _ HVB3.out
                have C34 : Ch (· = b) W3 W4 := by rw [hW4]; exact ((Ch.refl (· = b) W3).setb (fun _ => rfl) _).drew
                have r1 : W4.cell? ⟨b, 1, none⟩ = some (.int .i64 (H : Int)) := by rw [cell_of hvb4]; rfl
                have r2 : W4.cell? ⟨b, 2, none⟩ = some (.int .i64 s1.d) := by rw [cell_of hvb4]; rfl
                have rf2 : W4.frozen? ⟨b, 2, none⟩ = false := frozen_of hvb4
                have HVB4 := Lib.hid hvb4
                have HC34 := Lib.hid C34
                have q04 := C34.cell q0 (by show wr.heap.size ≠ b; omega)
                have q14 := C34.cell q1 (by show wr.heap.size ≠ b; omega)
                have HVO4 := Lib.hid (vrow_ch HVO.out C34 (fun k hk e => by have := (HVO.out.lt k hk).1; omega))
                clear hW4 hvb4 C34 v1 v2 vf1 q0 q1 q3 q4
                go_cut [] (fun wx => wx.heap[b]? = some (.cells #[.int .i64 np, .int .i64 (H : Int), .int .i64 ((max s1.d H : Nat) : Int), vr] 53 (0, 0)) ∧ Ch (· = b) W4 wx)
                case first =>
                  go_still_tail 12, (by kernel_rfl)
                  go_wp2_with fail
                  all_goals
                    go_meet
                    exact ⟨(heap_setCell_eq _ HVB4.out).trans (by simp; omega), ((Ch.refl (· = b) W4).setb (fun _ => rfl) _).drew⟩
                case rest => as_aux_lemma =>
                  obtain ⟨hvb5, c45⟩ := hcut
                  obtain ⟨W5, rfl⟩ : ∃ W : World, W = wc := ⟨_, rfl⟩
                  have C5 := Lib.hid ((C3.out.trans' HC34.out (fun k hk e => by show b ≤ k; omega)).trans' c45 (fun k hk e => by show b ≤ k; omega))
                  have q05 := c45.cell q04 (by show wr.heap.size ≠ b; omega)
                  have q15 := c45.cell q14 (by show wr.heap.size ≠ b; omega)
                  have HVO5 := Lib.hid (vrow_ch HVO4.out c45 (fun k hk e => by have := (HVO4.out.lt k hk).1; omega))
                  have HVB5 := Lib.hid hvb5
                  have p1 : W5.cell? ⟨b, 1, none⟩ = some (.int .i64 (H : Int)) := by rw [cell_of hvb5]; rfl
                  have p3 : W5.cell? ⟨b, 3, none⟩ = some vr := by rw [cell_of hvb5]; rfl
                  have pf3 : W5.frozen? ⟨b, 3, none⟩ = false := frozen_of hvb5
                  have lb5 := lt_of_heap hvb5
                  clear hvb5 c45 r1 r2 rf2 q04 q14
                  have ha2 : a ≤ 262144 := by omega
                  obtain hcc | hcc | hcc | hcc | hcc : c = 12 ∨ c = 13 ∨ c ≤ 11 ∨ c = 14 ∨ c = 15 := by omega
                  · as_aux_lemma =>
                    have b14 : decide (14 ≤ c) = false := by simp; omega
                    have t12 : (c == 12) = true := by simp; omega
                    have t13 : (c == 13) = false := by simp; omega
                    have h14 : c < 14 := by omega
                    obtain ⟨fA, fcap, rfl⟩ : ∃ A c, vr = .slice A s1.r.length c := by
                      rcases HVO5.out.2 with ⟨h1, h2⟩ | ⟨g, cap, cur, h1, -⟩
                      · exact ⟨none, 0, by rw [h2]; exact h1⟩
                      · exact ⟨_, _, h1⟩
                    have NE : Hid (some b ≠ (Value.slice fA s1.r.length fcap).ownBlock) := fun e => by have := (HVO5.out.lt b e.symm).1; omega
                    obtain ⟨ti, hi1, hz1, hs1, hb1⟩ := info_parts vinfo_int
                    have HSET := Lib.hid (show (vown c n s1).r = s1.r ++ [n] from if_pos (by omega))
                    have HHU := Lib.hid (show (vown c n s1).h = H ∧ (vown c n s1).d = max s1.d H from ⟨HH.out.symm, by rw [HH.out]; rfl⟩)
                    clear hcc
                    go_wp2_with fail
                    go_region_law ((refine step_append_lies _ rfl (.tmp 163) (.tmp 166) 22 rfl (b + 1) 3 ti _ 1 8 Tryz.underlying22 hi1 hz1 hs1 hb1 rfl (by omega) (.slice fA s1.r.length fcap) s1.r.length (s1.r.map (Value.int .i64)) rfl (by first | exact HVO5.out.alloc _ | exact (HVO5.out.alloc _).drew) ⟨W5.heap.size, 0, none⟩ 1 1 [.int .i64 n] rfl rfl (by exact World.news_of_block (heap_alloc_eq _ rfl)) (by simp [Value.oneCell']) (by omega) (by unfold maxLen; omega) (by omega) (by simp; omega) (W5.heap.size + 1) (by simp) ?_; intro g cap' w6 hown1 hgrow hat hlt6; (have qh := (hgrow.block b (by simp; omega) NE.out).trans (heap_alloc_old' _ HVB5.out)); (have qf := frozen_of qh (o := 3)); (have q3 : w6.cell? ⟨b, 3, none⟩ = some (.slice fA s1.r.length fcap) := by rw [cell_of qh]; rfl); (have QH := Lib.hid qh); (have G1 := Lib.hid hgrow); (have O1 := Lib.hid hown1); clear qh hgrow hown1))
                    all_goals
                      have cg : Ch (fun k => b ≤ k) W5 w6 := by
                        have h0 : Ch (fun k => b ≤ k) W5 (W5.alloc (.cells #[.int .i64 n] 3)) := (Ch.refl _ _).alloc _
                        exact Ch.grown (by first | exact h0 | exact h0.drew) G1.out (fun k hk _ => by have := (HVO5.out.lt k hk).1; omega)
                      have cs : Ch (· = b) w6 (w6.setCell ⟨b, 3, none⟩ (.slice (some ⟨g, 0, none⟩) (s1.r.length + 1) cap')) := (Ch.refl (· = b) w6).setb (fun _ => rfl) _
                      have C6 := Lib.hid ((C5.out.trans cg).trans' cs (fun k hk e => by show b ≤ k; omega))
                      have V6 : IsVer (w6.setCell ⟨b, 3, none⟩ (.slice (some ⟨g, 0, none⟩) (s1.r.length + 1) cap')) b np (vown c n s1) := by
                        refine ⟨.slice (some ⟨g, 0, none⟩) (s1.r.length + 1) cap', ?_, ?_⟩
                        · rw [HHU.out.1, HHU.out.2]; exact heap_setCell_eq _ QH.out
                        · rw [HSET.out, List.length_append, List.map_append]
                          exact vrow_ch O1.out cs (fun k hk e => by have := (O1.out.lt k hk).1; omega)
                      have HV6 := Lib.hid V6
                      clear cg cs V6
                      go_wp2
                      go_roundw
                      case rel => exact ⟨i + 1, a + 1, vown c n s1, rfl, rfl, by go_num, by omega, by omega, by rw [HV.out, HDROP.out]; exact V_plain HCK.out h14, HV6.out, by rw [HHU.out.1]; omega, by rw [HHU.out.2]; omega, by rw [HSET.out, List.length_append, List.length_singleton]; omega, C6.out⟩
                      case measure => simp [intOf]; omega
                  · as_aux_lemma =>
                    have b14 : decide (14 ≤ c) = false := by simp; omega
                    have t12 : (c == 12) = false := by simp; omega
                    have t13 : (c == 13) = true := by simp; omega
                    have h14 : c < 14 := by omega
                    obtain ⟨fA, fcap, rfl⟩ : ∃ A c, vr = .slice A s1.r.length c := by
                      rcases HVO5.out.2 with ⟨h1, h2⟩ | ⟨g, cap, cur, h1, -⟩
                      · exact ⟨none, 0, by rw [h2]; exact h1⟩
                      · exact ⟨_, _, h1⟩
                    have NE : Hid (some b ≠ (Value.slice fA s1.r.length fcap).ownBlock) := fun e => by have := (HVO5.out.lt b e.symm).1; omega
                    obtain ⟨ti, hi1, hz1, hs1, hb1⟩ := info_parts vinfo_int
                    have HSET := Lib.hid (show (vown c n s1).r = s1.r ++ [n] from if_pos (by omega))
                    have HHU := Lib.hid (show (vown c n s1).h = H ∧ (vown c n s1).d = max s1.d H from ⟨HH.out.symm, by rw [HH.out]; rfl⟩)
                    clear hcc
                    go_wp2_with fail
                    go_region_law ((refine step_append_lies _ rfl (.tmp 163) (.tmp 166) 22 rfl (b + 1) 3 ti _ 1 8 Tryz.underlying22 hi1 hz1 hs1 hb1 rfl (by omega) (.slice fA s1.r.length fcap) s1.r.length (s1.r.map (Value.int .i64)) rfl (by first | exact HVO5.out.alloc _ | exact (HVO5.out.alloc _).drew) ⟨W5.heap.size, 0, none⟩ 1 1 [.int .i64 n] rfl rfl (by exact World.news_of_block (heap_alloc_eq _ rfl)) (by simp [Value.oneCell']) (by omega) (by unfold maxLen; omega) (by omega) (by simp; omega) (W5.heap.size + 1) (by simp) ?_; intro g cap' w6 hown1 hgrow hat hlt6; (have qh := (hgrow.block b (by simp; omega) NE.out).trans (heap_alloc_old' _ HVB5.out)); (have qf := frozen_of qh (o := 3)); (have q3 : w6.cell? ⟨b, 3, none⟩ = some (.slice fA s1.r.length fcap) := by rw [cell_of qh]; rfl); (have QH := Lib.hid qh); (have G1 := Lib.hid hgrow); (have O1 := Lib.hid hown1); clear qh hgrow hown1))
                    all_goals
                      have cg : Ch (fun k => b ≤ k) W5 w6 := by
                        have h0 : Ch (fun k => b ≤ k) W5 (W5.alloc (.cells #[.int .i64 n] 3)) := (Ch.refl _ _).alloc _
                        exact Ch.grown (by first | exact h0 | exact h0.drew) G1.out (fun k hk _ => by have := (HVO5.out.lt k hk).1; omega)
                      have cs : Ch (· = b) w6 (w6.setCell ⟨b, 3, none⟩ (.slice (some ⟨g, 0, none⟩) (s1.r.length + 1) cap')) := (Ch.refl (· = b) w6).setb (fun _ => rfl) _
                      have C6 := Lib.hid ((C5.out.trans cg).trans' cs (fun k hk e => by show b ≤ k; omega))
                      have V6 : IsVer (w6.setCell ⟨b, 3, none⟩ (.slice (some ⟨g, 0, none⟩) (s1.r.length + 1) cap')) b np (vown c n s1) := by
                        refine ⟨.slice (some ⟨g, 0, none⟩) (s1.r.length + 1) cap', ?_, ?_⟩
                        · rw [HHU.out.1, HHU.out.2]; exact heap_setCell_eq _ QH.out
                        · rw [HSET.out, List.length_append, List.map_append]
                          exact vrow_ch O1.out cs (fun k hk e => by have := (O1.out.lt k hk).1; omega)
                      have HV6 := Lib.hid V6
                      clear cg cs V6
                      go_wp2
                      go_roundw
                      case rel => exact ⟨i + 1, a + 1, vown c n s1, rfl, rfl, by go_num, by omega, by omega, by rw [HV.out, HDROP.out]; exact V_plain HCK.out h14, HV6.out, by rw [HHU.out.1]; omega, by rw [HHU.out.2]; omega, by rw [HSET.out, List.length_append, List.length_singleton]; omega, C6.out⟩
                      case measure => simp [intOf]; omega
                  · as_aux_lemma =>
                    have b14 : decide (14 ≤ c) = false := by simp; omega
                    have t12 : (c == 12) = false := by simp; omega
                    have t13 : (c == 13) = false := by simp; omega
                    have h14 : c < 14 := by omega
                    go_wp2
                    go_roundw
                    case rel => exact ⟨i + 1, a + 1, vown c n s1, rfl, rfl, by go_num, by omega, by omega, by rw [HV.out, HDROP.out]; exact V_plain HCK.out h14, by
                      refine ⟨vr, ?_, ?_⟩
                      · have := HVB5.out; rw [HH.out] at this; exact this
                      · have := HVO5.out; rw [show (vown c n s1).r = s1.r from if_neg (by omega)]; exact this, by have := HH.out; show s1.h - vtakes c + vputs c ≤ 8; omega, by have := HH.out; show max s1.d (s1.h - vtakes c + vputs c) ≤ 8; omega, by rw [show (vown c n s1).r = s1.r from if_neg (by omega)]; omega, C5.out⟩
                    case measure => simp [intOf]; omega
                  · as_aux_lemma =>
                    have b14 : decide (14 ≤ c) = true := by simp; omega
                    have t12 : (c == 12) = false := by simp; omega
                    have t13 : (c == 13) = false := by simp; omega
                    have t15 : (c == 15) = false := by simp; omega
                    have h14 : ¬ c < 14 := by omega
                    have H14 := Lib.hid h14
                    obtain ⟨⟨hl1', hl2'⟩, hn3'⟩ := HBLK.out (by omega)
                    rw [List.length_drop] at hl2'
                    generalize hql : vlen c n m = ql at *
                    have HQL := Lib.hid hql
                    clear hql h14
                    obtain ⟨ln, rfl⟩ : ∃ ln : Nat, ql = ln := ⟨ql.toNat, by omega⟩
                    have e1 : (i : Int) + 1 + (ln : Int) ≤ (L.length : Int) := by omega
                    have e2 : (i : Int) + 1 + (ln : Int) ≤ (cap : Int) := by omega
                    have e3 : (0 : Int) ≤ (i : Int) + 1 := by omega
                    have e4 : (i : Int) + 1 ≤ (i : Int) + 1 + (ln : Int) := by omega
                    have e5 : (nest : Int) < 3 := by omega
                    have e6 : (0 : Int) ≤ (ln : Int) := by omega
                    have e7 : i + 1 < cap := by omega
                    have e8 : ¬ cap = i + 1 := by omega
                    have N14 := Lib.hid hcc
                    clear hcc
                    go_wp2_with fail
                    rw [show ((nest : Int) + 1) = ((nest + 1 : Nat) : Int) from by omega]
                    have hr0 : (vown c n s1).r = s1.r := if_neg (by have := N14.out; omega)
                    have hLl : ((L.drop (i + 1)).take ln).length = ln := by rw [List.length_take, List.length_drop]; omega
                    have HLL := Lib.hid hLl
                    have HR0 := Lib.hid hr0
                    refine IH.out ((L.drop (i + 1)).take ln) (nest + 1) _ (vown c n s1) W5 _ (by rw [hLl]; omega) ((HP.out.kept C5.out (fun k hk => by show ¬ b ≤ k; omega)).sub (by omega)) (by rw [hLl]; omega) (by omega) ⟨vr, (by have := HVB5.out; rw [HH.out] at this; exact this), (by have := HVO5.out; rw [hr0]; exact this)⟩ (HKD.out.kept C5.out (show ¬ b ≤ 0 by omega)) hlo0 (by have := HH.out; show s1.h - vtakes c + vputs c ≤ 8; omega) (by have := HH.out; show max s1.d (s1.h - vtakes c + vputs c) ≤ 8; omega) (by rw [hLl, hr0]; omega) ?_ ?_
                    · intro w7 k x hVE hc7
                      have hxne := V_err_ne hVE
                      have tx : (x == 0) = false := by simp [hxne]
                      have tx' : (x != 0) = true := by simp [hxne]
                      have HVE := Lib.hid hVE
                      have HC7 := Lib.hid hc7
                      clear hVE hc7 hxne hr0 hLl
                      go_wp2
                      exact HE.out _ (a + 1) x (by rw [HV.out, HDROP.out]; exact V_inner HCK.out (by have := N14.out; omega) (by rw [HQL.out, Int.toNat_natCast]; exact HVE.out)) (C5.out.trans HC7.out)
                    · intro w7 k s2 hVE hver7 hc7
                      obtain ⟨⟨k0', kb'⟩, hh7, -, hd7, t7, ht7, ht7', -⟩ := V_bound hVE (by omega) (by have := HH.out; show s1.h - vtakes c + vputs c ≤ 8; omega) (by have := HH.out; show max s1.d (s1.h - vtakes c + vputs c) ≤ 8; omega)
                      have hlen7 : s2.r.length ≤ s1.r.length + ln := by rw [ht7, hr0, List.length_append]; omega
                      rw [hLl] at kb'
                      have hcost := vcost (r := vrounds c n) (k := k) (ln := ln) (nest := nest) (vrounds_le HLP.out) k0' (by omega) (by omega)
                      have hcst1 := hcost.1
                      have hcst2 := hcost.2
                      have hcst3 := vcost1 (k := k) (ln := ln) (nest := nest) k0' (by omega) (by omega)
                      have HVE := Lib.hid hVE
                      have HC7 := Lib.hid hc7
                      have HV7 := Lib.hid hver7
                      have u1 : w7.cell? ⟨b, 1, none⟩ = some (.int .i64 s2.h) := by obtain ⟨v7, hb7, -⟩ := hver7; rw [cell_of hb7]; rfl
                      have HRN := Lib.hid (show vrounds c n = 1 from by have := N14.out; subst this; rfl)
                      rw [HRN.out] at hcst1 hcst2
                      clear hVE hc7 hver7 hr0 hLl ht7 ht7' hcost kb'
                      by_cases heq : s2.h = H
                      · have th : ((s2.h : Int) != (H : Int)) = false := by simp [heq]
                        have th' : (s2.h != H) = false := by simp [heq]
                        have HEQ := Lib.hid heq
                        clear heq
                        go_wp2
                        go_roundw
                        case rel => exact ⟨i + ln + 1, a + 1 + vrounds c n * k, s2, by (rw [HRN.out]; try (first | rfl | go_num | simp)), rfl, by go_num, by omega, by rw [HRN.out]; constructor <;> omega, by
                          rw [HV.out, HDROP.out, V_on HCK.out (by have := N14.out; omega) (by rw [HQL.out, Int.toNat_natCast]; exact HVE.out) (by rw [HEQ.out, HH.out]; rfl), HQL.out, Int.toNat_natCast, List.drop_drop]
                          congr 2
                          omega, HV7.out, hh7, hd7, by omega, C5.out.trans HC7.out⟩
                        case measure => simp [intOf]; omega
                      · have th : ((s2.h : Int) != (H : Int)) = true := by simp; omega
                        have th' : (s2.h != H) = true := by simp; omega
                        have HEQ := Lib.hid heq
                        clear heq
                        go_wp2
                        exact HE.out _ (a + 1) 20 (by rw [HV.out, HDROP.out]; exact V_height HCK.out (by have := N14.out; omega) (by rw [HQL.out, Int.toNat_natCast]; exact HVE.out) (by rw [show (vown c n s1).h = H from HH.out.symm]; exact HEQ.out)) (C5.out.trans HC7.out)
                  · as_aux_lemma =>
                    have b14 : decide (14 ≤ c) = true := by simp; omega
                    have t12 : (c == 12) = false := by simp; omega
                    have t13 : (c == 13) = false := by simp; omega
                    have t15 : (c == 15) = true := by simp; omega
                    have h14 : ¬ c < 14 := by omega
                    have H14 := Lib.hid h14
                    obtain ⟨⟨hl1', hl2'⟩, hn3'⟩ := HBLK.out (by omega)
                    rw [List.length_drop] at hl2'
                    generalize hql : vlen c n m = ql at *
                    have HQL := Lib.hid hql
                    clear hql h14
                    obtain ⟨ln, rfl⟩ : ∃ ln : Nat, ql = ln := ⟨ql.toNat, by omega⟩
                    have e1 : (i : Int) + 1 + (ln : Int) ≤ (L.length : Int) := by omega
                    have e2 : (i : Int) + 1 + (ln : Int) ≤ (cap : Int) := by omega
                    have e3 : (0 : Int) ≤ (i : Int) + 1 := by omega
                    have e4 : (i : Int) + 1 ≤ (i : Int) + 1 + (ln : Int) := by omega
                    have e5 : (nest : Int) < 3 := by omega
                    have e6 : (0 : Int) ≤ (ln : Int) := by omega
                    have e7 : i + 1 < cap := by omega
                    have e8 : ¬ cap = i + 1 := by omega
                    have N14 := Lib.hid hcc
                    clear hcc
                    go_wp2_with fail
                    rw [show ((nest : Int) + 1) = ((nest + 1 : Nat) : Int) from by omega]
                    have hr0 : (vown c n s1).r = s1.r := if_neg (by have := N14.out; omega)
                    have hLl : ((L.drop (i + 1)).take ln).length = ln := by rw [List.length_take, List.length_drop]; omega
                    have HLL := Lib.hid hLl
                    have HR0 := Lib.hid hr0
                    refine IH.out ((L.drop (i + 1)).take ln) (nest + 1) _ (vown c n s1) W5 _ (by rw [hLl]; omega) ((HP.out.kept C5.out (fun k hk => by show ¬ b ≤ k; omega)).sub (by omega)) (by rw [hLl]; omega) (by omega) ⟨vr, (by have := HVB5.out; rw [HH.out] at this; exact this), (by have := HVO5.out; rw [hr0]; exact this)⟩ (HKD.out.kept C5.out (show ¬ b ≤ 0 by omega)) hlo0 (by have := HH.out; show s1.h - vtakes c + vputs c ≤ 8; omega) (by have := HH.out; show max s1.d (s1.h - vtakes c + vputs c) ≤ 8; omega) (by rw [hLl, hr0]; omega) ?_ ?_
                    · intro w7 k x hVE hc7
                      have hxne := V_err_ne hVE
                      have tx : (x == 0) = false := by simp [hxne]
                      have tx' : (x != 0) = true := by simp [hxne]
                      have HVE := Lib.hid hVE
                      have HC7 := Lib.hid hc7
                      clear hVE hc7 hxne hr0 hLl
                      go_wp2
                      exact HE.out _ (a + 1) x (by rw [HV.out, HDROP.out]; exact V_inner HCK.out (by have := N14.out; omega) (by rw [HQL.out, Int.toNat_natCast]; exact HVE.out)) (C5.out.trans HC7.out)
                    · intro w7 k s2 hVE hver7 hc7
                      obtain ⟨⟨k0', kb'⟩, hh7, -, hd7, t7, ht7, ht7', -⟩ := V_bound hVE (by omega) (by have := HH.out; show s1.h - vtakes c + vputs c ≤ 8; omega) (by have := HH.out; show max s1.d (s1.h - vtakes c + vputs c) ≤ 8; omega)
                      have hlen7 : s2.r.length ≤ s1.r.length + ln := by rw [ht7, hr0, List.length_append]; omega
                      rw [hLl] at kb'
                      have hcost := vcost (r := vrounds c n) (k := k) (ln := ln) (nest := nest) (vrounds_le HLP.out) k0' (by omega) (by omega)
                      have hcst1 := hcost.1
                      have hcst2 := hcost.2
                      have hcst3 := vcost1 (k := k) (ln := ln) (nest := nest) k0' (by omega) (by omega)
                      have HVE := Lib.hid hVE
                      have HC7 := Lib.hid hc7
                      have HV7 := Lib.hid hver7
                      have u1 : w7.cell? ⟨b, 1, none⟩ = some (.int .i64 s2.h) := by obtain ⟨v7, hb7, -⟩ := hver7; rw [cell_of hb7]; rfl
                      have HRN := Lib.hid (show vrounds c n = n from by have := N14.out; subst this; rfl)
                      rw [HRN.out] at hcst1 hcst2
                      clear hVE hc7 hver7 hr0 hLl ht7 ht7' hcost kb'
                      by_cases heq : s2.h = H
                      · have th : ((s2.h : Int) != (H : Int)) = false := by simp [heq]
                        have th' : (s2.h != H) = false := by simp [heq]
                        have HEQ := Lib.hid heq
                        clear heq
                        go_wp2
                        go_roundw
                        case rel => exact ⟨i + ln + 1, a + 1 + vrounds c n * k, s2, by (rw [HRN.out]; try (first | rfl | go_num | simp)), rfl, by go_num, by omega, by rw [HRN.out]; constructor <;> omega, by
                          rw [HV.out, HDROP.out, V_on HCK.out (by have := N14.out; omega) (by rw [HQL.out, Int.toNat_natCast]; exact HVE.out) (by rw [HEQ.out, HH.out]; rfl), HQL.out, Int.toNat_natCast, List.drop_drop]
                          congr 2
                          omega, HV7.out, hh7, hd7, by omega, C5.out.trans HC7.out⟩
                        case measure => simp [intOf]; omega
                      · have th : ((s2.h : Int) != (H : Int)) = true := by simp; omega
                        have th' : (s2.h != H) = true := by simp; omega
                        have HEQ := Lib.hid heq
                        clear heq
                        go_wp2
                        exact HE.out _ (a + 1) 20 (by rw [HV.out, HDROP.out]; exact V_height HCK.out (by have := N14.out; omega) (by rw [HQL.out, Int.toNat_natCast]; exact HVE.out) (by rw [show (vown c n s1).h = H from HH.out.symm]; exact HEQ.out)) (C5.out.trans HC7.out)
              · as_aux_lemma =>
                have tx : (x != 0) = true := by simp [hx]
                have HCK := Lib.hid hck
                clear hck hx
                go_wp2
                refine HE.out _ a x ?_ C3.out
                rw [HV.out, HDROP.out]
                exact V_bad HCK.out
    · have i1 : ¬ (i : Int) < (L.length : Int) := by omega
      go_wp2
      refine HK.out _ a s1 ?_ HVER.out HCH.out
      rw [HV.out, List.drop_eq_nil_of_le (by omega), V_nil]
end Go.Proofs.YtdpbdcaefdcooaaGreatDoor
