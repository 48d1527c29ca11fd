/-
  indelibleref04.Parse: the bitmap with given rows.
-/
import Derived.Test.YtaafmgkjfmngjaaDoorNew4
import Derived.Test.YtaafmgkjfmngjaaDoorPb4
import Derived.Test.YtaafmgkjfmngjaaDoorTx4
import Derived.Test.YtaafmgkjfmngjaaDoorRegU
import Derived.Laws.DeepStrings4
namespace Go.Proofs.YtaafmgkjfmngjaaDoor
open Go.RowKit
set_option linter.unusedVariables false
set_option linter.unusedSimpArgs false
set_option maxRecDepth 100000

theorem ba_get4 (s : ByteArray) (k : Nat) (h : k < s.size) : s.data.toList[k]? = some (s[k]'h) := by
  have : k < s.data.toList.length := by rw [ba_len4]; exact h
  rw [List.getElem?_eq_getElem this]
  rfl
theorem u8_ten4 (c : UInt8) : (c = 10 ↔ (c.toNat : Int) = 10) := by
  constructor
  · rintro rfl; rfl
  · intro h
    have : c.toNat = 10 := by omega
    exact UInt8.toNat_inj.1 this

set_option maxHeartbeats 8000000 in
theorem rbParse_any (s : ByteArray) (w : World) (R : Ending → World → Prop) (hs : s.size ≤ 1000000)
    (hR : ∀ w' v', IsBm w' w'.heap.size v' (parseB s.data.toList).1 → Nw w w' → R (.returned (.tuple #[v', .bool (parseB s.data.toList).2])) w') : Calls Tryd.prog 32 #[.string s] w R := by
  have HR := Lib.hid hR
  clear hR
  obtain ⟨L, hL⟩ : ∃ L, s.data.toList = L := ⟨_, rfl⟩
  have hget : ∀ k (h : k < s.size), L[k]? = some (s[k]'h) := fun k h => by rw [← hL]; exact ba_get4 s k h
  have hlen : L.length = s.size := by rw [← hL]; exact ba_len4 s
  rw [hL] at HR
  have HL := Lib.hid hL
  have HGET := Lib.hid hget
  have HLEN := Lib.hid hlen
  clear hL hget hlen
  have HN := Lib.hid (show Nw w (w.alloc (.cells #[.int .i64 0, .int .i64 0, .slice none 0 0] 28)) from (Ch.refl _ _).alloc _)
  go_enter Tryd.func32, Tryd.ntmps32
  go_wp2
  refine wp_named ?_
  intro W1 hW
  have RB := Lib.hid (show W1.heap[w.heap.size]? = some (.cells #[.int .i64 0, .int .i64 0, .slice none 0 0] 28 (0, 0)) from by rw [hW]; exact heap_alloc_eq _ rfl)
  have N1 := Lib.hid (show Nw w W1 from by rw [hW]; exact HN.out)
  have SZ : W1.heap.size = w.heap.size + 1 := by rw [hW]; exact alloc_size _ _
  clear hW HN
  have r0 : W1.cell? ⟨w.heap.size, 0, none⟩ = some (.int .i64 0) := by rw [cell_of RB.out]; rfl
  have r1 : W1.cell? ⟨w.heap.size, 1, none⟩ = some (.int .i64 0) := by rw [cell_of RB.out]; rfl
  have r2 : W1.cell? ⟨w.heap.size, 2, none⟩ = some (.slice none 0 0) := by rw [cell_of RB.out]; rfl
  have q0 : W1.frozen? ⟨w.heap.size, 0, none⟩ = false := frozen_of RB.out
  have q1 : W1.frozen? ⟨w.heap.size, 1, none⟩ = false := frozen_of RB.out
  have q2 : W1.frozen? ⟨w.heap.size, 2, none⟩ = false := frozen_of RB.out
  go_loop [4] (fun s4 => ∃ j : Nat, s4 = .int .i64 j ∧ j ≤ s.size ∧ Hid (∀ i, i < j → L[i]? ≠ some 10)) (fun s4 => s.size - (intOf s4).toNat)
  case atStart => exact ⟨0, rfl, Nat.zero_le _, Lib.hid fun i hi => by omega⟩
  case round =>
    obtain ⟨j, rfl, hj, HNO⟩ := hrel
    have j0 : (0 : Int) ≤ (j : Int) := by omega
    by_cases hgo : ∃ h : j < s.size, s[j]'h ≠ 10
    · obtain ⟨hlt, hne⟩ := hgo
      have hg := HGET.out j hlt
      obtain ⟨c, hc⟩ : ∃ c, s[j]'hlt = c := ⟨_, rfl⟩
      rw [hc] at hg hne
      have t1 : ((c.toNat : Int) != 10) = true := by simp; exact fun h => hne ((u8_ten4 c).2 h)
      have HG := Lib.hid hg
      have HNE := Lib.hid hne
      have j1 : (j : Int) < (s.size : Int) := by omega
      clear hg hne
      go_wp2
      go_round
      case rel =>
        refine ⟨j + 1, by go_num, by omega, Lib.hid fun i hi => ?_⟩
        by_cases e : i = j
        · subst e
          rw [HG.out]
          exact fun h => HNE.out (by injection h)
        · exact HNO.out i (by omega)
      case measure => simp [intOf]; omega
    · have hten : j < s.size → L[j]? = some 10 := fun h => by
        rw [HGET.out j h]
        by_cases e : s[j]'h = 10
        · rw [e]
        · exact absurd ⟨h, e⟩ hgo
      have HTEN := Lib.hid hten
      have hwhy : ∀ H, ¬ (L.length = H * (j + 1) ∧ (1 ≤ j ∧ j ≤ 96) ∧ (1 ≤ H ∧ H ≤ 96)) → True := fun _ _ => trivial
      have NOT := Lib.hid (show (∀ H, ¬ (L.length = H * (j + 1) ∧ (1 ≤ j ∧ j ≤ 96) ∧ (1 ≤ H ∧ H ≤ 96))) → parseB L = (zeroB, false) from fun h => parse_noB fun hT => by
        obtain ⟨H, a, b, c, -⟩ := isText_idxB hT HNO.out (fun hw => HTEN.out (by rw [← HLEN.out]; exact hw)) (by rw [HLEN.out]; exact hj)
        exact h H ⟨a, b, c⟩)
      clear hwhy
      obtain ⟨q, hq'⟩ : ∃ q : Nat, s.size / (j + 1) = q := ⟨_, rfl⟩
      obtain ⟨r, hr'⟩ : ∃ r : Nat, s.size % (j + 1) = r := ⟨_, rfl⟩
      have hqr : s.size = q * (j + 1) + r := by rw [← hq', ← hr', Nat.mul_comm]; exact (Nat.div_add_mod _ _).symm
      have hrl : r < j + 1 := by rw [← hr']; exact Nat.mod_lt _ (by omega)
      have hq : (s.size : Int) / ((j : Int) + 1) = (q : Int) := by rw [← hq']; norm_cast
      have hr : (s.size : Int) % ((j : Int) + 1) = (r : Int) := by rw [← hr']; norm_cast
      have hq2 : (s.size : Int).tdiv ((j : Int) + 1) = (q : Int) := by rw [Int.tdiv_eq_ediv_of_nonneg (by omega)]; exact hq
      have hr2 : (s.size : Int).tmod ((j : Int) + 1) = (r : Int) := by rw [Int.tmod_eq_emod_of_nonneg (by omega)]; exact hr
      have jz : ¬ ((j : Int) + 1 = 0) := by omega
      have n0 : (0 : Int) ≤ (s.size : Int) := by omega
      have HQR := Lib.hid hqr
      clear hq' hr' hqr
      have qle : (q : Int) ≤ 1000000 := by
        have h1 := HQR.out
        have h2 : q ≤ q * (j + 1) := Nat.le_mul_of_pos_right _ (by omega)
        omega
      have q0' : (0 : Int) ≤ (q : Int) := by omega
      have r0' : (0 : Int) ≤ (r : Int) := by omega
      by_cases hbad : j = 0 ∨ 96 < j ∨ r ≠ 0 ∨ 96 < q
      · have NO := Lib.hid (NOT.out fun H ⟨a, b, c⟩ => by
          have h1 := HQR.out
          have h2 := HLEN.out
          have hmod : s.size % (j + 1) = 0 := by rw [← h2, a]; exact Nat.mul_mod_left _ _
          have hdiv : s.size / (j + 1) = H := by rw [← h2, a]; exact Nat.mul_div_cancel _ (by omega)
          have h3 : r = 0 := by rw [h1, Nat.mul_comm, Nat.mul_add_mod, Nat.mod_eq_of_lt hrl] at hmod; exact hmod
          have h4 : q = H := by rw [h1, Nat.mul_comm, Nat.mul_add_div (by omega), Nat.div_eq_of_lt hrl, Nat.add_zero] at hdiv; exact hdiv
          omega)
        have hleaf : (((j : Int) == 0) = true) ∨ (((j : Int) == 0) = false ∧ (96 < (j : Int))) ∨ (((j : Int) == 0) = false ∧ (j : Int) ≤ 96 ∧ ((r : Int) != 0) = true) ∨ (((j : Int) == 0) = false ∧ (j : Int) ≤ 96 ∧ ((r : Int) != 0) = false ∧ 96 < (q : Int)) := by
          by_cases a : j = 0
          · left; simp [a]
          · have a' : ((j : Int) == 0) = false := by simp; omega
            by_cases b : 96 < j
            · right; left; exact ⟨a', by omega⟩
            · by_cases c : r = 0
              · right; right; right; exact ⟨a', by omega, by simp [c], by omega⟩
              · right; right; left; exact ⟨a', by omega, by simp; omega⟩
        clear hbad
        by_cases hlt : j < s.size
        · obtain ⟨c, hc⟩ : ∃ c, s[j]'hlt = c := ⟨_, rfl⟩
          have c10 : c = 10 := by
            have := HTEN.out hlt
            rw [HGET.out j hlt, hc] at this
            injection this
          have tc : ((c.toNat : Int) != 10) = false := by rw [c10]; rfl
          have j1 : (j : Int) < (s.size : Int) := by omega
          clear c10 hgo hten
          rcases hleaf with t1 | ⟨t1, t2⟩ | ⟨t1, t2, t3⟩ | ⟨t1, t2, t3, t4⟩
          all_goals
            go_wp2
            refine bodyPost_ret (v := .tuple #[.agg #[.int .i64 0, .int .i64 0, .slice none 0 0], .bool false]) (by simp [results, Tryd.results32, go_sem, r0, r1, r2]) rfl ?_
            have h0 := fun W' => HR.out W' (.agg #[.int .i64 0, .int .i64 0, .slice none 0 0])
            rw [NO.out] at h0
            exact h0 _ (isBm_zero _ _) (((N1.out.setb (fun h => by omega) _).setb (fun h => by omega) _).setb (fun h => by omega) _)
        · have j1 : ¬ (j : Int) < (s.size : Int) := by omega
          clear hgo hten
          rcases hleaf with t1 | ⟨t1, t2⟩ | ⟨t1, t2, t3⟩ | ⟨t1, t2, t3, t4⟩
          all_goals
            go_wp2
            refine bodyPost_ret (v := .tuple #[.agg #[.int .i64 0, .int .i64 0, .slice none 0 0], .bool false]) (by simp [results, Tryd.results32, go_sem, r0, r1, r2]) rfl ?_
            have h0 := fun W' => HR.out W' (.agg #[.int .i64 0, .int .i64 0, .slice none 0 0])
            rw [NO.out] at h0
            exact h0 _ (isBm_zero _ _) (((N1.out.setb (fun h => by omega) _).setb (fun h => by omega) _).setb (fun h => by omega) _)
      · obtain ⟨g1, g2, g3, g4⟩ : ¬ j = 0 ∧ ¬ 96 < j ∧ r = 0 ∧ ¬ 96 < q := by omega
        have hlt : j < s.size := by have := HQR.out; rcases Nat.lt_or_ge j s.size with h | h; exact h; exfalso; have : s.size = j := by omega
                                    have h5 := HQR.out
                                    rw [g3, this] at h5
                                    have h6 : q = 0 ∨ 1 ≤ q := by omega
                                    rcases h6 with h6 | h6
                                    · subst h6; omega
                                    · have := Nat.mul_le_mul_right (j + 1) h6; omega
        obtain ⟨c, hc⟩ : ∃ c, s[j]'hlt = c := ⟨_, rfl⟩
        have c10 : c = 10 := by
          have := HTEN.out hlt
          rw [HGET.out j hlt, hc] at this
          injection this
        have tc : ((c.toNat : Int) != 10) = false := by rw [c10]; rfl
        have j1 : (j : Int) < (s.size : Int) := by omega
        have t1 : ((j : Int) == 0) = false := by simp; omega
        have t3 : ((r : Int) != 0) = false := by simp [g3]
        have jw : (j : Int) ≤ 96 := by omega
        have qh : (q : Int) ≤ 96 := by omega
        have q1' : 1 ≤ q := by
          rcases Nat.eq_zero_or_pos q with h | h
          · have h5 := HQR.out; rw [h, g3] at h5; omega
          · exact h
        have HLQ := Lib.hid (show L.length = q * (j + 1) from by rw [HLEN.out, HQR.out, g3]; rfl)
        clear hbad hgo hten c10 g3
        have d1 : decide (96 < (j : Int)) = false := by simp; omega
        have d2 : decide (96 < (q : Int)) = false := by simp; omega
        clear r0 r1 r2 q0 q1 q2
        obtain ⟨nD, hn⟩ : ∃ n : Nat, n = j * q := ⟨_, rfl⟩
        have hnI : (nD : Int) = (j : Int) * (q : Int) := by rw [hn]; norm_cast
        have HNI := Lib.hid hnI
        have HNN := Lib.hid hn
        clear hn hnI
        go_wp2_with (fail)
        refine rNew_ok (j : Int) (q : Int) nD _ _ ⟨by omega, by omega⟩ ⟨by omega, by omega⟩ HNI.out ?_
        intro w2 g hg hlo n2
        have NX := Lib.hid (N1.out.trans n2)
        have RB2 := Lib.hid (n2.heap RB.out id)
        have GB := Lib.hid hg
        have hgl := lt_of_heap hg
        have SZ3 := n2.size
        clear hg n2 RB N1 hc tc j1 hq2 hr2 hq hr t1 t3
        go_wp2_with (fail)
        refine wp_named ?_
        intro W2 hW
        have OB := Lib.hid (show W2.heap[w2.heap.size]? = some (.cells #[.int .i64 (j : Int), .int .i64 (q : Int), .slice (some ⟨g, 0, none⟩) nD nD] 28 (0, 0)) from by rw [hW]; exact heap_alloc_eq _ rfl)
        have RB := Lib.hid (show W2.heap[w.heap.size]? = some (.cells #[.int .i64 0, .int .i64 0, .slice none 0 0] 28 (0, 0)) from by rw [hW]; exact heap_alloc_old' _ RB2.out)
        have GG := Lib.hid (show W2.heap[g]? = some (.cells (boolC (parS j q L 0)) 4 (0, 0)) from by rw [hW, parS_zero, ← HNN.out]; exact heap_alloc_old' _ GB.out)
        have N2 := Lib.hid (show Nw w W2 from by rw [hW]; exact NX.out.alloc _)
        clear hW RB2 GB NX
        go_loopw [7, 8, 9] (fun s7 _ _ wr => ∃ k : Nat, s7 = .int .i64 k ∧ k ≤ s.size ∧ Hid (∀ p, p < k → ∃ c, L[p]? = some c ∧ (if p % (j + 1) = j then c = 10 else okB c = true)) ∧ Hid (wr.heap[g]? = some (.cells (boolC (parS j q L k)) 4 (0, 0))) ∧ Hid (Ch (· = g) W2 wr)) (fun s7 _ _ _ => s.size - (intOf s7).toNat)
        case atStart => exact ⟨0, rfl, Nat.zero_le _, Lib.hid fun p hp => by omega, GG, Lib.hid (Ch.refl _ _)⟩
        case round =>
          obtain ⟨k, rfl, hk, HOK, HGR, HC⟩ := hrel
          have k0 : (0 : Int) ≤ (k : Int) := by omega
          obtain ⟨wr0, hwr0⟩ : ∃ W : World, W = wr := ⟨_, rfl⟩
          subst hwr0
          have RB := Lib.hid (HC.out.heap RB.out (by show w.heap.size ≠ g; omega))
          have OB := Lib.hid (HC.out.heap OB.out (by show w2.heap.size ≠ g; omega))
          have NX := Lib.hid (N2.out.trans' HC.out (fun i hi e => by have e' : i = g := e; omega))
          clear GG
          by_cases hlt : k < s.size
          · obtain ⟨c, hc⟩ : ∃ c, s[k]'hlt = c := ⟨_, rfl⟩
            have HCK := Lib.hid (show L[k]? = some c from by rw [HGET.out k hlt, hc])
            have k1 : (k : Int) < (s.size : Int) := by omega
            obtain ⟨x, hx⟩ : ∃ x : Nat, k % (j + 1) = x := ⟨_, rfl⟩
            obtain ⟨r', hr'⟩ : ∃ r : Nat, k / (j + 1) = r := ⟨_, rfl⟩
            have hxj : x < j + 1 := by rw [← hx]; exact Nat.mod_lt _ (by omega)
            have hrq : r' < q := by rw [← hr']; refine Nat.div_lt_of_lt_mul ?_; rw [Nat.mul_comm]; have h5 := HLQ.out; have h6 := HLEN.out; omega
            have hek : r' * (j + 1) + x = k := by have h1 := Nat.div_add_mod k (j + 1); rw [hx, hr', Nat.mul_comm] at h1; exact h1
            have HEK := Lib.hid hek
            clear hek
            have hxI : (k : Int) % ((j : Int) + 1) = (x : Int) := by rw [← hx]; norm_cast
            have hrI : (k : Int) / ((j : Int) + 1) = (r' : Int) := by rw [← hr']; norm_cast
            have hxT : (k : Int).tmod ((j : Int) + 1) = (x : Int) := by rw [Int.tmod_eq_emod_of_nonneg k0]; exact hxI
            have hrT : (k : Int).tdiv ((j : Int) + 1) = (r' : Int) := by rw [Int.tdiv_eq_ediv_of_nonneg k0]; exact hrI
            have HX := Lib.hid hx
            have HXI := Lib.hid hxI
            have HRI := Lib.hid hrI
            clear hx hr' hxI hrI
            obtain ⟨y, hy⟩ : ∃ y : Nat, y + 1 + r' = q := ⟨q - 1 - r', by omega⟩
            have wy1 : IntKind.i64.wrap ((q : Int) - 1) = (q : Int) - 1 := by rw [IntKind.wrap_i64]; omega
            have wy2 : IntKind.i64.wrap ((q : Int) - 1 - (r' : Int)) = (y : Int) := by rw [IntKind.wrap_i64]; omega
            have wy3 : IntKind.i64.wrap ((j : Int) + 1) = (j : Int) + 1 := by rw [IntKind.wrap_i64]; omega
            have wy4 : IntKind.i64.wrap (r' : Int) = (r' : Int) := by rw [IntKind.wrap_i64]; omega
            have x0 : (0 : Int) ≤ (x : Int) := by omega
            have rr0 : (0 : Int) ≤ (r' : Int) := by omega
            by_cases hxe : x = j
            · have u1 : ((x : Int) == (j : Int)) = true := by simp [hxe]
              have HXE := Lib.hid hxe
              clear hxe
              by_cases hc10 : c = 10
              · have u2 : ((c.toNat : Int) != 10) = false := by rw [hc10]; rfl
                have HC10 := Lib.hid hc10
                clear hc10
                go_upto_region 11 with (fail)
                refine wp_named ?_
                intro W1 hW
                have n : Nw wr0 W1 := by rw [hW]; first | exact Ch.refl _ _ | exact (Ch.refl _ _).alloc _
                replace NX := Lib.hid (NX.out.trans n)
                replace RB := Lib.hid (n.heap RB.out id)
                replace OB := Lib.hid (n.heap OB.out id)
                replace HGR := Lib.hid (n.heap HGR.out id)
                replace HC := Lib.hid (HC.out.trans' n (fun _ _ e => e.elim))
                clear hW n
                refine wp_region_V (F := fun w' => w'.cell? ⟨w2.heap.size, 0, none⟩ = some (.int .i64 (j : Int)) ∧ w'.cell? ⟨w2.heap.size, 1, none⟩ = some (.int .i64 (q : Int)) ∧ w'.cell? ⟨w2.heap.size, 2, none⟩ = some (.slice (some ⟨g, 0, none⟩) nD nD)) (opsOf Tryd.f32 11) 9 9 (by kernel_rfl) (by kernel_rfl) (by kernel_rfl) (fun w w' h n => ⟨n.cell h.1 id, n.cell h.2.1 id, n.cell h.2.2 id⟩) ⟨by show W1.cell? _ = _; rw [cell_of OB.out]; rfl, by show W1.cell? _ = _; rw [cell_of OB.out]; rfl, by show W1.cell? _ = _; rw [cell_of OB.out]; rfl⟩ (fun HOPS HCL hHeld => ?_)
                refine wpU_named ?_
                intro W2 hW
                try rw [← hW] at hHeld
                have n : Nw W1 W2 := by rw [hW]; exact (Ch.refl _ _).drew
                replace NX := Lib.hid (NX.out.trans n)
                replace RB := Lib.hid (n.heap RB.out id)
                replace OB := Lib.hid (n.heap OB.out id)
                replace HGR := Lib.hid (n.heap HGR.out id)
                replace HC := Lib.hid (HC.out.trans' n (fun _ _ e => e.elim))
                clear hW n
                first | (refine wpU_takeB (i := 0) (v := ?_) HOPS rfl (by kernel_rfl) (fun _ _ _ h => h) HCL (goes_read (by rfl) ?hy) ?_; case hy => (intro w hSw; (try dsimp only at hSw); go_simp; (try with_reducible rfl))) | (refine wpU_takeB (i := 0) (v := _) HOPS rfl (by kernel_rfl) (fun _ _ _ h => h) HCL (goes_not (by rfl)) ?_)
                try simp only [Act.put, List.getElem_toArray, List.getElem_cons_succ, List.getElem_cons_zero, List.setIfInBounds_toArray, List.set_cons_zero, List.set_cons_succ]
                first | (refine wpU_takeB (i := 1) (v := ?_) HOPS rfl (by kernel_rfl) (fun _ _ _ h => h) HCL (goes_read (by rfl) ?hy) ?_; case hy => (intro w hSw; (try dsimp only at hSw); go_simp; (try with_reducible rfl))) | (refine wpU_takeB (i := 1) (v := _) HOPS rfl (by kernel_rfl) (fun _ _ _ h => h) HCL (goes_not (by rfl)) ?_)
                try simp only [Act.put, List.getElem_toArray, List.getElem_cons_succ, List.getElem_cons_zero, List.setIfInBounds_toArray, List.set_cons_zero, List.set_cons_succ]
                first | (refine wpU_takeB (i := 2) (v := ?_) HOPS rfl (by kernel_rfl) (fun _ _ _ h => h) HCL (goes_read (by rfl) ?hy) ?_; case hy => (intro w hSw; (try dsimp only at hSw); go_simp; (try with_reducible rfl))) | (refine wpU_takeB (i := 2) (v := _) HOPS rfl (by kernel_rfl) (fun _ _ _ h => h) HCL (goes_not (by rfl)) ?_)
                try simp only [Act.put, List.getElem_toArray, List.getElem_cons_succ, List.getElem_cons_zero, List.setIfInBounds_toArray, List.set_cons_zero, List.set_cons_succ]
                first | (refine wpU_takeB (i := 3) (v := ?_) HOPS rfl (by kernel_rfl) (fun _ _ _ h => h) HCL (goes_read (by rfl) ?hy) ?_; case hy => (intro w hSw; (try dsimp only at hSw); go_simp; (try with_reducible rfl))) | (refine wpU_takeB (i := 3) (v := _) HOPS rfl (by kernel_rfl) (fun _ _ _ h => h) HCL (goes_not (by rfl)) ?_)
                try simp only [Act.put, List.getElem_toArray, List.getElem_cons_succ, List.getElem_cons_zero, List.setIfInBounds_toArray, List.set_cons_zero, List.set_cons_succ]
                first | (refine wpU_takeB (i := 4) (v := ?_) HOPS rfl (by kernel_rfl) (fun _ _ _ h => h) HCL (goes_read (by rfl) ?hy) ?_; case hy => (intro w hSw; (try dsimp only at hSw); go_simp; (try with_reducible rfl))) | (refine wpU_takeB (i := 4) (v := _) HOPS rfl (by kernel_rfl) (fun _ _ _ h => h) HCL (goes_not (by rfl)) ?_)
                try simp only [Act.put, List.getElem_toArray, List.getElem_cons_succ, List.getElem_cons_zero, List.setIfInBounds_toArray, List.set_cons_zero, List.set_cons_succ]
                first | (refine wpU_takeB (i := 5) (v := ?_) HOPS rfl (by kernel_rfl) (fun _ _ _ h => h) HCL (goes_read (by rfl) ?hy) ?_; case hy => (intro w hSw; (try dsimp only at hSw); go_simp; (try with_reducible rfl))) | (refine wpU_takeB (i := 5) (v := _) HOPS rfl (by kernel_rfl) (fun _ _ _ h => h) HCL (goes_not (by rfl)) ?_)
                try simp only [Act.put, List.getElem_toArray, List.getElem_cons_succ, List.getElem_cons_zero, List.setIfInBounds_toArray, List.set_cons_zero, List.set_cons_succ]
                first | (refine wpU_takeB (i := 6) (v := ?_) HOPS rfl (by kernel_rfl) (fun _ _ _ h => h) HCL (goes_read (by rfl) ?hy) ?_; case hy => (intro w hSw; (try dsimp only at hSw); go_simp; (try with_reducible rfl))) | (refine wpU_takeB (i := 6) (v := _) HOPS rfl (by kernel_rfl) (fun _ _ _ h => h) HCL (goes_not (by rfl)) ?_)
                try simp only [Act.put, List.getElem_toArray, List.getElem_cons_succ, List.getElem_cons_zero, List.setIfInBounds_toArray, List.set_cons_zero, List.set_cons_succ]
                first | (refine wpU_takeB (i := 7) (v := ?_) HOPS rfl (by kernel_rfl) (fun _ _ _ h => h) HCL (goes_read (by rfl) ?hy) ?_; case hy => (intro w hSw; (try dsimp only at hSw); go_simp; (try with_reducible rfl))) | (refine wpU_takeB (i := 7) (v := _) HOPS rfl (by kernel_rfl) (fun _ _ _ h => h) HCL (goes_not (by rfl)) ?_)
                try simp only [Act.put, List.getElem_toArray, List.getElem_cons_succ, List.getElem_cons_zero, List.setIfInBounds_toArray, List.set_cons_zero, List.set_cons_succ]
                first | (refine wpU_takeB (i := 8) (v := ?_) HOPS rfl (by kernel_rfl) (fun _ _ _ h => h) HCL (goes_read (by rfl) ?hy) ?_; case hy => (intro w hSw; (try dsimp only at hSw); go_simp; (try with_reducible rfl))) | (refine wpU_takeB (i := 8) (v := _) HOPS rfl (by kernel_rfl) (fun _ _ _ h => h) HCL (goes_not (by rfl)) ?_)
                try simp only [Act.put, List.getElem_toArray, List.getElem_cons_succ, List.getElem_cons_zero, List.setIfInBounds_toArray, List.set_cons_zero, List.set_cons_succ]
                refine wpU_done (by kernel_rfl) (fun w3 hle => ?_) _
                have n := (hle.ahead (by kernel_rfl)).1
                replace NX := Lib.hid (NX.out.trans n)
                replace RB := Lib.hid (n.heap RB.out id)
                replace OB := Lib.hid (n.heap OB.out id)
                replace HGR := Lib.hid (n.heap HGR.out id)
                replace HC := Lib.hid (HC.out.trans' n (fun _ _ e => e.elim))
                clear n
                clear HOPS HCL hle
                repeat clear hHeld
                go_wp2_with (fail)
                refine ⟨⟨k + 1, by go_num, by omega, Lib.hid ?_, Lib.hid ?_, HC⟩, ?_⟩
                · intro p hp
                  by_cases e : p = k
                  · subst e
                    exact ⟨c, HCK.out, by rw [if_pos (by rw [HX.out]; exact HXE.out)]; exact HC10.out⟩
                  · exact HOK.out p (by omega)
                · rw [parS_same (by rw [HXI.out, HXE.out])]; exact HGR.out
                · simp [intOf]; omega
              · have u2 : ((c.toNat : Int) != 10) = true := by simp; exact fun h => hc10 ((u8_ten4 c).2 h)
                have NO := Lib.hid (show parseB L = (zeroB, false) from parse_noB fun hT => by
                  obtain ⟨H, a, b, c', dd⟩ := isText_idxB hT HNO.out (fun hw => HTEN.out (by rw [← HLEN.out]; exact hw)) (by rw [HLEN.out]; exact hj)
                  have hH : H = q := by have h1 := HLQ.out; rw [a] at h1; exact Nat.eq_of_mul_eq_mul_right (by omega) h1
                  subst hH
                  obtain ⟨d1', d2'⟩ := dd r' hrq
                  have ek := HEK.out
                  have d3 := d1'
                  have ek2 : r' * (j + 1) + j = k := by have e := HXE.out; omega
                  rw [ek2, HCK.out] at d3
                  exact hc10 (by injection d3))
                skip
                go_upto_region 11 with (fail)
                refine wp_named ?_
                intro W4 hW
                have n : Nw wr0 W4 := by rw [hW]; first | exact Ch.refl _ _ | exact (Ch.refl _ _).alloc _
                replace NX := Lib.hid (NX.out.trans n)
                replace RB := Lib.hid (n.heap RB.out id)
                replace OB := Lib.hid (n.heap OB.out id)
                replace HGR := Lib.hid (n.heap HGR.out id)
                replace HC := Lib.hid (HC.out.trans' n (fun _ _ e => e.elim))
                clear hW n
                refine wp_region_V (F := fun w' => w'.cell? ⟨w2.heap.size, 0, none⟩ = some (.int .i64 (j : Int)) ∧ w'.cell? ⟨w2.heap.size, 1, none⟩ = some (.int .i64 (q : Int)) ∧ w'.cell? ⟨w2.heap.size, 2, none⟩ = some (.slice (some ⟨g, 0, none⟩) nD nD)) (opsOf Tryd.f32 11) 9 9 (by kernel_rfl) (by kernel_rfl) (by kernel_rfl) (fun w w' h n => ⟨n.cell h.1 id, n.cell h.2.1 id, n.cell h.2.2 id⟩) ⟨by show W4.cell? _ = _; rw [cell_of OB.out]; rfl, by show W4.cell? _ = _; rw [cell_of OB.out]; rfl, by show W4.cell? _ = _; rw [cell_of OB.out]; rfl⟩ (fun HOPS HCL hHeld => ?_)
                refine wpU_named ?_
                intro W5 hW
                try rw [← hW] at hHeld
                have n : Nw W4 W5 := by rw [hW]; exact (Ch.refl _ _).drew
                replace NX := Lib.hid (NX.out.trans n)
                replace RB := Lib.hid (n.heap RB.out id)
                replace OB := Lib.hid (n.heap OB.out id)
                replace HGR := Lib.hid (n.heap HGR.out id)
                replace HC := Lib.hid (HC.out.trans' n (fun _ _ e => e.elim))
                clear hW n
                first | (refine wpU_takeB (i := 0) (v := ?_) HOPS rfl (by kernel_rfl) (fun _ _ _ h => h) HCL (goes_read (by rfl) ?hy) ?_; case hy => (intro w hSw; (try dsimp only at hSw); go_simp; (try with_reducible rfl))) | (refine wpU_takeB (i := 0) (v := _) HOPS rfl (by kernel_rfl) (fun _ _ _ h => h) HCL (goes_not (by rfl)) ?_)
                try simp only [Act.put, List.getElem_toArray, List.getElem_cons_succ, List.getElem_cons_zero, List.setIfInBounds_toArray, List.set_cons_zero, List.set_cons_succ]
                first | (refine wpU_takeB (i := 1) (v := ?_) HOPS rfl (by kernel_rfl) (fun _ _ _ h => h) HCL (goes_read (by rfl) ?hy) ?_; case hy => (intro w hSw; (try dsimp only at hSw); go_simp; (try with_reducible rfl))) | (refine wpU_takeB (i := 1) (v := _) HOPS rfl (by kernel_rfl) (fun _ _ _ h => h) HCL (goes_not (by rfl)) ?_)
                try simp only [Act.put, List.getElem_toArray, List.getElem_cons_succ, List.getElem_cons_zero, List.setIfInBounds_toArray, List.set_cons_zero, List.set_cons_succ]
                first | (refine wpU_takeB (i := 2) (v := ?_) HOPS rfl (by kernel_rfl) (fun _ _ _ h => h) HCL (goes_read (by rfl) ?hy) ?_; case hy => (intro w hSw; (try dsimp only at hSw); go_simp; (try with_reducible rfl))) | (refine wpU_takeB (i := 2) (v := _) HOPS rfl (by kernel_rfl) (fun _ _ _ h => h) HCL (goes_not (by rfl)) ?_)
                try simp only [Act.put, List.getElem_toArray, List.getElem_cons_succ, List.getElem_cons_zero, List.setIfInBounds_toArray, List.set_cons_zero, List.set_cons_succ]
                first | (refine wpU_takeB (i := 3) (v := ?_) HOPS rfl (by kernel_rfl) (fun _ _ _ h => h) HCL (goes_read (by rfl) ?hy) ?_; case hy => (intro w hSw; (try dsimp only at hSw); go_simp; (try with_reducible rfl))) | (refine wpU_takeB (i := 3) (v := _) HOPS rfl (by kernel_rfl) (fun _ _ _ h => h) HCL (goes_not (by rfl)) ?_)
                try simp only [Act.put, List.getElem_toArray, List.getElem_cons_succ, List.getElem_cons_zero, List.setIfInBounds_toArray, List.set_cons_zero, List.set_cons_succ]
                first | (refine wpU_takeB (i := 4) (v := ?_) HOPS rfl (by kernel_rfl) (fun _ _ _ h => h) HCL (goes_read (by rfl) ?hy) ?_; case hy => (intro w hSw; (try dsimp only at hSw); go_simp; (try with_reducible rfl))) | (refine wpU_takeB (i := 4) (v := _) HOPS rfl (by kernel_rfl) (fun _ _ _ h => h) HCL (goes_not (by rfl)) ?_)
                try simp only [Act.put, List.getElem_toArray, List.getElem_cons_succ, List.getElem_cons_zero, List.setIfInBounds_toArray, List.set_cons_zero, List.set_cons_succ]
                first | (refine wpU_takeB (i := 5) (v := ?_) HOPS rfl (by kernel_rfl) (fun _ _ _ h => h) HCL (goes_read (by rfl) ?hy) ?_; case hy => (intro w hSw; (try dsimp only at hSw); go_simp; (try with_reducible rfl))) | (refine wpU_takeB (i := 5) (v := _) HOPS rfl (by kernel_rfl) (fun _ _ _ h => h) HCL (goes_not (by rfl)) ?_)
                try simp only [Act.put, List.getElem_toArray, List.getElem_cons_succ, List.getElem_cons_zero, List.setIfInBounds_toArray, List.set_cons_zero, List.set_cons_succ]
                first | (refine wpU_takeB (i := 6) (v := ?_) HOPS rfl (by kernel_rfl) (fun _ _ _ h => h) HCL (goes_read (by rfl) ?hy) ?_; case hy => (intro w hSw; (try dsimp only at hSw); go_simp; (try with_reducible rfl))) | (refine wpU_takeB (i := 6) (v := _) HOPS rfl (by kernel_rfl) (fun _ _ _ h => h) HCL (goes_not (by rfl)) ?_)
                try simp only [Act.put, List.getElem_toArray, List.getElem_cons_succ, List.getElem_cons_zero, List.setIfInBounds_toArray, List.set_cons_zero, List.set_cons_succ]
                first | (refine wpU_takeB (i := 7) (v := ?_) HOPS rfl (by kernel_rfl) (fun _ _ _ h => h) HCL (goes_read (by rfl) ?hy) ?_; case hy => (intro w hSw; (try dsimp only at hSw); go_simp; (try with_reducible rfl))) | (refine wpU_takeB (i := 7) (v := _) HOPS rfl (by kernel_rfl) (fun _ _ _ h => h) HCL (goes_not (by rfl)) ?_)
                try simp only [Act.put, List.getElem_toArray, List.getElem_cons_succ, List.getElem_cons_zero, List.setIfInBounds_toArray, List.set_cons_zero, List.set_cons_succ]
                first | (refine wpU_takeB (i := 8) (v := ?_) HOPS rfl (by kernel_rfl) (fun _ _ _ h => h) HCL (goes_read (by rfl) ?hy) ?_; case hy => (intro w hSw; (try dsimp only at hSw); go_simp; (try with_reducible rfl))) | (refine wpU_takeB (i := 8) (v := _) HOPS rfl (by kernel_rfl) (fun _ _ _ h => h) HCL (goes_not (by rfl)) ?_)
                try simp only [Act.put, List.getElem_toArray, List.getElem_cons_succ, List.getElem_cons_zero, List.setIfInBounds_toArray, List.set_cons_zero, List.set_cons_succ]
                refine wpU_done (by kernel_rfl) (fun w6 hle => ?_) _
                have n := (hle.ahead (by kernel_rfl)).1
                replace NX := Lib.hid (NX.out.trans n)
                replace RB := Lib.hid (n.heap RB.out id)
                replace OB := Lib.hid (n.heap OB.out id)
                replace HGR := Lib.hid (n.heap HGR.out id)
                replace HC := Lib.hid (HC.out.trans' n (fun _ _ e => e.elim))
                clear n
                clear HOPS HCL hle
                repeat clear hHeld
                have r0 : w6.cell? ⟨w.heap.size, 0, none⟩ = some (.int .i64 0) := by rw [cell_of RB.out]; rfl
                have r1 : w6.cell? ⟨w.heap.size, 1, none⟩ = some (.int .i64 0) := by rw [cell_of RB.out]; rfl
                have r2 : w6.cell? ⟨w.heap.size, 2, none⟩ = some (.slice none 0 0) := by rw [cell_of RB.out]; rfl
                have q0 : w6.frozen? ⟨w.heap.size, 0, none⟩ = false := frozen_of RB.out
                have q1 : w6.frozen? ⟨w.heap.size, 1, none⟩ = false := frozen_of RB.out
                have q2 : w6.frozen? ⟨w.heap.size, 2, none⟩ = false := frozen_of RB.out
                go_wp2
                refine bodyPost_ret (v := .tuple #[.agg #[.int .i64 0, .int .i64 0, .slice none 0 0], .bool false]) (by simp [results, Tryd.results32, go_sem, r0, r1, r2]) rfl ?_
                have h0 := fun W' => HR.out W' (.agg #[.int .i64 0, .int .i64 0, .slice none 0 0])
                rw [NO.out] at h0
                exact h0 _ (isBm_zero _ _) (((NX.out.setb (fun h => by omega) _).setb (fun h => by omega) _).setb (fun h => by omega) _)
            · have u1 : ((x : Int) == (j : Int)) = false := by simp; omega
              have xj : x < j := by omega
              have xjI : (x : Int) < (j : Int) := by omega
              by_cases hok : okB c = true
              · have HOKC := Lib.hid hok
                obtain ⟨p, hp⟩ : ∃ p : Nat, p = y * j + x := ⟨_, rfl⟩
                have hpI : (y : Int) * (j : Int) + (x : Int) = (p : Int) := by rw [hp]; norm_cast
                obtain ⟨P, hP⟩ : ∃ P : Nat, P = y * j := ⟨_, rfl⟩
                have hyj : (y : Int) * (j : Int) = (P : Int) := by rw [hP]; norm_cast
                have hpP : p = P + x := by rw [hp, hP]
                have HPI := Lib.hid hpI
                have hpn : p < nD := by have h1 := HNN.out; have h4 : (y + 1) * j ≤ q * j := Nat.mul_le_mul_right _ (by omega); rw [Nat.add_mul, Nat.one_mul, Nat.mul_comm q j] at h4; omega
                have n96 : nD ≤ 9216 := by have h1 := HNN.out; have h4 : j * q ≤ 96 * 96 := Nat.mul_le_mul (by omega) (by omega); omega
                have wy5 : IntKind.i64.wrap (P : Int) = (P : Int) := by rw [IntKind.wrap_i64]; omega
                have wy6 : IntKind.i64.wrap ((P : Int) + (x : Int)) = (p : Int) := by rw [IntKind.wrap_i64]; omega
                clear hp hP hpP hpI
                have pp0 : (0 : Int) ≤ (p : Int) := by omega
                have pp1 : (p : Int) < (nD : Int) := by omega
                obtain ⟨od, hod⟩ : ∃ od, (parS j q L k)[p]? = some od := ⟨_, List.getElem?_eq_getElem (by rw [parS_len]; have := HNN.out; omega)⟩
                have HOD := Lib.hid hod
                clear hod
                have hcc : (((c.toNat : Int) != 35) = false ∧ ((c.toNat : Int) == 35) = true ∧ dotC c = true) ∨ (((c.toNat : Int) != 35) = true ∧ ((c.toNat : Int) != 46) = false ∧ ((c.toNat : Int) == 35) = false ∧ dotC c = false) := by
                  have := hok
                  simp only [okB, Bool.or_eq_true, beq_iff_eq] at this
                  rcases this with rfl | rfl
                  · right; exact ⟨rfl, rfl, rfl, rfl⟩
                  · left; exact ⟨rfl, rfl, rfl⟩
                clear hok
                rcases hcc with ⟨v1, v2, v3⟩ | ⟨v1, v2, v3, v4⟩
                · as_aux_lemma =>
                  go_upto_region 11 with (fail)
                  refine wp_named ?_
                  intro W7 hW
                  have n : Nw wr0 W7 := by rw [hW]; first | exact Ch.refl _ _ | exact (Ch.refl _ _).alloc _
                  replace NX := Lib.hid (NX.out.trans n)
                  replace RB := Lib.hid (n.heap RB.out id)
                  replace OB := Lib.hid (n.heap OB.out id)
                  replace HGR := Lib.hid (n.heap HGR.out id)
                  replace HC := Lib.hid (HC.out.trans' n (fun _ _ e => e.elim))
                  clear hW n
                  refine wp_region_V (F := fun w' => w'.cell? ⟨w2.heap.size, 0, none⟩ = some (.int .i64 (j : Int)) ∧ w'.cell? ⟨w2.heap.size, 1, none⟩ = some (.int .i64 (q : Int)) ∧ w'.cell? ⟨w2.heap.size, 2, none⟩ = some (.slice (some ⟨g, 0, none⟩) nD nD)) (opsOf Tryd.f32 11) 9 9 (by kernel_rfl) (by kernel_rfl) (by kernel_rfl) (fun w w' h n => ⟨n.cell h.1 id, n.cell h.2.1 id, n.cell h.2.2 id⟩) ⟨by show W7.cell? _ = _; rw [cell_of OB.out]; rfl, by show W7.cell? _ = _; rw [cell_of OB.out]; rfl, by show W7.cell? _ = _; rw [cell_of OB.out]; rfl⟩ (fun HOPS HCL hHeld => ?_)
                  refine wpU_named ?_
                  intro W8 hW
                  try rw [← hW] at hHeld
                  have n : Nw W7 W8 := by rw [hW]; exact (Ch.refl _ _).drew
                  replace NX := Lib.hid (NX.out.trans n)
                  replace RB := Lib.hid (n.heap RB.out id)
                  replace OB := Lib.hid (n.heap OB.out id)
                  replace HGR := Lib.hid (n.heap HGR.out id)
                  replace HC := Lib.hid (HC.out.trans' n (fun _ _ e => e.elim))
                  clear hW n
                  first | (refine wpU_takeB (i := 0) (v := ?_) HOPS rfl (by kernel_rfl) (fun _ _ _ h => h) HCL (goes_read (by rfl) ?hy) ?_; case hy => (intro w hSw; (try dsimp only at hSw); go_simp; (try with_reducible rfl))) | (refine wpU_takeB (i := 0) (v := _) HOPS rfl (by kernel_rfl) (fun _ _ _ h => h) HCL (goes_not (by rfl)) ?_)
                  try simp only [Act.put, List.getElem_toArray, List.getElem_cons_succ, List.getElem_cons_zero, List.setIfInBounds_toArray, List.set_cons_zero, List.set_cons_succ]
                  first | (refine wpU_takeB (i := 1) (v := ?_) HOPS rfl (by kernel_rfl) (fun _ _ _ h => h) HCL (goes_read (by rfl) ?hy) ?_; case hy => (intro w hSw; (try dsimp only at hSw); go_simp; (try with_reducible rfl))) | (refine wpU_takeB (i := 1) (v := _) HOPS rfl (by kernel_rfl) (fun _ _ _ h => h) HCL (goes_not (by rfl)) ?_)
                  try simp only [Act.put, List.getElem_toArray, List.getElem_cons_succ, List.getElem_cons_zero, List.setIfInBounds_toArray, List.set_cons_zero, List.set_cons_succ]
                  first | (refine wpU_takeB (i := 2) (v := ?_) HOPS rfl (by kernel_rfl) (fun _ _ _ h => h) HCL (goes_read (by rfl) ?hy) ?_; case hy => (intro w hSw; (try dsimp only at hSw); go_simp; (try with_reducible rfl))) | (refine wpU_takeB (i := 2) (v := _) HOPS rfl (by kernel_rfl) (fun _ _ _ h => h) HCL (goes_not (by rfl)) ?_)
                  try simp only [Act.put, List.getElem_toArray, List.getElem_cons_succ, List.getElem_cons_zero, List.setIfInBounds_toArray, List.set_cons_zero, List.set_cons_succ]
                  first | (refine wpU_takeB (i := 3) (v := ?_) HOPS rfl (by kernel_rfl) (fun _ _ _ h => h) HCL (goes_read (by rfl) ?hy) ?_; case hy => (intro w hSw; (try dsimp only at hSw); go_simp; (try with_reducible rfl))) | (refine wpU_takeB (i := 3) (v := _) HOPS rfl (by kernel_rfl) (fun _ _ _ h => h) HCL (goes_not (by rfl)) ?_)
                  try simp only [Act.put, List.getElem_toArray, List.getElem_cons_succ, List.getElem_cons_zero, List.setIfInBounds_toArray, List.set_cons_zero, List.set_cons_succ]
                  first | (refine wpU_takeB (i := 4) (v := ?_) HOPS rfl (by kernel_rfl) (fun _ _ _ h => h) HCL (goes_read (by rfl) ?hy) ?_; case hy => (intro w hSw; (try dsimp only at hSw); go_simp; (try with_reducible rfl))) | (refine wpU_takeB (i := 4) (v := _) HOPS rfl (by kernel_rfl) (fun _ _ _ h => h) HCL (goes_not (by rfl)) ?_)
                  try simp only [Act.put, List.getElem_toArray, List.getElem_cons_succ, List.getElem_cons_zero, List.setIfInBounds_toArray, List.set_cons_zero, List.set_cons_succ]
                  first | (refine wpU_takeB (i := 5) (v := ?_) HOPS rfl (by kernel_rfl) (fun _ _ _ h => h) HCL (goes_read (by rfl) ?hy) ?_; case hy => (intro w hSw; (try dsimp only at hSw); go_simp; (try with_reducible rfl))) | (refine wpU_takeB (i := 5) (v := _) HOPS rfl (by kernel_rfl) (fun _ _ _ h => h) HCL (goes_not (by rfl)) ?_)
                  try simp only [Act.put, List.getElem_toArray, List.getElem_cons_succ, List.getElem_cons_zero, List.setIfInBounds_toArray, List.set_cons_zero, List.set_cons_succ]
                  first | (refine wpU_takeB (i := 6) (v := ?_) HOPS rfl (by kernel_rfl) (fun _ _ _ h => h) HCL (goes_read (by rfl) ?hy) ?_; case hy => (intro w hSw; (try dsimp only at hSw); go_simp; (try with_reducible rfl))) | (refine wpU_takeB (i := 6) (v := _) HOPS rfl (by kernel_rfl) (fun _ _ _ h => h) HCL (goes_not (by rfl)) ?_)
                  try simp only [Act.put, List.getElem_toArray, List.getElem_cons_succ, List.getElem_cons_zero, List.setIfInBounds_toArray, List.set_cons_zero, List.set_cons_succ]
                  first | (refine wpU_takeB (i := 7) (v := ?_) HOPS rfl (by kernel_rfl) (fun _ _ _ h => h) HCL (goes_read (by rfl) ?hy) ?_; case hy => (intro w hSw; (try dsimp only at hSw); go_simp; (try with_reducible rfl))) | (refine wpU_takeB (i := 7) (v := _) HOPS rfl (by kernel_rfl) (fun _ _ _ h => h) HCL (goes_not (by rfl)) ?_)
                  try simp only [Act.put, List.getElem_toArray, List.getElem_cons_succ, List.getElem_cons_zero, List.setIfInBounds_toArray, List.set_cons_zero, List.set_cons_succ]
                  first | (refine wpU_takeB (i := 8) (v := ?_) HOPS rfl (by kernel_rfl) (fun _ _ _ h => h) HCL (goes_read (by rfl) ?hy) ?_; case hy => (intro w hSw; (try dsimp only at hSw); go_simp; (try with_reducible rfl))) | (refine wpU_takeB (i := 8) (v := _) HOPS rfl (by kernel_rfl) (fun _ _ _ h => h) HCL (goes_not (by rfl)) ?_)
                  try simp only [Act.put, List.getElem_toArray, List.getElem_cons_succ, List.getElem_cons_zero, List.setIfInBounds_toArray, List.set_cons_zero, List.set_cons_succ]
                  refine wpU_done (by kernel_rfl) (fun w9 hle => ?_) _
                  have n := (hle.ahead (by kernel_rfl)).1
                  replace NX := Lib.hid (NX.out.trans n)
                  replace RB := Lib.hid (n.heap RB.out id)
                  replace OB := Lib.hid (n.heap OB.out id)
                  replace HGR := Lib.hid (n.heap HGR.out id)
                  replace HC := Lib.hid (HC.out.trans' n (fun _ _ e => e.elim))
                  clear n
                  clear HOPS HCL hle
                  repeat clear hHeld
                  go_upto_region 17 with (fail)
                  refine wp_named ?_
                  intro W10 hW
                  have n : Nw w9 W10 := by rw [hW]; first | exact Ch.refl _ _ | exact (Ch.refl _ _).alloc _
                  replace NX := Lib.hid (NX.out.trans n)
                  replace RB := Lib.hid (n.heap RB.out id)
                  replace OB := Lib.hid (n.heap OB.out id)
                  replace HGR := Lib.hid (n.heap HGR.out id)
                  replace HC := Lib.hid (HC.out.trans' n (fun _ _ e => e.elim))
                  clear hW n
                  refine wp_region_V (F := fun w' => w'.cell? ⟨w2.heap.size, 2, none⟩ = some (.slice (some ⟨g, 0, none⟩) nD nD)) (opsOf Tryd.f32 17) 12 13 (by kernel_rfl) (by kernel_rfl) (by kernel_rfl) (fun w w' h n => (n.cell h id)) (by show W10.cell? _ = _; rw [cell_of OB.out]; rfl) (fun HOPS HCL hHeld => ?_)
                  refine wpU_named ?_
                  intro W11 hW
                  try rw [← hW] at hHeld
                  have n : Nw W10 W11 := by rw [hW]; exact (Ch.refl _ _).drew
                  replace NX := Lib.hid (NX.out.trans n)
                  replace RB := Lib.hid (n.heap RB.out id)
                  replace OB := Lib.hid (n.heap OB.out id)
                  replace HGR := Lib.hid (n.heap HGR.out id)
                  replace HC := Lib.hid (HC.out.trans' n (fun _ _ e => e.elim))
                  clear hW n
                  first | (refine wpU_takeB (i := 0) (v := ?_) HOPS rfl (by kernel_rfl) (fun _ _ _ h => h) HCL (goes_read (by rfl) ?hy) ?_; case hy => (intro w hSw; (try dsimp only at hSw); go_simp; (try with_reducible rfl))) | (refine wpU_takeB (i := 0) (v := _) HOPS rfl (by kernel_rfl) (fun _ _ _ h => h) HCL (goes_not (by rfl)) ?_)
                  try simp only [Act.put, List.getElem_toArray, List.getElem_cons_succ, List.getElem_cons_zero, List.setIfInBounds_toArray, List.set_cons_zero, List.set_cons_succ]
                  first | (refine wpU_takeB (i := 1) (v := ?_) HOPS rfl (by kernel_rfl) (fun _ _ _ h => h) HCL (goes_read (by rfl) ?hy) ?_; case hy => (intro w hSw; (try dsimp only at hSw); go_simp; (try with_reducible rfl))) | (refine wpU_takeB (i := 1) (v := _) HOPS rfl (by kernel_rfl) (fun _ _ _ h => h) HCL (goes_not (by rfl)) ?_)
                  try simp only [Act.put, List.getElem_toArray, List.getElem_cons_succ, List.getElem_cons_zero, List.setIfInBounds_toArray, List.set_cons_zero, List.set_cons_succ]
                  first | (refine wpU_takeB (i := 2) (v := ?_) HOPS rfl (by kernel_rfl) (fun _ _ _ h => h) HCL (goes_read (by rfl) ?hy) ?_; case hy => (intro w hSw; (try dsimp only at hSw); go_simp; (try with_reducible rfl))) | (refine wpU_takeB (i := 2) (v := _) HOPS rfl (by kernel_rfl) (fun _ _ _ h => h) HCL (goes_not (by rfl)) ?_)
                  try simp only [Act.put, List.getElem_toArray, List.getElem_cons_succ, List.getElem_cons_zero, List.setIfInBounds_toArray, List.set_cons_zero, List.set_cons_succ]
                  first | (refine wpU_takeB (i := 3) (v := ?_) HOPS rfl (by kernel_rfl) (fun _ _ _ h => h) HCL (goes_read (by rfl) ?hy) ?_; case hy => (intro w hSw; (try dsimp only at hSw); go_simp; (try with_reducible rfl))) | (refine wpU_takeB (i := 3) (v := _) HOPS rfl (by kernel_rfl) (fun _ _ _ h => h) HCL (goes_not (by rfl)) ?_)
                  try simp only [Act.put, List.getElem_toArray, List.getElem_cons_succ, List.getElem_cons_zero, List.setIfInBounds_toArray, List.set_cons_zero, List.set_cons_succ]
                  first | (refine wpU_takeB (i := 4) (v := ?_) HOPS rfl (by kernel_rfl) (fun _ _ _ h => h) HCL (goes_read (by rfl) ?hy) ?_; case hy => (intro w hSw; (try dsimp only at hSw); go_simp; (try with_reducible rfl))) | (refine wpU_takeB (i := 4) (v := _) HOPS rfl (by kernel_rfl) (fun _ _ _ h => h) HCL (goes_not (by rfl)) ?_)
                  try simp only [Act.put, List.getElem_toArray, List.getElem_cons_succ, List.getElem_cons_zero, List.setIfInBounds_toArray, List.set_cons_zero, List.set_cons_succ]
                  first | (refine wpU_takeB (i := 5) (v := ?_) HOPS rfl (by kernel_rfl) (fun _ _ _ h => h) HCL (goes_read (by rfl) ?hy) ?_; case hy => (intro w hSw; (try dsimp only at hSw); go_simp; (try with_reducible rfl))) | (refine wpU_takeB (i := 5) (v := _) HOPS rfl (by kernel_rfl) (fun _ _ _ h => h) HCL (goes_not (by rfl)) ?_)
                  try simp only [Act.put, List.getElem_toArray, List.getElem_cons_succ, List.getElem_cons_zero, List.setIfInBounds_toArray, List.set_cons_zero, List.set_cons_succ]
                  first | (refine wpU_takeB (i := 6) (v := ?_) HOPS rfl (by kernel_rfl) (fun _ _ _ h => h) HCL (goes_read (by rfl) ?hy) ?_; case hy => (intro w hSw; (try dsimp only at hSw); go_simp; (try with_reducible rfl))) | (refine wpU_takeB (i := 6) (v := _) HOPS rfl (by kernel_rfl) (fun _ _ _ h => h) HCL (goes_not (by rfl)) ?_)
                  try simp only [Act.put, List.getElem_toArray, List.getElem_cons_succ, List.getElem_cons_zero, List.setIfInBounds_toArray, List.set_cons_zero, List.set_cons_succ]
                  first | (refine wpU_takeB (i := 7) (v := ?_) HOPS rfl (by kernel_rfl) (fun _ _ _ h => h) HCL (goes_read (by rfl) ?hy) ?_; case hy => (intro w hSw; (try dsimp only at hSw); go_simp; (try with_reducible rfl))) | (refine wpU_takeB (i := 7) (v := _) HOPS rfl (by kernel_rfl) (fun _ _ _ h => h) HCL (goes_not (by rfl)) ?_)
                  try simp only [Act.put, List.getElem_toArray, List.getElem_cons_succ, List.getElem_cons_zero, List.setIfInBounds_toArray, List.set_cons_zero, List.set_cons_succ]
                  first | (refine wpU_takeB (i := 8) (v := ?_) HOPS rfl (by kernel_rfl) (fun _ _ _ h => h) HCL (goes_read (by rfl) ?hy) ?_; case hy => (intro w hSw; (try dsimp only at hSw); go_simp; (try with_reducible rfl))) | (refine wpU_takeB (i := 8) (v := _) HOPS rfl (by kernel_rfl) (fun _ _ _ h => h) HCL (goes_not (by rfl)) ?_)
                  try simp only [Act.put, List.getElem_toArray, List.getElem_cons_succ, List.getElem_cons_zero, List.setIfInBounds_toArray, List.set_cons_zero, List.set_cons_succ]
                  first | (refine wpU_takeB (i := 9) (v := ?_) HOPS rfl (by kernel_rfl) (fun _ _ _ h => h) HCL (goes_read (by rfl) ?hy) ?_; case hy => (intro w hSw; (try dsimp only at hSw); go_simp; (try with_reducible rfl))) | (refine wpU_takeB (i := 9) (v := _) HOPS rfl (by kernel_rfl) (fun _ _ _ h => h) HCL (goes_not (by rfl)) ?_)
                  try simp only [Act.put, List.getElem_toArray, List.getElem_cons_succ, List.getElem_cons_zero, List.setIfInBounds_toArray, List.set_cons_zero, List.set_cons_succ]
                  first | (refine wpU_takeB (i := 10) (v := ?_) HOPS rfl (by kernel_rfl) (fun _ _ _ h => h) HCL (goes_read (by rfl) ?hy) ?_; case hy => (intro w hSw; (try dsimp only at hSw); go_simp; (try with_reducible rfl))) | (refine wpU_takeB (i := 10) (v := _) HOPS rfl (by kernel_rfl) (fun _ _ _ h => h) HCL (goes_not (by rfl)) ?_)
                  try simp only [Act.put, List.getElem_toArray, List.getElem_cons_succ, List.getElem_cons_zero, List.setIfInBounds_toArray, List.set_cons_zero, List.set_cons_succ]
                  first | (refine wpU_takeB (i := 11) (v := ?_) HOPS rfl (by kernel_rfl) (fun _ _ _ h => h) HCL (goes_read (by rfl) ?hy) ?_; case hy => (intro w hSw; (try dsimp only at hSw); go_simp; (try with_reducible rfl))) | (refine wpU_takeB (i := 11) (v := _) HOPS rfl (by kernel_rfl) (fun _ _ _ h => h) HCL (goes_not (by rfl)) ?_)
                  try simp only [Act.put, List.getElem_toArray, List.getElem_cons_succ, List.getElem_cons_zero, List.setIfInBounds_toArray, List.set_cons_zero, List.set_cons_succ]
                  refine wpU_ready (rs := [12]) (by kernel_rfl) (by simp) ?_
                  intro w12 hle
                  obtain ⟨n, hHeld⟩ := hle.ahead (by kernel_rfl)
                  clear hle
                  replace NX := Lib.hid (NX.out.trans n)
                  replace RB := Lib.hid (n.heap RB.out id)
                  replace OB := Lib.hid (n.heap OB.out id)
                  replace HGR := Lib.hid (n.heap HGR.out id)
                  replace HC := Lib.hid (HC.out.trans' n (fun _ _ e => e.elim))
                  clear n
                  refine ReadyU.last HOPS rfl (by rfl) (by kernel_rfl) (fun K hK => ?_) ReadyU.nil
                  have gc : w12.cell? ⟨g, p, none⟩ = some (.bool od) := by rw [cell_of HGR.out]; exact boolC_get HOD.out
                  have gf : w12.frozen? ⟨g, p, none⟩ = false := frozen_of HGR.out
                  go_simp
                  refine hK.out _ _ ?_
                  clear hK K
                  try simp only [Act.put, List.getElem_toArray, List.getElem_cons_succ, List.getElem_cons_zero, List.setIfInBounds_toArray, List.set_cons_zero, List.set_cons_succ]
                  refine wpU_done (by kernel_rfl) (fun w13 hle => ?_) _
                  rw [hle.behind (by kernel_rfl)]
                  clear HOPS HCL hle
                  repeat clear hHeld
                  go_wp2_with (fail)
                  refine ⟨⟨k + 1, by go_num, by omega, Lib.hid ?_, Lib.hid ?_, Lib.hid (HC.out.setb (fun _ => rfl) _)⟩, ?_⟩
                  · intro p' hp'
                    by_cases e : p' = k
                    · subst e
                      exact ⟨c, HCK.out, by rw [if_neg (by rw [HX.out]; omega)]; exact HOKC.out⟩
                    · exact HOK.out p' (by omega)
                  · rw [parS_step (x := (x : Int)) (y := (y : Int)) HXI.out ⟨x0, xjI⟩ (by rw [HRI.out]; omega) ⟨by omega, by omega⟩ HCK.out, HPI.out, Int.toNat_natCast, v3, ← boolC_set]
                    exact heap_setCell_eq _ HGR.out
                  · simp [intOf]; omega
                · as_aux_lemma =>
                  go_upto_region 11 with (fail)
                  refine wp_named ?_
                  intro W14 hW
                  have n : Nw wr0 W14 := by rw [hW]; first | exact Ch.refl _ _ | exact (Ch.refl _ _).alloc _
                  replace NX := Lib.hid (NX.out.trans n)
                  replace RB := Lib.hid (n.heap RB.out id)
                  replace OB := Lib.hid (n.heap OB.out id)
                  replace HGR := Lib.hid (n.heap HGR.out id)
                  replace HC := Lib.hid (HC.out.trans' n (fun _ _ e => e.elim))
                  clear hW n
                  refine wp_region_V (F := fun w' => w'.cell? ⟨w2.heap.size, 0, none⟩ = some (.int .i64 (j : Int)) ∧ w'.cell? ⟨w2.heap.size, 1, none⟩ = some (.int .i64 (q : Int)) ∧ w'.cell? ⟨w2.heap.size, 2, none⟩ = some (.slice (some ⟨g, 0, none⟩) nD nD)) (opsOf Tryd.f32 11) 9 9 (by kernel_rfl) (by kernel_rfl) (by kernel_rfl) (fun w w' h n => ⟨n.cell h.1 id, n.cell h.2.1 id, n.cell h.2.2 id⟩) ⟨by show W14.cell? _ = _; rw [cell_of OB.out]; rfl, by show W14.cell? _ = _; rw [cell_of OB.out]; rfl, by show W14.cell? _ = _; rw [cell_of OB.out]; rfl⟩ (fun HOPS HCL hHeld => ?_)
                  refine wpU_named ?_
                  intro W15 hW
                  try rw [← hW] at hHeld
                  have n : Nw W14 W15 := by rw [hW]; exact (Ch.refl _ _).drew
                  replace NX := Lib.hid (NX.out.trans n)
                  replace RB := Lib.hid (n.heap RB.out id)
                  replace OB := Lib.hid (n.heap OB.out id)
                  replace HGR := Lib.hid (n.heap HGR.out id)
                  replace HC := Lib.hid (HC.out.trans' n (fun _ _ e => e.elim))
                  clear hW n
                  first | (refine wpU_takeB (i := 0) (v := ?_) HOPS rfl (by kernel_rfl) (fun _ _ _ h => h) HCL (goes_read (by rfl) ?hy) ?_; case hy => (intro w hSw; (try dsimp only at hSw); go_simp; (try with_reducible rfl))) | (refine wpU_takeB (i := 0) (v := _) HOPS rfl (by kernel_rfl) (fun _ _ _ h => h) HCL (goes_not (by rfl)) ?_)
                  try simp only [Act.put, List.getElem_toArray, List.getElem_cons_succ, List.getElem_cons_zero, List.setIfInBounds_toArray, List.set_cons_zero, List.set_cons_succ]
                  first | (refine wpU_takeB (i := 1) (v := ?_) HOPS rfl (by kernel_rfl) (fun _ _ _ h => h) HCL (goes_read (by rfl) ?hy) ?_; case hy => (intro w hSw; (try dsimp only at hSw); go_simp; (try with_reducible rfl))) | (refine wpU_takeB (i := 1) (v := _) HOPS rfl (by kernel_rfl) (fun _ _ _ h => h) HCL (goes_not (by rfl)) ?_)
                  try simp only [Act.put, List.getElem_toArray, List.getElem_cons_succ, List.getElem_cons_zero, List.setIfInBounds_toArray, List.set_cons_zero, List.set_cons_succ]
                  first | (refine wpU_takeB (i := 2) (v := ?_) HOPS rfl (by kernel_rfl) (fun _ _ _ h => h) HCL (goes_read (by rfl) ?hy) ?_; case hy => (intro w hSw; (try dsimp only at hSw); go_simp; (try with_reducible rfl))) | (refine wpU_takeB (i := 2) (v := _) HOPS rfl (by kernel_rfl) (fun _ _ _ h => h) HCL (goes_not (by rfl)) ?_)
                  try simp only [Act.put, List.getElem_toArray, List.getElem_cons_succ, List.getElem_cons_zero, List.setIfInBounds_toArray, List.set_cons_zero, List.set_cons_succ]
                  first | (refine wpU_takeB (i := 3) (v := ?_) HOPS rfl (by kernel_rfl) (fun _ _ _ h => h) HCL (goes_read (by rfl) ?hy) ?_; case hy => (intro w hSw; (try dsimp only at hSw); go_simp; (try with_reducible rfl))) | (refine wpU_takeB (i := 3) (v := _) HOPS rfl (by kernel_rfl) (fun _ _ _ h => h) HCL (goes_not (by rfl)) ?_)
                  try simp only [Act.put, List.getElem_toArray, List.getElem_cons_succ, List.getElem_cons_zero, List.setIfInBounds_toArray, List.set_cons_zero, List.set_cons_succ]
                  first | (refine wpU_takeB (i := 4) (v := ?_) HOPS rfl (by kernel_rfl) (fun _ _ _ h => h) HCL (goes_read (by rfl) ?hy) ?_; case hy => (intro w hSw; (try dsimp only at hSw); go_simp; (try with_reducible rfl))) | (refine wpU_takeB (i := 4) (v := _) HOPS rfl (by kernel_rfl) (fun _ _ _ h => h) HCL (goes_not (by rfl)) ?_)
                  try simp only [Act.put, List.getElem_toArray, List.getElem_cons_succ, List.getElem_cons_zero, List.setIfInBounds_toArray, List.set_cons_zero, List.set_cons_succ]
                  first | (refine wpU_takeB (i := 5) (v := ?_) HOPS rfl (by kernel_rfl) (fun _ _ _ h => h) HCL (goes_read (by rfl) ?hy) ?_; case hy => (intro w hSw; (try dsimp only at hSw); go_simp; (try with_reducible rfl))) | (refine wpU_takeB (i := 5) (v := _) HOPS rfl (by kernel_rfl) (fun _ _ _ h => h) HCL (goes_not (by rfl)) ?_)
                  try simp only [Act.put, List.getElem_toArray, List.getElem_cons_succ, List.getElem_cons_zero, List.setIfInBounds_toArray, List.set_cons_zero, List.set_cons_succ]
                  first | (refine wpU_takeB (i := 6) (v := ?_) HOPS rfl (by kernel_rfl) (fun _ _ _ h => h) HCL (goes_read (by rfl) ?hy) ?_; case hy => (intro w hSw; (try dsimp only at hSw); go_simp; (try with_reducible rfl))) | (refine wpU_takeB (i := 6) (v := _) HOPS rfl (by kernel_rfl) (fun _ _ _ h => h) HCL (goes_not (by rfl)) ?_)
                  try simp only [Act.put, List.getElem_toArray, List.getElem_cons_succ, List.getElem_cons_zero, List.setIfInBounds_toArray, List.set_cons_zero, List.set_cons_succ]
                  first | (refine wpU_takeB (i := 7) (v := ?_) HOPS rfl (by kernel_rfl) (fun _ _ _ h => h) HCL (goes_read (by rfl) ?hy) ?_; case hy => (intro w hSw; (try dsimp only at hSw); go_simp; (try with_reducible rfl))) | (refine wpU_takeB (i := 7) (v := _) HOPS rfl (by kernel_rfl) (fun _ _ _ h => h) HCL (goes_not (by rfl)) ?_)
                  try simp only [Act.put, List.getElem_toArray, List.getElem_cons_succ, List.getElem_cons_zero, List.setIfInBounds_toArray, List.set_cons_zero, List.set_cons_succ]
                  first | (refine wpU_takeB (i := 8) (v := ?_) HOPS rfl (by kernel_rfl) (fun _ _ _ h => h) HCL (goes_read (by rfl) ?hy) ?_; case hy => (intro w hSw; (try dsimp only at hSw); go_simp; (try with_reducible rfl))) | (refine wpU_takeB (i := 8) (v := _) HOPS rfl (by kernel_rfl) (fun _ _ _ h => h) HCL (goes_not (by rfl)) ?_)
                  try simp only [Act.put, List.getElem_toArray, List.getElem_cons_succ, List.getElem_cons_zero, List.setIfInBounds_toArray, List.set_cons_zero, List.set_cons_succ]
                  refine wpU_done (by kernel_rfl) (fun w16 hle => ?_) _
                  have n := (hle.ahead (by kernel_rfl)).1
                  replace NX := Lib.hid (NX.out.trans n)
                  replace RB := Lib.hid (n.heap RB.out id)
                  replace OB := Lib.hid (n.heap OB.out id)
                  replace HGR := Lib.hid (n.heap HGR.out id)
                  replace HC := Lib.hid (HC.out.trans' n (fun _ _ e => e.elim))
                  clear n
                  clear HOPS HCL hle
                  repeat clear hHeld
                  go_upto_region 17 with (fail)
                  refine wp_named ?_
                  intro W17 hW
                  have n : Nw w16 W17 := by rw [hW]; first | exact Ch.refl _ _ | exact (Ch.refl _ _).alloc _
                  replace NX := Lib.hid (NX.out.trans n)
                  replace RB := Lib.hid (n.heap RB.out id)
                  replace OB := Lib.hid (n.heap OB.out id)
                  replace HGR := Lib.hid (n.heap HGR.out id)
                  replace HC := Lib.hid (HC.out.trans' n (fun _ _ e => e.elim))
                  clear hW n
                  refine wp_region_V (F := fun w' => w'.cell? ⟨w2.heap.size, 2, none⟩ = some (.slice (some ⟨g, 0, none⟩) nD nD)) (opsOf Tryd.f32 17) 12 13 (by kernel_rfl) (by kernel_rfl) (by kernel_rfl) (fun w w' h n => (n.cell h id)) (by show W17.cell? _ = _; rw [cell_of OB.out]; rfl) (fun HOPS HCL hHeld => ?_)
                  refine wpU_named ?_
                  intro W18 hW
                  try rw [← hW] at hHeld
                  have n : Nw W17 W18 := by rw [hW]; exact (Ch.refl _ _).drew
                  replace NX := Lib.hid (NX.out.trans n)
                  replace RB := Lib.hid (n.heap RB.out id)
                  replace OB := Lib.hid (n.heap OB.out id)
                  replace HGR := Lib.hid (n.heap HGR.out id)
                  replace HC := Lib.hid (HC.out.trans' n (fun _ _ e => e.elim))
                  clear hW n
                  first | (refine wpU_takeB (i := 0) (v := ?_) HOPS rfl (by kernel_rfl) (fun _ _ _ h => h) HCL (goes_read (by rfl) ?hy) ?_; case hy => (intro w hSw; (try dsimp only at hSw); go_simp; (try with_reducible rfl))) | (refine wpU_takeB (i := 0) (v := _) HOPS rfl (by kernel_rfl) (fun _ _ _ h => h) HCL (goes_not (by rfl)) ?_)
                  try simp only [Act.put, List.getElem_toArray, List.getElem_cons_succ, List.getElem_cons_zero, List.setIfInBounds_toArray, List.set_cons_zero, List.set_cons_succ]
                  first | (refine wpU_takeB (i := 1) (v := ?_) HOPS rfl (by kernel_rfl) (fun _ _ _ h => h) HCL (goes_read (by rfl) ?hy) ?_; case hy => (intro w hSw; (try dsimp only at hSw); go_simp; (try with_reducible rfl))) | (refine wpU_takeB (i := 1) (v := _) HOPS rfl (by kernel_rfl) (fun _ _ _ h => h) HCL (goes_not (by rfl)) ?_)
                  try simp only [Act.put, List.getElem_toArray, List.getElem_cons_succ, List.getElem_cons_zero, List.setIfInBounds_toArray, List.set_cons_zero, List.set_cons_succ]
                  first | (refine wpU_takeB (i := 2) (v := ?_) HOPS rfl (by kernel_rfl) (fun _ _ _ h => h) HCL (goes_read (by rfl) ?hy) ?_; case hy => (intro w hSw; (try dsimp only at hSw); go_simp; (try with_reducible rfl))) | (refine wpU_takeB (i := 2) (v := _) HOPS rfl (by kernel_rfl) (fun _ _ _ h => h) HCL (goes_not (by rfl)) ?_)
                  try simp only [Act.put, List.getElem_toArray, List.getElem_cons_succ, List.getElem_cons_zero, List.setIfInBounds_toArray, List.set_cons_zero, List.set_cons_succ]
                  first | (refine wpU_takeB (i := 3) (v := ?_) HOPS rfl (by kernel_rfl) (fun _ _ _ h => h) HCL (goes_read (by rfl) ?hy) ?_; case hy => (intro w hSw; (try dsimp only at hSw); go_simp; (try with_reducible rfl))) | (refine wpU_takeB (i := 3) (v := _) HOPS rfl (by kernel_rfl) (fun _ _ _ h => h) HCL (goes_not (by rfl)) ?_)
                  try simp only [Act.put, List.getElem_toArray, List.getElem_cons_succ, List.getElem_cons_zero, List.setIfInBounds_toArray, List.set_cons_zero, List.set_cons_succ]
                  first | (refine wpU_takeB (i := 4) (v := ?_) HOPS rfl (by kernel_rfl) (fun _ _ _ h => h) HCL (goes_read (by rfl) ?hy) ?_; case hy => (intro w hSw; (try dsimp only at hSw); go_simp; (try with_reducible rfl))) | (refine wpU_takeB (i := 4) (v := _) HOPS rfl (by kernel_rfl) (fun _ _ _ h => h) HCL (goes_not (by rfl)) ?_)
                  try simp only [Act.put, List.getElem_toArray, List.getElem_cons_succ, List.getElem_cons_zero, List.setIfInBounds_toArray, List.set_cons_zero, List.set_cons_succ]
                  first | (refine wpU_takeB (i := 5) (v := ?_) HOPS rfl (by kernel_rfl) (fun _ _ _ h => h) HCL (goes_read (by rfl) ?hy) ?_; case hy => (intro w hSw; (try dsimp only at hSw); go_simp; (try with_reducible rfl))) | (refine wpU_takeB (i := 5) (v := _) HOPS rfl (by kernel_rfl) (fun _ _ _ h => h) HCL (goes_not (by rfl)) ?_)
                  try simp only [Act.put, List.getElem_toArray, List.getElem_cons_succ, List.getElem_cons_zero, List.setIfInBounds_toArray, List.set_cons_zero, List.set_cons_succ]
                  first | (refine wpU_takeB (i := 6) (v := ?_) HOPS rfl (by kernel_rfl) (fun _ _ _ h => h) HCL (goes_read (by rfl) ?hy) ?_; case hy => (intro w hSw; (try dsimp only at hSw); go_simp; (try with_reducible rfl))) | (refine wpU_takeB (i := 6) (v := _) HOPS rfl (by kernel_rfl) (fun _ _ _ h => h) HCL (goes_not (by rfl)) ?_)
                  try simp only [Act.put, List.getElem_toArray, List.getElem_cons_succ, List.getElem_cons_zero, List.setIfInBounds_toArray, List.set_cons_zero, List.set_cons_succ]
                  first | (refine wpU_takeB (i := 7) (v := ?_) HOPS rfl (by kernel_rfl) (fun _ _ _ h => h) HCL (goes_read (by rfl) ?hy) ?_; case hy => (intro w hSw; (try dsimp only at hSw); go_simp; (try with_reducible rfl))) | (refine wpU_takeB (i := 7) (v := _) HOPS rfl (by kernel_rfl) (fun _ _ _ h => h) HCL (goes_not (by rfl)) ?_)
                  try simp only [Act.put, List.getElem_toArray, List.getElem_cons_succ, List.getElem_cons_zero, List.setIfInBounds_toArray, List.set_cons_zero, List.set_cons_succ]
                  first | (refine wpU_takeB (i := 8) (v := ?_) HOPS rfl (by kernel_rfl) (fun _ _ _ h => h) HCL (goes_read (by rfl) ?hy) ?_; case hy => (intro w hSw; (try dsimp only at hSw); go_simp; (try with_reducible rfl))) | (refine wpU_takeB (i := 8) (v := _) HOPS rfl (by kernel_rfl) (fun _ _ _ h => h) HCL (goes_not (by rfl)) ?_)
                  try simp only [Act.put, List.getElem_toArray, List.getElem_cons_succ, List.getElem_cons_zero, List.setIfInBounds_toArray, List.set_cons_zero, List.set_cons_succ]
                  first | (refine wpU_takeB (i := 9) (v := ?_) HOPS rfl (by kernel_rfl) (fun _ _ _ h => h) HCL (goes_read (by rfl) ?hy) ?_; case hy => (intro w hSw; (try dsimp only at hSw); go_simp; (try with_reducible rfl))) | (refine wpU_takeB (i := 9) (v := _) HOPS rfl (by kernel_rfl) (fun _ _ _ h => h) HCL (goes_not (by rfl)) ?_)
                  try simp only [Act.put, List.getElem_toArray, List.getElem_cons_succ, List.getElem_cons_zero, List.setIfInBounds_toArray, List.set_cons_zero, List.set_cons_succ]
                  first | (refine wpU_takeB (i := 10) (v := ?_) HOPS rfl (by kernel_rfl) (fun _ _ _ h => h) HCL (goes_read (by rfl) ?hy) ?_; case hy => (intro w hSw; (try dsimp only at hSw); go_simp; (try with_reducible rfl))) | (refine wpU_takeB (i := 10) (v := _) HOPS rfl (by kernel_rfl) (fun _ _ _ h => h) HCL (goes_not (by rfl)) ?_)
                  try simp only [Act.put, List.getElem_toArray, List.getElem_cons_succ, List.getElem_cons_zero, List.setIfInBounds_toArray, List.set_cons_zero, List.set_cons_succ]
                  first | (refine wpU_takeB (i := 11) (v := ?_) HOPS rfl (by kernel_rfl) (fun _ _ _ h => h) HCL (goes_read (by rfl) ?hy) ?_; case hy => (intro w hSw; (try dsimp only at hSw); go_simp; (try with_reducible rfl))) | (refine wpU_takeB (i := 11) (v := _) HOPS rfl (by kernel_rfl) (fun _ _ _ h => h) HCL (goes_not (by rfl)) ?_)
                  try simp only [Act.put, List.getElem_toArray, List.getElem_cons_succ, List.getElem_cons_zero, List.setIfInBounds_toArray, List.set_cons_zero, List.set_cons_succ]
                  refine wpU_ready (rs := [12]) (by kernel_rfl) (by simp) ?_
                  intro w19 hle
                  obtain ⟨n, hHeld⟩ := hle.ahead (by kernel_rfl)
                  clear hle
                  replace NX := Lib.hid (NX.out.trans n)
                  replace RB := Lib.hid (n.heap RB.out id)
                  replace OB := Lib.hid (n.heap OB.out id)
                  replace HGR := Lib.hid (n.heap HGR.out id)
                  replace HC := Lib.hid (HC.out.trans' n (fun _ _ e => e.elim))
                  clear n
                  refine ReadyU.last HOPS rfl (by rfl) (by kernel_rfl) (fun K hK => ?_) ReadyU.nil
                  have gc : w19.cell? ⟨g, p, none⟩ = some (.bool od) := by rw [cell_of HGR.out]; exact boolC_get HOD.out
                  have gf : w19.frozen? ⟨g, p, none⟩ = false := frozen_of HGR.out
                  go_simp
                  refine hK.out _ _ ?_
                  clear hK K
                  try simp only [Act.put, List.getElem_toArray, List.getElem_cons_succ, List.getElem_cons_zero, List.setIfInBounds_toArray, List.set_cons_zero, List.set_cons_succ]
                  refine wpU_done (by kernel_rfl) (fun w20 hle => ?_) _
                  rw [hle.behind (by kernel_rfl)]
                  clear HOPS HCL hle
                  repeat clear hHeld
                  go_wp2_with (fail)
                  refine ⟨⟨k + 1, by go_num, by omega, Lib.hid ?_, Lib.hid ?_, Lib.hid (HC.out.setb (fun _ => rfl) _)⟩, ?_⟩
                  · intro p' hp'
                    by_cases e : p' = k
                    · subst e
                      exact ⟨c, HCK.out, by rw [if_neg (by rw [HX.out]; omega)]; exact HOKC.out⟩
                    · exact HOK.out p' (by omega)
                  · rw [parS_step (x := (x : Int)) (y := (y : Int)) HXI.out ⟨x0, xjI⟩ (by rw [HRI.out]; omega) ⟨by omega, by omega⟩ HCK.out, HPI.out, Int.toNat_natCast, v4, ← boolC_set]
                    exact heap_setCell_eq _ HGR.out
                  · simp [intOf]; omega
              · have hcc : ((c.toNat : Int) != 35) = true ∧ ((c.toNat : Int) != 46) = true := by
                  constructor
                  · simp only [bne_iff_ne, ne_eq]; intro h; refine hok ?_; have e : c = 35 := UInt8.toNat_inj.1 (by simpa using (show c.toNat = 35 by omega)); rw [e]; rfl
                  · simp only [bne_iff_ne, ne_eq]; intro h; refine hok ?_; have e : c = 46 := UInt8.toNat_inj.1 (by simpa using (show c.toNat = 46 by omega)); rw [e]; rfl
                obtain ⟨v1, v2⟩ := hcc
                have NO := Lib.hid (show parseB L = (zeroB, false) from parse_noB fun hT => by
                  obtain ⟨H, a, b, c', dd⟩ := isText_idxB hT HNO.out (fun hw => HTEN.out (by rw [← HLEN.out]; exact hw)) (by rw [HLEN.out]; exact hj)
                  have hH : H = q := by have h1 := HLQ.out; rw [a] at h1; exact Nat.eq_of_mul_eq_mul_right (by omega) h1
                  subst hH
                  obtain ⟨d1', d2'⟩ := dd r' hrq
                  have ek := HEK.out
                  obtain ⟨c2, h2, h3⟩ := d2' x xj
                  rw [ek, HCK.out] at h2
                  injection h2 with h2
                  exact hok (by rw [h2]; exact h3))
                skip
                go_upto_region 11 with (fail)
                refine wp_named ?_
                intro W21 hW
                have n : Nw wr0 W21 := by rw [hW]; first | exact Ch.refl _ _ | exact (Ch.refl _ _).alloc _
                replace NX := Lib.hid (NX.out.trans n)
                replace RB := Lib.hid (n.heap RB.out id)
                replace OB := Lib.hid (n.heap OB.out id)
                replace HGR := Lib.hid (n.heap HGR.out id)
                replace HC := Lib.hid (HC.out.trans' n (fun _ _ e => e.elim))
                clear hW n
                refine wp_region_V (F := fun w' => w'.cell? ⟨w2.heap.size, 0, none⟩ = some (.int .i64 (j : Int)) ∧ w'.cell? ⟨w2.heap.size, 1, none⟩ = some (.int .i64 (q : Int)) ∧ w'.cell? ⟨w2.heap.size, 2, none⟩ = some (.slice (some ⟨g, 0, none⟩) nD nD)) (opsOf Tryd.f32 11) 9 9 (by kernel_rfl) (by kernel_rfl) (by kernel_rfl) (fun w w' h n => ⟨n.cell h.1 id, n.cell h.2.1 id, n.cell h.2.2 id⟩) ⟨by show W21.cell? _ = _; rw [cell_of OB.out]; rfl, by show W21.cell? _ = _; rw [cell_of OB.out]; rfl, by show W21.cell? _ = _; rw [cell_of OB.out]; rfl⟩ (fun HOPS HCL hHeld => ?_)
                refine wpU_named ?_
                intro W22 hW
                try rw [← hW] at hHeld
                have n : Nw W21 W22 := by rw [hW]; exact (Ch.refl _ _).drew
                replace NX := Lib.hid (NX.out.trans n)
                replace RB := Lib.hid (n.heap RB.out id)
                replace OB := Lib.hid (n.heap OB.out id)
                replace HGR := Lib.hid (n.heap HGR.out id)
                replace HC := Lib.hid (HC.out.trans' n (fun _ _ e => e.elim))
                clear hW n
                first | (refine wpU_takeB (i := 0) (v := ?_) HOPS rfl (by kernel_rfl) (fun _ _ _ h => h) HCL (goes_read (by rfl) ?hy) ?_; case hy => (intro w hSw; (try dsimp only at hSw); go_simp; (try with_reducible rfl))) | (refine wpU_takeB (i := 0) (v := _) HOPS rfl (by kernel_rfl) (fun _ _ _ h => h) HCL (goes_not (by rfl)) ?_)
                try simp only [Act.put, List.getElem_toArray, List.getElem_cons_succ, List.getElem_cons_zero, List.setIfInBounds_toArray, List.set_cons_zero, List.set_cons_succ]
                first | (refine wpU_takeB (i := 1) (v := ?_) HOPS rfl (by kernel_rfl) (fun _ _ _ h => h) HCL (goes_read (by rfl) ?hy) ?_; case hy => (intro w hSw; (try dsimp only at hSw); go_simp; (try with_reducible rfl))) | (refine wpU_takeB (i := 1) (v := _) HOPS rfl (by kernel_rfl) (fun _ _ _ h => h) HCL (goes_not (by rfl)) ?_)
                try simp only [Act.put, List.getElem_toArray, List.getElem_cons_succ, List.getElem_cons_zero, List.setIfInBounds_toArray, List.set_cons_zero, List.set_cons_succ]
                first | (refine wpU_takeB (i := 2) (v := ?_) HOPS rfl (by kernel_rfl) (fun _ _ _ h => h) HCL (goes_read (by rfl) ?hy) ?_; case hy => (intro w hSw; (try dsimp only at hSw); go_simp; (try with_reducible rfl))) | (refine wpU_takeB (i := 2) (v := _) HOPS rfl (by kernel_rfl) (fun _ _ _ h => h) HCL (goes_not (by rfl)) ?_)
                try simp only [Act.put, List.getElem_toArray, List.getElem_cons_succ, List.getElem_cons_zero, List.setIfInBounds_toArray, List.set_cons_zero, List.set_cons_succ]
                first | (refine wpU_takeB (i := 3) (v := ?_) HOPS rfl (by kernel_rfl) (fun _ _ _ h => h) HCL (goes_read (by rfl) ?hy) ?_; case hy => (intro w hSw; (try dsimp only at hSw); go_simp; (try with_reducible rfl))) | (refine wpU_takeB (i := 3) (v := _) HOPS rfl (by kernel_rfl) (fun _ _ _ h => h) HCL (goes_not (by rfl)) ?_)
                try simp only [Act.put, List.getElem_toArray, List.getElem_cons_succ, List.getElem_cons_zero, List.setIfInBounds_toArray, List.set_cons_zero, List.set_cons_succ]
                first | (refine wpU_takeB (i := 4) (v := ?_) HOPS rfl (by kernel_rfl) (fun _ _ _ h => h) HCL (goes_read (by rfl) ?hy) ?_; case hy => (intro w hSw; (try dsimp only at hSw); go_simp; (try with_reducible rfl))) | (refine wpU_takeB (i := 4) (v := _) HOPS rfl (by kernel_rfl) (fun _ _ _ h => h) HCL (goes_not (by rfl)) ?_)
                try simp only [Act.put, List.getElem_toArray, List.getElem_cons_succ, List.getElem_cons_zero, List.setIfInBounds_toArray, List.set_cons_zero, List.set_cons_succ]
                first | (refine wpU_takeB (i := 5) (v := ?_) HOPS rfl (by kernel_rfl) (fun _ _ _ h => h) HCL (goes_read (by rfl) ?hy) ?_; case hy => (intro w hSw; (try dsimp only at hSw); go_simp; (try with_reducible rfl))) | (refine wpU_takeB (i := 5) (v := _) HOPS rfl (by kernel_rfl) (fun _ _ _ h => h) HCL (goes_not (by rfl)) ?_)
                try simp only [Act.put, List.getElem_toArray, List.getElem_cons_succ, List.getElem_cons_zero, List.setIfInBounds_toArray, List.set_cons_zero, List.set_cons_succ]
                first | (refine wpU_takeB (i := 6) (v := ?_) HOPS rfl (by kernel_rfl) (fun _ _ _ h => h) HCL (goes_read (by rfl) ?hy) ?_; case hy => (intro w hSw; (try dsimp only at hSw); go_simp; (try with_reducible rfl))) | (refine wpU_takeB (i := 6) (v := _) HOPS rfl (by kernel_rfl) (fun _ _ _ h => h) HCL (goes_not (by rfl)) ?_)
                try simp only [Act.put, List.getElem_toArray, List.getElem_cons_succ, List.getElem_cons_zero, List.setIfInBounds_toArray, List.set_cons_zero, List.set_cons_succ]
                first | (refine wpU_takeB (i := 7) (v := ?_) HOPS rfl (by kernel_rfl) (fun _ _ _ h => h) HCL (goes_read (by rfl) ?hy) ?_; case hy => (intro w hSw; (try dsimp only at hSw); go_simp; (try with_reducible rfl))) | (refine wpU_takeB (i := 7) (v := _) HOPS rfl (by kernel_rfl) (fun _ _ _ h => h) HCL (goes_not (by rfl)) ?_)
                try simp only [Act.put, List.getElem_toArray, List.getElem_cons_succ, List.getElem_cons_zero, List.setIfInBounds_toArray, List.set_cons_zero, List.set_cons_succ]
                first | (refine wpU_takeB (i := 8) (v := ?_) HOPS rfl (by kernel_rfl) (fun _ _ _ h => h) HCL (goes_read (by rfl) ?hy) ?_; case hy => (intro w hSw; (try dsimp only at hSw); go_simp; (try with_reducible rfl))) | (refine wpU_takeB (i := 8) (v := _) HOPS rfl (by kernel_rfl) (fun _ _ _ h => h) HCL (goes_not (by rfl)) ?_)
                try simp only [Act.put, List.getElem_toArray, List.getElem_cons_succ, List.getElem_cons_zero, List.setIfInBounds_toArray, List.set_cons_zero, List.set_cons_succ]
                refine wpU_done (by kernel_rfl) (fun w23 hle => ?_) _
                have n := (hle.ahead (by kernel_rfl)).1
                replace NX := Lib.hid (NX.out.trans n)
                replace RB := Lib.hid (n.heap RB.out id)
                replace OB := Lib.hid (n.heap OB.out id)
                replace HGR := Lib.hid (n.heap HGR.out id)
                replace HC := Lib.hid (HC.out.trans' n (fun _ _ e => e.elim))
                clear n
                clear HOPS HCL hle
                repeat clear hHeld
                have r0 : w23.cell? ⟨w.heap.size, 0, none⟩ = some (.int .i64 0) := by rw [cell_of RB.out]; rfl
                have r1 : w23.cell? ⟨w.heap.size, 1, none⟩ = some (.int .i64 0) := by rw [cell_of RB.out]; rfl
                have r2 : w23.cell? ⟨w.heap.size, 2, none⟩ = some (.slice none 0 0) := by rw [cell_of RB.out]; rfl
                have q0 : w23.frozen? ⟨w.heap.size, 0, none⟩ = false := frozen_of RB.out
                have q1 : w23.frozen? ⟨w.heap.size, 1, none⟩ = false := frozen_of RB.out
                have q2 : w23.frozen? ⟨w.heap.size, 2, none⟩ = false := frozen_of RB.out
                go_wp2
                refine bodyPost_ret (v := .tuple #[.agg #[.int .i64 0, .int .i64 0, .slice none 0 0], .bool false]) (by simp [results, Tryd.results32, go_sem, r0, r1, r2]) rfl ?_
                have h0 := fun W' => HR.out W' (.agg #[.int .i64 0, .int .i64 0, .slice none 0 0])
                rw [NO.out] at h0
                exact h0 _ (isBm_zero _ _) (((NX.out.setb (fun h => by omega) _).setb (fun h => by omega) _).setb (fun h => by omega) _)
          · obtain rfl : k = s.size := by omega
            have sz0 : 0 < s.size := by
              have h5 := HQR.out
              have h6 : 1 * (j + 1) ≤ q * (j + 1) := Nat.mul_le_mul_right _ q1'
              omega
            have sz1 : decide ((0 : Int) < (s.size : Int)) = true := decide_eq_true (by omega)
            have sz2 : (0 : Int) < (s.size : Int) := of_decide_eq_true sz1
            have YES := Lib.hid (show parseB L = (((j : Int), (q : Int), parS j q L s.size), true) from by
              have h7 := parse_allB (H := q) HLQ.out ⟨by omega, by omega⟩ ⟨q1', by omega⟩ (fun y hy => ?_)
              · rw [h7, ← HLEN.out, parS_all HLQ.out (by omega)]
              · have hb : ∀ x, x < j + 1 → y * (j + 1) + x < s.size ∧ (y * (j + 1) + x) % (j + 1) = x := fun x hx => by
                  have h4 : (y + 1) * (j + 1) ≤ q * (j + 1) := Nat.mul_le_mul_right _ (by omega)
                  rw [Nat.add_mul y 1 (j + 1), Nat.one_mul] at h4
                  have h5 := HLQ.out
                  have h6 := HLEN.out
                  exact ⟨by omega, by rw [Nat.mul_comm, Nat.mul_add_mod, Nat.mod_eq_of_lt hx]⟩
                constructor
                · obtain ⟨b1, b2⟩ := hb j (by omega)
                  obtain ⟨c, e1, e2⟩ := HOK.out _ b1
                  rw [if_pos b2] at e2
                  rw [e1, e2]
                · intro x hx
                  obtain ⟨b1, b2⟩ := hb x (by omega)
                  obtain ⟨c, e1, e2⟩ := HOK.out _ b1
                  rw [if_neg (by omega)] at e2
                  exact ⟨c, e1, e2⟩)
            have r0 : wr0.cell? ⟨w.heap.size, 0, none⟩ = some (.int .i64 0) := by rw [cell_of RB.out]; rfl
            have r1 : wr0.cell? ⟨w.heap.size, 1, none⟩ = some (.int .i64 0) := by rw [cell_of RB.out]; rfl
            have r2 : wr0.cell? ⟨w.heap.size, 2, none⟩ = some (.slice none 0 0) := by rw [cell_of RB.out]; rfl
            have q0 : wr0.frozen? ⟨w.heap.size, 0, none⟩ = false := frozen_of RB.out
            have q1 : wr0.frozen? ⟨w.heap.size, 1, none⟩ = false := frozen_of RB.out
            have q2 : wr0.frozen? ⟨w.heap.size, 2, none⟩ = false := frozen_of RB.out
            have kOB0 : wr0.cell? ⟨w2.heap.size, 0, none⟩ = some (.int .i64 (j : Int)) := by rw [cell_of OB.out]; rfl
            have kOB1 : wr0.cell? ⟨w2.heap.size, 1, none⟩ = some (.int .i64 (q : Int)) := by rw [cell_of OB.out]; rfl
            have kOB2 : wr0.cell? ⟨w2.heap.size, 2, none⟩ = some (.slice (some ⟨g, 0, none⟩) nD nD) := by rw [cell_of OB.out]; rfl
            go_wp2
            refine bodyPost_ret (v := .tuple #[.agg #[.int .i64 (j : Int), .int .i64 (q : Int), .slice (some ⟨g, 0, none⟩) nD nD], .bool true]) (by simp [results, Tryd.results32, go_sem, r0, r1, r2, sz1, sz2]) rfl ?_
            have h0 := fun W' => HR.out W' (.agg #[.int .i64 (j : Int), .int .i64 (q : Int), .slice (some ⟨g, 0, none⟩) nD nD])
            rw [YES.out] at h0
            refine h0 _ ?_ (((NX.out.setb (fun h => by omega) _).setb (fun h => by omega) _).setb (fun h => by omega) _)
            have hb9 := Ch.heap ((((Ch.refl (· = w.heap.size) wr0).setb (b := w.heap.size) (o := 0) (fun _ => rfl) (.int .i64 (j : Int))).setb (b := w.heap.size) (o := 1) (fun _ => rfl) (.int .i64 (q : Int))).setb (b := w.heap.size) (o := 2) (fun _ => rfl) (.slice (some ⟨g, 0, none⟩) nD nD)) HGR.out (by show g ≠ w.heap.size; omega)
            have hpl : (parS j q L s.size).length = nD := by rw [parS_len]; exact HNN.out.symm
            have hi := isBools_block (cap := nD) hb9 (lt_of_heap hb9) ⟨by rw [hpl]; exact Nat.le_refl _, by rw [hpl]; have h1 := HNN.out; have h4 : j * q ≤ 96 * 96 := Nat.mul_le_mul (by omega) (by omega); omega⟩
            rw [hpl] at hi
            exact ⟨_, rfl, hi, by unfold wfI; simp only; omega, by unfold wfI; simp only; omega⟩
end Go.Proofs.YtaafmgkjfmngjaaDoor
