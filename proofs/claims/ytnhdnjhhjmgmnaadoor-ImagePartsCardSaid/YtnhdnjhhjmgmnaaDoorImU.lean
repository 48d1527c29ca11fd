/-
  indelibleref22.Parse: the image with given rows.
-/
import Derived.Test.YtnhdnjhhjmgmnaaDoorImY
import Derived.Test.YtnhdnjhhjmgmnaaDoorPar
import Derived.Laws.DeepStrings4
namespace Go.Proofs.YtnhdnjhhjmgmnaaDoor
open Go.RowKit
set_option linter.unusedVariables false
set_option linter.unusedSimpArgs false
set_option maxRecDepth 100000

theorem ba_get (s : ByteArray) (k : Nat) (h : k < s.size) : s.data.toList[k]? = some (s[k]'h) := by
  have : k < s.data.toList.length := by rw [ba_len]; exact h
  rw [List.getElem?_eq_getElem this]
  rfl
theorem u8_ten (c : UInt8) : (c = 10 ↔ (c.toNat : Int) = 10) := by
  constructor
  · rintro rfl; rfl
  · intro h
    have : c.toNat = 10 := by omega
    exact UInt8.toNat_inj.1 this

set_option maxHeartbeats 8000000 in
theorem riParse_any (s : ByteArray) (w : World) (R : Ending → World → Prop) (hs : s.size ≤ 1000000)
    (hR : ∀ w' v', IsIm w' w'.heap.size v' (parseM s.data.toList).1 → Nw w w' → R (.returned (.tuple #[v', .bool (parseM s.data.toList).2])) w') : Calls Tryd.prog 30 #[.string s] w R := by
  have HR := Lib.hid hR
  clear hR
  obtain ⟨L, hL⟩ : ∃ L, s.data.toList = L := ⟨_, rfl⟩
  have hget : ∀ k (h : k < s.size), L[k]? = some (s[k]'h) := fun k h => by rw [← hL]; exact ba_get s k h
  have hlen : L.length = s.size := by rw [← hL]; exact ba_len s
  rw [hL] at HR
  have HL := Lib.hid hL
  have HGET := Lib.hid hget
  have HLEN := Lib.hid hlen
  clear hL hget hlen
  have HN := Lib.hid (show Nw w (w.alloc (.cells #[.int .i64 0, .int .i64 0, .slice none 0 0] 25)) from (Ch.refl _ _).alloc _)
  go_enter Tryd.func30, Tryd.ntmps30
  go_wp2
  refine wp_named ?_
  intro W1 hW
  have RB := Lib.hid (show W1.heap[w.heap.size]? = some (.cells #[.int .i64 0, .int .i64 0, .slice none 0 0] 25 (0, 0)) from by rw [hW]; exact heap_alloc_eq _ rfl)
  have N1 := Lib.hid (show Nw w W1 from by rw [hW]; exact HN.out)
  have SZ : W1.heap.size = w.heap.size + 1 := by rw [hW]; exact alloc_size _ _
  clear hW HN
  have r0 : W1.cell? ⟨w.heap.size, 0, none⟩ = some (.int .i64 0) := by rw [cell_of RB.out]; rfl
  have r1 : W1.cell? ⟨w.heap.size, 1, none⟩ = some (.int .i64 0) := by rw [cell_of RB.out]; rfl
  have r2 : W1.cell? ⟨w.heap.size, 2, none⟩ = some (.slice none 0 0) := by rw [cell_of RB.out]; rfl
  have q0 : W1.frozen? ⟨w.heap.size, 0, none⟩ = false := frozen_of RB.out
  have q1 : W1.frozen? ⟨w.heap.size, 1, none⟩ = false := frozen_of RB.out
  have q2 : W1.frozen? ⟨w.heap.size, 2, none⟩ = false := frozen_of RB.out
  go_loop [4] (fun s4 => ∃ j : Nat, s4 = .int .i64 j ∧ j ≤ s.size ∧ Hid (∀ i, i < j → L[i]? ≠ some 10)) (fun s4 => s.size - (intOf s4).toNat)
  case atStart => exact ⟨0, rfl, Nat.zero_le _, Lib.hid fun i hi => by omega⟩
  case round =>
    obtain ⟨j, rfl, hj, HNO⟩ := hrel
    have j0 : (0 : Int) ≤ (j : Int) := by omega
    by_cases hgo : ∃ h : j < s.size, s[j]'h ≠ 10
    · obtain ⟨hlt, hne⟩ := hgo
      have hg := HGET.out j hlt
      obtain ⟨c, hc⟩ : ∃ c, s[j]'hlt = c := ⟨_, rfl⟩
      rw [hc] at hg hne
      have t1 : ((c.toNat : Int) != 10) = true := by simp; exact fun h => hne ((u8_ten c).2 h)
      have HG := Lib.hid hg
      have HNE := Lib.hid hne
      have j1 : (j : Int) < (s.size : Int) := by omega
      clear hg hne
      go_wp2
      go_round
      case rel =>
        refine ⟨j + 1, by go_num, by omega, Lib.hid fun i hi => ?_⟩
        by_cases e : i = j
        · subst e
          rw [HG.out]
          exact fun h => HNE.out (by injection h)
        · exact HNO.out i (by omega)
      case measure => simp [intOf]; omega
    · have hten : j < s.size → L[j]? = some 10 := fun h => by
        rw [HGET.out j h]
        by_cases e : s[j]'h = 10
        · rw [e]
        · exact absurd ⟨h, e⟩ hgo
      have HTEN := Lib.hid hten
      have hwhy : ∀ H, ¬ (L.length = H * (j + 1) ∧ (1 ≤ j ∧ j ≤ 100) ∧ (1 ≤ H ∧ H ≤ 100)) → True := fun _ _ => trivial
      have NOT := Lib.hid (show (∀ H, ¬ (L.length = H * (j + 1) ∧ (1 ≤ j ∧ j ≤ 100) ∧ (1 ≤ H ∧ H ≤ 100))) → parseM L = (zeroI, false) from fun h => parse_no fun hT => by
        obtain ⟨H, a, b, c, -⟩ := isText_idx hT HNO.out (fun hw => HTEN.out (by rw [← HLEN.out]; exact hw)) (by rw [HLEN.out]; exact hj)
        exact h H ⟨a, b, c⟩)
      clear hwhy
      obtain ⟨q, hq'⟩ : ∃ q : Nat, s.size / (j + 1) = q := ⟨_, rfl⟩
      obtain ⟨r, hr'⟩ : ∃ r : Nat, s.size % (j + 1) = r := ⟨_, rfl⟩
      have hqr : s.size = q * (j + 1) + r := by rw [← hq', ← hr', Nat.mul_comm]; exact (Nat.div_add_mod _ _).symm
      have hrl : r < j + 1 := by rw [← hr']; exact Nat.mod_lt _ (by omega)
      have hq : (s.size : Int) / ((j : Int) + 1) = (q : Int) := by rw [← hq']; norm_cast
      have hr : (s.size : Int) % ((j : Int) + 1) = (r : Int) := by rw [← hr']; norm_cast
      have hq2 : (s.size : Int).tdiv ((j : Int) + 1) = (q : Int) := by rw [Int.tdiv_eq_ediv_of_nonneg (by omega)]; exact hq
      have hr2 : (s.size : Int).tmod ((j : Int) + 1) = (r : Int) := by rw [Int.tmod_eq_emod_of_nonneg (by omega)]; exact hr
      have jz : ¬ ((j : Int) + 1 = 0) := by omega
      have n0 : (0 : Int) ≤ (s.size : Int) := by omega
      have HQR := Lib.hid hqr
      clear hq' hr' hqr
      have qle : (q : Int) ≤ 1000000 := by
        have h1 := HQR.out
        have h2 : q ≤ q * (j + 1) := Nat.le_mul_of_pos_right _ (by omega)
        omega
      have q0' : (0 : Int) ≤ (q : Int) := by omega
      have r0' : (0 : Int) ≤ (r : Int) := by omega
      by_cases hbad : j = 0 ∨ 100 < j ∨ r ≠ 0 ∨ 100 < q
      · have NO := Lib.hid (NOT.out fun H ⟨a, b, c⟩ => by
          have h1 := HQR.out
          have h2 := HLEN.out
          have hmod : s.size % (j + 1) = 0 := by rw [← h2, a]; exact Nat.mul_mod_left _ _
          have hdiv : s.size / (j + 1) = H := by rw [← h2, a]; exact Nat.mul_div_cancel _ (by omega)
          have h3 : r = 0 := by rw [h1, Nat.mul_comm, Nat.mul_add_mod, Nat.mod_eq_of_lt hrl] at hmod; exact hmod
          have h4 : q = H := by rw [h1, Nat.mul_comm, Nat.mul_add_div (by omega), Nat.div_eq_of_lt hrl, Nat.add_zero] at hdiv; exact hdiv
          omega)
        have hleaf : (((j : Int) == 0) = true) ∨ (((j : Int) == 0) = false ∧ (100 < (j : Int))) ∨ (((j : Int) == 0) = false ∧ (j : Int) ≤ 100 ∧ ((r : Int) != 0) = true) ∨ (((j : Int) == 0) = false ∧ (j : Int) ≤ 100 ∧ ((r : Int) != 0) = false ∧ 100 < (q : Int)) := by
          by_cases a : j = 0
          · left; simp [a]
          · have a' : ((j : Int) == 0) = false := by simp; omega
            by_cases b : 100 < j
            · right; left; exact ⟨a', by omega⟩
            · by_cases c : r = 0
              · right; right; right; exact ⟨a', by omega, by simp [c], by omega⟩
              · right; right; left; exact ⟨a', by omega, by simp; omega⟩
        clear hbad
        by_cases hlt : j < s.size
        · obtain ⟨c, hc⟩ : ∃ c, s[j]'hlt = c := ⟨_, rfl⟩
          have c10 : c = 10 := by
            have := HTEN.out hlt
            rw [HGET.out j hlt, hc] at this
            injection this
          have tc : ((c.toNat : Int) != 10) = false := by rw [c10]; rfl
          have j1 : (j : Int) < (s.size : Int) := by omega
          clear c10 hgo hten
          rcases hleaf with t1 | ⟨t1, t2⟩ | ⟨t1, t2, t3⟩ | ⟨t1, t2, t3, t4⟩
          all_goals
            go_wp2
            refine bodyPost_ret (v := .tuple #[.agg #[.int .i64 0, .int .i64 0, .slice none 0 0], .bool false]) (by simp [results, Tryd.results30, go_sem, r0, r1, r2]) rfl ?_
            have h0 := fun W' => HR.out W' (.agg #[.int .i64 0, .int .i64 0, .slice none 0 0])
            rw [NO.out] at h0
            exact h0 _ (isIm_zero _ _) (((N1.out.setb (fun h => by omega) _).setb (fun h => by omega) _).setb (fun h => by omega) _)
        · have j1 : ¬ (j : Int) < (s.size : Int) := by omega
          clear hgo hten
          rcases hleaf with t1 | ⟨t1, t2⟩ | ⟨t1, t2, t3⟩ | ⟨t1, t2, t3, t4⟩
          all_goals
            go_wp2
            refine bodyPost_ret (v := .tuple #[.agg #[.int .i64 0, .int .i64 0, .slice none 0 0], .bool false]) (by simp [results, Tryd.results30, go_sem, r0, r1, r2]) rfl ?_
            have h0 := fun W' => HR.out W' (.agg #[.int .i64 0, .int .i64 0, .slice none 0 0])
            rw [NO.out] at h0
            exact h0 _ (isIm_zero _ _) (((N1.out.setb (fun h => by omega) _).setb (fun h => by omega) _).setb (fun h => by omega) _)
      · obtain ⟨g1, g2, g3, g4⟩ : ¬ j = 0 ∧ ¬ 100 < j ∧ r = 0 ∧ ¬ 100 < q := by omega
        have hlt : j < s.size := by have := HQR.out; rcases Nat.lt_or_ge j s.size with h | h; exact h; exfalso; have : s.size = j := by omega
                                    have h5 := HQR.out
                                    rw [g3, this] at h5
                                    have h6 : q = 0 ∨ 1 ≤ q := by omega
                                    rcases h6 with h6 | h6
                                    · subst h6; omega
                                    · have := Nat.mul_le_mul_right (j + 1) h6; omega
        obtain ⟨c, hc⟩ : ∃ c, s[j]'hlt = c := ⟨_, rfl⟩
        have c10 : c = 10 := by
          have := HTEN.out hlt
          rw [HGET.out j hlt, hc] at this
          injection this
        have tc : ((c.toNat : Int) != 10) = false := by rw [c10]; rfl
        have j1 : (j : Int) < (s.size : Int) := by omega
        have t1 : ((j : Int) == 0) = false := by simp; omega
        have t3 : ((r : Int) != 0) = false := by simp [g3]
        have jw : (j : Int) ≤ 100 := by omega
        have qh : (q : Int) ≤ 100 := by omega
        have q1' : 1 ≤ q := by
          rcases Nat.eq_zero_or_pos q with h | h
          · have h5 := HQR.out; rw [h, g3] at h5; omega
          · exact h
        have HLQ := Lib.hid (show L.length = q * (j + 1) from by rw [HLEN.out, HQR.out, g3]; rfl)
        clear hbad hgo hten c10 g3
        have d1 : decide (100 < (j : Int)) = false := by simp; omega
        have d2 : decide (100 < (q : Int)) = false := by simp; omega
        go_wp2
        refine wp_named ?_
        intro W2 hW
        have OB := Lib.hid (show W2.heap[w.heap.size + 1]? = some (.cells #[.int .i64 (j : Int), .int .i64 (q : Int), .slice none 0 0] 25 (0, 0)) from by rw [hW]; exact heap_alloc_eq _ SZ.symm)
        have RB2 := Lib.hid (show W2.heap[w.heap.size]? = some (.cells #[.int .i64 0, .int .i64 0, .slice none 0 0] 25 (0, 0)) from by rw [hW]; exact heap_alloc_old' _ RB.out)
        have N2 := Lib.hid (show Nw w W2 from by rw [hW]; exact N1.out.alloc _)
        have SZ2 : W2.heap.size = w.heap.size + 1 + 1 := by rw [hW, alloc_size, SZ]
        have HSZ2 := Lib.hid SZ2
        clear hW r0 r1 r2 q0 q1 q2 SZ SZ2 t1 t3 hq hr hq2 hr2 RB N1 hc tc j1
        obtain ⟨Q, hQ⟩ : ∃ Q, Q = rowsAt j L q := ⟨_, rfl⟩
        have HQ := Lib.hid hQ
        have hQl : Q.length = q := by rw [hQ]; exact rowsAt_len _ _ _
        have HQL := Lib.hid hQl
        clear hQ hQl
        have HPB := Lib.hid (show ∀ m, (pxFrom Q m).length ≤ 10000 from fun m => by
          have h1 := pxFrom_len (R := Q) (w := j) (fun r hr => by rw [HQ.out] at hr; obtain ⟨y, hy, rfl⟩ := List.mem_map.1 hr; exact rowAt_len HLQ.out (List.mem_range.1 hy)) m
          rw [HQL.out] at h1
          have h2 : q * j ≤ 100 * 100 := Nat.mul_le_mul (by omega) (by omega)
          omega)
        go_loopw [6, 7, 8] (fun s6 _ _ wr => ∃ (m p : Nat) (A : Option Addr) (cap : Nat), s6 = .int .i64 ((m : Int) - 1) ∧ m ≤ q ∧ Hid (wr.heap[w.heap.size + 1]? = some (.cells #[.int .i64 (j : Int), .int .i64 (q : Int), .slice A p cap] 25 (0, 0))) ∧ Hid (IRow wr (w.heap.size + 1 + 1) (.slice A p cap) p (pxFrom Q m)) ∧ Hid (Ch (· = w.heap.size + 1) W2 wr) ∧ Hid (∀ y, m ≤ y → y < q → L[y * (j + 1) + j]? = some 10 ∧ ∀ k, k < j → ∃ c, L[y * (j + 1) + k]? = some c ∧ okI c = true)) (fun s6 _ _ _ => (intOf s6 + 1).toNat)
        case atStart => exact ⟨q, 0, none, 0, rfl, Nat.le_refl _, OB, Lib.hid (by rw [← HQL.out, pxFrom_end]; exact IRow.nil _ _), Lib.hid (Ch.refl _ _), Lib.hid fun y h1 h2 => by omega⟩
        case round =>
          obtain ⟨m, p, A, cap, hs6, hm, HO, HRW, HC, HOK⟩ := hrel
          have RB3 := Lib.hid (HC.out.heap RB2.out (by show w.heap.size ≠ _; omega))
          have r0 : wr.cell? ⟨w.heap.size, 0, none⟩ = some (.int .i64 0) := by rw [cell_of RB3.out]; rfl
          have r1 : wr.cell? ⟨w.heap.size, 1, none⟩ = some (.int .i64 0) := by rw [cell_of RB3.out]; rfl
          have r2 : wr.cell? ⟨w.heap.size, 2, none⟩ = some (.slice none 0 0) := by rw [cell_of RB3.out]; rfl
          have q0 : wr.frozen? ⟨w.heap.size, 0, none⟩ = false := frozen_of RB3.out
          have q1 : wr.frozen? ⟨w.heap.size, 1, none⟩ = false := frozen_of RB3.out
          have q2 : wr.frozen? ⟨w.heap.size, 2, none⟩ = false := frozen_of RB3.out
          have NR := Lib.hid (N2.out.trans' HC.out (fun i hi e => by have e' : i = w.heap.size + 1 := e; omega))
          cases m with
          | zero =>
            obtain rfl : u6 = .int .i64 (-1) := hs6
            have b0 : wr.cell? ⟨w.heap.size + 1, 0, none⟩ = some (.int .i64 (j : Int)) := by rw [cell_of HO.out]; rfl
            have b1 : wr.cell? ⟨w.heap.size + 1, 1, none⟩ = some (.int .i64 (q : Int)) := by rw [cell_of HO.out]; rfl
            have b2 : wr.cell? ⟨w.heap.size + 1, 2, none⟩ = some (.slice A p cap) := by rw [cell_of HO.out]; rfl
            have hpa := parse_all HLQ.out ⟨by omega, by omega⟩ ⟨q1', by omega⟩ (fun y hy => HOK.out y (Nat.zero_le _) hy)
            rw [← HQ.out] at hpa
            have HPA := Lib.hid hpa
            clear hpa
            go_wp2
            refine bodyPost_ret (v := .tuple #[.agg #[.int .i64 (j : Int), .int .i64 (q : Int), .slice A p cap], .bool true]) (by simp [results, Tryd.results30, go_sem, r0, r1, r2]) rfl ?_
            have h0 := fun W' => HR.out W' (.agg #[.int .i64 (j : Int), .int .i64 (q : Int), .slice A p cap])
            rw [HPA.out] at h0
            refine h0 _ ⟨_, rfl, ?_, by simp only [wfI]; omega, by simp only [wfI]; omega⟩ (((NR.out.setb (fun h => by omega) _).setb (fun h => by omega) _).setb (fun h => by omega) _)
            have hr9 := HRW.out.ch ((((Ch.refl (· = w.heap.size) wr).setb (b := w.heap.size) (o := 0) (fun _ => rfl) (.int .i64 (j : Int))).setb (b := w.heap.size) (o := 1) (fun _ => rfl) (.int .i64 (q : Int))).setb (b := w.heap.size) (o := 2) (fun _ => rfl) (.slice A p cap)) (fun i hi e => by have e' : i = w.heap.size := e; omega)
            refine hr9.isInts (fun x hx => ?_) ?_
            · rw [pxFrom_all] at hx
              unfold pxR at hx
              obtain ⟨c, -, rfl⟩ := List.mem_map.1 hx
              have := pixI_in c
              unfold wfI; omega
            · have h1 := HRW.out.len
              have h2 := HPB.out 0
              omega
          | succ y =>
            obtain rfl : u6 = .int .i64 (y : Int) := by rw [hs6]; congr 1; omega
            clear hs6
            have y0 : (0 : Int) ≤ (y : Int) := by omega
            have yq : (y : Int) ≤ 100 := by omega
            obtain ⟨a, ha⟩ : ∃ a : Nat, a = y * (j + 1) := ⟨_, rfl⟩
            have ea : (y : Int) * ((j : Int) + 1) = (a : Int) := by rw [ha]; simp
            have eb : ((y : Int) + 1) * ((j : Int) + 1) = (a : Int) + ((j : Int) + 1) := by rw [Int.add_mul, ea]; omega
            have haW : a + (j + 1) ≤ s.size := by
              have h1 := HLQ.out
              have h2 := HLEN.out
              have h4 : (y + 1) * (j + 1) ≤ q * (j + 1) := Nat.mul_le_mul_right _ (by omega)
              rw [Nat.add_mul y 1 (j + 1), Nat.one_mul, ← ha] at h4
              omega
            have HAY := Lib.hid ha
            clear ha
            obtain ⟨row, hsl, hrs, hrg⟩ : ∃ row : ByteArray, (∀ W : World, (Instr.slice 9 (.string s) (some (.int .i64 (a : Int))) (some (.int .i64 ((a : Int) + ((j : Int) + 1)))) none).run Tryd.prog W = .ok (.string row) W) ∧ row.size = j + 1 ∧ ∀ k (h : k < row.size), L[a + k]? = some (row[k]'h) := by
              refine ⟨s.extract a (a + (j + 1)), fun W => ?_, by simp; omega, fun k h => ?_⟩
              · rw [run_slice_string_if W _ s _ _ _ _ Tryd.underlying9, if_pos (by omega), if_pos (by omega)]
                congr 2
              · have h1 := ba_get _ k h
                rw [← h1]
                have h2 : k < j + 1 := by have : (s.extract a (a + (j + 1))).size = j + 1 := by (simp; omega)
                                          omega
                have h3 : (s.extract a (a + (j + 1))).data.toList = List.take (a + (j + 1) - a) (List.drop a s.data.toList) := by simp
                rw [h3, HL.out, List.getElem?_take, if_pos (by omega), List.getElem?_drop]
            have HRG := Lib.hid hrg
            have hjr : j < row.size := by omega
            have hten2 := hrg j hjr
            clear hrg
            obtain ⟨e, he⟩ : ∃ e, row[j]'hjr = e := ⟨_, rfl⟩
            rw [he] at hten2
            have HTE := Lib.hid hten2
            clear hten2
            by_cases h10 : e = 10
            · have t10 : ((e.toNat : Int) != 10) = false := by rw [h10]; rfl
              have HT10 := Lib.hid (show L[y * (j + 1) + j]? = some 10 from by rw [← HAY.out, HTE.out, h10])
              clear h10
              have jr1 : (j : Int) < (row.size : Int) := by omega
              go_wp2
              have hry : Q[y]? = some (rowAt j L y) := by
                rw [HQ.out]
                unfold rowsAt
                rw [List.getElem?_map, List.getElem?_range (by omega)]
                rfl
              have HRY := Lib.hid hry
              clear hry r0 r1 r2 q0 q1 q2
              go_loopw [8] (fun s8 wr => ∃ (k p : Nat) (A : Option Addr) (cap : Nat), s8 = .int .i64 k ∧ k ≤ j ∧ Hid (wr.heap[w.heap.size + 1]? = some (.cells #[.int .i64 (j : Int), .int .i64 (q : Int), .slice A p cap] 25 (0, 0))) ∧ Hid (IRow wr (w.heap.size + 1 + 1) (.slice A p cap) p (pxFrom Q (y + 1) ++ ((rowAt j L y).take k).map pixI)) ∧ Hid (Ch (· = w.heap.size + 1) W2 wr) ∧ Hid (∀ i, i < k → ∃ c, L[y * (j + 1) + i]? = some c ∧ okI c = true)) (fun s8 _ => j - (intOf s8).toNat)
              case atStart => exact ⟨0, p, A, cap, rfl, Nat.zero_le _, HO, Lib.hid (by rw [List.take_zero, List.map_nil, List.append_nil]; exact HRW.out), HC, Lib.hid fun i hi => by omega⟩
              case round =>
                clear HO HRW HC RB3 NR
                obtain ⟨k, p3, A3, cap3, rfl, hk, HO, HRW, HC, HOKK⟩ := hrel
                have k0 : (0 : Int) ≤ (k : Int) := by omega
                have b2 : wr.cell? ⟨w.heap.size + 1, 2, none⟩ = some (.slice A3 p3 cap3) := by rw [cell_of HO.out]; rfl
                have szr := HC.out.size
                rw [HSZ2.out] at szr
                by_cases hkj : k < j
                · have k1 : (k : Int) < (j : Int) := by omega
                  have kr : k < row.size := by omega
                  have k2 : (k : Int) < (row.size : Int) := by omega
                  have hck := HRG.out k kr
                  obtain ⟨d, hd⟩ : ∃ d, row[k]'kr = d := ⟨_, rfl⟩
                  rw [hd] at hck
                  have HCK := Lib.hid (show L[y * (j + 1) + k]? = some d from by rw [← HAY.out]; exact hck)
                  have pl : p3 ≤ 1000000 := by
                    have h1 := HRW.out.len
                    have h2 := HPB.out (y + 1)
                    rw [List.length_append, List.length_map, List.length_take] at h1
                    omega
                  clear hck
                  obtain ⟨lst, hlst⟩ : ∃ x, pxFrom Q (y + 1) ++ ((rowAt j L y).take k).map pixI = x := ⟨_, rfl⟩
                  rw [hlst] at HRW
                  have HLST := Lib.hid hlst
                  clear hlst
                  by_cases hok : okI d = true
                  · have hcs : (((d.toNat : Int) == 46) = true ∧ pixI d = 0) ∨ (((d.toNat : Int) == 46) = false ∧ ((d.toNat : Int) == 35) = true ∧ pixI d = 1) ∨ (((d.toNat : Int) == 46) = false ∧ ((d.toNat : Int) == 35) = false ∧ ((d.toNat : Int) == 63) = true ∧ pixI d = 2) := by
                      simp only [okI, Bool.or_eq_true, beq_iff_eq] at hok
                      rcases hok with (h | h) | h <;> subst h
                      · left; exact ⟨rfl, rfl⟩
                      · right; left; exact ⟨rfl, rfl, rfl⟩
                      · right; right; exact ⟨rfl, rfl, rfl, rfl⟩
                    have HOD := Lib.hid hok
                    clear hok
                    rcases hcs with ⟨u1, hpx⟩ | ⟨u1, u2, hpx⟩ | ⟨u1, u2, u3, hpx⟩
                    · have HPX := Lib.hid hpx
                      clear hpx
                      go_wp2_with (at_builtin; refine app_int _ rfl (.tmp 86) (.tmp 87) rfl (w.heap.size + 1 + 1) (.slice A3 p3 cap3) p3 _ (by rfl) (HRW.out.ch ((Ch.refl (fun _ => False) _).alloc _) (fun _ _ e => e)) _ 0 (by rfl) (cell_alloc_new rfl rfl) (by omega) (by rw [alloc_size]; omega) ?_)
                      intro g3 cap4 w3 hr3 hg3
                      have HR3 := Lib.hid hr3
                      have C3 := Lib.hid ((HC.out.alloc _).grown hg3 (fun i hi hl => by have := (HRW.out.lt i hi).1; have := HSZ2.out; omega))
                      have O3 : w3.heap[w.heap.size + 1]? = some (.cells #[.int .i64 (j : Int), .int .i64 (q : Int), .slice A3 p3 cap3] 25 (0, 0)) := by
                        have := hg3.block (w.heap.size + 1) (by rw [alloc_size]; omega) (fun e => by have := (HRW.out.lt (w.heap.size + 1) e.symm).1; omega)
                        rw [this]
                        exact heap_alloc_old' _ HO.out
                      have HO3 := Lib.hid O3
                      have f2 : w3.cell? ⟨w.heap.size + 1, 2, none⟩ = some (.slice A3 p3 cap3) := by rw [cell_of O3]; rfl
                      have z2 : w3.frozen? ⟨w.heap.size + 1, 2, none⟩ = false := frozen_of O3
                      clear hr3 hg3 O3
                      go_wp2
                      refine ⟨⟨k + 1, p3 + 1, some ⟨g3, 0, none⟩, cap4, rfl, by omega, Lib.hid (heap_setCell_eq _ HO3.out), Lib.hid ?_, Lib.hid (C3.out.setb (fun _ => rfl) _), Lib.hid fun i hi => ?_⟩, ?_⟩
                      · have hrk : (rowAt j L y)[k]? = some d := by rw [rowAt_get hkj]; exact HCK.out
                        rw [take_snocX hrk, List.map_append, ← List.append_assoc, List.map_cons, List.map_nil, HPX.out, HLST.out]
                        exact (HR3.out.ch ((Ch.refl (· = w.heap.size + 1) w3).setb (fun _ => rfl) _) (fun i hi e => by have e' : i = w.heap.size + 1 := e; omega))
                      · by_cases e : i = k
                        · subst e; exact ⟨d, HCK.out, HOD.out⟩
                        · exact HOKK.out i (by omega)
                      · simp [intOf]; omega
                    · have HPX := Lib.hid hpx
                      clear hpx
                      go_wp2_with (at_builtin; refine app_int _ rfl (.tmp 93) (.tmp 94) rfl (w.heap.size + 1 + 1) (.slice A3 p3 cap3) p3 _ (by rfl) (HRW.out.ch ((Ch.refl (fun _ => False) _).alloc _) (fun _ _ e => e)) _ 1 (by rfl) (cell_alloc_new rfl rfl) (by omega) (by rw [alloc_size]; omega) ?_)
                      intro g3 cap4 w3 hr3 hg3
                      have HR3 := Lib.hid hr3
                      have C3 := Lib.hid ((HC.out.alloc _).grown hg3 (fun i hi hl => by have := (HRW.out.lt i hi).1; have := HSZ2.out; omega))
                      have O3 : w3.heap[w.heap.size + 1]? = some (.cells #[.int .i64 (j : Int), .int .i64 (q : Int), .slice A3 p3 cap3] 25 (0, 0)) := by
                        have := hg3.block (w.heap.size + 1) (by rw [alloc_size]; omega) (fun e => by have := (HRW.out.lt (w.heap.size + 1) e.symm).1; omega)
                        rw [this]
                        exact heap_alloc_old' _ HO.out
                      have HO3 := Lib.hid O3
                      have f2 : w3.cell? ⟨w.heap.size + 1, 2, none⟩ = some (.slice A3 p3 cap3) := by rw [cell_of O3]; rfl
                      have z2 : w3.frozen? ⟨w.heap.size + 1, 2, none⟩ = false := frozen_of O3
                      clear hr3 hg3 O3
                      go_wp2
                      refine ⟨⟨k + 1, p3 + 1, some ⟨g3, 0, none⟩, cap4, rfl, by omega, Lib.hid (heap_setCell_eq _ HO3.out), Lib.hid ?_, Lib.hid (C3.out.setb (fun _ => rfl) _), Lib.hid fun i hi => ?_⟩, ?_⟩
                      · have hrk : (rowAt j L y)[k]? = some d := by rw [rowAt_get hkj]; exact HCK.out
                        rw [take_snocX hrk, List.map_append, ← List.append_assoc, List.map_cons, List.map_nil, HPX.out, HLST.out]
                        exact (HR3.out.ch ((Ch.refl (· = w.heap.size + 1) w3).setb (fun _ => rfl) _) (fun i hi e => by have e' : i = w.heap.size + 1 := e; omega))
                      · by_cases e : i = k
                        · subst e; exact ⟨d, HCK.out, HOD.out⟩
                        · exact HOKK.out i (by omega)
                      · simp [intOf]; omega
                    · have HPX := Lib.hid hpx
                      clear hpx
                      go_wp2_with (at_builtin; refine app_int _ rfl (.tmp 100) (.tmp 101) rfl (w.heap.size + 1 + 1) (.slice A3 p3 cap3) p3 _ (by rfl) (HRW.out.ch ((Ch.refl (fun _ => False) _).alloc _) (fun _ _ e => e)) _ 2 (by rfl) (cell_alloc_new rfl rfl) (by omega) (by rw [alloc_size]; omega) ?_)
                      intro g3 cap4 w3 hr3 hg3
                      have HR3 := Lib.hid hr3
                      have C3 := Lib.hid ((HC.out.alloc _).grown hg3 (fun i hi hl => by have := (HRW.out.lt i hi).1; have := HSZ2.out; omega))
                      have O3 : w3.heap[w.heap.size + 1]? = some (.cells #[.int .i64 (j : Int), .int .i64 (q : Int), .slice A3 p3 cap3] 25 (0, 0)) := by
                        have := hg3.block (w.heap.size + 1) (by rw [alloc_size]; omega) (fun e => by have := (HRW.out.lt (w.heap.size + 1) e.symm).1; omega)
                        rw [this]
                        exact heap_alloc_old' _ HO.out
                      have HO3 := Lib.hid O3
                      have f2 : w3.cell? ⟨w.heap.size + 1, 2, none⟩ = some (.slice A3 p3 cap3) := by rw [cell_of O3]; rfl
                      have z2 : w3.frozen? ⟨w.heap.size + 1, 2, none⟩ = false := frozen_of O3
                      clear hr3 hg3 O3
                      go_wp2
                      refine ⟨⟨k + 1, p3 + 1, some ⟨g3, 0, none⟩, cap4, rfl, by omega, Lib.hid (heap_setCell_eq _ HO3.out), Lib.hid ?_, Lib.hid (C3.out.setb (fun _ => rfl) _), Lib.hid fun i hi => ?_⟩, ?_⟩
                      · have hrk : (rowAt j L y)[k]? = some d := by rw [rowAt_get hkj]; exact HCK.out
                        rw [take_snocX hrk, List.map_append, ← List.append_assoc, List.map_cons, List.map_nil, HPX.out, HLST.out]
                        exact (HR3.out.ch ((Ch.refl (· = w.heap.size + 1) w3).setb (fun _ => rfl) _) (fun i hi e => by have e' : i = w.heap.size + 1 := e; omega))
                      · by_cases e : i = k
                        · subst e; exact ⟨d, HCK.out, HOD.out⟩
                        · exact HOKK.out i (by omega)
                      · simp [intOf]; omega
                  · have NO := Lib.hid (show parseM L = (zeroI, false) from parse_no fun hT => by
                      obtain ⟨H, h1, h2, h3, h4⟩ := isText_idx hT HNO.out (fun hw => HTEN.out (by rw [← HLEN.out]; exact hw)) (by rw [HLEN.out]; exact hj)
                      have hH : H = q := by
                        have h5 := HLQ.out
                        rw [h1] at h5
                        exact Nat.eq_of_mul_eq_mul_right (by omega) h5
                      obtain ⟨c', h6, h7⟩ := (h4 y (by omega)).2 k hkj
                      rw [HCK.out] at h6
                      injection h6 with h6
                      exact hok (by rw [h6]; exact h7))
                    have u1 : ((d.toNat : Int) == 46) = false := by
                      refine beq_eq_false_iff_ne.2 fun h => hok ?_
                      have : d = 46 := UInt8.toNat_inj.1 (by show d.toNat = 46; omega)
                      rw [this]; rfl
                    have u2 : ((d.toNat : Int) == 35) = false := by
                      refine beq_eq_false_iff_ne.2 fun h => hok ?_
                      have : d = 35 := UInt8.toNat_inj.1 (by show d.toNat = 35; omega)
                      rw [this]; rfl
                    have u3 : ((d.toNat : Int) == 63) = false := by
                      refine beq_eq_false_iff_ne.2 fun h => hok ?_
                      have : d = 63 := UInt8.toNat_inj.1 (by show d.toNat = 63; omega)
                      rw [this]; rfl
                    clear hok
                    have RB3 := Lib.hid (HC.out.heap RB2.out (by show w.heap.size ≠ _; omega))
                    have r0 : wr.cell? ⟨w.heap.size, 0, none⟩ = some (.int .i64 0) := by rw [cell_of RB3.out]; rfl
                    have r1 : wr.cell? ⟨w.heap.size, 1, none⟩ = some (.int .i64 0) := by rw [cell_of RB3.out]; rfl
                    have r2 : wr.cell? ⟨w.heap.size, 2, none⟩ = some (.slice none 0 0) := by rw [cell_of RB3.out]; rfl
                    have q0 : wr.frozen? ⟨w.heap.size, 0, none⟩ = false := frozen_of RB3.out
                    have q1 : wr.frozen? ⟨w.heap.size, 1, none⟩ = false := frozen_of RB3.out
                    have q2 : wr.frozen? ⟨w.heap.size, 2, none⟩ = false := frozen_of RB3.out
                    have NR := Lib.hid (N2.out.trans' HC.out (fun i hi e => by have e' : i = w.heap.size + 1 := e; omega))
                    go_wp2
                    refine bodyPost_ret (v := .tuple #[.agg #[.int .i64 0, .int .i64 0, .slice none 0 0], .bool false]) (by simp [results, Tryd.results30, go_sem, r0, r1, r2]) rfl ?_
                    have h0 := fun W' => HR.out W' (.agg #[.int .i64 0, .int .i64 0, .slice none 0 0])
                    rw [NO.out] at h0
                    exact h0 _ (isIm_zero _ _) (((NR.out.setb (fun h => by omega) _).setb (fun h => by omega) _).setb (fun h => by omega) _)
                · obtain rfl : k = j := by omega
                  have k1 : ¬ (k : Int) < (k : Int) := by omega
                  go_wp2
                  have hrl : (rowAt k L y).length = k := rowAt_len HLQ.out (by omega)
                  refine ⟨⟨y, p3, A3, cap3, ?_, by omega, HO, Lib.hid ?_, HC, Lib.hid fun y' h1 h2 => ?_⟩, ?_⟩
                  · go_num
                  · have h := HRW.out
                    rw [List.take_of_length_le (by omega), ← pxFrom_step HRY.out] at h
                    exact h
                  · by_cases e : y' = y
                    · subst e; exact ⟨HT10.out, HOKK.out⟩
                    · exact HOK.out y' (by omega) h2
                  · simp [intOf]
            · have t10 : ((e.toNat : Int) != 10) = true := by simp; exact fun h => h10 ((u8_ten e).2 h)
              have NO := Lib.hid (show parseM L = (zeroI, false) from parse_no fun hT => by
                obtain ⟨H, h1, h2, h3, h4⟩ := isText_idx hT HNO.out (fun hw => HTEN.out (by rw [← HLEN.out]; exact hw)) (by rw [HLEN.out]; exact hj)
                have hH : H = q := by
                  have h5 := HLQ.out
                  rw [h1] at h5
                  exact Nat.eq_of_mul_eq_mul_right (by omega) h5
                have h6 := (h4 y (by omega)).1
                rw [← HAY.out, HTE.out] at h6
                injection h6 with h6
                exact h10 h6)
              clear h10
              have jr1 : (j : Int) < (row.size : Int) := by omega
              go_wp2
              refine bodyPost_ret (v := .tuple #[.agg #[.int .i64 0, .int .i64 0, .slice none 0 0], .bool false]) (by simp [results, Tryd.results30, go_sem, r0, r1, r2]) rfl ?_
              have h0 := fun W' => HR.out W' (.agg #[.int .i64 0, .int .i64 0, .slice none 0 0])
              rw [NO.out] at h0
              exact h0 _ (isIm_zero _ _) (((NR.out.setb (fun h => by omega) _).setb (fun h => by omega) _).setb (fun h => by omega) _)
end Go.Proofs.YtnhdnjhhjmgmnaaDoor
