/-
  image.Parse: the image with given rows.
-/
import Derived.Test.YtnhdnjhhjmgmnaaDoorImV
namespace Go.Proofs.YtnhdnjhhjmgmnaaDoor
open Go.RowKit
set_option linter.unusedVariables false
set_option linter.unusedSimpArgs false
set_option maxRecDepth 100000
attribute [local go_sem ↓] Go.wp_at_zero Go.wp_at_succ

theorem chIdx_ok {c : UInt8} (h : okI c = true) : chIdx (c.toNat : Int) = pixI c := by
  simp only [okI, Bool.or_eq_true, beq_iff_eq] at h
  rcases h with (h | h) | h <;> subst h <;> rfl
theorem chIdx_bad {c : UInt8} (h : ¬ okI c = true) : chIdx (c.toNat : Int) = -1 := by
  have h1 : c ≠ 46 ∧ c ≠ 35 ∧ c ≠ 63 := by
    simp only [okI, Bool.or_eq_true, beq_iff_eq] at h
    exact ⟨fun e => h (.inl (.inl e)), fun e => h (.inl (.inr e)), fun e => h (.inr e)⟩
  have key : ∀ d : UInt8, c ≠ d → ¬ ((c.toNat : Int) = (d.toNat : Int)) := fun d hd e => hd (UInt8.toNat_inj.1 (by omega))
  have e1 : ¬ ((c.toNat : Int) = 46) := key 46 h1.1
  have e2 : ¬ ((c.toNat : Int) = 35) := key 35 h1.2.1
  have e3 : ¬ ((c.toNat : Int) = 63) := key 63 h1.2.2
  unfold chIdx
  rw [if_neg e1, if_neg e2, if_neg e3]
theorem chIdx_high {c : Int} (h : 128 ≤ c) : chIdx c = -1 := by unfold chIdx; rw [if_neg (by omega), if_neg (by omega), if_neg (by omega)]
theorem chIdx_in (c : Int) : -1 ≤ chIdx c ∧ chIdx c ≤ 2 := by unfold chIdx; repeat (first | omega | split)
theorem lines_le (L : List UInt8) : ∀ r ∈ lines L, r.length ≤ L.length := by
  induction L with
  | nil => intro r h; simp [lines] at h; subst h; simp
  | cons c l ih =>
    by_cases hc : c = 10
    · subst hc
      rw [lines_nl]
      intro r h
      rcases List.mem_cons.1 h with rfl | h
      · simp
      · have := ih r h; simp; omega
    · cases hl : lines l with
      | nil => exact absurd hl (lines_ne l)
      | cons q qs =>
        rw [lines_cons hc hl]
        rw [hl] at ih
        intro r h
        rcases List.mem_cons.1 h with rfl | h
        · have := ih q (by simp); simp; omega
        · have := ih r (List.mem_cons_of_mem _ h); simp; omega
theorem lines_many (L : List UInt8) : (lines L).length ≤ L.length + 1 := by
  induction L with
  | nil => simp [lines]
  | cons c l ih =>
    by_cases hc : c = 10
    · subst hc; rw [lines_nl]; simp; omega
    · cases hl : lines l with
      | nil => exact absurd hl (lines_ne l)
      | cons q qs => rw [lines_cons hc hl]; rw [hl] at ih; simp at ih ⊢; omega
/-- What has been read of the rows from m on: the pixels, or something that is none. -/
def ReadR (Q : List (List UInt8)) (m : Nat) (acc : List Int) : Prop :=
  ((∀ y r, m ≤ y → Q[y]? = some r → ∀ c ∈ r, okI c = true) ∧ acc = pxFrom Q m) ∨ ((∃ r ∈ Q, ∃ c ∈ r, okI c ≠ true) ∧ (-1 : Int) ∈ acc)
def ReadI (Q : List (List UInt8)) (y : Nat) (r : List UInt8) (pos : Nat) (acc : List Int) : Prop :=
  ((∀ y' r, y < y' → Q[y']? = some r → ∀ c ∈ r, okI c = true) ∧ pos ≤ r.length ∧ (∀ c ∈ r.take pos, okI c = true) ∧ acc = pxFrom Q (y + 1) ++ (r.take pos).map pixI) ∨ ((∃ r ∈ Q, ∃ c ∈ r, okI c ≠ true) ∧ (-1 : Int) ∈ acc)
theorem ReadR.start (Q : List (List UInt8)) : ReadR Q Q.length [] := .inl ⟨fun y r h1 h2 => by have := (List.getElem?_eq_some_iff.1 h2).1; omega, (pxFrom_end Q).symm⟩
theorem ReadI.start {Q : List (List UInt8)} {y : Nat} {r : List UInt8} {acc : List Int} (h : ReadR Q (y + 1) acc) : ReadI Q y r 0 acc := by
  rcases h with ⟨h1, h2⟩ | h
  · exact .inl ⟨fun y' r h3 h4 => h1 y' r (by omega) h4, Nat.zero_le _, fun c hc => by simp at hc, by rw [h2]; simp⟩
  · exact .inr h
theorem ReadI.step {Q : List (List UInt8)} {y pos wd : Nat} {r : List UInt8} {acc : List Int} {d : UInt8} {c : Int} (h : ReadI Q y r pos acc) (hr : Q[y]? = some r) (hd : r[pos]? = some d)
    (hlow : d.toNat < 128 → c = (d.toNat : Int) ∧ wd = 1) (hhigh : 128 ≤ d.toNat → 128 ≤ c) : ReadI Q y r (pos + wd) (acc ++ [chIdx c]) := by
  rcases h with ⟨h1, h2, h3, h4⟩ | ⟨h1, h2⟩
  · by_cases hok : okI d = true
    · have hl : d.toNat < 128 := by
        simp only [okI, Bool.or_eq_true, beq_iff_eq] at hok
        rcases hok with (h | h) | h <;> subst h <;> decide
      obtain ⟨rfl, rfl⟩ := hlow hl
      have hk := (List.getElem?_eq_some_iff.1 hd).1
      refine .inl ⟨h1, by omega, ?_, ?_⟩
      · rw [take_snocX hd]
        intro c hc
        rcases List.mem_append.1 hc with hc | hc
        · exact h3 c hc
        · rw [List.mem_singleton.1 hc]; exact hok
      · rw [take_snocX hd, h4, chIdx_ok hok]
        simp
    · refine .inr ⟨⟨r, List.mem_of_getElem? hr, d, List.mem_of_getElem? hd, hok⟩, List.mem_append_right _ ?_⟩
      by_cases hl : d.toNat < 128
      · rw [(hlow hl).1, chIdx_bad hok]; simp
      · rw [chIdx_high (hhigh (by omega))]; simp
  · exact .inr ⟨h1, List.mem_append_left _ h2⟩
theorem ReadI.done {Q : List (List UInt8)} {y pos : Nat} {r : List UInt8} {acc : List Int} (h : ReadI Q y r pos acc) (hr : Q[y]? = some r) (hp : r.length ≤ pos) : ReadR Q y acc := by
  rcases h with ⟨h1, h2, h3, h4⟩ | h
  · rw [List.take_of_length_le hp] at h3 h4
    refine .inl ⟨fun y' r' h5 h6 => ?_, by rw [h4, ← pxFrom_step hr]⟩
    by_cases e : y' = y
    · subst e; rw [hr] at h6; injection h6 with h6; subst h6; exact h3
    · exact h1 y' r' (by omega) h6
  · exact .inr h

theorem dec_facts (row : ByteArray) (pos : Nat) (hp : pos < row.size) (d : UInt8) (hd : row[pos]'hp = d) :
    ∃ rc wd : Nat, Utf8.decode row pos = (rc, wd) ∧ 1 ≤ wd ∧ rc ≤ 2147483647 ∧ (d.toNat < 128 → rc = d.toNat ∧ wd = 1) ∧ (128 ≤ d.toNat → 128 ≤ rc) := by
  have h1 := decode_le row pos
  have h2 : (row[pos]'hp).toNat < 128 → Utf8.decode row pos = ((row[pos]'hp).toNat, 1) := decode_ascii row pos hp
  have h3 : 128 ≤ (row[pos]'hp).toNat → 128 ≤ (Utf8.decode row pos).1 ∧ 1 ≤ (Utf8.decode row pos).2 := decode_high row pos hp
  rw [hd] at h2 h3
  generalize Utf8.decode row pos = q at h1 h2 h3
  obtain ⟨rc, wd⟩ := q
  refine ⟨rc, wd, rfl, ?_, h1, fun hl => ?_, fun hh => (h3 hh).1⟩
  · by_cases hl : d.toNat < 128
    · have := h2 hl
      injection this with a b
      omega
    · exact (h3 (by omega)).2
  · have := h2 hl
    injection this with a b
    exact ⟨a, b⟩

set_option maxHeartbeats 8000000 in
theorem imParse_any (s : ByteArray) (w : World) (R : Ending → World → Prop) (hrn : RunesOk w) (hmx : MaxOk w) (hs : s.size ≤ 500000)
    (hR : ∀ w' v', IsIm w' w'.heap.size v' (parseM s.data.toList).1 → Nw w w' → R (.returned (.tuple #[v', .bool (parseM s.data.toList).2])) w') : Calls Tryd.prog 29 #[.string s] w R := by
  have HR := Lib.hid hR
  have HRN := Lib.hid hrn
  have rl := hrn.lt
  have HMX := Lib.hid hmx
  clear hR hrn hmx
  obtain ⟨L, hL⟩ : ∃ L, s.data.toList = L := ⟨_, rfl⟩
  have hlen : L.length = s.size := by rw [← hL]; exact ba_len s
  rw [hL] at HR
  have HL := Lib.hid hL
  have HLEN := Lib.hid hlen
  clear hL hlen
  have HN := Lib.hid (show Nw w (w.alloc (.cells #[.int .i64 0, .int .i64 0, .slice none 0 0] 25)) from (Ch.refl _ _).alloc _)
  go_enter Tryd.func29, Tryd.ntmps29
  go_upto_region 2 with (go_at_call 51; refine split_any s _ _ (HMX.out.kept HN.out id) (by omega) ?_; intro w1 sb h rows hrl hrm hrc hsb n1; (have RL := Lib.hid hrl); (have RM := Lib.hid hrm); (have RC := Lib.hid hrc); (have RB := Lib.hid (show w1.heap[w.heap.size]? = some (.cells #[.int .i64 0, .int .i64 0, .slice none 0 0] 25 (0, 0)) from n1.heap (heap_alloc_eq _ rfl) id)); (have sbl : w.heap.size + 1 ≤ sb := by simpa using hsb); (have N1 := Lib.hid (HN.out.trans n1)); clear hrl hrm hrc hsb n1)
  obtain ⟨z, hz⟩ : ∃ z, rows[0]? = some z := ⟨_, List.getElem?_eq_getElem (by have := RL.out; omega)⟩
  obtain ⟨t, ht⟩ : ∃ t, rows[h]? = some t := ⟨_, List.getElem?_eq_getElem (by have := RL.out; omega)⟩
  have cz := RC.out 0 z hz
  have ct := RC.out h t ht
  have HZ := Lib.hid hz
  have HT := Lib.hid ht
  have sbw : sb < w1.heap.size := World.block_lt_of_cell? _ _ cz
  have h0i : (0 : Int) ≤ (h : Int) := by omega
  have hsmall : h ≤ 500000 := by
    have h1 := congrArg List.length RM.out
    rw [List.length_map, RL.out, HL.out] at h1
    have h2 := lines_many L
    have := HLEN.out
    omega
  have rowle : ∀ r ∈ rows, r.size ≤ 500000 := by
    intro r hr
    have h1 := lines_le L r.data.toList (by rw [← HL.out, ← RM.out]; exact List.mem_map.2 ⟨r, hr, rfl⟩)
    rw [ba_len, HLEN.out] at h1
    omega
  have hzs : z.size ≤ 500000 := rowle z (List.mem_of_getElem? HZ.out)
  have ROWLE := Lib.hid rowle
  obtain ⟨Q, hQ⟩ : ∃ Q : List (List UInt8), Q = (rows.take h).map (·.data.toList) := ⟨_, rfl⟩
  have hLQ : lines L = Q ++ [t.data.toList] := by
    rw [← HL.out, ← RM.out, hQ]
    have h1 : rows = rows.take h ++ [t] := by
      have := take_snocX HT.out
      rw [List.take_of_length_le (by rw [RL.out]; exact Nat.le_refl _)] at this
      exact this
    conv => lhs; rw [h1]
    simp
  have hQl : Q.length = h := by rw [hQ]; simp; have := RL.out; omega
  have hQg : ∀ k r, k < h → rows[k]? = some r → Q[k]? = some r.data.toList := fun k r hk hr => by
    rw [hQ, List.getElem?_map, List.getElem?_take, if_pos hk, hr]; rfl
  have PL := Lib.hid (parse_lines hLQ)
  have QL := Lib.hid hQl
  have QG := Lib.hid hQg
  clear hz ht rowle hQ hLQ hQl hQg
  go_upto_region 3 with (fail)
  refine wp_named ?_
  intro W2 hW
  have cz := (show W2.cell? ⟨sb, 0, none⟩ = some (.string z) from by rw [hW]; exact cell_alloc_old _ cz)
  have ct := (show W2.cell? ⟨sb, h, none⟩ = some (.string t) from by rw [hW]; exact cell_alloc_old _ ct)
  have RC2 := Lib.hid (show ∀ k r, rows[k]? = some r → W2.cell? ⟨sb, k, none⟩ = some (.string r) from fun k r hk => by rw [hW]; exact cell_alloc_old _ (RC.out k r hk))
  have OB := Lib.hid (show W2.heap[w1.heap.size]? = some (.cells #[.int .i64 (z.size : Int), .int .i64 (h : Int), .slice none 0 0] 25 (0, 0)) from by rw [hW]; exact heap_alloc_eq _ rfl)
  have RB2 := Lib.hid (show W2.heap[w.heap.size]? = some (.cells #[.int .i64 0, .int .i64 0, .slice none 0 0] 25 (0, 0)) from by rw [hW]; exact heap_alloc_old' _ RB.out)
  have N2 := Lib.hid (show Nw w W2 from by rw [hW]; exact N1.out.alloc _)
  have SZ2 := Lib.hid (show W2.heap.size = w1.heap.size + 1 from by rw [hW]; exact alloc_size _ _)
  clear hW RC RB N1
  have b0 : W2.cell? ⟨w1.heap.size, 0, none⟩ = some (.int .i64 (z.size : Int)) := by rw [cell_of OB.out]; rfl
  have b1 : W2.cell? ⟨w1.heap.size, 1, none⟩ = some (.int .i64 (h : Int)) := by rw [cell_of OB.out]; rfl
  have NOT := Lib.hid (show ¬ (GoodR okI 100 Q ∧ t.data.toList = []) → parseM L = (zeroI, false) from fun h => by rw [PL.out, if_neg h])
  by_cases ht0 : t.data.toList = []
  · obtain rfl : t = ⟨#[]⟩ := ba_eq ht0
    clear ht0
    have eE : (ByteArray.mk #[]).toList.isEmpty = true := by rw [ByteArray.toList_eq]; rfl
    have headz : 1 ≤ h → (Q.headD []).length = z.size := fun h1 => by
      have := QG.out 0 z (by omega) HZ.out
      cases Q with
      | nil => cases this
      | cons q qs => simp at this; subst this; exact ba_len z
    have HDZ := Lib.hid headz
    clear headz
    by_cases hbad : z.size < 1 ∨ 100 < z.size ∨ h < 1 ∨ 100 < h
    · have NO := Lib.hid (NOT.out fun ⟨hg, _⟩ => by
        obtain ⟨k1, k2, -⟩ := hg
        rw [QL.out] at k1
        rw [HDZ.out k1.1] at k2
        omega)
      have r0 : W2.cell? ⟨w.heap.size, 0, none⟩ = some (.int .i64 0) := by rw [cell_of RB2.out]; rfl
      have r1 : W2.cell? ⟨w.heap.size, 1, none⟩ = some (.int .i64 0) := by rw [cell_of RB2.out]; rfl
      have r2 : W2.cell? ⟨w.heap.size, 2, none⟩ = some (.slice none 0 0) := by rw [cell_of RB2.out]; rfl
      have q0 : W2.frozen? ⟨w.heap.size, 0, none⟩ = false := frozen_of RB2.out
      have q1 : W2.frozen? ⟨w.heap.size, 1, none⟩ = false := frozen_of RB2.out
      have q2 : W2.frozen? ⟨w.heap.size, 2, none⟩ = false := frozen_of RB2.out
      have hleaf : ((z.size : Int) < 1) ∨ (1 ≤ (z.size : Int) ∧ 100 < (z.size : Int)) ∨ (1 ≤ (z.size : Int) ∧ (z.size : Int) ≤ 100 ∧ (h : Int) < 1) ∨ (1 ≤ (z.size : Int) ∧ (z.size : Int) ≤ 100 ∧ 1 ≤ (h : Int) ∧ 100 < (h : Int)) := by omega
      clear hbad
      rcases hleaf with t1 | ⟨t1, t2⟩ | ⟨t1, t2, t3⟩ | ⟨t1, t2, t3, t4⟩
      all_goals
        try have d0 : decide ((z.size : Int) < 1) = false := by (simp; omega)
        try have d1 : decide ((z.size : Int) < 1) = true := by (simp; omega)
        try have d2 : decide (100 < (z.size : Int)) = false := by (simp; omega)
        try have d3 : decide (100 < (z.size : Int)) = true := by (simp; omega)
        try have d4 : decide ((h : Int) < 1) = false := by (simp; omega)
        try have d5 : decide ((h : Int) < 1) = true := by (simp; omega)
        try have d6 : decide (100 < (h : Int)) = false := by (simp; omega)
        try have d7 : decide (100 < (h : Int)) = true := by (simp; omega)
        go_wp2
        refine bodyPost_ret (v := .tuple #[.agg #[.int .i64 0, .int .i64 0, .slice none 0 0], .bool false]) (by simp [results, Tryd.results29, go_sem, r0, r1, r2]) rfl ?_
        have h0 := fun W' => HR.out W' (.agg #[.int .i64 0, .int .i64 0, .slice none 0 0])
        rw [NO.out] at h0
        exact h0 _ (isIm_zero _ _) (((N2.out.setb (fun h => by omega) _).setb (fun h => by omega) _).setb (fun h => by omega) _)
    · obtain ⟨g1, g2, g3, g4⟩ : 1 ≤ z.size ∧ z.size ≤ 100 ∧ 1 ≤ h ∧ h ≤ 100 := by omega
      clear hbad
      have d1 : decide ((z.size : Int) < 1) = false := by simp; omega
      have d2 : decide (100 < (z.size : Int)) = false := by simp; omega
      have d3 : decide ((h : Int) < 1) = false := by simp; omega
      have d4 : decide (100 < (h : Int)) = false := by simp; omega
      go_wp2
      clear b0 b1 cz ct d1 d2 d3 d4
      go_loopw [6, 8] (fun s6 _ wr => ∃ (m p : Nat) (A : Option Addr) (cap : Nat) (acc : List Int), s6 = .int .i64 ((m : Int) - 1) ∧ m ≤ h ∧ p + m * z.size ≤ h * z.size ∧ Hid (wr.heap[w1.heap.size]? = some (.cells #[.int .i64 (z.size : Int), .int .i64 (h : Int), .slice A p cap] 25 (0, 0))) ∧ Hid (IRow wr (w1.heap.size + 1) (.slice A p cap) p acc) ∧ Hid (Ch (· = w1.heap.size) W2 wr) ∧ Hid (ReadR Q m acc) ∧ Hid (∀ y r, m ≤ y → y < h → rows[y]? = some r → r.size = z.size) ∧ Hid (∀ x ∈ acc, -1 ≤ x ∧ x ≤ 2)) (fun s6 _ _ => (intOf s6 + 1).toNat)
      case atStart => exact ⟨h, 0, none, 0, [], rfl, Nat.le_refl _, by omega, OB, Lib.hid (IRow.nil _ _), Lib.hid (Ch.refl _ _), Lib.hid (by have := ReadR.start Q; rw [QL.out] at this; exact this), Lib.hid fun y r h1 h2 => by omega, Lib.hid fun x hx => by cases hx⟩
      case round =>
        obtain ⟨m, p, A, cap, acc, hs6, hm, hpm, HO, HRW, HC, HRD, HEQ, HIN⟩ := hrel
        have hW100 : h * z.size ≤ 100 * 100 := Nat.mul_le_mul g4 g2
        have RB3 := Lib.hid (HC.out.heap RB2.out (by show w.heap.size ≠ w1.heap.size; omega))
        have NR := Lib.hid (N2.out.trans' HC.out (fun i hi e => by have e' : i = w1.heap.size := e; omega))
        have r0 : wr.cell? ⟨w.heap.size, 0, none⟩ = some (.int .i64 0) := by rw [cell_of RB3.out]; rfl
        have r1 : wr.cell? ⟨w.heap.size, 1, none⟩ = some (.int .i64 0) := by rw [cell_of RB3.out]; rfl
        have r2 : wr.cell? ⟨w.heap.size, 2, none⟩ = some (.slice none 0 0) := by rw [cell_of RB3.out]; rfl
        have q0 : wr.frozen? ⟨w.heap.size, 0, none⟩ = false := frozen_of RB3.out
        have q1 : wr.frozen? ⟨w.heap.size, 1, none⟩ = false := frozen_of RB3.out
        have q2 : wr.frozen? ⟨w.heap.size, 2, none⟩ = false := frozen_of RB3.out
        cases m with
        | zero =>
          obtain rfl : u6 = .int .i64 (-1) := hs6
          have b0 : wr.cell? ⟨w1.heap.size, 0, none⟩ = some (.int .i64 (z.size : Int)) := by rw [cell_of HO.out]; rfl
          have b1 : wr.cell? ⟨w1.heap.size, 1, none⟩ = some (.int .i64 (h : Int)) := by rw [cell_of HO.out]; rfl
          have b2 : wr.cell? ⟨w1.heap.size, 2, none⟩ = some (.slice A p cap) := by rw [cell_of HO.out]; rfl
          have hIM : IsIm wr wr.heap.size (.agg #[.int .i64 (z.size : Int), .int .i64 (h : Int), .slice A p cap]) ((z.size : Int), (h : Int), acc) := by
            refine ⟨_, rfl, HRW.out.isInts (fun x hx => by have := HIN.out x hx; unfold wfI; omega) (by omega), by simp only [wfI]; omega, by simp only [wfI]; omega⟩
          have HIM := Lib.hid hIM
          have wn : w1.heap.size ≠ w.heap.size := by omega
          have wrl := lt_of_heap HO.out
          have wrl2 : w.heap.size < wr.heap.size := by omega
          have allz : ∀ q ∈ Q, q.length = z.size := fun q hq => by
            obtain ⟨y, hy⟩ := List.mem_iff_getElem?.1 hq
            have hyh : y < h := by have := (List.getElem?_eq_some_iff.1 hy).1; have := QL.out; omega
            obtain ⟨row, hrow⟩ : ∃ row, rows[y]? = some row := ⟨_, List.getElem?_eq_getElem (by have := RL.out; omega)⟩
            have h1 := QG.out y row hyh hrow
            rw [hy] at h1
            injection h1 with h1
            rw [h1, ba_len]
            exact HEQ.out y row (Nat.zero_le _) hyh hrow
          have ALLZ := Lib.hid allz
          clear hIM allz r0 r1 r2 q0 q1 q2
          rcases HRD.out with ⟨hok, hacc⟩ | ⟨hbadc, hm1⟩
          · have hg : GoodR okI 100 Q := by
              refine ⟨by rw [QL.out]; exact ⟨g3, g4⟩, by rw [HDZ.out g3]; exact ⟨g1, g2⟩, fun q hq => ⟨by rw [HDZ.out g3]; exact ALLZ.out q hq, fun c hc => ?_⟩⟩
              obtain ⟨y, hy⟩ := List.mem_iff_getElem?.1 hq
              exact hok y q (Nat.zero_le _) hy c hc
            have himg : imgR Q = ((z.size : Int), (h : Int), acc) := by
              unfold imgR
              rw [HDZ.out g3, QL.out, hacc, pxFrom_all]
            have YES := Lib.hid (show parseM L = (((z.size : Int), (h : Int), acc), true) from by rw [PL.out, if_pos ⟨hg, by simp⟩, himg])
            have OKI := Lib.hid (show imOk ((z.size : Int), (h : Int), acc) from by rw [← himg]; exact imgR_ok hg)
            clear hg himg hok hacc
            go_wp2_with (go_at_call 22; refine imCheck_ok wr.heap.size _ _ _ _ HIM.out OKI.out ?_; intro w5 n5; (have e0 := n5.cell b0 id); (have e1 := n5.cell b1 id); (have e2 := n5.cell b2 id); (have RB5 := Lib.hid (n5.heap RB3.out id)); (have r0 : w5.cell? ⟨w.heap.size, 0, none⟩ = some (.int .i64 0) := by rw [cell_of RB5.out]; rfl); (have r1 : w5.cell? ⟨w.heap.size, 1, none⟩ = some (.int .i64 0) := by rw [cell_of RB5.out]; rfl); (have r2 : w5.cell? ⟨w.heap.size, 2, none⟩ = some (.slice none 0 0) := by rw [cell_of RB5.out]; rfl); (have q0 : w5.frozen? ⟨w.heap.size, 0, none⟩ = false := frozen_of RB5.out); (have q1 : w5.frozen? ⟨w.heap.size, 1, none⟩ = false := frozen_of RB5.out); (have q2 : w5.frozen? ⟨w.heap.size, 2, none⟩ = false := frozen_of RB5.out); (have N5 := Lib.hid (NR.out.trans n5)); (have HR5 := Lib.hid (HRW.out.ch n5 (fun _ _ e => e))); clear n5)
            refine bodyPost_ret (v := .tuple #[.agg #[.int .i64 (z.size : Int), .int .i64 (h : Int), .slice A p cap], .bool true]) (by simp [results, Tryd.results29, go_sem, r0, r1, r2]) rfl ?_
            have h0 := fun W' => HR.out W' (.agg #[.int .i64 (z.size : Int), .int .i64 (h : Int), .slice A p cap])
            rw [YES.out] at h0
            refine h0 _ ⟨_, rfl, ?_, by simp only [wfI]; omega, by simp only [wfI]; omega⟩ (((N5.out.setb (fun h => by omega) _).setb (fun h => by omega) _).setb (fun h => by omega) _)
            have hr9 := HR5.out.ch ((((Ch.refl (· = w.heap.size) w5).setb (b := w.heap.size) (o := 0) (fun _ => rfl) (.int .i64 (z.size : Int))).setb (b := w.heap.size) (o := 1) (fun _ => rfl) (.int .i64 (h : Int))).setb (b := w.heap.size) (o := 2) (fun _ => rfl) (.slice A p cap)) (fun i hi e => by have e' : i = w.heap.size := e; omega)
            exact hr9.isInts (fun x hx => by have := HIN.out x hx; unfold wfI; omega) (by omega)
          · have NO := Lib.hid (NOT.out fun ⟨hg, _⟩ => by
              obtain ⟨q, hq, c, hc, hnot⟩ := hbadc
              exact hnot ((hg.2.2 q hq).2 c hc))
            have BAD := Lib.hid (show ¬ imOk ((z.size : Int), (h : Int), acc) from fun hO => by
              have := hO.2.2.2 (-1) hm1
              omega)
            clear hbadc hm1
            go_wp2_with (go_at_call 22; refine imCheck_bad wr.heap.size _ _ _ _ HIM.out BAD.out ?_; intro w5 n5; (have RB5 := Lib.hid (n5.heap RB3.out id)); (have r0 : w5.cell? ⟨w.heap.size, 0, none⟩ = some (.int .i64 0) := by rw [cell_of RB5.out]; rfl); (have r1 : w5.cell? ⟨w.heap.size, 1, none⟩ = some (.int .i64 0) := by rw [cell_of RB5.out]; rfl); (have r2 : w5.cell? ⟨w.heap.size, 2, none⟩ = some (.slice none 0 0) := by rw [cell_of RB5.out]; rfl); (have q0 : w5.frozen? ⟨w.heap.size, 0, none⟩ = false := frozen_of RB5.out); (have q1 : w5.frozen? ⟨w.heap.size, 1, none⟩ = false := frozen_of RB5.out); (have q2 : w5.frozen? ⟨w.heap.size, 2, none⟩ = false := frozen_of RB5.out); (have N5 := Lib.hid (NR.out.trans n5)); clear n5)
            refine bodyPost_ret (v := .tuple #[.agg #[.int .i64 0, .int .i64 0, .slice none 0 0], .bool false]) (by simp [results, Tryd.results29, go_sem, r0, r1, r2]) rfl ?_
            have h0 := fun W' => HR.out W' (.agg #[.int .i64 0, .int .i64 0, .slice none 0 0])
            rw [NO.out] at h0
            exact h0 _ (isIm_zero _ _) (((N5.out.setb (fun h => by omega) _).setb (fun h => by omega) _).setb (fun h => by omega) _)
        | succ y =>
          obtain rfl : u6 = .int .i64 (y : Int) := by rw [hs6]; congr 1; omega
          clear hs6
          have y0 : (0 : Int) ≤ (y : Int) := by omega
          have y1 : (y : Int) < (h : Int) + 1 := by omega
          obtain ⟨row, hrow⟩ : ∃ row, rows[y]? = some row := ⟨_, List.getElem?_eq_getElem (by have := RL.out; omega)⟩
          have cr := HC.out.cell (RC2.out y row hrow) (by show sb ≠ w1.heap.size; omega)
          have rws := ROWLE.out row (List.mem_of_getElem? hrow)
          have HROW := Lib.hid hrow
          clear hrow
          have H1 := Lib.hid (show wr.heap.size ≥ w1.heap.size + 1 from by have := HC.out.size; have := SZ2.out; omega)
          clear r0 r1 r2 q0 q1 q2
          go_wp2_with fail
          refine wp_named ?_
          intro W3 hW
          have IT := Lib.hid (show W3.heap[wr.heap.size]? = some (.stringIter row 0) from by rw [hW]; exact heap_alloc_eq _ rfl)
          have N3 := Lib.hid (show Nw wr W3 from by rw [hW]; exact (Ch.refl _ _).alloc _)
          clear hW
          obtain ⟨it, hit⟩ : ∃ it, it = wr.heap.size := ⟨_, rfl⟩
          have HIT := Lib.hid hit
          rw [← hit]
          rw [← hit] at IT
          clear hit
          have itb : w1.heap.size + 1 ≤ it := by have := H1.out; have := HIT.out; omega
          go_loopw [8] (fun _ wq => ∃ (pos p : Nat) (A : Option Addr) (cap : Nat) (acc : List Int), p + (y + 1) * z.size ≤ h * z.size + min pos row.size ∧ Hid (wq.heap[it]? = some (.stringIter row pos)) ∧ Hid (wq.heap[w1.heap.size]? = some (.cells #[.int .i64 (z.size : Int), .int .i64 (h : Int), .slice A p cap] 25 (0, 0))) ∧ Hid (IRow wq (w1.heap.size + 1) (.slice A p cap) p acc) ∧ Hid (Ch (· = w1.heap.size) W2 wq) ∧ Hid (ReadI Q y row.data.toList pos acc) ∧ Hid (∀ x ∈ acc, -1 ≤ x ∧ x ≤ 2)) (fun _ wq => row.size - wq.iterPos it)
          case atStart => exact ⟨0, p, A, cap, acc, by omega, IT, Lib.hid (N3.out.heap HO.out id), Lib.hid (HRW.out.ch N3.out (fun _ _ e => e)), Lib.hid (HC.out.trans' N3.out (fun _ _ e => e.elim)), Lib.hid (ReadI.start HRD.out), HIN⟩
          case round =>
            clear HO HRW HC HRD HIN IT hpm NR RB3 cr N3
            obtain ⟨pos, p, A, cap, acc, hpm, IT, HO, HRW, HC, HRD, HIN⟩ := hrel
            have hQy := QG.out y row (by omega) HROW.out
            have HQY := Lib.hid hQy
            clear hQy
            by_cases hp : pos < row.size
            · obtain ⟨d, hd⟩ : ∃ d, row[pos]'hp = d := ⟨_, rfl⟩
              have hget : row.data.toList[pos]? = some d := by rw [ba_get row pos hp, hd]
              obtain ⟨rc, wd, hdec, hwd, hrc, hlow, hhigh⟩ : ∃ rc wd : Nat, Utf8.decode row pos = (rc, wd) ∧ 1 ≤ wd ∧ rc ≤ 2147483647 ∧ (d.toNat < 128 → rc = d.toNat ∧ wd = 1) ∧ (128 ≤ d.toNat → 128 ≤ rc) := dec_facts row pos hp d hd
              obtain ⟨Wn, hWn⟩ : ∃ Wn, Wn = wr.iterAt it row (pos + wd) := ⟨_, rfl⟩
              have hnx : ∀ ty, (Instr.next (.pointer (some ⟨it, 0, none⟩)) true ty).run Tryd.prog wr = .ok (.tuple #[.bool true, .int .i64 (pos : Int), .int .i32 (rc : Int)]) Wn := fun ty => by
                rw [Lib.run_next_any_at wr it row pos ty IT.out hp, hdec, hWn]
              have CN := Lib.hid (show Ch (· = it) wr Wn from by
                rw [hWn]
                exact ⟨rfl, rfl, rfl, by rw [Lib.iterAt_size]; exact Nat.le_refl _, fun k hk hne => Lib.iterAt_other wr it k row _ hne⟩)
              have IT2 := Lib.hid (show Wn.heap[it]? = some (.stringIter row (pos + wd)) from by rw [hWn]; exact Lib.iterAt_heap wr it row pos _ IT.out)
              have HO2 := Lib.hid (CN.out.heap HO.out (by show w1.heap.size ≠ it; omega))
              have NEI := Lib.hid (show (Value.slice A p cap).ownBlock ≠ some it from fun hk => by
                rcases HRW.out.2 with ⟨h1, -⟩ | ⟨g, cc, cur, h1, h2, h3, -⟩
                · rw [h1] at hk; cases hk
                · rw [h1] at hk
                  injection hk with hk
                  have hk' : g = it := hk
                  rw [hk', IT.out] at h3
                  cases h3)
              have HRW2 := Lib.hid (HRW.out.ch' CN.out (fun k hk e => by
                have e' : k = it := e
                subst e'
                exact NEI.out hk))
              have HC2 := Lib.hid (HC.out.trans' CN.out (fun n hn e => by have e' : n = it := e; have := SZ2.out; omega))
              have HST := Lib.hid (HRD.out.step (c := (rc : Int)) (wd := wd) HQY.out hget (fun hl => by obtain ⟨a, b⟩ := hlow hl; exact ⟨by rw [a], b⟩) (fun hh => by have := hhigh hh; omega))
              have HRN2 := Lib.hid (HRN.out.kept (N2.out.trans' HC2.out (fun n hn e => by have e' : n = w1.heap.size := e; omega)) id)
              have hcin := chIdx_in (rc : Int)
              obtain ⟨cv, hcv⟩ : ∃ cv, chIdx (rc : Int) = cv := ⟨_, rfl⟩
              have HIX := Lib.hid (show ∀ (w' : World) (R : Ending → World → Prop), RunesOk w' → R (.returned (.int .i64 cv)) w' → Calls Tryd.prog 52 #[.slice (some ⟨0, 0, none⟩) 3 3, .int .i32 (rc : Int)] w' R from fun w' R h1 h2 => rIndex_any (rc : Int) w' R h1 (by rw [hcv]; exact h2))
              rw [hcv] at HST hcin
              have b2 : Wn.cell? ⟨w1.heap.size, 2, none⟩ = some (.slice A p cap) := by rw [cell_of HO2.out]; rfl
              have zf : Wn.frozen? ⟨w1.heap.size, 2, none⟩ = false := frozen_of HO2.out
              clear hd hget hdec hlow hhigh hWn hcv
              obtain ⟨ti, hi1, hz1, hs1, hb1⟩ := info_parts info_int
              have hsz4 : w1.heap.size + 1 ≤ Wn.heap.size := by have := HC2.out.size; have := SZ2.out; omega
              have plim : p ≤ 600000 := by omega
              have hsz5 : w1.heap.size < Wn.heap.size := by omega
              go_wp2_with fail
              go_region_law ((first | (refine step_append_lies _ rfl (.tmp 62) (.tmp 66) 22 rfl (w1.heap.size + 1) 3 ti _ 1 8 Tryd.underlying22 hi1 hz1 hs1 hb1 rfl (by omega) (.slice A p cap) p (acc.map (Value.int .i64)) rfl (by exact World.ownsRow.alloc HRW2.out _) ⟨Wn.heap.size, 0, none⟩ 1 1 [.int .i64 cv] rfl rfl (by exact World.news_of_block (heap_alloc_eq _ rfl)) (by simp [Value.oneCell']) (by omega) (by unfold maxLen; omega) (by omega) (by simp; omega) (Wn.heap.size + 1) (by simp) ?_; intro g cap4 w4 hown1 hgrow hat hlt; (have O1 := Lib.hid (show IRow w4 (w1.heap.size + 1) (.slice (some ⟨g, 0, none⟩) (p + 1) cap4) (p + 1) (acc ++ [cv]) from by unfold IRow; rw [List.map_append]; exact hown1)); (have G1 := Lib.hid hgrow); (have HO4 := Lib.hid (show w4.heap[w1.heap.size]? = some (.cells #[.int .i64 (z.size : Int), .int .i64 (h : Int), .slice A p cap] 25 (0, 0)) from by rw [hgrow.block w1.heap.size (by simp; omega) (fun e => by have := (HRW2.out.lt w1.heap.size e.symm).1; omega)]; exact heap_alloc_old' _ HO2.out)); (have f4 : w4.cell? ⟨w1.heap.size, 2, none⟩ = some (.slice A p cap) := by rw [cell_of HO4.out]; rfl); (have z4 : w4.frozen? ⟨w1.heap.size, 2, none⟩ = false := frozen_of HO4.out); clear hown1 hgrow hat hlt) | (go_simp; go_at_call 52; refine HIX.out _ _ (by exact HRN2.out) ?_)))
              all_goals
                go_wp2_with fail
                have IT4 : (w4.setCell ⟨w1.heap.size, 2, none⟩ (.slice (some ⟨g, 0, none⟩) (p + 1) cap4)).heap[it]? = some (.stringIter row (pos + wd)) := by
                  rw [heap_setCell_ne _ (by show it ≠ w1.heap.size; omega), G1.out.block it (by have := lt_of_heap IT2.out; simp; omega) (fun e => NEI.out e.symm)]
                  exact heap_alloc_old' _ IT2.out
                have C4 : Ch (· = w1.heap.size) W2 w4 := by
                  first
                  | exact (HC2.out.alloc _).grown G1.out (fun j hj hl => by have := (HRW2.out.lt j hj).1; have := SZ2.out; omega)
                  | exact (HC2.out.drew.alloc _).grown G1.out (fun j hj hl => by have := (HRW2.out.lt j hj).1; have := SZ2.out; omega)
                have IT5 := Lib.hid IT4
                have C5 := Lib.hid C4
                clear IT4 C4
                go_roundw
                case rel => exact ⟨pos + wd, p + 1, some ⟨g, 0, none⟩, cap4, acc ++ [cv], by omega, IT5, Lib.hid (heap_setCell_eq _ HO4.out), Lib.hid (O1.out.ch ((Ch.refl (· = w1.heap.size) w4).setb (fun _ => rfl) _) (fun j hj e => by have e' : j = w1.heap.size := e; omega)), Lib.hid (C5.out.setb (fun _ => rfl) _), HST, Lib.hid (fun x hx => by
                    rcases List.mem_append.1 hx with hx | hx
                    · exact HIN.out x hx
                    · rw [List.mem_singleton.1 hx]; exact hcin)⟩
                case measure =>
                  simp only [World.iterPos, IT5.out, IT.out]
                  omega
            · have hnx : ∀ ty, (Instr.next (.pointer (some ⟨it, 0, none⟩)) true ty).run Tryd.prog wr = .ok (.tuple #[.bool false]) wr := fun ty => Lib.run_next_end_at wr it row pos ty IT.out hp
              have cr := HC.out.cell (RC2.out y row HROW.out) (by show sb ≠ w1.heap.size; omega)
              have b0 : wr.cell? ⟨w1.heap.size, 0, none⟩ = some (.int .i64 (z.size : Int)) := by rw [cell_of HO.out]; rfl
              have hRR := ReadI.done HRD.out HQY.out (by rw [ba_len]; omega)
              have HRR := Lib.hid hRR
              clear hRR
              by_cases hsz : row.size = z.size
              · have t1 : ((row.size : Int) != (z.size : Int)) = false := by simp [hsz]
                have HSZ := Lib.hid hsz
                have hpm2 : p + y * z.size ≤ h * z.size := by
                  rw [Nat.add_mul, Nat.one_mul] at hpm
                  omega
                clear hsz
                go_wp2_with fail
                go_quiet (fail)
                go_wp2_with fail
                refine ⟨⟨y, p, A, cap, acc, ?_, by omega, hpm2, HO, HRW, Lib.hid (HC.out.drewN _), HRR, Lib.hid fun y' r h1 h2 h3 => ?_, HIN⟩, ?_⟩
                · go_num
                · by_cases e : y' = y
                  · subst e
                    rw [HROW.out] at h3
                    injection h3 with h3
                    rw [← h3]; exact HSZ.out
                  · exact HEQ.out y' r (by omega) h2 h3
                · simp [intOf]
              · have t1 : ((row.size : Int) != (z.size : Int)) = true := by simp; omega
                have NO := Lib.hid (NOT.out fun ⟨hg, _⟩ => by
                  have h1 := (hg.2.2 _ (List.mem_of_getElem? HQY.out)).1
                  rw [HDZ.out g3, ba_len] at h1
                  exact hsz h1)
                have RB3 := Lib.hid (HC.out.heap RB2.out (by show w.heap.size ≠ w1.heap.size; omega))
                have NR := Lib.hid (N2.out.trans' HC.out (fun i hi e => by have e' : i = w1.heap.size := e; omega))
                clear hsz
                have r0 : wr.cell? ⟨w.heap.size, 0, none⟩ = some (.int .i64 0) := by rw [cell_of RB3.out]; rfl
                have r1 : wr.cell? ⟨w.heap.size, 1, none⟩ = some (.int .i64 0) := by rw [cell_of RB3.out]; rfl
                have r2 : wr.cell? ⟨w.heap.size, 2, none⟩ = some (.slice none 0 0) := by rw [cell_of RB3.out]; rfl
                have q0 : wr.frozen? ⟨w.heap.size, 0, none⟩ = false := frozen_of RB3.out
                have q1 : wr.frozen? ⟨w.heap.size, 1, none⟩ = false := frozen_of RB3.out
                have q2 : wr.frozen? ⟨w.heap.size, 2, none⟩ = false := frozen_of RB3.out
                go_wp2_with fail
                go_quiet (fail)
                go_wp2_with fail
                refine bodyPost_ret (v := .tuple #[.agg #[.int .i64 0, .int .i64 0, .slice none 0 0], .bool false]) (by simp [results, Tryd.results29, go_sem, r0, r1, r2]) rfl ?_
                have h0 := fun W' => HR.out W' (.agg #[.int .i64 0, .int .i64 0, .slice none 0 0])
                rw [NO.out] at h0
                exact h0 _ (isIm_zero _ _) ((((NR.out.drewN _).setb (fun h => by omega) _).setb (fun h => by omega) _).setb (fun h => by omega) _)
  · have NO := Lib.hid (NOT.out fun h => ht0 h.2)
    have tE : t.toList.isEmpty = false := by rw [ByteArray.toList_eq]; simpa using ht0
    clear ht0
    have r0 : W2.cell? ⟨w.heap.size, 0, none⟩ = some (.int .i64 0) := by rw [cell_of RB2.out]; rfl
    have r1 : W2.cell? ⟨w.heap.size, 1, none⟩ = some (.int .i64 0) := by rw [cell_of RB2.out]; rfl
    have r2 : W2.cell? ⟨w.heap.size, 2, none⟩ = some (.slice none 0 0) := by rw [cell_of RB2.out]; rfl
    have q0 : W2.frozen? ⟨w.heap.size, 0, none⟩ = false := frozen_of RB2.out
    have q1 : W2.frozen? ⟨w.heap.size, 1, none⟩ = false := frozen_of RB2.out
    have q2 : W2.frozen? ⟨w.heap.size, 2, none⟩ = false := frozen_of RB2.out
    go_wp2
    refine bodyPost_ret (v := .tuple #[.agg #[.int .i64 0, .int .i64 0, .slice none 0 0], .bool false]) (by simp [results, Tryd.results29, go_sem, r0, r1, r2]) rfl ?_
    have h0 := fun W' => HR.out W' (.agg #[.int .i64 0, .int .i64 0, .slice none 0 0])
    rw [NO.out] at h0
    exact h0 _ (isIm_zero _ _) (((N2.out.setb (fun h => by omega) _).setb (fun h => by omega) _).setb (fun h => by omega) _)
end Go.Proofs.YtnhdnjhhjmgmnaaDoor
