/-
  names.Check and its reference.
-/
import Derived.Test.YtnibgjpbijlhbaaDoorNa
import Derived.Test.YtnibgjpbijlhbaaDoorNc
import Derived.Laws.IdiomStrings
namespace Go.Proofs.YtnibgjpbijlhbaaDoor
open Go.RowKit
set_option linter.unusedVariables false
set_option linter.unusedSimpArgs false
set_option maxRecDepth 100000

def MaxOk (w : World) : Prop := ∃ m : Int, w.cell? ⟨0, 0, none⟩ = some (.int .i64 m)
theorem MaxOk.kept {w w' : World} {F : Nat → Prop} (h : MaxOk w) (hc : Ch F w w') (hF : ¬ F 0) : MaxOk w' := by obtain ⟨m, h⟩ := h; exact ⟨m, hc.cell h hF⟩
theorem MaxOk.lt {w : World} (h : MaxOk w) : 0 < w.heap.size := by obtain ⟨m, h⟩ := h; exact World.block_lt_of_cell? w ⟨0, _, none⟩ h
theorem ba_len (s : ByteArray) : s.data.toList.length = s.size := by simp
theorem ba_at (s : ByteArray) {k : Nat} (h : k < s.size) : s[k] = at0 s.data.toList k := by
  have := at0_get (s := s.data.toList) (k := k) (List.getElem?_eq_getElem (by simpa using h))
  rw [this]
  simp [ByteArray.getElem_eq_getElem_data]
theorem toNat_eq (c : UInt8) (n : Nat) (hn : n < 256) : ((c.toNat : Int) == (n : Int)) = decide (c = UInt8.ofNat n) := by
  rw [Bool.eq_iff_iff]
  simp only [beq_iff_eq, decide_eq_true_eq]
  constructor
  · intro h
    apply UInt8.toNat_inj.1
    rw [UInt8.toNat_ofNat', Nat.mod_eq_of_lt (by omega)]
    omega
  · intro h
    rw [h, UInt8.toNat_ofNat', Nat.mod_eq_of_lt (by omega)]
theorem isEmpty_no {s : ByteArray} (h : 0 < s.size) : s.toList.isEmpty = false := by
  rw [ByteArray.toList_eq]
  cases hs : s.data.toList with
  | nil => have := ba_len s; rw [hs] at this; simp at this; omega
  | cons _ _ => rfl
theorem isEmpty_yes {s : ByteArray} (h : s.size = 0) : s.toList.isEmpty = true := by
  rw [ByteArray.toList_eq]
  have := ba_len s
  rw [h] at this
  rw [List.eq_nil_of_length_eq_zero this]
  rfl

set_option maxHeartbeats 4000000 in
theorem ncheck_any (s : ByteArray) (w : World) (R : Ending → World → Prop) (hs : s.size ≤ 1000000) (hm : MaxOk w)
    (hR : ∀ w', Nw w w' → R (.returned (.int .i64 (checkM s.data.toList))) w') : Calls Tryd.prog 11 #[.string s] w R := by
  have HR := Lib.hid hR
  have HM := Lib.hid hm
  clear hR hm
  go_enter Tryd.func11, Tryd.ntmps11
  by_cases h0 : s.size = 0
  · have hE := isEmpty_yes h0
    have NO := Lib.hid (checkM_no (check_short (s := s.data.toList) (by rw [ba_len]; omega)))
    go_wp2
    exact ret_i (HR.out _ (Ch.refl _ _)) NO.out
  · have hE := isEmpty_no (s := s) (by omega)
    have z1 : ¬ (s.size : Int) < 1 := by omega
    by_cases h1 : 12 < s.size
    · have h12 : (12 : Int) < (s.size : Int) := by omega
      have NO := Lib.hid (checkM_no (check_long (s := s.data.toList) (by rw [ba_len]; omega)))
      go_wp2
      exact ret_i (HR.out _ (Ch.refl _ _)) NO.out
    · have h12 : ¬ (12 : Int) < (s.size : Int) := by omega
      cases hp : Lib.hasPrefix s.data.toList [45] with
      | true =>
        have NO := Lib.hid (checkM_no (check_pre hp))
        have HP := Lib.hid hp
        clear hp
        go_wp2_with (go_at_call 28; refine (Tryd.strings_HasPrefix _ _ _).mono ?_; rintro e w' ⟨rfl, hw⟩; obtain rfl := hw.symm; rw [show (⟨#[45]⟩ : ByteArray).data.toList = [45] from rfl, HP.out])
        exact ret_i (HR.out _ (Ch.refl _ _)) NO.out
      | false =>
      cases hq : Lib.hasSuffix s.data.toList [45] with
      | true =>
        have NO := Lib.hid (checkM_no (check_suf hq))
        have HP := Lib.hid hp
        have HQ := Lib.hid hq
        clear hp hq
        go_wp2_with (first | (go_at_call 28; refine (Tryd.strings_HasPrefix _ _ _).mono ?_; rintro e w' ⟨rfl, hw⟩; obtain rfl := hw.symm; rw [show (⟨#[45]⟩ : ByteArray).data.toList = [45] from rfl, HP.out]) | (go_at_call 29; refine (Tryd.strings_HasSuffix _ _ _ (by omega)).mono ?_; rintro e w' ⟨rfl, hw⟩; obtain rfl := hw.symm; rw [show (⟨#[45]⟩ : ByteArray).data.toList = [45] from rfl, HQ.out]))
        exact ret_i (HR.out _ (Ch.refl _ _)) NO.out
      | false =>
      obtain ⟨m, hm⟩ := HM.out
      cases hc : Lib.contains s.data.toList [45, 45] with
      | true =>
        have NO := Lib.hid (checkM_no (check_con hc))
        have HP := Lib.hid hp
        have HQ := Lib.hid hq
        have HC := Lib.hid hc
        have HMM := Lib.hid hm
        clear hp hq hc hm
        go_wp2_with (first | (go_at_call 28; refine (Tryd.strings_HasPrefix _ _ _).mono ?_; rintro e w' ⟨rfl, hw⟩; obtain rfl := hw.symm; rw [show (⟨#[45]⟩ : ByteArray).data.toList = [45] from rfl, HP.out]) | (go_at_call 29; refine (Tryd.strings_HasSuffix _ _ _ (by omega)).mono ?_; rintro e w' ⟨rfl, hw⟩; obtain rfl := hw.symm; rw [show (⟨#[45]⟩ : ByteArray).data.toList = [45] from rfl, HQ.out]) | (go_at_call 30; refine (Tryd.strings_Contains _ _ m _ (by omega) HMM.out).mono ?_; rintro e w' ⟨rfl, hw⟩; obtain rfl := hw.symm; rw [show (⟨#[45, 45]⟩ : ByteArray).data.toList = [45, 45] from rfl, HC.out]))
        exact ret_i (HR.out _ (Ch.refl _ _)) NO.out
      | false =>
        have HP := Lib.hid hp
        have HQ := Lib.hid hq
        have HC := Lib.hid hc
        have HMM := Lib.hid hm
        clear hp hq hc hm
        obtain ⟨cap, hcap⟩ : ∃ c, grownCap w s.size 0 5 = c := ⟨_, rfl⟩
        have hcv := run_bytes_of_string (P := Tryd.prog) w 9 51 5 s Tryd.underlying9 Tryd.underlying51 Tryd.underlying5
        rw [hcap] at hcv
        obtain ⟨fz, hfz⟩ : ∃ p : Nat × Nat, ((bytesRow s cap).size, (bytesRow s cap).size + 1) = p := ⟨_, rfl⟩
        rw [hfz] at hcv
        have hrow : ∀ (j : Nat), j < s.size → (bytesRow s cap)[j]? = some (.int .u8 ((at0 s.data.toList j).toNat : Nat)) := fun j hj => by
          rw [bytesRow_at s cap j hj, ← ba_at s hj, ByteArray.getElem_eq_getElem_data]
        obtain ⟨CB, hCB⟩ : ∃ C, bytesRow s cap = C := ⟨_, rfl⟩
        rw [hCB] at hcv hrow
        have HROW := Lib.hid hrow
        clear hCB hfz hcap hrow
        go_wp2_with (first | (go_at_call 28; refine (Tryd.strings_HasPrefix _ _ _).mono ?_; rintro e w' ⟨rfl, hw⟩; obtain rfl := hw.symm; rw [show (⟨#[45]⟩ : ByteArray).data.toList = [45] from rfl, HP.out]) | (go_at_call 29; refine (Tryd.strings_HasSuffix _ _ _ (by omega)).mono ?_; rintro e w' ⟨rfl, hw⟩; obtain rfl := hw.symm; rw [show (⟨#[45]⟩ : ByteArray).data.toList = [45] from rfl, HQ.out]) | (go_at_call 30; refine (Tryd.strings_Contains _ _ m _ (by omega) HMM.out).mono ?_; rintro e w' ⟨rfl, hw⟩; obtain rfl := hw.symm; rw [show (⟨#[45, 45]⟩ : ByteArray).data.toList = [45, 45] from rfl, HC.out]))
        refine wp_named ?_
        intro W2 hW
        have HB := Lib.hid (show W2.heap[w.heap.size]? = some (.cells CB 5 fz) from by rw [hW]; exact heap_alloc_eq _ rfl)
        have N2 := Lib.hid (show Nw w W2 from by rw [hW]; exact (Ch.refl _ _).drew.alloc _)
        clear hW hcv
        go_loopw [4, 27] (fun _ s27 wr => Hid (wr = W2) ∧ ∃ k : Nat, s27 = .int .i64 k ∧ k ≤ s.size ∧ Hid (∀ j, j < k → scr (at0 s.data.toList j) ≠ 0)) (fun _ s27 _ => s.size - (intOf s27).toNat)
        case atStart => exact ⟨Lib.hid rfl, 0, rfl, Nat.zero_le _, Lib.hid fun j hj => by omega⟩
        case round =>
          obtain ⟨hwr, k, rfl, hk, HK⟩ := hrel
          obtain rfl := hwr.out
          have k0 : (0 : Int) ≤ (k : Int) := by omega
          by_cases hlt : k < s.size
          · have k1 : (k : Int) < (s.size : Int) := by omega
            obtain ⟨c, hc⟩ : ∃ c, at0 s.data.toList k = c := ⟨_, rfl⟩
            have HCC := Lib.hid hc
            have hcell : wr.cell? ⟨w.heap.size, k, none⟩ = some (.int .u8 (c.toNat : Nat)) := by rw [cell_of HB.out, HROW.out k hlt, hc]
            clear hc
            by_cases hz : scr c = 0
            · have NO := Lib.hid (checkM_no (check_scr (s := s.data.toList) (k := k) (by rw [ba_len]; exact hlt) (by rw [HCC.out]; exact hz)))
              have HZ := Lib.hid hz
              clear hz
              go_wp2_with (go_at_call 18; refine script_any c _ _ ?_; rw [HZ.out])
              exact ret_i (HR.out _ N2.out) NO.out
            · obtain ⟨x, hx⟩ : ∃ x : Nat, scr c = x := ⟨_, rfl⟩
              have HX := Lib.hid hx
              have hx0 : ¬ (x : Int) = 0 := by omega
              have HZ := Lib.hid hz
              clear hz hx
              go_wp2_with (go_at_call 18; refine script_any c _ _ ?_; rw [HX.out])
              refine ⟨⟨Lib.hid (by first | rfl | trivial), k + 1, by go_num, by omega, Lib.hid fun j hj => ?_⟩, ?_⟩
              · by_cases e : j = k
                · rw [e, HCC.out]; exact HZ.out
                · exact HK.out j (by omega)
              · simp [intOf]; omega
          · have OK := Lib.hid (checkM_ok (check_all (s := s.data.toList) (by rw [ba_len]; omega) (by rw [ba_len]; omega) HP.out HQ.out HC.out fun j hj => HK.out j (by rw [ba_len] at hj; omega)))
            go_wp2
            exact ret_i (HR.out _ N2.out) OK.out

set_option maxHeartbeats 4000000 in
theorem rcheck_any (s : ByteArray) (w : World) (R : Ending → World → Prop) (hs : s.size ≤ 1000000)
    (hR : R (.returned (.int .i64 (checkM s.data.toList))) w) : Calls Tryd.prog 12 #[.string s] w R := by
  have HR := Lib.hid hR
  clear hR
  go_enter Tryd.func12, Tryd.ntmps12
  by_cases h0 : s.size = 0
  · have z1 : (s.size : Int) < 1 := by omega
    have NO := Lib.hid (checkM_no (check_short (s := s.data.toList) (by rw [ba_len]; omega)))
    go_wp2
    exact ret_i HR.out NO.out
  · have z1 : ¬ (s.size : Int) < 1 := by omega
    by_cases h1 : 12 < s.size
    · have h12 : (12 : Int) < (s.size : Int) := by omega
      have NO := Lib.hid (checkM_no (check_long (s := s.data.toList) (by rw [ba_len]; omega)))
      go_wp2
      exact ret_i HR.out NO.out
    · have h12 : ¬ (12 : Int) < (s.size : Int) := by omega
      go_wp2
      go_loopw [3] (fun s3 wr => Hid (wr = w) ∧ ∃ k : Nat, s3 = .int .i64 k ∧ k ≤ s.size ∧ Hid (∀ j, j < k → ¬ badAt s.data.toList j)) (fun s3 _ => s.size - (intOf s3).toNat)
      case atStart => exact ⟨Lib.hid rfl, 0, rfl, Nat.zero_le _, Lib.hid fun j hj => by omega⟩
      case round =>
        obtain ⟨hwr, k, rfl, hk, HK⟩ := hrel
        obtain rfl := hwr.out
        have k0 : (0 : Int) ≤ (k : Int) := by omega
        by_cases hlt : k < s.size
        · have k1 : (k : Int) < (s.size : Int) := by omega
          obtain ⟨c, hc⟩ : ∃ c, s[k]'hlt = c := ⟨_, rfl⟩
          have HCC := Lib.hid (show at0 s.data.toList k = c from by rw [← ba_at s hlt, hc])
          have bad : ∀ (hb : badAt s.data.toList k), checkM s.data.toList = 40 := fun hb => checkM_no fun h => h.2.2 k (by rw [ba_len]; exact hlt) hb
          have step : ∀ (hb : ¬ badAt s.data.toList k), ∀ j, j < k + 1 → ¬ badAt s.data.toList j := fun hb j hj => by
            by_cases e : j = k
            · rw [e]; exact hb
            · exact HK.out j (by omega)
          have BAD := Lib.hid bad
          have STEP := Lib.hid step
          clear bad step
          by_cases hz : scr c = 0
          · have NO := Lib.hid (BAD.out (Or.inl (by rw [HCC.out]; exact hz)))
            have HZ := Lib.hid hz
            clear hz
            go_wp2_with (go_at_call 19; refine rscript_any c _ _ ?_; rw [HZ.out])
            exact ret_i HR.out NO.out
          · obtain ⟨x, hx⟩ : ∃ x : Nat, scr c = x := ⟨_, rfl⟩
            have HX := Lib.hid hx
            have hx0 : ¬ (x : Int) = 0 := by omega
            have HZ := Lib.hid hz
            clear hz hx
            by_cases h45 : c = 45
            · have v45 : ((c.toNat : Int) == 45) = true := by rw [h45]; rfl
              have H45 := Lib.hid h45
              clear h45
              by_cases hk0 : k = 0
              · have NO := Lib.hid (BAD.out (Or.inr ⟨by rw [HCC.out]; exact H45.out, Or.inl hk0⟩))
                subst hk0
                go_wp2_with (go_at_call 19; refine rscript_any c _ _ ?_; rw [HX.out])
                exact ret_i HR.out NO.out
              · have e0 : ¬ (k : Int) = 0 := by omega
                by_cases hkl : k + 1 = s.size
                · have e1 : (k : Int) = (s.size : Int) - 1 := by omega
                  have NO := Lib.hid (BAD.out (Or.inr ⟨by rw [HCC.out]; exact H45.out, Or.inr (Or.inl (by rw [ba_len]; exact hkl))⟩))
                  have E1 := Lib.hid e1
                  have e2 : ((k : Int) == (s.size : Int) - 1) = true := by simp [e1]
                  clear e1
                  go_wp2_with (go_at_call 19; refine rscript_any c _ _ ?_; rw [HX.out])
                  exact ret_i HR.out NO.out
                · have e2 : ((k : Int) == (s.size : Int) - 1) = false := by simp; omega
                  obtain ⟨p, rfl⟩ : ∃ p, k = p + 1 := ⟨k - 1, by omega⟩
                  obtain ⟨d, hd⟩ : ∃ d, s[p]'(by omega) = d := ⟨_, rfl⟩
                  have hd0 : at0 s.data.toList p = d := by rw [← ba_at s (by omega), hd]
                  have HDD := Lib.hid hd0
                  clear hd0
                  by_cases hd45 : d = 45
                  · have w45 : ((d.toNat : Int) == 45) = true := by rw [hd45]; rfl
                    have NO := Lib.hid (BAD.out (Or.inr ⟨by rw [HCC.out]; exact H45.out, Or.inr (Or.inr (by rw [Nat.add_sub_cancel, HDD.out]; exact hd45))⟩))
                    clear hd45
                    go_wp2_with (go_at_call 19; refine rscript_any c _ _ ?_; rw [HX.out])
                    exact ret_i HR.out NO.out
                  · have w45 : ((d.toNat : Int) == 45) = false := by rw [show (45 : Int) = ((45 : Nat) : Int) from rfl, toNat_eq d 45 (by omega)]; simpa using hd45
                    have ST := Lib.hid (STEP.out (fun hb => by rcases hb with hb | ⟨-, hb | hb | hb⟩; exact HZ.out (by rw [← HCC.out]; exact hb); omega; (rw [ba_len] at hb; omega); exact hd45 (by rw [Nat.add_sub_cancel, HDD.out] at hb; exact hb)))
                    clear hd45
                    have vx : ((x : Int) == 0) = false := by simpa using hx0
                    have v1 : ((p : Int) + 1 == 0) = false := by simp; omega
                    have v2 : ((p : Int) + 1 == (s.size : Int) - 1) = false := by simp; omega
                    go_wp2_with (go_at_call 19; refine rscript_any c _ _ ?_; rw [HX.out])
                    refine ⟨⟨Lib.hid (by first | rfl | trivial), p + 1 + 1, by go_num, by omega, Lib.hid ST.out⟩, ?_⟩
                    simp [intOf]; omega
            · have v45 : ((c.toNat : Int) == 45) = false := by rw [show (45 : Int) = ((45 : Nat) : Int) from rfl, toNat_eq c 45 (by omega)]; simpa using h45
              have ST := Lib.hid (STEP.out (fun hb => by rcases hb with hb | ⟨hb, -⟩; exact HZ.out (by rw [← HCC.out]; exact hb); exact h45 (by rw [← HCC.out]; exact hb)))
              clear h45
              go_wp2_with (go_at_call 19; refine rscript_any c _ _ ?_; rw [HX.out])
              refine ⟨⟨Lib.hid (by first | rfl | trivial), k + 1, by go_num, by omega, Lib.hid ST.out⟩, ?_⟩
              simp [intOf]; omega
        · have OK := Lib.hid (checkM_ok (s := s.data.toList) ⟨by rw [ba_len]; omega, by rw [ba_len]; omega, fun j hj => HK.out j (by rw [ba_len] at hj; omega)⟩)
          go_wp2
          exact ret_i HR.out OK.out

end Go.Proofs.YtnibgjpbijlhbaaDoor
