/-
  indeliblelaw12.sanity: the chapter's examples.
-/
import Derived.Test.YtnibgjpbijlhbaaDoorNk
import Derived.Test.YtnibgjpbijlhbaaDoorRn
import Derived.Test.YtnibgjpbijlhbaaDoorSr
import Derived.Test.YtnibgjpbijlhbaaDoorLess
import Derived.Test.YtnibgjpbijlhbaaDoorEd
import Derived.Test.YtnibgjpbijlhbaaDoorSlc
import Derived.Deep.Cut
namespace Go.Proofs.YtnibgjpbijlhbaaDoor
open Go.RowKit
set_option linter.unusedVariables false
set_option linter.unusedSimpArgs false
set_option maxRecDepth 100000

theorem wpList_nm {P : Program} {ops : Array Oper} {Q : Exit → Act → World → Prop} {rest : List Oper} {a : Act} {w : World} (h : ∀ W, W = w → wpList P ops Q rest a W) : wpList P ops Q rest a w := h _ rfl
theorem isC_block {w : World} {g n z : Nat} {cs : List Value} {T : TypeId} {f : Nat × Nat} (h : w.heap[g]? = some (.cells cs.toArray T f)) (hl : cs.length = n * z) : IsC w w.heap.size (.slice (some ⟨g, 0, none⟩) n n) n z cs :=
  ⟨_, n, rfl, Nat.le_refl _, hl, fun i x hi => ⟨g, lt_of_heap h, rfl, by rw [cell_of h]; simpa using hi⟩⟩
theorem ck_1 : checkM [97, 45, 49] = 0 := checkM_ok (by unfold checkOk badAt; decide +kernel)
theorem ck_2 : checkM [45, 97] = 40 := checkM_no (by unfold checkOk badAt; decide +kernel)
theorem ck_3 : checkM [97, 45, 45, 98] = 40 := checkM_no (by unfold checkOk badAt; decide +kernel)
theorem ck_4 : checkM [] = 40 := checkM_no (by unfold checkOk badAt; decide +kernel)
theorem ck_5 : checkM [65] = 40 := checkM_no (by unfold checkOk badAt; decide +kernel)
theorem ck_6 : checkM [97, 98, 99, 100, 101, 102, 103, 104, 105, 106, 107, 108, 109] = 40 := checkM_no (by unfold checkOk badAt; decide +kernel)
theorem rn_1 : runsM [97, 98, 49, 50, 45, 99] = [(1, 0, 2), (2, 2, 4), (3, 4, 5), (1, 5, 6)] := by decide +kernel
theorem ps_a9 : pcs [97, 57] = [(true, 0, [97]), (false, 1, [57])] := by simp [pcs, isD, numP]
theorem ps_a10 : pcs [97, 49, 48] = [(true, 0, [97]), (false, 2, [49, 48])] := by simp [pcs, isD, numP]
theorem ps_a : pcs [97] = [(true, 0, [97])] := by simp [pcs, isD, numP]
theorem ps_a1 : pcs [97, 49] = [(true, 0, [97]), (false, 1, [49])] := by simp [pcs, isD, numP]
theorem ps_1 : pcs [49] = [(false, 1, [49])] := by simp [pcs, isD, numP]
theorem ps_a09 : pcs [97, 48, 57] = [(true, 0, [97]), (false, 1, [57])] := by simp [pcs, isD, numP]
theorem ls_1 : lessB [97, 57] [97, 49, 48] = true := by unfold lessB; rw [ps_a9, ps_a10]; decide +kernel
theorem ls_2 : lessB [97, 49, 48] [97, 57] = false := by unfold lessB; rw [ps_a9, ps_a10]; decide +kernel
theorem ls_3 : lessB [97] [97, 49] = true := by unfold lessB; rw [ps_a, ps_a1]; decide +kernel
theorem ls_4 : lessB [49] [97] = true := by unfold lessB; rw [ps_a, ps_1]; decide +kernel
theorem ls_5 : lessB [97, 48, 57] [97, 57] = true := by unfold lessB; rw [ps_a9, ps_a09]; decide +kernel
theorem ls_6 : lessB [97, 57] [97, 48, 57] = false := by unfold lessB; rw [ps_a9, ps_a09]; decide +kernel
theorem ed_1 : lev [97, 98, 99] [97, 100, 99] = 1 := by simp [lev_cons, lev_nil, lev_nil', dif]
theorem ed_2 : lev [97, 98, 99] [98, 99, 100] = 2 := by simp [lev_cons, lev_nil, lev_nil', dif]
theorem ed_3 : lev [] [97, 98] = 2 := by simp [lev_nil]

set_option maxHeartbeats 8000000 in
theorem sanity_any (w : World) (R : Ending → World → Prop) (hmx : MaxOk w) (hR : ∀ w', Nw w w' → R (.returned (.bool true)) w') : Calls Tryd.prog 9 #[] w R := by
  have HR := Lib.hid hR
  clear hR
  have MX := Lib.hid hmx
  have hm0 := hmx.lt
  clear hmx
  have NX := Lib.hid (Ch.refl (fun _ => False) w)
  go_enter Tryd.func9, Tryd.ntmps9
  go_wp2_with (go_at_call 3; fail)
  refine Calls_nm ?_
  intro W1 hW
  have n : Nw w W1 := by rw [hW]; first | exact Ch.refl _ _ | exact (Ch.refl _ _).alloc _ | exact ((Ch.refl _ _).alloc _).alloc _
  replace NX := Lib.hid (NX.out.trans n)
  replace MX := Lib.hid (MX.out.kept n id)
  replace hm0 := Nat.lt_of_lt_of_le hm0 n.size
  clear hW n
  refine ncheck_any _ _ _ (by decide) MX.out ?_
  rw [show (⟨#[97, 45, 49]⟩ : ByteArray).data.toList = [97, 45, 49] from rfl, ck_1]
  intro w2 n
  replace NX := Lib.hid (NX.out.trans n)
  replace MX := Lib.hid (MX.out.kept n id)
  replace hm0 := Nat.lt_of_lt_of_le hm0 n.size
  clear n
  go_wp2_with (go_at_call 3; fail)
  refine Calls_nm ?_
  intro W3 hW
  have n : Nw w2 W3 := by rw [hW]; first | exact Ch.refl _ _ | exact (Ch.refl _ _).alloc _ | exact ((Ch.refl _ _).alloc _).alloc _
  replace NX := Lib.hid (NX.out.trans n)
  replace MX := Lib.hid (MX.out.kept n id)
  replace hm0 := Nat.lt_of_lt_of_le hm0 n.size
  clear hW n
  refine ncheck_any _ _ _ (by decide) MX.out ?_
  rw [show (⟨#[45, 97]⟩ : ByteArray).data.toList = [45, 97] from rfl, ck_2]
  intro w4 n
  replace NX := Lib.hid (NX.out.trans n)
  replace MX := Lib.hid (MX.out.kept n id)
  replace hm0 := Nat.lt_of_lt_of_le hm0 n.size
  clear n
  go_wp2_with (go_at_call 3; fail)
  refine Calls_nm ?_
  intro W5 hW
  have n : Nw w4 W5 := by rw [hW]; first | exact Ch.refl _ _ | exact (Ch.refl _ _).alloc _ | exact ((Ch.refl _ _).alloc _).alloc _
  replace NX := Lib.hid (NX.out.trans n)
  replace MX := Lib.hid (MX.out.kept n id)
  replace hm0 := Nat.lt_of_lt_of_le hm0 n.size
  clear hW n
  refine ncheck_any _ _ _ (by decide) MX.out ?_
  rw [show (⟨#[97, 45, 45, 98]⟩ : ByteArray).data.toList = [97, 45, 45, 98] from rfl, ck_3]
  intro w6 n
  replace NX := Lib.hid (NX.out.trans n)
  replace MX := Lib.hid (MX.out.kept n id)
  replace hm0 := Nat.lt_of_lt_of_le hm0 n.size
  clear n
  go_wp2_with (go_at_call 3; fail)
  refine Calls_nm ?_
  intro W7 hW
  have n : Nw w6 W7 := by rw [hW]; first | exact Ch.refl _ _ | exact (Ch.refl _ _).alloc _ | exact ((Ch.refl _ _).alloc _).alloc _
  replace NX := Lib.hid (NX.out.trans n)
  replace MX := Lib.hid (MX.out.kept n id)
  replace hm0 := Nat.lt_of_lt_of_le hm0 n.size
  clear hW n
  refine ncheck_any _ _ _ (by decide) MX.out ?_
  rw [show (⟨#[]⟩ : ByteArray).data.toList = [] from rfl, ck_4]
  intro w8 n
  replace NX := Lib.hid (NX.out.trans n)
  replace MX := Lib.hid (MX.out.kept n id)
  replace hm0 := Nat.lt_of_lt_of_le hm0 n.size
  clear n
  go_wp2_with (go_at_call 3; fail)
  refine Calls_nm ?_
  intro W9 hW
  have n : Nw w8 W9 := by rw [hW]; first | exact Ch.refl _ _ | exact (Ch.refl _ _).alloc _ | exact ((Ch.refl _ _).alloc _).alloc _
  replace NX := Lib.hid (NX.out.trans n)
  replace MX := Lib.hid (MX.out.kept n id)
  replace hm0 := Nat.lt_of_lt_of_le hm0 n.size
  clear hW n
  refine ncheck_any _ _ _ (by decide) MX.out ?_
  rw [show (⟨#[65]⟩ : ByteArray).data.toList = [65] from rfl, ck_5]
  intro w10 n
  replace NX := Lib.hid (NX.out.trans n)
  replace MX := Lib.hid (MX.out.kept n id)
  replace hm0 := Nat.lt_of_lt_of_le hm0 n.size
  clear n
  go_wp2_with (go_at_call 3; fail)
  refine Calls_nm ?_
  intro W11 hW
  have n : Nw w10 W11 := by rw [hW]; first | exact Ch.refl _ _ | exact (Ch.refl _ _).alloc _ | exact ((Ch.refl _ _).alloc _).alloc _
  replace NX := Lib.hid (NX.out.trans n)
  replace MX := Lib.hid (MX.out.kept n id)
  replace hm0 := Nat.lt_of_lt_of_le hm0 n.size
  clear hW n
  refine ncheck_any _ _ _ (by decide) MX.out ?_
  rw [show (⟨#[97, 98, 99, 100, 101, 102, 103, 104, 105, 106, 107, 108, 109]⟩ : ByteArray).data.toList = [97, 98, 99, 100, 101, 102, 103, 104, 105, 106, 107, 108, 109] from rfl, ck_6]
  intro w12 n
  replace NX := Lib.hid (NX.out.trans n)
  replace MX := Lib.hid (MX.out.kept n id)
  replace hm0 := Nat.lt_of_lt_of_le hm0 n.size
  clear n
  go_wp2_with (go_at_call 3; fail)
  refine Calls_nm ?_
  intro W13 hW
  have n : Nw w12 W13 := by rw [hW]; first | exact Ch.refl _ _ | exact (Ch.refl _ _).alloc _ | exact ((Ch.refl _ _).alloc _).alloc _
  replace NX := Lib.hid (NX.out.trans n)
  replace MX := Lib.hid (MX.out.kept n id)
  replace hm0 := Nat.lt_of_lt_of_le hm0 n.size
  clear hW n
  refine symbol_any 97 _ _ ?_
  rw [show sym 97 = 0 from by decide]
  go_wp2_with (go_at_call 3; fail)
  refine Calls_nm ?_
  intro W14 hW
  have n : Nw W13 W14 := by rw [hW]; first | exact Ch.refl _ _ | exact (Ch.refl _ _).alloc _ | exact ((Ch.refl _ _).alloc _).alloc _
  replace NX := Lib.hid (NX.out.trans n)
  replace MX := Lib.hid (MX.out.kept n id)
  replace hm0 := Nat.lt_of_lt_of_le hm0 n.size
  clear hW n
  refine symbol_any 122 _ _ ?_
  rw [show sym 122 = 25 from by decide]
  go_wp2_with (go_at_call 3; fail)
  refine Calls_nm ?_
  intro W15 hW
  have n : Nw W14 W15 := by rw [hW]; first | exact Ch.refl _ _ | exact (Ch.refl _ _).alloc _ | exact ((Ch.refl _ _).alloc _).alloc _
  replace NX := Lib.hid (NX.out.trans n)
  replace MX := Lib.hid (MX.out.kept n id)
  replace hm0 := Nat.lt_of_lt_of_le hm0 n.size
  clear hW n
  refine symbol_any 48 _ _ ?_
  rw [show sym 48 = 26 from by decide]
  go_wp2_with (go_at_call 3; fail)
  refine Calls_nm ?_
  intro W16 hW
  have n : Nw W15 W16 := by rw [hW]; first | exact Ch.refl _ _ | exact (Ch.refl _ _).alloc _ | exact ((Ch.refl _ _).alloc _).alloc _
  replace NX := Lib.hid (NX.out.trans n)
  replace MX := Lib.hid (MX.out.kept n id)
  replace hm0 := Nat.lt_of_lt_of_le hm0 n.size
  clear hW n
  refine symbol_any 57 _ _ ?_
  rw [show sym 57 = 35 from by decide]
  go_wp2_with (go_at_call 3; fail)
  refine Calls_nm ?_
  intro W17 hW
  have n : Nw W16 W17 := by rw [hW]; first | exact Ch.refl _ _ | exact (Ch.refl _ _).alloc _ | exact ((Ch.refl _ _).alloc _).alloc _
  replace NX := Lib.hid (NX.out.trans n)
  replace MX := Lib.hid (MX.out.kept n id)
  replace hm0 := Nat.lt_of_lt_of_le hm0 n.size
  clear hW n
  refine symbol_any 45 _ _ ?_
  rw [show sym 45 = 36 from by decide]
  go_wp2_with (go_at_call 3; fail)
  refine Calls_nm ?_
  intro W18 hW
  have n : Nw W17 W18 := by rw [hW]; first | exact Ch.refl _ _ | exact (Ch.refl _ _).alloc _ | exact ((Ch.refl _ _).alloc _).alloc _
  replace NX := Lib.hid (NX.out.trans n)
  replace MX := Lib.hid (MX.out.kept n id)
  replace hm0 := Nat.lt_of_lt_of_le hm0 n.size
  clear hW n
  refine symbol_any 65 _ _ ?_
  rw [show sym 65 = -1 from by decide]
  go_wp2_with (go_at_call 3; fail)
  refine Calls_nm ?_
  intro W19 hW
  have n : Nw W18 W19 := by rw [hW]; first | exact Ch.refl _ _ | exact (Ch.refl _ _).alloc _ | exact ((Ch.refl _ _).alloc _).alloc _
  replace NX := Lib.hid (NX.out.trans n)
  replace MX := Lib.hid (MX.out.kept n id)
  replace hm0 := Nat.lt_of_lt_of_le hm0 n.size
  clear hW n
  refine script_any 122 _ _ ?_
  rw [show scr 122 = 1 from by decide]
  go_wp2_with (go_at_call 3; fail)
  refine Calls_nm ?_
  intro W20 hW
  have n : Nw W19 W20 := by rw [hW]; first | exact Ch.refl _ _ | exact (Ch.refl _ _).alloc _ | exact ((Ch.refl _ _).alloc _).alloc _
  replace NX := Lib.hid (NX.out.trans n)
  replace MX := Lib.hid (MX.out.kept n id)
  replace hm0 := Nat.lt_of_lt_of_le hm0 n.size
  clear hW n
  refine script_any 53 _ _ ?_
  rw [show scr 53 = 2 from by decide]
  go_wp2_with (go_at_call 3; fail)
  refine Calls_nm ?_
  intro W21 hW
  have n : Nw W20 W21 := by rw [hW]; first | exact Ch.refl _ _ | exact (Ch.refl _ _).alloc _ | exact ((Ch.refl _ _).alloc _).alloc _
  replace NX := Lib.hid (NX.out.trans n)
  replace MX := Lib.hid (MX.out.kept n id)
  replace hm0 := Nat.lt_of_lt_of_le hm0 n.size
  clear hW n
  refine script_any 45 _ _ ?_
  rw [show scr 45 = 3 from by decide]
  go_wp2_with (go_at_call 3; fail)
  refine Calls_nm ?_
  intro W22 hW
  have n : Nw W21 W22 := by rw [hW]; first | exact Ch.refl _ _ | exact (Ch.refl _ _).alloc _ | exact ((Ch.refl _ _).alloc _).alloc _
  replace NX := Lib.hid (NX.out.trans n)
  replace MX := Lib.hid (MX.out.kept n id)
  replace hm0 := Nat.lt_of_lt_of_le hm0 n.size
  clear hW n
  refine script_any 32 _ _ ?_
  rw [show scr 32 = 0 from by decide]
  go_upto_region 3 with (fail)
  refine wp_named ?_
  intro W23 hW
  have n : Nw W22 W23 := by rw [hW]; first | exact Ch.refl _ _ | exact (Ch.refl _ _).alloc _ | exact ((Ch.refl _ _).alloc _).alloc _
  replace NX := Lib.hid (NX.out.trans n)
  replace MX := Lib.hid (MX.out.kept n id)
  replace hm0 := Nat.lt_of_lt_of_le hm0 n.size
  clear hW n
  refine wp_region_lit ?_
  refine wpList_plain rfl fun K hK => ?_
  go_simp
  go_at_call 14
  refine nruns_any _ _ _ (by decide) ?_
  rw [show (⟨#[97, 98, 49, 50, 45, 99]⟩ : ByteArray).data.toList = [97, 98, 49, 50, 45, 99] from rfl, rn_1]
  intro w24 v hrow n
  replace NX := Lib.hid (NX.out.trans n)
  replace MX := Lib.hid (MX.out.kept n id)
  replace hm0 := Nat.lt_of_lt_of_le hm0 n.size
  obtain ⟨A9, c9, rfl⟩ := hrow.form
  have HIC := Lib.hid hrow.isC
  clear hrow n
  refine hK _ _ ?_
  clear hK K
  try simp only [Act.put, List.getElem_toArray, List.getElem_cons_succ, List.getElem_cons_zero, List.setIfInBounds_toArray, List.set_cons_zero, List.set_cons_succ]
  refine wpList_plain rfl fun K hK => ?_
  go_simp
  refine hK _ _ ?_
  clear hK K
  try simp only [Act.put, List.getElem_toArray, List.getElem_cons_succ, List.getElem_cons_zero, List.setIfInBounds_toArray, List.set_cons_zero, List.set_cons_succ]
  refine wpList_plain rfl fun K hK => ?_
  go_simp
  refine hK _ _ ?_
  clear hK K
  try simp only [Act.put, List.getElem_toArray, List.getElem_cons_succ, List.getElem_cons_zero, List.setIfInBounds_toArray, List.set_cons_zero, List.set_cons_succ]
  refine wpList_plain rfl fun K hK => ?_
  go_simp
  refine hK _ _ ?_
  clear hK K
  try simp only [Act.put, List.getElem_toArray, List.getElem_cons_succ, List.getElem_cons_zero, List.setIfInBounds_toArray, List.set_cons_zero, List.set_cons_succ]
  refine wpList_plain rfl fun K hK => ?_
  go_simp
  refine hK _ _ ?_
  clear hK K
  try simp only [Act.put, List.getElem_toArray, List.getElem_cons_succ, List.getElem_cons_zero, List.setIfInBounds_toArray, List.set_cons_zero, List.set_cons_succ]
  refine wpList_plain rfl fun K hK => ?_
  refine wp_lit4x3 32 37 _ _ _ _ rfl Tryd.underlying32 (by kernel_rfl) (by rfl) (by rfl) (by rfl) (by rfl) ?_
  refine hK _ _ ?_
  clear hK K
  try simp only [Act.put, List.getElem_toArray, List.getElem_cons_succ, List.getElem_cons_zero, List.setIfInBounds_toArray, List.set_cons_zero, List.set_cons_succ]
  refine wpList_nm ?_
  intro W25 hW
  have n : Nw w24 W25 := by rw [hW]; exact (Ch.refl _ _).alloc _
  replace NX := Lib.hid (NX.out.trans n)
  replace MX := Lib.hid (MX.out.kept n id)
  replace hm0 := Nat.lt_of_lt_of_le hm0 n.size
  replace HIC := Lib.hid ((HIC.out.kept n nof).hi n.size)
  have HLT := Lib.hid (show W25.heap[w24.heap.size]? = some (.cells #[.int .i64 1, .int .i64 0, .int .i64 2, .int .i64 2, .int .i64 2, .int .i64 4, .int .i64 3, .int .i64 4, .int .i64 5, .int .i64 1, .int .i64 5, .int .i64 6] 37 (0, 0)) from by rw [hW]; exact heap_alloc_eq _ rfl)
  clear hW n
  refine wpList_plain rfl fun K hK => ?_
  go_simp
  go_at_call 13
  refine rsame_any [(1, 0, 2), (2, 2, 4), (3, 4, 5), (1, 5, 6)] [(1, 0, 2), (2, 2, 4), (3, 4, 5), (1, 5, 6)] _ _ _ _ _ _ HIC.out (isC_block (cs := [.int .i64 1, .int .i64 0, .int .i64 2, .int .i64 2, .int .i64 2, .int .i64 4, .int .i64 3, .int .i64 4, .int .i64 5, .int .i64 1, .int .i64 5, .int .i64 6]) (n := 4) (z := 3) HLT.out rfl) (by decide) (by decide) ?_
  rw [decide_eq_true rfl]
  intro w26 n
  replace NX := Lib.hid (NX.out.trans n)
  replace MX := Lib.hid (MX.out.kept n id)
  replace hm0 := Nat.lt_of_lt_of_le hm0 n.size
  replace HIC := Lib.hid ((HIC.out.kept n nof).hi n.size)
  replace HLT := Lib.hid (n.heap HLT.out id)
  clear n HIC HLT
  refine hK _ _ ?_
  clear hK K
  try simp only [Act.put, List.getElem_toArray, List.getElem_cons_succ, List.getElem_cons_zero, List.setIfInBounds_toArray, List.set_cons_zero, List.set_cons_succ]
  go_wp2_with (go_at_call 3; fail)
  refine Calls_nm ?_
  intro W27 hW
  have n : Nw w26 W27 := by rw [hW]; first | exact Ch.refl _ _ | exact (Ch.refl _ _).alloc _ | exact ((Ch.refl _ _).alloc _).alloc _
  replace NX := Lib.hid (NX.out.trans n)
  replace MX := Lib.hid (MX.out.kept n id)
  replace hm0 := Nat.lt_of_lt_of_le hm0 n.size
  clear hW n
  refine nless_any _ _ _ _ (by decide) (by decide) ?_
  rw [show (⟨#[97, 57]⟩ : ByteArray).data.toList = [97, 57] from rfl, show (⟨#[97, 49, 48]⟩ : ByteArray).data.toList = [97, 49, 48] from rfl, ls_1]
  intro w28 n
  replace NX := Lib.hid (NX.out.trans n)
  replace MX := Lib.hid (MX.out.kept n id)
  replace hm0 := Nat.lt_of_lt_of_le hm0 n.size
  clear n
  go_wp2_with (go_at_call 3; fail)
  refine Calls_nm ?_
  intro W29 hW
  have n : Nw w28 W29 := by rw [hW]; first | exact Ch.refl _ _ | exact (Ch.refl _ _).alloc _ | exact ((Ch.refl _ _).alloc _).alloc _
  replace NX := Lib.hid (NX.out.trans n)
  replace MX := Lib.hid (MX.out.kept n id)
  replace hm0 := Nat.lt_of_lt_of_le hm0 n.size
  clear hW n
  refine nless_any _ _ _ _ (by decide) (by decide) ?_
  rw [show (⟨#[97, 49, 48]⟩ : ByteArray).data.toList = [97, 49, 48] from rfl, show (⟨#[97, 57]⟩ : ByteArray).data.toList = [97, 57] from rfl, ls_2]
  intro w30 n
  replace NX := Lib.hid (NX.out.trans n)
  replace MX := Lib.hid (MX.out.kept n id)
  replace hm0 := Nat.lt_of_lt_of_le hm0 n.size
  clear n
  go_wp2_with (go_at_call 3; fail)
  refine Calls_nm ?_
  intro W31 hW
  have n : Nw w30 W31 := by rw [hW]; first | exact Ch.refl _ _ | exact (Ch.refl _ _).alloc _ | exact ((Ch.refl _ _).alloc _).alloc _
  replace NX := Lib.hid (NX.out.trans n)
  replace MX := Lib.hid (MX.out.kept n id)
  replace hm0 := Nat.lt_of_lt_of_le hm0 n.size
  clear hW n
  refine nless_any _ _ _ _ (by decide) (by decide) ?_
  rw [show (⟨#[97]⟩ : ByteArray).data.toList = [97] from rfl, show (⟨#[97, 49]⟩ : ByteArray).data.toList = [97, 49] from rfl, ls_3]
  intro w32 n
  replace NX := Lib.hid (NX.out.trans n)
  replace MX := Lib.hid (MX.out.kept n id)
  replace hm0 := Nat.lt_of_lt_of_le hm0 n.size
  clear n
  go_wp2_with (go_at_call 3; fail)
  refine Calls_nm ?_
  intro W33 hW
  have n : Nw w32 W33 := by rw [hW]; first | exact Ch.refl _ _ | exact (Ch.refl _ _).alloc _ | exact ((Ch.refl _ _).alloc _).alloc _
  replace NX := Lib.hid (NX.out.trans n)
  replace MX := Lib.hid (MX.out.kept n id)
  replace hm0 := Nat.lt_of_lt_of_le hm0 n.size
  clear hW n
  refine nless_any _ _ _ _ (by decide) (by decide) ?_
  rw [show (⟨#[49]⟩ : ByteArray).data.toList = [49] from rfl, show (⟨#[97]⟩ : ByteArray).data.toList = [97] from rfl, ls_4]
  intro w34 n
  replace NX := Lib.hid (NX.out.trans n)
  replace MX := Lib.hid (MX.out.kept n id)
  replace hm0 := Nat.lt_of_lt_of_le hm0 n.size
  clear n
  go_wp2_with (go_at_call 3; fail)
  refine Calls_nm ?_
  intro W35 hW
  have n : Nw w34 W35 := by rw [hW]; first | exact Ch.refl _ _ | exact (Ch.refl _ _).alloc _ | exact ((Ch.refl _ _).alloc _).alloc _
  replace NX := Lib.hid (NX.out.trans n)
  replace MX := Lib.hid (MX.out.kept n id)
  replace hm0 := Nat.lt_of_lt_of_le hm0 n.size
  clear hW n
  refine nless_any _ _ _ _ (by decide) (by decide) ?_
  rw [show (⟨#[97, 48, 57]⟩ : ByteArray).data.toList = [97, 48, 57] from rfl, show (⟨#[97, 57]⟩ : ByteArray).data.toList = [97, 57] from rfl, ls_5]
  intro w36 n
  replace NX := Lib.hid (NX.out.trans n)
  replace MX := Lib.hid (MX.out.kept n id)
  replace hm0 := Nat.lt_of_lt_of_le hm0 n.size
  clear n
  go_wp2_with (go_at_call 3; fail)
  refine Calls_nm ?_
  intro W37 hW
  have n : Nw w36 W37 := by rw [hW]; first | exact Ch.refl _ _ | exact (Ch.refl _ _).alloc _ | exact ((Ch.refl _ _).alloc _).alloc _
  replace NX := Lib.hid (NX.out.trans n)
  replace MX := Lib.hid (MX.out.kept n id)
  replace hm0 := Nat.lt_of_lt_of_le hm0 n.size
  clear hW n
  refine nless_any _ _ _ _ (by decide) (by decide) ?_
  rw [show (⟨#[97, 57]⟩ : ByteArray).data.toList = [97, 57] from rfl, show (⟨#[97, 48, 57]⟩ : ByteArray).data.toList = [97, 48, 57] from rfl, ls_6]
  intro w38 n
  replace NX := Lib.hid (NX.out.trans n)
  replace MX := Lib.hid (MX.out.kept n id)
  replace hm0 := Nat.lt_of_lt_of_le hm0 n.size
  clear n
  go_wp2_with (go_at_call 3; fail)
  refine Calls_nm ?_
  intro W39 hW
  have n : Nw w38 W39 := by rw [hW]; first | exact Ch.refl _ _ | exact (Ch.refl _ _).alloc _ | exact ((Ch.refl _ _).alloc _).alloc _
  replace NX := Lib.hid (NX.out.trans n)
  replace MX := Lib.hid (MX.out.kept n id)
  replace hm0 := Nat.lt_of_lt_of_le hm0 n.size
  clear hW n
  refine nedits_any _ _ _ _ (by decide) (by decide) ?_
  rw [show (⟨#[97, 98, 99]⟩ : ByteArray).data.toList = [97, 98, 99] from rfl, show (⟨#[97, 100, 99]⟩ : ByteArray).data.toList = [97, 100, 99] from rfl, ed_1]
  intro w40 n
  replace NX := Lib.hid (NX.out.trans n)
  replace MX := Lib.hid (MX.out.kept n id)
  replace hm0 := Nat.lt_of_lt_of_le hm0 n.size
  clear n
  go_wp2_with (go_at_call 3; fail)
  refine Calls_nm ?_
  intro W41 hW
  have n : Nw w40 W41 := by rw [hW]; first | exact Ch.refl _ _ | exact (Ch.refl _ _).alloc _ | exact ((Ch.refl _ _).alloc _).alloc _
  replace NX := Lib.hid (NX.out.trans n)
  replace MX := Lib.hid (MX.out.kept n id)
  replace hm0 := Nat.lt_of_lt_of_le hm0 n.size
  clear hW n
  refine nedits_any _ _ _ _ (by decide) (by decide) ?_
  rw [show (⟨#[97, 98, 99]⟩ : ByteArray).data.toList = [97, 98, 99] from rfl, show (⟨#[98, 99, 100]⟩ : ByteArray).data.toList = [98, 99, 100] from rfl, ed_2]
  intro w42 n
  replace NX := Lib.hid (NX.out.trans n)
  replace MX := Lib.hid (MX.out.kept n id)
  replace hm0 := Nat.lt_of_lt_of_le hm0 n.size
  clear n
  go_wp2_with (go_at_call 3; fail)
  refine Calls_nm ?_
  intro W43 hW
  have n : Nw w42 W43 := by rw [hW]; first | exact Ch.refl _ _ | exact (Ch.refl _ _).alloc _ | exact ((Ch.refl _ _).alloc _).alloc _
  replace NX := Lib.hid (NX.out.trans n)
  replace MX := Lib.hid (MX.out.kept n id)
  replace hm0 := Nat.lt_of_lt_of_le hm0 n.size
  clear hW n
  refine nedits_any _ _ _ _ (by decide) (by decide) ?_
  rw [show (⟨#[]⟩ : ByteArray).data.toList = [] from rfl, show (⟨#[97, 98]⟩ : ByteArray).data.toList = [97, 98] from rfl, ed_3]
  intro w44 n
  replace NX := Lib.hid (NX.out.trans n)
  replace MX := Lib.hid (MX.out.kept n id)
  replace hm0 := Nat.lt_of_lt_of_le hm0 n.size
  clear n
  go_wp2_with (fail)
  exact ret_b (HR.out _ NX.out) (by simp)

end Go.Proofs.YtnibgjpbijlhbaaDoor
