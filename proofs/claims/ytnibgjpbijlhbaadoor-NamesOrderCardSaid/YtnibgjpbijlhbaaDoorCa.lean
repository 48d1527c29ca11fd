/-
  indeliblelaw12: Case.all: four strings.
-/
import Derived.Test.YtnibgjpbijlhbaaDoorMd12
import Derived.Test.YtnibgjpbijlhbaaDoorOd12
namespace Go.Proofs.YtnibgjpbijlhbaaDoor
open Go.RowKit Go.Shelf
set_option linter.unusedVariables false
set_option linter.unusedSimpArgs false
set_option maxRecDepth 100000

theorem cut_size (z : ByteArray) : (⟨(z.data.toList.take 16).toArray⟩ : ByteArray).size ≤ 16 := by
  show (List.toArray _).size ≤ 16
  rw [List.size_toArray, List.length_take]
  omega

/-- The four strings. -/
def allB (la : List Int) (q0 q1 q2 : Int) (z : ByteArray) : Nat → ByteArray
  | 0 => made12 la
  | 1 => oddB (made12 la) q0 q1 q2
  | 2 => ⟨(z.data.toList.take 16).toArray⟩
  | _ => made12 la ++ ⟨(z.data.toList.take 16).toArray⟩
/-- What is known of four strings. -/
def AllOk (S : Nat → ByteArray) : Prop := (∀ k, (S k).size ≤ 20) ∧ (S 0).size ≤ 4 ∧ lev (S 0).data.toList (S 1).data.toList ≤ 1

theorem madeTo_size (l : List Int) (N kn : Nat) : ∀ k, (madeTo l N kn k).1.size = k
  | 0 => rfl
  | k + 1 => by
    have := madeTo_size l N kn k
    rw [madeTo, ByteArray.size_append, this]
    rfl
theorem made12_size (l : List Int) : (made12 l).size ≤ 4 := by
  unfold made12
  rw [madeTo_size]
  have := nx_in l 0 4 (by omega)
  omega
theorem oddB_ok (s : ByteArray) (q0 q1 q2 : Int) : (oddB s q0 q1 q2).size ≤ s.size + 1 ∧ lev s.data.toList (oddB s q0 q1 q2).data.toList ≤ 1 := by
  have m0 := Int.emod_nonneg q1 (show ((s.size : Int) + 1) ≠ 0 by omega)
  have m1 := Int.emod_lt_of_pos q1 (show 0 < (s.size : Int) + 1 by omega)
  have hm : (q1 % ((s.size : Int) + 1)).toNat ≤ s.size := by omega
  rw [oddB_eq rfl rfl rfl]
  split
  · exact odd_ins s _ s.size _ hm rfl
  · split
    · exact odd_ins s _ s.size _ hm rfl
    · split
      · exact odd_ins s _ s.size _ hm rfl
      · split
        · exact odd_del s _ s.size _ hm rfl rfl
        · exact odd_sub s _ s.size _ _ hm rfl rfl
theorem all_ok (la : List Int) (q0 q1 q2 : Int) (z : ByteArray) : AllOk (allB la q0 q1 q2 z) := by
  have h0 := made12_size la
  have h1 := oddB_ok (made12 la) q0 q1 q2
  have h2 := cut_size z
  refine ⟨fun k => ?_, h0, h1.2⟩
  match k with
  | 0 => show (made12 la).size ≤ 20; omega
  | 1 => show (oddB (made12 la) q0 q1 q2).size ≤ 20; omega
  | 2 => show (⟨(z.data.toList.take 16).toArray⟩ : ByteArray).size ≤ 20; omega
  | k + 3 => show (made12 la ++ ⟨(z.data.toList.take 16).toArray⟩).size ≤ 20; rw [ByteArray.size_append]; omega

set_option maxHeartbeats 8000000 in
theorem all_det (lo : Nat) (va : Value) (la : List Int) (q0 q1 q2 : Int) (z : ByteArray) (w : World) (R : Ending → World → Prop) (hlo : lo ≤ w.heap.size) (ha : IsInts w lo va la) (h0 : wfI q0) (h1 : wfI q1) (h2 : wfI q2)
    (hR : ∀ w', Nw w w' → R (.returned (.agg #[.string (allB la q0 q1 q2 z 0), .string (allB la q0 q1 q2 z 1), .string (allB la q0 q1 q2 z 2), .string (allB la q0 q1 q2 z 3)])) w') :
    Calls Tryd.prog 10 #[.agg #[va, .int .i64 q0, .int .i64 q1, .int .i64 q2, .string z]] w R := by
  have HR := Lib.hid hR
  clear hR
  have WQ0 := Lib.hid h0
  have WQ1 := Lib.hid h1
  have WQ2 := Lib.hid h2
  clear h0 h1 h2
  have NX := Lib.hid (Ch.refl (fun _ => False) w)
  have HLA := Lib.hid (ha.hi hlo)
  obtain ⟨A0, c0, rfl, -⟩ := ha
  go_enter Tryd.func10, Tryd.ntmps10
  go_wp2_with (go_at_call 25; fail)
  refine Calls_nm ?_
  intro W1 hW
  have n : Nw w W1 := by rw [hW]; exact ((Ch.refl _ _).alloc _).alloc _
  replace NX := Lib.hid (NX.out.trans n)
  replace HLA := Lib.hid (HLA.out.kept n nof)
  have HBC := Lib.hid (show W1.heap[w.heap.size]? = some (.cells #[.slice A0 la.length c0, .int .i64 q0, .int .i64 q1, .int .i64 q2, .string z] 25 (0, 0)) from by rw [hW]; exact heap_alloc_old' _ (heap_alloc_eq _ rfl))
  have HRB := Lib.hid (show W1.heap[w.heap.size + 1]? = some (.cells #[.string ⟨#[]⟩, .string ⟨#[]⟩, .string ⟨#[]⟩, .string ⟨#[]⟩] 27 (0, 0)) from by rw [hW]; exact heap_alloc_eq _ (by simp only [alloc_size]))
  clear hW n
  have SZ : w.heap.size + 1 < W1.heap.size := lt_of_heap HRB.out
  refine made_det _ la _ _ (HLA.out.hi (by omega)) ?_
  intro w2 hs0 n
  replace NX := Lib.hid (NX.out.trans n)
  replace HLA := Lib.hid (HLA.out.kept n nof)
  replace HBC := Lib.hid (n.heap HBC.out id)
  replace HRB := Lib.hid (n.heap HRB.out id)
  replace SZ := Nat.lt_of_lt_of_le SZ n.size
  obtain ⟨s0, hs00⟩ : ∃ s, made12 la = s := ⟨_, rfl⟩
  rw [hs00] at hs0 ⊢
  have E0 := Lib.hid hs00
  have HS0 := Lib.hid hs0
  clear n hs00
  obtain ⟨zc, hzc⟩ : ∃ c : ByteArray, ⟨(z.data.toList.take 16).toArray⟩ = c := ⟨_, rfl⟩
  have hz16 : zc.size ≤ 16 := by rw [← hzc]; exact cut_size z
  have HZC := Lib.hid hzc
  have HZS := Lib.hid hz16
  clear hzc
  go_upto_region 2 with (fail)
  refine wp_named ?_
  intro W3 hW
  have n : Nw w2 W3 := by rw [hW]; first | exact Ch.refl _ _ | exact (Ch.refl _ _).alloc _
  replace NX := Lib.hid (NX.out.trans n)
  replace HLA := Lib.hid (HLA.out.kept n nof)
  replace HBC := Lib.hid (n.heap HBC.out id)
  replace HRB := Lib.hid (n.heap HRB.out id)
  replace SZ := Nat.lt_of_lt_of_le SZ n.size
  clear hW n
  refine wp_region_V (F := fun w' => w'.cell? ⟨w.heap.size, 1, none⟩ = some (.int .i64 q0) ∧ w'.cell? ⟨w.heap.size, 2, none⟩ = some (.int .i64 q1) ∧ w'.cell? ⟨w.heap.size, 3, none⟩ = some (.int .i64 q2) ∧ w'.cell? ⟨w.heap.size, 4, none⟩ = some (.string z)) (opsOf Tryd.f10 2) 14 15 (by kernel_rfl) (by kernel_rfl) (by kernel_rfl) (fun w w' h n => ⟨n.cell h.1 id, n.cell h.2.1 id, n.cell h.2.2.1 id, n.cell h.2.2.2 id⟩) ⟨by show W3.cell? _ = _; rw [cell_of HBC.out]; rfl, by show W3.cell? _ = _; rw [cell_of HBC.out]; rfl, by show W3.cell? _ = _; rw [cell_of HBC.out]; rfl, by show W3.cell? _ = _; rw [cell_of HBC.out]; rfl⟩ (fun HOPS HCL hHeld => ?_)
  refine wpU_named ?_
  intro W4 hW
  try rw [← hW] at hHeld
  have n : Nw W3 W4 := by rw [hW]; exact (Ch.refl _ _).drew
  replace NX := Lib.hid (NX.out.trans n)
  replace HLA := Lib.hid (HLA.out.kept n nof)
  replace HBC := Lib.hid (n.heap HBC.out id)
  replace HRB := Lib.hid (n.heap HRB.out id)
  replace SZ := Nat.lt_of_lt_of_le SZ n.size
  clear hW n
  first | (refine wpU_takeB (i := 0) (v := ?_) HOPS rfl (by kernel_rfl) (fun _ _ _ h => h) HCL (goes_read (by rfl) ?hy) ?_; case hy => (intro w hSw; (try dsimp only at hSw); go_simp; (try with_reducible rfl))) | (refine wpU_takeB (i := 0) (v := _) HOPS rfl (by kernel_rfl) (fun _ _ _ h => h) HCL (goes_not (by rfl)) ?_)
  try simp only [Act.put, List.getElem_toArray, List.getElem_cons_succ, List.getElem_cons_zero, List.setIfInBounds_toArray, List.set_cons_zero, List.set_cons_succ]
  first | (refine wpU_takeB (i := 1) (v := ?_) HOPS rfl (by kernel_rfl) (fun _ _ _ h => h) HCL (goes_read (by rfl) ?hy) ?_; case hy => (intro w hSw; (try dsimp only at hSw); go_simp; (try with_reducible rfl))) | (refine wpU_takeB (i := 1) (v := _) HOPS rfl (by kernel_rfl) (fun _ _ _ h => h) HCL (goes_not (by rfl)) ?_)
  try simp only [Act.put, List.getElem_toArray, List.getElem_cons_succ, List.getElem_cons_zero, List.setIfInBounds_toArray, List.set_cons_zero, List.set_cons_succ]
  first | (refine wpU_takeB (i := 2) (v := ?_) HOPS rfl (by kernel_rfl) (fun _ _ _ h => h) HCL (goes_read (by rfl) ?hy) ?_; case hy => (intro w hSw; (try dsimp only at hSw); go_simp; (try with_reducible rfl))) | (refine wpU_takeB (i := 2) (v := _) HOPS rfl (by kernel_rfl) (fun _ _ _ h => h) HCL (goes_not (by rfl)) ?_)
  try simp only [Act.put, List.getElem_toArray, List.getElem_cons_succ, List.getElem_cons_zero, List.setIfInBounds_toArray, List.set_cons_zero, List.set_cons_succ]
  first | (refine wpU_takeB (i := 3) (v := ?_) HOPS rfl (by kernel_rfl) (fun _ _ _ h => h) HCL (goes_read (by rfl) ?hy) ?_; case hy => (intro w hSw; (try dsimp only at hSw); go_simp; (try with_reducible rfl))) | (refine wpU_takeB (i := 3) (v := _) HOPS rfl (by kernel_rfl) (fun _ _ _ h => h) HCL (goes_not (by rfl)) ?_)
  try simp only [Act.put, List.getElem_toArray, List.getElem_cons_succ, List.getElem_cons_zero, List.setIfInBounds_toArray, List.set_cons_zero, List.set_cons_succ]
  first | (refine wpU_takeB (i := 5) (v := ?_) HOPS rfl (by kernel_rfl) (fun _ _ _ h => h) HCL (goes_read (by rfl) ?hy) ?_; case hy => (intro w hSw; (try dsimp only at hSw); go_simp; (try with_reducible rfl))) | (refine wpU_takeB (i := 5) (v := _) HOPS rfl (by kernel_rfl) (fun _ _ _ h => h) HCL (goes_not (by rfl)) ?_)
  try simp only [Act.put, List.getElem_toArray, List.getElem_cons_succ, List.getElem_cons_zero, List.setIfInBounds_toArray, List.set_cons_zero, List.set_cons_succ]
  first | (refine wpU_takeB (i := 6) (v := ?_) HOPS rfl (by kernel_rfl) (fun _ _ _ h => h) HCL (goes_read (by rfl) ?hy) ?_; case hy => (intro w hSw; (try dsimp only at hSw); go_simp; (try with_reducible rfl))) | (refine wpU_takeB (i := 6) (v := _) HOPS rfl (by kernel_rfl) (fun _ _ _ h => h) HCL (goes_not (by rfl)) ?_)
  try simp only [Act.put, List.getElem_toArray, List.getElem_cons_succ, List.getElem_cons_zero, List.setIfInBounds_toArray, List.set_cons_zero, List.set_cons_succ]
  first | (refine wpU_takeB (i := 8) (v := ?_) HOPS rfl (by kernel_rfl) (fun _ _ _ h => h) HCL (goes_read (by rfl) ?hy) ?_; case hy => (intro w hSw; (try dsimp only at hSw); go_simp; (try with_reducible rfl))) | (refine wpU_takeB (i := 8) (v := _) HOPS rfl (by kernel_rfl) (fun _ _ _ h => h) HCL (goes_not (by rfl)) ?_)
  try simp only [Act.put, List.getElem_toArray, List.getElem_cons_succ, List.getElem_cons_zero, List.setIfInBounds_toArray, List.set_cons_zero, List.set_cons_succ]
  first | (refine wpU_takeB (i := 9) (v := ?_) HOPS rfl (by kernel_rfl) (fun _ _ _ h => h) HCL (goes_read (by rfl) ?hy) ?_; case hy => (intro w hSw; (try dsimp only at hSw); go_simp; (try with_reducible rfl))) | (refine wpU_takeB (i := 9) (v := _) HOPS rfl (by kernel_rfl) (fun _ _ _ h => h) HCL (goes_not (by rfl)) ?_)
  try simp only [Act.put, List.getElem_toArray, List.getElem_cons_succ, List.getElem_cons_zero, List.setIfInBounds_toArray, List.set_cons_zero, List.set_cons_succ]
  first | (refine wpU_takeB (i := 10) (v := ?_) HOPS rfl (by kernel_rfl) (fun _ _ _ h => h) HCL (goes_read (by rfl) ?hy) ?_; case hy => (intro w hSw; (try dsimp only at hSw); go_simp; (try with_reducible rfl))) | (refine wpU_takeB (i := 10) (v := _) HOPS rfl (by kernel_rfl) (fun _ _ _ h => h) HCL (goes_not (by rfl)) ?_)
  try simp only [Act.put, List.getElem_toArray, List.getElem_cons_succ, List.getElem_cons_zero, List.setIfInBounds_toArray, List.set_cons_zero, List.set_cons_succ]
  refine wpU_ready (rs := [4]) (by kernel_rfl) (by simp) ?_
  intro w5 hle
  obtain ⟨n, hHeld⟩ := hle.ahead (by kernel_rfl)
  clear hle
  replace NX := Lib.hid (NX.out.trans n)
  replace HLA := Lib.hid (HLA.out.kept n nof)
  replace HBC := Lib.hid (n.heap HBC.out id)
  replace HRB := Lib.hid (n.heap HRB.out id)
  replace SZ := Nat.lt_of_lt_of_le SZ n.size
  clear n
  refine ReadyU.cons HOPS rfl (by rfl) (fun K hK => ?_) ReadyU.nil
  go_simp
  go_at_call 26
  refine odd_any s0 q0 q1 q2 _ _ (by omega) WQ0.out WQ1.out WQ2.out ?_
  intro w6 s1 hs1 hl1 he1 n
  replace NX := Lib.hid (NX.out.trans n)
  replace HLA := Lib.hid (HLA.out.kept n nof)
  replace HBC := Lib.hid (n.heap HBC.out id)
  replace HRB := Lib.hid (n.heap HRB.out id)
  replace SZ := Nat.lt_of_lt_of_le SZ n.size
  have HS1 := Lib.hid (show s1.size ≤ 5 by omega)
  have E1 := Lib.hid he1
  clear hs1 hl1 he1
  refine hK.out _ _ n ⟨by show w6.cell? _ = _; rw [cell_of HBC.out]; rfl, by show w6.cell? _ = _; rw [cell_of HBC.out]; rfl, by show w6.cell? _ = _; rw [cell_of HBC.out]; rfl, by show w6.cell? _ = _; rw [cell_of HBC.out]; rfl⟩ (fun hHeld => ?_)
  clear hK K n
  try simp only [Act.put, List.getElem_toArray, List.getElem_cons_succ, List.getElem_cons_zero, List.setIfInBounds_toArray, List.set_cons_zero, List.set_cons_succ]
  refine wpU_takeB (i := 7) HOPS rfl (by kernel_rfl) (fun _ _ _ h => h) HCL (goes_fn (v := (.string zc)) 27 _ _ _ #[.string z] (by rfl) rfl (by kernel_rfl) (by kernel_rfl) (by kernel_rfl) (fun wq n R hR => ?_)) ?_
  · exact cut_any z _ _ (by rw [HZC.out]; exact hR _ (Ch.refl _ _))
  try simp only [Act.put, List.getElem_toArray, List.getElem_cons_succ, List.getElem_cons_zero, List.setIfInBounds_toArray, List.set_cons_zero, List.set_cons_succ]
  refine wpU_takeB (i := 11) HOPS rfl (by kernel_rfl) (fun _ _ _ h => h) HCL (goes_fn (v := (.string zc)) 27 _ _ _ #[.string z] (by rfl) rfl (by kernel_rfl) (by kernel_rfl) (by kernel_rfl) (fun wq n R hR => ?_)) ?_
  · exact cut_any z _ _ (by rw [HZC.out]; exact hR _ (Ch.refl _ _))
  try simp only [Act.put, List.getElem_toArray, List.getElem_cons_succ, List.getElem_cons_zero, List.setIfInBounds_toArray, List.set_cons_zero, List.set_cons_succ]
  refine wpU_takeB (i := 12) HOPS rfl (by kernel_rfl) (fun _ _ _ h => h) HCL (goes_cat _ _ _ _ _ _ _ _ (by rfl) rfl (by rfl) (by rfl) HS0.out HZS.out (by decide)) ?_
  try simp only [Act.put, List.getElem_toArray, List.getElem_cons_succ, List.getElem_cons_zero, List.setIfInBounds_toArray, List.set_cons_zero, List.set_cons_succ]
  first | (refine wpU_takeB (i := 13) (v := ?_) HOPS rfl (by kernel_rfl) (fun _ _ _ h => h) HCL (goes_read (by rfl) ?hy) ?_; case hy => (intro w hSw; (try dsimp only at hSw); go_simp; (try with_reducible rfl))) | (refine wpU_takeB (i := 13) (v := _) HOPS rfl (by kernel_rfl) (fun _ _ _ h => h) HCL (goes_not (by rfl)) ?_)
  try simp only [Act.put, List.getElem_toArray, List.getElem_cons_succ, List.getElem_cons_zero, List.setIfInBounds_toArray, List.set_cons_zero, List.set_cons_succ]
  refine wpU_ready (rs := [14]) (by kernel_rfl) (by simp) ?_
  intro w7 hle
  obtain ⟨n, hHeld⟩ := hle.ahead (by kernel_rfl)
  clear hle
  replace NX := Lib.hid (NX.out.trans n)
  replace HLA := Lib.hid (HLA.out.kept n nof)
  replace HBC := Lib.hid (n.heap HBC.out id)
  replace HRB := Lib.hid (n.heap HRB.out id)
  replace SZ := Nat.lt_of_lt_of_le SZ n.size
  clear n
  refine ReadyU.last HOPS rfl (by rfl) (by kernel_rfl) (fun K hK => ?_) ReadyU.nil
  have o0 : w7.cell? ⟨w.heap.size + 1, 0, none⟩ = some (.string ⟨#[]⟩) := by rw [cell_of HRB.out]; rfl
  have o1 : w7.cell? ⟨w.heap.size + 1, 1, none⟩ = some (.string ⟨#[]⟩) := by rw [cell_of HRB.out]; rfl
  have o2 : w7.cell? ⟨w.heap.size + 1, 2, none⟩ = some (.string ⟨#[]⟩) := by rw [cell_of HRB.out]; rfl
  have o3 : w7.cell? ⟨w.heap.size + 1, 3, none⟩ = some (.string ⟨#[]⟩) := by rw [cell_of HRB.out]; rfl
  have p0 : w7.frozen? ⟨w.heap.size + 1, 0, none⟩ = false := frozen_of HRB.out
  have p1 : w7.frozen? ⟨w.heap.size + 1, 1, none⟩ = false := frozen_of HRB.out
  have p2 : w7.frozen? ⟨w.heap.size + 1, 2, none⟩ = false := frozen_of HRB.out
  have p3 : w7.frozen? ⟨w.heap.size + 1, 3, none⟩ = false := frozen_of HRB.out
  go_simp
  refine hK.out _ _ ?_
  clear hK K
  try simp only [Act.put, List.getElem_toArray, List.getElem_cons_succ, List.getElem_cons_zero, List.setIfInBounds_toArray, List.set_cons_zero, List.set_cons_succ]
  refine wpU_done (by kernel_rfl) (fun w8 hle => ?_) _
  rw [hle.behind (by kernel_rfl)]
  clear HOPS HCL hle
  repeat clear hHeld
  refine post_named ?_
  intro Wz hW
  have c : Ch (· = w.heap.size + 1) w7 Wz := by rw [hW]; exact ((((Ch.refl (· = w.heap.size + 1) w7).setb (fun _ => rfl) _).setb (fun _ => rfl) _).setb (fun _ => rfl) _).setb (fun _ => rfl) _
  have RZ := Lib.hid (show Wz.heap[w.heap.size + 1]? = some (.cells #[.string s0, .string s1, .string zc, .string (s0 ++ zc)] 27 (0, 0)) from by rw [hW]; exact heap_setCell_eq _ (heap_setCell_eq _ (heap_setCell_eq _ (heap_setCell_eq _ HRB.out))))
  clear hW
  have NZ := Lib.hid (NX.out.trans' c (fun j hj e => by have e' : j = w.heap.size + 1 := e; omega))
  have z0 : Wz.cell? ⟨w.heap.size + 1, 0, none⟩ = some (.string s0) := by rw [cell_of RZ.out]; rfl
  have z1 : Wz.cell? ⟨w.heap.size + 1, 1, none⟩ = some (.string s1) := by rw [cell_of RZ.out]; rfl
  have z2 : Wz.cell? ⟨w.heap.size + 1, 2, none⟩ = some (.string zc) := by rw [cell_of RZ.out]; rfl
  have z3 : Wz.cell? ⟨w.heap.size + 1, 3, none⟩ = some (.string (s0 ++ zc)) := by rw [cell_of RZ.out]; rfl
  go_wp2
  refine bodyPost_ret (v := .agg #[.string s0, .string s1, .string zc, .string (s0 ++ zc)]) (by simp [results, Tryd.results10, go_sem, *]) rfl ?_
  have e := HR.out Wz NZ.out
  simp only [allB, E0.out, HZC.out, ← E1.out] at e
  exact e

end Go.Proofs.YtnibgjpbijlhbaaDoor
