/-
  verify.Check: what it computes is checkM.
-/
import Derived.Test.YtdpbdcaefdcooaaGreatDoorVBlock
import Derived.Test.YtdpbdcaefdcooaaGreatDoorVSort
namespace Go.Proofs.YtdpbdcaefdcooaaGreatDoor
open Go.RowKit
set_option linter.unusedVariables false
set_option linter.unusedSimpArgs false

theorem row_form {w : World} {B sz n : Nat} {e : TypeId} {v : Value} {xs : List Value} (h : w.ownsRow B e sz v n xs) : ∃ A c, v = .slice A n c := by
  rcases h.2 with ⟨h1, h2⟩ | ⟨g, cap, cur, h1, -⟩
  · exact ⟨none, 0, by rw [h2]; exact h1⟩
  · exact ⟨_, _, h1⟩
theorem row_lo {w : World} {B B' sz n : Nat} {e : TypeId} {v : Value} {xs : List Value} (h : w.ownsRow B e sz v n xs) (hb : B' ≤ B) : w.ownsRow B' e sz v n xs := by
  refine ⟨h.1, ?_⟩
  rcases h.2 with hn | ⟨g, cap, cur, rfl, h1, rest⟩
  · exact .inl hn
  · exact .inr ⟨g, cap, cur, rfl, by omega, rest⟩
theorem vpost_name {P : Program} {f : Func} {R : Ending → World → Prop} {e : Exit} {a : Act} {w : World} (h : ∀ W, W = w → bodyPost P f R e a W) : bodyPost P f R e a w := h _ rfl
theorem block0_any (np : Int) (lo b : Nat) (hlo : lo ≤ b) (L : List VOp) (p : Value) (s : VS) (w : World) (R : Ending → World → Prop) (hp : IsProg w lo p L) (h64 : L.length ≤ 64) (hv : IsVer w b np s) (hk : KindsOk w) (hlo0 : 0 < lo)
    (hh : s.h ≤ 8) (hd : s.d ≤ 8) (hr : s.r.length + L.length ≤ 64)
    (hE : ∀ w' k x, V np L 0 0 s = .error x → Ch (fun j => b ≤ j) w w' → R (.returned (.tuple #[.int .i64 k, .int .i64 x])) w')
    (hK : ∀ w' k s', V np L 0 0 s = .ok (k, s') → IsVer w' b np s' → Ch (fun j => b ≤ j) w w' → R (.returned (.tuple #[.int .i64 k, .int .i64 0])) w') :
    Calls Tryz.prog 21 #[.pointer (some ⟨b, 0, none⟩), p, .int .i64 0] w R :=
  block_any np lo b (L.length + 1) hlo L 0 p s w R (by omega) hp h64 (by omega) hv hk hlo0 hh hd hr hE hK

/-- The numbers in order, each once. -/
def sorted (r : List Int) : List Int := Lib.compact (r.mergeSort fun x y => decide (x ≤ y))

set_option maxRecDepth 100000 in
set_option maxHeartbeats 4000000 in
theorem Check_any (np : Int) (lo : Nat) (hlo0 : 0 < lo) (L : List VOp) (p : Value) (w : World) (R : Ending → World → Prop) (hp : IsProg w lo p L) (hlo : lo ≤ w.heap.size) (hk : KindsOk w)
    (hE : ∀ w' x, checkM np L = .error x → Nw w w' → R (.returned (.tuple #[.agg #[.int .i64 0, .int .i64 0, .slice none 0 0], .int .i64 x])) w')
    (hK : ∀ w' k (d : Nat) r v, checkM np L = .ok (k, d, r) → Nw w w' → w'.ownsRow w.heap.size 3 1 v (sorted r).length ((sorted r).map (Value.int .i64)) → R (.returned (.tuple #[.agg #[.int .i64 k, .int .i64 d, v], .int .i64 0])) w') :
    Calls Tryz.prog 8 #[p, .int .i64 np] w R := by
  have HE := Lib.hid hE
  have HK := Lib.hid hK
  have HP := Lib.hid hp
  have HKD := Lib.hid hk
  obtain ⟨A, cap, rfl, hl1, hl2, -⟩ := hp
  clear hE hK hk
  by_cases h64 : 64 < L.length
  · have HC := Lib.hid (show checkM np L = .error 2 from by unfold checkM; rw [if_pos h64])
    have h64' : (64 : Int) < (L.length : Int) := by omega
    go_enter Tryz.func8, Tryz.ntmps8
    go_wp2_with fail
    exact bodyPost_ret (v := .tuple #[.agg #[.int .i64 0, .int .i64 0, .slice none 0 0], .int .i64 2]) (by simp [results, Tryz.results8, go_sem]) rfl (HE.out _ 2 HC.out (by exact (((Ch.refl (fun _ => False) w).alloc _))))
  · have h64' : (L.length : Int) ≤ 64 := by omega
    go_enter Tryz.func8, Tryz.ntmps8
    go_wp2_with fail
    have FT : Ch (fun j => w.heap.size + 1 ≤ j) (w.alloc (.cells #[.int .i64 0, .int .i64 0, .slice none 0 0] 30)) ((w.alloc (.cells #[.int .i64 0, .int .i64 0, .slice none 0 0] 30)).alloc (.cells #[.int .i64 np, .int .i64 0, .int .i64 0, .slice none 0 0] 53)) := (Ch.refl _ _).alloc _
    have N0 := Lib.hid (show Nw w ((w.alloc (.cells #[.int .i64 0, .int .i64 0, .slice none 0 0] 30)).alloc (.cells #[.int .i64 np, .int .i64 0, .int .i64 0, .slice none 0 0] 53)) from ((Ch.refl _ _).alloc _).alloc _)
    have F0 := Lib.hid (show ((w.alloc (.cells #[.int .i64 0, .int .i64 0, .slice none 0 0] 30)).alloc (.cells #[.int .i64 np, .int .i64 0, .int .i64 0, .slice none 0 0] 53)).heap[w.heap.size]? = some (.cells #[.int .i64 0, .int .i64 0, .slice none 0 0] 30 (0, 0)) from heap_alloc_old' _ (heap_alloc_eq _ rfl))
    refine block0_any np lo (w.heap.size + 1) (by omega) L _ ⟨0, 0, []⟩ _ _ (HP.out.kept N0.out (fun _ _ e => e)) (by omega) ⟨_, heap_alloc_eq _ (by simp), World.ownsRow_nil _ _ _ _⟩ (HKD.out.kept N0.out id) hlo0 (by simp) (by simp) (by simp; omega) ?_ ?_
    · intro w1 k x hV hc
      have hxne := V_err_ne hV
      have tx : (x != 0) = true := by simp [hxne]
      have HC := Lib.hid (show checkM np L = .error x from by unfold checkM; rw [if_neg h64, hV])
      have HN := Lib.hid (N0.out.trans' hc (fun n hn e => by have : w.heap.size + 1 ≤ n := e; omega))
      have f1 := hc.heap F0.out (by omega)
      have c0 : w1.cell? ⟨w.heap.size, 0, none⟩ = some (.int .i64 0) := by rw [cell_of f1]; rfl
      have c1 : w1.cell? ⟨w.heap.size, 1, none⟩ = some (.int .i64 0) := by rw [cell_of f1]; rfl
      have c2 : w1.cell? ⟨w.heap.size, 2, none⟩ = some (.slice none 0 0) := by rw [cell_of f1]; rfl
      have z0 : w1.frozen? ⟨w.heap.size, 0, none⟩ = false := frozen_of f1
      have z1 : w1.frozen? ⟨w.heap.size, 1, none⟩ = false := frozen_of f1
      have z2 : w1.frozen? ⟨w.heap.size, 2, none⟩ = false := frozen_of f1
      have F1 := Lib.hid f1
      clear hV hc f1 hxne
      go_wp2_with fail
      refine vpost_name ?_
      intro W hW
      have hb : W.heap[w.heap.size]? = some (.cells #[.int .i64 0, .int .i64 0, .slice none 0 0] 30 (0, 0)) := by rw [hW]; exact heap_setCell_eq _ (heap_setCell_eq _ (heap_setCell_eq _ F1.out))
      have cw : Ch (· = w.heap.size) w1 W := by rw [hW]; exact (((Ch.refl (· = w.heap.size) w1).setb (fun _ => rfl) _).setb (fun _ => rfl) _).setb (fun _ => rfl) _
      have r0 : W.cell? ⟨w.heap.size, 0, none⟩ = some (.int .i64 0) := by rw [cell_of hb]; rfl
      have r1 : W.cell? ⟨w.heap.size, 1, none⟩ = some (.int .i64 0) := by rw [cell_of hb]; rfl
      have r2 : W.cell? ⟨w.heap.size, 2, none⟩ = some (.slice none 0 0) := by rw [cell_of hb]; rfl
      clear hW
      exact bodyPost_ret (v := .tuple #[.agg #[.int .i64 0, .int .i64 0, .slice none 0 0], .int .i64 x]) (by simp [results, Tryz.results8, go_sem, r0, r1, r2]) rfl (HE.out _ x HC.out (HN.out.trans' cw (fun n hn e => by omega)))
    · intro w1 k s1 hV hver hc
      obtain ⟨⟨kb0, kb1⟩, hh8, -, hd8, t, ht, htl, -⟩ := V_bound hV (by omega) (by simp) (by simp)
      have hr64 : s1.r.length ≤ 64 := by rw [ht]; simp; omega
      obtain ⟨vr, hvb, hvo⟩ := hver
      have HN := Lib.hid (N0.out.trans' hc (fun n hn e => by have : w.heap.size + 1 ≤ n := e; omega))
      have f1 := hc.heap F0.out (by omega)
      have c0 : w1.cell? ⟨w.heap.size, 0, none⟩ = some (.int .i64 0) := by rw [cell_of f1]; rfl
      have c1 : w1.cell? ⟨w.heap.size, 1, none⟩ = some (.int .i64 0) := by rw [cell_of f1]; rfl
      have c2 : w1.cell? ⟨w.heap.size, 2, none⟩ = some (.slice none 0 0) := by rw [cell_of f1]; rfl
      have z0 : w1.frozen? ⟨w.heap.size, 0, none⟩ = false := frozen_of f1
      have z1 : w1.frozen? ⟨w.heap.size, 1, none⟩ = false := frozen_of f1
      have z2 : w1.frozen? ⟨w.heap.size, 2, none⟩ = false := frozen_of f1
      have F1 := Lib.hid f1
      have p1 : w1.cell? ⟨w.heap.size + 1, 1, none⟩ = some (.int .i64 s1.h) := by rw [cell_of hvb]; rfl
      have p2 : w1.cell? ⟨w.heap.size + 1, 2, none⟩ = some (.int .i64 s1.d) := by rw [cell_of hvb]; rfl
      have p3 : w1.cell? ⟨w.heap.size + 1, 3, none⟩ = some vr := by rw [cell_of hvb]; rfl
      have HVO := Lib.hid hvo
      have lb := lt_of_heap hvb
      have kb2 : k ≤ 262144 := by simp [vmax] at kb1; omega
      clear f1 hvb hvo ht htl
      by_cases h0 : s1.h = 0
      · have t0 : ((s1.h : Int) != 0) = false := by simp [h0]
        have t0' : (s1.h != 0) = false := by simp [h0]
        by_cases hk2 : 2000 < k
        · have HC := Lib.hid (show checkM np L = .error 21 from by unfold checkM; rw [if_neg h64, hV]; simp only; rw [if_neg (by simp [h0]), if_pos hk2])
          have d1 : decide (2000 < k) = true := by simp; omega
          clear hV h0 hc
          go_wp2_with fail
          refine vpost_name ?_
          intro W hW
          have hb : W.heap[w.heap.size]? = some (.cells #[.int .i64 0, .int .i64 0, .slice none 0 0] 30 (0, 0)) := by rw [hW]; exact heap_setCell_eq _ (heap_setCell_eq _ (heap_setCell_eq _ F1.out))
          have cw : Ch (· = w.heap.size) w1 W := by rw [hW]; exact (((Ch.refl (· = w.heap.size) w1).setb (fun _ => rfl) _).setb (fun _ => rfl) _).setb (fun _ => rfl) _
          have r0 : W.cell? ⟨w.heap.size, 0, none⟩ = some (.int .i64 0) := by rw [cell_of hb]; rfl
          have r1 : W.cell? ⟨w.heap.size, 1, none⟩ = some (.int .i64 0) := by rw [cell_of hb]; rfl
          have r2 : W.cell? ⟨w.heap.size, 2, none⟩ = some (.slice none 0 0) := by rw [cell_of hb]; rfl
          clear hW
          exact bodyPost_ret (v := .tuple #[.agg #[.int .i64 0, .int .i64 0, .slice none 0 0], .int .i64 21]) (by simp [results, Tryz.results8, go_sem, r0, r1, r2]) rfl (HE.out _ 21 HC.out (HN.out.trans' cw (fun n hn e => by omega)))
        · have HC := Lib.hid (show checkM np L = .ok (k, s1.d, s1.r) from by unfold checkM; rw [if_neg h64, hV]; simp only; rw [if_neg (by simp [h0]), if_neg hk2])
          have d1 : decide (2000 < k) = false := by simp; omega
          clear hV h0 hc
          go_wp2_with fail
          refine vsort_any (w.heap.size + 1 + 1) s1.r.length vr s1.r _ _ HVO.out (by omega) ?_
          intro w2 hown2 hc2
          have HN2 := Lib.hid (HN.out.trans' hc2 (fun n hn e => by have : w.heap.size + 1 + 1 ≤ n := e; omega))
          have p2 := hc2.cell p2 (by show ¬ w.heap.size + 1 + 1 ≤ w.heap.size + 1; omega)
          have p3 := hc2.cell p3 (by show ¬ w.heap.size + 1 + 1 ≤ w.heap.size + 1; omega)
          have F2 := Lib.hid (hc2.heap F1.out (by omega))
          have HO2 := Lib.hid hown2
          have hls : (s1.r.mergeSort fun x y => decide (x ≤ y)).length = s1.r.length := List.length_mergeSort _
          clear hown2 hc2 p1 c0 c1 c2 z0 z1 z2
          go_wp2_with fail
          go_region_held3 (fun w' => w'.cell? ⟨w.heap.size + 1, 2, none⟩ = some (.int .i64 s1.d) ∧ w'.cell? ⟨w.heap.size + 1, 3, none⟩ = some vr) (first | (exact ⟨p2, p3⟩) | (exact ⟨e2, e3⟩) | (exact ⟨cell_setCell_ne _ (cell_setCell_ne _ (cell_setCell_ne _ e2 (by simp)) (by simp)) (by simp), cell_setCell_ne _ (cell_setCell_ne _ (cell_setCell_ne _ e3 (by simp)) (by simp)) (by simp)⟩)) (first | (go_at_call 23; refine vcompact_any (w.heap.size + 1 + 1) s1.r.length vr (s1.r.mergeSort fun x y => decide (x ≤ y)) _ _ (by first | exact HO2.out | exact HO2.out.drew) (by omega) ?_; intro v3 w3 hown3 hc3; (obtain ⟨A3, cap3, rfl⟩ := row_form hown3); (have e2 := hc3.cell (a := ⟨w.heap.size + 1, 2, none⟩) (by exact p2) (by show ¬ w.heap.size + 1 + 1 ≤ w.heap.size + 1; omega)); (have e3 := hc3.cell (a := ⟨w.heap.size + 1, 3, none⟩) (by exact p3) (by show ¬ w.heap.size + 1 + 1 ≤ w.heap.size + 1; omega)); (have f3 := hc3.heap (k := w.heap.size) F2.out (by omega)); (have c0 : w3.cell? ⟨w.heap.size, 0, none⟩ = some (.int .i64 0) := by rw [cell_of f3]; rfl); (have c1 : w3.cell? ⟨w.heap.size, 1, none⟩ = some (.int .i64 0) := by rw [cell_of f3]; rfl); (have c2 : w3.cell? ⟨w.heap.size, 2, none⟩ = some (.slice none 0 0) := by rw [cell_of f3]; rfl); (have z0 : w3.frozen? ⟨w.heap.size, 0, none⟩ = false := frozen_of f3); (have z1 : w3.frozen? ⟨w.heap.size, 1, none⟩ = false := frozen_of f3); (have z2 : w3.frozen? ⟨w.heap.size, 2, none⟩ = false := frozen_of f3)))
          go_wp2_with fail
          refine vpost_name ?_
          intro W hW
          have hb : W.heap[w.heap.size]? = some (.cells #[.int .i64 k, .int .i64 s1.d, .slice A3 (Lib.compact (s1.r.mergeSort fun x y => decide (x ≤ y))).length cap3] 30 (0, 0)) := by rw [hW]; exact heap_setCell_eq _ (heap_setCell_eq _ (heap_setCell_eq _ f3))
          have cw : Ch (· = w.heap.size) w3 W := by rw [hW]; exact (((Ch.refl (· = w.heap.size) w3).setb (fun _ => rfl) _).setb (fun _ => rfl) _).setb (fun _ => rfl) _
          have r0 : W.cell? ⟨w.heap.size, 0, none⟩ = some (.int .i64 k) := by rw [cell_of hb]; rfl
          have r1 : W.cell? ⟨w.heap.size, 1, none⟩ = some (.int .i64 s1.d) := by rw [cell_of hb]; rfl
          have r2 : W.cell? ⟨w.heap.size, 2, none⟩ = some (.slice A3 (Lib.compact (s1.r.mergeSort fun x y => decide (x ≤ y))).length cap3) := by rw [cell_of hb]; rfl
          clear hW
          exact bodyPost_ret (v := .tuple #[.agg #[.int .i64 k, .int .i64 s1.d, .slice A3 (Lib.compact (s1.r.mergeSort fun x y => decide (x ≤ y))).length cap3], .int .i64 0]) (by simp [results, Tryz.results8, go_sem, r0, r1, r2]) rfl
            (HK.out W k s1.d s1.r _ HC.out ((HN2.out.trans' (Ch.undrew hc3) (fun n hn e => by have : w.heap.size + 1 + 1 ≤ n := e; omega)).trans' cw (fun n hn e => by omega)) (row_lo (vrow_ch hown3 cw (fun j hj e => by have := (hown3.lt j hj).1; omega)) (by omega)))
      · have t0 : ((s1.h : Int) != 0) = true := by simp; omega
        have t0' : (s1.h != 0) = true := by simp; omega
        have HC := Lib.hid (show checkM np L = .error 20 from by unfold checkM; rw [if_neg h64, hV]; simp only; rw [if_pos h0])
        clear hV h0 hc
        go_wp2_with fail
        refine vpost_name ?_
        intro W hW
        have hb : W.heap[w.heap.size]? = some (.cells #[.int .i64 0, .int .i64 0, .slice none 0 0] 30 (0, 0)) := by rw [hW]; exact heap_setCell_eq _ (heap_setCell_eq _ (heap_setCell_eq _ F1.out))
        have cw : Ch (· = w.heap.size) w1 W := by rw [hW]; exact (((Ch.refl (· = w.heap.size) w1).setb (fun _ => rfl) _).setb (fun _ => rfl) _).setb (fun _ => rfl) _
        have r0 : W.cell? ⟨w.heap.size, 0, none⟩ = some (.int .i64 0) := by rw [cell_of hb]; rfl
        have r1 : W.cell? ⟨w.heap.size, 1, none⟩ = some (.int .i64 0) := by rw [cell_of hb]; rfl
        have r2 : W.cell? ⟨w.heap.size, 2, none⟩ = some (.slice none 0 0) := by rw [cell_of hb]; rfl
        clear hW
        exact bodyPost_ret (v := .tuple #[.agg #[.int .i64 0, .int .i64 0, .slice none 0 0], .int .i64 20]) (by simp [results, Tryz.results8, go_sem, r0, r1, r2]) rfl (HE.out _ 20 HC.out (HN.out.trans' cw (fun n hn e => by omega)))
end Go.Proofs.YtdpbdcaefdcooaaGreatDoor
