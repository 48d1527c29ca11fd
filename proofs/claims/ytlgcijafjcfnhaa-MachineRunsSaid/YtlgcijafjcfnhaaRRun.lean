/-
  indelibleref09.Run: it computes 'runM', as the program's Run does.
-/
import Derived.Test.YtlgcijafjcfnhaaRBlock
namespace Go.Proofs.Ytlgcijafjcfnhaa
open Go.RowKit
set_option linter.unusedVariables false
set_option linter.unusedSimpArgs false

theorem refill_lens (o : List (List Pt)) : ∀ o' : List (List Pt), o'.map List.length = o.map List.length → refill o o'.flatten = o' := by
  induction o with
  | nil => intro o' h; cases o' with
    | nil => rfl
    | cons d o' => cases h
  | cons c o ih =>
    intro o' h
    cases o' with
    | nil => cases h
    | cons d o' =>
      simp only [List.map_cons, List.cons.injEq] at h
      simp only [refill, List.flatten_cons]
      rw [← h.1, List.take_left', List.drop_left', ih o' h.2]
      · rfl
      · rfl

set_option maxRecDepth 100000 in
set_option maxHeartbeats 2000000 in
theorem refRun_any (lo : Nat) (p v : Value) (l : List Op3) (o : List (List Pt)) (size : Int) (w : World) (R : Ending → World → Prop) (hp : IsOps w lo p l) (ho : IsOut w lo v o) (hlo : lo ≤ w.heap.size)
    (hE : ∀ w' x, runM l size o = .error x → Nw w w' → R (.returned (.tuple #[.slice none 0 0, .int .i64 0, .int .i64 x])) w')
    (hK : ∀ w' v' o' steps, runM l size o = .ok (o', steps) → IsOut w' w'.heap.size v' o' → Nw w w' → R (.returned (.tuple #[v', .int .i64 steps, .int .i64 0])) w') :
    Calls Try.prog 13 #[p, v, .int .i64 size] w R := by
  have HE := Lib.hid hE
  have HK := Lib.hid hK
  have HO := Lib.hid ho
  have HP := Lib.hid hp
  clear hE hK ho
  obtain ⟨Ap, capp, rfl, hl63, -⟩ := hp
  have hbnd : o.length ≤ 64 ∧ ∀ c ∈ o, c.length ≤ 64 ∧ ∀ q ∈ c, wfP q := by
    obtain ⟨_, _, _, h1, h2⟩ := HO.out
    refine ⟨h1, fun c hc => ?_⟩
    obtain ⟨j, hj⟩ := List.mem_iff_getElem?.1 hc
    exact ⟨(h2 j c hj).1, (h2 j c hj).2.1⟩
  have HBD := Lib.hid hbnd
  clear hbnd
  go_enter Try.func13, Try.ntmps13
  go_wp2_with (go_at_call 42; fail)
  refine Copy_any lo _ o _ _ HO.out hlo ?_
  intro w1 v1 bs hc1 hn1
  have HC1 := Lib.hid hc1
  have HN1 := Lib.hid hn1
  have hsz := hn1.size
  have hv : ∃ A1 cap1, v1 = .slice A1 o.length cap1 := by
    rcases hc1.2.2.1.2 with ⟨h1, h2⟩ | ⟨g, cap, cur, h1, -⟩
    · exact ⟨none, 0, by rw [h2]; exact h1⟩
    · exact ⟨_, cap, h1⟩
  obtain ⟨A1, cap1, rfl⟩ := hv
  clear hc1 hn1
  go_wp2_with (go_at_call 42; fail)
  have NA := Lib.hid (show Nw w1 (w1.alloc (.cells #[.slice Ap l.length capp, .slice A1 o.length cap1, .int .i64 size, .slice none 0 0, .int .i64 0] 72)) from (Ch.refl _ _).alloc _)
  have hrf : RF (w1.alloc (.cells #[.slice Ap l.length capp, .slice A1 o.length cap1, .int .i64 size, .slice none 0 0, .int .i64 0] 72)) w1.heap.size (.slice Ap l.length capp) (.slice A1 o.length cap1) size w.heap.size bs o [] 0 :=
    ⟨⟨.slice none 0 0, heap_alloc_eq _ rfl, World.ownsRow_nil _ _ _ _⟩, HC1.out.ch NA.out (fun _ _ h => h), fun k hk => (HC1.out.blocks k hk).2, HBD.out, fun x hx => by cases hx⟩
  refine rblock_any lo w1.heap.size w.heap.size _ (.slice A1 o.length cap1) size bs l hlo hsz 2001 0 l.length 0 (o, [], 0) _ _ (by simp) (by simp) (by simp) (Nat.zero_le _) hrf (by simp) ((HP.out.kept HN1.out nof).kept NA.out nof) (Nat.le_refl _) (by omega) ?_ ?_
  · intro x w2 hx c2
    have hx0 : (x != 0) = true := bne_iff_ne.2 (exec_err_ne _ _ _ _ _ _ _ _ hx)
    have HX := Lib.hid hx
    have C2 := Lib.hid c2
    clear hx c2 hrf
    go_wp2
    refine bodyPost_ret (v := .tuple #[.slice none 0 0, .int .i64 0, .int .i64 x]) (by simp [results, Try.results13, go_sem]) rfl ?_
    refine HE.out w2 x ?_ ((HN1.out.trans NA.out).trans' C2.out (fun n hn e => by omega))
    unfold runM
    have := HX.out
    unfold fl at this
    simp only at this
    rw [this]
  · intro w2 s' hx hm hl8 hf c2
    have HX := Lib.hid hx
    have HM := Lib.hid hm
    have HF := Lib.hid hf
    have C2 := Lib.hid c2
    obtain ⟨vs, hb, -⟩ := hf.rs
    have d1 : w2.cell? ⟨w1.heap.size, 1, none⟩ = some (.slice A1 o.length cap1) := by rw [cell_of hb]; rfl
    have d4 : w2.cell? ⟨w1.heap.size, 4, none⟩ = some (.int .i64 s'.2.2) := by rw [cell_of hb]; rfl
    clear hx hm hf c2 hb hrf
    go_wp2
    go_quiet (fail)
    go_wp2
    refine bodyPost_ret (v := .tuple #[.slice A1 o.length cap1, .int .i64 s'.2.2, .int .i64 0]) (by simp [results, Try.results13, go_sem]) rfl ?_
    refine HK.out (w2.drewN _) (.slice A1 o.length cap1) s'.1 s'.2.2 ?_ (HF.out.out.kept ((Ch.refl (fun _ => False) w2).drewN _) nof) (((HN1.out.trans NA.out).trans' C2.out (fun n hn e => by omega)).drewN _)
    unfold runM
    have := HX.out
    unfold fl at this
    simp only at this
    rw [this]
    simp only
    rw [refill_lens o s'.1 HM.out]
end Go.Proofs.Ytlgcijafjcfnhaa
