/-
  'next': the operation with an index, or a panic with its error ('chk').
-/
import Derived.Test.YtlgcijafjcfnhaaDoorOf
import Derived.BigGuardPart
namespace Go.Proofs.YtlgcijafjcfnhaaDoor
open Go.RowKit
set_option linter.unusedVariables false
set_option linter.unusedSimpArgs false

instance (c : Int) : Decidable (bad c) := by unfold bad; infer_instance
/-- The error of an operation that is to be carried out: room is what is left of its block, with itself. -/
def chk (c n m : Int) (room nest npts h : Nat) (s : Int) : Option Int :=
  if 2000 ≤ s then some 21
  else if bad c then some 5
  else if m ≠ 0 ∧ c ≠ 15 then some 5
  else if n ≠ 0 ∧ isNum c = false ∧ isPt c = false ∧ isBlk c = false then some 5
  else if c = 15 ∧ (n < 1 ∨ 16 < n) then some 5
  else if isBlk c = true ∧ (blen c n m < 1 ∨ (room : Int) ≤ blen c n m) then some 5
  else if isBlk c = true ∧ 3 ≤ nest then some 20
  else if h < pops c then some 20
  else if 8 < h - pops c + pushes c then some 20
  else if isPt c = true ∧ (n < 0 ∨ (npts : Int) ≤ n) then some 22
  else none

section
variable {c n m : Int} {room nest npts h : Nat} {s : Int}
theorem chk_steps (h1 : 2000 ≤ s) : chk c n m room nest npts h s = some 21 := if_pos h1
theorem chk_bad (h1 : s < 2000) (h2 : bad c) : chk c n m room nest npts h s = some 5 := by unfold chk; rw [if_neg (by omega), if_pos h2]
theorem chk_m (h1 : s < 2000) (h2 : ¬ bad c) (h3 : m ≠ 0) (h4 : c ≠ 15) : chk c n m room nest npts h s = some 5 := by unfold chk; rw [if_neg (by omega), if_neg h2, if_pos ⟨h3, h4⟩]
theorem chk_n (h1 : s < 2000) (h2 : ¬ bad c) (h3 : m = 0 ∨ c = 15) (h4 : n ≠ 0) (h5 : isNum c = false) (h6 : isPt c = false) (h7 : isBlk c = false) : chk c n m room nest npts h s = some 5 := by
  unfold chk; rw [if_neg (by omega), if_neg h2, if_neg (by rcases h3 with h | h <;> simp [h]), if_pos ⟨h4, h5, h6, h7⟩]
theorem chk_loop (h1 : s < 2000) (h2 : c = 15) (h3 : n < 1 ∨ 16 < n) : chk c n m room nest npts h s = some 5 := by
  subst h2; unfold chk; rw [if_neg (by omega), if_neg (by simp [bad]), if_neg (by simp), if_neg (by simp [isBlk]), if_pos ⟨rfl, h3⟩]
theorem chk_len (h1 : s < 2000) (h2 : ¬ bad c) (h3 : m = 0 ∨ c = 15) (h4 : isBlk c = true) (h5 : c = 15 → 1 ≤ n ∧ n ≤ 16) (h6 : blen c n m < 1 ∨ (room : Int) ≤ blen c n m) : chk c n m room nest npts h s = some 5 := by
  unfold chk; rw [if_neg (by omega), if_neg h2, if_neg (by rcases h3 with h | h <;> simp [h]), if_neg (by simp [h4]), if_neg (by rintro ⟨a, b⟩; have := h5 a; omega), if_pos ⟨h4, h6⟩]
theorem chk_nest (h1 : s < 2000) (h2 : ¬ bad c) (h3 : m = 0 ∨ c = 15) (h4 : isBlk c = true) (h5 : c = 15 → 1 ≤ n ∧ n ≤ 16) (h6 : 1 ≤ blen c n m ∧ blen c n m < (room : Int)) (h7 : 3 ≤ nest) : chk c n m room nest npts h s = some 20 := by
  unfold chk; rw [if_neg (by omega), if_neg h2, if_neg (by rcases h3 with h | h <;> simp [h]), if_neg (by simp [h4]), if_neg (by rintro ⟨a, b⟩; have := h5 a; omega), if_neg (by rintro ⟨_, b⟩; omega), if_pos ⟨h4, h7⟩]
/-- The form is right, and there are not too many blocks. -/
def formed (c n m : Int) (room nest : Nat) : Prop :=
  ¬ bad c ∧ (m = 0 ∨ c = 15) ∧ (n = 0 ∨ isNum c = true ∨ isPt c = true ∨ isBlk c = true) ∧ (c = 15 → 1 ≤ n ∧ n ≤ 16) ∧ (isBlk c = true → (1 ≤ blen c n m ∧ blen c n m < (room : Int)) ∧ nest < 3)
theorem chk_formed (h1 : s < 2000) (h2 : formed c n m room nest) : chk c n m room nest npts h s =
    if h < pops c then some 20 else if 8 < h - pops c + pushes c then some 20 else if isPt c = true ∧ (n < 0 ∨ (npts : Int) ≤ n) then some 22 else none := by
  obtain ⟨a, b, d, e, f⟩ := h2
  unfold chk
  rw [if_neg (by omega), if_neg a, if_neg (by rcases b with h | h <;> simp [h]), if_neg (by rcases d with h | h | h | h <;> simp [h]), if_neg (by rintro ⟨a, b⟩; have := e a; omega),
    if_neg (by rintro ⟨a, b⟩; have := f a; omega), if_neg (by rintro ⟨a, b⟩; have := f a; omega)]
theorem chk_few (h1 : s < 2000) (h2 : formed c n m room nest) (h3 : h < pops c) : chk c n m room nest npts h s = some 20 := by rw [chk_formed h1 h2, if_pos h3]
theorem chk_many (h1 : s < 2000) (h2 : formed c n m room nest) (h3 : ¬ h < pops c) (h4 : 8 < (h : Int) - pops c + pushes c) : chk c n m room nest npts h s = some 20 := by rw [chk_formed h1 h2, if_neg h3, if_pos (by omega)]
theorem chk_pt (h1 : s < 2000) (h2 : formed c n m room nest) (h3 : ¬ h < pops c) (h4 : (h : Int) - pops c + pushes c ≤ 8) (h5 : isPt c = true) (h6 : n < 0 ∨ (npts : Int) ≤ n) : chk c n m room nest npts h s = some 22 := by
  rw [chk_formed h1 h2, if_neg h3, if_neg (by omega), if_pos ⟨h5, h6⟩]
theorem chk_ok (h1 : s < 2000) (h2 : formed c n m room nest) (h3 : ¬ h < pops c) (h4 : (h : Int) - pops c + pushes c ≤ 8) (h5 : isPt c = true → 0 ≤ n ∧ n < (npts : Int)) : chk c n m room nest npts h s = none := by
  rw [chk_formed h1 h2, if_neg h3, if_neg (by omega), if_neg (by rintro ⟨a, b⟩; have := h5 a; omega)]
end

theorem blen_14 (n m : Int) : blen 14 n m = n := rfl
theorem blen_15 (n m : Int) : blen 15 n m = m := rfl
theorem pops_14 : pops 14 = 1 := rfl
theorem pops_15 : pops 15 = 0 := rfl
theorem pushes_14 : pushes 14 = 0 := rfl
theorem pushes_15 : pushes 15 = 0 := rfl

/-- What 'next' reads behind a call of 'length'. -/
structure NF (w : World) (b r o t : Nat) (A : Option Addr) (len cap h : Nat) (s c n m P Q : Int) (bn bp bb : Bool) (v : Value) : Prop where
  hq : w.cell? ⟨b, 1, none⟩ = some (.slice A len cap)
  hh : w.cell? ⟨b, 11, none⟩ = some (.int .i64 h)
  hs : w.cell? ⟨b, 12, none⟩ = some (.int .i64 s)
  zf : ∀ o, w.frozen? ⟨r, o, none⟩ = false
  z0 : w.cell? ⟨r, 0, none⟩ = some (.int .i64 0)
  z1 : w.cell? ⟨r, 1, none⟩ = some (.int .i64 0)
  z2 : w.cell? ⟨r, 2, none⟩ = some (.bool false)
  z3 : w.cell? ⟨r, 3, none⟩ = some (.bool false)
  z4 : w.cell? ⟨r, 4, none⟩ = some (.bool false)
  z5 : w.cell? ⟨r, 5, none⟩ = some .nilFunc
  a0 : w.cell? ⟨o, 0, none⟩ = some (.int .i64 c)
  a1 : w.cell? ⟨o, 1, none⟩ = some (.int .i64 n)
  a2 : w.cell? ⟨o, 2, none⟩ = some (.int .i64 m)
  p0 : w.cell? ⟨t, 0, none⟩ = some (.int .i64 P)
  p1 : w.cell? ⟨t, 1, none⟩ = some (.int .i64 Q)
  p2 : w.cell? ⟨t, 2, none⟩ = some (.bool bn)
  p3 : w.cell? ⟨t, 3, none⟩ = some (.bool bp)
  p4 : w.cell? ⟨t, 4, none⟩ = some (.bool bb)
  p5 : w.cell? ⟨t, 5, none⟩ = some v

theorem NF.kept {w w' : World} {b r o t : Nat} {A : Option Addr} {len cap h : Nat} {s c n m P Q : Int} {bn bp bb : Bool} {v : Value} (f : NF w b r o t A len cap h s c n m P Q bn bp bb v) (hc : Nw w w') : NF w' b r o t A len cap h s c n m P Q bn bp bb v where
  hq := hc.cell f.hq id
  hh := hc.cell f.hh id
  hs := hc.cell f.hs id
  zf j := (hc.frozen (a := ⟨r, j, none⟩) (World.block_lt_of_cell? w ⟨r, 0, none⟩ f.z0 : r < w.heap.size) id).trans (f.zf j)
  z0 := hc.cell f.z0 id
  z1 := hc.cell f.z1 id
  z2 := hc.cell f.z2 id
  z3 := hc.cell f.z3 id
  z4 := hc.cell f.z4 id
  z5 := hc.cell f.z5 id
  a0 := hc.cell f.a0 id
  a1 := hc.cell f.a1 id
  a2 := hc.cell f.a2 id
  p0 := hc.cell f.p0 id
  p1 := hc.cell f.p1 id
  p2 := hc.cell f.p2 id
  p3 := hc.cell f.p3 id
  p4 := hc.cell f.p4 id
  p5 := hc.cell f.p5 id

theorem pops_le (c : Int) : (pops c : Int) ≤ 2 := by unfold pops; split <;> (try split) <;> decide
theorem pushes_le (c : Int) : (pushes c : Int) ≤ 1 := by unfold pushes; split <;> decide

theorem DoOk.later {w w' : World} {lo b : Nat} {c : Int} {v : Value} (h : DoOk w lo b c v) (hc : Ch (fun k => k < lo) w w') : DoOk w' lo b c v := by
  obtain ⟨G, fst, caps, e, h1, h2⟩ := h
  exact ⟨G, fst, caps, e, h1, fun w2 g o s steps n R hs => h2 w2 g o s steps n R fun k hk hk' => (hs k hk (Nat.lt_of_lt_of_le hk' hc.size)).trans (hc.block k hk' fun x => absurd x (by omega))⟩
theorem DoOk.lo {w : World} {lo lo' b : Nat} {c : Int} {v : Value} (h : DoOk w lo b c v) (hl : lo' ≤ lo) : DoOk w lo' b c v := by
  obtain ⟨G, fst, caps, e, h1, h2⟩ := h
  exact ⟨G, fst, caps, e, h1, fun w2 g o s steps n R hs hf hb ho => h2 w2 g o s steps n R (fun k hk hk' => hs k (by omega) hk') hf hb fun k hk => Nat.lt_of_lt_of_le (ho k hk) hl⟩

theorem opv_num {c : Int} {v : Value} (f1 : isNum c = true) (f2 : isPt c = false) (f3 : isBlk c = false) : opv c v = .agg #[.int .i64 (pops c), .int .i64 (pushes c), .bool true, .bool false, .bool false, v] := by
  unfold opv; rw [f1, f2, f3]
set_option maxRecDepth 100000 in
set_option maxHeartbeats 1000000 in
theorem next_num (b pk po plen pcap i e nest h len cap : Nat) (A : Option Addr) (s c n m : Int) (w : World) (R : Ending → World → Prop)
    (hb : b < w.heap.size) (hk : pk < w.heap.size)
    (hp : w.cell? ⟨b, 0, none⟩ = some (.slice (some ⟨pk, po, none⟩) plen pcap)) (hi : i < plen) (hpl : plen ≤ 4611686018427387904)
    (k0 : w.cell? ⟨pk, po + i * 3, none⟩ = some (.int .i64 c)) (k1 : w.cell? ⟨pk, po + i * 3 + 1, none⟩ = some (.int .i64 n)) (k2 : w.cell? ⟨pk, po + i * 3 + 2, none⟩ = some (.int .i64 m))
    (hq : w.cell? ⟨b, 1, none⟩ = some (.slice A len cap)) (hh : w.cell? ⟨b, 11, none⟩ = some (.int .i64 h)) (hs : w.cell? ⟨b, 12, none⟩ = some (.int .i64 s))
    (hie : i < e) (he : e ≤ plen) (hn3 : nest ≤ 3) (hh8 : h ≤ 8)
    (f0 : ¬ bad c) (f1 : isNum c = true) (f2 : isPt c = false) (f3 : isBlk c = false) (f4 : (c == 15) = false)
    (hE : ∀ x w', chk c n m (e - i) nest len h s = some x → Nw w w' → R (.panicked [{ v := .iface 36 (.int .i64 x), recovered := false }]) w')
    (hK : ∀ w' v, chk c n m (e - i) nest len h s = none → Nw w w' → DoOk w' w.heap.size b c v → R (.returned (opv c v)) w') :
    Calls Tryd.prog 37 #[.pointer (some ⟨b, 0, none⟩), .int .i64 i, .int .i64 e, .int .i64 nest] w R := by
  have HE := Lib.hid hE
  have HK := Lib.hid hK
  clear hE hK
  have F0 := Lib.hid f0
  have F4 := Lib.hid f4
  have q2 := pops_le c
  have q3 := pushes_le c
  have q0 : (0 : Int) ≤ (pops c : Int) := by omega
  have q1 : (0 : Int) ≤ (pushes c : Int) := by omega
  clear f0
  have i0 : (0 : Int) ≤ (i : Int) := by omega
  have i1 : (i : Int) < (plen : Int) := by omega
  have hfe : ∀ (fn : Fn) (f c : Array Value) (w : World), (binOp .eql 91 (.func fn f c) .nilFunc).run Tryd.prog w = .ok (.bool false) w := fun _ _ _ _ => by kernel_rfl
  have F1 := Lib.hid f1
  have F2 := Lib.hid f2
  have F3 := Lib.hid f3
  go_enter Tryd.func37, Tryd.ntmps37
  go_wp2_with (first | (go_at_call 51; refine of_ok _ _ _ _ (by simp only [World.size_alloc]; omega) F0.out ?_; intro w1 v c1 hdo; (have HD := Lib.hid hdo); (obtain ⟨G, fst, caps, rfl, -⟩ := hdo); rw [opv_num f1 f2 f3]; (have hq1 := c1.cell (cell_alloc_old _ (cell_alloc_old _ hq)) (fun x => x)); (have hh1 := c1.cell (cell_alloc_old _ (cell_alloc_old _ hh)) (fun x => x)); (have hs1 := c1.cell (cell_alloc_old _ (cell_alloc_old _ hs)) (fun x => x)); (obtain ⟨zf, z0, z1, z2, z3, z4, z5⟩ := zop_facts (c1.heap (k := w.heap.size) (heap_alloc_old' _ (heap_alloc_eq _ rfl)) (fun x => x))); (have a0 : w1.cell? ⟨w.heap.size + 1, 0, none⟩ = some (.int .i64 c) := c1.cell (cell_alloc_new (by simp) rfl) (fun x => x)); (have a1 : w1.cell? ⟨w.heap.size + 1, 1, none⟩ = some (.int .i64 n) := c1.cell (cell_alloc_new (by simp) rfl) (fun x => x)); (have a2 : w1.cell? ⟨w.heap.size + 1, 2, none⟩ = some (.int .i64 m) := c1.cell (cell_alloc_new (by simp) rfl) (fun x => x)); (have l1 : b < w1.heap.size := (by have := c1.size; simp only [World.size_alloc] at this; omega)); (have l2 : w.heap.size < w1.heap.size := (by have := c1.size; simp only [World.size_alloc] at this; omega)); (have l3 : w.heap.size + 1 < w1.heap.size := (by have := c1.size; simp only [World.size_alloc] at this; omega)); (have N1 := Lib.hid (((((Ch.refl (fun _ => False) w).alloc _).alloc _).trans c1).alloc (.cells #[.int .i64 (pops c), .int .i64 (pushes c), .bool true, .bool false, .bool false, .func (.func G) fst caps] 93))); (have ND := Lib.hid ((Ch.refl (fun _ => False) w1).alloc (.cells #[.int .i64 (pops c), .int .i64 (pushes c), .bool true, .bool false, .bool false, .func (.func G) fst caps] 93)))))
  all_goals try (go_quiet (fail); try go_wp2)
  all_goals try (go_quiet (fail); try go_wp2)
  all_goals try (go_quiet (fail); try go_wp2)
  all_goals first
    | (refine ⟨rfl, HE.out 21 _ (chk_steps ?_) ?_⟩; omega; (first | exact N1.out | exact N1.out.drewN _))
    | (refine ⟨rfl, HE.out 5 _ (chk_m ?_ F0.out ?_ (beq_eq_false_iff_ne.1 F4.out)) ?_⟩; omega; omega; (first | exact N1.out | exact N1.out.drewN _))
    | (refine ⟨rfl, HE.out 20 _ (chk_few ?_ ⟨F0.out, .inl ?_, .inr (.inl F1.out), fun h => absurd h (beq_eq_false_iff_ne.1 F4.out), fun h => by rw [F3.out] at h; cases h⟩ ?_) ?_⟩; omega; omega; (omega); (first | exact N1.out | exact N1.out.drewN _))
    | (refine ⟨rfl, HE.out 20 _ (chk_many ?_ ⟨F0.out, .inl ?_, .inr (.inl F1.out), fun h => absurd h (beq_eq_false_iff_ne.1 F4.out), fun h => by rw [F3.out] at h; cases h⟩ ?_ ?_) ?_⟩; omega; omega; (omega); (omega); (first | exact N1.out | exact N1.out.drewN _))
    | (have key : ∀ W, Nw w W → DoOk W w.heap.size b c (.func (.func G) fst caps) → R (.returned (.agg #[.int .i64 (pops c), .int .i64 (pushes c), .bool true, .bool false, .bool false, .func (.func G) fst caps])) W := by
         intro W hW hd
         rw [← opv_num F1.out F2.out F3.out]
         refine HK.out W _ (chk_ok ?_ ⟨F0.out, .inl ?_, .inr (.inl F1.out), fun h => absurd h (beq_eq_false_iff_ne.1 F4.out), fun h => by rw [F3.out] at h; cases h⟩ ?_ ?_ (fun h => by rw [F2.out] at h; cases h)) hW hd
         omega; omega; (omega); (omega); skip
       clear HK HE
       refine bodyPost_ret (v := .agg #[.int .i64 (pops c), .int .i64 (pushes c), .bool true, .bool false, .bool false, .func (.func G) fst caps]) (by simp [results, Tryd.results37, go_sem, l2, z0, z1, z2, z3, z4, z5]) rfl ?_
       refine key _ (ch_set6 ?_ (fun x => absurd x (by omega)) _ _ _ _ _ _) ((HD.out.later (ch_set6 ((ND.out.mono (fun _ _ x => x.elim)).drewN _) (fun _ => by simp only [World.size_alloc]; omega) _ _ _ _ _ _)).lo (by simp only [World.size_alloc]; omega))
       (first | exact N1.out | exact N1.out.drewN _))
    | (exfalso; omega)
theorem opv_plain {c : Int} {v : Value} (f1 : isNum c = false) (f2 : isPt c = false) (f3 : isBlk c = false) : opv c v = .agg #[.int .i64 (pops c), .int .i64 (pushes c), .bool false, .bool false, .bool false, v] := by
  unfold opv; rw [f1, f2, f3]
set_option maxRecDepth 100000 in
set_option maxHeartbeats 1000000 in
theorem next_plain (b pk po plen pcap i e nest h len cap : Nat) (A : Option Addr) (s c n m : Int) (w : World) (R : Ending → World → Prop)
    (hb : b < w.heap.size) (hk : pk < w.heap.size)
    (hp : w.cell? ⟨b, 0, none⟩ = some (.slice (some ⟨pk, po, none⟩) plen pcap)) (hi : i < plen) (hpl : plen ≤ 4611686018427387904)
    (k0 : w.cell? ⟨pk, po + i * 3, none⟩ = some (.int .i64 c)) (k1 : w.cell? ⟨pk, po + i * 3 + 1, none⟩ = some (.int .i64 n)) (k2 : w.cell? ⟨pk, po + i * 3 + 2, none⟩ = some (.int .i64 m))
    (hq : w.cell? ⟨b, 1, none⟩ = some (.slice A len cap)) (hh : w.cell? ⟨b, 11, none⟩ = some (.int .i64 h)) (hs : w.cell? ⟨b, 12, none⟩ = some (.int .i64 s))
    (hie : i < e) (he : e ≤ plen) (hn3 : nest ≤ 3) (hh8 : h ≤ 8)
    (f0 : ¬ bad c) (f1 : isNum c = false) (f2 : isPt c = false) (f3 : isBlk c = false) (f4 : (c == 15) = false)
    (hE : ∀ x w', chk c n m (e - i) nest len h s = some x → Nw w w' → R (.panicked [{ v := .iface 36 (.int .i64 x), recovered := false }]) w')
    (hK : ∀ w' v, chk c n m (e - i) nest len h s = none → Nw w w' → DoOk w' w.heap.size b c v → R (.returned (opv c v)) w') :
    Calls Tryd.prog 37 #[.pointer (some ⟨b, 0, none⟩), .int .i64 i, .int .i64 e, .int .i64 nest] w R := by
  have HE := Lib.hid hE
  have HK := Lib.hid hK
  clear hE hK
  have F0 := Lib.hid f0
  have F4 := Lib.hid f4
  have q2 := pops_le c
  have q3 := pushes_le c
  have q0 : (0 : Int) ≤ (pops c : Int) := by omega
  have q1 : (0 : Int) ≤ (pushes c : Int) := by omega
  clear f0
  have i0 : (0 : Int) ≤ (i : Int) := by omega
  have i1 : (i : Int) < (plen : Int) := by omega
  have hfe : ∀ (fn : Fn) (f c : Array Value) (w : World), (binOp .eql 91 (.func fn f c) .nilFunc).run Tryd.prog w = .ok (.bool false) w := fun _ _ _ _ => by kernel_rfl
  have F1 := Lib.hid f1
  have F2 := Lib.hid f2
  have F3 := Lib.hid f3
  go_enter Tryd.func37, Tryd.ntmps37
  go_wp2_with (first | (go_at_call 51; refine of_ok _ _ _ _ (by simp only [World.size_alloc]; omega) F0.out ?_; intro w1 v c1 hdo; (have HD := Lib.hid hdo); (obtain ⟨G, fst, caps, rfl, -⟩ := hdo); rw [opv_plain f1 f2 f3]; (have hq1 := c1.cell (cell_alloc_old _ (cell_alloc_old _ hq)) (fun x => x)); (have hh1 := c1.cell (cell_alloc_old _ (cell_alloc_old _ hh)) (fun x => x)); (have hs1 := c1.cell (cell_alloc_old _ (cell_alloc_old _ hs)) (fun x => x)); (obtain ⟨zf, z0, z1, z2, z3, z4, z5⟩ := zop_facts (c1.heap (k := w.heap.size) (heap_alloc_old' _ (heap_alloc_eq _ rfl)) (fun x => x))); (have a0 : w1.cell? ⟨w.heap.size + 1, 0, none⟩ = some (.int .i64 c) := c1.cell (cell_alloc_new (by simp) rfl) (fun x => x)); (have a1 : w1.cell? ⟨w.heap.size + 1, 1, none⟩ = some (.int .i64 n) := c1.cell (cell_alloc_new (by simp) rfl) (fun x => x)); (have a2 : w1.cell? ⟨w.heap.size + 1, 2, none⟩ = some (.int .i64 m) := c1.cell (cell_alloc_new (by simp) rfl) (fun x => x)); (have l1 : b < w1.heap.size := (by have := c1.size; simp only [World.size_alloc] at this; omega)); (have l2 : w.heap.size < w1.heap.size := (by have := c1.size; simp only [World.size_alloc] at this; omega)); (have l3 : w.heap.size + 1 < w1.heap.size := (by have := c1.size; simp only [World.size_alloc] at this; omega)); (have N1 := Lib.hid (((((Ch.refl (fun _ => False) w).alloc _).alloc _).trans c1).alloc (.cells #[.int .i64 (pops c), .int .i64 (pushes c), .bool false, .bool false, .bool false, .func (.func G) fst caps] 93))); (have ND := Lib.hid ((Ch.refl (fun _ => False) w1).alloc (.cells #[.int .i64 (pops c), .int .i64 (pushes c), .bool false, .bool false, .bool false, .func (.func G) fst caps] 93)))))
  all_goals try (go_quiet (fail); try go_wp2)
  all_goals try (go_quiet (fail); try go_wp2)
  all_goals try (go_quiet (fail); try go_wp2)
  all_goals first
    | (refine ⟨rfl, HE.out 21 _ (chk_steps ?_) ?_⟩; omega; (first | exact N1.out | exact N1.out.drewN _))
    | (refine ⟨rfl, HE.out 5 _ (chk_m ?_ F0.out ?_ (beq_eq_false_iff_ne.1 F4.out)) ?_⟩; omega; omega; (first | exact N1.out | exact N1.out.drewN _))
    | (refine ⟨rfl, HE.out 5 _ (chk_n ?_ F0.out (.inl ?_) ?_ F1.out F2.out F3.out) ?_⟩; omega; omega; omega; (first | exact N1.out | exact N1.out.drewN _))
    | (refine ⟨rfl, HE.out 20 _ (chk_few ?_ ⟨F0.out, .inl ?_, .inl ?_, fun h => absurd h (beq_eq_false_iff_ne.1 F4.out), fun h => by rw [F3.out] at h; cases h⟩ ?_) ?_⟩; omega; omega; omega; (omega); (first | exact N1.out | exact N1.out.drewN _))
    | (refine ⟨rfl, HE.out 20 _ (chk_many ?_ ⟨F0.out, .inl ?_, .inl ?_, fun h => absurd h (beq_eq_false_iff_ne.1 F4.out), fun h => by rw [F3.out] at h; cases h⟩ ?_ ?_) ?_⟩; omega; omega; omega; (omega); (omega); (first | exact N1.out | exact N1.out.drewN _))
    | (have key : ∀ W, Nw w W → DoOk W w.heap.size b c (.func (.func G) fst caps) → R (.returned (.agg #[.int .i64 (pops c), .int .i64 (pushes c), .bool false, .bool false, .bool false, .func (.func G) fst caps])) W := by
         intro W hW hd
         rw [← opv_plain F1.out F2.out F3.out]
         refine HK.out W _ (chk_ok ?_ ⟨F0.out, .inl ?_, .inl ?_, fun h => absurd h (beq_eq_false_iff_ne.1 F4.out), fun h => by rw [F3.out] at h; cases h⟩ ?_ ?_ (fun h => by rw [F2.out] at h; cases h)) hW hd
         omega; omega; omega; (omega); (omega); skip
       clear HK HE
       refine bodyPost_ret (v := .agg #[.int .i64 (pops c), .int .i64 (pushes c), .bool false, .bool false, .bool false, .func (.func G) fst caps]) (by simp [results, Tryd.results37, go_sem, l2, z0, z1, z2, z3, z4, z5]) rfl ?_
       refine key _ (ch_set6 ?_ (fun x => absurd x (by omega)) _ _ _ _ _ _) ((HD.out.later (ch_set6 ((ND.out.mono (fun _ _ x => x.elim)).drewN _) (fun _ => by simp only [World.size_alloc]; omega) _ _ _ _ _ _)).lo (by simp only [World.size_alloc]; omega))
       (first | exact N1.out | exact N1.out.drewN _))
    | (exfalso; omega)
theorem opv_pt {c : Int} {v : Value} (f1 : isNum c = false) (f2 : isPt c = true) (f3 : isBlk c = false) : opv c v = .agg #[.int .i64 (pops c), .int .i64 (pushes c), .bool false, .bool true, .bool false, v] := by
  unfold opv; rw [f1, f2, f3]
set_option maxRecDepth 100000 in
set_option maxHeartbeats 1000000 in
theorem next_pt'lo (b pk po plen pcap i e nest h len cap : Nat) (A : Option Addr) (s c n m : Int) (w : World) (R : Ending → World → Prop)
    (hb : b < w.heap.size) (hk : pk < w.heap.size)
    (hp : w.cell? ⟨b, 0, none⟩ = some (.slice (some ⟨pk, po, none⟩) plen pcap)) (hi : i < plen) (hpl : plen ≤ 4611686018427387904)
    (k0 : w.cell? ⟨pk, po + i * 3, none⟩ = some (.int .i64 c)) (k1 : w.cell? ⟨pk, po + i * 3 + 1, none⟩ = some (.int .i64 n)) (k2 : w.cell? ⟨pk, po + i * 3 + 2, none⟩ = some (.int .i64 m))
    (hq : w.cell? ⟨b, 1, none⟩ = some (.slice A len cap)) (hh : w.cell? ⟨b, 11, none⟩ = some (.int .i64 h)) (hs : w.cell? ⟨b, 12, none⟩ = some (.int .i64 s))
    (hie : i < e) (he : e ≤ plen) (hn3 : nest ≤ 3) (hh8 : h ≤ 8)
    (f0 : ¬ bad c) (f1 : isNum c = false) (f2 : isPt c = true) (f3 : isBlk c = false) (f4 : (c == 15) = false) (fn : n < 0)
    (hE : ∀ x w', chk c n m (e - i) nest len h s = some x → Nw w w' → R (.panicked [{ v := .iface 36 (.int .i64 x), recovered := false }]) w')
    (hK : ∀ w' v, chk c n m (e - i) nest len h s = none → Nw w w' → DoOk w' w.heap.size b c v → R (.returned (opv c v)) w') :
    Calls Tryd.prog 37 #[.pointer (some ⟨b, 0, none⟩), .int .i64 i, .int .i64 e, .int .i64 nest] w R := by
  have HE := Lib.hid hE
  have HK := Lib.hid hK
  clear hE hK
  have F0 := Lib.hid f0
  have F4 := Lib.hid f4
  have q2 := pops_le c
  have q3 := pushes_le c
  have q0 : (0 : Int) ≤ (pops c : Int) := by omega
  have q1 : (0 : Int) ≤ (pushes c : Int) := by omega
  clear f0
  have i0 : (0 : Int) ≤ (i : Int) := by omega
  have i1 : (i : Int) < (plen : Int) := by omega
  have hfe : ∀ (fn : Fn) (f c : Array Value) (w : World), (binOp .eql 91 (.func fn f c) .nilFunc).run Tryd.prog w = .ok (.bool false) w := fun _ _ _ _ => by kernel_rfl
  have F1 := Lib.hid f1
  have F2 := Lib.hid f2
  have F3 := Lib.hid f3
  go_enter Tryd.func37, Tryd.ntmps37
  go_wp2_with (first | (go_at_call 51; refine of_ok _ _ _ _ (by simp only [World.size_alloc]; omega) F0.out ?_; intro w1 v c1 hdo; (have HD := Lib.hid hdo); (obtain ⟨G, fst, caps, rfl, -⟩ := hdo); rw [opv_pt f1 f2 f3]; (have hq1 := c1.cell (cell_alloc_old _ (cell_alloc_old _ hq)) (fun x => x)); (have hh1 := c1.cell (cell_alloc_old _ (cell_alloc_old _ hh)) (fun x => x)); (have hs1 := c1.cell (cell_alloc_old _ (cell_alloc_old _ hs)) (fun x => x)); (obtain ⟨zf, z0, z1, z2, z3, z4, z5⟩ := zop_facts (c1.heap (k := w.heap.size) (heap_alloc_old' _ (heap_alloc_eq _ rfl)) (fun x => x))); (have a0 : w1.cell? ⟨w.heap.size + 1, 0, none⟩ = some (.int .i64 c) := c1.cell (cell_alloc_new (by simp) rfl) (fun x => x)); (have a1 : w1.cell? ⟨w.heap.size + 1, 1, none⟩ = some (.int .i64 n) := c1.cell (cell_alloc_new (by simp) rfl) (fun x => x)); (have a2 : w1.cell? ⟨w.heap.size + 1, 2, none⟩ = some (.int .i64 m) := c1.cell (cell_alloc_new (by simp) rfl) (fun x => x)); (have l1 : b < w1.heap.size := (by have := c1.size; simp only [World.size_alloc] at this; omega)); (have l2 : w.heap.size < w1.heap.size := (by have := c1.size; simp only [World.size_alloc] at this; omega)); (have l3 : w.heap.size + 1 < w1.heap.size := (by have := c1.size; simp only [World.size_alloc] at this; omega)); (have N1 := Lib.hid (((((Ch.refl (fun _ => False) w).alloc _).alloc _).trans c1).alloc (.cells #[.int .i64 (pops c), .int .i64 (pushes c), .bool false, .bool true, .bool false, .func (.func G) fst caps] 93))); (have ND := Lib.hid ((Ch.refl (fun _ => False) w1).alloc (.cells #[.int .i64 (pops c), .int .i64 (pushes c), .bool false, .bool true, .bool false, .func (.func G) fst caps] 93)))))
  all_goals try (go_quiet (fail); try go_wp2)
  all_goals try (go_quiet (fail); try go_wp2)
  all_goals try (go_quiet (fail); try go_wp2)
  all_goals first
    | (refine ⟨rfl, HE.out 21 _ (chk_steps ?_) ?_⟩; omega; (first | exact N1.out | exact N1.out.drewN _))
    | (refine ⟨rfl, HE.out 5 _ (chk_m ?_ F0.out ?_ (beq_eq_false_iff_ne.1 F4.out)) ?_⟩; omega; omega; (first | exact N1.out | exact N1.out.drewN _))
    | (refine ⟨rfl, HE.out 20 _ (chk_few ?_ ⟨F0.out, .inl ?_, .inr (.inr (.inl F2.out)), fun h => absurd h (beq_eq_false_iff_ne.1 F4.out), fun h => by rw [F3.out] at h; cases h⟩ ?_) ?_⟩; omega; omega; (omega); (first | exact N1.out | exact N1.out.drewN _))
    | (refine ⟨rfl, HE.out 20 _ (chk_many ?_ ⟨F0.out, .inl ?_, .inr (.inr (.inl F2.out)), fun h => absurd h (beq_eq_false_iff_ne.1 F4.out), fun h => by rw [F3.out] at h; cases h⟩ ?_ ?_) ?_⟩; omega; omega; (omega); (omega); (first | exact N1.out | exact N1.out.drewN _))
    | (refine ⟨rfl, HE.out 22 _ (chk_pt ?_ ⟨F0.out, .inl ?_, .inr (.inr (.inl F2.out)), fun h => absurd h (beq_eq_false_iff_ne.1 F4.out), fun h => by rw [F3.out] at h; cases h⟩ ?_ ?_ F2.out ?_) ?_⟩; omega; omega; omega; omega; omega; (first | exact N1.out | exact N1.out.drewN _))
    | (exfalso; omega)
set_option maxRecDepth 100000 in
set_option maxHeartbeats 1000000 in
theorem next_pt'hi (b pk po plen pcap i e nest h len cap : Nat) (A : Option Addr) (s c n m : Int) (w : World) (R : Ending → World → Prop)
    (hb : b < w.heap.size) (hk : pk < w.heap.size)
    (hp : w.cell? ⟨b, 0, none⟩ = some (.slice (some ⟨pk, po, none⟩) plen pcap)) (hi : i < plen) (hpl : plen ≤ 4611686018427387904)
    (k0 : w.cell? ⟨pk, po + i * 3, none⟩ = some (.int .i64 c)) (k1 : w.cell? ⟨pk, po + i * 3 + 1, none⟩ = some (.int .i64 n)) (k2 : w.cell? ⟨pk, po + i * 3 + 2, none⟩ = some (.int .i64 m))
    (hq : w.cell? ⟨b, 1, none⟩ = some (.slice A len cap)) (hh : w.cell? ⟨b, 11, none⟩ = some (.int .i64 h)) (hs : w.cell? ⟨b, 12, none⟩ = some (.int .i64 s))
    (hie : i < e) (he : e ≤ plen) (hn3 : nest ≤ 3) (hh8 : h ≤ 8)
    (f0 : ¬ bad c) (f1 : isNum c = false) (f2 : isPt c = true) (f3 : isBlk c = false) (f4 : (c == 15) = false) (fn0 : 0 ≤ n) (fn : (len : Int) ≤ n)
    (hE : ∀ x w', chk c n m (e - i) nest len h s = some x → Nw w w' → R (.panicked [{ v := .iface 36 (.int .i64 x), recovered := false }]) w')
    (hK : ∀ w' v, chk c n m (e - i) nest len h s = none → Nw w w' → DoOk w' w.heap.size b c v → R (.returned (opv c v)) w') :
    Calls Tryd.prog 37 #[.pointer (some ⟨b, 0, none⟩), .int .i64 i, .int .i64 e, .int .i64 nest] w R := by
  have HE := Lib.hid hE
  have HK := Lib.hid hK
  clear hE hK
  have F0 := Lib.hid f0
  have F4 := Lib.hid f4
  have q2 := pops_le c
  have q3 := pushes_le c
  have q0 : (0 : Int) ≤ (pops c : Int) := by omega
  have q1 : (0 : Int) ≤ (pushes c : Int) := by omega
  clear f0
  have i0 : (0 : Int) ≤ (i : Int) := by omega
  have i1 : (i : Int) < (plen : Int) := by omega
  have hfe : ∀ (fn : Fn) (f c : Array Value) (w : World), (binOp .eql 91 (.func fn f c) .nilFunc).run Tryd.prog w = .ok (.bool false) w := fun _ _ _ _ => by kernel_rfl
  have F1 := Lib.hid f1
  have F2 := Lib.hid f2
  have F3 := Lib.hid f3
  go_enter Tryd.func37, Tryd.ntmps37
  go_wp2_with (first | (go_at_call 51; refine of_ok _ _ _ _ (by simp only [World.size_alloc]; omega) F0.out ?_; intro w1 v c1 hdo; (have HD := Lib.hid hdo); (obtain ⟨G, fst, caps, rfl, -⟩ := hdo); rw [opv_pt f1 f2 f3]; (have hq1 := c1.cell (cell_alloc_old _ (cell_alloc_old _ hq)) (fun x => x)); (have hh1 := c1.cell (cell_alloc_old _ (cell_alloc_old _ hh)) (fun x => x)); (have hs1 := c1.cell (cell_alloc_old _ (cell_alloc_old _ hs)) (fun x => x)); (obtain ⟨zf, z0, z1, z2, z3, z4, z5⟩ := zop_facts (c1.heap (k := w.heap.size) (heap_alloc_old' _ (heap_alloc_eq _ rfl)) (fun x => x))); (have a0 : w1.cell? ⟨w.heap.size + 1, 0, none⟩ = some (.int .i64 c) := c1.cell (cell_alloc_new (by simp) rfl) (fun x => x)); (have a1 : w1.cell? ⟨w.heap.size + 1, 1, none⟩ = some (.int .i64 n) := c1.cell (cell_alloc_new (by simp) rfl) (fun x => x)); (have a2 : w1.cell? ⟨w.heap.size + 1, 2, none⟩ = some (.int .i64 m) := c1.cell (cell_alloc_new (by simp) rfl) (fun x => x)); (have l1 : b < w1.heap.size := (by have := c1.size; simp only [World.size_alloc] at this; omega)); (have l2 : w.heap.size < w1.heap.size := (by have := c1.size; simp only [World.size_alloc] at this; omega)); (have l3 : w.heap.size + 1 < w1.heap.size := (by have := c1.size; simp only [World.size_alloc] at this; omega)); (have N1 := Lib.hid (((((Ch.refl (fun _ => False) w).alloc _).alloc _).trans c1).alloc (.cells #[.int .i64 (pops c), .int .i64 (pushes c), .bool false, .bool true, .bool false, .func (.func G) fst caps] 93))); (have ND := Lib.hid ((Ch.refl (fun _ => False) w1).alloc (.cells #[.int .i64 (pops c), .int .i64 (pushes c), .bool false, .bool true, .bool false, .func (.func G) fst caps] 93)))))
  all_goals try (go_quiet (fail); try go_wp2)
  all_goals try (go_quiet (fail); try go_wp2)
  all_goals try (go_quiet (fail); try go_wp2)
  all_goals first
    | (refine ⟨rfl, HE.out 21 _ (chk_steps ?_) ?_⟩; omega; (first | exact N1.out | exact N1.out.drewN _))
    | (refine ⟨rfl, HE.out 5 _ (chk_m ?_ F0.out ?_ (beq_eq_false_iff_ne.1 F4.out)) ?_⟩; omega; omega; (first | exact N1.out | exact N1.out.drewN _))
    | (refine ⟨rfl, HE.out 20 _ (chk_few ?_ ⟨F0.out, .inl ?_, .inr (.inr (.inl F2.out)), fun h => absurd h (beq_eq_false_iff_ne.1 F4.out), fun h => by rw [F3.out] at h; cases h⟩ ?_) ?_⟩; omega; omega; (omega); (first | exact N1.out | exact N1.out.drewN _))
    | (refine ⟨rfl, HE.out 20 _ (chk_many ?_ ⟨F0.out, .inl ?_, .inr (.inr (.inl F2.out)), fun h => absurd h (beq_eq_false_iff_ne.1 F4.out), fun h => by rw [F3.out] at h; cases h⟩ ?_ ?_) ?_⟩; omega; omega; (omega); (omega); (first | exact N1.out | exact N1.out.drewN _))
    | (refine ⟨rfl, HE.out 22 _ (chk_pt ?_ ⟨F0.out, .inl ?_, .inr (.inr (.inl F2.out)), fun h => absurd h (beq_eq_false_iff_ne.1 F4.out), fun h => by rw [F3.out] at h; cases h⟩ ?_ ?_ F2.out ?_) ?_⟩; omega; omega; omega; omega; omega; (first | exact N1.out | exact N1.out.drewN _))
    | (exfalso; omega)
set_option maxRecDepth 100000 in
set_option maxHeartbeats 1000000 in
theorem next_pt'in (b pk po plen pcap i e nest h len cap : Nat) (A : Option Addr) (s c n m : Int) (w : World) (R : Ending → World → Prop)
    (hb : b < w.heap.size) (hk : pk < w.heap.size)
    (hp : w.cell? ⟨b, 0, none⟩ = some (.slice (some ⟨pk, po, none⟩) plen pcap)) (hi : i < plen) (hpl : plen ≤ 4611686018427387904)
    (k0 : w.cell? ⟨pk, po + i * 3, none⟩ = some (.int .i64 c)) (k1 : w.cell? ⟨pk, po + i * 3 + 1, none⟩ = some (.int .i64 n)) (k2 : w.cell? ⟨pk, po + i * 3 + 2, none⟩ = some (.int .i64 m))
    (hq : w.cell? ⟨b, 1, none⟩ = some (.slice A len cap)) (hh : w.cell? ⟨b, 11, none⟩ = some (.int .i64 h)) (hs : w.cell? ⟨b, 12, none⟩ = some (.int .i64 s))
    (hie : i < e) (he : e ≤ plen) (hn3 : nest ≤ 3) (hh8 : h ≤ 8)
    (f0 : ¬ bad c) (f1 : isNum c = false) (f2 : isPt c = true) (f3 : isBlk c = false) (f4 : (c == 15) = false) (fn0 : 0 ≤ n) (fn : n < (len : Int))
    (hE : ∀ x w', chk c n m (e - i) nest len h s = some x → Nw w w' → R (.panicked [{ v := .iface 36 (.int .i64 x), recovered := false }]) w')
    (hK : ∀ w' v, chk c n m (e - i) nest len h s = none → Nw w w' → DoOk w' w.heap.size b c v → R (.returned (opv c v)) w') :
    Calls Tryd.prog 37 #[.pointer (some ⟨b, 0, none⟩), .int .i64 i, .int .i64 e, .int .i64 nest] w R := by
  have HE := Lib.hid hE
  have HK := Lib.hid hK
  clear hE hK
  have F0 := Lib.hid f0
  have F4 := Lib.hid f4
  have q2 := pops_le c
  have q3 := pushes_le c
  have q0 : (0 : Int) ≤ (pops c : Int) := by omega
  have q1 : (0 : Int) ≤ (pushes c : Int) := by omega
  clear f0
  have i0 : (0 : Int) ≤ (i : Int) := by omega
  have i1 : (i : Int) < (plen : Int) := by omega
  have hfe : ∀ (fn : Fn) (f c : Array Value) (w : World), (binOp .eql 91 (.func fn f c) .nilFunc).run Tryd.prog w = .ok (.bool false) w := fun _ _ _ _ => by kernel_rfl
  have F1 := Lib.hid f1
  have F2 := Lib.hid f2
  have F3 := Lib.hid f3
  go_enter Tryd.func37, Tryd.ntmps37
  go_wp2_with (first | (go_at_call 51; refine of_ok _ _ _ _ (by simp only [World.size_alloc]; omega) F0.out ?_; intro w1 v c1 hdo; (have HD := Lib.hid hdo); (obtain ⟨G, fst, caps, rfl, -⟩ := hdo); rw [opv_pt f1 f2 f3]; (have hq1 := c1.cell (cell_alloc_old _ (cell_alloc_old _ hq)) (fun x => x)); (have hh1 := c1.cell (cell_alloc_old _ (cell_alloc_old _ hh)) (fun x => x)); (have hs1 := c1.cell (cell_alloc_old _ (cell_alloc_old _ hs)) (fun x => x)); (obtain ⟨zf, z0, z1, z2, z3, z4, z5⟩ := zop_facts (c1.heap (k := w.heap.size) (heap_alloc_old' _ (heap_alloc_eq _ rfl)) (fun x => x))); (have a0 : w1.cell? ⟨w.heap.size + 1, 0, none⟩ = some (.int .i64 c) := c1.cell (cell_alloc_new (by simp) rfl) (fun x => x)); (have a1 : w1.cell? ⟨w.heap.size + 1, 1, none⟩ = some (.int .i64 n) := c1.cell (cell_alloc_new (by simp) rfl) (fun x => x)); (have a2 : w1.cell? ⟨w.heap.size + 1, 2, none⟩ = some (.int .i64 m) := c1.cell (cell_alloc_new (by simp) rfl) (fun x => x)); (have l1 : b < w1.heap.size := (by have := c1.size; simp only [World.size_alloc] at this; omega)); (have l2 : w.heap.size < w1.heap.size := (by have := c1.size; simp only [World.size_alloc] at this; omega)); (have l3 : w.heap.size + 1 < w1.heap.size := (by have := c1.size; simp only [World.size_alloc] at this; omega)); (have N1 := Lib.hid (((((Ch.refl (fun _ => False) w).alloc _).alloc _).trans c1).alloc (.cells #[.int .i64 (pops c), .int .i64 (pushes c), .bool false, .bool true, .bool false, .func (.func G) fst caps] 93))); (have ND := Lib.hid ((Ch.refl (fun _ => False) w1).alloc (.cells #[.int .i64 (pops c), .int .i64 (pushes c), .bool false, .bool true, .bool false, .func (.func G) fst caps] 93)))))
  all_goals try (go_quiet (fail); try go_wp2)
  all_goals try (go_quiet (fail); try go_wp2)
  all_goals try (go_quiet (fail); try go_wp2)
  all_goals first
    | (refine ⟨rfl, HE.out 21 _ (chk_steps ?_) ?_⟩; omega; (first | exact N1.out | exact N1.out.drewN _))
    | (refine ⟨rfl, HE.out 5 _ (chk_m ?_ F0.out ?_ (beq_eq_false_iff_ne.1 F4.out)) ?_⟩; omega; omega; (first | exact N1.out | exact N1.out.drewN _))
    | (refine ⟨rfl, HE.out 20 _ (chk_few ?_ ⟨F0.out, .inl ?_, .inr (.inr (.inl F2.out)), fun h => absurd h (beq_eq_false_iff_ne.1 F4.out), fun h => by rw [F3.out] at h; cases h⟩ ?_) ?_⟩; omega; omega; (omega); (first | exact N1.out | exact N1.out.drewN _))
    | (refine ⟨rfl, HE.out 20 _ (chk_many ?_ ⟨F0.out, .inl ?_, .inr (.inr (.inl F2.out)), fun h => absurd h (beq_eq_false_iff_ne.1 F4.out), fun h => by rw [F3.out] at h; cases h⟩ ?_ ?_) ?_⟩; omega; omega; (omega); (omega); (first | exact N1.out | exact N1.out.drewN _))
    | (have key : ∀ W, Nw w W → DoOk W w.heap.size b c (.func (.func G) fst caps) → R (.returned (.agg #[.int .i64 (pops c), .int .i64 (pushes c), .bool false, .bool true, .bool false, .func (.func G) fst caps])) W := by
         intro W hW hd
         rw [← opv_pt F1.out F2.out F3.out]
         refine HK.out W _ (chk_ok ?_ ⟨F0.out, .inl ?_, .inr (.inr (.inl F2.out)), fun h => absurd h (beq_eq_false_iff_ne.1 F4.out), fun h => by rw [F3.out] at h; cases h⟩ ?_ ?_ (fun _ => ?_)) hW hd
         omega; omega; (omega); (omega); omega; skip
       clear HK HE
       refine bodyPost_ret (v := .agg #[.int .i64 (pops c), .int .i64 (pushes c), .bool false, .bool true, .bool false, .func (.func G) fst caps]) (by simp [results, Tryd.results37, go_sem, l2, z0, z1, z2, z3, z4, z5]) rfl ?_
       refine key _ (ch_set6 ?_ (fun x => absurd x (by omega)) _ _ _ _ _ _) ((HD.out.later (ch_set6 ((ND.out.mono (fun _ _ x => x.elim)).drewN _) (fun _ => by simp only [World.size_alloc]; omega) _ _ _ _ _ _)).lo (by simp only [World.size_alloc]; omega))
       (first | exact N1.out | exact N1.out.drewN _))
    | (exfalso; omega)
theorem opv_if {v : Value} : opv 14 v = .agg #[.int .i64 1, .int .i64 0, .bool false, .bool false, .bool true, v] := rfl
set_option maxRecDepth 100000 in
set_option maxHeartbeats 1000000 in
theorem next_if (b pk po plen pcap i e nest h len cap : Nat) (A : Option Addr) (s n m : Int) (w : World) (R : Ending → World → Prop)
    (hb : b < w.heap.size) (hk : pk < w.heap.size)
    (hp : w.cell? ⟨b, 0, none⟩ = some (.slice (some ⟨pk, po, none⟩) plen pcap)) (hi : i < plen) (hpl : plen ≤ 4611686018427387904)
    (k0 : w.cell? ⟨pk, po + i * 3, none⟩ = some (.int .i64 14)) (k1 : w.cell? ⟨pk, po + i * 3 + 1, none⟩ = some (.int .i64 n)) (k2 : w.cell? ⟨pk, po + i * 3 + 2, none⟩ = some (.int .i64 m))
    (hq : w.cell? ⟨b, 1, none⟩ = some (.slice A len cap)) (hh : w.cell? ⟨b, 11, none⟩ = some (.int .i64 h)) (hs : w.cell? ⟨b, 12, none⟩ = some (.int .i64 s))
    (hie : i < e) (he : e ≤ plen) (hn3 : nest ≤ 3) (hh8 : h ≤ 8)
    
    (hE : ∀ x w', chk 14 n m (e - i) nest len h s = some x → Nw w w' → R (.panicked [{ v := .iface 36 (.int .i64 x), recovered := false }]) w')
    (hK : ∀ w' v, chk 14 n m (e - i) nest len h s = none → Nw w w' → DoOk w' w.heap.size b 14 v → R (.returned (opv 14 v)) w') :
    Calls Tryd.prog 37 #[.pointer (some ⟨b, 0, none⟩), .int .i64 i, .int .i64 e, .int .i64 nest] w R := by
  have HE := Lib.hid hE
  have HK := Lib.hid hK
  clear hE hK
  have i0 : (0 : Int) ≤ (i : Int) := by omega
  have i1 : (i : Int) < (plen : Int) := by omega
  have hfe : ∀ (fn : Fn) (f c : Array Value) (w : World), (binOp .eql 91 (.func fn f c) .nilFunc).run Tryd.prog w = .ok (.bool false) w := fun _ _ _ _ => by kernel_rfl
  go_enter Tryd.func37, Tryd.ntmps37
  go_wp2_with (first | (go_at_call 51; refine of_ok _ _ _ _ (by simp only [World.size_alloc]; omega) (by simp [bad]) ?_; intro w1 v c1 hdo; (have HD := Lib.hid hdo); (obtain ⟨G, fst, caps, rfl, -⟩ := hdo); rw [opv_if]; (have hq1 := c1.cell (cell_alloc_old _ (cell_alloc_old _ hq)) (fun x => x)); (have hh1 := c1.cell (cell_alloc_old _ (cell_alloc_old _ hh)) (fun x => x)); (have hs1 := c1.cell (cell_alloc_old _ (cell_alloc_old _ hs)) (fun x => x)); (obtain ⟨zf, z0, z1, z2, z3, z4, z5⟩ := zop_facts (c1.heap (k := w.heap.size) (heap_alloc_old' _ (heap_alloc_eq _ rfl)) (fun x => x))); (have a0 : w1.cell? ⟨w.heap.size + 1, 0, none⟩ = some (.int .i64 14) := c1.cell (cell_alloc_new (by simp) rfl) (fun x => x)); (have a1 : w1.cell? ⟨w.heap.size + 1, 1, none⟩ = some (.int .i64 n) := c1.cell (cell_alloc_new (by simp) rfl) (fun x => x)); (have a2 : w1.cell? ⟨w.heap.size + 1, 2, none⟩ = some (.int .i64 m) := c1.cell (cell_alloc_new (by simp) rfl) (fun x => x)); (have l1 : b < w1.heap.size := (by have := c1.size; simp only [World.size_alloc] at this; omega)); (have l2 : w.heap.size < w1.heap.size := (by have := c1.size; simp only [World.size_alloc] at this; omega)); (have l3 : w.heap.size + 1 < w1.heap.size := (by have := c1.size; simp only [World.size_alloc] at this; omega)); (have N1 := Lib.hid (((((Ch.refl (fun _ => False) w).alloc _).alloc _).trans c1).alloc (.cells #[.int .i64 1, .int .i64 0, .bool false, .bool false, .bool true, .func (.func G) fst caps] 93))); (have ND := Lib.hid ((Ch.refl (fun _ => False) w1).alloc (.cells #[.int .i64 1, .int .i64 0, .bool false, .bool false, .bool true, .func (.func G) fst caps] 93))); (have NF1 := Lib.hid (NF.mk (cell_alloc_old _ hq1) (cell_alloc_old _ hh1) (cell_alloc_old _ hs1) (fun o => (World.frozen?_alloc_old _ _ _ (by show w.heap.size ≠ w1.heap.size; omega)).trans (zf o)) (cell_alloc_old _ z0) (cell_alloc_old _ z1) (cell_alloc_old _ z2) (cell_alloc_old _ z3) (cell_alloc_old _ z4) (cell_alloc_old _ z5) (cell_alloc_old _ a0) (cell_alloc_old _ a1) (cell_alloc_old _ a2) (cell_alloc_new (b := w1.heap.size) (c := #[.int .i64 1, .int .i64 0, .bool false, .bool false, .bool true, .func (.func G) fst caps]) (t := 93) rfl rfl) (cell_alloc_new rfl rfl) (cell_alloc_new rfl rfl) (cell_alloc_new rfl rfl) (cell_alloc_new rfl rfl) (cell_alloc_new rfl rfl)))) | (go_at_call 39; refine length_any _ _ _ _ _ ?_; intro w2 c2; (have NF1 := Lib.hid (NF1.out.kept c2)); (have N1 := Lib.hid (N1.out.trans c2)); (have ND := Lib.hid (ND.out.trans c2)); (have ⟨hq1, hh1, hs1, zf, z0, z1, z2, z3, z4, z5, a0, a1, a2, p0, p1, p2, p3, p4, p5⟩ := NF1.out)))
  all_goals try (go_quiet (fail); try go_wp2)
  all_goals try (go_quiet (fail); try go_wp2)
  all_goals try (go_quiet (fail); try go_wp2)
  all_goals first
    | (refine ⟨rfl, HE.out 21 _ (chk_steps ?_) ?_⟩; omega; (first | exact N1.out | exact N1.out.drewN _))
    | (refine ⟨rfl, HE.out 5 _ (chk_m ?_ (by simp [bad]) ?_ (by omega)) ?_⟩; omega; omega; (first | exact N1.out | exact N1.out.drewN _))
    | (refine ⟨rfl, HE.out 5 _ (chk_len ?_ (by simp [bad]) (.inl ?_) rfl (fun h => absurd h (by omega)) ?_) ?_⟩; omega; omega; (simp only [blen_14] at *; omega); (first | exact N1.out | exact N1.out.drewN _))
    | (refine ⟨rfl, HE.out 20 _ (chk_nest ?_ (by simp [bad]) (.inl ?_) rfl (fun h => absurd h (by omega)) ?_ ?_) ?_⟩; omega; omega; (simp only [blen_14] at *; omega); omega; (first | exact N1.out | exact N1.out.drewN _))
    | (refine ⟨rfl, HE.out 20 _ (chk_few ?_ ⟨(by simp [bad]), .inl ?_, .inr (.inr (.inr rfl)), fun h => absurd h (by omega), fun _ => ⟨?_, ?_⟩⟩ ?_) ?_⟩; omega; omega; (simp only [blen_14] at *; omega); omega; (simp only [pops_14]; omega); (first | exact N1.out | exact N1.out.drewN _))
    | (refine ⟨rfl, HE.out 20 _ (chk_many ?_ ⟨(by simp [bad]), .inl ?_, .inr (.inr (.inr rfl)), fun h => absurd h (by omega), fun _ => ⟨?_, ?_⟩⟩ ?_ ?_) ?_⟩; omega; omega; (simp only [blen_14] at *; omega); omega; (simp only [pops_14]; omega); (simp only [pops_14, pushes_14]; omega); (first | exact N1.out | exact N1.out.drewN _))
    | (have key : ∀ W, Nw w W → DoOk W w.heap.size b 14 (.func (.func G) fst caps) → R (.returned (.agg #[.int .i64 1, .int .i64 0, .bool false, .bool false, .bool true, .func (.func G) fst caps])) W := by
         intro W hW hd
         rw [← opv_if]
         refine HK.out W _ (chk_ok ?_ ⟨(by simp [bad]), .inl ?_, .inr (.inr (.inr rfl)), fun h => absurd h (by omega), fun _ => ⟨?_, ?_⟩⟩ ?_ ?_ (fun h => by cases h)) hW hd
         omega; omega; (simp only [blen_14] at *; omega); omega; (simp only [pops_14]; omega); (simp only [pops_14, pushes_14]; omega); skip
       clear HK HE
       refine bodyPost_ret (v := .agg #[.int .i64 1, .int .i64 0, .bool false, .bool false, .bool true, .func (.func G) fst caps]) (by simp [results, Tryd.results37, go_sem, l2, z0, z1, z2, z3, z4, z5]) rfl ?_
       refine key _ (ch_set6 ?_ (fun x => absurd x (by omega)) _ _ _ _ _ _) ((HD.out.later (ch_set6 ((ND.out.mono (fun _ _ x => x.elim)).drewN _) (fun _ => by simp only [World.size_alloc]; omega) _ _ _ _ _ _)).lo (by simp only [World.size_alloc]; omega))
       (first | exact N1.out | exact N1.out.drewN _))
    | (exfalso; omega)
theorem opv_loop {v : Value} : opv 15 v = .agg #[.int .i64 0, .int .i64 0, .bool false, .bool false, .bool true, v] := rfl
set_option maxRecDepth 100000 in
set_option maxHeartbeats 1000000 in
theorem next_loop (b pk po plen pcap i e nest h len cap : Nat) (A : Option Addr) (s n m : Int) (w : World) (R : Ending → World → Prop)
    (hb : b < w.heap.size) (hk : pk < w.heap.size)
    (hp : w.cell? ⟨b, 0, none⟩ = some (.slice (some ⟨pk, po, none⟩) plen pcap)) (hi : i < plen) (hpl : plen ≤ 4611686018427387904)
    (k0 : w.cell? ⟨pk, po + i * 3, none⟩ = some (.int .i64 15)) (k1 : w.cell? ⟨pk, po + i * 3 + 1, none⟩ = some (.int .i64 n)) (k2 : w.cell? ⟨pk, po + i * 3 + 2, none⟩ = some (.int .i64 m))
    (hq : w.cell? ⟨b, 1, none⟩ = some (.slice A len cap)) (hh : w.cell? ⟨b, 11, none⟩ = some (.int .i64 h)) (hs : w.cell? ⟨b, 12, none⟩ = some (.int .i64 s))
    (hie : i < e) (he : e ≤ plen) (hn3 : nest ≤ 3) (hh8 : h ≤ 8)
    
    (hE : ∀ x w', chk 15 n m (e - i) nest len h s = some x → Nw w w' → R (.panicked [{ v := .iface 36 (.int .i64 x), recovered := false }]) w')
    (hK : ∀ w' v, chk 15 n m (e - i) nest len h s = none → Nw w w' → DoOk w' w.heap.size b 15 v → R (.returned (opv 15 v)) w') :
    Calls Tryd.prog 37 #[.pointer (some ⟨b, 0, none⟩), .int .i64 i, .int .i64 e, .int .i64 nest] w R := by
  have HE := Lib.hid hE
  have HK := Lib.hid hK
  clear hE hK
  have i0 : (0 : Int) ≤ (i : Int) := by omega
  have i1 : (i : Int) < (plen : Int) := by omega
  have hfe : ∀ (fn : Fn) (f c : Array Value) (w : World), (binOp .eql 91 (.func fn f c) .nilFunc).run Tryd.prog w = .ok (.bool false) w := fun _ _ _ _ => by kernel_rfl
  go_enter Tryd.func37, Tryd.ntmps37
  go_wp2_with (first | (go_at_call 51; refine of_ok _ _ _ _ (by simp only [World.size_alloc]; omega) (by simp [bad]) ?_; intro w1 v c1 hdo; (have HD := Lib.hid hdo); (obtain ⟨G, fst, caps, rfl, -⟩ := hdo); rw [opv_loop]; (have hq1 := c1.cell (cell_alloc_old _ (cell_alloc_old _ hq)) (fun x => x)); (have hh1 := c1.cell (cell_alloc_old _ (cell_alloc_old _ hh)) (fun x => x)); (have hs1 := c1.cell (cell_alloc_old _ (cell_alloc_old _ hs)) (fun x => x)); (obtain ⟨zf, z0, z1, z2, z3, z4, z5⟩ := zop_facts (c1.heap (k := w.heap.size) (heap_alloc_old' _ (heap_alloc_eq _ rfl)) (fun x => x))); (have a0 : w1.cell? ⟨w.heap.size + 1, 0, none⟩ = some (.int .i64 15) := c1.cell (cell_alloc_new (by simp) rfl) (fun x => x)); (have a1 : w1.cell? ⟨w.heap.size + 1, 1, none⟩ = some (.int .i64 n) := c1.cell (cell_alloc_new (by simp) rfl) (fun x => x)); (have a2 : w1.cell? ⟨w.heap.size + 1, 2, none⟩ = some (.int .i64 m) := c1.cell (cell_alloc_new (by simp) rfl) (fun x => x)); (have l1 : b < w1.heap.size := (by have := c1.size; simp only [World.size_alloc] at this; omega)); (have l2 : w.heap.size < w1.heap.size := (by have := c1.size; simp only [World.size_alloc] at this; omega)); (have l3 : w.heap.size + 1 < w1.heap.size := (by have := c1.size; simp only [World.size_alloc] at this; omega)); (have N1 := Lib.hid (((((Ch.refl (fun _ => False) w).alloc _).alloc _).trans c1).alloc (.cells #[.int .i64 0, .int .i64 0, .bool false, .bool false, .bool true, .func (.func G) fst caps] 93))); (have ND := Lib.hid ((Ch.refl (fun _ => False) w1).alloc (.cells #[.int .i64 0, .int .i64 0, .bool false, .bool false, .bool true, .func (.func G) fst caps] 93))); (have NF1 := Lib.hid (NF.mk (cell_alloc_old _ hq1) (cell_alloc_old _ hh1) (cell_alloc_old _ hs1) (fun o => (World.frozen?_alloc_old _ _ _ (by show w.heap.size ≠ w1.heap.size; omega)).trans (zf o)) (cell_alloc_old _ z0) (cell_alloc_old _ z1) (cell_alloc_old _ z2) (cell_alloc_old _ z3) (cell_alloc_old _ z4) (cell_alloc_old _ z5) (cell_alloc_old _ a0) (cell_alloc_old _ a1) (cell_alloc_old _ a2) (cell_alloc_new (b := w1.heap.size) (c := #[.int .i64 0, .int .i64 0, .bool false, .bool false, .bool true, .func (.func G) fst caps]) (t := 93) rfl rfl) (cell_alloc_new rfl rfl) (cell_alloc_new rfl rfl) (cell_alloc_new rfl rfl) (cell_alloc_new rfl rfl) (cell_alloc_new rfl rfl)))) | (go_at_call 39; refine length_any _ _ _ _ _ ?_; intro w2 c2; (have NF1 := Lib.hid (NF1.out.kept c2)); (have N1 := Lib.hid (N1.out.trans c2)); (have ND := Lib.hid (ND.out.trans c2)); (have ⟨hq1, hh1, hs1, zf, z0, z1, z2, z3, z4, z5, a0, a1, a2, p0, p1, p2, p3, p4, p5⟩ := NF1.out)))
  all_goals try (go_quiet (fail); try go_wp2)
  all_goals try (go_quiet (fail); try go_wp2)
  all_goals try (go_quiet (fail); try go_wp2)
  all_goals first
    | (refine ⟨rfl, HE.out 21 _ (chk_steps ?_) ?_⟩; omega; (first | exact N1.out | exact N1.out.drewN _))
    | (refine ⟨rfl, HE.out 5 _ (chk_loop ?_ rfl ?_) ?_⟩; omega; omega; (first | exact N1.out | exact N1.out.drewN _))
    | (refine ⟨rfl, HE.out 5 _ (chk_len ?_ (by simp [bad]) (.inr rfl) rfl (fun _ => ?_) ?_) ?_⟩; omega; omega; (simp only [blen_15] at *; omega); (first | exact N1.out | exact N1.out.drewN _))
    | (refine ⟨rfl, HE.out 20 _ (chk_nest ?_ (by simp [bad]) (.inr rfl) rfl (fun _ => ?_) ?_ ?_) ?_⟩; omega; omega; (simp only [blen_15] at *; omega); omega; (first | exact N1.out | exact N1.out.drewN _))
    | (refine ⟨rfl, HE.out 20 _ (chk_few ?_ ⟨(by simp [bad]), .inr rfl, .inr (.inr (.inr rfl)), fun _ => ?_, fun _ => ⟨?_, ?_⟩⟩ ?_) ?_⟩; omega; omega; (simp only [blen_15] at *; omega); omega; (simp only [pops_15]; omega); (first | exact N1.out | exact N1.out.drewN _))
    | (refine ⟨rfl, HE.out 20 _ (chk_many ?_ ⟨(by simp [bad]), .inr rfl, .inr (.inr (.inr rfl)), fun _ => ?_, fun _ => ⟨?_, ?_⟩⟩ ?_ ?_) ?_⟩; omega; omega; (simp only [blen_15] at *; omega); omega; (simp only [pops_15]; omega); (simp only [pops_15, pushes_15]; omega); (first | exact N1.out | exact N1.out.drewN _))
    | (have key : ∀ W, Nw w W → DoOk W w.heap.size b 15 (.func (.func G) fst caps) → R (.returned (.agg #[.int .i64 0, .int .i64 0, .bool false, .bool false, .bool true, .func (.func G) fst caps])) W := by
         intro W hW hd
         rw [← opv_loop]
         refine HK.out W _ (chk_ok ?_ ⟨(by simp [bad]), .inr rfl, .inr (.inr (.inr rfl)), fun _ => ?_, fun _ => ⟨?_, ?_⟩⟩ ?_ ?_ (fun h => by cases h)) hW hd
         omega; omega; (simp only [blen_15] at *; omega); omega; (simp only [pops_15]; omega); (simp only [pops_15, pushes_15]; omega); skip
       clear HK HE
       refine bodyPost_ret (v := .agg #[.int .i64 0, .int .i64 0, .bool false, .bool false, .bool true, .func (.func G) fst caps]) (by simp [results, Tryd.results37, go_sem, l2, z0, z1, z2, z3, z4, z5]) rfl ?_
       refine key _ (ch_set6 ?_ (fun x => absurd x (by omega)) _ _ _ _ _ _) ((HD.out.later (ch_set6 ((ND.out.mono (fun _ _ x => x.elim)).drewN _) (fun _ => by simp only [World.size_alloc]; omega) _ _ _ _ _ _)).lo (by simp only [World.size_alloc]; omega))
       (first | exact N1.out | exact N1.out.drewN _))
    | (exfalso; omega)

theorem next_bad (b pk po plen pcap i e nest : Nat) (s c n m : Int) (w : World) (R : Ending → World → Prop)
    (hb : b < w.heap.size) (hk : pk < w.heap.size)
    (hp : w.cell? ⟨b, 0, none⟩ = some (.slice (some ⟨pk, po, none⟩) plen pcap)) (hi : i < plen) (hpl : plen ≤ 4611686018427387904)
    (k0 : w.cell? ⟨pk, po + i * 3, none⟩ = some (.int .i64 c)) (k1 : w.cell? ⟨pk, po + i * 3 + 1, none⟩ = some (.int .i64 n)) (k2 : w.cell? ⟨pk, po + i * 3 + 2, none⟩ = some (.int .i64 m))
    (hs : w.cell? ⟨b, 12, none⟩ = some (.int .i64 s)) (f0 : bad c)
    (hE : ∀ w' x, (x = 21 ∧ 2000 ≤ s ∨ x = 5 ∧ s < 2000) → Nw w w' → R (.panicked [{ v := .iface 36 (.int .i64 x), recovered := false }]) w') :
    Calls Tryd.prog 37 #[.pointer (some ⟨b, 0, none⟩), .int .i64 i, .int .i64 e, .int .i64 nest] w R := by
  have HE := Lib.hid hE
  clear hE
  have F0 := Lib.hid f0
  clear f0
  have i0 : (0 : Int) ≤ (i : Int) := by omega
  have i1 : (i : Int) < (plen : Int) := by omega
  have hfe : ∀ (w : World), (binOp .eql 91 .nilFunc .nilFunc).run Tryd.prog w = .ok (.bool true) w := fun _ => by kernel_rfl
  go_enter Tryd.func37, Tryd.ntmps37
  go_wp2_with (go_at_call 51; refine of_no _ _ _ _ F0.out ?_; intro w1 c1; (have hs1 := c1.cell (cell_alloc_old _ (cell_alloc_old _ hs)) (fun x => x)); (have a0 : w1.cell? ⟨w.heap.size + 1, 0, none⟩ = some (.int .i64 c) := c1.cell (cell_alloc_new (by simp) rfl) (fun x => x)); (have l1 : b < w1.heap.size := (by have := c1.size; simp only [World.size_alloc] at this; omega)); (have l3 : w.heap.size + 1 < w1.heap.size := (by have := c1.size; simp only [World.size_alloc] at this; omega)); (have N1 := Lib.hid ((((Ch.refl (fun _ => False) w).alloc _).alloc _).trans c1)))
  all_goals first
    | (refine ⟨rfl, HE.out _ 21 (.inl ⟨rfl, ?_⟩) (N1.out.alloc _)⟩; omega)
    | (refine ⟨rfl, HE.out _ 5 (.inr ⟨rfl, ?_⟩) (N1.out.alloc _)⟩; omega)
end Go.Proofs.YtlgcijafjcfnhaaDoor
