/-
  The edits between two lists, in plain words: the least number of insertions, deletions and substitutions. Plain lemmas, of no program.
-/
namespace Go.Proofs.YtnibgjpbijlhbaaDoor
set_option linter.unusedVariables false

def dif (x y : UInt8) : Nat := if x = y then 0 else 1
theorem dif_le (x y : UInt8) : dif x y ≤ 1 := by unfold dif; split <;> omega
theorem dif_self (x : UInt8) : dif x x = 0 := if_pos rfl
theorem dif_comm (x y : UInt8) : dif x y = dif y x := by unfold dif; by_cases h : x = y <;> simp [h, eq_comm]
/-- The least number of edits. -/
def lev : List UInt8 → List UInt8 → Nat
  | [], b => b.length
  | a, [] => a.length
  | x :: a, y :: b => min (lev a b + dif x y) (min (lev a (y :: b) + 1) (lev (x :: a) b + 1))
termination_by a b => a.length + b.length
theorem lev_nil (b : List UInt8) : lev [] b = b.length := by unfold lev; rfl
theorem lev_nil' (a : List UInt8) : lev a [] = a.length := by cases a <;> unfold lev <;> rfl
theorem lev_cons (x y : UInt8) (a b : List UInt8) : lev (x :: a) (y :: b) = min (lev a b + dif x y) (min (lev a (y :: b) + 1) (lev (x :: a) b + 1)) := by rw [lev]

/-- A way from one list to another, with so many edits. -/
inductive Way : List UInt8 → List UInt8 → Nat → Prop
  | nil : Way [] [] 0
  | both {a b : List UInt8} {n : Nat} (x y : UInt8) : Way a b n → Way (x :: a) (y :: b) (n + dif x y)
  | del {a b : List UInt8} {n : Nat} (x : UInt8) : Way a b n → Way (x :: a) b (n + 1)
  | ins {a b : List UInt8} {n : Nat} (y : UInt8) : Way a b n → Way a (y :: b) (n + 1)
theorem Way.cast {a b : List UInt8} {n m : Nat} (h : Way a b n) (e : n = m) : Way a b m := e ▸ h
theorem way_ins : ∀ b : List UInt8, Way [] b b.length
  | [] => .nil
  | y :: b => .ins y (way_ins b)
theorem way_del : ∀ a : List UInt8, Way a [] a.length
  | [] => .nil
  | x :: a => .del x (way_del a)
theorem way_lev : ∀ a b : List UInt8, Way a b (lev a b)
  | [], b => by rw [lev_nil]; exact way_ins b
  | x :: a, [] => by rw [lev_nil']; exact way_del (x :: a)
  | x :: a, y :: b => by
    rw [lev_cons]
    have h1 := way_lev a b
    have h2 := way_lev a (y :: b)
    have h3 := way_lev (x :: a) b
    have hm : min (lev a b + dif x y) (min (lev a (y :: b) + 1) (lev (x :: a) b + 1)) = lev a b + dif x y ∨ min (lev a b + dif x y) (min (lev a (y :: b) + 1) (lev (x :: a) b + 1)) = lev a (y :: b) + 1 ∨ min (lev a b + dif x y) (min (lev a (y :: b) + 1) (lev (x :: a) b + 1)) = lev (x :: a) b + 1 := by omega
    rcases hm with e | e | e
    · rw [e]; exact .both x y h1
    · rw [e]; exact .del x h2
    · rw [e]; exact .ins y h3
termination_by a b => a.length + b.length
theorem lev_del (x : UInt8) (a b : List UInt8) : lev (x :: a) b ≤ lev a b + 1 := by
  cases b with
  | nil => rw [lev_nil', lev_nil']; simp
  | cons y b => rw [lev_cons]; omega
theorem lev_ins (y : UInt8) (a b : List UInt8) : lev a (y :: b) ≤ lev a b + 1 := by
  cases a with
  | nil => rw [lev_nil, lev_nil]; simp
  | cons x a => rw [lev_cons]; omega
theorem lev_le {a b : List UInt8} {n : Nat} (h : Way a b n) : lev a b ≤ n := by
  induction h with
  | nil => rw [lev_nil]; simp
  | both x y _ ih => rw [lev_cons]; omega
  | @del a b n x _ ih => have := lev_del x a b; omega
  | @ins a b n y _ ih => have := lev_ins y a b; omega

theorem Way.symm {a b : List UInt8} {n : Nat} (h : Way a b n) : Way b a n := by
  induction h with
  | nil => exact .nil
  | both x y _ ih => exact (Way.both y x ih).cast (by rw [dif_comm])
  | del x _ ih => exact .ins x ih
  | ins y _ ih => exact .del y ih
theorem lev_symm (a b : List UInt8) : lev a b = lev b a := Nat.le_antisymm (lev_le (way_lev b a).symm) (lev_le (way_lev a b).symm)
theorem dif_tri (x y z : UInt8) : dif x z ≤ dif x y + dif y z := by
  unfold dif
  by_cases h1 : x = y
  · subst h1; simp
  · rw [if_neg h1]; split <;> split <;> omega
theorem way_tri {a b : List UInt8} {n : Nat} (h : Way a b n) : ∀ {c : List UInt8} {m : Nat}, Way b c m → lev a c ≤ n + m := by
  induction h with
  | nil => intro c m h; exact Nat.le_trans (lev_le h) (by omega)
  | @both a b n x y h ih =>
    intro c m h2
    generalize hb : y :: b = b' at h2
    induction h2 generalizing y with
    | nil => cases hb
    | @both _ c' m' y' z h3 _ =>
      injection hb with e1 e2
      subst e1 e2
      have := ih h3
      have := dif_tri x y z
      rw [lev_cons]
      omega
    | @del _ c' m' y' h3 _ =>
      injection hb with e1 e2
      subst e1 e2
      have := ih h3
      have := lev_del x a c'
      omega
    | @ins b'' c' m' z h3 ih3 =>
      have h4 := ih3 y hb
      have := lev_ins z (x :: a) c'
      omega
  | @del a b n x h ih => intro c m h2; have := ih h2; have := lev_del x a c; omega
  | @ins a b n y h ih =>
    intro c m h2
    generalize hb : y :: b = b' at h2
    induction h2 generalizing y with
    | nil => cases hb
    | @both _ c' m' y' z h3 _ =>
      injection hb with e1 e2
      subst e1 e2
      have := ih h3
      have := lev_ins z a c'
      omega
    | @del _ c' m' y' h3 _ =>
      injection hb with e1 e2
      subst e1 e2
      have := ih h3
      omega
    | @ins b'' c' m' z h3 ih3 =>
      have h4 := ih3 y hb
      have := lev_ins z a c'
      omega
theorem lev_tri (a b c : List UInt8) : lev a c ≤ lev a b + lev b c := way_tri (way_lev a b) (way_lev b c)
theorem lev_self : ∀ a : List UInt8, lev a a = 0
  | [] => by rw [lev_nil]; rfl
  | x :: a => by have := lev_self a; rw [lev_cons, dif_self]; omega
theorem way_zero {a b : List UInt8} {n : Nat} (h : Way a b n) : n = 0 → a = b := by
  induction h with
  | nil => intro _; rfl
  | both x y _ ih =>
    intro e
    have hd : dif x y = 0 := by omega
    have hx : x = y := by unfold dif at hd; split at hd <;> simp_all
    rw [ih (by omega), hx]
  | del x _ ih => intro e; omega
  | ins y _ ih => intro e; omega
theorem lev_zero {a b : List UInt8} : lev a b = 0 ↔ a = b := ⟨fun h => way_zero (way_lev a b) h, fun h => h ▸ lev_self a⟩
theorem way_lens {a b : List UInt8} {n : Nat} (h : Way a b n) : a.length ≤ b.length + n ∧ b.length ≤ a.length + n := by
  induction h with
  | nil => simp
  | both x y _ ih => simp only [List.length_cons]; omega
  | del x _ ih => simp only [List.length_cons]; omega
  | ins y _ ih => simp only [List.length_cons]; omega
theorem lev_lens (a b : List UInt8) : a.length ≤ b.length + lev a b ∧ b.length ≤ a.length + lev a b := way_lens (way_lev a b)
theorem lev_max : ∀ a b : List UInt8, lev a b ≤ max a.length b.length
  | [], b => by rw [lev_nil]; simp
  | x :: a, [] => by rw [lev_nil']; simp
  | x :: a, y :: b => by
    have := lev_max a b
    have := dif_le x y
    rw [lev_cons]
    simp only [List.length_cons]
    omega
/-- Equal heads count nothing. -/
theorem lev_head (x : UInt8) (a b : List UInt8) : lev (x :: a) (x :: b) = lev a b := by
  have h1 : lev a b ≤ lev a (x :: b) + 1 := by
    have h := lev_tri a (x :: b) b
    have h2 := lev_del x b b
    rw [lev_self] at h2
    omega
  have h2 : lev a b ≤ lev (x :: a) b + 1 := by
    have h := lev_tri a (x :: a) b
    have h2 := lev_ins x a a
    rw [lev_self] at h2
    omega
  rw [lev_cons, dif_self]
  omega
theorem lev_front : ∀ r a b : List UInt8, lev (r ++ a) (r ++ b) = lev a b
  | [], _, _ => rfl
  | x :: r, a, b => by rw [List.cons_append, List.cons_append, lev_head, lev_front r a b]
theorem way_snoc_ins {a b : List UInt8} {n : Nat} (y : UInt8) (h : Way a b n) : Way a (b ++ [y]) (n + 1) := by
  induction h with
  | nil => exact .ins y .nil
  | both x z _ ih => exact (Way.both x z ih).cast (by omega)
  | del x _ ih => exact .del x ih
  | ins z _ ih => exact .ins z ih
theorem way_snoc_del {a b : List UInt8} {n : Nat} (x : UInt8) (h : Way a b n) : Way (a ++ [x]) b (n + 1) := (way_snoc_ins x h.symm).symm
theorem way_snoc {a b : List UInt8} {n : Nat} (x y : UInt8) (h : Way a b n) : Way (a ++ [x]) (b ++ [y]) (n + dif x y) := by
  induction h with
  | nil => exact .both x y .nil
  | both u v _ ih => exact (Way.both u v ih).cast (by omega)
  | del u _ ih => exact (Way.del u ih).cast (by omega)
  | ins v _ ih => exact (Way.ins v ih).cast (by omega)
theorem Way.reverse {a b : List UInt8} {n : Nat} (h : Way a b n) : Way a.reverse b.reverse n := by
  induction h with
  | nil => exact .nil
  | both x y _ ih => rw [List.reverse_cons, List.reverse_cons]; exact way_snoc x y ih
  | del x _ ih => rw [List.reverse_cons]; exact way_snoc_del x ih
  | ins y _ ih => rw [List.reverse_cons]; exact way_snoc_ins y ih
theorem lev_reverse (a b : List UInt8) : lev a.reverse b.reverse = lev a b := by
  apply Nat.le_antisymm
  · exact lev_le (way_lev a b).reverse
  · have := lev_le (way_lev a.reverse b.reverse).reverse
    rwa [List.reverse_reverse, List.reverse_reverse] at this
theorem lev_back (r a b : List UInt8) : lev (a ++ r) (b ++ r) = lev a b := by
  rw [← lev_reverse (a ++ r), List.reverse_append, List.reverse_append, lev_front, lev_reverse]

/-! ### Row by row -/
/-- The edits from the first i bytes to the first k. -/
def levAt (a b : List UInt8) (i k : Nat) : Nat := lev (a.take i) (b.take k)
theorem levAt_zero (a b : List UInt8) (k : Nat) : levAt a b 0 k = (b.take k).length := by unfold levAt; rw [List.take_zero, lev_nil]
theorem levAt_zero' (a b : List UInt8) (i : Nat) : levAt a b i 0 = (a.take i).length := by unfold levAt; rw [List.take_zero, lev_nil']
theorem levAt_step {a b : List UInt8} {i k : Nat} {x y : UInt8} (hi : a[i]? = some x) (hk : b[k]? = some y) :
    levAt a b (i + 1) (k + 1) = min (levAt a b i k + dif x y) (min (levAt a b i (k + 1) + 1) (levAt a b (i + 1) k + 1)) := by
  unfold levAt
  rw [← lev_reverse, ← lev_reverse (a.take i) (b.take k), ← lev_reverse (a.take i) (b.take (k + 1)), ← lev_reverse (a.take (i + 1)) (b.take k)]
  have e1 : (a.take (i + 1)).reverse = x :: (a.take i).reverse := by rw [List.take_add_one, hi]; simp
  have e2 : (b.take (k + 1)).reverse = y :: (b.take k).reverse := by rw [List.take_add_one, hk]; simp
  rw [e1, e2, lev_cons]
theorem levAt_all (a b : List UInt8) : levAt a b a.length b.length = lev a b := by unfold levAt; rw [List.take_length, List.take_length]
theorem lev_one_ins (u v : List UInt8) (c : UInt8) : lev (u ++ v) (u ++ ([c] ++ v)) ≤ 1 := by
  rw [lev_front]
  have := lev_ins c v v
  rw [lev_self] at this
  exact this
theorem lev_one_del (u v : List UInt8) (c : UInt8) : lev (u ++ ([c] ++ v)) (u ++ v) ≤ 1 := by rw [lev_symm]; exact lev_one_ins u v c
theorem lev_one_sub (u v : List UInt8) (c d : UInt8) : lev (u ++ ([c] ++ v)) (u ++ ([d] ++ v)) ≤ 1 := by
  rw [lev_front, lev_back]
  have := lev_max [c] [d]
  simpa using this
end Go.Proofs.YtnibgjpbijlhbaaDoor
