/-
  PLAIN: sequential tests: all lists of observations against the counts by points.
  Conditions: those that each theorem names.
-/
import Derived.Lib.Hide
import Derived.Test.YtpoddmkimhkmoaaGreatPh1
namespace Go.Pw
/-- all lists of n observations, the last one the slowest -/
def allL : Nat → List (List Bool)
  | 0 => [[]]
  | n + 1 => (allL n).map (fun l => l ++ [false]) ++ (allL n).map fun l => l ++ [true]
def fails (l : List Bool) : Nat := l.countP id
theorem fails_snoc (l : List Bool) (x : Bool) : fails (l ++ [x]) = fails l + x.toNat := by
  unfold fails
  rw [List.countP_append]
  cases x <;> simp
theorem allL_len : ∀ {n : Nat} {l : List Bool}, l ∈ allL n → l.length = n
  | 0, l, h => by
    simp [allL] at h
    subst h
    rfl
  | n + 1, l, h => by
    simp only [allL, List.mem_append, List.mem_map] at h
    rcases h with ⟨m, hm, rfl⟩ | ⟨m, hm, rfl⟩
    · simp [allL_len hm]
    · simp [allL_len hm]
theorem fails_le {n : Nat} {l : List Bool} (h : l ∈ allL n) : fails l ≤ n := by
  rw [← allL_len h]
  exact List.countP_le_length
/-- a sum over a list -/
def sumL {α : Type} (f : α → Nat) (l : List α) : Nat := (l.map f).sum
section
variable {α β : Type}
theorem sumL_nil (f : α → Nat) : sumL f [] = 0 := rfl
theorem sumL_cons (f : α → Nat) (a : α) (l : List α) : sumL f (a :: l) = f a + sumL f l := by simp [sumL]
theorem sumL_append (f : α → Nat) (l m : List α) : sumL f (l ++ m) = sumL f l + sumL f m := by simp [sumL]
theorem sumL_map (f : β → Nat) (g : α → β) (l : List α) : sumL f (l.map g) = sumL (fun a => f (g a)) l := by simp [sumL, Function.comp_def]
theorem sumL_congr {f g : α → Nat} {l : List α} (h : ∀ a ∈ l, f a = g a) : sumL f l = sumL g l := by
  induction l with
  | nil => rfl
  | cons a l ih => rw [sumL_cons, sumL_cons, h a (List.mem_cons_self ..), ih (fun b hb => h b (List.mem_cons_of_mem _ hb))]
theorem sumL_add (f g : α → Nat) (l : List α) : sumL (fun a => f a + g a) l = sumL f l + sumL g l := by
  induction l with
  | nil => rfl
  | cons a l ih => rw [sumL_cons, sumL_cons, sumL_cons, ih]; omega
theorem sumL_mul (c : Nat) (f : α → Nat) (l : List α) : sumL (fun a => c * f a) l = c * sumL f l := by
  induction l with
  | nil => rfl
  | cons a l ih => rw [sumL_cons, sumL_cons, ih, Nat.mul_add]
theorem sumL_zero {f : α → Nat} {l : List α} (h : ∀ a ∈ l, f a = 0) : sumL f l = 0 := by
  induction l with
  | nil => rfl
  | cons a l ih => rw [sumL_cons, h a (List.mem_cons_self ..), ih (fun b hb => h b (List.mem_cons_of_mem _ hb))]
theorem sumL_le {f g : α → Nat} {l : List α} (h : ∀ a ∈ l, f a ≤ g a) : sumL f l ≤ sumL g l := by
  induction l with
  | nil => exact Nat.le_refl _
  | cons a l ih =>
    rw [sumL_cons, sumL_cons]
    exact Nat.add_le_add (h a (List.mem_cons_self ..)) (ih (fun b hb => h b (List.mem_cons_of_mem _ hb)))
theorem sumL_swap (f : α → β → Nat) (l : List α) (m : List β) : sumL (fun a => sumL (fun b => f a b) m) l = sumL (fun b => sumL (fun a => f a b) l) m := by
  induction l with
  | nil => exact (sumL_zero (fun b _ => rfl)).symm
  | cons a l ih =>
    rw [sumL_cons, ih, ← sumL_add]
    exact sumL_congr (fun b _ => (sumL_cons (fun a => f a b) a l).symm)
/-- one of a range -/
theorem sumL_one (n k : Nat) (f : Nat → Nat) (hk : k < n) : sumL (fun i => if i = k then f i else 0) (List.range n) = f k := by
  induction n with
  | zero => omega
  | succ n ih =>
    rw [List.range_succ, sumL_append, sumL_cons, sumL_nil]
    by_cases h : k = n
    · subst h
      rw [sumL_zero (fun i hi => if_neg (by have := List.mem_range.1 hi; omega)), if_pos rfl]
      omega
    · rw [ih (by omega), if_neg (by omega)]
      omega
end
/-- the sum over lists, sorted by failures -/
theorem by_fails (n : Nat) (c : List Bool → Nat) (w : Nat → Nat) : sumL (fun f => sumL (fun l => if fails l = f then c l else 0) (allL n) * w f) (List.range (n + 1)) = sumL (fun l => c l * w (fails l)) (allL n) := by
  have e : ∀ f, sumL (fun l => if fails l = f then c l else 0) (allL n) * w f = sumL (fun l => if f = fails l then c l * w f else 0) (allL n) := fun f => by
    rw [Nat.mul_comm, ← sumL_mul]
    refine sumL_congr fun l _ => ?_
    by_cases h : fails l = f
    · rw [if_pos h, if_pos h.symm, Nat.mul_comm]
    · rw [if_neg h, if_neg (fun e => h e.symm), Nat.mul_zero]
  rw [sumL_congr (fun f _ => e f), sumL_swap]
  refine sumL_congr fun l hl => ?_
  exact sumL_one (n + 1) (fails l) (fun f => c l * w f) (by have := fails_le hl; omega)

/-! ### a test: the verdict V n f at n observations with f failures; 0: undecided -/
/-- the verdict of a list, and where it falls -/
def dec (V : Nat → Nat → Int) : Nat → Nat → List Bool → Int × Nat
  | n, _, [] => (0, n)
  | n, f, x :: l => if V (n + 1) (f + x.toNat) = 0 then dec V (n + 1) (f + x.toNat) l else (V (n + 1) (f + x.toNat), n + 1)
def decL (V : Nat → Nat → Int) (l : List Bool) : Int × Nat := dec V 0 0 l
theorem dec_snoc (V : Nat → Nat → Int) (x : Bool) : ∀ (l : List Bool) (n f : Nat), dec V n f (l ++ [x]) =
    if (dec V n f l).1 = 0 then (if V (n + l.length + 1) (f + fails l + x.toNat) = 0 then (0, n + l.length + 1) else (V (n + l.length + 1) (f + fails l + x.toNat), n + l.length + 1)) else dec V n f l
  | [], n, f => by
    show dec V n f [x] = if (0 : Int) = 0 then (if V (n + 0 + 1) (f + 0 + x.toNat) = 0 then (0, n + 0 + 1) else (V (n + 0 + 1) (f + 0 + x.toNat), n + 0 + 1)) else dec V n f []
    rw [if_pos rfl]; rfl
  | y :: l, n, f => by
    rw [List.cons_append, dec, dec]
    by_cases h : V (n + 1) (f + y.toNat) = 0
    · rw [if_pos h, if_pos h, dec_snoc V x l]
      have e1 : n + 1 + l.length = n + (y :: l).length := by simp; omega
      have e2 : f + y.toNat + fails l = f + fails (y :: l) := by
        unfold fails
        cases y <;> simp []; omega
      rw [e1, e2]
    · rw [if_neg h, if_neg h]
      simp only
      rw [if_neg h]
theorem decL_snoc (V : Nat → Nat → Int) (l : List Bool) (x : Bool) : decL V (l ++ [x]) =
    if (decL V l).1 = 0 then (if V (l.length + 1) (fails l + x.toNat) = 0 then (0, l.length + 1) else (V (l.length + 1) (fails l + x.toNat), l.length + 1)) else decL V l := by
  unfold decL
  rw [dec_snoc]
  simp
/-- the lists of n undecided observations with f failures -/
def U (V : Nat → Nat → Int) (n f : Nat) : Nat := sumL (fun l => if (decL V l).1 = 0 ∧ fails l = f then 1 else 0) (allL n)
/-- the lists that were undecided but for their last observation -/
def C (V : Nat → Nat → Int) (n f : Nat) : Nat := match n with
  | 0 => if f = 0 then 1 else 0
  | n + 1 => U V n f + (match f with | 0 => 0 | f + 1 => U V n f)
theorem U_zero (V : Nat → Nat → Int) (f : Nat) : U V 0 f = if f = 0 then 1 else 0 := by
  unfold U
  show (if (0 : Int) = 0 ∧ 0 = f then 1 else 0) + 0 = _
  by_cases h : f = 0
  · subst h; rfl
  · rw [if_neg (fun e => h e.2.symm), if_neg h]; rfl
theorem U_succ (V : Nat → Nat → Int) (n f : Nat) : U V (n + 1) f = if V (n + 1) f = 0 then C V (n + 1) f else 0 := by
  have key : ∀ x : Bool, sumL (fun l => if (decL V (l ++ [x])).1 = 0 ∧ fails (l ++ [x]) = f then 1 else 0) (allL n) = if V (n + 1) f = 0 then sumL (fun l => if (decL V l).1 = 0 ∧ fails l + x.toNat = f then 1 else 0) (allL n) else 0 := by
    intro x
    by_cases hv : V (n + 1) f = 0
    · rw [if_pos hv]
      refine sumL_congr fun l hl => ?_
      rw [decL_snoc, fails_snoc, allL_len hl]
      by_cases hd : (decL V l).1 = 0
      · rw [if_pos hd]
        by_cases hf : fails l + x.toNat = f
        · rw [hf, if_pos hv, if_pos ⟨rfl, rfl⟩, if_pos ⟨hd, rfl⟩]
        · rw [if_neg (fun e => hf e.2), if_neg (fun e => hf e.2)]
      · simp [hd]
    · rw [if_neg hv]
      refine sumL_zero fun l hl => ?_
      rw [decL_snoc, fails_snoc, allL_len hl]
      by_cases hd : (decL V l).1 = 0
      · rw [if_pos hd]
        by_cases hf : fails l + x.toNat = f
        · rw [hf, if_neg hv, if_neg (fun e => hv e.1)]
        · rw [if_neg (fun e => hf e.2)]
      · simp [hd]
  unfold U
  rw [allL, sumL_append, sumL_map, sumL_map, key false, key true]
  unfold C U
  by_cases hv : V (n + 1) f = 0
  · rw [if_pos hv, if_pos hv, if_pos hv]
    congr 1
    cases f with
    | zero => exact sumL_zero fun l _ => if_neg (fun e => by have := e.2; simp at this)
    | succ f => exact sumL_congr fun l _ => by simp
  · rw [if_neg hv, if_neg hv, if_neg hv]
/-- the program's rows: what is added to a row out of the row before -/
theorem C_succ (V : Nat → Nat → Int) (n f : Nat) : C V (n + 2) f = (if V (n + 1) f = 0 then C V (n + 1) f else 0) + (match f with | 0 => 0 | f + 1 => if V (n + 1) f = 0 then C V (n + 1) f else 0) := by
  show U V (n + 1) f + _ = _
  rw [U_succ]
  cases f with
  | zero => rfl
  | succ f => simp only; rw [U_succ]
theorem C_one (V : Nat → Nat → Int) (f : Nat) : C V 1 f = C V 0 f + (match f with | 0 => 0 | f + 1 => C V 0 f) := by
  show U V 0 f + _ = _
  rw [U_zero]
  cases f with
  | zero => rfl
  | succ f => simp only; rw [U_zero]; rfl
theorem C_big (V : Nat → Nat → Int) (n f : Nat) (h : n < f) : C V n f = 0 := by
  have hU : ∀ n f, n < f → U V n f = 0 := fun n f h => sumL_zero fun l hl => if_neg (fun e => by have := fails_le hl; omega)
  cases n with
  | zero => exact if_neg (by omega)
  | succ n =>
    show U V n f + _ = 0
    rw [hU n f (by omega)]
    cases f with
    | zero => rfl
    | succ f => simp only; rw [hU n f (by omega)]

/-! ### weights -/
def wt (a b : Nat) (l : List Bool) : Nat := a ^ fails l * b ^ (l.length - fails l)
theorem fails_len (l : List Bool) : fails l ≤ l.length := List.countP_le_length
theorem wt_snoc (a b : Nat) (l : List Bool) (x : Bool) : wt a b (l ++ [x]) = wt a b l * (if x = true then a else b) := by
  unfold wt
  have := fails_len l
  rw [fails_snoc, List.length_append]
  cases x with
  | false =>
    show a ^ (fails l + 0) * b ^ (l.length + 1 - (fails l + 0)) = _
    rw [show l.length + 1 - (fails l + 0) = (l.length - fails l) + 1 by omega, Nat.pow_succ, Nat.add_zero, if_neg (by decide)]
    rw [Nat.mul_assoc]
  | true =>
    show a ^ (fails l + 1) * b ^ (l.length + 1 - (fails l + 1)) = _
    rw [show l.length + 1 - (fails l + 1) = l.length - fails l by omega, Nat.pow_succ, if_pos rfl]
    rw [Nat.mul_assoc, Nat.mul_comm a, ← Nat.mul_assoc]
theorem wt_all (a b : Nat) : ∀ n, sumL (wt a b) (allL n) = (a + b) ^ n
  | 0 => by simp [allL, sumL, wt, fails]
  | n + 1 => by
    rw [allL, sumL_append, sumL_map, sumL_map]
    simp only [wt_snoc]
    rw [if_neg (by decide), if_pos trivial]
    rw [sumL_congr (fun l _ => Nat.mul_comm (wt a b l) b), sumL_congr (g := fun l => a * wt a b l) (fun l _ => Nat.mul_comm (wt a b l) a), sumL_mul, sumL_mul, wt_all a b n, Nat.pow_succ]
    rw [Nat.mul_add, Nat.mul_comm b, Nat.mul_comm a]
    omega
/-- the sum over the points of a row -/
def rowS (V : Nat → Nat → Int) (a b n : Nat) (k : Int → Nat → Nat) : Nat := sumL (fun f => if V n f = 0 then 0 else C V n f * (a ^ f * b ^ (n - f)) * k (V n f) n) (List.range (n + 1))
/-- the sum over all lists of a factor of the verdict and its place -/
def allS (V : Nat → Nat → Int) (a b n : Nat) (k : Int → Nat → Nat) : Nat := sumL (fun l => if (decL V l).1 = 0 then 0 else wt a b l * k (decL V l).1 (decL V l).2) (allL n)
theorem allS_zero (V : Nat → Nat → Int) (a b : Nat) (k : Int → Nat → Nat) : allS V a b 0 k = 0 := rfl
theorem allS_succ (V : Nat → Nat → Int) (a b n : Nat) (k : Int → Nat → Nat) : allS V a b (n + 1) k = (a + b) * allS V a b n k + rowS V a b (n + 1) k := by
  -- each list with one more observation
  have key : ∀ x : Bool, sumL (fun l => if (decL V (l ++ [x])).1 = 0 then 0 else wt a b (l ++ [x]) * k (decL V (l ++ [x])).1 (decL V (l ++ [x])).2) (allL n) =
      (if x = true then a else b) * allS V a b n k + sumL (fun l => if (decL V l).1 = 0 then (if V (n + 1) (fails l + x.toNat) = 0 then 0 else wt a b (l ++ [x]) * k (V (n + 1) (fails l + x.toNat)) (n + 1)) else 0) (allL n) := by
    intro x
    unfold allS
    rw [← sumL_mul, ← sumL_add]
    refine sumL_congr fun l hl => ?_
    rw [decL_snoc, allL_len hl]
    by_cases hd : (decL V l).1 = 0
    · rw [if_pos hd, if_pos hd, if_pos hd]
      by_cases hv : V (n + 1) (fails l + x.toNat) = 0
      · simp [hv]
      · simp [hv]
    · rw [if_neg hd, if_neg hd, if_neg hd, if_neg hd, wt_snoc, Nat.add_zero]
      rw [Nat.mul_comm (wt a b l), Nat.mul_assoc]
  -- the row, by failures
  have row : ∀ x : Bool, sumL (fun l => if (decL V l).1 = 0 then (if V (n + 1) (fails l + x.toNat) = 0 then 0 else wt a b (l ++ [x]) * k (V (n + 1) (fails l + x.toNat)) (n + 1)) else 0) (allL n) =
      sumL (fun f => U V n f * (if V (n + 1) (f + x.toNat) = 0 then 0 else a ^ (f + x.toNat) * b ^ (n + 1 - (f + x.toNat)) * k (V (n + 1) (f + x.toNat)) (n + 1))) (List.range (n + 1)) := by
    intro x
    have e := by_fails n (fun l => if (decL V l).1 = 0 then 1 else 0) (fun f => if V (n + 1) (f + x.toNat) = 0 then 0 else a ^ (f + x.toNat) * b ^ (n + 1 - (f + x.toNat)) * k (V (n + 1) (f + x.toNat)) (n + 1))
    have eU : ∀ f, sumL (fun l => if fails l = f then (if (decL V l).1 = 0 then 1 else 0) else 0) (allL n) = U V n f := fun f => sumL_congr fun l _ => by
      by_cases h1 : fails l = f
      · by_cases h2 : (decL V l).1 = 0
        · rw [if_pos h1, if_pos h2, if_pos ⟨h2, h1⟩]
        · rw [if_pos h1, if_neg h2, if_neg (fun e => h2 e.1)]
      · rw [if_neg h1, if_neg (fun e => h1 e.2)]
    simp only [eU] at e
    rw [e]
    refine sumL_congr fun l hl => ?_
    by_cases hd : (decL V l).1 = 0
    · rw [if_pos hd, if_pos hd, Nat.one_mul]
      by_cases hv : V (n + 1) (fails l + x.toNat) = 0
      · rw [if_pos hv, if_pos hv]
      · rw [if_neg hv, if_neg hv]
        have : wt a b (l ++ [x]) = a ^ (fails l + x.toNat) * b ^ (n + 1 - (fails l + x.toNat)) := by
          unfold wt
          rw [fails_snoc, List.length_append, allL_len hl]; rfl
        rw [this]
    · rw [if_neg hd, if_neg hd, Nat.zero_mul]
  have shift : ∀ (h : Nat → Nat), sumL (fun f => U V n f * h (f + 1)) (List.range (n + 1)) = sumL (fun f => (match f with | 0 => 0 | f + 1 => U V n f) * h f) (List.range (n + 2)) := by
    intro h
    rw [show List.range (n + 2) = 0 :: (List.range (n + 1)).map Nat.succ from List.range_succ_eq_map, sumL_cons, sumL_map, Nat.zero_mul, Nat.zero_add]
  have ext : ∀ (h : Nat → Nat), sumL (fun f => U V n f * h f) (List.range (n + 1)) = sumL (fun f => U V n f * h f) (List.range (n + 2)) := by
    intro h
    rw [List.range_succ (n := n + 1), sumL_append, sumL_cons, sumL_nil]
    have : U V n (n + 1) = 0 := sumL_zero fun l hl => if_neg (fun e => by have := fails_le hl; omega)
    rw [this]
    omega
  have r0 := row false
  have r1 := row true
  simp only [Bool.toNat_false, Bool.toNat_true, Nat.add_zero] at r0 r1
  have k0 := key false
  have k1 := key true
  simp only [Bool.toNat_false, Bool.toNat_true, Nat.add_zero] at k0 k1
  rw [r0, if_neg (by decide), ext (fun f => if V (n + 1) f = 0 then 0 else a ^ f * b ^ (n + 1 - f) * k (V (n + 1) f) (n + 1))] at k0
  rw [r1, if_pos trivial, shift (fun f => if V (n + 1) f = 0 then 0 else a ^ f * b ^ (n + 1 - f) * k (V (n + 1) f) (n + 1))] at k1
  have top : allS V a b (n + 1) k = sumL (fun l => if (decL V (l ++ [false])).1 = 0 then 0 else wt a b (l ++ [false]) * k (decL V (l ++ [false])).1 (decL V (l ++ [false])).2) (allL n) + sumL (fun l => if (decL V (l ++ [true])).1 = 0 then 0 else wt a b (l ++ [true]) * k (decL V (l ++ [true])).1 (decL V (l ++ [true])).2) (allL n) := by
    unfold allS
    rw [allL, sumL_append, sumL_map, sumL_map]
  rw [top, k0, k1]
  have fin : rowS V a b (n + 1) k = sumL (fun f => U V n f * (if V (n + 1) f = 0 then 0 else a ^ f * b ^ (n + 1 - f) * k (V (n + 1) f) (n + 1))) (List.range (n + 2)) + sumL (fun f => (match f with | 0 => 0 | f + 1 => U V n f) * (if V (n + 1) f = 0 then 0 else a ^ f * b ^ (n + 1 - f) * k (V (n + 1) f) (n + 1))) (List.range (n + 2)) := by
    unfold rowS
    rw [← sumL_add]
    refine sumL_congr fun f _ => ?_
    by_cases hv : V (n + 1) f = 0
    · rw [if_pos hv, if_pos hv]; rfl
    · rw [if_neg hv, if_neg hv, ← Nat.add_mul, Nat.mul_assoc]; rfl
  rw [fin, Nat.add_mul]
  omega
end Go.Pw
namespace Go.Pw
theorem allS_sum (V : Nat → Nat → Int) (a b : Nat) (k : Int → Nat → Nat) : ∀ N, allS V a b N k = sumL (fun n => (a + b) ^ (N - (n + 1)) * rowS V a b (n + 1) k) (List.range N)
  | 0 => rfl
  | N + 1 => by
    rw [allS_succ, allS_sum V a b k N, List.range_succ, sumL_append, sumL_cons, sumL_nil, ← sumL_mul]
    have e : sumL (fun n => (a + b) * ((a + b) ^ (N - (n + 1)) * rowS V a b (n + 1) k)) (List.range N) = sumL (fun n => (a + b) ^ (N + 1 - (n + 1)) * rowS V a b (n + 1) k) (List.range N) :=
      sumL_congr fun n hn => by
        have := List.mem_range.1 hn
        rw [show N + 1 - (n + 1) = (N - (n + 1)) + 1 by omega, Nat.pow_succ, ← Nat.mul_assoc, Nat.mul_comm (a + b)]
    rw [e, Nat.sub_self, Nat.pow_zero, Nat.one_mul]; rfl
theorem snoc_of {n : Nat} {l : List Bool} (h : l ∈ allL (n + 1)) : ∃ m x, m ∈ allL n ∧ l = m ++ [x] := by
  simp only [allL, List.mem_append, List.mem_map] at h
  rcases h with ⟨m, hm, rfl⟩ | ⟨m, hm, rfl⟩
  · exact ⟨m, false, hm, rfl⟩
  · exact ⟨m, true, hm, rfl⟩
theorem dec_place (V : Nat → Nat → Int) : ∀ {n : Nat} {l : List Bool}, l ∈ allL n → (decL V l).1 ≠ 0 → 1 ≤ (decL V l).2 ∧ (decL V l).2 ≤ n
  | 0, l, h, hd => by
    simp [allL] at h
    subst h
    exact absurd rfl hd
  | n + 1, l, h, hd => by
    obtain ⟨m, x, hm, rfl⟩ := snoc_of h
    rw [decL_snoc, allL_len hm] at hd ⊢
    by_cases h0 : (decL V m).1 = 0
    · rw [if_pos h0] at hd ⊢
      by_cases hv : V (n + 1) (fails m + x.toNat) = 0
      · rw [if_pos hv] at hd; exact absurd rfl hd
      · rw [if_neg hv]; exact ⟨by simp, by simp⟩
    · rw [if_neg h0]
      have := dec_place V hm h0
      omega
theorem all_decided {V : Nat → Nat → Int} {N : Nat} (hN : 0 < N) (h : ∀ f, f ≤ N → V N f ≠ 0) : ∀ l ∈ allL N, (decL V l).1 ≠ 0 := by
  intro l hl
  obtain ⟨n, rfl⟩ : ∃ n, N = n + 1 := ⟨N - 1, by omega⟩
  have hf := fails_le hl
  obtain ⟨m, x, hm, rfl⟩ := snoc_of hl
  rw [decL_snoc, allL_len hm]
  rw [fails_snoc] at hf
  by_cases h0 : (decL V m).1 = 0
  · rw [if_pos h0, if_neg (h _ hf)]; exact h _ hf
  · rw [if_neg h0]; exact h0
theorem allS_one {V : Nat → Nat → Int} {N : Nat} (a b : Nat) (h : ∀ l ∈ allL N, (decL V l).1 ≠ 0) : allS V a b N (fun _ _ => 1) = (a + b) ^ N := by
  rw [← wt_all]
  exact sumL_congr fun l hl => by rw [if_neg (h l hl), Nat.mul_one]
theorem allS_add (V : Nat → Nat → Int) (a b N : Nat) (k m : Int → Nat → Nat) : allS V a b N (fun v n => k v n + m v n) = allS V a b N k + allS V a b N m := by
  unfold allS
  rw [← sumL_add]
  refine sumL_congr fun l _ => ?_
  by_cases h : (decL V l).1 = 0
  · rw [if_pos h, if_pos h, if_pos h]
  · rw [if_neg h, if_neg h, if_neg h, Nat.mul_add]
theorem allS_congr {V : Nat → Nat → Int} {a b N : Nat} {k m : Int → Nat → Nat} (h : ∀ l ∈ allL N, (decL V l).1 ≠ 0 → k (decL V l).1 (decL V l).2 = m (decL V l).1 (decL V l).2) : allS V a b N k = allS V a b N m :=
  sumL_congr fun l hl => by
    by_cases h0 : (decL V l).1 = 0
    · rw [if_pos h0, if_pos h0]
    · rw [if_neg h0, if_neg h0, h l hl h0]
theorem allS_bounds {V : Nat → Nat → Int} {N : Nat} (a b : Nat) (h : ∀ l ∈ allL N, (decL V l).1 ≠ 0) : (a + b) ^ N ≤ allS V a b N (fun _ n => n) ∧ allS V a b N (fun _ n => n) ≤ N * (a + b) ^ N := by
  constructor
  · rw [← wt_all]
    refine sumL_le fun l hl => ?_
    rw [if_neg (h l hl)]
    exact Nat.le_mul_of_pos_right _ (dec_place V hl (h l hl)).1
  · rw [← wt_all, ← sumL_mul]
    refine sumL_le fun l hl => ?_
    rw [if_neg (h l hl), Nat.mul_comm N]
    exact Nat.mul_le_mul_left _ (dec_place V hl (h l hl)).2
/-- the reference: factors by failures -/
def fac (V : Nat → Nat → Int) (N : Nat) (k : Int → Nat → Nat) (f : Nat) : Nat := sumL (fun l => if fails l = f then (if (decL V l).1 = 0 then 0 else k (decL V l).1 (decL V l).2) else 0) (allL N)
theorem fac_sum (V : Nat → Nat → Int) (a b N : Nat) (k : Int → Nat → Nat) : sumL (fun f => fac V N k f * (a ^ f * b ^ (N - f))) (List.range (N + 1)) = allS V a b N k := by
  unfold fac
  rw [by_fails N (fun l => if (decL V l).1 = 0 then 0 else k (decL V l).1 (decL V l).2) (fun f => a ^ f * b ^ (N - f))]
  refine sumL_congr fun l hl => ?_
  by_cases h0 : (decL V l).1 = 0
  · rw [if_pos h0, if_pos h0, Nat.zero_mul]
  · rw [if_neg h0, if_neg h0, Nat.mul_comm]
    unfold wt
    rw [allL_len hl]
/-- a test that decides at its end alone: the counts are the binomials -/
def bin : Nat → Nat → Nat
  | _, 0 => 1
  | 0, _ + 1 => 0
  | n + 1, f + 1 => bin n f + bin n (f + 1)
theorem bin_big : ∀ (n f : Nat), n < f → bin n f = 0
  | 0, f + 1, _ => rfl
  | n + 1, f + 1, h => by
    show bin n f + bin n (f + 1) = 0
    rw [bin_big n f (by omega), bin_big n (f + 1) (by omega)]
theorem bin_mul : ∀ (n f : Nat), bin n (f + 1) * (f + 1) = bin n f * (n - f)
  | 0, f => by
    show 0 * (f + 1) = _
    rw [Nat.zero_sub, Nat.mul_zero, Nat.zero_mul]
  | n + 1, 0 => by
    have h : bin n 1 * 1 = bin n 0 * (n - 0) := bin_mul n 0
    have e0 : ∀ n, bin n 0 = 1 := fun n => by cases n <;> rfl
    show (bin n 0 + bin n 1) * 1 = bin (n + 1) 0 * (n + 1 - 0)
    rw [e0] at h ⊢
    rw [e0]
    omega
  | n + 1, f + 1 => by
    show (bin n (f + 1) + bin n (f + 2)) * (f + 2) = (bin n f + bin n (f + 1)) * (n + 1 - (f + 1))
    have h1 := bin_mul n f
    have h2 := bin_mul n (f + 1)
    rcases Nat.lt_or_ge n (f + 1) with c | c
    · rw [bin_big n (f + 2) (by omega), bin_big n (f + 1) c]
      have : n + 1 - (f + 1) = n - f := by omega
      rw [this, Nat.add_zero, Nat.zero_mul, Nat.add_zero, ← h1, bin_big n (f + 1) c, Nat.zero_mul]
    · obtain ⟨m, rfl⟩ : ∃ m, n = f + 1 + m := ⟨n - (f + 1), by omega⟩
      have e1 : f + 1 + m - f = m + 1 := by omega
      have e2 : f + 1 + m - (f + 1) = m := by omega
      have e3 : f + 1 + m + 1 - (f + 1) = m + 1 := by omega
      rw [e1] at h1
      rw [e2] at h2
      rw [e3]
      have h2' : bin (f + 1 + m) (f + 2) * (f + 2) = bin (f + 1 + m) (f + 1) * m := h2
      rw [Nat.add_mul, h2', Nat.add_mul, ← h1]
      rw [Nat.mul_add (bin (f + 1 + m) (f + 1)) m 1, Nat.mul_one]
      rw [show f + 2 = (f + 1) + 1 from rfl, Nat.mul_add, Nat.mul_one]
      omega
theorem U_open {V : Nat → Nat → Int} : ∀ (n : Nat), (∀ m, 1 ≤ m → m ≤ n → ∀ f, f ≤ m → V m f = 0) → ∀ f, U V n f = bin n f
  | 0, _, f => by
    rw [U_zero]
    cases f with
    | zero => rfl
    | succ f => rfl
  | n + 1, h, f => by
    have ih := U_open n (fun m h1 h2 => h m h1 (by omega))
    rcases Nat.lt_or_ge (n + 1) f with c | c
    · rw [bin_big _ _ c]
      exact sumL_zero fun l hl => if_neg (fun e => by have := fails_le hl; omega)
    · rw [U_succ, if_pos (h (n + 1) (by omega) (Nat.le_refl _) f c)]
      show U V n f + _ = _
      rw [ih f]
      cases f with
      | zero =>
        have e0 : ∀ n, bin n 0 = 1 := fun n => by cases n <;> rfl
        rw [e0, e0]; rfl
      | succ f =>
        show bin n (f + 1) + U V n f = bin n f + bin n (f + 1)
        rw [ih f]; omega
theorem C_open {V : Nat → Nat → Int} (n : Nat) (h : ∀ m, 1 ≤ m → m ≤ n → ∀ f, f ≤ m → V m f = 0) (f : Nat) : C V (n + 1) f = bin (n + 1) f := by
  show U V n f + _ = _
  rw [U_open n h f]
  cases f with
  | zero =>
    have e0 : ∀ n, bin n 0 = 1 := fun n => by cases n <;> rfl
    rw [e0, e0]; rfl
  | succ f =>
    show bin n (f + 1) + U V n f = bin n f + bin n (f + 1)
    rw [U_open n h f]; omega
theorem rowS_none {V : Nat → Nat → Int} {a b n : Nat} {k : Int → Nat → Nat} (h : ∀ f, f ≤ n → V n f = 0) : rowS V a b n k = 0 :=
  sumL_zero fun f hf => if_pos (h f (by have := List.mem_range.1 hf; omega))
/-- of a test that decides at its end, one row counts -/
theorem allS_end {V : Nat → Nat → Int} {a b : Nat} {k : Int → Nat → Nat} : ∀ (N : Nat), (∀ m, 1 ≤ m → m ≤ N → ∀ f, f ≤ m → V m f = 0) → allS V a b (N + 1) k = rowS V a b (N + 1) k := by
  have z : ∀ (N : Nat), (∀ m, 1 ≤ m → m ≤ N → ∀ f, f ≤ m → V m f = 0) → allS V a b N k = 0 := by
    intro N
    induction N with
    | zero => intro _; rfl
    | succ N ih =>
      intro h
      rw [allS_succ, ih (fun m h1 h2 => h m h1 (by omega)), rowS_none (h (N + 1) (by omega) (Nat.le_refl _)), Nat.mul_zero]
  intro N h
  rw [allS_succ, z N h, Nat.mul_zero, Nat.zero_add]
end Go.Pw
namespace Go.Pw
theorem bin_next (n f : Nat) : bin n f * (n - f) / (f + 1) = bin n (f + 1) := by
  rw [← bin_mul, Nat.mul_div_cancel _ (Nat.succ_pos f)]
theorem bin_first (n : Nat) : bin n 0 = 1 := by cases n <;> rfl
/-- the weight of the lists with f failures -/
def gd (a b n f : Nat) : Nat := bin n f * (a ^ f * b ^ (n - f))
/-- a verdict at the end -/
theorem end_sum {V : Nat → Nat → Int} {a b N : Nat} {k : Int → Nat → Nat} (ho : ∀ m, 1 ≤ m → m ≤ N → ∀ f, f ≤ m → V m f = 0) (he : ∀ f, f ≤ N + 1 → V (N + 1) f ≠ 0) :
    allS V a b (N + 1) k = sumL (fun f => gd a b (N + 1) f * k (V (N + 1) f) (N + 1)) (List.range (N + 2)) := by
  rw [allS_end N ho]
  refine sumL_congr fun f hf => ?_
  have hf := List.mem_range.1 hf
  rw [if_neg (he f (by omega)), C_open N ho f]
  rfl
/-- the binomial theorem -/
theorem gd_total (a b : Nat) : ∀ n, sumL (gd a b n) (List.range (n + 1)) = (a + b) ^ n
  | 0 => by simp [sumL, gd, bin]
  | N + 1 => by
    have h1 := end_sum (V := fun m _ => if m = N + 1 then 1 else 0) (a := a) (b := b) (N := N) (k := fun _ _ => 1) (fun m h1 h2 f _ => if_neg (by omega)) (fun f _ => by simp)
    have h2 := allS_one (V := fun m _ => if m = N + 1 then 1 else 0) (N := N + 1) a b (all_decided (by omega) (fun f _ => by simp))
    rw [h2] at h1
    rw [h1]
    exact sumL_congr fun f _ => (Nat.mul_one _).symm
/-- the lists with fewer than c failures -/
def low (a b n c : Nat) : Nat := sumL (gd a b n) (List.range c)
theorem low_succ (a b n c : Nat) : low a b n (c + 1) = low a b n c + gd a b n c := by
  unfold low
  rw [List.range_succ, sumL_append, sumL_cons, sumL_nil, Nat.add_zero]
theorem cut_sum (f : Nat → Nat) : ∀ {n c : Nat}, c ≤ n → sumL (fun i => if i < c then f i else 0) (List.range n) = sumL f (List.range c)
  | n, 0, _ => by
    rw [sumL_zero (fun i _ => if_neg (by omega))]; rfl
  | 0, c + 1, h => by omega
  | n + 1, c + 1, h => by
    rw [List.range_succ, sumL_append, sumL_cons, sumL_nil]
    by_cases e : c = n
    · subst e
      rw [if_pos (by omega), List.range_succ, sumL_append, sumL_cons, sumL_nil]
      rw [sumL_congr (g := f) fun i hi => if_pos (by have := List.mem_range.1 hi; omega)]
    · rw [if_neg (by omega), Nat.add_zero, Nat.add_zero]
      exact cut_sum f (by omega)
/-- a fixed test: it passes with fewer than c failures, and fails otherwise -/
theorem fixed_sums {V : Nat → Nat → Int} {a b N c : Nat} {P F : Int} (hP : P ≠ 0) (hF : F ≠ 0) (hPF : P ≠ F) (hc : c ≤ N + 2) (ho : ∀ m, 1 ≤ m → m ≤ N → ∀ f, f ≤ m → V m f = 0) (he : ∀ f, f ≤ N + 1 → V (N + 1) f = if f < c then P else F) :
    allS V a b (N + 1) (fun v _ => if v = P then 1 else 0) = low a b (N + 1) c ∧ allS V a b (N + 1) (fun v _ => if v = F then 1 else 0) = (a + b) ^ (N + 1) - low a b (N + 1) c := by
  have hne : ∀ f, f ≤ N + 1 → V (N + 1) f ≠ 0 := fun f hf => by
    rw [he f hf]
    split
    · exact hP
    · exact hF
  have h1 : allS V a b (N + 1) (fun v _ => if v = P then 1 else 0) = low a b (N + 1) c := by
    rw [end_sum ho hne]
    unfold low
    rw [← cut_sum (gd a b (N + 1)) hc]
    refine sumL_congr fun f hf => ?_
    have hf := List.mem_range.1 hf
    rw [he f (by omega)]
    by_cases h : f < c
    · rw [if_pos h, if_pos rfl, if_pos h, Nat.mul_one]
    · rw [if_neg h, if_neg (Ne.symm hPF), if_neg h, Nat.mul_zero]
  refine ⟨h1, ?_⟩
  have h2 := allS_add V a b (N + 1) (fun v _ => if v = P then 1 else 0) (fun v _ => if v = F then 1 else 0)
  have h3 : allS V a b (N + 1) (fun v n => (if v = P then 1 else 0) + (if v = F then 1 else 0)) = (a + b) ^ (N + 1) := by
    rw [← gd_total a b (N + 1), end_sum ho hne]
    refine sumL_congr fun f hf => ?_
    have hf := List.mem_range.1 hf
    rw [he f (by omega)]
    by_cases h : f < c
    · rw [if_pos h, if_pos rfl, if_neg hPF]; omega
    · rw [if_neg h, if_neg (Ne.symm hPF), if_pos rfl]; omega
  rw [h3, h1] at h2
  omega
end Go.Pw
namespace Go.Sv
open Go.Pw
/-- the verdict at n observations with f failures -/
def VT (t : Tst) (n f : Nat) : Int := atV t n (f : Int)
theorem failsTo_nat (l : List Bool) (k : Nat) : ((failsTo l k).toNat : Int) = failsTo l k := Int.toNat_of_nonneg (failsTo_bd l k).1
theorem failsTo_next (l : List Bool) (k : Nat) : (failsTo l (k + 1)).toNat = (failsTo l k).toNat + (gb l k).toNat := by
  have h := (failsTo_bd l k).1
  have e : failsTo l (k + 1) = failsTo l k + bi (gb l k) := rfl
  rw [e]
  cases gb l k
  · simp [bi]
  · simp [bi]; omega
theorem decF_dec (t : Tst) (l : List Bool) : ∀ d k, l.length - k = d → k ≤ l.length → decF t l k d = dec (VT t) k (failsTo l k).toNat (l.drop k)
  | 0, k, hd, hk => by
    have : l.drop k = [] := List.drop_eq_nil_of_le (by omega)
    rw [this]; rfl
  | d + 1, k, hd, hk => by
    have hlt : k < l.length := by omega
    rw [List.drop_eq_getElem_cons hlt]
    have hg : l[k] = gb l k := by simp [gb, hlt]
    have ha : decAt t l k = VT t (k + 1) ((failsTo l k).toNat + (gb l k).toNat) := by
      unfold decAt VT
      rw [← failsTo_next, failsTo_nat]
    rw [decF, dec, hg, ← ha]
    by_cases h : decAt t l k = 0
    · rw [if_neg (by simp [h]), if_pos h, decF_dec t l d (k + 1) (by omega) (by omega), failsTo_next]
    · rw [if_pos h, if_neg h]
theorem decR_decL {t : Tst} (h : validE t = 0) (l : List Bool) : decR t l = decL (VT t) l := by
  rw [decR_ok h, decF_dec t l l.length 0 (by omega) (by omega)]
  rfl
theorem VT_last {t : Tst} (h : Vld t) : ∀ f, f ≤ t.acc.length → VT t t.acc.length f ≠ 0 := fun _f _ => atV_last h _
theorem VT_012 (t : Tst) (n f : Nat) : VT t n f = 0 ∨ VT t n f = 1 ∨ VT t n f = 2 := by
  unfold VT atV
  split
  · exact .inr (.inl rfl)
  · split
    · exact .inr (.inr rfl)
    · exact .inl rfl
theorem VT_all {t : Tst} (h : Vld t) : ∀ l ∈ allL t.acc.length, (decL (VT t) l).1 ≠ 0 := all_decided h.n0 (VT_last h)

/-- the n last binary digits of x, the lowest first -/
def bdg (x n : Nat) : List Bool := (List.range n).map fun k => x / 2 ^ k % 2 == 1
theorem bdg_succ (x n : Nat) : bdg x (n + 1) = bdg x n ++ [x / 2 ^ n % 2 == 1] := by simp [bdg, List.range_succ]
theorem bdg_all : ∀ n, (List.range (2 ^ n)).map (fun x => bdg x n) = allL n
  | 0 => rfl
  | n + 1 => by
    have e : 2 ^ (n + 1) = 2 ^ n + 2 ^ n := by rw [Nat.pow_succ]; omega
    have hp : 0 < 2 ^ n := Nat.pow_pos (by decide)
    rw [e, List.range_add, List.map_append, List.map_map, allL, ← bdg_all n, List.map_map, List.map_map]
    congr 1
    · refine List.map_congr_left fun x hx => ?_
      have hx := List.mem_range.1 hx
      show bdg x (n + 1) = bdg x n ++ [false]
      rw [bdg_succ, Nat.div_eq_of_lt hx]
      rfl
    · refine List.map_congr_left fun x hx => ?_
      have hx := List.mem_range.1 hx
      show bdg (2 ^ n + x) (n + 1) = bdg x n ++ [true]
      have a : bdg (2 ^ n + x) n = bdg x n := by
        refine List.map_congr_left fun k hk => ?_
        have hk := List.mem_range.1 hk
        have e2 : 2 ^ n = 2 ^ k * (2 * 2 ^ (n - k - 1)) := by
          rw [← Nat.mul_assoc, ← Nat.pow_succ, ← Nat.pow_add]
          congr 1
          omega
        show ((2 ^ n + x) / 2 ^ k % 2 == 1) = (x / 2 ^ k % 2 == 1)
        have e3 : (2 ^ n + x) / 2 ^ k = 2 * 2 ^ (n - k - 1) + x / 2 ^ k := by
          conv => lhs; rw [e2]
          exact Nat.mul_add_div (Nat.pow_pos (by decide)) _ _
        rw [e3, Nat.mul_add_mod]
      have b : (2 ^ n + x) / 2 ^ n = 1 := by
        rw [Nat.add_div_left _ hp, Nat.div_eq_of_lt hx]
      rw [bdg_succ, a, b]
      rfl
/-- a sum over the numbers below k of what their lists say -/
def upTo (n k : Nat) (c : List Bool → Nat) : Nat := sumL (fun x => c (bdg x n)) (List.range k)
theorem upTo_zero (n : Nat) (c : List Bool → Nat) : upTo n 0 c = 0 := rfl
theorem upTo_succ (n k : Nat) (c : List Bool → Nat) : upTo n (k + 1) c = upTo n k c + c (bdg k n) := by
  unfold upTo
  rw [List.range_succ, sumL_append, sumL_cons, sumL_nil]
  omega
theorem upTo_all (n : Nat) (c : List Bool → Nat) : upTo n (2 ^ n) c = sumL c (allL n) := by
  rw [← bdg_all, sumL_map]
  rfl
theorem upTo_le {n k B : Nat} {c : List Bool → Nat} (h : ∀ l, c l ≤ B) : upTo n k c ≤ k * B := by
  induction k with
  | zero => simp [upTo_zero]
  | succ k ih => rw [upTo_succ, Nat.add_mul, Nat.one_mul]; have := h (bdg k n); omega
/-- the undecided lists among the first k with f failures -/
def undK (t : Tst) (n k f : Nat) : Nat := upTo n k (fun l => if (decL (VT t) l).1 = 0 ∧ fails l = f then 1 else 0)
theorem undK_all (t : Tst) (n f : Nat) : undK t n (2 ^ n) f = U (VT t) n f := upTo_all n _
/-- the factors among the first k with f failures -/
def facK (t : Tst) (n k : Nat) (g : Int → Nat → Nat) (f : Nat) : Nat := upTo n k (fun l => if fails l = f then (if (decL (VT t) l).1 = 0 then 0 else g (decL (VT t) l).1 (decL (VT t) l).2) else 0)
theorem facK_all (t : Tst) (n f : Nat) (g : Int → Nat → Nat) : facK t n (2 ^ n) g f = fac (VT t) n g f := upTo_all n _
end Go.Sv
namespace Go.Pw
section
variable (V : Nat → Nat → Int)
/-- what a row hands on -/
def liveC (n j : Nat) : Nat := if n = 0 ∨ V n j = 0 then C V n j else 0
def hlf (n m j : Nat) : Nat := if j < m then liveC V n j else 0
/-- row n + 1 behind m entries of row n -/
def rpS (n m : Nat) : Nat → Nat
  | 0 => hlf V n m 0
  | j + 1 => hlf V n m (j + 1) + hlf V n m j
theorem rpS_zero (n j : Nat) : rpS V n 0 j = 0 := by
  cases j with
  | zero => show hlf V n 0 0 = 0; rw [hlf, if_neg (by omega)]
  | succ j => show hlf V n 0 (j + 1) + hlf V n 0 j = 0; rw [hlf, hlf, if_neg (by omega), if_neg (by omega)]
theorem hlf_full (n j : Nat) : hlf V n (n + 1) j = liveC V n j := by
  unfold hlf
  split
  · rfl
  · rename_i h
    unfold liveC
    rw [C_big V n j (by omega)]
    split <;> rfl
theorem rpS_end (n j : Nat) : rpS V n (n + 1) j = C V (n + 1) j := by
  cases n with
  | zero =>
    rw [C_one]
    cases j with
    | zero => show hlf V 0 (0 + 1) 0 = _; rw [hlf_full]; simp [liveC]
    | succ j => show hlf V 0 (0 + 1) (j + 1) + hlf V 0 (0 + 1) j = _; rw [hlf_full, hlf_full]; simp [liveC]
  | succ n =>
    rw [C_succ]
    cases j with
    | zero => show hlf V (n + 1) (n + 1 + 1) 0 = _; rw [hlf_full]; simp [liveC]
    | succ j => show hlf V (n + 1) (n + 1 + 1) (j + 1) + hlf V (n + 1) (n + 1 + 1) j = _; rw [hlf_full, hlf_full]; simp [liveC]
theorem hlf_dead {n m : Nat} (h : liveC V n m = 0) (j : Nat) : hlf V n (m + 1) j = hlf V n m j := by
  unfold hlf
  by_cases e : j = m
  · subst e
    rw [if_pos (by omega), if_neg (by omega), h]
  · by_cases c : j < m
    · rw [if_pos c, if_pos (by omega)]
    · rw [if_neg c, if_neg (by omega)]
theorem rpS_dead {n m : Nat} (h : liveC V n m = 0) (j : Nat) : rpS V n (m + 1) j = rpS V n m j := by
  cases j with
  | zero => exact hlf_dead V h 0
  | succ j => show hlf V n (m + 1) (j + 1) + hlf V n (m + 1) j = _; rw [hlf_dead V h, hlf_dead V h]; rfl
theorem hlf_at (n m : Nat) : hlf V n (m + 1) m = liveC V n m ∧ hlf V n m m = 0 := ⟨if_pos (by omega), if_neg (by omega)⟩
theorem hlf_else {n m j : Nat} (h : j ≠ m) : hlf V n (m + 1) j = hlf V n m j := by
  unfold hlf
  by_cases c : j < m
  · rw [if_pos c, if_pos (by omega)]
  · rw [if_neg c, if_neg (by omega)]
theorem rpS_at (n m : Nat) : rpS V n (m + 1) m = rpS V n m m + liveC V n m := by
  cases m with
  | zero => show hlf V n 1 0 = hlf V n 0 0 + _; rw [(hlf_at V n 0).1, (hlf_at V n 0).2]; omega
  | succ m =>
    show hlf V n (m + 1 + 1) (m + 1) + hlf V n (m + 1 + 1) m = hlf V n (m + 1) (m + 1) + hlf V n (m + 1) m + _
    rw [(hlf_at V n (m + 1)).1, (hlf_at V n (m + 1)).2, hlf_else V (by omega)]
    omega
theorem rpS_up (n m : Nat) : rpS V n (m + 1) (m + 1) = rpS V n m (m + 1) + liveC V n m := by
  show hlf V n (m + 1) (m + 1) + hlf V n (m + 1) m = hlf V n m (m + 1) + hlf V n m m + _
  rw [(hlf_at V n m).1, (hlf_at V n m).2, hlf_else V (by omega)]
  omega
theorem rpS_else {n m j : Nat} (h : j ≠ m) (h2 : j ≠ m + 1) : rpS V n (m + 1) j = rpS V n m j := by
  cases j with
  | zero => exact hlf_else V h
  | succ j => show hlf V n (m + 1) (j + 1) + hlf V n (m + 1) j = _; rw [hlf_else V h, hlf_else V (by omega)]; rfl
/-! bounds -/
theorem allL_card : ∀ n, (allL n).length = 2 ^ n
  | 0 => rfl
  | n + 1 => by rw [allL, List.length_append, List.length_map, List.length_map, allL_card n, Nat.pow_succ]; omega
theorem sumL_card {α : Type} {f : α → Nat} {B : Nat} {l : List α} (h : ∀ a ∈ l, f a ≤ B) : sumL f l ≤ B * l.length := by
  induction l with
  | nil => exact Nat.zero_le _
  | cons a l ih =>
    rw [sumL_cons, List.length_cons, Nat.mul_add, Nat.mul_one]
    have := h a (List.mem_cons_self ..)
    have := ih (fun b hb => h b (List.mem_cons_of_mem _ hb))
    omega
theorem U_le (n f : Nat) : U V n f ≤ 2 ^ n := by
  unfold U
  have := sumL_card (l := allL n) (B := 1) (f := fun l => if (decL V l).1 = 0 ∧ fails l = f then 1 else 0) (fun l _ => by split <;> omega)
  rw [allL_card] at this
  omega
theorem C_le (n f : Nat) : C V n f ≤ 2 ^ n := by
  cases n with
  | zero => show (if f = 0 then 1 else 0) ≤ 1; split <;> omega
  | succ n =>
    show U V n f + _ ≤ _
    have h1 := U_le V n f
    rw [Nat.pow_succ]
    cases f with
    | zero => simp only; omega
    | succ f => have h2 := U_le V n f; simp only; omega
theorem hlf_le (n m j : Nat) : hlf V n m j ≤ 2 ^ n := by
  unfold hlf liveC
  have := C_le V n j
  split
  · split <;> omega
  · omega
theorem rpS_le (n m j : Nat) : rpS V n m j ≤ 2 ^ (n + 1) := by
  rw [Nat.pow_succ]
  cases j with
  | zero => show hlf V n m 0 ≤ _; have := hlf_le V n m 0; omega
  | succ j => show hlf V n m (j + 1) + hlf V n m j ≤ _; have := hlf_le V n m (j + 1); have := hlf_le V n m j; omega
/-! the sums -/
variable (a b N : Nat)
/-- the weight of a point -/
def wg (n f : Nat) : Nat := C V n f * (a ^ f * b ^ (n - f) * (a + b) ^ (N - n))
/-- what a point adds -/
def tm (k : Int → Nat → Nat) (n f : Nat) : Nat := if n = 0 ∨ V n f = 0 then 0 else wg V a b N n f * k (V n f) n
/-- m points of a row, n rows -/
def rpT (k : Int → Nat → Nat) (n m : Nat) : Nat := sumL (tm V a b N k n) (List.range m)
def tpT (k : Int → Nat → Nat) (n : Nat) : Nat := sumL (fun i => rpT V a b N k i (i + 1)) (List.range n)
theorem rpT_succ (k : Int → Nat → Nat) (n m : Nat) : rpT V a b N k n (m + 1) = rpT V a b N k n m + tm V a b N k n m := by
  unfold rpT
  rw [List.range_succ, sumL_append, sumL_cons, sumL_nil]
  omega
theorem tpT_succ (k : Int → Nat → Nat) (n : Nat) : tpT V a b N k (n + 1) = tpT V a b N k n + rpT V a b N k n (n + 1) := by
  unfold tpT
  rw [List.range_succ, sumL_append, sumL_cons, sumL_nil]
  omega
theorem tpT_all (k : Int → Nat → Nat) : tpT V a b N k (N + 1) = allS V a b N k := by
  unfold tpT
  rw [show List.range (N + 1) = 0 :: (List.range N).map Nat.succ from List.range_succ_eq_map, sumL_cons, sumL_map, allS_sum]
  have z : rpT V a b N k 0 (0 + 1) = 0 := sumL_zero fun f _ => if_pos (.inl rfl)
  rw [z, Nat.zero_add]
  refine sumL_congr fun n _ => ?_
  show rpT V a b N k (n + 1) (n + 1 + 1) = _
  unfold rpT rowS
  rw [← sumL_mul]
  refine sumL_congr fun f _ => ?_
  unfold tm wg
  by_cases h : V (n + 1) f = 0
  · rw [if_pos (.inr h), if_pos h, Nat.mul_zero]
  · rw [if_neg (by simp [h]), if_neg h]
    generalize a ^ f * b ^ (n + 1 - f) = x
    generalize (a + b) ^ (N - (n + 1)) = y
    generalize k (V (n + 1) f) (n + 1) = z
    rw [← Nat.mul_assoc, Nat.mul_comm (C V (n + 1) f * x) y, Nat.mul_assoc y]
theorem rpT_mono (k : Int → Nat → Nat) (n : Nat) : ∀ {m m' : Nat}, m ≤ m' → rpT V a b N k n m ≤ rpT V a b N k n m' := by
  intro m m' h
  obtain ⟨d, rfl⟩ := Nat.exists_eq_add_of_le h
  clear h
  induction d with
  | zero => exact Nat.le_refl _
  | succ d ih => rw [← Nat.add_assoc, rpT_succ]; omega
theorem tpT_mono (k : Int → Nat → Nat) : ∀ {n n' : Nat}, n ≤ n' → tpT V a b N k n ≤ tpT V a b N k n' := by
  intro n n' h
  obtain ⟨d, rfl⟩ := Nat.exists_eq_add_of_le h
  clear h
  induction d with
  | zero => exact Nat.le_refl _
  | succ d ih => rw [← Nat.add_assoc, tpT_succ]; omega
variable {V a b N}
/-- each sum on the way is at most the whole -/
theorem part_le {k : Int → Nat → Nat} {n m : Nat} (hn : n ≤ N) (hm : m ≤ n + 1) : tpT V a b N k n + rpT V a b N k n m ≤ allS V a b N k := by
  have h1 := rpT_mono V a b N k n hm
  have h2 := tpT_mono V a b N k (show n + 1 ≤ N + 1 by omega)
  rw [tpT_all, tpT_succ] at h2
  omega
theorem allS_le {k : Int → Nat → Nat} {B : Nat} (h : ∀ v n, n ≤ N → k v n ≤ B) : allS V a b N k ≤ B * (a + b) ^ N := by
  rw [← wt_all, ← sumL_mul]
  refine sumL_le fun l hl => ?_
  by_cases h0 : (decL V l).1 = 0
  · rw [if_pos h0]; exact Nat.zero_le _
  · rw [if_neg h0, Nat.mul_comm B]
    exact Nat.mul_le_mul_left _ (h _ _ (dec_place V hl h0).2)
theorem pow_le {n f : Nat} (hf : f ≤ n) (hn : n ≤ N) : a ^ f * b ^ (n - f) ≤ (a + b) ^ n ∧ a ^ f * b ^ (n - f) * (a + b) ^ (N - n) ≤ (a + b) ^ N := by
  have h1 : a ^ f * b ^ (n - f) ≤ (a + b) ^ n := by
    have := Nat.mul_le_mul (Nat.pow_le_pow_left (Nat.le_add_right a b) f) (Nat.pow_le_pow_left (Nat.le_add_left b a) (n - f))
    rw [← Nat.pow_add, show f + (n - f) = n by omega] at this
    exact this
  refine ⟨h1, ?_⟩
  have := Nat.mul_le_mul_right ((a + b) ^ (N - n)) h1
  rw [← Nat.pow_add, show n + (N - n) = N by omega] at this
  exact this
end
end Go.Pw
