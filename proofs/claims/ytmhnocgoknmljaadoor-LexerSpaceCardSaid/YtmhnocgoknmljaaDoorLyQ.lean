/-
  PLAIN: the text of the law Space, its tokens and their lines; ARGUMENT OPENED: a list of bytes.
  Conditions: those that each theorem names.
-/
import Derived.Test.YtmhnocgoknmljaaDoorLyI
import Derived.Test.YtmhnocgoknmljaaDoorLyOp
namespace Go.Proofs.YtmhnocgoknmljaaDoor
open Go.ChangeShapes Go.WideShapes Go.ChangeAt Go.RowKit Go.Sv Go.Lx
theorem word_leS {t : Tok} (h : Fw t) : (word t).length ≤ 402 := by
  unfold word
  split
  · have := Lib.itoa_length_le t.int h.i64.1 h.i64.2
    omega
  · split
    · have := flat_le t.str
      have := h.st
      unfold qform
      simp only [List.length_cons, List.length_append, List.length_nil]
      omega
    · have := h.tx
      omega
def preS : List (Tok × Nat) → Bs
  | [] => []
  | (t, k) :: l => spc k ++ (word t ++ preS l)
def lnE (n : Int) : List (Tok × Nat) → Int
  | [] => n
  | (_, k) :: l => lnE (n + spl k) l
theorem spaceS_pre (l : List (Tok × Nat)) : spaceS l = preS l ++ endS := by
  induction l with
  | nil => rfl
  | cons x l ih => obtain ⟨t, k⟩ := x; simp only [spaceS, preS, ih, List.append_assoc]
theorem preS_app (l m : List (Tok × Nat)) : preS (l ++ m) = preS l ++ preS m := by
  induction l with
  | nil => rfl
  | cons x l ih => obtain ⟨t, k⟩ := x; simp only [preS, List.cons_append, ih, List.append_assoc]
theorem lnE_app (l m : List (Tok × Nat)) : ∀ n, lnE n (l ++ m) = lnE (lnE n l) m := by
  induction l with
  | nil => intro n; rfl
  | cons x l ih => obtain ⟨t, k⟩ := x; intro n; exact ih _
theorem lineS_app (l m : List (Tok × Nat)) : ∀ n, lineS n (l ++ m) = lineS n l ++ lineS (lnE n l) m := by
  induction l with
  | nil => intro n; rfl
  | cons x l ih => obtain ⟨t, k⟩ := x; intro n; simp only [List.cons_append, lineS, ih]; rfl
def strK (vs : List Tok) (K : Nat → Nat) : Nat → Bs
  | 0 => []
  | k + 1 => (strK vs K k ++ spc (K k)) ++ word (tkAt vs k)
def linK (K : Nat → Nat) : Nat → Int
  | 0 => 1
  | k + 1 => linK K k + spl (K k)
def zipK (vs : List Tok) (K : Nat → Nat) (n : Nat) : List (Tok × Nat) := (List.range n).map fun i => (tkAt vs i, K i)
def outK (vs : List Tok) (K : Nat → Nat) (n : Nat) : List Tok := (List.range n).map fun i => { tkAt vs i with line := linK K (i + 1) }
def rowK (K : Nat → Nat) (n : Nat) : List Value := (List.range n).map fun i => .int .i64 (linK K (i + 1))
theorem zipK_succ (vs : List Tok) (K : Nat → Nat) (n : Nat) : zipK vs K (n + 1) = zipK vs K n ++ [(tkAt vs n, K n)] := by
  unfold zipK; rw [List.range_succ, List.map_append]; rfl
theorem outK_succ (vs : List Tok) (K : Nat → Nat) (n : Nat) : outK vs K (n + 1) = outK vs K n ++ [{ tkAt vs n with line := linK K (n + 1) }] := by
  unfold outK; rw [List.range_succ, List.map_append]; rfl
theorem rowK_succ (K : Nat → Nat) (n : Nat) : rowK K (n + 1) = rowK K n ++ [.int .i64 (linK K (n + 1))] := by
  unfold rowK; rw [List.range_succ, List.map_append]; rfl
theorem strK_pre (vs : List Tok) (K : Nat → Nat) : ∀ n, strK vs K n = preS (zipK vs K n)
  | 0 => rfl
  | n + 1 => by rw [zipK_succ, preS_app, ← strK_pre vs K n]; simp [strK, preS]
theorem linK_lnE (vs : List Tok) (K : Nat → Nat) : ∀ n, linK K n = lnE 1 (zipK vs K n)
  | 0 => rfl
  | n + 1 => by rw [zipK_succ, lnE_app, ← linK_lnE vs K n]; rfl
theorem outK_line (vs : List Tok) (K : Nat → Nat) : ∀ n, lineS 1 (zipK vs K n) = outK vs K n
  | 0 => rfl
  | n + 1 => by rw [zipK_succ, lineS_app, outK_line vs K n, outK_succ, ← linK_lnE]; rfl
theorem tk_strK {vs : List Tok} {K : Nat → Nat} (h : ∀ t ∈ vs, validT t = true ∧ I64 t) : tk 1 (strK vs K vs.length ++ endS) = .ok (outK vs K vs.length) := by
  rw [strK_pre, ← spaceS_pre, tk_space _ _ ?_, outK_line]
  intro x hx
  unfold zipK at hx
  obtain ⟨i, hi, rfl⟩ := List.mem_map.1 hx
  have hi := List.mem_range.1 hi
  show validT (tkAt vs i) = true ∧ I64 (tkAt vs i)
  rw [tkAt_get hi]
  exact h _ (List.getElem_mem hi)
theorem outK_len (vs : List Tok) (K : Nat → Nat) (n : Nat) : (outK vs K n).length = n := by simp [outK]
theorem outK_bare (vs : List Tok) (K : Nat → Nat) : (outK vs K vs.length).map bare = vs.map bare := by
  apply List.ext_getElem?
  intro j
  by_cases hj : j < vs.length
  · simp [outK, hj, bare, tkAt_get hj]
  · simp [outK, hj]
theorem outK_at (vs : List Tok) (K : Nat → Nat) {n k : Nat} (hk : k < n) : (tkAt (outK vs K n) k).line = linK K (k + 1) := by
  rw [tkAt_get (by rw [outK_len]; exact hk)]
  simp [outK]
theorem rowK_at (K : Nat → Nat) {n k : Nat} (hk : k < n) : (rowK K n)[k]? = some (.int .i64 (linK K (k + 1))) := by
  simp [rowK, hk]
theorem spc_le (k : Nat) : (spc k).length ≤ 9 := by
  unfold spc; split <;> simp
theorem spl_le (k : Nat) : 0 ≤ spl k ∧ spl k ≤ 2 := by
  unfold spl; split <;> omega
theorem strK_le {vs : List Tok} {K : Nat → Nat} (h : ∀ k, k < vs.length → (word (tkAt vs k)).length ≤ 402) : ∀ n, n ≤ vs.length → (strK vs K n).length ≤ 411 * n
  | 0, _ => by simp [strK]
  | n + 1, hn => by
    have ih := strK_le h (K := K) n (by omega)
    have h1 := h n (by omega)
    have h2 := spc_le (K n)
    unfold strK
    rw [List.length_append, List.length_append, Nat.mul_add]
    omega
theorem linK_le (K : Nat → Nat) : ∀ n, 0 ≤ linK K n ∧ linK K n ≤ 1 + 2 * (n : Int)
  | 0 => by simp [linK]
  | n + 1 => by
    have ih := linK_le K n
    have h2 := spl_le (K n)
    unfold linK
    omega
def u8w (l : List Int) (k : Nat) : Value := .int .u8 (gi l k)
/-- the white space that the bytes choose -/
def chK (l : List Int) (k : Nat) : Nat := if k < l.length then ((gi l k).tmod 5).toNat else 0
section
variable {H : Type} {enc : TypeId × Value → H} {W : World}
set_option maxRecDepth 100000 in
theorem open_u8 {v : Value} {d : DataW H} {p : List MemPlace} {base : Nat} (hv : Value.okWide Tryd.prog W .any base 28 v) (h : DataW.Trod enc Tryd.prog W 0 (fun _ => true) true 28 v d p) (hlt : ∀ x ∈ p, x.block < W.heap.size) :
    ∃ (A : Option Addr) (l : List Int) (c : Nat), v = .slice A l.length c ∧ l.length ≤ 9223372036854775807 ∧ (∀ i, i < l.length → 0 ≤ gi l i ∧ gi l i < 256) ∧ Arr W W.heap.size A l.length (u8w l) := by
  have k : Tryd.prog.cellsOf 5 = 1 := by kernel_rfl
  obtain ⟨A, n, c, rfl, hnc, hcm, _, _, _⟩ := open_rows Tryd.underlying28 k (by omega) hv h hlt
  obtain ⟨fuel, hf⟩ := h
  obtain ⟨A', l, c', e, h1, h2, _, h4, h5⟩ := trod_iarr Tryd.underlying28 Tryd.underlying5 k hf hlt
  simp [Value.cells] at e
  obtain ⟨rfl, rfl, rfl⟩ := e
  unfold maxLen at h2
  refine ⟨A, l, c, rfl, by omega, fun i hi => ?_, h4⟩
  have := h5 i hi
  simp [Lit.wf, IntKind.min, IntKind.max, IntKind.signed, IntKind.bits] at this
  omega
end
end Go.Proofs.YtmhnocgoknmljaaDoor
