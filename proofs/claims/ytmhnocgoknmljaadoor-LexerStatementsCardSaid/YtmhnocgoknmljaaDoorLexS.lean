/-
  PLAIN: the lexer: white space and comments between tokens; statements.
  Conditions: those that each theorem names.
-/
import Derived.Test.YtmhnocgoknmljaaDoorLexK
namespace Go.Lx
open Go
def spc (k : Nat) : Bs := match k with
  | 0 => [32]
  | 1 => [9, 32]
  | 2 => [10]
  | 3 => [47, 47, 32, 97, 59, 32, 34, 98, 10]
  | _ => [32, 32, 47, 47, 10, 10]
def spl (k : Nat) : Int := match k with
  | 0 => 0
  | 1 => 0
  | 2 => 1
  | 3 => 1
  | _ => 2
theorem tk_spc (line : Int) (k : Nat) (r : Bs) : tk line (spc k ++ r) = tk (line + spl k) r := by
  match k with
  | 0 =>
    show tk line (32 :: r) = tk (line + 0) r
    rw [tk_sp line r (Or.inl rfl), Int.add_zero]
  | 1 =>
    show tk line (9 :: 32 :: r) = tk (line + 0) r
    rw [tk_sp line _ (Or.inr rfl), tk_sp line r (Or.inl rfl), Int.add_zero]
  | 2 =>
    show tk line (10 :: r) = tk (line + 1) r
    rw [tk_nl]
  | 3 =>
    show tk line (47 :: 47 :: (32 :: 97 :: 59 :: 32 :: 34 :: 98 :: 10 :: r)) = tk (line + 1) r
    rw [tk_cm]
    show tk line (10 :: r) = _
    rw [tk_nl]
  | _ + 4 =>
    show tk line (32 :: 32 :: 47 :: 47 :: (10 :: 10 :: r)) = tk (line + 2) r
    rw [tk_sp line _ (Or.inl rfl), tk_sp line _ (Or.inl rfl), tk_cm]
    show tk line (10 :: 10 :: r) = _
    rw [tk_nl, tk_nl]
    congr 1
    omega
def endS : Bs := [32, 47, 47, 32, 101, 110, 100]
theorem tk_end (line : Int) : tk line endS = .ok [] := by
  show tk line (32 :: 47 :: 47 :: [32, 101, 110, 100]) = _
  rw [tk_sp line _ (Or.inl rfl), tk_cm]
  exact tk_nil line
def spaceS : List (Tok × Nat) → Bs
  | [] => endS
  | (t, k) :: l => spc k ++ (word t ++ spaceS l)
def lineS (line : Int) : List (Tok × Nat) → List Tok
  | [] => []
  | (t, k) :: l => { t with line := line + spl k } :: lineS (line + spl k) l
theorem fol_space (a : Tok) (l : List (Tok × Nat)) : fol a (spaceS l) := by
  match l with
  | [] => exact fol_c _ (by decide) (by decide)
  | (t, k) :: l =>
    match k with
    | 0 => exact fol_c _ (by decide) (by decide)
    | 1 => exact fol_c _ (by decide) (by decide)
    | 2 => exact fol_c _ (by decide) (by decide)
    | 3 => exact fol_c _ (by decide) (by decide)
    | _ + 4 => exact fol_c _ (by decide) (by decide)
theorem tk_space : ∀ (l : List (Tok × Nat)) (line : Int), (∀ x ∈ l, validT x.1 = true ∧ I64 x.1) → tk line (spaceS l) = .ok (lineS line l)
  | [], line, _ => tk_end line
  | (t, k) :: l, line, h => by
    obtain ⟨hv, hi⟩ := h (t, k) (List.mem_cons_self ..)
    have ih := tk_space l (line + spl k) (fun x hx => h x (List.mem_cons_of_mem _ hx))
    show tk line (spc k ++ (word t ++ spaceS l)) = _
    rw [tk_spc, tk_word _ hv hi (fol_space t l), ih]
    rfl

/-! ### statements -/
def closeS (s : Bs) : Bs := if s = [123] then [125] else if s = [40] then [41] else if s = [91] then [93] else []
def openS (s : Bs) : Bs := if s = [125] then [123] else if s = [41] then [40] else if s = [93] then [91] else []
theorem close_open {o c : Bs} (ho : closeS o ≠ []) (hc : openS c ≠ []) : closeS o = c ↔ o = openS c := by
  unfold closeS openS at *
  by_cases h1 : o = [123]
  · subst h1
    by_cases h2 : c = [125]
    · subst h2; simp
    · by_cases h3 : c = [41]
      · subst h3; simp
      · by_cases h4 : c = [93]
        · subst h4; simp
        · simp [h2, h3, h4] at hc
  · by_cases h5 : o = [40]
    · subst h5
      by_cases h2 : c = [125]
      · subst h2; simp
      · by_cases h3 : c = [41]
        · subst h3; simp
        · by_cases h4 : c = [93]
          · subst h4; simp
          · simp [h2, h3, h4] at hc
    · by_cases h6 : o = [91]
      · subst h6
        by_cases h2 : c = [125]
        · subst h2; simp
        · by_cases h3 : c = [41]
          · subst h3; simp
          · by_cases h4 : c = [93]
            · subst h4; simp
            · simp [h2, h3, h4] at hc
      · simp [h1, h5, h6] at ho
structure Sst where
  op : List Bs
  out : List (Nat × Nat)
  beg : Nat
/-- one token: op: the opening symbols -/
def stStep (i : Nat) (t : Tok) (s : Sst) : Except Int Sst :=
  if t.kind ≠ 4 then .ok s
  else if closeS t.text ≠ [] then .ok { s with op := s.op ++ [t.text] }
  else if openS t.text ≠ [] then (if s.op.getLast? = some (openS t.text) then .ok { s with op := s.op.dropLast } else .error t.line)
  else if t.text = [59] ∧ s.op = [] then .ok { s with out := s.out ++ [(s.beg, i)], beg := i + 1 }
  else .ok s
def stRun : Nat → List Tok → Sst → Except Int Sst
  | _, [], s => .ok s
  | i, t :: l, s => match stStep i t s with
    | .error e => .error e
    | .ok s' => stRun (i + 1) l s'
/-- the statements, as ranges of tokens, or the line of the error -/
def stmts (l : List Tok) : Except Int (List (Nat × Nat)) := match stRun 0 l ⟨[], [], 0⟩ with
  | .error e => .error e
  | .ok s => if s.beg < l.length then .error ((l.getLast?.map Tok.line).getD 0) else .ok s.out
end Go.Lx
