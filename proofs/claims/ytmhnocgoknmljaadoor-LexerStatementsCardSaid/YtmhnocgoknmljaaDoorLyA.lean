/-
  Lists of tokens in memory; CONTRACTS of slices.Clone, slices.Equal at tokens and of the reference's Same.
  Conditions: those that each theorem names.
-/
import Derived.Test.YtmhnocgoknmljaaDoorLxY
import Derived.Laws.StructEq
import Derived.Deep.DeepCutAuto
namespace Go.Proofs.YtmhnocgoknmljaaDoor
open Go.RowKit Go.Sv Go.Lx
def tkAt (l : List Tok) (k : Nat) : Tok := l.getD k rd0
theorem tkAt_get {l : List Tok} {k : Nat} (h : k < l.length) : tkAt l k = l[k] := by simp [tkAt, h]
def tkCell (t : Tok) (i : Nat) : Value := match i with
  | 0 => .int .i64 t.kind
  | 1 => .string (bS t.text)
  | 2 => .int .i64 t.int
  | 3 => .string (bS t.str)
  | _ => .int .i64 t.line
def tkF (l : List Tok) (k i : Nat) : Value := tkCell (tkAt l k) i
theorem tkF_one (l : List Tok) (k i : Nat) : (tkF l k i).oneCell' = true := by
  unfold tkF tkCell
  split <;> rfl
abbrev RTks (w : World) (B : Nat) (A : Option Addr) (l : List Tok) : Prop := ArrN w B 5 A l.length (tkF l)
theorem tk_cells {w : World} {b off k : Nat} {l : List Tok} (h : ∀ i, i < 5 → w.cell? ⟨b, off + k * 5 + i, none⟩ = some (tkF l k i)) :
    w.cell? ⟨b, off + k * 5, none⟩ = some (.int .i64 (tkAt l k).kind) ∧ w.cell? ⟨b, off + k * 5 + 1, none⟩ = some (.string (bS (tkAt l k).text)) ∧ w.cell? ⟨b, off + k * 5 + 2, none⟩ = some (.int .i64 (tkAt l k).int) ∧
    w.cell? ⟨b, off + k * 5 + 3, none⟩ = some (.string (bS (tkAt l k).str)) ∧ w.cell? ⟨b, off + k * 5 + 4, none⟩ = some (.int .i64 (tkAt l k).line) := ⟨h 0 (by omega), h 1 (by omega), h 2 (by omega), h 3 (by omega), h 4 (by omega)⟩
theorem tkRow_get : ∀ (l : List Tok) (k i : Nat), k < l.length → i < 5 → (tkRow l)[k * 5 + i]? = some (tkF l k i)
  | [], k, i, h, _ => by simp at h
  | r :: l, 0, i, _, hi => by
    have e : tkRow (r :: l) = tkCells r ++ tkRow l := rfl
    rw [e, List.getElem?_append_left (by simp [tkCells]; omega)]
    match i, hi with
    | 0, _ => rfl
    | 1, _ => rfl
    | 2, _ => rfl
    | 3, _ => rfl
    | 4, _ => rfl
  | r :: l, k + 1, i, h, hi => by
    have e : tkRow (r :: l) = tkCells r ++ tkRow l := rfl
    have e2 : (k + 1) * 5 + i = 5 + (k * 5 + i) := by omega
    rw [e, e2, List.getElem?_append_right (by simp [tkCells])]
    have e3 : 5 + (k * 5 + i) - (tkCells r).length = k * 5 + i := by simp [tkCells]
    rw [e3, tkRow_get l k i (by simpa using h) hi]
    rfl
theorem tkRow_length (l : List Tok) : (tkRow l).length = l.length * 5 := by
  induction l with
  | nil => rfl
  | cons r l ih =>
    have e : tkRow (r :: l) = tkCells r ++ tkRow l := rfl
    rw [e, List.length_append, ih]; simp [tkCells]; omega
theorem tkRow_is (l : List Tok) : rowN 5 l.length (tkF l) = tkRow l := by
  apply List.ext_getElem?
  intro j
  by_cases hj : j < l.length * 5
  · have h1 : j / 5 < l.length := by omega
    have h2 : j % 5 < 5 := by omega
    have e : j = j / 5 * 5 + j % 5 := by omega
    rw [e, rowN_get h1 h2, tkRow_get l _ _ h1 h2]
  · rw [List.getElem?_eq_none (by rw [rowN_length]; omega), List.getElem?_eq_none (by rw [tkRow_length]; omega)]
theorem own_tks {w : World} {base : Nat} {v : Value} {l : List Tok} (h : w.ownsRow base 25 5 v l.length (tkRow l)) : ∃ A c, v = .slice A l.length c ∧ (A = none → l.length = 0 ∧ c = 0) ∧ RTks w w.heap.size A l := by
  obtain ⟨A, c, rfl, h1, h2, h3⟩ := own_arrN h (fun k hk i hi => tkRow_get l k i hk hi)
  exact ⟨A, c, rfl, fun e => (own_nil h e).imp id id, h3⟩
theorem RTks.to {w w' : World} {A : Option Addr} {l : List Tok} (h : RTks w w.heap.size A l) (hb : Below w.heap.size w w') : RTks w' w'.heap.size A l := (h.below hb).more hb.size
theorem guardTok : Tryd.prog.eqGuardType Tryd.prog.depth 25 = false := by kernel_rfl
theorem eqTok (s t : Tok) (w : World) : (Op.equalIn 10000 25 (.agg #[.int .i64 s.kind, .string (bS s.text), .int .i64 s.int, .string (bS s.str), .int .i64 s.line]) (.agg #[.int .i64 t.kind, .string (bS t.text), .int .i64 t.int, .string (bS t.str), .int .i64 t.line])).run Tryd.prog w = .ok (decide (s = t)) w := by
  have hS : Tryd.prog.underlying 25 = some (.struct (Tryd.prog.fieldsOf 25)) := by kernel_rfl
  have hp : Tryd.prog.stoodInHeld 25 = false := by kernel_rfl
  obtain ⟨k1, t1, i1, s1, n1⟩ := s
  obtain ⟨k2, t2, i2, s2, n2⟩ := t
  rw [show (10000 : Nat) = 9999 + 1 from rfl, run_equalIn_agg w 9999 25 _ _ hS hp]
  simp only [Program.fieldsOf, Tryd.underlying25]
  go_simp
  by_cases h1 : k1 = k2 <;> by_cases h2 : t1 = t2 <;> by_cases h3 : i1 = i2 <;> by_cases h4 : s1 = s2 <;> by_cases h5 : n1 = n2 <;> simp [h1, h2, h3, h4, h5]
end Go.Proofs.YtmhnocgoknmljaaDoor
