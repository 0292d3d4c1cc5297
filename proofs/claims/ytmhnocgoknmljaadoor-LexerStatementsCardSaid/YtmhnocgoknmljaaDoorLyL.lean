/-
  What Statements holds in memory: rows of texts, rows of rows of tokens; CONTRACTS of closing and partner.
  Conditions: those that each theorem names.
-/
import Derived.Test.YtmhnocgoknmljaaDoorLyI
namespace Go.Proofs.YtmhnocgoknmljaaDoor
open Go.RowKit Go.Sv Go.Lx
theorem elStr : ElemT Tryd.prog 32 9 (.string ⟨#[]⟩) 1 16 := ⟨Tryd.underlying32, by kernel_rfl, rfl, by decide⟩
theorem elSl : ElemT Tryd.prog 43 27 (.slice none 0 0) 1 24 := ⟨Tryd.underlying43, by kernel_rfl, rfl, by decide⟩
/-- a row beside a row of other elements that grows -/
theorem own_other {w w' : World} {base base' : Nat} {e e' : TypeId} {size size' : Nat} {v u : Value} {n m : Nat} {xs ys : List Value} (h : w.ownsRow base e size v n xs) (hu : w.ownsRow base' e' size' u m ys) (hne : e ≠ e') (hg : w.grownBy w' u.ownBlock) : w'.ownsRow base e size v n xs := by
  refine h.kept hg ?_
  rcases h.2 with ⟨rfl, _⟩ | ⟨g, cap, cur, rfl, _, hgg, _⟩
  · exact Or.inl rfl
  · refine Or.inr fun eq => ?_
    rcases hu.2 with ⟨rfl, _⟩ | ⟨g', cap', cur', rfl, _, hgg', _⟩
    · simp [Value.ownBlock] at eq
    · simp only [Value.ownBlock, Option.some.injEq] at eq
      subst eq
      rw [hgg] at hgg'
      injection hgg' with hgg'
      injection hgg' with _ h2
      exact hne h2
/-- a row of one-cell elements without its last -/
theorem own_less {w : World} {base : Nat} {e : TypeId} {b c n : Nat} {xs : List Value} (h : w.ownsRow base e 1 (.slice (some ⟨b, 0, none⟩) (n + 1) c) (n + 1) xs) : w.ownsRow base e 1 (.slice (some ⟨b, 0, none⟩) n c) n xs.dropLast := by
  rcases h.2 with ⟨h0, _⟩ | ⟨g, cap, cur, hv, hb, hg, hn, hm, hs, ht⟩
  · cases h0
  · injection hv with h1 h2 h3
    injection h1 with h1
    injection h1 with h1 h1'
    subst h1 h3
    have hl := h.1
    have hcl : cur.toList.length = cur.size := rfl
    have e1 : cur.toList.take (n + 1) = xs := by rw [Nat.mul_one] at ht; exact ht
    refine ⟨by rw [List.length_dropLast]; omega, Or.inr ⟨b, c, cur, rfl, hb, hg, by omega, hm, hs, ?_⟩⟩
    rw [Nat.mul_one, ← e1, List.dropLast_eq_take, List.length_take, List.take_take]
    congr 1
    omega
def segT (l : List Tok) (x : Nat × Nat) : List Tok := (l.drop x.1).take (x.2 - x.1)
def opRow (F : Bs → Bs) (op : List Bs) : List Value := op.map fun o => .string (bS (F o))
/-- what Statements has built -/
structure StM (w wr : World) (l : List Tok) (F : Bs → Bs) (s : Sst) (v5 v6 : Value) (vals : List Value) : Prop where
  out : wr.ownsRow w.heap.size 27 1 v5 s.out.length vals
  opn : wr.ownsRow w.heap.size 9 1 v6 s.op.length (opRow F s.op)
  seg : ∀ k (h : k < s.out.length), ∃ v, vals[k]? = some v ∧ wr.ownsRow w.heap.size 25 5 v (segT l s.out[k]).length (tkRow (segT l s.out[k]))
  bel : Below w.heap.size w wr
theorem StM.start (w : World) (l : List Tok) (F : Bs → Bs) : StM w w l F ⟨[], [], 0⟩ (.slice none 0 0) (.slice none 0 0) [] :=
  ⟨World.ownsRow_nil _ _ _ _, World.ownsRow_nil _ _ _ _, fun _k h => absurd h (Nat.not_lt_zero _), Below.refl _ _⟩
theorem StM.to {w wr wr' : World} {l : List Tok} {F : Bs → Bs} {s : Sst} {v5 v6 : Value} {vals : List Value} (h : StM w wr l F s v5 v6 vals) (hb : Below wr.heap.size wr wr') : StM w wr' l F s v5 v6 vals :=
  ⟨own_to h.out hb, own_to h.opn hb, fun k hk => by
    obtain ⟨v, h1, h2⟩ := h.seg k hk
    exact ⟨v, h1, own_to h2 hb⟩, h.bel.trans (hb.mono h.bel.size)⟩
/-- a symbol is opened -/
theorem StM.push {w wr w' : World} {l : List Tok} {F : Bs → Bs} {s : Sst} {v5 v6 v' : Value} {vals : List Value} {x y : Bs} (h : StM w wr l F s v5 v6 vals) (hy : F x = y)
    (ho : w'.ownsRow w.heap.size 9 1 v' (s.op.length + 1) (opRow F s.op ++ [.string (bS y)])) (hg : wr.grownBy w' v6.ownBlock) (hb : Below w.heap.size wr w') : StM w w' l F { s with op := s.op ++ [x] } v5 v' vals := by
  refine ⟨own_other h.out h.opn (by decide) hg, ?_, fun k hk => ?_, h.bel.trans hb⟩
  · show w'.ownsRow _ _ _ _ (s.op ++ [x]).length (opRow F (s.op ++ [x]))
    unfold opRow at ho ⊢
    rw [List.length_append, List.map_append, List.map_singleton, hy]
    exact ho
  · obtain ⟨v, h1, h2⟩ := h.seg k hk
    exact ⟨v, h1, own_other h2 h.opn (by decide) hg⟩
/-- the last is closed -/
theorem StM.pop {w wr : World} {l : List Tok} {F : Bs → Bs} {s : Sst} {v5 : Value} {b c n : Nat} {vals : List Value} (h : StM w wr l F s v5 (.slice (some ⟨b, 0, none⟩) (n + 1) c) vals) (hn : s.op.length = n + 1) : StM w wr l F { s with op := s.op.dropLast } v5 (.slice (some ⟨b, 0, none⟩) n c) vals := by
  refine ⟨h.out, ?_, h.seg, h.bel⟩
  have ho := h.opn
  rw [hn] at ho
  have := own_less ho
  show wr.ownsRow _ _ _ _ s.op.dropLast.length (opRow F s.op.dropLast)
  unfold opRow at this ⊢
  rw [List.length_dropLast, hn, List.map_dropLast]
  exact this
/-- a statement ends -/
theorem StM.add {w wr w' : World} {l : List Tok} {F : Bs → Bs} {s : Sst} {v5 v6 v' vc : Value} {vals : List Value} {x : Nat × Nat} {b : Nat} (h : StM w wr l F s v5 v6 vals) (hc : wr.ownsRow w.heap.size 25 5 vc (segT l x).length (tkRow (segT l x)))
    (ho : w'.ownsRow w.heap.size 27 1 v' (s.out.length + 1) (vals ++ [vc])) (hg : wr.grownBy w' v5.ownBlock) (hb : Below w.heap.size wr w') : StM w w' l F { s with out := s.out ++ [x], beg := b } v' v6 (vals ++ [vc]) := by
  have hvl : vals.length = s.out.length := by have := h.out.1; omega
  refine ⟨?_, own_other h.opn h.out (by decide) hg, fun k hk => ?_, h.bel.trans hb⟩
  · show w'.ownsRow _ _ _ _ (s.out ++ [x]).length _
    rw [List.length_append]
    exact ho
  · have hk : k < (s.out ++ [x]).length := hk
    show ∃ v, (vals ++ [vc])[k]? = some v ∧ w'.ownsRow _ _ _ v (segT l ((s.out ++ [x])[k])).length (tkRow (segT l ((s.out ++ [x])[k])))
    rcases Nat.lt_or_ge k s.out.length with c | c
    · obtain ⟨v, h1, h2⟩ := h.seg k c
      refine ⟨v, by rw [List.getElem?_append_left (by omega)]; exact h1, ?_⟩
      rw [List.getElem_append_left c]
      exact own_other h2 h.out (by decide) hg
    · obtain rfl : k = s.out.length := by rw [List.length_append, List.length_singleton] at hk; omega
      refine ⟨vc, by rw [← hvl, List.getElem?_append_right (Nat.le_refl _)]; simp, ?_⟩
      rw [List.getElem_append_right (Nat.le_refl _)]
      simp only [Nat.sub_self, List.getElem_singleton]
      exact own_other hc h.out (by decide) hg
/-- what Statements hands back -/
def SmR (l : List Tok) (w : World) (e : Ending) (w' : World) : Prop := match stmts l with
  | .ok xs => ∃ v vals, e = .returned (.tuple #[v, .int .i64 0, .int .i64 0]) ∧ w'.ownsRow w.heap.size 27 1 v xs.length vals ∧ (∀ k (h : k < xs.length), ∃ u, vals[k]? = some u ∧ w'.ownsRow w.heap.size 25 5 u (segT l xs[k]).length (tkRow (segT l xs[k]))) ∧ Below w.heap.size w w'
  | .error n => e = .returned (.tuple #[.slice none 0 0, .int .i64 n, .int .i64 2]) ∧ Below w.heap.size w w'
theorem SmR.ok {l : List Tok} {w w' : World} {F : Bs → Bs} {s : Sst} {v5 v6 : Value} {vals : List Value} (h : stmts l = .ok s.out) (S : StM w w' l F s v5 v6 vals) : SmR l w (.returned (.tuple #[v5, .int .i64 0, .int .i64 0])) w' := by
  unfold SmR; rw [h]; exact ⟨v5, vals, rfl, S.out, S.seg, S.bel⟩
theorem SmR.err {l : List Tok} {w w' : World} {n : Int} (h : stmts l = .error n) (hb : Below w.heap.size w w') : SmR l w (.returned (.tuple #[.slice none 0 0, .int .i64 n, .int .i64 2])) w' := by
  unfold SmR; rw [h]; exact ⟨rfl, hb⟩
theorem closing_any (x : Bs) (w : World) : Calls Tryd.prog 52 #[.string (bS x)] w fun e w' => e = .returned (.string (bS (closeS x))) ∧ w = w' := by
  unfold closeS
  by_cases h1 : x = [123]
  · subst h1
    go_enter Tryd.func52, Tryd.ntmps52
    go_wp2
    go_ret
    exact ⟨rfl, rfl⟩
  have t1 : (x == [123]) = false := beq_eq_false_iff_ne.2 h1
  rw [if_neg h1]
  by_cases h2 : x = [40]
  · subst h2
    go_enter Tryd.func52, Tryd.ntmps52
    go_wp2
    go_ret
    exact ⟨rfl, rfl⟩
  have t2 : (x == [40]) = false := beq_eq_false_iff_ne.2 h2
  rw [if_neg h2]
  by_cases h3 : x = [91]
  · subst h3
    go_enter Tryd.func52, Tryd.ntmps52
    go_wp2
    go_ret
    exact ⟨rfl, rfl⟩
  have t3 : (x == [91]) = false := beq_eq_false_iff_ne.2 h3
  rw [if_neg h3]
  clear h1 h2 h3
  go_enter Tryd.func52, Tryd.ntmps52
  go_wp2
  go_ret
  exact ⟨rfl, rfl⟩
theorem partner_any (x : Bs) (w : World) : Calls Tryd.prog 53 #[.string (bS x)] w fun e w' => e = .returned (.string (bS (openS x))) ∧ w = w' := by
  unfold openS
  by_cases h1 : x = [125]
  · subst h1
    go_enter Tryd.func53, Tryd.ntmps53
    go_wp2
    go_ret
    exact ⟨rfl, rfl⟩
  have t1 : (x == [125]) = false := beq_eq_false_iff_ne.2 h1
  rw [if_neg h1]
  by_cases h2 : x = [41]
  · subst h2
    go_enter Tryd.func53, Tryd.ntmps53
    go_wp2
    go_ret
    exact ⟨rfl, rfl⟩
  have t2 : (x == [41]) = false := beq_eq_false_iff_ne.2 h2
  rw [if_neg h2]
  by_cases h3 : x = [93]
  · subst h3
    go_enter Tryd.func53, Tryd.ntmps53
    go_wp2
    go_ret
    exact ⟨rfl, rfl⟩
  have t3 : (x == [93]) = false := beq_eq_false_iff_ne.2 h3
  rw [if_neg h3]
  clear h1 h2 h3
  go_enter Tryd.func53, Tryd.ntmps53
  go_wp2
  go_ret
  exact ⟨rfl, rfl⟩
end Go.Proofs.YtmhnocgoknmljaaDoor
