/-
  CONTRACT of the program's Statements.
  Conditions: those that each theorem names.
-/
import Derived.Test.YtmhnocgoknmljaaDoorLyL
import Derived.Test.YtmhnocgoknmljaaDoorLyB
namespace Go.Proofs.YtmhnocgoknmljaaDoor
open Go.RowKit Go.Sv Go.Lx
theorem open3 (x : Bs) : (openS x).isEmpty = !((x == [125]) || (x == [41]) || (x == [93])) := by
  unfold openS
  by_cases h1 : x = [125]
  · subst h1; rfl
  · rw [if_neg h1, beq_eq_false_iff_ne.2 h1]
    by_cases h2 : x = [41]
    · subst h2; rfl
    · rw [if_neg h2, beq_eq_false_iff_ne.2 h2]
      by_cases h3 : x = [93]
      · subst h3; rfl
      · rw [if_neg h3, beq_eq_false_iff_ne.2 h3]; rfl
theorem isE_nil {x : Bs} (h : x.isEmpty = true) : x = [] := by cases x with | nil => rfl | cons c r => cases h
theorem isE_not {x : Bs} (h : x.isEmpty = false) : x ≠ [] := by intro e; subst e; cases h
/-- the last opening symbol, by its row -/
theorem last_op {op : List Bs} {n : Nat} (h : op.length = n + 1) : ∃ o, op.getLast? = some o ∧ o ∈ op ∧ op[n]? = some o := by
  have hne : op ≠ [] := by intro e; subst e; simp at h
  refine ⟨op.getLast hne, List.getLast?_eq_some_getLast hne, List.getLast_mem hne, ?_⟩
  rw [List.getLast_eq_getElem hne]
  have : op.length - 1 = n := by omega
  simp only [this]
  exact List.getElem?_eq_getElem (by omega)
theorem opRow_at {F : Bs → Bs} {op : List Bs} {n : Nat} {o : Bs} (h : op[n]? = some o) : (opRow F op)[n]? = some (.string (bS (F o))) := by
  unfold opRow; rw [List.getElem?_map, h]; rfl
theorem own_one {w : World} {base n : Nat} {e : TypeId} {size : Nat} {v : Value} {xs : List Value} (h : w.ownsRow base e size v n xs) : [v].all (·.oneCell') = true := by
  obtain ⟨A, c, rfl, _⟩ := own_form h
  rfl
theorem StM.push' {w wr w' : World} {l : List Tok} {F : Bs → Bs} {s : Sst} {v5 v6 v' : Value} {vals : List Value} {x y : Bs} {o : Obj} (h : StM w wr l F s v5 v6 vals) (hy : F x = y)
    (ho : w'.ownsRow w.heap.size 9 1 v' (s.op.length + 1) (opRow F s.op ++ [.string (bS y)])) (hg : (wr.alloc o).grownBy w' v6.ownBlock) : StM w w' l F { s with op := s.op ++ [x] } v5 v' vals := by
  have h' := h.to ((Below.refl _ _).alloc (Nat.le_refl _) o)
  exact h'.push hy ho hg (own_below h'.opn hg h'.bel.size)
theorem StM.add' {w wr w' : World} {l : List Tok} {F : Bs → Bs} {s : Sst} {v5 v6 v' vc : Value} {vals : List Value} {x : Nat × Nat} {b : Nat} {o : Obj} (h : StM w wr l F s v5 v6 vals) (hc : wr.ownsRow w.heap.size 25 5 vc (segT l x).length (tkRow (segT l x)))
    (ho : w'.ownsRow w.heap.size 27 1 v' (s.out.length + 1) (vals ++ [vc])) (hg : (wr.alloc o).grownBy w' v5.ownBlock) : StM w w' l F { s with out := s.out ++ [x], beg := b } v' v6 (vals ++ [vc]) := by
  have h' := h.to ((Below.refl _ _).alloc (Nat.le_refl _) o)
  exact h'.add (own_to hc ((Below.refl _ _).alloc (Nat.le_refl _) o)) ho hg (own_below h'.out hg h'.bel.size)
theorem own_weak {w : World} {base base' : Nat} {e : TypeId} {size n : Nat} {v : Value} {xs : List Value} (h : w.ownsRow base e size v n xs) (hb : base' ≤ base) : w.ownsRow base' e size v n xs :=
  ⟨h.1, h.2.imp id fun ⟨g, cap, cur, h1, h2, h3⟩ => ⟨g, cap, cur, h1, Nat.le_trans hb h2, h3⟩⟩
theorem segT_len {l : List Tok} {a b : Nat} (hb : b ≤ l.length) : (segT l (a, b)).length = b - a := by
  unfold segT
  rw [List.length_take, List.length_drop]
  omega
theorem tks_seg {w : World} {b off a e : Nat} {l : List Tok} (h : ∀ j, j < l.length → ∀ i, i < 5 → w.cell? ⟨b, off + j * 5 + i, none⟩ = some (tkF l j i)) (hb : b < w.heap.size) (he : e ≤ l.length) :
    RTks w w.heap.size (some ⟨b, off + a * 5, none⟩) (segT l (a, e)) := fun _ => by
  refine ⟨b, off + a * 5, rfl, hb, fun j hj i hi => ?_⟩
  rw [segT_len he] at hj
  have h1 := h (a + j) (by omega) i hi
  rw [show off + a * 5 + j * 5 + i = off + (a + j) * 5 + i by omega, h1]
  unfold tkF
  congr 2
  rw [tkAt_get (show a + j < l.length by omega), tkAt_get (show j < (segT l (a, e)).length by rw [segT_len he]; exact hj)]
  unfold segT
  simp
theorem last_line {l : List Tok} (h : 0 < l.length) : (l.getLast?.map Tok.line).getD 0 = (tkAt l (l.length - 1)).line := by
  have hne : l ≠ [] := by intro e; subst e; simp at h
  rw [List.getLast?_eq_some_getLast hne, List.getLast_eq_getElem hne, tkAt_get (by omega)]
  rfl
set_option maxHeartbeats 4000000 in
set_option maxRecDepth 100000 in
theorem stm_any (A : Option Addr) (c : Nat) (l : List Tok) (w : World) (ha : RTks w w.heap.size A l) (hA : A = none → l.length = 0 ∧ c = 0) (hcap : l.length ≤ c) (hn : l.length ≤ 1000000) :
    Calls Tryd.prog 30 #[.slice A l.length c] w (SmR l w) := by
  have HC := Lib.hid (fun x W => closing_any x W)
  have HK := Lib.hid (fun A c m W h1 h2 h3 => cloneT_any A c m W h1 h2 h3)
  have hOk := Lib.hid (fun F s v5 v6 vals w' h1 h2 => SmR.ok (l := l) (w := w) (w' := w') (F := F) (s := s) (v5 := v5) (v6 := v6) (vals := vals) h1 h2)
  have hEr := Lib.hid (fun n w' h1 h2 => SmR.err (l := l) (w := w) (w' := w') (n := n) h1 h2)
  go_enter Tryd.func30, Tryd.ntmps30
  go_wp2
  go_loopw [5, 6, 7, 12] (fun s5 s6 s7 s12 wr => ∃ (i : Nat) (s : Sst) (vals : List Value), s12 = .int .i64 i ∧ s7 = .int .i64 s.beg ∧ SI l i s ∧ StM w wr l closeS s s5 s6 vals) (fun _ _ _ s12 _ => l.length - (intOf s12).toNat)
  case atStart => exact ⟨0, ⟨[], [], 0⟩, [], rfl, rfl, SI.start l, StM.start w l closeS⟩
  case round =>
    obtain ⟨i, s, vals, rfl, rfl, q, S⟩ := hrel
    have q1 := q.le
    have q2 := q.ol
    have q3 := q.rl
    have q4 := q.bg
    replace q := Lib.hid q
    have hB := S.bel.size
    by_cases hlt : i < l.length
    · obtain ⟨b, off, rfl, hb, hcl⟩ := ha (by omega)
      obtain ⟨c0, c1, c2, c3, c4⟩ := tk_cells (w := wr) (fun j hj => (S.bel.cell (p := ⟨b, off + i * 5 + j, none⟩) hb).trans (hcl i hlt j hj))
      have hbw : b < wr.heap.size := by omega
      have j1 : (i : Int) < (l.length : Int) := by omega
      have eli : l[i] = tkAt l i := (tkAt_get hlt).symm
      have qk := Lib.hid (fun e => q.out.skip hlt e)
      have qo := Lib.hid (fun h4 ho => q.out.opn hlt h4 ho)
      have qc := Lib.hid (fun h4 ho hc e => q.out.cls hlt h4 ho hc e)
      have qb := Lib.hid (fun h4 ho hc e => q.out.bad hlt h4 ho hc e)
      have qs := Lib.hid (fun h4 e ho => q.out.semi hlt h4 e ho)
      have hco := Lib.hid q.out.co
      rw [eli] at qk qo qc qb qs
      obtain ⟨t, htt⟩ : ∃ t, tkAt l i = t := ⟨_, rfl⟩
      rw [htt] at c0 c1 c2 c3 c4 qk qo qc qb qs
      obtain ⟨k, x, n, st, ln⟩ := t
      dsimp only at c0 c1 c2 c3 c4 qk qo qc qb qs
      obtain ⟨W, hW, F⟩ : ∃ W, wr.alloc (.cells #[.int .i64 k, .string (bS x), .int .i64 n, .string (bS st), .int .i64 ln] 25) = W ∧ Fm wr W [⟨wr.heap.size, 25, [.int .i64 k, .string (bS x), .int .i64 n, .string (bS st), .int .i64 ln]⟩] [] :=
        ⟨_, rfl, (Fm.init wr).box 25 _⟩
      have SW := S.to F.bel
      have haW := Lib.hid (RTks.to ha SW.bel)
      obtain ⟨⟨z1, f1, y10, y11, y12, y13, y14, -⟩, -⟩ := F.facts
      have hBW := SW.bel.size
      have hcl' := Lib.hid hcl
      clear hcl htt eli S F
      by_cases k4 : k = 4
      · subst k4
        cases hcs : (closeS x).isEmpty with
        | false =>
          obtain ⟨cl, hcl'⟩ : ∃ cl, closeS x = cl := ⟨_, rfl⟩
          have HC1 := Lib.hid (HC.out x W)
          rw [hcl'] at HC1 hcs
          have q' := Lib.hid (qo.out rfl (by rw [hcl']; exact isE_not hcs))
          have hcl2 := Lib.hid hcl'
          have hov := Lib.hid SW
          replace SW := Lib.hid SW
          replace ha := Lib.hid ha
          clear hcl' qk qo qc qb qs
          go_wp2_with fail
          refine HC1.out.mono ?_
          rintro e w' ⟨rfl, rfl⟩
          go_wp2_with fail
          refine HC1.out.mono ?_
          rintro e w' ⟨rfl, rfl⟩
          clear HC1 hcs
          go_wp2_with (at_builtin; refine push_own elStr rfl _ _ rfl w.heap.size _ s.op.length _ SW.out.opn rfl [.string (bS cl)] rfl rfl rfl (by omega) (by omega) hBW ?_)
          intro v' w5 hown5 hg5 hb5 hs5 _
          have hS := Lib.hid (SW.out.push' hcl2.out hown5 hg5)
          clear hown5 hg5 hb5 hs5
          go_wp2
          go_roundw
          case rel => exact ⟨i + 1, { s with op := s.op ++ [x] }, vals, by go_num, rfl, q'.out, hS.out⟩
          case measure => simp [intOf]; omega
        | true =>
          have hcn := isE_nil hcs
          by_cases hx : x = [125]
          · subst hx
            have hop : openS [125] = [123] := rfl
            cases hol : s.op.length with
            | zero =>
              have herr := Lib.hid (qb.out rfl rfl (by decide) (by
                have : s.op = [] := List.length_eq_zero_iff.1 hol
                rw [this]; simp))
              obtain ⟨A6, c6, rfl, _, _, _⟩ := own_form SW.opn
              rw [hol] at *
              replace SW := Lib.hid SW
              replace ha := Lib.hid ha
              replace hol := Lib.hid hol
              clear qk qo qc qb qs hop
              go_wp2_with fail
              refine (HC.out _ _).mono ?_
              rintro e w' ⟨rfl, rfl⟩
              go_wp2_with fail
              go_big_quiet (fail)
              go_wp2_with fail
              go_big_quiet (fail)
              have hR := Lib.hid (fun w' (hd : Drawn W w') => hEr.out ln w' herr.out (SW.out.bel.drawn hd))
              go_wp2
              refine bodyPost_ret (v := .tuple #[.slice none 0 0, .int .i64 ln, .int .i64 2]) (by simp [results, Tryd.results30, go_sem]) rfl ?_
              exact (by first | exact hR.out _ (Drawn.of _) | exact hR.out _ ((Drawn.of _).drewN _))
            | succ m =>
              obtain ⟨o, ho1, ho2, ho3⟩ := last_op hol
              have hoc := hco.out o ho2
              have hiff := close_open hoc (show openS [125] ≠ [] by decide)
              obtain ⟨A6, c6, rfl, hc6, hm6, hcell⟩ := own_form SW.opn
              rw [hol] at hc6 hcell
              obtain ⟨g6, rfl, hg6, hl6, hcell⟩ := hcell (by omega)
              have x6 := (hcell m (by omega)).trans (opRow_at ho3)
              have w1 : IntKind.i64.wrap (((m + 1 : Nat) : Int) - 1) = (m : Int) := by simp [IntKind.wrap, IntKind.bits, IntKind.signed]; omega
              have w1' : IntKind.i64.wrap ((m : Int) + 1 - 1) = (m : Int) := by simp [IntKind.wrap, IntKind.bits, IntKind.signed]; omega
              have w2 : (m : Int) + 1 - 1 = (m : Int) := by omega
              have w3 : IntKind.i64.wrap (m : Int) = (m : Int) := by simp [IntKind.wrap, IntKind.bits, IntKind.signed]; omega
              have m1 : decide (((m + 1 : Nat) : Int) = 0) = false := decide_eq_false (by omega)
              have m2 : (((m + 1 : Nat) : Int) == 0) = false := beq_eq_false_iff_ne.2 (by omega)
              have m3 : (m : Int) < (m : Int) + 1 := by omega
              have m4 : ((m : Int) + 1 == 0) = false := beq_eq_false_iff_ne.2 (by omega)
              have m5 : ((m : Int) + 1 = 0) = False := by simp; omega
              by_cases he : closeS o = [125]
              · have q' := Lib.hid (qc.out rfl rfl (by decide) (by rw [ho1, ← hiff.1 he]))
                rw [he] at x6
                have hSp := SW
                rw [hol] at hSp
                have hS := Lib.hid (hSp.pop hol)
                rw [hol]
                replace SW := Lib.hid SW
                replace ha := Lib.hid ha
                replace hol := Lib.hid hol
                clear qk qo qc qb qs hop he hiff hcell hSp ho1 ho2 ho3 hoc
                go_wp2_with fail
                refine (HC.out _ _).mono ?_
                rintro e w' ⟨rfl, rfl⟩
                go_wp2_with fail
                go_big_quiet (fail)
                go_wp2
                go_roundw
                case rel => exact ⟨i + 1, { s with op := s.op.dropLast }, vals, by go_num, rfl, q'.out, hS.out.to (Drawn.of _).below⟩
                case measure => simp [intOf]; omega
              · have hx6 : (closeS o == [125]) = false := beq_eq_false_iff_ne.2 he
                have herr := Lib.hid (qb.out rfl rfl (by decide) (by
                  rw [ho1]
                  intro h
                  exact he (hiff.2 (Option.some.inj h))))
                obtain ⟨co, hco'⟩ : ∃ co, closeS o = co := ⟨_, rfl⟩
                rw [hco'] at x6 hx6
                rw [hol]
                replace SW := Lib.hid SW
                replace ha := Lib.hid ha
                replace hol := Lib.hid hol
                clear qk qo qc qb qs hop he hiff hcell ho1 ho2 ho3 hoc hco'
                go_wp2_with fail
                refine (HC.out _ _).mono ?_
                rintro e w' ⟨rfl, rfl⟩
                go_wp2_with fail
                go_big_quiet (fail)
                go_wp2_with fail
                go_big_quiet (fail)
                have hR := Lib.hid (fun w' (hd : Drawn W w') => hEr.out ln w' herr.out (SW.out.bel.drawn hd))
                go_wp2
                refine bodyPost_ret (v := .tuple #[.slice none 0 0, .int .i64 ln, .int .i64 2]) (by simp [results, Tryd.results30, go_sem]) rfl ?_
                exact (by first | exact hR.out _ (Drawn.of _) | exact hR.out _ ((Drawn.of _).drewN _))
          by_cases hx2 : x = [41]
          · subst hx2
            have hop : openS [41] = [40] := rfl
            cases hol : s.op.length with
            | zero =>
              have herr := Lib.hid (qb.out rfl rfl (by decide) (by
                have : s.op = [] := List.length_eq_zero_iff.1 hol
                rw [this]; simp))
              obtain ⟨A6, c6, rfl, _, _, _⟩ := own_form SW.opn
              rw [hol] at *
              replace SW := Lib.hid SW
              replace ha := Lib.hid ha
              replace hol := Lib.hid hol
              clear qk qo qc qb qs hop
              go_wp2_with fail
              refine (HC.out _ _).mono ?_
              rintro e w' ⟨rfl, rfl⟩
              go_wp2_with fail
              go_big_quiet (fail)
              go_wp2_with fail
              go_big_quiet (fail)
              have hR := Lib.hid (fun w' (hd : Drawn W w') => hEr.out ln w' herr.out (SW.out.bel.drawn hd))
              go_wp2
              refine bodyPost_ret (v := .tuple #[.slice none 0 0, .int .i64 ln, .int .i64 2]) (by simp [results, Tryd.results30, go_sem]) rfl ?_
              exact (by first | exact hR.out _ (Drawn.of _) | exact hR.out _ ((Drawn.of _).drewN _))
            | succ m =>
              obtain ⟨o, ho1, ho2, ho3⟩ := last_op hol
              have hoc := hco.out o ho2
              have hiff := close_open hoc (show openS [41] ≠ [] by decide)
              obtain ⟨A6, c6, rfl, hc6, hm6, hcell⟩ := own_form SW.opn
              rw [hol] at hc6 hcell
              obtain ⟨g6, rfl, hg6, hl6, hcell⟩ := hcell (by omega)
              have x6 := (hcell m (by omega)).trans (opRow_at ho3)
              have w1 : IntKind.i64.wrap (((m + 1 : Nat) : Int) - 1) = (m : Int) := by simp [IntKind.wrap, IntKind.bits, IntKind.signed]; omega
              have w1' : IntKind.i64.wrap ((m : Int) + 1 - 1) = (m : Int) := by simp [IntKind.wrap, IntKind.bits, IntKind.signed]; omega
              have w2 : (m : Int) + 1 - 1 = (m : Int) := by omega
              have w3 : IntKind.i64.wrap (m : Int) = (m : Int) := by simp [IntKind.wrap, IntKind.bits, IntKind.signed]; omega
              have m1 : decide (((m + 1 : Nat) : Int) = 0) = false := decide_eq_false (by omega)
              have m2 : (((m + 1 : Nat) : Int) == 0) = false := beq_eq_false_iff_ne.2 (by omega)
              have m3 : (m : Int) < (m : Int) + 1 := by omega
              have m4 : ((m : Int) + 1 == 0) = false := beq_eq_false_iff_ne.2 (by omega)
              have m5 : ((m : Int) + 1 = 0) = False := by simp; omega
              by_cases he : closeS o = [41]
              · have q' := Lib.hid (qc.out rfl rfl (by decide) (by rw [ho1, ← hiff.1 he]))
                rw [he] at x6
                have hSp := SW
                rw [hol] at hSp
                have hS := Lib.hid (hSp.pop hol)
                rw [hol]
                replace SW := Lib.hid SW
                replace ha := Lib.hid ha
                replace hol := Lib.hid hol
                clear qk qo qc qb qs hop he hiff hcell hSp ho1 ho2 ho3 hoc
                go_wp2_with fail
                refine (HC.out _ _).mono ?_
                rintro e w' ⟨rfl, rfl⟩
                go_wp2_with fail
                go_big_quiet (fail)
                go_wp2
                go_roundw
                case rel => exact ⟨i + 1, { s with op := s.op.dropLast }, vals, by go_num, rfl, q'.out, hS.out.to (Drawn.of _).below⟩
                case measure => simp [intOf]; omega
              · have hx6 : (closeS o == [41]) = false := beq_eq_false_iff_ne.2 he
                have herr := Lib.hid (qb.out rfl rfl (by decide) (by
                  rw [ho1]
                  intro h
                  exact he (hiff.2 (Option.some.inj h))))
                obtain ⟨co, hco'⟩ : ∃ co, closeS o = co := ⟨_, rfl⟩
                rw [hco'] at x6 hx6
                rw [hol]
                replace SW := Lib.hid SW
                replace ha := Lib.hid ha
                replace hol := Lib.hid hol
                clear qk qo qc qb qs hop he hiff hcell ho1 ho2 ho3 hoc hco'
                go_wp2_with fail
                refine (HC.out _ _).mono ?_
                rintro e w' ⟨rfl, rfl⟩
                go_wp2_with fail
                go_big_quiet (fail)
                go_wp2_with fail
                go_big_quiet (fail)
                have hR := Lib.hid (fun w' (hd : Drawn W w') => hEr.out ln w' herr.out (SW.out.bel.drawn hd))
                go_wp2
                refine bodyPost_ret (v := .tuple #[.slice none 0 0, .int .i64 ln, .int .i64 2]) (by simp [results, Tryd.results30, go_sem]) rfl ?_
                exact (by first | exact hR.out _ (Drawn.of _) | exact hR.out _ ((Drawn.of _).drewN _))
          by_cases hx3 : x = [93]
          · subst hx3
            have hop : openS [93] = [91] := rfl
            cases hol : s.op.length with
            | zero =>
              have herr := Lib.hid (qb.out rfl rfl (by decide) (by
                have : s.op = [] := List.length_eq_zero_iff.1 hol
                rw [this]; simp))
              obtain ⟨A6, c6, rfl, _, _, _⟩ := own_form SW.opn
              rw [hol] at *
              replace SW := Lib.hid SW
              replace ha := Lib.hid ha
              replace hol := Lib.hid hol
              clear qk qo qc qb qs hop
              go_wp2_with fail
              refine (HC.out _ _).mono ?_
              rintro e w' ⟨rfl, rfl⟩
              go_wp2_with fail
              go_big_quiet (fail)
              go_wp2_with fail
              go_big_quiet (fail)
              have hR := Lib.hid (fun w' (hd : Drawn W w') => hEr.out ln w' herr.out (SW.out.bel.drawn hd))
              go_wp2
              refine bodyPost_ret (v := .tuple #[.slice none 0 0, .int .i64 ln, .int .i64 2]) (by simp [results, Tryd.results30, go_sem]) rfl ?_
              exact (by first | exact hR.out _ (Drawn.of _) | exact hR.out _ ((Drawn.of _).drewN _))
            | succ m =>
              obtain ⟨o, ho1, ho2, ho3⟩ := last_op hol
              have hoc := hco.out o ho2
              have hiff := close_open hoc (show openS [93] ≠ [] by decide)
              obtain ⟨A6, c6, rfl, hc6, hm6, hcell⟩ := own_form SW.opn
              rw [hol] at hc6 hcell
              obtain ⟨g6, rfl, hg6, hl6, hcell⟩ := hcell (by omega)
              have x6 := (hcell m (by omega)).trans (opRow_at ho3)
              have w1 : IntKind.i64.wrap (((m + 1 : Nat) : Int) - 1) = (m : Int) := by simp [IntKind.wrap, IntKind.bits, IntKind.signed]; omega
              have w1' : IntKind.i64.wrap ((m : Int) + 1 - 1) = (m : Int) := by simp [IntKind.wrap, IntKind.bits, IntKind.signed]; omega
              have w2 : (m : Int) + 1 - 1 = (m : Int) := by omega
              have w3 : IntKind.i64.wrap (m : Int) = (m : Int) := by simp [IntKind.wrap, IntKind.bits, IntKind.signed]; omega
              have m1 : decide (((m + 1 : Nat) : Int) = 0) = false := decide_eq_false (by omega)
              have m2 : (((m + 1 : Nat) : Int) == 0) = false := beq_eq_false_iff_ne.2 (by omega)
              have m3 : (m : Int) < (m : Int) + 1 := by omega
              have m4 : ((m : Int) + 1 == 0) = false := beq_eq_false_iff_ne.2 (by omega)
              have m5 : ((m : Int) + 1 = 0) = False := by simp; omega
              by_cases he : closeS o = [93]
              · have q' := Lib.hid (qc.out rfl rfl (by decide) (by rw [ho1, ← hiff.1 he]))
                rw [he] at x6
                have hSp := SW
                rw [hol] at hSp
                have hS := Lib.hid (hSp.pop hol)
                rw [hol]
                replace SW := Lib.hid SW
                replace ha := Lib.hid ha
                replace hol := Lib.hid hol
                clear qk qo qc qb qs hop he hiff hcell hSp ho1 ho2 ho3 hoc
                go_wp2_with fail
                refine (HC.out _ _).mono ?_
                rintro e w' ⟨rfl, rfl⟩
                go_wp2_with fail
                go_big_quiet (fail)
                go_wp2
                go_roundw
                case rel => exact ⟨i + 1, { s with op := s.op.dropLast }, vals, by go_num, rfl, q'.out, hS.out.to (Drawn.of _).below⟩
                case measure => simp [intOf]; omega
              · have hx6 : (closeS o == [93]) = false := beq_eq_false_iff_ne.2 he
                have herr := Lib.hid (qb.out rfl rfl (by decide) (by
                  rw [ho1]
                  intro h
                  exact he (hiff.2 (Option.some.inj h))))
                obtain ⟨co, hco'⟩ : ∃ co, closeS o = co := ⟨_, rfl⟩
                rw [hco'] at x6 hx6
                rw [hol]
                replace SW := Lib.hid SW
                replace ha := Lib.hid ha
                replace hol := Lib.hid hol
                clear qk qo qc qb qs hop he hiff hcell ho1 ho2 ho3 hoc hco'
                go_wp2_with fail
                refine (HC.out _ _).mono ?_
                rintro e w' ⟨rfl, rfl⟩
                go_wp2_with fail
                go_big_quiet (fail)
                go_wp2_with fail
                go_big_quiet (fail)
                have hR := Lib.hid (fun w' (hd : Drawn W w') => hEr.out ln w' herr.out (SW.out.bel.drawn hd))
                go_wp2
                refine bodyPost_ret (v := .tuple #[.slice none 0 0, .int .i64 ln, .int .i64 2]) (by simp [results, Tryd.results30, go_sem]) rfl ?_
                exact (by first | exact hR.out _ (Drawn.of _) | exact hR.out _ ((Drawn.of _).drewN _))
          have p1 : (x == [125]) = false := beq_eq_false_iff_ne.2 hx
          have p2 : (x == [41]) = false := beq_eq_false_iff_ne.2 hx2
          have p3 : (x == [93]) = false := beq_eq_false_iff_ne.2 hx3
          have hon : openS x = [] := isE_nil (by rw [open3, p1, p2, p3]; rfl)
          have HC1 := Lib.hid (HC.out x W)
          rw [hcn] at HC1
          clear hx hx2 hx3 hcs
          by_cases h59 : x = [59]
          · subst h59
            cases hol : s.op.length with
            | zero =>
              have hnil : s.op = [] := List.length_eq_zero_iff.1 hol
              have q' := Lib.hid (qs.out rfl rfl hnil)
              have hseg := tks_seg (a := s.beg) (e := i) (l := l) (fun j hj k hk => (SW.bel.cell (p := ⟨b, off + j * 5 + k, none⟩) hb).trans (hcl'.out j hj k hk)) (Nat.lt_of_lt_of_le hb SW.bel.size) (Nat.le_of_lt hlt)
              have hsl := segT_len (l := l) (a := s.beg) (b := i) (Nat.le_of_lt hlt)
              have HK1 := HK.out _ (c - s.beg) _ W hseg (fun h => by cases h) (by rw [hsl]; omega)
              rw [hsl] at HK1
              replace HK1 := Lib.hid HK1
              obtain ⟨A6, c6, rfl, _, _, _⟩ := own_form SW.opn
              rw [hol] at *
              have k1 : (s.beg : Int) ≤ (i : Int) := by omega
              have k2 : (i : Int) ≤ (c : Int) := by omega
              have k3 : (0 : Int) ≤ (s.beg : Int) := by omega
              have k4 : i ≤ c := by omega
              replace SW := Lib.hid SW
              replace ha := Lib.hid ha
              replace hol := Lib.hid hol
              clear qk qo qc qb qs hseg hsl hnil
              go_wp2_with fail
              refine HC1.out.mono ?_
              rintro e w' ⟨rfl, rfl⟩
              go_wp2_with fail
              refine HK1.out.mono ?_
              rintro e w3 ⟨vc, rfl, hownc, hb3⟩
              have hS3 := Lib.hid (SW.out.to hb3)
              have hB3 : w.heap.size ≤ w3.heap.size := hS3.out.bel.size
              obtain ⟨Ac, cc, rfl, _, _, _⟩ := own_form hownc
              have hcw := Lib.hid (own_weak hownc hBW)
              have hvl : Hid (vals.length = s.out.length) := Lib.hid (by have := SW.out.out.1; omega)
              clear hownc hb3 HK1 HC1
              go_wp2_with (at_builtin; refine push_own elSl rfl _ _ rfl w.heap.size _ s.out.length _ hS3.out.out rfl [.slice Ac _ cc] rfl rfl rfl (by omega) (by omega) hB3 ?_)
              intro v' w5 hown5 hg5 hb5 hs5 _
              have hS := Lib.hid (hS3.out.add' (b := i + 1) hcw.out hown5 hg5)
              clear hown5 hg5 hb5 hs5
              go_wp2
              go_roundw
              case rel => exact ⟨i + 1, { s with out := s.out ++ [(s.beg, i)], beg := i + 1 }, _, by go_num, by go_num, q'.out, hS.out⟩
              case measure => simp [intOf]; omega
            | succ m =>
              have q' := Lib.hid (qk.out (step_other rfl rfl (fun h => by have := h.2; rw [this] at hol; simp at hol)))
              obtain ⟨A6, c6, rfl, _, _, _⟩ := own_form SW.opn
              have m2 : ((s.op.length : Int) == 0) = false := beq_eq_false_iff_ne.2 (by omega)
              have m2' : (s.op.length == 0) = false := beq_eq_false_iff_ne.2 (by omega)
              replace hol := Lib.hid hol
              replace SW := Lib.hid SW
              replace ha := Lib.hid ha
              clear qk qo qc qb qs
              go_wp2_with fail
              refine HC1.out.mono ?_
              rintro e w' ⟨rfl, rfl⟩
              go_wp2
              go_roundw
              case rel => exact ⟨i + 1, s, vals, by go_num, rfl, q'.out, SW.out⟩
              case measure => simp [intOf]; omega
          · have p4 : (x == [59]) = false := beq_eq_false_iff_ne.2 h59
            have q' := Lib.hid (qk.out (step_other hcn hon (fun h => h59 h.1)))
            clear h59
            replace SW := Lib.hid SW
            replace ha := Lib.hid ha
            clear qk qo qc qb qs
            go_wp2_with fail
            refine HC1.out.mono ?_
            rintro e w' ⟨rfl, rfl⟩
            go_wp2
            go_roundw
            case rel => exact ⟨i + 1, s, vals, by go_num, rfl, q'.out, SW.out⟩
            case measure => simp [intOf]; omega
      · have t4 : (k == 4) = false := beq_eq_false_iff_ne.2 k4
        have q' := Lib.hid (qk.out (step_kind k4))
        replace SW := Lib.hid SW
        replace ha := Lib.hid ha
        clear k4 qk qo qc qb qs
        go_wp2
        go_roundw
        case rel => exact ⟨i + 1, s, vals, by go_num, rfl, q'.out, SW.out⟩
        case measure => simp [intOf]; omega
    · obtain rfl : i = l.length := by omega
      have he := Lib.hid q.out.end_
      by_cases hbl : s.beg < l.length
      · obtain ⟨b, off, rfl, hb, hcl⟩ := ha (by omega)
        obtain ⟨c0, c1, c2, c3, c4⟩ := tk_cells (w := wr) (fun j hj => (S.bel.cell (p := ⟨b, off + (l.length - 1) * 5 + j, none⟩) hb).trans (hcl (l.length - 1) (by omega) j hj))
        have herr : Hid (stmts l = .error (tkAt l (l.length - 1)).line) := Lib.hid (by rw [he.out, if_pos hbl, last_line (by omega)])
        obtain ⟨ln, hln⟩ : ∃ ln, (tkAt l (l.length - 1)).line = ln := ⟨_, rfl⟩
        rw [hln] at c4 herr
        have w1 : IntKind.i64.wrap ((l.length : Int) - 1) = (l.length : Int) - 1 := by simp [IntKind.wrap, IntKind.bits, IntKind.signed]; omega
        have e1 : ((l.length : Int) - 1).toNat = l.length - 1 := by omega
        have k0 : (0 : Int) ≤ (l.length : Int) - 1 := by omega
        have k1 : (l.length : Int) - 1 < (l.length : Int) := by omega
        have k2 : (1 : Int) ≤ (l.length : Int) := by omega
        have k3 : ¬ ((l.length : Int) - 1 < 0) := by omega
        have k4 : 0 < l.length := by omega
        have k5 : decide ((s.beg : Int) < (l.length : Int)) = true := decide_eq_true (by omega)
        have k6 : decide (s.beg < l.length) = true := decide_eq_true hbl
        replace ha := Lib.hid ha
        replace S := Lib.hid S
        clear hcl hln hlt he q
        go_wp2_with fail
        go_big_quiet (fail)
        have hR := Lib.hid (fun w' (hd : Drawn wr w') => hEr.out ln w' herr.out (S.out.bel.drawn hd))
        go_wp2
        refine bodyPost_ret (v := .tuple #[.slice none 0 0, .int .i64 ln, .int .i64 2]) (by simp [results, Tryd.results30, go_sem]) rfl ?_
        exact hR.out _ (Drawn.of _)
      · have hok : stmts l = .ok s.out := by rw [he.out, if_neg hbl]
        have k5 : decide ((s.beg : Int) < (l.length : Int)) = false := decide_eq_false (by omega)
        have k6 : decide (s.beg < l.length) = false := decide_eq_false hbl
        have hR := Lib.hid (hOk.out _ _ _ _ _ _ hok S)
        clear S he q hok hbl hlt
        go_wp2
        refine bodyPost_ret (v := .tuple #[_, .int .i64 0, .int .i64 0]) (by simp [results, Tryd.results30, go_sem]; rfl) rfl ?_
        exact hR.out
end Go.Proofs.YtmhnocgoknmljaaDoor
