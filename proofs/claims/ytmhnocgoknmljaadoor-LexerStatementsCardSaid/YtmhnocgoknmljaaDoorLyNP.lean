/-
  CONTRACT of the reference's Statements.
  Conditions: those that each theorem names.
-/
import Derived.Test.YtmhnocgoknmljaaDoorLyM

namespace Go.Proofs.YtmhnocgoknmljaaDoor
open Go.RowKit Go.Sv Go.Lx
theorem close3 (x : Bs) : (closeS x).isEmpty = !((x == [123]) || (x == [40]) || (x == [91])) := by
  unfold closeS
  by_cases h1 : x = [123]
  · subst h1; rfl
  · rw [if_neg h1, beq_eq_false_iff_ne.2 h1]
    by_cases h2 : x = [40]
    · subst h2; rfl
    · rw [if_neg h2, beq_eq_false_iff_ne.2 h2]
      by_cases h3 : x = [91]
      · subst h3; rfl
      · rw [if_neg h3, beq_eq_false_iff_ne.2 h3]; rfl
set_option maxHeartbeats 4000000 in
set_option maxRecDepth 100000 in
theorem rstm_any (A : Option Addr) (c : Nat) (l : List Tok) (w : World) (ha : RTks w w.heap.size A l) (hA : A = none → l.length = 0 ∧ c = 0) (hcap : l.length ≤ c) (hn : l.length ≤ 1000000) :
    Calls Tryd.prog 31 #[.slice A l.length c] w (SmR l w) := by
  have HC := Lib.hid (fun x W => partner_any x W)
  have hOk := Lib.hid (fun F s v5 v6 vals w' h1 h2 => SmR.ok (l := l) (w := w) (w' := w') (F := F) (s := s) (v5 := v5) (v6 := v6) (vals := vals) h1 h2)
  have hEr := Lib.hid (fun n w' h1 h2 => SmR.err (l := l) (w := w) (w' := w') (n := n) h1 h2)
  go_enter Tryd.func31, Tryd.ntmps31
  go_wp2
  go_loopw [5, 6, 7, 8] (fun s5 s6 s7 s8 wr => ∃ (i : Nat) (s : Sst) (vals : List Value), s8 = .int .i64 i ∧ s7 = .int .i64 s.beg ∧ SI l i s ∧ StM w wr l id s s6 s5 vals) (fun _ _ _ s8 _ => l.length - (intOf s8).toNat)
  case atStart => exact ⟨0, ⟨[], [], 0⟩, [], rfl, rfl, SI.start l, StM.start w l id⟩
  case round =>
    obtain ⟨i, s, vals, rfl, rfl, q, SW⟩ := hrel
    have q1 := q.le
    have q2 := q.ol
    have q3 := q.rl
    have q4 := q.bg
    replace q := Lib.hid q
    have hBW := SW.bel.size
    by_cases hlt : i < l.length
    · obtain ⟨b, off, rfl, hb, hcl⟩ := ha (by omega)
      obtain ⟨c0, c1, c2, c3, c4⟩ := tk_cells (w := wr) (fun j hj => (SW.bel.cell (p := ⟨b, off + i * 5 + j, none⟩) hb).trans (hcl i hlt j hj))
      have hbw : b < wr.heap.size := by omega
      have j1 : (i : Int) < (l.length : Int) := by omega
      have eli : l[i] = tkAt l i := (tkAt_get hlt).symm
      have qk := Lib.hid (fun e => q.out.skip hlt e)
      have qo := Lib.hid (fun h4 ho => q.out.opn hlt h4 ho)
      have qc := Lib.hid (fun h4 ho hc e => q.out.cls hlt h4 ho hc e)
      have qb := Lib.hid (fun h4 ho hc e => q.out.bad hlt h4 ho hc e)
      have qs := Lib.hid (fun h4 e ho => q.out.semi hlt h4 e ho)
      rw [eli] at qk qo qc qb qs
      obtain ⟨t, htt⟩ : ∃ t, tkAt l i = t := ⟨_, rfl⟩
      rw [htt] at c0 c1 c2 c3 c4 qk qo qc qb qs
      obtain ⟨k, x, n, st, ln⟩ := t
      dsimp only at c0 c1 c2 c3 c4 qk qo qc qb qs
      have hcl' := Lib.hid hcl
      clear hcl htt eli
      by_cases k4 : k = 4
      · subst k4
        by_cases hx1 : x = [123]
        · subst hx1
          have q' := Lib.hid (qo.out rfl (by decide))
          have HC1 := HC.out [123]
          rw [show openS [123] = [] from rfl] at HC1
          replace HC1 := Lib.hid HC1
          replace SW := Lib.hid SW
          replace ha := Lib.hid ha
          clear qk qo qc qb qs
          go_wp2_with (at_builtin; refine push_own elStr rfl _ _ rfl w.heap.size _ s.op.length _ SW.out.opn rfl [.string (bS [123])] rfl rfl rfl (by omega) (by omega) hBW ?_)
          intro v' w5 hown5 hg5 hb5 hs5 _
          have hS := Lib.hid (SW.out.push' (x := [123]) rfl hown5 hg5)
          clear hown5 hg5 hb5 hs5
          go_wp2_with fail
          refine (HC1.out _).mono ?_
          rintro e w' ⟨rfl, rfl⟩
          go_wp2
          go_roundw
          case rel => exact ⟨i + 1, { s with op := s.op ++ [[123]] }, vals, by go_num, rfl, q'.out, hS.out⟩
          case measure => simp [intOf]; omega
        by_cases hx2 : x = [40]
        · subst hx2
          have q' := Lib.hid (qo.out rfl (by decide))
          have HC1 := HC.out [40]
          rw [show openS [40] = [] from rfl] at HC1
          replace HC1 := Lib.hid HC1
          replace SW := Lib.hid SW
          replace ha := Lib.hid ha
          clear qk qo qc qb qs
          go_wp2_with (at_builtin; refine push_own elStr rfl _ _ rfl w.heap.size _ s.op.length _ SW.out.opn rfl [.string (bS [40])] rfl rfl rfl (by omega) (by omega) hBW ?_)
          intro v' w5 hown5 hg5 hb5 hs5 _
          have hS := Lib.hid (SW.out.push' (x := [40]) rfl hown5 hg5)
          clear hown5 hg5 hb5 hs5
          go_wp2_with fail
          refine (HC1.out _).mono ?_
          rintro e w' ⟨rfl, rfl⟩
          go_wp2
          go_roundw
          case rel => exact ⟨i + 1, { s with op := s.op ++ [[40]] }, vals, by go_num, rfl, q'.out, hS.out⟩
          case measure => simp [intOf]; omega
        by_cases hx3 : x = [91]
        · subst hx3
          have q' := Lib.hid (qo.out rfl (by decide))
          have HC1 := HC.out [91]
          rw [show openS [91] = [] from rfl] at HC1
          replace HC1 := Lib.hid HC1
          replace SW := Lib.hid SW
          replace ha := Lib.hid ha
          clear qk qo qc qb qs
          go_wp2_with (at_builtin; refine push_own elStr rfl _ _ rfl w.heap.size _ s.op.length _ SW.out.opn rfl [.string (bS [91])] rfl rfl rfl (by omega) (by omega) hBW ?_)
          intro v' w5 hown5 hg5 hb5 hs5 _
          have hS := Lib.hid (SW.out.push' (x := [91]) rfl hown5 hg5)
          clear hown5 hg5 hb5 hs5
          go_wp2_with fail
          refine (HC1.out _).mono ?_
          rintro e w' ⟨rfl, rfl⟩
          go_wp2
          go_roundw
          case rel => exact ⟨i + 1, { s with op := s.op ++ [[91]] }, vals, by go_num, rfl, q'.out, hS.out⟩
          case measure => simp [intOf]; omega
        by_cases hx4 : x = [125]
        · subst hx4
          have HC1 := HC.out [125]
          rw [show openS [125] = [123] from rfl] at HC1
          replace HC1 := Lib.hid HC1
          cases hol : s.op.length with
          | zero =>
            have herr := Lib.hid (qb.out rfl rfl (by decide) (by
              have : s.op = [] := List.length_eq_zero_iff.1 hol
              rw [this]; simp))
            obtain ⟨A6, c6, rfl, _, _, _⟩ := own_form SW.opn
            rw [hol] at *
            replace SW := Lib.hid SW
            replace ha := Lib.hid ha
            replace hol := Lib.hid hol
            clear qk qo qc qb qs
            go_wp2_with fail
            refine (HC1.out _).mono ?_
            rintro e w' ⟨rfl, rfl⟩
            go_wp2_with fail
            go_big_quiet (fail)
            have hR := Lib.hid (fun w' (hd : Drawn wr w') => hEr.out ln w' herr.out (SW.out.bel.drawn hd))
            go_wp2
            refine bodyPost_ret (v := .tuple #[.slice none 0 0, .int .i64 ln, .int .i64 2]) (by simp [results, Tryd.results31, go_sem]) rfl ?_
            exact hR.out _ (Drawn.of _)
          | succ m =>
            obtain ⟨o, ho1, ho2, ho3⟩ := last_op hol
            obtain ⟨A6, c6, rfl, hc6, hm6, hcell⟩ := own_form SW.opn
            rw [hol] at hc6 hcell
            obtain ⟨g6, rfl, hg6, hl6, hcell⟩ := hcell (by omega)
            have x6 := (hcell m (by omega)).trans (opRow_at (F := id) ho3)
            have w1 : IntKind.i64.wrap (((m + 1 : Nat) : Int) - 1) = (m : Int) := by simp [IntKind.wrap, IntKind.bits, IntKind.signed]; omega
            have w1' : IntKind.i64.wrap ((m : Int) + 1 - 1) = (m : Int) := by simp [IntKind.wrap, IntKind.bits, IntKind.signed]; omega
            have w2 : (m : Int) + 1 - 1 = (m : Int) := by omega
            have w3 : IntKind.i64.wrap (m : Int) = (m : Int) := by simp [IntKind.wrap, IntKind.bits, IntKind.signed]; omega
            have m2 : (((m + 1 : Nat) : Int) == 0) = false := beq_eq_false_iff_ne.2 (by omega)
            have m3 : (m : Int) < (m : Int) + 1 := by omega
            have m4 : ((m : Int) + 1 == 0) = false := beq_eq_false_iff_ne.2 (by omega)
            by_cases he : o = [123]
            · subst he
              have x6 : wr.cell? ⟨g6, m, none⟩ = some (.string (bS [123])) := x6
              have q' := Lib.hid (qc.out rfl rfl (by decide) ho1)
              have hSp := SW
              rw [hol] at hSp
              have hS := Lib.hid (hSp.pop hol)
              rw [hol]
              replace SW := Lib.hid SW
              replace ha := Lib.hid ha
              replace hol := Lib.hid hol
              clear qk qo qc qb qs hcell hSp ho1 ho2 ho3
              go_wp2_with fail
              refine (HC1.out _).mono ?_
              rintro e w' ⟨rfl, rfl⟩
              go_wp2
              go_roundw
              case rel => exact ⟨i + 1, { s with op := s.op.dropLast }, vals, by go_num, rfl, q'.out, hS.out⟩
              case measure => simp [intOf]; omega
            · have hx6 : (o == [123]) = false := beq_eq_false_iff_ne.2 he
              have x6 : wr.cell? ⟨g6, m, none⟩ = some (.string (bS o)) := x6
              have herr := Lib.hid (qb.out rfl rfl (by decide) (by
                rw [ho1]
                intro h
                exact he (Option.some.inj h)))
              rw [hol]
              replace SW := Lib.hid SW
              replace ha := Lib.hid ha
              replace hol := Lib.hid hol
              clear qk qo qc qb qs he hcell ho1 ho2 ho3
              go_wp2_with fail
              refine (HC1.out _).mono ?_
              rintro e w' ⟨rfl, rfl⟩
              go_wp2_with fail
              go_big_quiet (fail)
              have hR := Lib.hid (fun w' (hd : Drawn wr w') => hEr.out ln w' herr.out (SW.out.bel.drawn hd))
              go_wp2
              refine bodyPost_ret (v := .tuple #[.slice none 0 0, .int .i64 ln, .int .i64 2]) (by simp [results, Tryd.results31, go_sem]) rfl ?_
              exact hR.out _ (Drawn.of _)
        by_cases hx5 : x = [41]
        · subst hx5
          have HC1 := HC.out [41]
          rw [show openS [41] = [40] from rfl] at HC1
          replace HC1 := Lib.hid HC1
          cases hol : s.op.length with
          | zero =>
            have herr := Lib.hid (qb.out rfl rfl (by decide) (by
              have : s.op = [] := List.length_eq_zero_iff.1 hol
              rw [this]; simp))
            obtain ⟨A6, c6, rfl, _, _, _⟩ := own_form SW.opn
            rw [hol] at *
            replace SW := Lib.hid SW
            replace ha := Lib.hid ha
            replace hol := Lib.hid hol
            clear qk qo qc qb qs
            go_wp2_with fail
            refine (HC1.out _).mono ?_
            rintro e w' ⟨rfl, rfl⟩
            go_wp2_with fail
            go_big_quiet (fail)
            have hR := Lib.hid (fun w' (hd : Drawn wr w') => hEr.out ln w' herr.out (SW.out.bel.drawn hd))
            go_wp2
            refine bodyPost_ret (v := .tuple #[.slice none 0 0, .int .i64 ln, .int .i64 2]) (by simp [results, Tryd.results31, go_sem]) rfl ?_
            exact hR.out _ (Drawn.of _)
          | succ m =>
            obtain ⟨o, ho1, ho2, ho3⟩ := last_op hol
            obtain ⟨A6, c6, rfl, hc6, hm6, hcell⟩ := own_form SW.opn
            rw [hol] at hc6 hcell
            obtain ⟨g6, rfl, hg6, hl6, hcell⟩ := hcell (by omega)
            have x6 := (hcell m (by omega)).trans (opRow_at (F := id) ho3)
            have w1 : IntKind.i64.wrap (((m + 1 : Nat) : Int) - 1) = (m : Int) := by simp [IntKind.wrap, IntKind.bits, IntKind.signed]; omega
            have w1' : IntKind.i64.wrap ((m : Int) + 1 - 1) = (m : Int) := by simp [IntKind.wrap, IntKind.bits, IntKind.signed]; omega
            have w2 : (m : Int) + 1 - 1 = (m : Int) := by omega
            have w3 : IntKind.i64.wrap (m : Int) = (m : Int) := by simp [IntKind.wrap, IntKind.bits, IntKind.signed]; omega
            have m2 : (((m + 1 : Nat) : Int) == 0) = false := beq_eq_false_iff_ne.2 (by omega)
            have m3 : (m : Int) < (m : Int) + 1 := by omega
            have m4 : ((m : Int) + 1 == 0) = false := beq_eq_false_iff_ne.2 (by omega)
            by_cases he : o = [40]
            · subst he
              have x6 : wr.cell? ⟨g6, m, none⟩ = some (.string (bS [40])) := x6
              have q' := Lib.hid (qc.out rfl rfl (by decide) ho1)
              have hSp := SW
              rw [hol] at hSp
              have hS := Lib.hid (hSp.pop hol)
              rw [hol]
              replace SW := Lib.hid SW
              replace ha := Lib.hid ha
              replace hol := Lib.hid hol
              clear qk qo qc qb qs hcell hSp ho1 ho2 ho3
              go_wp2_with fail
              refine (HC1.out _).mono ?_
              rintro e w' ⟨rfl, rfl⟩
              go_wp2
              go_roundw
              case rel => exact ⟨i + 1, { s with op := s.op.dropLast }, vals, by go_num, rfl, q'.out, hS.out⟩
              case measure => simp [intOf]; omega
            · have hx6 : (o == [40]) = false := beq_eq_false_iff_ne.2 he
              have x6 : wr.cell? ⟨g6, m, none⟩ = some (.string (bS o)) := x6
              have herr := Lib.hid (qb.out rfl rfl (by decide) (by
                rw [ho1]
                intro h
                exact he (Option.some.inj h)))
              rw [hol]
              replace SW := Lib.hid SW
              replace ha := Lib.hid ha
              replace hol := Lib.hid hol
              clear qk qo qc qb qs he hcell ho1 ho2 ho3
              go_wp2_with fail
              refine (HC1.out _).mono ?_
              rintro e w' ⟨rfl, rfl⟩
              go_wp2_with fail
              go_big_quiet (fail)
              have hR := Lib.hid (fun w' (hd : Drawn wr w') => hEr.out ln w' herr.out (SW.out.bel.drawn hd))
              go_wp2
              refine bodyPost_ret (v := .tuple #[.slice none 0 0, .int .i64 ln, .int .i64 2]) (by simp [results, Tryd.results31, go_sem]) rfl ?_
              exact hR.out _ (Drawn.of _)
        by_cases hx6 : x = [93]
        · subst hx6
          have HC1 := HC.out [93]
          rw [show openS [93] = [91] from rfl] at HC1
          replace HC1 := Lib.hid HC1
          cases hol : s.op.length with
          | zero =>
            have herr := Lib.hid (qb.out rfl rfl (by decide) (by
              have : s.op = [] := List.length_eq_zero_iff.1 hol
              rw [this]; simp))
            obtain ⟨A6, c6, rfl, _, _, _⟩ := own_form SW.opn
            rw [hol] at *
            replace SW := Lib.hid SW
            replace ha := Lib.hid ha
            replace hol := Lib.hid hol
            clear qk qo qc qb qs
            go_wp2_with fail
            refine (HC1.out _).mono ?_
            rintro e w' ⟨rfl, rfl⟩
            go_wp2_with fail
            go_big_quiet (fail)
            have hR := Lib.hid (fun w' (hd : Drawn wr w') => hEr.out ln w' herr.out (SW.out.bel.drawn hd))
            go_wp2
            refine bodyPost_ret (v := .tuple #[.slice none 0 0, .int .i64 ln, .int .i64 2]) (by simp [results, Tryd.results31, go_sem]) rfl ?_
            exact hR.out _ (Drawn.of _)
          | succ m =>
            obtain ⟨o, ho1, ho2, ho3⟩ := last_op hol
            obtain ⟨A6, c6, rfl, hc6, hm6, hcell⟩ := own_form SW.opn
            rw [hol] at hc6 hcell
            obtain ⟨g6, rfl, hg6, hl6, hcell⟩ := hcell (by omega)
            have x6 := (hcell m (by omega)).trans (opRow_at (F := id) ho3)
            have w1 : IntKind.i64.wrap (((m + 1 : Nat) : Int) - 1) = (m : Int) := by simp [IntKind.wrap, IntKind.bits, IntKind.signed]; omega
            have w1' : IntKind.i64.wrap ((m : Int) + 1 - 1) = (m : Int) := by simp [IntKind.wrap, IntKind.bits, IntKind.signed]; omega
            have w2 : (m : Int) + 1 - 1 = (m : Int) := by omega
            have w3 : IntKind.i64.wrap (m : Int) = (m : Int) := by simp [IntKind.wrap, IntKind.bits, IntKind.signed]; omega
            have m2 : (((m + 1 : Nat) : Int) == 0) = false := beq_eq_false_iff_ne.2 (by omega)
            have m3 : (m : Int) < (m : Int) + 1 := by omega
            have m4 : ((m : Int) + 1 == 0) = false := beq_eq_false_iff_ne.2 (by omega)
            by_cases he : o = [91]
            · subst he
              have x6 : wr.cell? ⟨g6, m, none⟩ = some (.string (bS [91])) := x6
              have q' := Lib.hid (qc.out rfl rfl (by decide) ho1)
              have hSp := SW
              rw [hol] at hSp
              have hS := Lib.hid (hSp.pop hol)
              rw [hol]
              replace SW := Lib.hid SW
              replace ha := Lib.hid ha
              replace hol := Lib.hid hol
              clear qk qo qc qb qs hcell hSp ho1 ho2 ho3
              go_wp2_with fail
              refine (HC1.out _).mono ?_
              rintro e w' ⟨rfl, rfl⟩
              go_wp2
              go_roundw
              case rel => exact ⟨i + 1, { s with op := s.op.dropLast }, vals, by go_num, rfl, q'.out, hS.out⟩
              case measure => simp [intOf]; omega
            · have hx6 : (o == [91]) = false := beq_eq_false_iff_ne.2 he
              have x6 : wr.cell? ⟨g6, m, none⟩ = some (.string (bS o)) := x6
              have herr := Lib.hid (qb.out rfl rfl (by decide) (by
                rw [ho1]
                intro h
                exact he (Option.some.inj h)))
              rw [hol]
              replace SW := Lib.hid SW
              replace ha := Lib.hid ha
              replace hol := Lib.hid hol
              clear qk qo qc qb qs he hcell ho1 ho2 ho3
              go_wp2_with fail
              refine (HC1.out _).mono ?_
              rintro e w' ⟨rfl, rfl⟩
              go_wp2_with fail
              go_big_quiet (fail)
              have hR := Lib.hid (fun w' (hd : Drawn wr w') => hEr.out ln w' herr.out (SW.out.bel.drawn hd))
              go_wp2
              refine bodyPost_ret (v := .tuple #[.slice none 0 0, .int .i64 ln, .int .i64 2]) (by simp [results, Tryd.results31, go_sem]) rfl ?_
              exact hR.out _ (Drawn.of _)
        have p1 : (x == [125]) = false := beq_eq_false_iff_ne.2 hx4
        have p2 : (x == [41]) = false := beq_eq_false_iff_ne.2 hx5
        have p3 : (x == [93]) = false := beq_eq_false_iff_ne.2 hx6
        have p4 : (x == [123]) = false := beq_eq_false_iff_ne.2 hx1
        have p5 : (x == [40]) = false := beq_eq_false_iff_ne.2 hx2
        have p6 : (x == [91]) = false := beq_eq_false_iff_ne.2 hx3
        have hon : openS x = [] := isE_nil (by rw [open3, p1, p2, p3]; rfl)
        have hcn : closeS x = [] := isE_nil (by rw [close3, p4, p5, p6]; rfl)
        have HC1 := HC.out x
        rw [hon] at HC1
        replace HC1 := Lib.hid HC1
        clear hx1 hx2 hx3 hx4 hx5 hx6
        by_cases h59 : x = [59]
        · subst h59
          cases hol : s.op.length with
          | zero =>
            have hnil : s.op = [] := List.length_eq_zero_iff.1 hol
            have q' := Lib.hid (qs.out rfl rfl hnil)
            have hseg := Lib.hid (tks_seg (a := s.beg) (e := i) (l := l) (fun j hj k hk => (SW.bel.cell (p := ⟨b, off + j * 5 + k, none⟩) hb).trans (hcl'.out j hj k hk)) (Nat.lt_of_lt_of_le hb SW.bel.size) (Nat.le_of_lt hlt))
            have hsl := Lib.hid (segT_len (l := l) (a := s.beg) (b := i) (Nat.le_of_lt hlt))
            have hrow := Lib.hid (tkRow_is (segT l (s.beg, i)))
            have HF : Hid (∀ u ∈ rowN 5 (segT l (s.beg, i)).length (tkF (segT l (s.beg, i))), u.oneCell' = true) := Lib.hid fun u hu => by
              obtain ⟨j, _, rfl⟩ := List.mem_map.1 hu
              exact tkF_one _ _ _
            obtain ⟨A6, c6, rfl, _, _, _⟩ := own_form SW.opn
            rw [hol] at *
            have k1 : (s.beg : Int) ≤ (i : Int) := by omega
            have k2 : (i : Int) ≤ (c : Int) := by omega
            have k3 : (0 : Int) ≤ (s.beg : Int) := by omega
            have k4 : i ≤ c := by omega
            replace SW := Lib.hid SW
            replace ha := Lib.hid ha
            replace hol := Lib.hid hol
            clear qk qo qc qb qs hnil
            go_wp2_with fail
            refine (HC1.out _).mono ?_
            rintro e w' ⟨rfl, rfl⟩
            go_wp2_with (at_builtin; refine append_arr elTok rfl _ _ rfl wr.heap.size _ 0 [] (World.ownsRow_made _ _ 0 (Nat.le_refl _) (Nat.zero_le _) rfl) rfl _ _ _ (rowN 5 (segT l (s.beg, i)).length (tkF (segT l (s.beg, i)))) rfl (by rw [rowN_length, hsl.out]) HF.out ?c1 ?c2 (by omega) (by omega) (by simp) ?_)
            case c1 => intro h; cases h
            case c2 => exact arrN_cells (by omega) (hseg.out.below ((Below.refl _ _).alloc (Nat.le_refl _) _))
            intro vc w3 hownc hgc hbc hsc
            rw [hrow.out] at hownc
            have hb3 : Below wr.heap.size wr w3 := ((Below.refl _ _).alloc (Nat.le_refl _) _).trans hbc
            have hS3 := Lib.hid (SW.out.to hb3)
            have hB3 : w.heap.size ≤ w3.heap.size := hS3.out.bel.size
            have hownc2 : w3.ownsRow wr.heap.size 25 5 vc (segT l (s.beg, i)).length (tkRow (segT l (s.beg, i))) := by
              rw [hsl.out]
              simpa using hownc
            obtain ⟨Ac, cc, rfl, _, _, _⟩ := own_form hownc2
            have hcw := Lib.hid (own_weak hownc2 hBW)
            have hvl : Hid (vals.length = s.out.length) := Lib.hid (by have := SW.out.out.1; omega)
            clear hownc hownc2 hb3 hgc hbc hsc HC1
            go_wp2_with (at_builtin; refine push_own elSl rfl _ _ rfl w.heap.size _ s.out.length _ hS3.out.out rfl [.slice Ac _ cc] rfl rfl rfl (by omega) (by omega) hB3 ?_)
            intro v' w5 hown5 hg5 hb5 hs5 _
            have hS := Lib.hid (hS3.out.add' (b := i + 1) hcw.out hown5 hg5)
            clear hown5 hg5 hb5 hs5
            go_wp2
            go_roundw
            case rel => exact ⟨i + 1, { s with out := s.out ++ [(s.beg, i)], beg := i + 1 }, _, by go_num, by go_num, q'.out, hS.out⟩
            case measure => simp [intOf]; omega
          | succ m =>
            have q' := Lib.hid (qk.out (step_other rfl rfl (fun h => by have := h.2; rw [this] at hol; simp at hol)))
            obtain ⟨A6, c6, rfl, _, _, _⟩ := own_form SW.opn
            have m2 : ((s.op.length : Int) == 0) = false := beq_eq_false_iff_ne.2 (by omega)
            have m2' : (s.op.length == 0) = false := beq_eq_false_iff_ne.2 (by omega)
            replace hol := Lib.hid hol
            replace SW := Lib.hid SW
            replace ha := Lib.hid ha
            clear qk qo qc qb qs
            go_wp2_with fail
            refine (HC1.out _).mono ?_
            rintro e w' ⟨rfl, rfl⟩
            go_wp2
            go_roundw
            case rel => exact ⟨i + 1, s, vals, by go_num, rfl, q'.out, SW.out⟩
            case measure => simp [intOf]; omega
        · have p7 : (x == [59]) = false := beq_eq_false_iff_ne.2 h59
          have q' := Lib.hid (qk.out (step_other hcn hon (fun h => h59 h.1)))
          clear h59
          replace SW := Lib.hid SW
          replace ha := Lib.hid ha
          clear qk qo qc qb qs
          go_wp2_with fail
          refine (HC1.out _).mono ?_
          rintro e w' ⟨rfl, rfl⟩
          go_wp2
          go_roundw
          case rel => exact ⟨i + 1, s, vals, by go_num, rfl, q'.out, SW.out⟩
          case measure => simp [intOf]; omega
      · have t4 : (k == 4) = false := beq_eq_false_iff_ne.2 k4
        have q' := Lib.hid (qk.out (step_kind k4))
        replace SW := Lib.hid SW
        replace ha := Lib.hid ha
        clear k4 qk qo qc qb qs
        go_wp2
        go_roundw
        case rel => exact ⟨i + 1, s, vals, by go_num, rfl, q'.out, SW.out⟩
        case measure => simp [intOf]; omega
    · obtain rfl : i = l.length := by omega
      have he := Lib.hid q.out.end_
      by_cases hbl : s.beg < l.length
      · obtain ⟨b, off, rfl, hb, hcl⟩ := ha (by omega)
        obtain ⟨c0, c1, c2, c3, c4⟩ := tk_cells (w := wr) (fun j hj => (SW.bel.cell (p := ⟨b, off + (l.length - 1) * 5 + j, none⟩) hb).trans (hcl (l.length - 1) (by omega) j hj))
        have herr : Hid (stmts l = .error (tkAt l (l.length - 1)).line) := Lib.hid (by rw [he.out, if_pos hbl, last_line (by omega)])
        obtain ⟨ln, hln⟩ : ∃ ln, (tkAt l (l.length - 1)).line = ln := ⟨_, rfl⟩
        rw [hln] at c4 herr
        have w1 : IntKind.i64.wrap ((l.length : Int) - 1) = (l.length : Int) - 1 := by simp [IntKind.wrap, IntKind.bits, IntKind.signed]; omega
        have e1 : ((l.length : Int) - 1).toNat = l.length - 1 := by omega
        have k0 : (0 : Int) ≤ (l.length : Int) - 1 := by omega
        have k1 : (l.length : Int) - 1 < (l.length : Int) := by omega
        have k2 : (1 : Int) ≤ (l.length : Int) := by omega
        have k3 : ¬ ((l.length : Int) - 1 < 0) := by omega
        have k4 : 0 < l.length := by omega
        have k5 : decide ((s.beg : Int) < (l.length : Int)) = true := decide_eq_true (by omega)
        have k6 : decide (s.beg < l.length) = true := decide_eq_true hbl
        replace ha := Lib.hid ha
        replace SW := Lib.hid SW
        clear hcl hln hlt he q
        go_wp2_with fail
        go_big_quiet (fail)
        have hR := Lib.hid (fun w' (hd : Drawn wr w') => hEr.out ln w' herr.out (SW.out.bel.drawn hd))
        go_wp2
        refine bodyPost_ret (v := .tuple #[.slice none 0 0, .int .i64 ln, .int .i64 2]) (by simp [results, Tryd.results31, go_sem]) rfl ?_
        exact hR.out _ (Drawn.of _)
      · have hok : stmts l = .ok s.out := by rw [he.out, if_neg hbl]
        have k5 : decide ((s.beg : Int) < (l.length : Int)) = false := decide_eq_false (by omega)
        have k6 : decide (s.beg < l.length) = false := decide_eq_false hbl
        have hR := Lib.hid (hOk.out _ _ _ _ _ _ hok SW)
        clear SW he q hok hbl hlt
        go_wp2
        refine bodyPost_ret (v := .tuple #[_, .int .i64 0, .int .i64 0]) (by simp [results, Tryd.results31, go_sem]; rfl) rfl ?_
        exact hR.out
end Go.Proofs.YtmhnocgoknmljaaDoor

namespace Go.Proofs.YtmhnocgoknmljaaDoor
open Go.RowKit Go.Sv Go.Lx
/-- a row of rows of tokens -/
def RSeg (w : World) (A : Option Addr) (n : Nat) (S : Nat → List Tok) : Prop := n ≤ 9223372036854775807 ∧ ∃ V : Nat → Value, ArrN w w.heap.size 1 A n (fun k _ => V k) ∧ ∀ k, k < n → ∃ A' c', V k = .slice A' (S k).length c' ∧ RTks w w.heap.size A' (S k)
theorem RSeg.to {w w' : World} {A : Option Addr} {n : Nat} {S : Nat → List Tok} (h : RSeg w A n S) (hb : Below w.heap.size w w') : RSeg w' A n S := by
  obtain ⟨h0, V, h1, h2⟩ := h
  refine ⟨h0, V, (h1.below hb).more hb.size, fun k hk => ?_⟩
  obtain ⟨A', c', e, hr⟩ := h2 k hk
  exact ⟨A', c', e, hr.to hb⟩
theorem RSeg.nil (w : World) (S : Nat → List Tok) : RSeg w none 0 S := ⟨by omega, fun _ => .slice none 0 0, fun h => absurd h (by omega), fun k h => absurd h (by omega)⟩
theorem smr_err {l : List Tok} {w w' : World} {e : Ending} {n : Int} (h : SmR l w e w') (hk : stmts l = .error n) : e = .returned (.tuple #[.slice none 0 0, .int .i64 n, .int .i64 2]) ∧ Below w.heap.size w w' := by
  unfold SmR at h; rw [hk] at h; exact h
theorem smr_ok {l : List Tok} {w w' : World} {e : Ending} {xs : List (Nat × Nat)} (h : SmR l w e w') (hk : stmts l = .ok xs) :
    ∃ A c, e = .returned (.tuple #[.slice A xs.length c, .int .i64 0, .int .i64 0]) ∧ RSeg w' A xs.length (fun k => segT l (xs.getD k (0, 0))) ∧ Below w.heap.size w w' := by
  unfold SmR at h; rw [hk] at h
  obtain ⟨v, vals, he, ho, hs, hb⟩ := h
  have hl : vals.length = xs.length := by have := ho.1; omega
  obtain ⟨A, c, hv, h1, h2, h3⟩ := own_arrN (f := fun k _ => vals.getD k (.bool false)) ho (fun k hk i hi => by
    obtain rfl : i = 0 := by omega
    have hk' : k < vals.length := by omega
    rw [Nat.mul_one, Nat.add_zero, List.getElem?_eq_getElem hk']
    simp [hk'])
  refine ⟨A, c, by rw [he, hv], ⟨Nat.le_trans h1 (Nat.le_trans h2 (of_decide_eq_true (by kernel_rfl))), fun k => vals.getD k (.bool false), h3, fun k hk => ?_⟩, hb⟩
  obtain ⟨u, hu, hr⟩ := hs k hk
  obtain ⟨A', c', e', -, hr'⟩ := own_tks hr
  refine ⟨A', c', ?_, ?_⟩
  · show vals.getD k (.bool false) = .slice A' (segT l (xs.getD k (0, 0))).length c'
    rw [List.getD_eq_getElem?_getD, hu, List.getD_eq_getElem?_getD, List.getElem?_eq_getElem hk]
    exact e'
  · show RTks _ _ _ (segT l (xs.getD k (0, 0)))
    rw [List.getD_eq_getElem?_getD, List.getElem?_eq_getElem hk]
    exact hr'
theorem seg_len (l : List Tok) (x : Nat × Nat) : (segT l x).length ≤ l.length := by
  unfold segT
  rw [List.length_take, List.length_drop]
  omega
set_option maxHeartbeats 1000000 in
set_option maxRecDepth 100000 in
theorem eqF_any (A C : Option Addr) (n c d : Nat) (S : Nat → List Tok) (w : World) (ha : RSeg w A n S) (hc : RSeg w C n S) (hs : ∀ k, (S k).length ≤ 1000000) :
    Calls Tryd.prog 32 #[.slice A n c, .slice C n d, .func (.func 29) #[] #[]] w fun e w' => e = .returned (.bool true) ∧ Drawn w w' := by
  have z1 : ((n : Int) != (n : Int)) = false := by rw [bne_eq_false_iff_eq]
  have hn := ha.1
  obtain ⟨-, V, hV, ha⟩ := ha
  obtain ⟨-, U, hU, hc⟩ := hc
  have hE : Hid (∀ A C c d k W, RTks W W.heap.size A (S k) → RTks W W.heap.size C (S k) → Calls Tryd.prog 29 #[.slice A (S k).length c, .slice C (S k).length d] W fun e w' => e = .returned (.bool true) ∧ Drawn W w') := Lib.hid fun A C c d k W h1 h2 => by
    have h := equalT_any A C c d (S k) (S k) W h1 h2 (hs k) (hs k)
    rw [decide_eq_true rfl] at h
    exact h
  replace hV := Lib.hid hV
  replace hU := Lib.hid hU
  replace ha := Lib.hid ha
  replace hc := Lib.hid hc
  go_enter Tryd.func32, Tryd.ntmps32
  go_wp2
  go_loopw [17] (fun i wr => ∃ k : Nat, k ≤ n ∧ i = .int .i64 k ∧ Drawn w wr) (fun i _ => n - (intOf i).toNat)
  case atStart => exact ⟨0, Nat.zero_le _, rfl, Drawn.refl _⟩
  case round =>
    obtain ⟨k, hk, rfl, hdr⟩ := hrel
    by_cases hlt : k < n
    · obtain ⟨b, off, rfl, hb, hcl⟩ := hV.out (by omega)
      obtain ⟨b2, off2, rfl, hb2, hcm⟩ := hU.out (by omega)
      have y1 : wr.cell? ⟨b, off + k, none⟩ = some (V k) := by
        have := (hdr.cell ⟨b, off + k * 1 + 0, none⟩).trans (hcl k hlt 0 (by omega))
        rw [Nat.mul_one, Nat.add_zero] at this
        exact this
      have y2 : wr.cell? ⟨b2, off2 + k, none⟩ = some (U k) := by
        have := (hdr.cell ⟨b2, off2 + k * 1 + 0, none⟩).trans (hcm k hlt 0 (by omega))
        rw [Nat.mul_one, Nat.add_zero] at this
        exact this
      obtain ⟨A1, c1, e1, hr1⟩ := ha.out k hlt
      obtain ⟨A2, c2, e2, hr2⟩ := hc.out k hlt
      rw [e1] at y1
      rw [e2] at y2
      have HE := Lib.hid (hE.out A1 A2 c1 c2 k wr (hr1.to hdr.below) (hr2.to hdr.below))
      obtain ⟨m, hm⟩ : ∃ m, (S k).length = m := ⟨_, rfl⟩
      rw [hm] at HE y1 y2
      replace hdr := Lib.hid hdr
      clear hcl hcm e1 e2 hr1 hr2 hm
      have j1 : (k : Int) < (n : Int) := by omega
      go_wp2_with fail
      refine HE.out.mono ?_
      rintro e w2 ⟨rfl, hd⟩
      replace hdr := Lib.hid (hdr.out.trans hd)
      clear hd HE
      go_wp2
      go_roundw
      case rel => exact ⟨k + 1, by omega, by go_num, hdr.out⟩
      case measure => simp [intOf]; omega
    · obtain rfl : k = n := by omega
      go_wp2
      go_ret
      exact ⟨rfl, hdr⟩
set_option maxHeartbeats 2000000 in
set_option maxRecDepth 100000 in
theorem law_statements (A : Option Addr) (c : Nat) (l : List Tok) (w : World) (ht : Tb w) (ha : RTks w w.heap.size A l) (hA : A = none → l.length = 0 ∧ c = 0) (hcap : l.length ≤ c) (hn : l.length ≤ 9223372036854775807) :
    Calls Tryd.prog 10 #[.slice A l.length c] w fun e w' => e = .returned (.bool true) ∧ Below w.heap.size w w' := by
  have HA := Lib.hid (fun W hT => awake_any W hT)
  replace ha := Lib.hid ha
  by_cases h : 60 < l.length
  · have i1 : decide ((60 : Int) < (l.length : Int)) = true := decide_eq_true (by omega)
    have i2 : decide (60 < l.length) = true := decide_eq_true h
    clear h
    go_enter Tryd.func10, Tryd.ntmps10
    go_wp2_with fail
    refine (HA.out w ht).mono ?_
    rintro e w1 ⟨rfl, hb1⟩
    have hT1 := Lib.hid (ht.to hb1)
    replace hb1 := Lib.hid hb1
    go_wp2_with fail
    refine (HA.out w1 hT1.out).mono ?_
    rintro e w2 ⟨rfl, hb2⟩
    have hF := Lib.hid (hb1.out.trans (hb2.mono hb1.out.size))
    clear hb2
    go_wp2
    go_ret
    exact ⟨rfl, hF.out⟩
  · have i1 : decide ((60 : Int) < (l.length : Int)) = false := decide_eq_false (by omega)
    have i2 : decide (60 < l.length) = false := decide_eq_false h
    have HC := Lib.hid (fun W h => cloneT_any A c l W h hA (by omega))
    have HS := Lib.hid (fun A c W h hA hc => stm_any A c l W h hA hc (by omega))
    have HR := Lib.hid (fun W h => rstm_any A c l W h hA hcap (by omega))
    have hl := Lib.hid (show l.length ≤ 60 by omega)
    clear h
    go_enter Tryd.func10, Tryd.ntmps10
    go_wp2_with fail
    refine (HA.out w ht).mono ?_
    rintro e w1 ⟨rfl, hb1⟩
    have hr1 := Lib.hid (ha.out.to hb1)
    replace hb1 := Lib.hid hb1
    go_wp2_with fail
    refine (HC.out w1 hr1.out).mono ?_
    rintro e w2 ⟨v, rfl, hown2, hb2⟩
    obtain ⟨A2, c2, rfl, hA2, hr2c⟩ := own_tks hown2
    have hc2 := own_cap hown2
    have HS2 := Lib.hid (HS.out A2 c2 w2 hr2c hA2 hc2)
    have hr2 := Lib.hid (hr1.out.to hb2)
    have hb12 := Lib.hid (hb1.out.trans (hb2.mono hb1.out.size))
    clear hb2 hown2 hr2c hA2 hc2 HC HS
    cases hk : stmts l with
    | error n =>
      have HE := Lib.hid (fun W => eqF_any none none 0 0 0 (fun _ => []) W (RSeg.nil _ _) (RSeg.nil _ _) (fun _ => by simp))
      go_wp2_with fail
      refine HS2.out.mono ?_
      rintro e w3 h3
      obtain ⟨rfl, hb3⟩ := smr_err h3 hk
      have hr3 := Lib.hid (hr2.out.to hb3)
      have hb13 := Lib.hid (hb12.out.trans (hb3.mono hb12.out.size))
      clear hb3 h3
      go_wp2_with fail
      refine (HR.out w3 hr3.out).mono ?_
      rintro e w4 h4
      obtain ⟨rfl, hb4⟩ := smr_err h4 hk
      have hb14 := Lib.hid (hb13.out.trans (hb4.mono hb13.out.size))
      clear hb4 h4 hk
      go_wp2_with fail
      refine (HE.out w4).mono ?_
      rintro e w5 ⟨rfl, hd⟩
      have hF := Lib.hid (hb14.out.drawn hd)
      clear hd
      go_wp2
      go_ret
      exact ⟨rfl, hF.out⟩
    | ok xs =>
      go_wp2_with fail
      refine HS2.out.mono ?_
      rintro e w3 h3
      obtain ⟨A3, c3, rfl, hs3, hb3⟩ := smr_ok h3 hk
      have hr3 := Lib.hid (hr2.out.to hb3)
      have hb13 := Lib.hid (hb12.out.trans (hb3.mono hb12.out.size))
      replace hs3 := Lib.hid hs3
      clear hb3 h3
      go_wp2_with fail
      refine (HR.out w3 hr3.out).mono ?_
      rintro e w4 h4
      obtain ⟨A4, c4, rfl, hs4, hb4⟩ := smr_ok h4 hk
      have hb14 := Lib.hid (hb13.out.trans (hb4.mono hb13.out.size))
      have HE := Lib.hid (eqF_any A3 A4 xs.length c3 c4 (fun k => segT l (xs.getD k (0, 0))) w4 (hs3.out.to hb4) hs4 (fun k => Nat.le_trans (seg_len _ _) (by have := hl.out; omega)))
      clear hb4 h4 hs4 hk
      go_wp2_with fail
      refine HE.out.mono ?_
      rintro e w5 ⟨rfl, hd⟩
      have hF := Lib.hid (hb14.out.drawn hd)
      clear hd
      go_wp2
      go_ret
      exact ⟨rfl, hF.out⟩
end Go.Proofs.YtmhnocgoknmljaaDoor
