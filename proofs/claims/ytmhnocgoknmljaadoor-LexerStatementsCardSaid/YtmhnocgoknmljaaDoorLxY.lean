/-
  CONTRACT of the reference's Tokens.
  Conditions: those that each theorem names.
-/
import Derived.Test.YtmhnocgoknmljaaDoorLxX
namespace Go.Proofs.YtmhnocgoknmljaaDoor
open Go.RowKit Go.Sv Go.Lx
theorem rtokens_big (l : Bs) (w : World) (h : 65536 < l.length) :
    Calls Tryd.prog 28 #[.string (bS l)] w fun e w' => e = .returned (.tuple #[.slice none 0 0, .int .i64 0, .int .i64 3]) ∧ w = w' := by
  have i1 : decide ((65536 : Int) < (l.length : Int)) = true := decide_eq_true (by omega)
  have i2 : decide (65536 < l.length) = true := decide_eq_true h
  clear h
  go_enter Tryd.func28, Tryd.ntmps28
  go_wp2
  refine bodyPost_ret (v := .tuple #[.slice none 0 0, .int .i64 0, .int .i64 3]) (by simp [results, Tryd.results28, go_sem]) rfl ?_
  exact ⟨rfl, rfl⟩
theorem grown_cell {W w' : World} {o : Option Nat} (h : W.grownBy w' o) {b k : Nat} (hb : b < W.heap.size) (hne : o ≠ some b) : w'.cell? ⟨b, k, none⟩ = W.cell? ⟨b, k, none⟩ := by
  have := h.block b hb (fun e => hne e.symm)
  simp [World.cell?, this]
/-- a box under an append keeps its cells -/
theorem grown_box {w2 w' : World} {base n : Nat} {v : Value} {xs cs : List Value} {cl : Array Value} {T : TypeId} (hown : w2.ownsRow base 25 5 v n xs) (h : ((w2.alloc (.cells cl T)).alloc (.cells cs.toArray 25)).grownBy w' v.ownBlock) (k : Nat) :
    w'.cell? ⟨w2.heap.size, k, none⟩ = cl[k]? := by
  rw [grown_cell h (by simp; omega) (fun e => by have := (hown.lt _ e).2; omega), World.cell?_alloc_old _ _ _ (by simp), World.cell?_alloc_new]
set_option maxHeartbeats 4000000 in
set_option maxRecDepth 100000 in
theorem rtokens_any (l : Bs) (w : World) (ht : Tb w) (hn : l.length ≤ 65536) :
    Calls Tryd.prog 28 #[.string (bS l)] w (TsR l w) := by
  have j1 : decide ((65536 : Int) < (l.length : Int)) = false := decide_eq_false (by omega)
  have j2 : decide (65536 < l.length) = false := decide_eq_false (by omega)
  have hsz := Lib.hid (bS_size l)
  have HT := Lib.hid (fun r w h1 h2 h3 => next_any r w h1 h2 h3)
  have hOk := Lib.hid (fun m v w' h1 h2 h3 => TsR.ok (l := l) (w := w) (w' := w') (m := m) (v := v) h1 h2 h3)
  have hEr := Lib.hid (fun n w' h1 h2 => TsR.err (l := l) (w := w) (w' := w') (n := n) h1 h2)
  go_enter Tryd.func28, Tryd.ntmps28
  go_wp2
  clear j1 j2
  go_loopw [5, 6, 7] (fun s5 s6 s7 wr => ∃ (i : Nat) (line : Int) (out : List Tok), s7 = .int .i64 i ∧ s6 = .int .i64 line ∧ TI l i line out ∧ wr.ownsRow w.heap.size 25 5 s5 out.length (tkRow out) ∧ Below w.heap.size w wr) (fun _ _ s7 _ => l.length - (intOf s7).toNat)
  case atStart => exact ⟨0, 1, [], rfl, rfl, TI.start l, World.ownsRow_nil _ _ _ _, Below.refl _ _⟩
  case round =>
    obtain ⟨i, line, out, rfl, rfl, q, hown, hbel⟩ := hrel
    have hB := hbel.size
    have q1 := q.lo
    have q2 := q.hi
    have q3 := q.le
    have q4 := q.len
    replace q := Lib.hid q
    by_cases hlt : i < l.length
    · obtain ⟨c, hc⟩ : ∃ c, l[i] = c := ⟨_, rfl⟩
      have g0 : ∀ h : i < (bS l).size, ((bS l)[i]'h) = c := fun h => hc
      have g0 := g0 (by rw [hsz.out]; exact hlt)
      have wi : IntKind.i64.wrap ((i : Int) + 1) = (i : Int) + 1 := by simp [IntKind.wrap, IntKind.bits, IntKind.signed]; omega
      by_cases c10 : (c.toNat : Int) = 10
      · have t1 : ((c.toNat : Int) == 10) = true := by simp [c10]
        have t2 : ((c.toNat : Int) == 32) = false := by simp [c10]
        have t3 : ((c.toNat : Int) == 9) = false := by simp [c10]
        have q' := Lib.hid (q.out.nl hlt (by rw [hc]; omega))
        have w1 : IntKind.i64.wrap (line + 1) = line + 1 := by simp [IntKind.wrap, IntKind.bits, IntKind.signed]; omega
        replace hbel := Lib.hid hbel
        replace hown := Lib.hid hown
        clear c10 hc
        go_wp2
        go_roundw
        case rel => exact ⟨i + 1, line + 1, out, by go_num, rfl, q'.out, hown.out, hbel.out⟩
        case measure => simp [intOf]; omega
      have t1 : ((c.toNat : Int) == 10) = false := by simp [c10]
      have key : ((c.toNat : Int) == 32) = true ∨ (((c.toNat : Int) == 32) = false ∧ ((c.toNat : Int) == 9) = true) ∨ (((c.toNat : Int) == 32) = false ∧ ((c.toNat : Int) == 9) = false ∧ ¬ (c.toNat : Int) = 32 ∧ ¬ (c.toNat : Int) = 9) := by
        by_cases a : (c.toNat : Int) = 32
        · exact Or.inl (by simp [a])
        · by_cases b : (c.toNat : Int) = 9
          · exact Or.inr (Or.inl ⟨by simp [a], by simp [b]⟩)
          · exact Or.inr (Or.inr ⟨by simp [a], by simp [b], a, b⟩)
      rcases key with t2 | ⟨t2, t3⟩ | ⟨t2, t3, n32, n9⟩
      · have q' := Lib.hid (q.out.sp hlt (Or.inl (by rw [hc]; have := beq_iff_eq.1 t2; omega)))
        replace hbel := Lib.hid hbel
        replace hown := Lib.hid hown
        clear c10 hc
        go_wp2
        go_roundw
        case rel => exact ⟨i + 1, line, out, by go_num, rfl, q'.out, hown.out, hbel.out⟩
        case measure => simp [intOf]; omega
      · have q' := Lib.hid (q.out.sp hlt (Or.inr (by rw [hc]; have := beq_iff_eq.1 t3; omega)))
        replace hbel := Lib.hid hbel
        replace hown := Lib.hid hown
        clear c10 hc
        go_wp2
        go_roundw
        case rel => exact ⟨i + 1, line, out, by go_num, rfl, q'.out, hown.out, hbel.out⟩
        case measure => simp [intOf]; omega
      by_cases hcm : c.toNat = 47 ∧ ∃ h' : i + 1 < l.length, (l[i + 1]'h').toNat = 47
      · obtain ⟨a47, h1, b47⟩ := hcm
        have t4 : ((c.toNat : Int) == 47) = true := by rw [a47]; rfl
        have g1 : ∀ h : i + 1 < (bS l).size, ((((bS l)[i + 1]'h).toNat : Int) == 47) = true := fun h => by
          have e : (bS l)[i + 1].toNat = 47 := b47
          rw [e]; rfl
        have g1 := g1 (by rw [hsz.out]; exact h1)
        have i1 : decide ((i : Int) + 1 < (l.length : Int)) = true := decide_eq_true (by omega)
        have h47 := Lib.hid (show l[i].toNat = 47 from by rw [hc]; exact a47)
        have hcm := Lib.hid (fun j hij hj h3 h4 => q.out.cm (j := j) h1 (by rw [hc]; exact a47) b47 hij hj h3 h4)
        replace hbel := Lib.hid hbel
        replace hown := Lib.hid hown
        clear c10 hc a47 b47 n32 n9 q
        go_wp2
        clear g0 g1 t1 t2 t3 t4 i1 wi
        go_loop [7] (fun s7 => ∃ j : Nat, s7 = .int .i64 j ∧ i ≤ j ∧ j ≤ l.length ∧ (∀ k (h : k < l.length), i ≤ k → k < j → ¬ l[k].toNat = 10)) (fun s7 => l.length - (intOf s7).toNat)
        case atStart => exact ⟨i, rfl, Nat.le_refl _, q3, fun k _ h1 h2 => absurd h1 (by omega)⟩
        case round =>
          obtain ⟨j, rfl, hij, hj, hno⟩ := hrel
          replace hno := Lib.hid hno
          have fin : (∃ h : j < l.length, ¬ (l[j]'h).toNat = 10) ∨ ((∃ h : j < l.length, (l[j]'h).toNat = 10) ∨ ¬ j < l.length) := by
            by_cases h : j < l.length
            · by_cases h' : (l[j]'h).toNat = 10
              · exact Or.inr (Or.inl ⟨h, h'⟩)
              · exact Or.inl ⟨h, h'⟩
            · exact Or.inr (Or.inr h)
          rcases fin with ⟨hjl, hj10⟩ | ⟨hjl, hj10⟩ | hjl
          · have g1 : ∀ h : j < (bS l).size, ((((bS l)[j]'h).toNat : Int) == 10) = false := fun h => by
              have e : ¬ (bS l)[j].toNat = 10 := hj10
              simp; omega
            have g1 := g1 (by rw [hsz.out]; exact hjl)
            have hS : Hid (∀ k (h : k < l.length), i ≤ k → k < j + 1 → ¬ l[k].toNat = 10) := Lib.hid fun k h h1 h2 => by
              rcases Nat.lt_or_ge k j with c | c
              · exact hno.out k h h1 c
              · obtain rfl : k = j := by omega
                exact hj10
            clear hj10 hno
            go_wp2
            go_round
            case rel => exact ⟨j + 1, by go_num, by omega, hjl, hS.out⟩
            case measure => simp [intOf]; omega
          · have g1 : ∀ h : j < (bS l).size, ((((bS l)[j]'h).toNat : Int) == 10) = true := fun h => by
              have e : (bS l)[j].toNat = 10 := hj10
              rw [e]; rfl
            have g1 := g1 (by rw [hsz.out]; exact hjl)
            have q' := Lib.hid (hcm.out j hij hj hno.out (fun _ => hj10))
            have hij2 : i < j := by
              rcases Nat.lt_or_ge i j with c | c
              · exact c
              · obtain rfl : i = j := by omega
                have := h47.out
                omega
            clear hj10 hno
            go_wp2
            go_roundw
            case rel => exact ⟨j, line, out, rfl, rfl, q'.out, hown.out, hbel.out⟩
            case measure => simp [intOf]; omega
          · obtain rfl : j = l.length := by omega
            have q' := Lib.hid (hcm.out l.length hij hj hno.out (fun h => absurd h (Nat.lt_irrefl _)))
            clear hjl hno
            go_wp2
            go_roundw
            case rel => exact ⟨l.length, line, out, rfl, rfl, q'.out, hown.out, hbel.out⟩
            case measure => simp [intOf]; omega
      · have htb : tokB (l.drop i) = true := tokB_at hlt (by rw [hc]; omega) (by rw [hc]; omega) (by rw [hc]; omega) (fun h => hcm (by rw [hc] at h; exact h))
        have hk : ((c.toNat : Int) == 47) = false ∨ (((c.toNat : Int) == 47) = true ∧ ((∃ h : i + 1 < l.length, ¬ (l[i + 1]'h).toNat = 47) ∨ ¬ i + 1 < l.length)) := by
          by_cases a : (c.toNat : Int) = 47
          · refine Or.inr ⟨by simp [a], ?_⟩
            by_cases h : i + 1 < l.length
            · exact Or.inl ⟨h, fun e => hcm ⟨by omega, h, e⟩⟩
            · exact Or.inr h
          · exact Or.inl (by simp [a])
        obtain ⟨r, hr⟩ : ∃ r, l.drop i = r := ⟨_, rfl⟩
        have hrl : r.length = l.length - i := by rw [← hr, List.length_drop]
        have hx : (bS l).extract i l.length = bS r := by rw [← hr, ← bS_size l]; exact bS_from _ _
        have HT1 := Lib.hid (HT.out r wr (ht.to hbel) (by omega) (by omega))
        have hEr1 : Hid (nextT r = none → tk 1 l = .error line) := Lib.hid fun h => q.out.bad htb (by rw [hr]; exact h)
        have hYs : Hid (∀ t n, nextT r = some (t, n) → TI l (i + n) line (out ++ [{ t with line := line }]) ∧ 1 ≤ n ∧ n ≤ r.length) := Lib.hid fun t n h => ⟨q.out.tok htb (by rw [hr]; exact h), nextT_pos h, nextT_le h⟩
        clear c10 hc hr hcm n32 n9 htb q
        rcases hk with t4 | ⟨t4, hk⟩
        · go_wp2_with fail
          refine HT1.out.mono ?_
          rintro e w2 ⟨t, n, rfl, hz, hb2⟩
          have hbel2 := Lib.hid (hbel.trans (hb2.mono hB))
          have hB2 : w.heap.size ≤ w2.heap.size := hbel2.out.size
          clear HT1
          rcases hz with ⟨rfl, hnone⟩ | hsome
          · have hF := Lib.hid (hEr.out line _ (hEr1.out hnone) (hbel2.out.alloc hB2 (.cells #[.int .i64 t.kind, .string (bS t.text), .int .i64 t.int, .string (bS t.str), .int .i64 t.line, .int .i64 0] 72)))
            clear hnone hEr1 hYs hown hbel hb2 hx
            dsimp only [rdV]
            go_wp2
            refine bodyPost_ret (v := .tuple #[.slice none 0 0, .int .i64 line, .int .i64 2]) (by simp [results, Tryd.results28, go_sem]) rfl ?_
            exact hF.out
          · obtain ⟨q', n1, n2⟩ := hYs.out t n hsome
            replace q' := Lib.hid q'
            have n0 : ((n : Int) == 0) = false := beq_eq_false_iff_ne.2 (by omega)
            have n0' : (n == 0) = false := beq_eq_false_iff_ne.2 (by omega)
            have hown2 := Lib.hid (own_to hown hb2)
            have hB3 : w.heap.size ≤ (w2.alloc (.cells #[.int .i64 t.kind, .string (bS t.text), .int .i64 t.int, .string (bS t.str), .int .i64 line, .int .i64 n] 72)).heap.size := by rw [World.size_alloc]; omega
            have hbel3 := Lib.hid (hbel2.out.alloc hB2 (.cells #[.int .i64 t.kind, .string (bS t.text), .int .i64 t.int, .string (bS t.str), .int .i64 line, .int .i64 n] 72))
            have w5 : IntKind.i64.wrap ((i : Int) + (n : Int)) = ((i + n : Nat) : Int) := by simp [IntKind.wrap, IntKind.bits, IntKind.signed]; omega
            clear hsome hEr1 hYs hown hb2 hbel
            dsimp only [rdV]
            go_wp2_with (at_builtin; refine push_own' elTok rfl _ _ rfl w.heap.size _ out.length (tkRow out) (by exact hown2.out.alloc _) rfl _ [.int .i64 t.kind, .string (bS t.text), .int .i64 t.int, .string (bS t.str), .int .i64 line] rfl (by simp) rfl rfl (by omega) (by omega) hB3 ?_)
            intro v' w5 hown5 hg5 hb5 hs5 _
            have hO : Hid (w5.ownsRow w.heap.size 25 5 v' (out ++ [{ t with line := line }]).length (tkRow (out ++ [{ t with line := line }]))) := Lib.hid (by rw [tkRow_snoc, List.length_append]; exact hown5)
            have hF := Lib.hid (hbel3.out.trans hb5)
            have hbx : w5.cell? ⟨w2.heap.size, 5, none⟩ = some (.int .i64 (n : Int)) := grown_box hown2.out hg5 5
            clear hown5 hg5 hb5
            go_wp2
            go_roundw
            case rel => exact ⟨i + n, line, out ++ [{ t with line := line }], rfl, rfl, q'.out, hO.out, hF.out⟩
            case measure => simp [intOf]; omega
        · rcases hk with ⟨h1, hk⟩ | h1
          · have g1 : ∀ h : i + 1 < (bS l).size, ((((bS l)[i + 1]'h).toNat : Int) == 47) = false := fun h => by
              have e : ¬ (bS l)[i + 1].toNat = 47 := hk
              simp; omega
            have g1 := g1 (by rw [hsz.out]; exact h1)
            have i1 : decide ((i : Int) + 1 < (l.length : Int)) = true := decide_eq_true (by omega)
            clear hk
            go_wp2_with fail
            refine HT1.out.mono ?_
            rintro e w2 ⟨t, n, rfl, hz, hb2⟩
            have hbel2 := Lib.hid (hbel.trans (hb2.mono hB))
            have hB2 : w.heap.size ≤ w2.heap.size := hbel2.out.size
            clear HT1
            rcases hz with ⟨rfl, hnone⟩ | hsome
            · have hF := Lib.hid (hEr.out line _ (hEr1.out hnone) (hbel2.out.alloc hB2 (.cells #[.int .i64 t.kind, .string (bS t.text), .int .i64 t.int, .string (bS t.str), .int .i64 t.line, .int .i64 0] 72)))
              clear hnone hEr1 hYs hown hbel hb2 hx
              dsimp only [rdV]
              go_wp2
              refine bodyPost_ret (v := .tuple #[.slice none 0 0, .int .i64 line, .int .i64 2]) (by simp [results, Tryd.results28, go_sem]) rfl ?_
              exact hF.out
            · obtain ⟨q', n1, n2⟩ := hYs.out t n hsome
              replace q' := Lib.hid q'
              have n0 : ((n : Int) == 0) = false := beq_eq_false_iff_ne.2 (by omega)
              have n0' : (n == 0) = false := beq_eq_false_iff_ne.2 (by omega)
              have hown2 := Lib.hid (own_to hown hb2)
              have hB3 : w.heap.size ≤ (w2.alloc (.cells #[.int .i64 t.kind, .string (bS t.text), .int .i64 t.int, .string (bS t.str), .int .i64 line, .int .i64 n] 72)).heap.size := by rw [World.size_alloc]; omega
              have hbel3 := Lib.hid (hbel2.out.alloc hB2 (.cells #[.int .i64 t.kind, .string (bS t.text), .int .i64 t.int, .string (bS t.str), .int .i64 line, .int .i64 n] 72))
              have w5 : IntKind.i64.wrap ((i : Int) + (n : Int)) = ((i + n : Nat) : Int) := by simp [IntKind.wrap, IntKind.bits, IntKind.signed]; omega
              clear hsome hEr1 hYs hown hb2 hbel
              dsimp only [rdV]
              go_wp2_with (at_builtin; refine push_own' elTok rfl _ _ rfl w.heap.size _ out.length (tkRow out) (by exact hown2.out.alloc _) rfl _ [.int .i64 t.kind, .string (bS t.text), .int .i64 t.int, .string (bS t.str), .int .i64 line] rfl (by simp) rfl rfl (by omega) (by omega) hB3 ?_)
              intro v' w5 hown5 hg5 hb5 hs5 _
              have hO : Hid (w5.ownsRow w.heap.size 25 5 v' (out ++ [{ t with line := line }]).length (tkRow (out ++ [{ t with line := line }]))) := Lib.hid (by rw [tkRow_snoc, List.length_append]; exact hown5)
              have hF := Lib.hid (hbel3.out.trans hb5)
              have hbx : w5.cell? ⟨w2.heap.size, 5, none⟩ = some (.int .i64 (n : Int)) := grown_box hown2.out hg5 5
              clear hown5 hg5 hb5
              go_wp2
              go_roundw
              case rel => exact ⟨i + n, line, out ++ [{ t with line := line }], rfl, rfl, q'.out, hO.out, hF.out⟩
              case measure => simp [intOf]; omega
          · have i1 : decide ((i : Int) + 1 < (l.length : Int)) = false := decide_eq_false (by omega)
            clear h1
            go_wp2_with fail
            refine HT1.out.mono ?_
            rintro e w2 ⟨t, n, rfl, hz, hb2⟩
            have hbel2 := Lib.hid (hbel.trans (hb2.mono hB))
            have hB2 : w.heap.size ≤ w2.heap.size := hbel2.out.size
            clear HT1
            rcases hz with ⟨rfl, hnone⟩ | hsome
            · have hF := Lib.hid (hEr.out line _ (hEr1.out hnone) (hbel2.out.alloc hB2 (.cells #[.int .i64 t.kind, .string (bS t.text), .int .i64 t.int, .string (bS t.str), .int .i64 t.line, .int .i64 0] 72)))
              clear hnone hEr1 hYs hown hbel hb2 hx
              dsimp only [rdV]
              go_wp2
              refine bodyPost_ret (v := .tuple #[.slice none 0 0, .int .i64 line, .int .i64 2]) (by simp [results, Tryd.results28, go_sem]) rfl ?_
              exact hF.out
            · obtain ⟨q', n1, n2⟩ := hYs.out t n hsome
              replace q' := Lib.hid q'
              have n0 : ((n : Int) == 0) = false := beq_eq_false_iff_ne.2 (by omega)
              have n0' : (n == 0) = false := beq_eq_false_iff_ne.2 (by omega)
              have hown2 := Lib.hid (own_to hown hb2)
              have hB3 : w.heap.size ≤ (w2.alloc (.cells #[.int .i64 t.kind, .string (bS t.text), .int .i64 t.int, .string (bS t.str), .int .i64 line, .int .i64 n] 72)).heap.size := by rw [World.size_alloc]; omega
              have hbel3 := Lib.hid (hbel2.out.alloc hB2 (.cells #[.int .i64 t.kind, .string (bS t.text), .int .i64 t.int, .string (bS t.str), .int .i64 line, .int .i64 n] 72))
              have w5 : IntKind.i64.wrap ((i : Int) + (n : Int)) = ((i + n : Nat) : Int) := by simp [IntKind.wrap, IntKind.bits, IntKind.signed]; omega
              clear hsome hEr1 hYs hown hb2 hbel
              dsimp only [rdV]
              go_wp2_with (at_builtin; refine push_own' elTok rfl _ _ rfl w.heap.size _ out.length (tkRow out) (by exact hown2.out.alloc _) rfl _ [.int .i64 t.kind, .string (bS t.text), .int .i64 t.int, .string (bS t.str), .int .i64 line] rfl (by simp) rfl rfl (by omega) (by omega) hB3 ?_)
              intro v' w5 hown5 hg5 hb5 hs5 _
              have hO : Hid (w5.ownsRow w.heap.size 25 5 v' (out ++ [{ t with line := line }]).length (tkRow (out ++ [{ t with line := line }]))) := Lib.hid (by rw [tkRow_snoc, List.length_append]; exact hown5)
              have hF := Lib.hid (hbel3.out.trans hb5)
              have hbx : w5.cell? ⟨w2.heap.size, 5, none⟩ = some (.int .i64 (n : Int)) := grown_box hown2.out hg5 5
              clear hown5 hg5 hb5
              go_wp2
              go_roundw
              case rel => exact ⟨i + n, line, out ++ [{ t with line := line }], rfl, rfl, q'.out, hO.out, hF.out⟩
              case measure => simp [intOf]; omega
    · obtain rfl : i = l.length := by omega
      have e := Lib.hid (q.out.fin)
      have hF := Lib.hid (hOk.out _ _ _ e.out hown hbel)
      clear hown hbel e q hlt
      go_wp2
      refine bodyPost_ret (v := .tuple #[_, .int .i64 0, .int .i64 0]) (by simp [results, Tryd.results28, go_sem]; rfl) rfl ?_
      exact hF.out
end Go.Proofs.YtmhnocgoknmljaaDoor
