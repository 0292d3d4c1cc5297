/-
  CONTRACTS of the reference's Quote, part, first and Unquote.
  Conditions: those that each theorem names.
-/
import Derived.Test.YtmhnocgoknmljaaDoorLxH
import Derived.Test.YtmhnocgoknmljaaDoorFm
namespace Go.Proofs.YtmhnocgoknmljaaDoor
open Go.RowKit Go.Sv Go.Lx
set_option maxRecDepth 100000 in
theorem rQuote_any (l : Bs) (w : World) (hn : l.length ≤ 1000000) :
    Calls Tryd.prog 26 #[.string (bS l)] w fun e w' => e = .returned (.string (bS (qform l))) ∧ Drawn w w' := by
  have hsz := Lib.hid (bS_size l)
  have hEnd := Lib.hid (qAcc_end l)
  have HQ := Lib.hid (fun b w => rquoted_any b w)
  go_enter Tryd.func26, Tryd.ntmps26
  go_wp2
  go_loopw [3, 4] (fun s3 s4 wr => ∃ k : Nat, s4 = .int .i64 k ∧ s3 = .string (bS (qAcc l k)) ∧ k ≤ l.length ∧ Drawn w wr) (fun _ s4 _ => l.length - (intOf s4).toNat)
  case atStart => exact ⟨0, rfl, rfl, Nat.zero_le _, Drawn.refl _⟩
  case round =>
    obtain ⟨k, rfl, rfl, hk, hd⟩ := hrel
    have hle := qAcc_le l k
    obtain ⟨acc, hacc⟩ : ∃ acc, qAcc l k = acc := ⟨_, rfl⟩
    rw [hacc] at hle
    by_cases hlt : k < l.length
    · have hs := qAcc_succ hlt
      rw [hacc] at hs ⊢
      obtain ⟨c, hc⟩ : ∃ c, l[k] = c := ⟨_, rfl⟩
      rw [hc] at hs
      replace hs := Lib.hid hs
      have g0 : ∀ h : k < (bS l).size, ((bS l)[k]'h) = c := fun h => hc
      have g0 := g0 (by rw [hsz.out]; exact hlt)
      have h4 := esc_le c
      have add1 := fun w => cat_any acc (esc c) (by omega) w
      have HQ1 := Lib.hid (HQ.out c wr)
      clear hc hacc
      go_wp2_with fail
      refine HQ1.out.mono ?_
      rintro e w1 ⟨rfl, hd1⟩
      have hD := Lib.hid (hd.trans hd1)
      clear HQ1 hd hd1
      go_wp2
      go_roundw
      case rel => exact ⟨k + 1, by go_num, by rw [hs.out], hlt, hD.out⟩
      case measure => simp [intOf]; omega
    · obtain rfl : k = l.length := by omega
      rw [hacc] at hEnd ⊢
      have add1 := fun w => cat_any acc [34] (by simp; omega) w
      rw [hEnd.out] at add1
      clear hacc hlt
      go_wp2
      go_ret
      exact ⟨rfl, hd⟩

theorem isPre_take {e s : Bs} : e.isPrefixOf s = (decide (e.length ≤ s.length) && decide (s.take e.length = e)) := by
  rw [Bool.eq_iff_iff, List.isPrefixOf_iff_prefix]
  simp only [Bool.and_eq_true, decide_eq_true_eq]
  constructor
  · rintro ⟨t, rfl⟩; simp
  · rintro ⟨_, h⟩; exact ⟨s.drop e.length, by conv => rhs; rw [← List.take_append_drop e.length s, h]⟩
set_option maxRecDepth 100000 in
theorem part_any (s : Bs) (w : World) (_hn : s.length ≤ 1000000) (h34 : s.head? ≠ some 34) :
    Calls Tryd.prog 64 #[.string (bS s)] w fun e w' => e = .returned (.int .i64 (partN s)) ∧ Drawn w w' := by
  have hsz := Lib.hid (bS_size s)
  have HQ := Lib.hid (fun b w => rquoted_any b w)
  have hNo := Lib.hid (part_no h34)
  clear h34
  go_enter Tryd.func64, Tryd.ntmps64
  go_wp2
  go_loopw [3] (fun s3 wr => ∃ k : Nat, s3 = .int .i64 k ∧ k ≤ 256 ∧ (∀ n, n < k → (esc (UInt8.ofNat n)).isPrefixOf s = false) ∧ Drawn w wr) (fun s3 _ => 256 - (intOf s3).toNat)
  case atStart => exact ⟨0, rfl, Nat.zero_le _, fun n h => absurd h (Nat.not_lt_zero _), Drawn.refl _⟩
  case round =>
    obtain ⟨k, rfl, hk, hno, hd⟩ := hrel
    replace hno := Lib.hid hno
    by_cases hlt : k < 256
    · obtain ⟨c, hc⟩ : ∃ c, UInt8.ofNat k = c := ⟨_, rfl⟩
      have ck : (k : Int) = (c.toNat : Int) := by rw [← hc]; simp; omega
      have w1 : IntKind.u8.wrap (k : Int) = (c.toNat : Int) := by rw [← ck]; simp [IntKind.wrap, IntKind.bits, IntKind.signed]; omega
      have i1 : decide ((k : Int) < 256) = true := decide_eq_true (by omega)
      have hY := Lib.hid (fun h => part_yes (s := s) (b := c) h)
      have hP := isPre_take (e := esc c) (s := s)
      have hS : Hid ((esc c).isPrefixOf s = false → ∀ n, n < k + 1 → (esc (UInt8.ofNat n)).isPrefixOf s = false) := Lib.hid fun h n hn => by
        rcases Nat.lt_or_ge n k with h' | h'
        · exact hno.out n h'
        · obtain rfl : n = k := by omega
          rw [hc]; exact h
      have hx := bS_to s (esc c).length
      obtain ⟨e, he⟩ : ∃ e, esc c = e := ⟨_, rfl⟩
      have HQ1 := Lib.hid (HQ.out c wr)
      rw [he] at hY hP hS hx HQ1
      have hsE := Lib.hid (bS_size e)
      have hck := Lib.hid ck
      clear hno hc he ck
      by_cases c1 : e.length ≤ s.length
      · have t1 : decide ((e.length : Int) ≤ (s.length : Int)) = true := decide_eq_true (by omega)
        rw [decide_eq_true c1, Bool.true_and] at hP
        by_cases c2 : s.take e.length = e
        · rw [decide_eq_true c2] at hP
          have hR := Lib.hid (hY.out hP)
          rw [c2] at hx
          have c1' := c1
          clear c2 hS hP hY
          go_wp2_with fail
          refine HQ1.out.mono ?_
          rintro e w1 ⟨rfl, hd1⟩
          have hD := Lib.hid (hd.trans hd1)
          clear HQ1 hd hd1
          go_wp2
          go_ret
          rw [hR.out]
          exact ⟨ret_i hck.out, hD.out⟩
        · rw [decide_eq_false c2] at hP
          have hS' := Lib.hid (hS.out hP)
          have t2 : (s.take e.length == e) = false := beq_eq_false_iff_ne.2 c2
          clear c2 hS hP hY
          go_wp2_with fail
          refine HQ1.out.mono ?_
          rintro e w1 ⟨rfl, hd1⟩
          have hD := Lib.hid (hd.trans hd1)
          clear HQ1 hd hd1
          go_wp2
          go_roundw
          case rel => exact ⟨k + 1, by go_num, hlt, hS'.out, hD.out⟩
          case measure => simp [intOf]; omega
      · have t1 : decide ((e.length : Int) ≤ (s.length : Int)) = false := decide_eq_false (by omega)
        have t1' : decide (e.length ≤ s.length) = false := decide_eq_false c1
        rw [t1', Bool.false_and] at hP
        have hS' := Lib.hid (hS.out hP)
        clear hS hP hY c1 hx
        go_wp2_with fail
        refine HQ1.out.mono ?_
        rintro e w1 ⟨rfl, hd1⟩
        have hD := Lib.hid (hd.trans hd1)
        clear HQ1 hd hd1
        go_wp2
        go_roundw
        case rel => exact ⟨k + 1, by go_num, hlt, hS'.out, hD.out⟩
        case measure => simp [intOf]; omega
    · obtain rfl : k = 256 := by omega
      have hR := Lib.hid (hNo.out hno.out)
      clear hlt hNo hno
      go_wp2
      go_ret
      rw [hR.out]
      exact ⟨rfl, hd⟩

/-- what first hands back -/
def fT (l : Bs) : Option (Bs × Nat) := match l with
  | [] => none
  | c :: r => if c.toNat = 34 then (rd r).map (fun x => (x.1, x.2 + 1)) else none
def fVal : Option (Bs × Nat) → Value
  | some (t, n) => .agg #[.string (bS t), .int .i64 n]
  | none => .agg #[.string (bS []), .int .i64 0]
theorem fT_c {l : Bs} (h : 0 < l.length) : fT l = if l[0].toNat = 34 then (rd (l.drop 1)).map (fun x => (x.1, x.2 + 1)) else none := by
  cases l with
  | nil => simp at h
  | cons c r => rfl
set_option maxHeartbeats 1000000 in
set_option maxRecDepth 100000 in
theorem first_any (l : Bs) (w : World) (hn : l.length ≤ 1000000) :
    Calls Tryd.prog 50 #[.string (bS l)] w fun e w' => e = .returned (fVal (fT l)) ∧ Below w.heap.size w w' := by
  have hsz := Lib.hid (bS_size l)
  have S0 := Lib.hid ((Fm.init w).box 69 [.string ⟨#[]⟩, .int .i64 0])
  have hB0 := Lib.hid (S0.out.bel)
  by_cases h0 : l = []
  · subst h0
    go_enter Tryd.func50, Tryd.ntmps50
    go_wp2
    refine bodyPost_ret (v := .agg #[.string (bS []), .int .i64 0]) (by simp [results, Tryd.results50, go_sem]) rfl ?_
    exact ⟨rfl, hB0.out⟩
  have hl0 := len_pos h0
  have e1 := isE_false h0
  clear h0
  have hD := Lib.hid (fT_c hl0)
  obtain ⟨c, hc⟩ : ∃ c, l[0] = c := ⟨_, rfl⟩
  have g0 : ∀ h : 0 < (bS l).size, ((bS l)[0]'h) = c := fun h => hc
  have g0 := g0 (by rw [hsz.out]; exact hl0)
  by_cases c34 : (c.toNat : Int) = 34
  · have hD2 : Hid (fT l = (rd (l.drop 1)).map (fun x => (x.1, x.2 + 1))) := Lib.hid (by rw [hD.out, if_pos (by rw [hc]; omega)])
    have HP := Lib.hid (fun s w h1 h2 => part_any s w h1 h2)
    have HQ := Lib.hid (fun b w => rquoted_any b w)
    clear hD hc
    go_enter Tryd.func50, Tryd.ntmps50
    go_wp2
    clear g0 c34
    go_loopw [3, 4] (fun s3 s4 wr => ∃ (i : Nat) (acc : Bs), s4 = .int .i64 i ∧ QI l i acc ∧ wr.ownsRow (w.heap.size + 1) 5 1 s3 acc.length (Lib.byteCells acc) ∧ Below (w.heap.size + 1) (w.alloc (.cells #[.string ⟨#[]⟩, .int .i64 0] 69)) wr) (fun _ s4 _ => l.length - (intOf s4).toNat)
    case atStart => exact ⟨1, [], rfl, QI.start hl0, World.ownsRow_nil _ _ _ _, Below.refl _ _⟩
    case round =>
      obtain ⟨i, acc, rfl, q, hown, hbel⟩ := hrel
      have hB := hbel.size
      rw [World.size_alloc] at hB
      have S := S0.out.call (by rw [World.size_alloc]; exact hbel)
      have hbw := Lib.hid S.bel
      have q1 := q.pos
      have q2 := q.le
      have q3 := q.len
      replace q := Lib.hid q
      replace hbel := Lib.hid hbel
      by_cases hlt : i < l.length
      · obtain ⟨c, hc⟩ : ∃ c, l[i] = c := ⟨_, rfl⟩
        have g0 : ∀ h : i < (bS l).size, ((bS l)[i]'h) = c := fun h => hc
        have g0 := g0 (by rw [hsz.out]; exact hlt)
        by_cases c34 : (c.toNat : Int) = 34
        · have t1 : ((c.toNat : Int) == 34) = true := by simp [c34]
          have t2 : ((i : Int) == (l.length : Int)) = false := by simp; omega
          have t2' : (i == l.length) = false := by simp; omega
          have hR : Hid (fT l = some (acc, i + 1)) := Lib.hid (by rw [hD2.out, q.out.close hlt (by rw [hc]; omega)]; rfl)
          have w1 : IntKind.i64.wrap ((i : Int) + 1) = (i : Int) + 1 := by simp [IntKind.wrap, IntKind.bits, IntKind.signed]; omega
          obtain ⟨A, cp, rfl, hcv⟩ := own_text hown
          obtain ⟨⟨zR, fR, yR, yR1, -⟩, -⟩ := S.facts
          have hF := Lib.hid ((S.set 0 rfl 0 (.string (bS acc))).set 0 rfl 1 (.int .i64 ((i : Int) + 1)))
          clear c34 hc hown S
          go_wp2
          refine bodyPost_ret (v := .agg #[.string (bS acc), .int .i64 (i + 1 : Nat)]) (by simp [results, Tryd.results50, go_sem, yR, yR1]) rfl ?_
          rw [hR.out]
          exact ⟨rfl, hF.out.bel⟩
        have t1 : ((c.toNat : Int) == 34) = false := by simp [c34]
        have h34 := Lib.hid (show ¬ l[i].toNat = 34 from by rw [hc]; omega)
        have HP1 := Lib.hid (HP.out (l.drop i) wr (by rw [List.length_drop]; omega) (head_ne hlt h34.out))
        have hx : (bS l).extract i l.length = bS (l.drop i) := by rw [← bS_size l]; exact bS_from _ _
        clear hc c34
        cases hu : un (l.drop i) with
        | none =>
          have hR : Hid (fT l = none) := Lib.hid (by rw [hD2.out, q.out.bad hlt h34.out hu]; rfl)
          rw [show partN (l.drop i) = -1 from by unfold partN; rw [hu]] at HP1
          clear hu
          go_wp2_with fail
          refine HP1.out.mono ?_
          rintro e w3 ⟨rfl, hd⟩
          replace S := S.drawn hd
          clear hown hd HP1 hx
          obtain ⟨⟨zR, fR, yR, yR1, -⟩, -⟩ := S.facts
          have hF := Lib.hid ((S.set 0 rfl 0 (.string ⟨#[]⟩)).set 0 rfl 1 (.int .i64 0))
          clear S
          go_wp2
          refine bodyPost_ret (v := .agg #[.string (bS []), .int .i64 0]) (by simp [results, Tryd.results50, go_sem, yR, yR1]) rfl ?_
          rw [hR.out]
          exact ⟨rfl, hF.out.bel⟩
        | some p =>
          obtain ⟨b, k⟩ := p
          have hq := Lib.hid (q.out.step hlt h34.out hu)
          have hk := (esc_un hu (head_ne hlt h34.out)).1
          have hk4 := esc_le b
          have hk1 := esc_len b
          rw [show partN (l.drop i) = b.toNat from by unfold partN; rw [hu]] at HP1
          have HQ1 := Lib.hid (HQ.out b)
          obtain ⟨m, hm⟩ : ∃ m, esc b = m := ⟨_, rfl⟩
          rw [hm] at HQ1 hk hk4 hk1
          subst hk
          have w1 : IntKind.u8.wrap (b.toNat : Int) = (b.toNat : Int) := by have := b.toNat_lt; simp [IntKind.wrap, IntKind.bits, IntKind.signed]; omega
          have w2 : IntKind.i64.wrap ((i : Int) + (m.length : Int)) = ((i + m.length : Nat) : Int) := by simp [IntKind.wrap, IntKind.bits, IntKind.signed]; omega
          clear hu hm
          go_wp2_with fail
          refine HP1.out.mono ?_
          rintro e w3 ⟨rfl, hd⟩
          have hbel3 := Lib.hid (hbel.out.drawn hd)
          have hown3 := Lib.hid (own_to hown hd.below)
          have hB3 : w.heap.size + 1 ≤ w3.heap.size := by rw [hd.size]; exact hB
          clear hown hd HP1 hx S
          go_wp2_with (at_builtin; refine push_own elU8 rfl _ _ rfl (w.heap.size + 1) _ _ _ hown3.out rfl [.int .u8 (b.toNat : Int)] rfl rfl rfl (by omega) (by omega) hB3 ?_)
          intro v' w5 hown5 hg5 hb5 _ _
          have hO : Hid (w5.ownsRow (w.heap.size + 1) 5 1 v' (acc ++ [b]).length (Lib.byteCells (acc ++ [b]))) := Lib.hid (by rw [cells_snoc, List.length_append]; exact hown5)
          have hF := Lib.hid (hbel3.out.trans hb5)
          clear hown5 hg5 hb5
          go_wp2_with fail
          refine (HQ1.out _).mono ?_
          rintro e w6 ⟨rfl, hd⟩
          have hO6 := Lib.hid (own_to hO.out hd.below)
          have hF6 := Lib.hid (hF.out.drawn hd)
          clear hd HQ1
          go_wp2
          go_roundw
          case rel => exact ⟨i + m.length, acc ++ [b], rfl, hq.out, hO6.out, hF6.out⟩
          case measure => simp [intOf]; omega
      · obtain rfl : i = l.length := by omega
        have hR : Hid (fT l = none) := Lib.hid (by rw [hD2.out, q.out.nil]; rfl)
        obtain ⟨⟨zR, fR, yR, yR1, -⟩, -⟩ := S.facts
        have hF := Lib.hid ((S.set 0 rfl 0 (.string ⟨#[]⟩)).set 0 rfl 1 (.int .i64 0))
        clear hlt S hown
        go_wp2
        refine bodyPost_ret (v := .agg #[.string (bS []), .int .i64 0]) (by simp [results, Tryd.results50, go_sem, yR, yR1]) rfl ?_
        rw [hR.out]
        exact ⟨rfl, hF.out.bel⟩
  · have t1 : ((c.toNat : Int) == 34) = false := by simp [c34]
    have hD2 : Hid (fT l = none) := Lib.hid (by rw [hD.out, if_neg (by rw [hc]; omega)])
    clear hD hc c34
    go_enter Tryd.func50, Tryd.ntmps50
    go_wp2
    refine bodyPost_ret (v := .agg #[.string (bS []), .int .i64 0]) (by simp [results, Tryd.results50, go_sem]) rfl ?_
    rw [hD2.out]
    exact ⟨rfl, hB0.out⟩
end Go.Proofs.YtmhnocgoknmljaaDoor
