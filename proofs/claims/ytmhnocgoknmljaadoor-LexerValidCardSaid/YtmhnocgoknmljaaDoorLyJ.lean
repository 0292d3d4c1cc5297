/-
  CONTRACTS of the laws Names, Quote, Unquote, Tokens, Valid.
  Conditions: those that each theorem names.
-/
import Derived.Test.YtmhnocgoknmljaaDoorLyI
namespace Go.Proofs.YtmhnocgoknmljaaDoor
open Go.RowKit Go.Sv Go.Lx
set_option maxHeartbeats 1000000 in
set_option maxRecDepth 100000 in
theorem law_names (l : Bs) (w : World) (ht : Tb w) (hn : l.length ≤ 9223372036854775807) :
    Calls Tryd.prog 3 #[.string (bS l)] w fun e w' => e = .returned (.bool true) ∧ Below w.heap.size w w' := by
  have hsz := Lib.hid (bS_size l)
  have HA := Lib.hid (fun W hT => awake_any W hT)
  by_cases h : 100 < l.length
  · have i1 : decide ((100 : Int) < (l.length : Int)) = true := decide_eq_true (by omega)
    have i2 : decide (100 < l.length) = true := decide_eq_true h
    clear h
    go_enter Tryd.func3, Tryd.ntmps3
    go_wp2_with fail
    refine (HA.out w ht).mono ?_
    rintro e w1 ⟨rfl, hb1⟩
    have hT1 := Lib.hid (ht.to hb1)
    replace hb1 := Lib.hid hb1
    go_wp2_with fail
    refine (HA.out w1 hT1.out).mono ?_
    rintro e w2 ⟨rfl, hb2⟩
    have hF := Lib.hid (hb1.out.trans (hb2.mono hb1.out.size))
    clear hb2
    go_wp2
    go_ret
    exact ⟨rfl, hF.out⟩
  · have i1 : decide ((100 : Int) < (l.length : Int)) = false := decide_eq_false (by omega)
    have i2 : decide (100 < l.length) = false := decide_eq_false h
    have HN := Lib.hid (fun W => isName_any l W (by omega))
    have HM := Lib.hid (fun W => rIsName_any l W (by omega))
    clear h
    go_enter Tryd.func3, Tryd.ntmps3
    go_wp2_with fail
    refine (HA.out w ht).mono ?_
    rintro e w1 ⟨rfl, hb1⟩
    replace hb1 := Lib.hid hb1
    go_wp2_with fail
    refine (HN.out w1).mono ?_
    rintro e w2 ⟨rfl, rfl⟩
    go_wp2_with fail
    refine (HM.out w1).mono ?_
    rintro e w3 ⟨rfl, rfl⟩
    go_wp2
    go_ret
    exact ⟨rfl, hb1.out⟩
set_option maxHeartbeats 1000000 in
set_option maxRecDepth 100000 in
theorem law_quote (l : Bs) (w : World) (ht : Tb w) (hn : l.length ≤ 9223372036854775807) :
    Calls Tryd.prog 7 #[.string (bS l)] w fun e w' => e = .returned (.bool true) ∧ Below w.heap.size w w' := by
  have hsz := Lib.hid (bS_size l)
  have HA := Lib.hid (fun W hT => awake_any W hT)
  by_cases h : 100 < l.length
  · have i1 : decide ((100 : Int) < (l.length : Int)) = true := decide_eq_true (by omega)
    have i2 : decide (100 < l.length) = true := decide_eq_true h
    clear h
    go_enter Tryd.func7, Tryd.ntmps7
    go_wp2_with fail
    refine (HA.out w ht).mono ?_
    rintro e w1 ⟨rfl, hb1⟩
    have hT1 := Lib.hid (ht.to hb1)
    replace hb1 := Lib.hid hb1
    go_wp2_with fail
    refine (HA.out w1 hT1.out).mono ?_
    rintro e w2 ⟨rfl, hb2⟩
    have hF := Lib.hid (hb1.out.trans (hb2.mono hb1.out.size))
    clear hb2
    go_wp2
    go_ret
    exact ⟨rfl, hF.out⟩
  · have i1 : decide ((100 : Int) < (l.length : Int)) = false := decide_eq_false (by omega)
    have i2 : decide (100 < l.length) = false := decide_eq_false h
    have hql : (qform l).length ≤ 1000000 := by
      have := flat_le l
      unfold qform
      simp only [List.length_cons, List.length_append, List.length_nil]
      omega
    have hU := uq_some (unq_qform l)
    have HQ := Lib.hid (fun W => quote_any l W (by omega))
    have HR := Lib.hid (fun W => rQuote_any l W (by omega))
    have HU := Lib.hid (fun W => unquote_any (qform l) W hql)
    rw [hU] at HU
    obtain ⟨q, hq⟩ : ∃ q, qform l = q := ⟨_, rfl⟩
    rw [hq] at HQ HR HU
    clear h hq hU hql
    go_enter Tryd.func7, Tryd.ntmps7
    go_wp2_with fail
    refine (HA.out w ht).mono ?_
    rintro e w1 ⟨rfl, hb1⟩
    replace hb1 := Lib.hid hb1
    go_wp2_with fail
    refine (HQ.out w1).mono ?_
    rintro e w2 ⟨rfl, hb2⟩
    have hb12 := Lib.hid (hb1.out.trans (hb2.mono hb1.out.size))
    clear hb2
    go_wp2_with fail
    refine (HU.out w2).mono ?_
    rintro e w3 ⟨rfl, hb3⟩
    have hb13 := Lib.hid (hb12.out.trans (hb3.mono hb12.out.size))
    clear hb3
    go_wp2_with fail
    refine (HR.out w3).mono ?_
    rintro e w4 ⟨rfl, hd⟩
    have hF := Lib.hid (hb13.out.drawn hd)
    clear hd
    go_wp2
    go_ret
    exact ⟨rfl, hF.out⟩
set_option maxHeartbeats 1000000 in
set_option maxRecDepth 100000 in
theorem law_unquote (l : Bs) (w : World) (ht : Tb w) (hn : l.length ≤ 9223372036854775807) :
    Calls Tryd.prog 8 #[.string (bS l)] w fun e w' => e = .returned (.bool true) ∧ Below w.heap.size w w' := by
  have hsz := Lib.hid (bS_size l)
  have HA := Lib.hid (fun W hT => awake_any W hT)
  by_cases h : 100 < l.length
  · have i1 : decide ((100 : Int) < (l.length : Int)) = true := decide_eq_true (by omega)
    have i2 : decide (100 < l.length) = true := decide_eq_true h
    clear h
    go_enter Tryd.func8, Tryd.ntmps8
    go_wp2_with fail
    refine (HA.out w ht).mono ?_
    rintro e w1 ⟨rfl, hb1⟩
    have hT1 := Lib.hid (ht.to hb1)
    replace hb1 := Lib.hid hb1
    go_wp2_with fail
    refine (HA.out w1 hT1.out).mono ?_
    rintro e w2 ⟨rfl, hb2⟩
    have hF := Lib.hid (hb1.out.trans (hb2.mono hb1.out.size))
    clear hb2
    go_wp2
    go_ret
    exact ⟨rfl, hF.out⟩
  · have i1 : decide ((100 : Int) < (l.length : Int)) = false := decide_eq_false (by omega)
    have i2 : decide (100 < l.length) = false := decide_eq_false h
    have HU := Lib.hid (fun W => unquote_any l W (by omega))
    have HR := Lib.hid (fun W => rUnquote_any l W (by omega))
    have hv : ∃ (t : Bs) (e : Int), uqTup l = .tuple #[.string (bS t), .int .i64 e] := by
      unfold uqTup
      split
      · exact ⟨_, _, rfl⟩
      · exact ⟨_, _, rfl⟩
    obtain ⟨t, e, hv⟩ := hv
    rw [hv] at HU HR
    clear h hv
    go_enter Tryd.func8, Tryd.ntmps8
    go_wp2_with fail
    refine (HA.out w ht).mono ?_
    rintro e w1 ⟨rfl, hb1⟩
    replace hb1 := Lib.hid hb1
    go_wp2_with fail
    refine (HU.out w1).mono ?_
    rintro e w2 ⟨rfl, hb2⟩
    have hb12 := Lib.hid (hb1.out.trans (hb2.mono hb1.out.size))
    clear hb2
    go_wp2_with fail
    refine (HR.out w2).mono ?_
    rintro e w3 ⟨rfl, hb3⟩
    have hF := Lib.hid (hb12.out.trans (hb3.mono hb12.out.size))
    clear hb3
    go_wp2
    go_ret
    exact ⟨rfl, hF.out⟩
set_option maxHeartbeats 2000000 in
set_option maxRecDepth 100000 in
theorem law_tokens (l : Bs) (w : World) (ht : Tb w) (hn : l.length ≤ 9223372036854775807) :
    Calls Tryd.prog 9 #[.string (bS l)] w fun e w' => e = .returned (.bool true) ∧ Below w.heap.size w w' := by
  have hsz := Lib.hid (bS_size l)
  have HA := Lib.hid (fun W hT => awake_any W hT)
  by_cases hbig : 65536 < l.length
  · have i1 : decide ((300 : Int) < (l.length : Int)) = true := decide_eq_true (by omega)
    have i2 : decide (300 < l.length) = true := decide_eq_true (by omega)
    have i3 : decide ((l.length : Int) ≤ 65536) = false := decide_eq_false (by omega)
    have i4 : decide (l.length ≤ 65536) = false := decide_eq_false (by omega)
    have HT := Lib.hid (fun W => tokens_big l W hbig)
    have HR := Lib.hid (fun W => rtokens_big l W hbig)
    have HE := Lib.hid (fun W => equalT_any none none 0 0 [] [] W (fun h => absurd h (by decide)) (fun h => absurd h (by decide)) (by decide) (by decide))
    clear hbig
    go_enter Tryd.func9, Tryd.ntmps9
    go_wp2_with fail
    refine (HA.out w ht).mono ?_
    rintro e w1 ⟨rfl, hb1⟩
    replace hb1 := Lib.hid hb1
    go_wp2_with fail
    refine (HT.out w1).mono ?_
    rintro e w2 ⟨rfl, rfl⟩
    go_wp2_with fail
    refine (HR.out w1).mono ?_
    rintro e w2 ⟨rfl, rfl⟩
    go_wp2_with fail
    refine (HE.out w1).mono ?_
    rintro e w2 ⟨rfl, hd⟩
    have hF := Lib.hid (hb1.out.drawn hd)
    clear hd
    go_wp2
    go_ret
    exact ⟨rfl, hF.out⟩
  have i3 : decide ((l.length : Int) ≤ 65536) = true := decide_eq_true (by omega)
  have i4 : decide (l.length ≤ 65536) = true := decide_eq_true (by omega)
  by_cases h : 300 < l.length
  · have i1 : decide ((300 : Int) < (l.length : Int)) = true := decide_eq_true (by omega)
    have i2 : decide (300 < l.length) = true := decide_eq_true h
    clear h hbig
    go_enter Tryd.func9, Tryd.ntmps9
    go_wp2_with fail
    refine (HA.out w ht).mono ?_
    rintro e w1 ⟨rfl, hb1⟩
    have hT1 := Lib.hid (ht.to hb1)
    replace hb1 := Lib.hid hb1
    go_wp2_with fail
    refine (HA.out w1 hT1.out).mono ?_
    rintro e w2 ⟨rfl, hb2⟩
    have hF := Lib.hid (hb1.out.trans (hb2.mono hb1.out.size))
    clear hb2
    go_wp2
    go_ret
    exact ⟨rfl, hF.out⟩
  · have i1 : decide ((300 : Int) < (l.length : Int)) = false := decide_eq_false (by omega)
    have i2 : decide (300 < l.length) = false := decide_eq_false h
    have HT := Lib.hid (fun W hT => tokens_any l W hT (by omega))
    have HR := Lib.hid (fun W hT => rtokens_any l W hT (by omega))
    have hl := Lib.hid (show l.length ≤ 300 by omega)
    clear h hbig
    go_enter Tryd.func9, Tryd.ntmps9
    go_wp2_with fail
    refine (HA.out w ht).mono ?_
    rintro e w1 ⟨rfl, hb1⟩
    have hT1 := Lib.hid (ht.to hb1)
    replace hb1 := Lib.hid hb1
    cases hk : tk 1 l with
    | error n =>
      have HE := Lib.hid (fun W => equalT_any none none 0 0 [] [] W (fun h => absurd h (by decide)) (fun h => absurd h (by decide)) (by decide) (by decide))
      go_wp2_with fail
      refine (HT.out w1 hT1.out).mono ?_
      rintro e w2 h2
      obtain ⟨rfl, hb2⟩ := tsr_err h2 hk
      have hT2 := Lib.hid (hT1.out.to hb2)
      have hb12 := Lib.hid (hb1.out.trans (hb2.mono hb1.out.size))
      clear hb2 h2
      go_wp2_with fail
      refine (HR.out w2 hT2.out).mono ?_
      rintro e w3 h3
      obtain ⟨rfl, hb3⟩ := tsr_err h3 hk
      have hb13 := Lib.hid (hb12.out.trans (hb3.mono hb12.out.size))
      clear hb3 h3 hk
      go_wp2_with fail
      refine (HE.out w3).mono ?_
      rintro e w4 ⟨rfl, hd⟩
      have hF := Lib.hid (hb13.out.drawn hd)
      clear hd
      go_wp2
      go_ret
      exact ⟨rfl, hF.out⟩
    | ok m =>
      have hml : m.length ≤ 1000000 := by have := tk_len hk; have := hl.out; omega
      go_wp2_with fail
      refine (HT.out w1 hT1.out).mono ?_
      rintro e w2 h2
      obtain ⟨v2, rfl, hown2, hb2⟩ := tsr_ok h2 hk
      obtain ⟨A2, c2, rfl, -, hr2⟩ := own_tks hown2
      have hT2 := Lib.hid (hT1.out.to hb2)
      have hb12 := Lib.hid (hb1.out.trans (hb2.mono hb1.out.size))
      replace hr2 := Lib.hid hr2
      clear hb2 h2 hown2
      go_wp2_with fail
      refine (HR.out w2 hT2.out).mono ?_
      rintro e w3 h3
      obtain ⟨v3, rfl, hown3, hb3⟩ := tsr_ok h3 hk
      obtain ⟨A3, c3, rfl, -, hr3⟩ := own_tks hown3
      have hb13 := Lib.hid (hb12.out.trans (hb3.mono hb12.out.size))
      have HE := equalT_any A2 A3 c2 c3 m m w3 (hr2.out.to hb3) hr3 hml hml
      rw [decide_eq_true (rfl : m = m)] at HE
      replace HE := Lib.hid HE
      clear hb3 h3 hown3 hr3 hk
      go_wp2_with fail
      refine HE.out.mono ?_
      rintro e w4 ⟨rfl, hd⟩
      have hF := Lib.hid (hb13.out.drawn hd)
      clear hd
      go_wp2
      go_ret
      exact ⟨rfl, hF.out⟩
set_option maxHeartbeats 2000000 in
set_option maxRecDepth 100000 in
theorem law_valid (t : Tok) (w : World) (ht : Tb w) (hn : t.text.length ≤ 9223372036854775807) (hs : t.str.length ≤ 9223372036854775807) :
    Calls Tryd.prog 4 #[tokV t] w fun e w' => e = .returned (.bool true) ∧ Below w.heap.size w w' := by
  have HA := Lib.hid (fun W hT => awake_any W hT)
  have HV := Lib.hid (fun (h : t.text.length ≤ 100000) W hT => valid_any t W hT h)
  have HR := Lib.hid (fun (h : t.text.length ≤ 100000) W hT => rvalid_any t W hT h)
  obtain ⟨b, hb⟩ : ∃ b, validT t = b := ⟨_, rfl⟩
  rw [hb] at HV HR
  clear hb
  obtain ⟨k, x, n, s, ln⟩ := t
  unfold tokV at *
  obtain ⟨W, hW, S⟩ : ∃ W, w.alloc (.cells #[.int .i64 k, .string (bS x), .int .i64 n, .string (bS s), .int .i64 ln] 25) = W ∧ Fm w W [⟨w.heap.size, 25, [.int .i64 k, .string (bS x), .int .i64 n, .string (bS s), .int .i64 ln]⟩] [] :=
    ⟨_, rfl, (Fm.init w).box 25 _⟩
  have hTW := Lib.hid (ht.to S.bel)
  have hn : x.length ≤ 9223372036854775807 := hn
  have hs : s.length ≤ 9223372036854775807 := hs
  replace S := Lib.hid S
  have z1 := Lib.hid (bS_size x)
  have z2 := Lib.hid (bS_size s)
  dsimp only at HV HR
  have key : (100 < x.length) ∨ (¬ 100 < x.length ∧ 100 < s.length) ∨ (¬ 100 < x.length ∧ ¬ 100 < s.length) := by omega
  rcases key with h | ⟨h, h'⟩ | ⟨h, h'⟩
  · have i1 : decide ((100 : Int) < (x.length : Int)) = true := decide_eq_true (by omega)
    have i2 : decide (100 < x.length) = true := decide_eq_true h
    clear h
    go_enter Tryd.func4, Tryd.ntmps4
    go_wp2_with fail
    clear hW
    refine (HA.out W hTW.out).mono ?_
    rintro e w1 ⟨rfl, hb1⟩
    replace S := Lib.hid (S.out.call hb1)
    have hT1 := Lib.hid (hTW.out.to hb1)
    clear hb1
    obtain ⟨⟨zz, ff, y10, y11, y12, y13, y14, -⟩, -⟩ := S.out.facts
    go_wp2_with fail
    refine (HA.out w1 hT1.out).mono ?_
    rintro e w2 ⟨rfl, hb2⟩
    replace S := Lib.hid (S.out.call hb2)
    clear hb2
    go_wp2
    go_ret
    exact ⟨rfl, S.out.bel⟩
  · have i1 : decide ((100 : Int) < (x.length : Int)) = false := decide_eq_false (by omega)
    have i2 : decide (100 < x.length) = false := decide_eq_false h
    have i3 : decide ((100 : Int) < (s.length : Int)) = true := decide_eq_true (by omega)
    have i4 : decide (100 < s.length) = true := decide_eq_true h'
    clear h h'
    go_enter Tryd.func4, Tryd.ntmps4
    go_wp2_with fail
    clear hW
    refine (HA.out W hTW.out).mono ?_
    rintro e w1 ⟨rfl, hb1⟩
    replace S := Lib.hid (S.out.call hb1)
    have hT1 := Lib.hid (hTW.out.to hb1)
    clear hb1
    obtain ⟨⟨zz, ff, y10, y11, y12, y13, y14, -⟩, -⟩ := S.out.facts
    go_wp2_with fail
    refine (HA.out w1 hT1.out).mono ?_
    rintro e w2 ⟨rfl, hb2⟩
    replace S := Lib.hid (S.out.call hb2)
    clear hb2
    go_wp2
    go_ret
    exact ⟨rfl, S.out.bel⟩
  · have i1 : decide ((100 : Int) < (x.length : Int)) = false := decide_eq_false (by omega)
    have i2 : decide (100 < x.length) = false := decide_eq_false h
    have i3 : decide ((100 : Int) < (s.length : Int)) = false := decide_eq_false (by omega)
    have i4 : decide (100 < s.length) = false := decide_eq_false h'
    have HV1 := Lib.hid (HV.out (by omega))
    have HR1 := Lib.hid (HR.out (by omega))
    clear h h' HV HR
    go_enter Tryd.func4, Tryd.ntmps4
    go_wp2_with fail
    clear hW
    refine (HA.out W hTW.out).mono ?_
    rintro e w1 ⟨rfl, hb1⟩
    replace S := Lib.hid (S.out.call hb1)
    have hT1 := Lib.hid (hTW.out.to hb1)
    clear hb1
    obtain ⟨⟨zz, ff, y10, y11, y12, y13, y14, -⟩, -⟩ := S.out.facts
    have hX := Lib.hid (fun x : GrowX w1 => hT1.out.to (grow_is w1 x))
    go_wp2_with fail
    refine wp_region_calm (by kernel_rfl) (by kernel_rfl) ?_
    repeat (go_big_quiet_step ((first | (go_at_call 14; with_reducible exact calm_b (HV1.out _ (hX.out _))) | (go_at_call 15; with_reducible exact calm_b (HR1.out _ (hX.out _))))))
    refine wpQuiet_nil ?_
    intro w2 hw2
    replace S := Lib.hid (S.out.call (grow_below hw2))
    clear hw2
    go_wp2
    go_ret
    exact ⟨ret_b (by cases b <;> rfl), S.out.bel⟩
end Go.Proofs.YtmhnocgoknmljaaDoor
