/-
  THE LAW HealthText, walked: it returns true.
  Conditions: those that each theorem names.
-/
import Derived.Test.YtbpgpjmihbmcbaaDoorHeT3
import Derived.Test.YtbpgpjmihbmcbaaDoorHeaK
namespace Go.Proofs.YtbpgpjmihbmcbaaDoor
open Go.RowKit Go.Sv Go.Lx
theorem words_wrds (t : Tst) (k : Nat) : (words t k).map (·.data.toList) = wrds t k := by
  unfold words wrds
  rw [List.map_map]
  apply List.map_congr_left
  intro i _
  show (word t i).data.toList = wrd t i
  have h : word t i = bS (wrd t i) := by
    unfold word wrd wordT
    show bS (Lib.itoa (gi t.acc i)) ++ bS [47] ++ bS (Lib.itoa (gi t.rej i)) = _
    rw [bS_app, bS_app]
    simp
  rw [h]
set_option maxHeartbeats 4000000 in
set_option maxRecDepth 100000 in
theorem law_text (t : Tst) (q : TstP) (w : World) (h : RTst w w.heap.size t q) (hbd : TBd t) (ht : Tab w) (hm : MaxL w) :
    Calls Tryd.prog 10 #[tstV t q] w fun e w' => e = .returned (.bool true) ∧ Below w.heap.size w w' := by
  have HA := Lib.hid (fun w' (hb : Below w.heap.size w w') => awake_any w' (ht.to hb))
  have HF := Lib.hid (fun w' => few_any t q w' hbd)
  have HP := Lib.hid (fun w' (hb : Below w.heap.size w w') (g : validE t = 0) => parse_any t w' g (ht.to hb) (hm.to hb))
  have HN := Lib.hid (fun w' (hb : Below w.heap.size w w') (g : validE t ≠ 0) => And.intro (format_no t q w' (h.to hb) hbd g) (rformat_no t q w' (h.to hb) hbd g))
  have HY := Lib.hid (fun w' (hb : Below w.heap.size w w') (g : validE t = 0) => And.intro (format_ok t q w' (h.to hb) hbd g (ht.to hb)) (rformat_ok t q w' (h.to hb) hbd g))
  have HS := Lib.hid (fun w' (hb : Below w.heap.size w w') (q' : TstP) (h' : RTst w' w'.heap.size t q') => same_any t t q' q w' h' (h.to hb) hbd hbd)
  rw [words_wrds, txt_join] at HY
  obtain ⟨T, hT⟩ : ∃ T, txt t t.acc.length = T := ⟨_, rfl⟩
  rw [hT] at HY HP
  obtain ⟨E, hE⟩ : ∃ E, validE t = E := ⟨_, rfl⟩
  rw [hE] at HN HY HP
  obtain ⟨qa, qc, qb, qd⟩ := q
  obtain ⟨W, (hW : w.alloc (.cells #[.slice qa t.acc.length qc, .slice qb t.rej.length qd] 26) = W), S, hB⟩ := fm_boxE (Fm.init w) 26 [.slice qa t.acc.length qc, .slice qb t.rej.length qd]
  have SW := Lib.hid S
  obtain ⟨⟨z, f, y0, y1, -⟩, -⟩ := S.facts
  clear S hB hT hE h hbd ht hm
  go_enter Tryd.func10, Tryd.ntmps10
  go_wp2_with fail
  clear hW
  with_reducible refine (HA.out _ SW.out.bel).mono ?_
  rintro e w1 ⟨rfl, hb1⟩
  have S1 := Lib.hid (SW.out.call hb1)
  clear hb1 SW z f y0 y1
  obtain ⟨⟨z, f, y0, y1, -⟩, -⟩ := S1.out.facts
  obtain ⟨b, hb⟩ : ∃ b, decide (t.acc.length ≤ 70 ∧ t.rej.length ≤ 70) = b := ⟨_, rfl⟩
  rw [hb] at HF
  clear hb
  go_wp2_with fail
  with_reducible refine (HF.out _).mono ?_
  rintro e w2 ⟨rfl, hb2⟩
  have S2 := Lib.hid (S1.out.call hb2)
  clear hb2 S1 z f y0 y1 HF
  obtain ⟨⟨z, f, y0, y1, -⟩, -⟩ := S2.out.facts
  cases b with
  | false =>
    go_wp2_with fail
    with_reducible refine (HA.out _ S2.out.bel).mono ?_
    rintro e w3 ⟨rfl, hb3⟩
    have S3 := Lib.hid (S2.out.call hb3)
    clear hb3 z f y0 y1
    go_wp2
    go_ret
    exact ⟨rfl, S3.out.bel⟩
  | true =>
    cases hz : (E == 0) with
    | false =>
      have hz2 : (E != 0) = true := by rw [bne, hz]; rfl
      have hne : E ≠ 0 := fun h => by rw [h] at hz; cases hz
      have H1 := Lib.hid (HN.out _ S2.out.bel hne).1
      go_wp2_with fail
      with_reducible refine H1.out.mono ?_
      rintro e w3 ⟨rfl, hb3⟩
      have S3 := Lib.hid (S2.out.call hb3)
      clear hb3 z f y0 y1 H1
      obtain ⟨⟨z, f, y0, y1, -⟩, -⟩ := S3.out.facts
      have H2 := Lib.hid (HN.out _ S3.out.bel hne).2
      go_wp2_with fail
      with_reducible refine H2.out.mono ?_
      rintro e w4 ⟨rfl, hb4⟩
      have S4 := Lib.hid (S3.out.call hb4)
      clear hb4 z f y0 y1 H2
      go_wp2
      go_ret
      exact ⟨rfl, S4.out.bel⟩
    | true =>
      obtain rfl : E = 0 := beq_iff_eq.1 hz
      clear hz
      have H1 := Lib.hid (HY.out _ S2.out.bel (by first | rfl | trivial)).1
      go_wp2_with fail
      with_reducible refine H1.out.mono ?_
      rintro e w3 ⟨rfl, hb3⟩
      have S3 := Lib.hid (S2.out.call hb3)
      clear hb3 z f y0 y1 H1
      obtain ⟨⟨z, f, y0, y1, -⟩, -⟩ := S3.out.facts
      have H2 := Lib.hid (HY.out _ S3.out.bel (by first | rfl | trivial)).2
      go_wp2_with fail
      with_reducible refine H2.out.mono ?_
      rintro e w4 ⟨rfl, hb4⟩
      have S4 := Lib.hid (S3.out.call hb4)
      clear hb4 z f y0 y1 H2
      obtain ⟨⟨z, f, y0, y1, -⟩, -⟩ := S4.out.facts
      have H3 := Lib.hid (HP.out _ S4.out.bel (by first | rfl | trivial))
      go_wp2_with fail
      with_reducible refine H3.out.mono ?_
      rintro e w5 ⟨_, rfl, ⟨ra, rc, rb, rd⟩, rfl, hq, hb5⟩
      have S5 := Lib.hid (S4.out.call hb5)
      clear hb5 z f y0 y1 H3
      dsimp only [tstV]
      obtain ⟨W6, (hW6 : w5.alloc (.cells #[.slice ra t.acc.length rc, .slice rb t.rej.length rd] 26) = W6), S6, hb6⟩ := fm_boxE S5.out 26 [.slice ra t.acc.length rc, .slice rb t.rej.length rd]
      have H4 := Lib.hid (HS.out W6 S6.bel ⟨ra, rc, rb, rd⟩ (hq.to hb6))
      try rw [decide_eq_true rfl] at H4
      have S6h := Lib.hid S6
      obtain ⟨⟨u, g, x0, x1, -⟩, ⟨z, f, y0, y1, -⟩, -⟩ := S6.facts
      clear hq hb6 S6
      go_wp2_with fail
      clear hW6
      with_reducible refine H4.out.mono ?_
      rintro e w7 ⟨rfl, hb7⟩
      have S7 := Lib.hid (S6h.out.call hb7)
      clear hb7 u g x0 x1 z f y0 y1
      go_wp2
      go_ret
      exact ⟨rfl, S7.out.bel⟩
end Go.Proofs.YtbpgpjmihbmcbaaDoor
