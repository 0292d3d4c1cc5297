/-
  CONTRACT of step.Parse.
  Conditions: those that each theorem names.
-/
import Derived.Test.YtfcimilimojfoaaDoorStT5
import Derived.Test.YtfcimilimojfoaaDoorStT6
namespace Go.Proofs.YtfcimilimojfoaaDoor
open Go.RowKit Go.Sv Go.Lx
/-- the kind of a word, as far as the search has come -/
def kwT (w : Bs) (k : Nat) : Int := if kw w < k then kw w else 0
theorem kwT_1 (w : Bs) : kwT w 1 = 0 := by
  unfold kwT
  split
  · by_cases h : kw w = 0
    · exact h
    · have := kindW_kw h; omega
  · rfl
theorem kwT_5 (w : Bs) : kwT w 5 = kw w := by
  unfold kwT
  by_cases h : kw w = 0
  · rw [h]; rfl
  · have := kindW_kw h
    rw [if_pos (by omega)]
theorem kwT_yes {w : Bs} {k : Nat} (h1 : 1 ≤ k) (h4 : k ≤ 4) (h : w = kindW (k : Int)) : kwT w (k + 1) = k := by
  unfold kwT
  rw [h, kw_kindW (by omega) (by omega), if_pos (by omega)]
theorem kwT_no {w : Bs} {k : Nat} (h1 : 1 ≤ k) (h : w ≠ kindW (k : Int)) : kwT w (k + 1) = kwT w k := by
  unfold kwT
  have hne : kw w ≠ k := fun e => by
    have h0 : kw w ≠ 0 := by omega
    have := (kindW_kw h0).1
    rw [e] at this
    exact h this.symm
  by_cases c : kw w < k
  · rw [if_pos c, if_pos (by omega)]
  · rw [if_neg c, if_neg (by omega)]
theorem itoaZ (z : Int) (h0 : 0 ≤ z) (h : z ≤ 9223372036854775807) (w : World) (ht : Tb w) : Calls Tryd.prog 64 #[.int .i64 z] w fun e w' => e = .returned (.string (bS (Lib.decDigits z.toNat))) ∧ Below w.heap.size w w' := by
  have := itoaN z.toNat (by omega) w ht
  rwa [Int.toNat_of_nonneg h0] at this
theorem spB_0 {s : Sp} (h : spB s = true) : 0 ≤ s.ix ∧ 0 ≤ s.ver := by
  unfold spB at h
  have := of_decide_eq_true h
  omega
/-- Format at a step whose numbers fit -/
theorem fmt_any (s : Sp) (W : World) (ht : Tb W) (hi : s.ix ≤ 9223372036854775807) (hv : s.ver ≤ 9223372036854775807) : Calls Tryd.prog 36 #[stepV s] W (Ret (StrR W (foT s) (foE s))) :=
  Format_any s W (fun h => ⟨dec_20 (by have := spB_0 h; omega), dec_20 (by have := spB_0 h; omega)⟩)
    (fun h W' hb => itoaZ s.ix (spB_0 h).1 hi W' (ht.to hb)) (fun h W' hb => itoaZ s.ver (spB_0 h).2 hv W' (ht.to hb))
theorem parP_no {l : Bs} {s : Sp} (h : decS atV l = s) (g : spB s = true → Go.Sv.stepT s = l → False) : parR l = none := by
  rw [← par_eq atV_dec atV_le l]
  unfold parP
  rw [h, if_neg (fun k => g k.1 k.2)]
theorem parP_yes {l : Bs} {s : Sp} (h : decS atV l = s) (g : spB s = true) (k : Go.Sv.stepT s = l) : parR l = some s := by
  rw [← par_eq atV_dec atV_le l]
  unfold parP
  rw [h, if_pos ⟨g, k⟩]
theorem rowAt {W : World} {b : Nat} {t : TypeId} {ws : List Bs} (h : Whole W b t (sR ws).toArray) (i : Nat) (x : Bs) (hx : ws[i]? = some x) : W.cell? ⟨b, i, none⟩ = some (.string (bS x)) := by
  rw [h.cell i]
  simp [sR, hx]
set_option maxHeartbeats 8000000 in
set_option maxRecDepth 100000 in
theorem parse_any (l : Bs) (hl : l.length ≤ 100000) (w : World) (ht : Tb w) : Calls Tryd.prog 38 #[.string (bS l)] w (Ret (ParR w (parR l))) := by
  obtain ⟨W, (hW : w.alloc (.cells #[.int .i64 0, .int .i64 0, .int .i64 0] 52) = W), S, hB⟩ := fm_boxE (Fm.init w) 52 [.int .i64 0, .int .i64 0, .int .i64 0]
  have HS := Lib.hid (split_any l W (by omega) (ht.to hB))
  have hdec : Hid (∀ k i v, kw ((spl 32 l).headD []) = k → nthA atV (spl 32 l) 1 = i → nthA atV (spl 32 l) 2 = v → decS atV l = ⟨k, i, v⟩) := Lib.hid fun k i v h1 h2 h3 => by unfold decS; rw [h1, h2, h3]
  have hmem := Lib.hid (fun x (hx : x ∈ spl 32 l) => Nat.le_trans (spl_mem hx) hl)
  have hne := spl_ne 32 l
  have hlen : (spl 32 l).length ≤ 200000 := by have := count_spl 32 l; have h2 := Lib.countB_le ⟨#[32]⟩ (Nat.le_refl 1) _ (bS l) (Nat.le_refl _); rw [bS_size] at h2; omega
  obtain ⟨ws, hws⟩ : ∃ ws, spl 32 l = ws := ⟨_, rfl⟩
  rw [hws] at HS hdec hmem hne hlen
  obtain ⟨w0, rest, rfl⟩ : ∃ w0 rest, ws = w0 :: rest := by
    cases ws with
    | nil => exact absurd rfl hne
    | cons a r => exact ⟨a, r, rfl⟩
  have S1 := Lib.hid (S.box 9 (sR (w0 :: rest)))
  obtain ⟨W1, (hW1 : W.alloc (.cells (sR (w0 :: rest)).toArray 9) = W1)⟩ : ∃ W1, W.alloc (.cells (sR (w0 :: rest)).toArray 9) = W1 := ⟨_, rfl⟩
  obtain ⟨N, hN⟩ : ∃ N, (w0 :: rest).length = N := ⟨_, rfl⟩
  have hsz1 : W.heap.size = W1.heap.size - 1 := by rw [← hW1]; simp
  rw [hW1] at S1
  obtain ⟨R, hR⟩ : ∃ R, W.heap.size = R := ⟨_, rfl⟩
  rw [hR] at S1
  have HS2 : Hid (Calls Tryd.prog 66 #[.string (bS l), .string ⟨#[32]⟩] W fun e w' => e = .returned (.slice (some ⟨R, 0, none⟩) N N) ∧ w' = W1) := Lib.hid (HS.out.mono fun e w' ⟨h1, h2⟩ => ⟨by rw [h1, hR, hN], h2.trans hW1⟩)
  have hN1 : 1 ≤ N := by rw [← hN]; simp
  have hNr : Hid (N = rest.length + 1) := Lib.hid (by rw [← hN]; simp)
  rw [hN] at hlen
  clear HS hws hne hB hsz1 hW1 hR
  replace hN := Lib.hid hN
  have S2 := Lib.hid (S1.out.box 52 [.int .i64 0, .int .i64 0, .int .i64 0])
  obtain ⟨B, hB⟩ : ∃ B, W1.heap.size = B := ⟨_, rfl⟩
  rw [hB] at S2
  go_enter Tryd.func38, Tryd.ntmps38
  go_wp2_with fail
  clear hW
  with_reducible refine HS2.out.mono ?_
  rintro e w1 ⟨rfl, rfl⟩
  clear HS2 S S1
  go_wp2
  try rw [hB]
  clear hB
  go_loopw [6] (fun s6 wr => ∃ k : Nat, s6 = .int .i64 k ∧ 1 ≤ k ∧ k ≤ 5 ∧ Fm w wr [⟨B, 52, [.int .i64 (kwT w0 k), .int .i64 0, .int .i64 0]⟩, ⟨R, 9, sR (w0 :: rest)⟩, ⟨w.heap.size, 52, [.int .i64 0, .int .i64 0, .int .i64 0]⟩] []) (fun s6 _ => 5 - (intOf s6).toNat)
  case atStart => exact ⟨1, rfl, Nat.le_refl _, by decide, by rw [kwT_1]; exact S2.out⟩
  case round =>
    obtain ⟨k, rfl, h1, h5, SS⟩ := hrel
    have c0 := rowAt (allB_at SS.bx _ (List.mem_cons_of_mem _ (List.mem_cons_self ..))) 0 w0 rfl
    have T := Lib.hid SS
    obtain ⟨⟨q1, g1, q10, q11, q12, -⟩, ⟨p1, p2, -⟩, ⟨r1, f1, r10, r11, r12, -⟩, -⟩ := SS.facts
    clear SS
    by_cases hlt : k ≤ 4
    · have HX := Lib.hid (fun x : GrowX wr => calm_b (word_any (k : Int) (by omega) (by omega) (grow wr x)))
      have jk : (k : Int) ≤ 4 := by omega
      have hy := Lib.hid (fun h => kwT_yes (w := w0) h1 hlt h)
      have hn := Lib.hid (fun h => kwT_no (w := w0) h1 h)
      obtain ⟨q, hq⟩ : ∃ q, kindW (k : Int) = q := ⟨_, rfl⟩
      rw [hq] at HX hy hn
      clear hq hmem hdec
      go_wp2_with fail
      refine wp_region_calm (by kernel_rfl) (by kernel_rfl) ?_
      repeat (go_big_quiet_step (first | (go_at_call 63; with_reducible exact HX.out _)))
      refine wpQuiet_nil ?_
      intro w2 hw2
      have T2 := Lib.hid (T.out.call (grow_below hw2))
      clear hw2 HX q1 g1 q10 q11 q12 p1 p2 r1 f1 r10 r11 r12 c0
      obtain ⟨⟨q1, g1, q10, q11, q12, -⟩, -⟩ := T2.out.facts
      cases he : (w0 == q) with
      | true =>
        have hk := Lib.hid (hy.out (beq_iff_eq.1 he))
        have T3 := Lib.hid (T2.out.set 0 rfl 0 (.int .i64 k))
        clear hy hn T T2
        go_wp2
        go_roundw
        case rel => exact ⟨k + 1, by go_num, by omega, by omega, by rw [hk.out]; exact T3.out⟩
        case measure => simp [intOf]; omega
      | false =>
        have hk := Lib.hid (hn.out (fun e => by rw [e] at he; simp at he))
        clear hy hn T
        go_wp2
        go_roundw
        case rel => exact ⟨k + 1, by go_num, by omega, by omega, by rw [hk.out]; exact T2.out⟩
        case measure => simp [intOf]; omega
    · obtain rfl : k = 5 := by omega
      have jk : ¬ (((5 : Nat) : Int) ≤ 4) := by decide
      rw [kwT_5] at T q10
      obtain ⟨K, hK⟩ : ∃ K, kw w0 = K := ⟨_, rfl⟩
      rw [hK] at T q10
      clear hlt h1 h5
      have hTb := Lib.hid (fun w' (hb : Below w.heap.size w w') => ht.to hb)
      cases rest with
      | nil =>
        obtain rfl : N = 1 := hNr.out
        clear hNr hN hN1 hlen c0
        have hd := Lib.hid (hdec.out K 0 0 (by simpa using hK) (by simp [nthA]) (by simp [nthA]))
        have HF := Lib.hid (fun W' (hb : Below w.heap.size w W') => fmt_any ⟨K, 0, 0⟩ W' (hTb.out W' hb) (by first | exact atV_le _ | exact (by decide : (0 : Int) ≤ 9223372036854775807)) (by first | exact atV_le _ | exact (by decide : (0 : Int) ≤ 9223372036854775807)))
        have hno := Lib.hid (fun g => parP_no hd.out g)
        have hyes := Lib.hid (fun g k => parP_yes hd.out g k)
        clear hdec hd hTb ht hmem
        go_wp2_with fail
        with_reducible refine (HF.out _ T.out.bel).mono ?_
        rintro e w6 ⟨v6, rfl, hb6, rfl⟩
        have U := Lib.hid (T.out.call hb6)
        clear hb6 HF q1 g1 q10 q11 q12 p1 p2 r1 f1 r10 r11 r12
        obtain ⟨⟨q1, g1, q10, q11, q12, -⟩, -, ⟨r1, f1, r10, r11, r12, -⟩, -⟩ := U.out.facts
        unfold foE foT
        cases hs : spB ⟨K, 0, 0⟩ with
        | false =>
          have hp := Lib.hid (hno.out (fun k _ => by rw [hs] at k; cases k))
          clear hno hyes
          rw [if_neg (by decide), if_neg (by decide)]
          have U2 := Lib.hid (((U.out.set 2 rfl 0 (.int .i64 0)).set 2 rfl 1 (.int .i64 0)).set 2 rfl 2 (.int .i64 0))
          go_wp2
          clear q1 g1 q10 q11 q12 r1 f1 r10 r11 r12
          obtain ⟨-, -, ⟨r1, f1, r10, r11, r12, -⟩, -⟩ := U2.out.facts
          refine bodyPost_ret (v := .tuple #[.agg #[.int .i64 0, .int .i64 0, .int .i64 0], .int .i64 2]) (by simp [results, Tryd.results38, go_sem, r10, r11, r12]) rfl ?_
          exact Ret.mk ⟨U2.out.bel, by rw [hp.out]; rfl⟩
        | true =>
          rw [if_pos rfl, if_pos rfl]
          obtain ⟨TT, hTT⟩ : ∃ t, Go.Sv.stepT ⟨K, 0, 0⟩ = t := ⟨_, rfl⟩
          rw [hTT] at hno hyes ⊢
          clear hTT
          cases hq : (TT == l) with
          | false =>
            have hp := Lib.hid (hno.out (fun _ e => by rw [e] at hq; simp at hq))
            have hq2 : (TT != l) = true := by rw [bne, hq]; rfl
            clear hno hyes
            have U2 := Lib.hid (((U.out.set 2 rfl 0 (.int .i64 0)).set 2 rfl 1 (.int .i64 0)).set 2 rfl 2 (.int .i64 0))
            go_wp2
            clear q1 g1 q10 q11 q12 r1 f1 r10 r11 r12
            obtain ⟨-, -, ⟨r1, f1, r10, r11, r12, -⟩, -⟩ := U2.out.facts
            refine bodyPost_ret (v := .tuple #[.agg #[.int .i64 0, .int .i64 0, .int .i64 0], .int .i64 2]) (by simp [results, Tryd.results38, go_sem, r10, r11, r12]) rfl ?_
            exact Ret.mk ⟨U2.out.bel, by rw [hp.out]; rfl⟩
          | true =>
            have hp := Lib.hid (hyes.out hs (beq_iff_eq.1 hq))
            have hq2 : (TT != l) = false := by rw [bne, hq]; rfl
            clear hno hyes
            have U2 := Lib.hid (((U.out.set 2 rfl 0 (.int .i64 K)).set 2 rfl 1 (.int .i64 0)).set 2 rfl 2 (.int .i64 0))
            go_wp2
            clear q1 g1 q10 q11 q12 r1 f1 r10 r11 r12
            obtain ⟨-, -, ⟨r1, f1, r10, r11, r12, -⟩, -⟩ := U2.out.facts
            refine bodyPost_ret (v := .tuple #[.agg #[.int .i64 K, .int .i64 0, .int .i64 0], .int .i64 0]) (by simp [results, Tryd.results38, go_sem, r10, r11, r12]) rfl ?_
            exact Ret.mk ⟨U2.out.bel, by rw [hp.out]; rfl⟩
      | cons x rest2 =>
        have c1 := rowAt (allB_at T.out.bx _ (List.mem_cons_of_mem _ (List.mem_cons_self ..))) 1 x rfl
        have hx1 := hmem.out x (by simp)
        have A1 := Lib.hid (fun W' (hb : Below w.heap.size w W') => atoi_any x W' (hTb.out W' hb) (by omega))
        clear hx1 c0
        cases rest2 with
        | nil =>
          obtain rfl : N = 2 := hNr.out
          clear hNr hN hN1 hlen
          go_wp2_with fail
          with_reducible refine (A1.out _ T.out.bel).mono ?_
          rintro e w2 ⟨er1, rfl, hb1⟩
          have T1x := Lib.hid ((T.out.call hb1).set 0 rfl 1 (.int .i64 (atV x)))
          have T1y := Lib.hid (T.out.call hb1)
          clear q1 g1 q10 q11 q12 p1 p2 r1 f1 r10 r11 r12 c1 hb1 A1
          obtain ⟨⟨q1, g1, q10, q11, q12, -⟩, ⟨p1, p2, -⟩, ⟨r1, f1, r10, r11, r12, -⟩, -⟩ := T1y.out.facts
          have hd := Lib.hid (hdec.out K (atV x) 0 (by simpa using hK) (by simp [nthA]) (by simp [nthA]))
          have HF := Lib.hid (fun W' (hb : Below w.heap.size w W') => fmt_any ⟨K, (atV x), 0⟩ W' (hTb.out W' hb) (by first | exact atV_le _ | exact (by decide : (0 : Int) ≤ 9223372036854775807)) (by first | exact atV_le _ | exact (by decide : (0 : Int) ≤ 9223372036854775807)))
          have hno := Lib.hid (fun g => parP_no hd.out g)
          have hyes := Lib.hid (fun g k => parP_yes hd.out g k)
          clear hdec hd hTb ht hmem
          obtain ⟨I, hI⟩ : ∃ z, (atV x) = z := ⟨_, rfl⟩
          rw [hI] at T1x HF hno hyes ⊢
          go_wp2_with fail
          with_reducible refine (HF.out _ T1x.out.bel).mono ?_
          rintro e w6 ⟨v6, rfl, hb6, rfl⟩
          have U := Lib.hid (T1x.out.call hb6)
          clear hb6 HF q1 g1 q10 q11 q12 p1 p2 r1 f1 r10 r11 r12
          obtain ⟨⟨q1, g1, q10, q11, q12, -⟩, -, ⟨r1, f1, r10, r11, r12, -⟩, -⟩ := U.out.facts
          unfold foE foT
          cases hs : spB ⟨K, I, 0⟩ with
          | false =>
            have hp := Lib.hid (hno.out (fun k _ => by rw [hs] at k; cases k))
            clear hno hyes
            rw [if_neg (by decide), if_neg (by decide)]
            have U2 := Lib.hid (((U.out.set 2 rfl 0 (.int .i64 0)).set 2 rfl 1 (.int .i64 0)).set 2 rfl 2 (.int .i64 0))
            go_wp2
            clear q1 g1 q10 q11 q12 r1 f1 r10 r11 r12
            obtain ⟨-, -, ⟨r1, f1, r10, r11, r12, -⟩, -⟩ := U2.out.facts
            refine bodyPost_ret (v := .tuple #[.agg #[.int .i64 0, .int .i64 0, .int .i64 0], .int .i64 2]) (by simp [results, Tryd.results38, go_sem, r10, r11, r12]) rfl ?_
            exact Ret.mk ⟨U2.out.bel, by rw [hp.out]; rfl⟩
          | true =>
            rw [if_pos rfl, if_pos rfl]
            obtain ⟨TT, hTT⟩ : ∃ t, Go.Sv.stepT ⟨K, I, 0⟩ = t := ⟨_, rfl⟩
            rw [hTT] at hno hyes ⊢
            clear hTT
            cases hq : (TT == l) with
            | false =>
              have hp := Lib.hid (hno.out (fun _ e => by rw [e] at hq; simp at hq))
              have hq2 : (TT != l) = true := by rw [bne, hq]; rfl
              clear hno hyes
              have U2 := Lib.hid (((U.out.set 2 rfl 0 (.int .i64 0)).set 2 rfl 1 (.int .i64 0)).set 2 rfl 2 (.int .i64 0))
              go_wp2
              clear q1 g1 q10 q11 q12 r1 f1 r10 r11 r12
              obtain ⟨-, -, ⟨r1, f1, r10, r11, r12, -⟩, -⟩ := U2.out.facts
              refine bodyPost_ret (v := .tuple #[.agg #[.int .i64 0, .int .i64 0, .int .i64 0], .int .i64 2]) (by simp [results, Tryd.results38, go_sem, r10, r11, r12]) rfl ?_
              exact Ret.mk ⟨U2.out.bel, by rw [hp.out]; rfl⟩
            | true =>
              have hp := Lib.hid (hyes.out hs (beq_iff_eq.1 hq))
              have hq2 : (TT != l) = false := by rw [bne, hq]; rfl
              clear hno hyes
              have U2 := Lib.hid (((U.out.set 2 rfl 0 (.int .i64 K)).set 2 rfl 1 (.int .i64 I)).set 2 rfl 2 (.int .i64 0))
              go_wp2
              clear q1 g1 q10 q11 q12 r1 f1 r10 r11 r12
              obtain ⟨-, -, ⟨r1, f1, r10, r11, r12, -⟩, -⟩ := U2.out.facts
              refine bodyPost_ret (v := .tuple #[.agg #[.int .i64 K, .int .i64 I, .int .i64 0], .int .i64 0]) (by simp [results, Tryd.results38, go_sem, r10, r11, r12]) rfl ?_
              exact Ret.mk ⟨U2.out.bel, by rw [hp.out]; rfl⟩
        | cons y rest3 =>
          have c2 := rowAt (allB_at T.out.bx _ (List.mem_cons_of_mem _ (List.mem_cons_self ..))) 2 y rfl
          have hx2 := hmem.out y (by simp)
          have A2 := Lib.hid (fun W' (hb : Below w.heap.size w W') => atoi_any y W' (hTb.out W' hb) (by omega))
          have j2 : (2 : Int) < (N : Int) := by have := hNr.out; simp only [List.length_cons] at this; omega
          have j1 : (1 : Int) < (N : Int) := by omega
          have n2 : 2 < N := by omega
          have n1 : 1 < N := by omega
          clear hNr hN hN1 hx2 c2
          go_wp2_with fail
          with_reducible refine (A1.out _ T.out.bel).mono ?_
          rintro e w2 ⟨er1, rfl, hb1⟩
          have T1x := Lib.hid ((T.out.call hb1).set 0 rfl 1 (.int .i64 (atV x)))
          have T1y := Lib.hid (T.out.call hb1)
          clear q1 g1 q10 q11 q12 p1 p2 r1 f1 r10 r11 r12 c1 hb1 A1
          obtain ⟨⟨q1, g1, q10, q11, q12, -⟩, ⟨p1, p2, -⟩, ⟨r1, f1, r10, r11, r12, -⟩, -⟩ := T1y.out.facts
          have c2 := rowAt (allB_at T1y.out.bx _ (List.mem_cons_of_mem _ (List.mem_cons_self ..))) 2 y rfl
          go_wp2_with fail
          with_reducible refine (A2.out _ T1x.out.bel).mono ?_
          rintro e w3 ⟨er2, rfl, hb2⟩
          have T2x := Lib.hid ((T1x.out.call hb2).set 0 rfl 2 (.int .i64 (atV y)))
          have T2y := Lib.hid (T1x.out.call hb2)
          clear q1 g1 q10 q11 q12 p1 p2 r1 f1 r10 r11 r12 c2 hb2 A2
          obtain ⟨⟨q1, g1, q10, q11, q12, -⟩, ⟨p1, p2, -⟩, ⟨r1, f1, r10, r11, r12, -⟩, -⟩ := T2y.out.facts
          have hd := Lib.hid (hdec.out K (atV x) (atV y) (by simpa using hK) (by simp [nthA]) (by simp [nthA]))
          have HF := Lib.hid (fun W' (hb : Below w.heap.size w W') => fmt_any ⟨K, (atV x), (atV y)⟩ W' (hTb.out W' hb) (by first | exact atV_le _ | exact (by decide : (0 : Int) ≤ 9223372036854775807)) (by first | exact atV_le _ | exact (by decide : (0 : Int) ≤ 9223372036854775807)))
          have hno := Lib.hid (fun g => parP_no hd.out g)
          have hyes := Lib.hid (fun g k => parP_yes hd.out g k)
          clear hdec hd hTb ht hmem
          obtain ⟨I, hI⟩ : ∃ z, (atV x) = z := ⟨_, rfl⟩
          rw [hI] at T2x HF hno hyes ⊢
          obtain ⟨V, hV⟩ : ∃ z, (atV y) = z := ⟨_, rfl⟩
          rw [hV] at T2x HF hno hyes ⊢
          go_wp2_with fail
          with_reducible refine (HF.out _ T2x.out.bel).mono ?_
          rintro e w6 ⟨v6, rfl, hb6, rfl⟩
          have U := Lib.hid (T2x.out.call hb6)
          clear hb6 HF q1 g1 q10 q11 q12 p1 p2 r1 f1 r10 r11 r12
          obtain ⟨⟨q1, g1, q10, q11, q12, -⟩, -, ⟨r1, f1, r10, r11, r12, -⟩, -⟩ := U.out.facts
          unfold foE foT
          cases hs : spB ⟨K, I, V⟩ with
          | false =>
            have hp := Lib.hid (hno.out (fun k _ => by rw [hs] at k; cases k))
            clear hno hyes
            rw [if_neg (by decide), if_neg (by decide)]
            have U2 := Lib.hid (((U.out.set 2 rfl 0 (.int .i64 0)).set 2 rfl 1 (.int .i64 0)).set 2 rfl 2 (.int .i64 0))
            go_wp2
            clear q1 g1 q10 q11 q12 r1 f1 r10 r11 r12
            obtain ⟨-, -, ⟨r1, f1, r10, r11, r12, -⟩, -⟩ := U2.out.facts
            refine bodyPost_ret (v := .tuple #[.agg #[.int .i64 0, .int .i64 0, .int .i64 0], .int .i64 2]) (by simp [results, Tryd.results38, go_sem, r10, r11, r12]) rfl ?_
            exact Ret.mk ⟨U2.out.bel, by rw [hp.out]; rfl⟩
          | true =>
            rw [if_pos rfl, if_pos rfl]
            obtain ⟨TT, hTT⟩ : ∃ t, Go.Sv.stepT ⟨K, I, V⟩ = t := ⟨_, rfl⟩
            rw [hTT] at hno hyes ⊢
            clear hTT
            cases hq : (TT == l) with
            | false =>
              have hp := Lib.hid (hno.out (fun _ e => by rw [e] at hq; simp at hq))
              have hq2 : (TT != l) = true := by rw [bne, hq]; rfl
              clear hno hyes
              have U2 := Lib.hid (((U.out.set 2 rfl 0 (.int .i64 0)).set 2 rfl 1 (.int .i64 0)).set 2 rfl 2 (.int .i64 0))
              go_wp2
              clear q1 g1 q10 q11 q12 r1 f1 r10 r11 r12
              obtain ⟨-, -, ⟨r1, f1, r10, r11, r12, -⟩, -⟩ := U2.out.facts
              refine bodyPost_ret (v := .tuple #[.agg #[.int .i64 0, .int .i64 0, .int .i64 0], .int .i64 2]) (by simp [results, Tryd.results38, go_sem, r10, r11, r12]) rfl ?_
              exact Ret.mk ⟨U2.out.bel, by rw [hp.out]; rfl⟩
            | true =>
              have hp := Lib.hid (hyes.out hs (beq_iff_eq.1 hq))
              have hq2 : (TT != l) = false := by rw [bne, hq]; rfl
              clear hno hyes
              have U2 := Lib.hid (((U.out.set 2 rfl 0 (.int .i64 K)).set 2 rfl 1 (.int .i64 I)).set 2 rfl 2 (.int .i64 V))
              go_wp2
              clear q1 g1 q10 q11 q12 r1 f1 r10 r11 r12
              obtain ⟨-, -, ⟨r1, f1, r10, r11, r12, -⟩, -⟩ := U2.out.facts
              refine bodyPost_ret (v := .tuple #[.agg #[.int .i64 K, .int .i64 I, .int .i64 V], .int .i64 0]) (by simp [results, Tryd.results38, go_sem, r10, r11, r12]) rfl ?_
              exact Ret.mk ⟨U2.out.bel, by rw [hp.out]; rfl⟩
end Go.Proofs.YtfcimilimojfoaaDoor
