/-
  LAW PowerErrors.
  Conditions: the arguments are as they come in.
-/
import Derived.Test.YtpoddmkimhkmoaaPwY
import Derived.Test.YtpoddmkimhkmoaaPwW
import Derived.Test.YtpoddmkimhkmoaaPwI
namespace Go.Proofs.Ytpoddmkimhkmoaa
open Go.RowKit Go.Sv Go.Pw
set_option maxHeartbeats 8000000 in
set_option maxRecDepth 100000 in
theorem law_errors (t : Tst) (q : TstP) (n d : List Int) (qn qd : LmP) (w : World) (h : RTst w w.heap.size t q) (hbd : TBd t) (hn : RLm w w.heap.size n qn) (hd : RLm w w.heap.size d qd) (ln : Lim n) (ld : Lim d) (bn : n.length ≤ 9223372036854775807) (bd : d.length ≤ 9223372036854775807) :
    Calls Try.prog 6 #[tstV t q, ratV n qn d qd] w (fun e w' => e = .returned (.bool true) ∧ Below w.heap.size w w') := by
  have HA := Lib.hid (fun w' => awake_any w')
  have HFw := Lib.hid (fun q r w' => few_any w' n d q r bn bd)
  have HV := Lib.hid (fun q w' h => hrvalid_any t q w' h hbd)
  have HPn := Lib.hid (fun q w' h (hv : validE t ≠ 0) => paths_no t q w' h hbd hv)
  have HPa := Lib.hid (fun q w' h (hv : validE t = 0) => paths_any t q w' h hbd hv)
  have HEr := Lib.hid (fun q r w' h1 h2 => rerr_any w' n d q r h1 h2 ln ld)
  have HF := Lib.hid (fun q qn qd w' h h1 h2 (he : chE t n d ≠ 0) => fail_err t q n d qn qd w' h hbd h1 h2 ln ld he)
  have HPs := Lib.hid (fun q qn qd w' h h1 h2 (he : chE t n d ≠ 0) => pass_err t q n d qn qd w' h hbd h1 h2 ln ld he)
  have HX := Lib.hid (fun q qn qd w' h h1 h2 (he : chE t n d ≠ 0) => expd_err t q n d qn qd w' h hbd h1 h2 ln ld he)
  have HS := Lib.hid (fun (q r : LmP) w' (h1 : RLm w' w'.heap.size [] q) (h2 : RLm w' w'.heap.size [] r) => show Calls Try.prog 17 #[.agg #[.slice q.a 0 q.c, .slice r.a 0 r.c], .agg #[.slice none 0 0, .slice none 0 0]] w' (fun e w2 => e = .returned (.bool true) ∧ Below w'.heap.size w' w2) from xsame_t w' [] [] q r ⟨none, 0⟩ ⟨none, 0⟩ h1 h2 (RLm.none_ _ _) (RLm.none_ _ _))
  have S := Lib.hid ((natArg (natArg (Fm.init w) hd) hn).arg (tstRd2 t q) h (fun g hg => tst_blk h hg))
  obtain ⟨E, hE⟩ : ∃ E, validE t = E := ⟨_, rfl⟩
  obtain ⟨P, hP⟩ : ∃ P, prE n d = P := ⟨_, rfl⟩
  obtain ⟨X, hX⟩ : ∃ X, chE t n d = X := ⟨_, rfl⟩
  have hXE : X = if E = 0 then P else E := by rw [← hX, ← hE, ← hP]; rfl
  rw [hE] at HV HPn HPa
  rw [hP] at HEr
  rw [hX] at HF HPs HX
  clear hE hP hX hbd hn hd ln ld bn bd h
  obtain ⟨nl, hnl⟩ : ∃ b, decide (n.length ≤ 2 ∧ d.length ≤ 2) = b := ⟨_, rfl⟩
  rw [hnl] at HFw
  clear hnl
  replace S := Lib.hid (S.out.box 25 [.slice q.a0 t.acc.length q.c0, .slice q.a1 t.rej.length q.c1])
  replace S := Lib.hid (S.out.box' 43 [.slice qn.a n.length qn.c, .slice qd.a d.length qd.c] (K := w.heap.size + 1) (by simp))
  cases nl with
  | false =>
    obtain ⟨⟨z1, f1, y1, y1a, -⟩, ⟨z0, f0, y0, y0a, -⟩, -⟩ := S.out.facts
    go_enter Try.func6, Try.ntmps6
    go_wp2_with fail
    refine (HA.out _).mono ?_
    rintro e w1 ⟨rfl, hb⟩
    replace S := Lib.hid (S.out.call hb)
    clear hb
    clear z1 f1 y1 y1a z0 f0 y0 y0a
    obtain ⟨⟨z1, f1, y1, y1a, -⟩, ⟨z0, f0, y0, y0a, -⟩, -⟩ := S.out.facts
    go_wp2_with fail
    refine (HFw.out _ _ _).mono ?_
    rintro e w2 ⟨rfl, hb⟩
    replace S := Lib.hid (S.out.call hb)
    clear hb
    clear z1 f1 y1 y1a z0 f0 y0 y0a
    obtain ⟨⟨z1, f1, y1, y1a, -⟩, ⟨z0, f0, y0, y0a, -⟩, -⟩ := S.out.facts
    clear HV HPn HPa HEr HF HPs HX HS hXE
    go_wp2_with fail
    refine (HA.out _).mono ?_
    rintro e w3 ⟨rfl, hb⟩
    replace S := Lib.hid (S.out.call hb)
    clear hb
    clear z1 f1 y1 y1a z0 f0 y0 y0a
    obtain ⟨⟨z1, f1, y1, y1a, -⟩, ⟨z0, f0, y0, y0a, -⟩, -⟩ := S.out.facts
    go_wp2
    go_ret
    exact ⟨rfl, S.out.bel⟩
  | true =>
    by_cases e0 : E = 0
    · obtain rfl := e0
      rw [if_pos rfl] at hXE
      obtain rfl := hXE
      by_cases p0 : X = 0
      · obtain rfl := p0
        clear HF HPs HX HS
        obtain ⟨⟨z1, f1, y1, y1a, -⟩, ⟨z0, f0, y0, y0a, -⟩, -⟩ := S.out.facts
        go_enter Try.func6, Try.ntmps6
        go_wp2_with fail
        refine (HA.out _).mono ?_
        rintro e w1 ⟨rfl, hb⟩
        replace S := Lib.hid (S.out.call hb)
        clear hb
        clear z1 f1 y1 y1a z0 f0 y0 y0a
        obtain ⟨⟨z1, f1, y1, y1a, -⟩, ⟨z0, f0, y0, y0a, -⟩, -⟩ := S.out.facts
        go_wp2_with fail
        refine (HFw.out _ _ _).mono ?_
        rintro e w2 ⟨rfl, hb⟩
        replace S := Lib.hid (S.out.call hb)
        clear hb
        clear z1 f1 y1 y1a z0 f0 y0 y0a
        obtain ⟨⟨z1, f1, y1, y1a, -⟩, ⟨z0, f0, y0, y0a, -⟩, -⟩ := S.out.facts
        go_wp2_with fail
        refine (HV.out q _ (tstOld S.out (by simp))).mono ?_
        rintro e w3 ⟨rfl, hb⟩
        replace S := Lib.hid (S.out.call hb)
        clear hb
        clear z1 f1 y1 y1a z0 f0 y0 y0a
        obtain ⟨⟨z1, f1, y1, y1a, -⟩, ⟨z0, f0, y0, y0a, -⟩, -⟩ := S.out.facts
        go_wp2_with fail
        refine (HPa.out q _ (tstOld S.out (by simp)) (by first | rfl | trivial)).mono ?_
        rintro e w4 ⟨_, rfl, A4, c4, R4, K4, Q4, rfl, hT, hb⟩
        replace S := Lib.hid (S.out.call hb)
        clear hT hb
        clear z1 f1 y1 y1a z0 f0 y0 y0a
        obtain ⟨⟨z1, f1, y1, y1a, -⟩, ⟨z0, f0, y0, y0a, -⟩, -⟩ := S.out.facts
        go_wp2_with fail
        refine (HEr.out qn qd _ (natOld S.out (by simp)) (natOld S.out (by simp))).mono ?_
        rintro e w5 ⟨rfl, hb⟩
        replace S := Lib.hid (S.out.call hb)
        clear hb
        clear z1 f1 y1 y1a z0 f0 y0 y0a
        obtain ⟨⟨z1, f1, y1, y1a, -⟩, ⟨z0, f0, y0, y0a, -⟩, -⟩ := S.out.facts
        go_wp2
        go_ret
        exact ⟨rfl, S.out.bel⟩
      · have x1 : (X == 0) = false := by rw [beq_eq_false_iff_ne]; exact p0
        replace p0 := Lib.hid p0
        obtain ⟨⟨z1, f1, y1, y1a, -⟩, ⟨z0, f0, y0, y0a, -⟩, -⟩ := S.out.facts
        go_enter Try.func6, Try.ntmps6
        go_wp2_with fail
        refine (HA.out _).mono ?_
        rintro e w1 ⟨rfl, hb⟩
        replace S := Lib.hid (S.out.call hb)
        clear hb
        clear z1 f1 y1 y1a z0 f0 y0 y0a
        obtain ⟨⟨z1, f1, y1, y1a, -⟩, ⟨z0, f0, y0, y0a, -⟩, -⟩ := S.out.facts
        go_wp2_with fail
        refine (HFw.out _ _ _).mono ?_
        rintro e w2 ⟨rfl, hb⟩
        replace S := Lib.hid (S.out.call hb)
        clear hb
        clear z1 f1 y1 y1a z0 f0 y0 y0a
        obtain ⟨⟨z1, f1, y1, y1a, -⟩, ⟨z0, f0, y0, y0a, -⟩, -⟩ := S.out.facts
        go_wp2_with fail
        refine (HV.out q _ (tstOld S.out (by simp))).mono ?_
        rintro e w3 ⟨rfl, hb⟩
        replace S := Lib.hid (S.out.call hb)
        clear hb
        clear z1 f1 y1 y1a z0 f0 y0 y0a
        obtain ⟨⟨z1, f1, y1, y1a, -⟩, ⟨z0, f0, y0, y0a, -⟩, -⟩ := S.out.facts
        go_wp2_with fail
        refine (HPa.out q _ (tstOld S.out (by simp)) (by first | rfl | trivial)).mono ?_
        rintro e w4 ⟨_, rfl, A4, c4, R4, K4, Q4, rfl, hT, hb⟩
        replace S := Lib.hid (S.out.call hb)
        clear hT hb
        clear z1 f1 y1 y1a z0 f0 y0 y0a
        obtain ⟨⟨z1, f1, y1, y1a, -⟩, ⟨z0, f0, y0, y0a, -⟩, -⟩ := S.out.facts
        go_wp2_with fail
        refine (HEr.out qn qd _ (natOld S.out (by simp)) (natOld S.out (by simp))).mono ?_
        rintro e w5 ⟨rfl, hb⟩
        replace S := Lib.hid (S.out.call hb)
        clear hb
        clear z1 f1 y1 y1a z0 f0 y0 y0a
        obtain ⟨⟨z1, f1, y1, y1a, -⟩, ⟨z0, f0, y0, y0a, -⟩, -⟩ := S.out.facts
        go_wp2_with fail
        refine (HF.out q qn qd _ (tstOld S.out (by simp)) (natOld S.out (by simp)) (natOld S.out (by simp)) p0.out).mono ?_
        rintro e w6 ⟨_, rfl, q6, r6, rfl, hr, hr2, hf, hf2, hb⟩
        replace S := Lib.hid (natRes2 S.out hr hr2 hf hf2 hb)
        clear hr hr2 hf hf2 hb
        clear z1 f1 y1 y1a z0 f0 y0 y0a
        obtain ⟨⟨z1, f1, y1, y1a, -⟩, ⟨z0, f0, y0, y0a, -⟩, -⟩ := S.out.facts
        clear z1 f1 y1 y1a z0 f0 y0 y0a
        replace S := Lib.hid (S.out.box 43 [.slice q6.a 0 q6.c, .slice r6.a 0 r6.c])
        obtain ⟨⟨z2, f2, y2, y2a, -⟩, ⟨z1, f1, y1, y1a, -⟩, ⟨z0, f0, y0, y0a, -⟩, -⟩ := S.out.facts
        go_wp2_with fail
        refine (HPs.out q qn qd _ (tstOld S.out (by simp)) (natOld S.out (by simp)) (natOld S.out (by simp)) p0.out).mono ?_
        rintro e w7 ⟨_, rfl, q7, r7, rfl, hr, hr2, hf, hf2, hb⟩
        replace S := Lib.hid (natRes2 S.out hr hr2 hf hf2 hb)
        clear hr hr2 hf hf2 hb
        clear z2 f2 y2 y2a z1 f1 y1 y1a z0 f0 y0 y0a
        obtain ⟨⟨z2, f2, y2, y2a, -⟩, ⟨z1, f1, y1, y1a, -⟩, ⟨z0, f0, y0, y0a, -⟩, -⟩ := S.out.facts
        clear z2 f2 y2 y2a z1 f1 y1 y1a z0 f0 y0 y0a
        replace S := Lib.hid (S.out.box 43 [.slice q7.a 0 q7.c, .slice r7.a 0 r7.c])
        obtain ⟨⟨z3, f3, y3, y3a, -⟩, ⟨z2, f2, y2, y2a, -⟩, ⟨z1, f1, y1, y1a, -⟩, ⟨z0, f0, y0, y0a, -⟩, -⟩ := S.out.facts
        go_wp2_with fail
        refine (HX.out q qn qd _ (tstOld S.out (by simp)) (natOld S.out (by simp)) (natOld S.out (by simp)) p0.out).mono ?_
        rintro e w8 ⟨_, rfl, q8, r8, rfl, hr, hr2, hf, hf2, hb⟩
        replace S := Lib.hid (natRes2 S.out hr hr2 hf hf2 hb)
        clear hr hr2 hf hf2 hb
        clear z3 f3 y3 y3a z2 f2 y2 y2a z1 f1 y1 y1a z0 f0 y0 y0a
        obtain ⟨⟨z3, f3, y3, y3a, -⟩, ⟨z2, f2, y2, y2a, -⟩, ⟨z1, f1, y1, y1a, -⟩, ⟨z0, f0, y0, y0a, -⟩, -⟩ := S.out.facts
        clear z3 f3 y3 y3a z2 f2 y2 y2a z1 f1 y1 y1a z0 f0 y0 y0a
        replace S := Lib.hid (S.out.box 43 [.slice q8.a 0 q8.c, .slice r8.a 0 r8.c])
        obtain ⟨⟨z4, f4, y4, y4a, -⟩, ⟨z3, f3, y3, y3a, -⟩, ⟨z2, f2, y2, y2a, -⟩, ⟨z1, f1, y1, y1a, -⟩, ⟨z0, f0, y0, y0a, -⟩, -⟩ := S.out.facts
        go_wp2_with fail
        refine (HS.out q6 r6 _ (natOld S.out (by simp)) (natOld S.out (by simp))).mono ?_
        rintro e w9 ⟨rfl, hb⟩
        replace S := Lib.hid (S.out.call hb)
        clear hb
        clear z4 f4 y4 y4a z3 f3 y3 y3a z2 f2 y2 y2a z1 f1 y1 y1a z0 f0 y0 y0a
        obtain ⟨⟨z4, f4, y4, y4a, -⟩, ⟨z3, f3, y3, y3a, -⟩, ⟨z2, f2, y2, y2a, -⟩, ⟨z1, f1, y1, y1a, -⟩, ⟨z0, f0, y0, y0a, -⟩, -⟩ := S.out.facts
        go_wp2_with fail
        refine (HS.out q7 r7 _ (natOld S.out (by simp)) (natOld S.out (by simp))).mono ?_
        rintro e w10 ⟨rfl, hb⟩
        replace S := Lib.hid (S.out.call hb)
        clear hb
        clear z4 f4 y4 y4a z3 f3 y3 y3a z2 f2 y2 y2a z1 f1 y1 y1a z0 f0 y0 y0a
        obtain ⟨⟨z4, f4, y4, y4a, -⟩, ⟨z3, f3, y3, y3a, -⟩, ⟨z2, f2, y2, y2a, -⟩, ⟨z1, f1, y1, y1a, -⟩, ⟨z0, f0, y0, y0a, -⟩, -⟩ := S.out.facts
        go_wp2_with fail
        refine (HS.out q8 r8 _ (natOld S.out (by simp)) (natOld S.out (by simp))).mono ?_
        rintro e w11 ⟨rfl, hb⟩
        replace S := Lib.hid (S.out.call hb)
        clear hb
        clear z4 f4 y4 y4a z3 f3 y3 y3a z2 f2 y2 y2a z1 f1 y1 y1a z0 f0 y0 y0a
        obtain ⟨⟨z4, f4, y4, y4a, -⟩, ⟨z3, f3, y3, y3a, -⟩, ⟨z2, f2, y2, y2a, -⟩, ⟨z1, f1, y1, y1a, -⟩, ⟨z0, f0, y0, y0a, -⟩, -⟩ := S.out.facts
        go_wp2
        go_ret
        exact ⟨rfl, S.out.bel⟩
    · rw [if_neg e0] at hXE
      obtain rfl := hXE
      have x1 : (X == 0) = false := by rw [beq_eq_false_iff_ne]; exact e0
      have x2 : (X != 0) = true := by rw [bne_iff_ne]; exact e0
      replace e0 := Lib.hid e0
      clear HEr HPa
      obtain ⟨⟨z1, f1, y1, y1a, -⟩, ⟨z0, f0, y0, y0a, -⟩, -⟩ := S.out.facts
      go_enter Try.func6, Try.ntmps6
      go_wp2_with fail
      refine (HA.out _).mono ?_
      rintro e w1 ⟨rfl, hb⟩
      replace S := Lib.hid (S.out.call hb)
      clear hb
      clear z1 f1 y1 y1a z0 f0 y0 y0a
      obtain ⟨⟨z1, f1, y1, y1a, -⟩, ⟨z0, f0, y0, y0a, -⟩, -⟩ := S.out.facts
      go_wp2_with fail
      refine (HFw.out _ _ _).mono ?_
      rintro e w2 ⟨rfl, hb⟩
      replace S := Lib.hid (S.out.call hb)
      clear hb
      clear z1 f1 y1 y1a z0 f0 y0 y0a
      obtain ⟨⟨z1, f1, y1, y1a, -⟩, ⟨z0, f0, y0, y0a, -⟩, -⟩ := S.out.facts
      go_wp2_with fail
      refine (HV.out q _ (tstOld S.out (by simp))).mono ?_
      rintro e w3 ⟨rfl, hb⟩
      replace S := Lib.hid (S.out.call hb)
      clear hb
      clear z1 f1 y1 y1a z0 f0 y0 y0a
      obtain ⟨⟨z1, f1, y1, y1a, -⟩, ⟨z0, f0, y0, y0a, -⟩, -⟩ := S.out.facts
      go_wp2_with fail
      refine (HPn.out q _ (tstOld S.out (by simp)) e0.out).mono ?_
      rintro e w4 ⟨rfl, hb⟩
      replace S := Lib.hid (S.out.call hb)
      clear hb
      clear z1 f1 y1 y1a z0 f0 y0 y0a
      obtain ⟨⟨z1, f1, y1, y1a, -⟩, ⟨z0, f0, y0, y0a, -⟩, -⟩ := S.out.facts
      go_wp2_with fail
      refine (HF.out q qn qd _ (tstOld S.out (by simp)) (natOld S.out (by simp)) (natOld S.out (by simp)) e0.out).mono ?_
      rintro e w5 ⟨_, rfl, q5, r5, rfl, hr, hr2, hf, hf2, hb⟩
      replace S := Lib.hid (natRes2 S.out hr hr2 hf hf2 hb)
      clear hr hr2 hf hf2 hb
      clear z1 f1 y1 y1a z0 f0 y0 y0a
      obtain ⟨⟨z1, f1, y1, y1a, -⟩, ⟨z0, f0, y0, y0a, -⟩, -⟩ := S.out.facts
      clear z1 f1 y1 y1a z0 f0 y0 y0a
      replace S := Lib.hid (S.out.box 43 [.slice q5.a 0 q5.c, .slice r5.a 0 r5.c])
      obtain ⟨⟨z2, f2, y2, y2a, -⟩, ⟨z1, f1, y1, y1a, -⟩, ⟨z0, f0, y0, y0a, -⟩, -⟩ := S.out.facts
      go_wp2_with fail
      refine (HPs.out q qn qd _ (tstOld S.out (by simp)) (natOld S.out (by simp)) (natOld S.out (by simp)) e0.out).mono ?_
      rintro e w6 ⟨_, rfl, q6, r6, rfl, hr, hr2, hf, hf2, hb⟩
      replace S := Lib.hid (natRes2 S.out hr hr2 hf hf2 hb)
      clear hr hr2 hf hf2 hb
      clear z2 f2 y2 y2a z1 f1 y1 y1a z0 f0 y0 y0a
      obtain ⟨⟨z2, f2, y2, y2a, -⟩, ⟨z1, f1, y1, y1a, -⟩, ⟨z0, f0, y0, y0a, -⟩, -⟩ := S.out.facts
      clear z2 f2 y2 y2a z1 f1 y1 y1a z0 f0 y0 y0a
      replace S := Lib.hid (S.out.box 43 [.slice q6.a 0 q6.c, .slice r6.a 0 r6.c])
      obtain ⟨⟨z3, f3, y3, y3a, -⟩, ⟨z2, f2, y2, y2a, -⟩, ⟨z1, f1, y1, y1a, -⟩, ⟨z0, f0, y0, y0a, -⟩, -⟩ := S.out.facts
      go_wp2_with fail
      refine (HX.out q qn qd _ (tstOld S.out (by simp)) (natOld S.out (by simp)) (natOld S.out (by simp)) e0.out).mono ?_
      rintro e w7 ⟨_, rfl, q7, r7, rfl, hr, hr2, hf, hf2, hb⟩
      replace S := Lib.hid (natRes2 S.out hr hr2 hf hf2 hb)
      clear hr hr2 hf hf2 hb
      clear z3 f3 y3 y3a z2 f2 y2 y2a z1 f1 y1 y1a z0 f0 y0 y0a
      obtain ⟨⟨z3, f3, y3, y3a, -⟩, ⟨z2, f2, y2, y2a, -⟩, ⟨z1, f1, y1, y1a, -⟩, ⟨z0, f0, y0, y0a, -⟩, -⟩ := S.out.facts
      clear z3 f3 y3 y3a z2 f2 y2 y2a z1 f1 y1 y1a z0 f0 y0 y0a
      replace S := Lib.hid (S.out.box 43 [.slice q7.a 0 q7.c, .slice r7.a 0 r7.c])
      obtain ⟨⟨z4, f4, y4, y4a, -⟩, ⟨z3, f3, y3, y3a, -⟩, ⟨z2, f2, y2, y2a, -⟩, ⟨z1, f1, y1, y1a, -⟩, ⟨z0, f0, y0, y0a, -⟩, -⟩ := S.out.facts
      go_wp2_with fail
      refine (HS.out q5 r5 _ (natOld S.out (by simp)) (natOld S.out (by simp))).mono ?_
      rintro e w8 ⟨rfl, hb⟩
      replace S := Lib.hid (S.out.call hb)
      clear hb
      clear z4 f4 y4 y4a z3 f3 y3 y3a z2 f2 y2 y2a z1 f1 y1 y1a z0 f0 y0 y0a
      obtain ⟨⟨z4, f4, y4, y4a, -⟩, ⟨z3, f3, y3, y3a, -⟩, ⟨z2, f2, y2, y2a, -⟩, ⟨z1, f1, y1, y1a, -⟩, ⟨z0, f0, y0, y0a, -⟩, -⟩ := S.out.facts
      go_wp2_with fail
      refine (HS.out q6 r6 _ (natOld S.out (by simp)) (natOld S.out (by simp))).mono ?_
      rintro e w9 ⟨rfl, hb⟩
      replace S := Lib.hid (S.out.call hb)
      clear hb
      clear z4 f4 y4 y4a z3 f3 y3 y3a z2 f2 y2 y2a z1 f1 y1 y1a z0 f0 y0 y0a
      obtain ⟨⟨z4, f4, y4, y4a, -⟩, ⟨z3, f3, y3, y3a, -⟩, ⟨z2, f2, y2, y2a, -⟩, ⟨z1, f1, y1, y1a, -⟩, ⟨z0, f0, y0, y0a, -⟩, -⟩ := S.out.facts
      go_wp2_with fail
      refine (HS.out q7 r7 _ (natOld S.out (by simp)) (natOld S.out (by simp))).mono ?_
      rintro e w10 ⟨rfl, hb⟩
      replace S := Lib.hid (S.out.call hb)
      clear hb
      clear z4 f4 y4 y4a z3 f3 y3 y3a z2 f2 y2 y2a z1 f1 y1 y1a z0 f0 y0 y0a
      obtain ⟨⟨z4, f4, y4, y4a, -⟩, ⟨z3, f3, y3, y3a, -⟩, ⟨z2, f2, y2, y2a, -⟩, ⟨z1, f1, y1, y1a, -⟩, ⟨z0, f0, y0, y0a, -⟩, -⟩ := S.out.facts
      go_wp2
      go_ret
      exact ⟨rfl, S.out.bel⟩
end Go.Proofs.Ytpoddmkimhkmoaa
