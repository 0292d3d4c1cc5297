/-
  CONTRACTS of the laws NaturalText, NaturalParse.
  Conditions: those that each theorem names.
-/
import Derived.Test.YtmkkjghmgbkdgaaDoorNaV
namespace Go.Proofs.YtmkkjghmgbkdgaaDoor
open Go.RowKit Go.Sv
set_option maxHeartbeats 2000000 in
set_option maxRecDepth 100000 in
theorem law_text_few (w : World) (a : List Int) (qa : LmP) (ha : RLm w w.heap.size a qa) (la : Lim a) (ht : Tab w) (hF : ([(a, qa)] : List LQ).all (fun x => decide ((x.1.length : Int) ≤ 130)) = false) :
    Calls Tryd.prog 7 #[natV a qa] w fun e w' => e = .returned (.bool true) ∧ Below w.heap.size w w' := by
  have ht' := Lib.hid (fun w' (hb : Below w.heap.size w w') => ht.to hb)
  have HAw := Lib.hid (fun w' (h : Below w.heap.size w w') => awake_any w' (ht'.out _ h))
  have S := Lib.hid (natArg (Fm.init w) ha)
  have HFew : Hid (∀ W kb kc kt bs rs, Fm w W (⟨kb, kt, [.slice qa.a a.length qa.c]⟩ :: bs) rs → Calls Tryd.prog 20 #[.int .i64 130, .slice (some ⟨kb, 0, none⟩) 1 kc] W fun e w' => e = .returned (.bool false) ∧ Below W.heap.size W w') := Lib.hid fun W kb kc kt bs rs S => by
    have := few_fm (c := kc) 130 [(a, qa)] S (by simp)
    rw [hF] at this
    exact this
  obtain ⟨qaa, qac⟩ := qa
  dsimp only at S HFew
  replace S := Lib.hid (S.out.box 26 [.slice qaa a.length qac])
  clear ha ht
  go_enter Tryd.func7, Tryd.ntmps7
  go_wp2_with fail
  refine (HAw.out _ S.out.bel).mono ?_
  rintro e w1 ⟨rfl, hb⟩
  replace S := Lib.hid (S.out.call hb)
  clear hb
  obtain ⟨⟨z0, f0, y0, -⟩, -⟩ := S.out.facts
  replace S := Lib.hid (S.out.box 26 [.slice qaa a.length qac])
  go_wp2_with fail
  refine (HFew.out _ _ _ _ _ _ S.out).mono ?_
  rintro e w2 ⟨rfl, hb⟩
  replace S := Lib.hid (S.out.call hb)
  clear hb z0 f0 y0
  obtain ⟨⟨z1, f1, y1, -⟩, ⟨z0, f0, y0, -⟩, -⟩ := S.out.facts
  go_wp2_with fail
  refine (HAw.out _ S.out.bel).mono ?_
  rintro e w3 ⟨rfl, hb⟩
  replace S := Lib.hid (S.out.call hb)
  clear hb z0 f0 y0 z1 f1 y1
  obtain ⟨⟨z1, f1, y1, -⟩, ⟨z0, f0, y0, -⟩, -⟩ := S.out.facts
  go_wp2
  go_ret
  exact ⟨rfl, S.out.bel⟩
set_option maxHeartbeats 2000000 in
set_option maxRecDepth 100000 in
theorem law_text_no (w : World) (a : List Int) (qa : LmP) (ha : RLm w w.heap.size a qa) (la : Lim a) (ht : Tab w) (hF : ([(a, qa)] : List LQ).all (fun x => decide ((x.1.length : Int) ≤ 130)) = true) (hv : vN a = false) :
    Calls Tryd.prog 7 #[natV a qa] w fun e w' => e = .returned (.bool true) ∧ Below w.heap.size w w' := by
  have ht' := Lib.hid (fun w' (hb : Below w.heap.size w w') => ht.to hb)
  have HAw := Lib.hid (fun w' (h : Below w.heap.size w w') => awake_any w' (ht'.out _ h))
  have S := Lib.hid (natArg (Fm.init w) ha)
  have HP := Lib.hid (fun q w' (h1 : RLm w' w'.heap.size a q) (ht : Tab w') => by
    have := format_any a q w' h1 la ht
    unfold fmtV fmtE at this
    rw [hv, if_neg (by decide), if_neg (by decide)] at this
    exact this)
  have HQ := Lib.hid (fun q w' (h1 : RLm w' w'.heap.size a q) => by
    have := rformat_any a q w' h1 la
    unfold fmtV fmtE at this
    rw [hv, if_neg (by decide), if_neg (by decide)] at this
    exact this)
  clear hv
  have HFew : Hid (∀ W kb kc kt bs rs, Fm w W (⟨kb, kt, [.slice qa.a a.length qa.c]⟩ :: bs) rs → Calls Tryd.prog 20 #[.int .i64 130, .slice (some ⟨kb, 0, none⟩) 1 kc] W fun e w' => e = .returned (.bool true) ∧ Below W.heap.size W w') := Lib.hid fun W kb kc kt bs rs S => by
    have := few_fm (c := kc) 130 [(a, qa)] S (by simp)
    rw [hF] at this
    exact this
  obtain ⟨qaa, qac⟩ := qa
  dsimp only at S HFew
  replace S := Lib.hid (S.out.box 26 [.slice qaa a.length qac])
  clear ha ht
  go_enter Tryd.func7, Tryd.ntmps7
  go_wp2_with fail
  refine (HAw.out _ S.out.bel).mono ?_
  rintro e w1 ⟨rfl, hb⟩
  replace S := Lib.hid (S.out.call hb)
  clear hb
  obtain ⟨⟨z0, f0, y0, -⟩, -⟩ := S.out.facts
  replace S := Lib.hid (S.out.box 26 [.slice qaa a.length qac])
  go_wp2_with fail
  refine (HFew.out _ _ _ _ _ _ S.out).mono ?_
  rintro e w2 ⟨rfl, hb⟩
  replace S := Lib.hid (S.out.call hb)
  clear hb z0 f0 y0
  obtain ⟨⟨z1, f1, y1, -⟩, ⟨z0, f0, y0, -⟩, -⟩ := S.out.facts
  replace S := Lib.hid (S.out.drop _ _ (List.sublist_cons_self _ _) (List.Sublist.refl _))
  go_wp2_with fail
  refine (HP.out _ _ S.out.r0 (ht'.out _ S.out.bel)).mono ?_
  rintro e w3 ⟨rfl, hb⟩
  replace S := Lib.hid (S.out.call hb)
  clear hb z0 f0 y0 z1 f1 y1
  obtain ⟨⟨z0, f0, y0, -⟩, -⟩ := S.out.facts
  go_wp2_with fail
  refine (HQ.out _ _ S.out.r0).mono ?_
  rintro e w4 ⟨rfl, hb⟩
  replace S := Lib.hid (S.out.call hb)
  clear hb z0 f0 y0
  obtain ⟨⟨z0, f0, y0, -⟩, -⟩ := S.out.facts
  go_wp2
  go_ret
  exact ⟨rfl, S.out.bel⟩
set_option maxHeartbeats 2000000 in
set_option maxRecDepth 100000 in
theorem law_text_ok (w : World) (a : List Int) (qa : LmP) (ha : RLm w w.heap.size a qa) (la : Lim a) (ht : Tab w) (hF : ([(a, qa)] : List LQ).all (fun x => decide ((x.1.length : Int) ≤ 130)) = true) (hv : vN a = true) :
    Calls Tryd.prog 7 #[natV a qa] w fun e w' => e = .returned (.bool true) ∧ Below w.heap.size w w' := by
  have ht' := Lib.hid (fun w' (hb : Below w.heap.size w w') => ht.to hb)
  have HAw := Lib.hid (fun w' (h : Below w.heap.size w w') => awake_any w' (ht'.out _ h))
  have S := Lib.hid (natArg (Fm.init w) ha)
  have HP := Lib.hid (fun q w' (h1 : RLm w' w'.heap.size a q) (ht : Tab w') => by
    have := format_any a q w' h1 la ht
    unfold fmtV fmtE at this
    rw [hv, if_pos rfl, if_pos rfl] at this
    exact this)
  have HQ := Lib.hid (fun q w' (h1 : RLm w' w'.heap.size a q) => by
    have := rformat_any a q w' h1 la
    unfold fmtV fmtE at this
    rw [hv, if_pos rfl, if_pos rfl] at this
    exact this)
  have HR := Lib.hid (fun w' => by
    have := parse_any (Lib.decDigits (vl a)) w' (vN_dec la hv)
    unfold prsV prsE at this
    rw [dec_txt, if_pos rfl, if_pos rfl, dval_dec, (cut_of (vN_len la hv)).1, (cut_of (vN_len la hv)).2, ← lim_vl la (vN_can hv).2, show bS (Lib.decDigits (vl a)) = decS (vl a) from rfl] at this
    exact this)
  obtain ⟨s, hs⟩ : ∃ s, decS (vl a) = s := ⟨_, rfl⟩
  rw [hs] at HP HQ HR
  clear hv hs
  have HS := Lib.hid (fun q r w' (h1 : RLm w' w'.heap.size (a) q) (h2 : RLm w' w'.heap.size (a) r) => by
    have := same_any (a) (a) q r w' h1 h2
    rw [decide_eq_true rfl] at this
    exact this)
  have HFew : Hid (∀ W kb kc kt bs rs, Fm w W (⟨kb, kt, [.slice qa.a a.length qa.c]⟩ :: bs) rs → Calls Tryd.prog 20 #[.int .i64 130, .slice (some ⟨kb, 0, none⟩) 1 kc] W fun e w' => e = .returned (.bool true) ∧ Below W.heap.size W w') := Lib.hid fun W kb kc kt bs rs S => by
    have := few_fm (c := kc) 130 [(a, qa)] S (by simp)
    rw [hF] at this
    exact this
  obtain ⟨qaa, qac⟩ := qa
  dsimp only at S HFew
  replace S := Lib.hid (S.out.box 26 [.slice qaa a.length qac])
  clear ha ht
  go_enter Tryd.func7, Tryd.ntmps7
  go_wp2_with fail
  refine (HAw.out _ S.out.bel).mono ?_
  rintro e w1 ⟨rfl, hb⟩
  replace S := Lib.hid (S.out.call hb)
  clear hb
  obtain ⟨⟨z0, f0, y0, -⟩, -⟩ := S.out.facts
  replace S := Lib.hid (S.out.box 26 [.slice qaa a.length qac])
  go_wp2_with fail
  refine (HFew.out _ _ _ _ _ _ S.out).mono ?_
  rintro e w2 ⟨rfl, hb⟩
  replace S := Lib.hid (S.out.call hb)
  clear hb z0 f0 y0
  obtain ⟨⟨z1, f1, y1, -⟩, ⟨z0, f0, y0, -⟩, -⟩ := S.out.facts
  replace S := Lib.hid (S.out.drop _ _ (List.sublist_cons_self _ _) (List.Sublist.refl _))
  go_wp2_with fail
  refine (HP.out _ _ S.out.r0 (ht'.out _ S.out.bel)).mono ?_
  rintro e w3 ⟨rfl, hb⟩
  replace S := Lib.hid (S.out.call hb)
  clear hb z0 f0 y0 z1 f1 y1
  obtain ⟨⟨z0, f0, y0, -⟩, -⟩ := S.out.facts
  go_wp2_with fail
  refine (HQ.out _ _ S.out.r0).mono ?_
  rintro e w4 ⟨rfl, hb⟩
  replace S := Lib.hid (S.out.call hb)
  clear hb z0 f0 y0
  obtain ⟨⟨z0, f0, y0, -⟩, -⟩ := S.out.facts
  go_wp2_with fail
  refine (HR.out _).mono ?_
  rintro e w5 ⟨_, rfl, q1, rfl, hr, hf, hb⟩
  replace S := Lib.hid (natRes S.out hr hf hb)
  clear hr hf hb z0 f0 y0
  obtain ⟨⟨z0, f0, y0, -⟩, -⟩ := S.out.facts
  replace S := Lib.hid (S.out.box 26 [.slice q1.a (a).length q1.c])
  go_wp2_with fail
  refine (HS.out _ _ _ S.out.r0 S.out.r1).mono ?_
  rintro e w6 ⟨rfl, hb⟩
  replace S := Lib.hid (S.out.call hb)
  clear hb z0 f0 y0
  obtain ⟨⟨z1, f1, y1, -⟩, ⟨z0, f0, y0, -⟩, -⟩ := S.out.facts
  go_wp2
  go_ret
  exact ⟨rfl, S.out.bel⟩
set_option maxHeartbeats 2000000 in
set_option maxRecDepth 100000 in
theorem law_text (w : World) (a : List Int) (qa : LmP) (ha : RLm w w.heap.size a qa) (la : Lim a) (ht : Tab w) :
    Calls Tryd.prog 7 #[natV a qa] w fun e w' => e = .returned (.bool true) ∧ Below w.heap.size w w' := by
  cases hF : ([(a, qa)] : List LQ).all (fun x => decide ((x.1.length : Int) ≤ 130)) with
  | false => exact law_text_few w a qa ha la ht hF
  | true =>
    cases hv : vN a with
    | false => exact law_text_no w a qa ha la ht hF hv
    | true => exact law_text_ok w a qa ha la ht hF hv
set_option maxHeartbeats 2000000 in
set_option maxRecDepth 100000 in
theorem law_parse_long (l : List UInt8) (w : World) (ht : Tab w) (hl : 1300 < l.length) :
    Calls Tryd.prog 8 #[.string (bS l)] w fun e w' => e = .returned (.bool true) ∧ Below w.heap.size w w' := by
  have ht' := Lib.hid (fun w' (hb : Below w.heap.size w w') => ht.to hb)
  have HAw := Lib.hid (fun w' (h : Below w.heap.size w w') => awake_any w' (ht'.out _ h))
  have S := Lib.hid (Fm.init w)
  have d0 : decide ((1300 : Int) < (l.length : Int)) = true := decide_eq_true (by omega)
  have d1 : decide (1300 < l.length) = true := decide_eq_true hl
  clear hl
  go_enter Tryd.func8, Tryd.ntmps8
  go_wp2_with fail
  refine (HAw.out _ S.out.bel).mono ?_
  rintro e w1 ⟨rfl, hb⟩
  replace S := Lib.hid (S.out.call hb)
  clear hb
  go_wp2_with fail
  refine (HAw.out _ S.out.bel).mono ?_
  rintro e w2 ⟨rfl, hb⟩
  replace S := Lib.hid (S.out.call hb)
  clear hb
  go_wp2
  go_ret
  exact ⟨rfl, S.out.bel⟩
set_option maxHeartbeats 2000000 in
set_option maxRecDepth 100000 in
theorem law_parse_go (l : List UInt8) (w : World) (ht : Tab w) (hl : ¬ 1300 < l.length) :
    Calls Tryd.prog 8 #[.string (bS l)] w fun e w' => e = .returned (.bool true) ∧ Below w.heap.size w w' := by
  have ht' := Lib.hid (fun w' (hb : Below w.heap.size w w') => ht.to hb)
  have HAw := Lib.hid (fun w' (h : Below w.heap.size w w') => awake_any w' (ht'.out _ h))
  have S := Lib.hid (Fm.init w)
  have d0 : decide ((1300 : Int) < (l.length : Int)) = false := decide_eq_false (by omega)
  have d1 : decide (1300 < l.length) = false := decide_eq_false hl
  have HP := Lib.hid (fun w' => parse_any l w' (by omega))
  have HQ := Lib.hid (fun w' => rparse_any l w' (by omega))
  obtain ⟨V, hV⟩ : ∃ V, prsV l = V := ⟨_, rfl⟩
  obtain ⟨E, hE⟩ : ∃ E, prsE l = E := ⟨_, rfl⟩
  rw [hV, hE] at HP HQ
  clear hl hV hE
  have HS := Lib.hid (fun q r w' (h1 : RLm w' w'.heap.size (V) q) (h2 : RLm w' w'.heap.size (V) r) => by
    have := same_any (V) (V) q r w' h1 h2
    rw [decide_eq_true rfl] at this
    exact this)
  go_enter Tryd.func8, Tryd.ntmps8
  go_wp2_with fail
  refine (HAw.out _ S.out.bel).mono ?_
  rintro e w1 ⟨rfl, hb⟩
  replace S := Lib.hid (S.out.call hb)
  clear hb
  go_wp2_with fail
  refine (HP.out _).mono ?_
  rintro e w2 ⟨_, rfl, q1, rfl, hr, hf, hb⟩
  replace S := Lib.hid (natRes S.out hr hf hb)
  clear hr hf hb
  replace S := Lib.hid (S.out.box 26 [.slice q1.a (V).length q1.c])
  go_wp2_with fail
  refine (HQ.out _).mono ?_
  rintro e w3 ⟨_, rfl, q2, rfl, hr, hf, hb⟩
  replace S := Lib.hid (natRes S.out hr hf hb)
  clear hr hf hb
  obtain ⟨⟨z0, f0, y0, -⟩, -⟩ := S.out.facts
  replace S := Lib.hid (S.out.box 26 [.slice q2.a (V).length q2.c])
  go_wp2_with fail
  refine (HS.out _ _ _ S.out.r1 S.out.r0).mono ?_
  rintro e w4 ⟨rfl, hb⟩
  replace S := Lib.hid (S.out.call hb)
  clear hb z0 f0 y0
  obtain ⟨⟨z1, f1, y1, -⟩, ⟨z0, f0, y0, -⟩, -⟩ := S.out.facts
  go_wp2
  go_ret
  exact ⟨rfl, S.out.bel⟩
set_option maxHeartbeats 2000000 in
set_option maxRecDepth 100000 in
theorem law_parse (l : List UInt8) (w : World) (ht : Tab w) :
    Calls Tryd.prog 8 #[.string (bS l)] w fun e w' => e = .returned (.bool true) ∧ Below w.heap.size w w' := by
  by_cases hl : 1300 < l.length
  · exact law_parse_long l w ht hl
  · exact law_parse_go l w ht hl
end Go.Proofs.YtmkkjghmgbkdgaaDoor
