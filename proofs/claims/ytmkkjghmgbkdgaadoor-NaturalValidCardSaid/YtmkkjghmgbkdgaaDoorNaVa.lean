/-
  CONTRACTS of the laws NaturalOf, NaturalValid.
  Conditions: those that each theorem names.
-/
import Derived.Test.YtmkkjghmgbkdgaaDoorNaV
namespace Go.Proofs.YtmkkjghmgbkdgaaDoor
open Go.RowKit Go.Sv
set_option maxHeartbeats 4000000 in
set_option maxRecDepth 100000 in
theorem law_of (n : Int) (w : World) (h0 : 0 ≤ n) (h1 : n < 18446744073709551616) (ht : Tab w) :
    Calls Tryd.prog 3 #[.int .u64 n] w fun e w' => e = .returned (.bool true) ∧ Below w.heap.size w w' := by
  have ht' := Lib.hid (fun w' (hb : Below w.heap.size w w') => ht.to hb)
  have HAw := Lib.hid (fun w' (h : Below w.heap.size w w') => awake_any w' (ht'.out _ h))
  have S := Lib.hid (Fm.init w)
  obtain ⟨N, rfl⟩ : ∃ N : Nat, n = N := ⟨n.toNat, by omega⟩
  have hN : N < 18446744073709551616 := by omega
  have HO := Lib.hid (fun w' => of_any N w' h0 h1)
  have HR := Lib.hid (fun w' => rof_any N w' h0 h1)
  rw [Int.toNat_natCast] at HO HR
  have HF := Lib.hid (fun q w' (h1 : RLm w' w'.heap.size (lim N) q) (ht : Tab w') => by
    have := format_any (lim N) q w' h1 (lim_lim _) ht
    unfold fmtV fmtE at this
    rw [vN_small hN, if_pos rfl, if_pos rfl] at this
    exact this)
  have HG := Lib.hid (fun q w' (h1 : RLm w' w'.heap.size (lim N) q) => by
    have := rformat_any (lim N) q w' h1 (lim_lim _)
    unfold fmtV fmtE at this
    rw [vN_small hN, if_pos rfl, if_pos rfl] at this
    exact this)
  have hn128 := (vN_can (vN_small hN)).1
  have HB := Lib.hid (fun q w' (h1 : RLm w' w'.heap.size (lim N) q) => bits_any (lim N) q w' h1 (lim_lim _) (lim_can _) (by omega))
  have HC := Lib.hid (fun q w' (h1 : RLm w' w'.heap.size (lim N) q) => rbits_any (lim N) q w' h1 (lim_lim _) (by omega))
  obtain ⟨s, hs⟩ : ∃ s, decS (vl (lim N)) = s := ⟨_, rfl⟩
  obtain ⟨B, hB⟩ : ∃ B, nbits (vl (lim N)) = B := ⟨_, rfl⟩
  obtain ⟨V, hV⟩ : ∃ V, lim N = V := ⟨_, rfl⟩
  rw [hs] at HF HG
  rw [hB] at HB HC
  rw [hV] at HO HR HF HG HB HC
  clear hs hB hV hn128 hN
  have HS := Lib.hid (fun q r w' (h1 : RLm w' w'.heap.size (V) q) (h2 : RLm w' w'.heap.size (V) r) => by
    have := same_any (V) (V) q r w' h1 h2
    rw [decide_eq_true rfl] at this
    exact this)
  go_enter Tryd.func3, Tryd.ntmps3
  go_wp2_with fail
  refine (HAw.out _ S.out.bel).mono ?_
  rintro e w1 ⟨rfl, hb⟩
  replace S := Lib.hid (S.out.call hb)
  clear hb
  go_wp2_with fail
  refine (HO.out _).mono ?_
  rintro e w2 ⟨_, rfl, q1, rfl, hr, hf, hb⟩
  replace S := Lib.hid (natRes S.out hr hf hb)
  clear hr hf hb
  replace S := Lib.hid (S.out.box 26 [.slice q1.a (V).length q1.c])
  go_wp2_with fail
  refine (HF.out _ _ S.out.r0 (ht'.out _ S.out.bel)).mono ?_
  rintro e w3 ⟨rfl, hb⟩
  replace S := Lib.hid (S.out.call hb)
  clear hb
  obtain ⟨⟨z0, f0, y0, -⟩, -⟩ := S.out.facts
  go_wp2_with fail
  refine (HR.out _).mono ?_
  rintro e w4 ⟨_, rfl, q2, rfl, hr, hf, hb⟩
  replace S := Lib.hid (natRes S.out hr hf hb)
  clear hr hf hb z0 f0 y0
  obtain ⟨⟨z0, f0, y0, -⟩, -⟩ := S.out.facts
  go_wp2_with fail
  refine (HG.out _ _ S.out.r0).mono ?_
  rintro e w5 ⟨rfl, hb⟩
  replace S := Lib.hid (S.out.call hb)
  clear hb z0 f0 y0
  obtain ⟨⟨z0, f0, y0, -⟩, -⟩ := S.out.facts
  go_wp2_with fail
  replace S := Lib.hid S.out.drew
  clear z0 f0
  go_region_held3 (fun w' => w'.cell? ⟨w2.heap.size, 0, none⟩ = some (.slice q1.a V.length q1.c)) (go_keep)
    (first
      | ((with_reducible refine (HR.out _).mono ?_); rintro e wx ⟨_, rfl, qx, rfl, hr, hf, hb⟩; replace S := Lib.hid (natRes S.out hr hf hb); clear hr hf hb; clear y0; obtain ⟨⟨-, -, y0, -⟩, -⟩ := S.out.facts)
      | ((with_reducible refine (HS.out _ _ _ (natOld S.out (by simp)) (natOld S.out (by simp))).mono ?_); rintro e wx ⟨rfl, hb⟩; replace S := Lib.hid (S.out.call hb); clear hb; clear y0; obtain ⟨⟨-, -, y0, -⟩, -⟩ := S.out.facts)
      | ((with_reducible refine (HB.out _ _ (natOld S.out (by simp))).mono ?_); rintro e wx ⟨rfl, hb⟩; replace S := Lib.hid (S.out.call hb); clear hb; clear y0; obtain ⟨⟨-, -, y0, -⟩, -⟩ := S.out.facts)
      | ((with_reducible refine (HC.out _ _ (natOld S.out (by simp))).mono ?_); rintro e wx ⟨rfl, hb⟩; replace S := Lib.hid (S.out.call hb); clear hb; clear y0; obtain ⟨⟨-, -, y0, -⟩, -⟩ := S.out.facts))
  all_goals
    go_wp2
    go_ret
    exact ⟨rfl, S.out.bel⟩
set_option maxHeartbeats 2000000 in
set_option maxRecDepth 100000 in
theorem law_valid_few (w : World) (a : List Int) (qa : LmP) (ha : RLm w w.heap.size a qa) (la : Lim a) (ht : Tab w) (hF : ([(a, qa)] : List LQ).all (fun x => decide ((x.1.length : Int) ≤ 130)) = false) :
    Calls Tryd.prog 9 #[natV a qa] w fun e w' => e = .returned (.bool true) ∧ Below w.heap.size w w' := by
  have ht' := Lib.hid (fun w' (hb : Below w.heap.size w w') => ht.to hb)
  have HAw := Lib.hid (fun w' (h : Below w.heap.size w w') => awake_any w' (ht'.out _ h))
  have S := Lib.hid (natArg (Fm.init w) ha)
  have HFew : Hid (∀ W kb kc kt bs rs, Fm w W (⟨kb, kt, [.slice qa.a a.length qa.c]⟩ :: bs) rs → Calls Tryd.prog 20 #[.int .i64 130, .slice (some ⟨kb, 0, none⟩) 1 kc] W fun e w' => e = .returned (.bool false) ∧ Below W.heap.size W w') := Lib.hid fun W kb kc kt bs rs S => by
    have := few_fm (c := kc) 130 [(a, qa)] S (by simp)
    rw [hF] at this
    exact this
  obtain ⟨qaa, qac⟩ := qa
  dsimp only at S HFew
  replace S := Lib.hid (S.out.box 26 [.slice qaa a.length qac])
  clear ha ht
  go_enter Tryd.func9, Tryd.ntmps9
  go_wp2_with fail
  refine (HAw.out _ S.out.bel).mono ?_
  rintro e w1 ⟨rfl, hb⟩
  replace S := Lib.hid (S.out.call hb)
  clear hb
  obtain ⟨⟨z0, f0, y0, -⟩, -⟩ := S.out.facts
  replace S := Lib.hid (S.out.box 26 [.slice qaa a.length qac])
  go_wp2_with fail
  refine (HFew.out _ _ _ _ _ _ S.out).mono ?_
  rintro e w2 ⟨rfl, hb⟩
  replace S := Lib.hid (S.out.call hb)
  clear hb z0 f0 y0
  obtain ⟨⟨z1, f1, y1, -⟩, ⟨z0, f0, y0, -⟩, -⟩ := S.out.facts
  go_wp2_with fail
  refine (HAw.out _ S.out.bel).mono ?_
  rintro e w3 ⟨rfl, hb⟩
  replace S := Lib.hid (S.out.call hb)
  clear hb z0 f0 y0 z1 f1 y1
  obtain ⟨⟨z1, f1, y1, -⟩, ⟨z0, f0, y0, -⟩, -⟩ := S.out.facts
  go_wp2
  go_ret
  exact ⟨rfl, S.out.bel⟩
set_option maxHeartbeats 2000000 in
set_option maxRecDepth 100000 in
theorem law_valid_ok (w : World) (a : List Int) (qa : LmP) (ha : RLm w w.heap.size a qa) (la : Lim a) (ht : Tab w) (hF : ([(a, qa)] : List LQ).all (fun x => decide ((x.1.length : Int) ≤ 130)) = true) (hv : vN a = true) :
    Calls Tryd.prog 9 #[natV a qa] w fun e w' => e = .returned (.bool true) ∧ Below w.heap.size w w' := by
  have ht' := Lib.hid (fun w' (hb : Below w.heap.size w w') => ht.to hb)
  have HAw := Lib.hid (fun w' (h : Below w.heap.size w w') => awake_any w' (ht'.out _ h))
  have S := Lib.hid (natArg (Fm.init w) ha)
  have HV := Lib.hid (fun q0 w' (h0 : RLm w' w'.heap.size (a) q0) => by
    have := valid_any (a) q0 w' h0 
    rw [hv] at this
    exact this)
  have HV2 := Lib.hid (fun q0 w' (h0 : RLm w' w'.heap.size (a) q0) => by
    have := rvalid_any (a) q0 w' h0 
    rw [hv] at this
    exact this)
  obtain ⟨na, ca⟩ := vN_can hv
  have HB := Lib.hid (fun q w' (h1 : RLm w' w'.heap.size a q) => bits_any a q w' h1 la ca (by omega))
  have HC := Lib.hid (fun q w' (h1 : RLm w' w'.heap.size a q) => rbits_any a q w' h1 la (by omega))
  have HK := Lib.hid (fun q r w' (h1 : RLm w' w'.heap.size a q) (h2 : RLm w' w'.heap.size a r) => by
    have := cmp_any a a q r w' h1 h2 la la ca ca
    rw [show cmpL a a = 0 from by unfold cmpL cmpV; rw [if_neg (Int.lt_irrefl _), if_neg (Int.lt_irrefl _)]] at this
    exact this)
  obtain ⟨B, hB⟩ : ∃ B, nbits (vl a) = B := ⟨_, rfl⟩
  rw [hB] at HB HC
  clear hB na ca hv
  have HFew : Hid (∀ W kb kc kt bs rs, Fm w W (⟨kb, kt, [.slice qa.a a.length qa.c]⟩ :: bs) rs → Calls Tryd.prog 20 #[.int .i64 130, .slice (some ⟨kb, 0, none⟩) 1 kc] W fun e w' => e = .returned (.bool true) ∧ Below W.heap.size W w') := Lib.hid fun W kb kc kt bs rs S => by
    have := few_fm (c := kc) 130 [(a, qa)] S (by simp)
    rw [hF] at this
    exact this
  obtain ⟨qaa, qac⟩ := qa
  dsimp only at S HFew
  replace S := Lib.hid (S.out.box 26 [.slice qaa a.length qac])
  clear ha ht
  go_enter Tryd.func9, Tryd.ntmps9
  go_wp2_with fail
  refine (HAw.out _ S.out.bel).mono ?_
  rintro e w1 ⟨rfl, hb⟩
  replace S := Lib.hid (S.out.call hb)
  clear hb
  obtain ⟨⟨z0, f0, y0, -⟩, -⟩ := S.out.facts
  replace S := Lib.hid (S.out.box 26 [.slice qaa a.length qac])
  go_wp2_with fail
  refine (HFew.out _ _ _ _ _ _ S.out).mono ?_
  rintro e w2 ⟨rfl, hb⟩
  replace S := Lib.hid (S.out.call hb)
  clear hb z0 f0 y0
  obtain ⟨⟨z1, f1, y1, -⟩, ⟨z0, f0, y0, -⟩, -⟩ := S.out.facts
  replace S := Lib.hid (S.out.drop _ _ (List.sublist_cons_self _ _) (List.Sublist.refl _))
  have hX : Hid (∀ x : GrowX w2, RLm (grow w2 x) (grow w2 x).heap.size a ⟨qaa, qac⟩) := Lib.hid fun x => (S.out.call (grow_is _ x)).r0
  go_wp2_with fail
  refine wp_region_calm (by kernel_rfl) (by kernel_rfl) ?_
  repeat (go_big_quiet_step ((first | (go_at_call 31; with_reducible exact calm_b (HV.out _ _ (hX.out _))) | (go_at_call 32; with_reducible exact calm_b (HV2.out _ _ (hX.out _))) | (go_at_call 18; with_reducible exact calm_b (HB.out _ _ (hX.out _))) | (go_at_call 19; with_reducible exact calm_b (HC.out _ _ (hX.out _))) | (go_at_call 33; with_reducible exact calm_b (HK.out _ _ _ (hX.out _) (hX.out _))))))
  refine wpQuiet_nil ?_
  intro w9 hw9
  have hg := grow_below hw9
  clear hw9
  replace S := Lib.hid (S.out.call hg)
  clear hg
  go_wp2
  go_ret
  exact ⟨rfl, S.out.bel⟩
set_option maxHeartbeats 2000000 in
set_option maxRecDepth 100000 in
theorem law_valid_no (w : World) (a : List Int) (qa : LmP) (ha : RLm w w.heap.size a qa) (la : Lim a) (ht : Tab w) (hF : ([(a, qa)] : List LQ).all (fun x => decide ((x.1.length : Int) ≤ 130)) = true) (hv : vN a = false) :
    Calls Tryd.prog 9 #[natV a qa] w fun e w' => e = .returned (.bool true) ∧ Below w.heap.size w w' := by
  have ht' := Lib.hid (fun w' (hb : Below w.heap.size w w') => ht.to hb)
  have HAw := Lib.hid (fun w' (h : Below w.heap.size w w') => awake_any w' (ht'.out _ h))
  have S := Lib.hid (natArg (Fm.init w) ha)
  have HV := Lib.hid (fun q0 w' (h0 : RLm w' w'.heap.size (a) q0) => by
    have := valid_any (a) q0 w' h0 
    rw [hv] at this
    exact this)
  have HV2 := Lib.hid (fun q0 w' (h0 : RLm w' w'.heap.size (a) q0) => by
    have := rvalid_any (a) q0 w' h0 
    rw [hv] at this
    exact this)
  clear hv
  have HFew : Hid (∀ W kb kc kt bs rs, Fm w W (⟨kb, kt, [.slice qa.a a.length qa.c]⟩ :: bs) rs → Calls Tryd.prog 20 #[.int .i64 130, .slice (some ⟨kb, 0, none⟩) 1 kc] W fun e w' => e = .returned (.bool true) ∧ Below W.heap.size W w') := Lib.hid fun W kb kc kt bs rs S => by
    have := few_fm (c := kc) 130 [(a, qa)] S (by simp)
    rw [hF] at this
    exact this
  obtain ⟨qaa, qac⟩ := qa
  dsimp only at S HFew
  replace S := Lib.hid (S.out.box 26 [.slice qaa a.length qac])
  clear ha ht
  go_enter Tryd.func9, Tryd.ntmps9
  go_wp2_with fail
  refine (HAw.out _ S.out.bel).mono ?_
  rintro e w1 ⟨rfl, hb⟩
  replace S := Lib.hid (S.out.call hb)
  clear hb
  obtain ⟨⟨z0, f0, y0, -⟩, -⟩ := S.out.facts
  replace S := Lib.hid (S.out.box 26 [.slice qaa a.length qac])
  go_wp2_with fail
  refine (HFew.out _ _ _ _ _ _ S.out).mono ?_
  rintro e w2 ⟨rfl, hb⟩
  replace S := Lib.hid (S.out.call hb)
  clear hb z0 f0 y0
  obtain ⟨⟨z1, f1, y1, -⟩, ⟨z0, f0, y0, -⟩, -⟩ := S.out.facts
  replace S := Lib.hid (S.out.drop _ _ (List.sublist_cons_self _ _) (List.Sublist.refl _))
  have hX : Hid (∀ x : GrowX w2, RLm (grow w2 x) (grow w2 x).heap.size a ⟨qaa, qac⟩) := Lib.hid fun x => (S.out.call (grow_is _ x)).r0
  go_wp2_with fail
  refine wp_region_calm (by kernel_rfl) (by kernel_rfl) ?_
  repeat (go_big_quiet_step ((first | (go_at_call 31; with_reducible exact calm_b (HV.out _ _ (hX.out _))) | (go_at_call 32; with_reducible exact calm_b (HV2.out _ _ (hX.out _))))))
  refine wpQuiet_nil ?_
  intro w9 hw9
  have hg := grow_below hw9
  clear hw9
  replace S := Lib.hid (S.out.call hg)
  clear hg
  go_wp2
  go_ret
  exact ⟨rfl, S.out.bel⟩
set_option maxHeartbeats 2000000 in
set_option maxRecDepth 100000 in
theorem law_valid (w : World) (a : List Int) (qa : LmP) (ha : RLm w w.heap.size a qa) (la : Lim a) (ht : Tab w) :
    Calls Tryd.prog 9 #[natV a qa] w fun e w' => e = .returned (.bool true) ∧ Below w.heap.size w w' := by
  cases hF : ([(a, qa)] : List LQ).all (fun x => decide ((x.1.length : Int) ≤ 130)) with
  | false => exact law_valid_few w a qa ha la ht hF
  | true =>
    cases hv : vN a with
    | false => exact law_valid_no w a qa ha la ht hF hv
    | true => exact law_valid_ok w a qa ha la ht hF hv
end Go.Proofs.YtmkkjghmgbkdgaaDoor
