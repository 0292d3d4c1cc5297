/-
  CONTRACTS of the laws RatioMake, RatioOf, RatioValid, RatioCompare, RatioMul, RatioDecimal.
  Conditions: those that each theorem names.
-/
import Derived.Test.YtoiokopmpcogbaaGreatDoorRaN
namespace Go.Proofs.YtoiokopmpcogbaaGreatDoor
open Go.RowKit Go.Sv
theorem makN_lim (a b : List Int) : Lim (makN a b) ∧ Lim (makD a b) := by
  unfold makN makD
  constructor <;> split
  · exact lim_lim _
  · exact Lim.nil
  · exact lim_lim _
  · exact Lim.nil
theorem sm_le {M N : Nat} (h : M ≤ N) (hN : sm N) : sm M := by
  rcases Nat.lt_or_ge 128 (lim M).length with c | c
  · have := len_mono h c
    unfold sm at hN
    omega
  · exact c
theorem rd_valid {N D : Nat} (hN : sm N) (hD : sm D) (h0 : D ≠ 0) : vR (rdN N D) (rdD N D) = true := by
  obtain ⟨n, d, e1, e2, d0, g, -, nl, dl⟩ := rd_val (N := N) (D := D) (by omega)
  rw [e1, e2]
  exact vR_lim (sm_le nl hN) (sm_le dl hD) (by omega) g
theorem mak_valid {a b : List Int} (la : Lim a) (lb : Lim b) (h : makE a b = 0) : vR (makN a b) (makD a b) = true := by
  unfold makE at h
  split at h
  · rename_i hv
    split at h
    · cases h
    · rename_i hz
      obtain ⟨va, vb⟩ := (Bool.and_eq_true _ _).mp hv
      have e1 : makN a b = rdN (vl a) (vl b) := if_pos ⟨hv, hz⟩
      have e2 : makD a b = rdD (vl a) (vl b) := if_pos ⟨hv, hz⟩
      rw [e1, e2]
      exact rd_valid (vN_len la va) (vN_len lb vb) hz
  · cases h
set_option maxHeartbeats 2000000 in
set_option maxRecDepth 100000 in
theorem law_make (w : World) (a : List Int) (qa : LmP) (ha : RLm w w.heap.size a qa) (la : Lim a) (b : List Int) (qb : LmP) (hb : RLm w w.heap.size b qb) (lb : Lim b) (ht : Tab w) (hm : MaxL w) :
    Calls Tryz.prog 3 #[natV a qa, natV b qb] w fun e w' => e = .returned (.bool true) ∧ Below w.heap.size w w' := by
  have S := Lib.hid (natArg (natArg (Fm.init w) hb) ha)
  have ht' := Lib.hid (fun w' (hb : Below w.heap.size w w') => ht.to hb)
  have hm' := Lib.hid (fun w' (hb : Below w.heap.size w w') => hm.to hb)
  have HAw := Lib.hid (fun w' (h : Below w.heap.size w w') => awake_c w' (ht'.out _ h) (hm'.out _ h))
  have HS := Lib.hid (fun n d q r q2 r2 w' (h1 : RLm w' w'.heap.size n q) (h2 : RLm w' w'.heap.size d r) (h3 : RLm w' w'.heap.size n q2) (h4 : RLm w' w'.heap.size d r2) => xsame_t w' n d q r q2 r2 h1 h2 h3 h4)
  have HFw := Lib.hid (fun q r w' => few_c w' a b q r)
  obtain ⟨F, hF⟩ : ∃ b', fewB a b = b' := ⟨_, rfl⟩
  rw [hF] at HFw
  clear hF
  have HM := Lib.hid (fun q r w' (h1 : RLm w' w'.heap.size a q) (h2 : RLm w' w'.heap.size b r) => make_any w' a q h1 la b r h2 lb)
  have HR := Lib.hid (fun q r w' (h1 : RLm w' w'.heap.size a q) (h2 : RLm w' w'.heap.size b r) => rmake_any w' a q h1 la b r h2 lb)
  have HV := Lib.hid (fun (c : makE a b = 0) q r w' (h1 : RLm w' w'.heap.size (makN a b) q) (h2 : RLm w' w'.heap.size (makD a b) r) => by
    have := validR_any w' _ q h1 (makN_lim a b).1 _ r h2 (makN_lim a b).2
    rw [mak_valid la lb c] at this
    exact this)
  obtain ⟨N, hN⟩ : ∃ V, makN a b = V := ⟨_, rfl⟩
  obtain ⟨D, hD⟩ : ∃ V, makD a b = V := ⟨_, rfl⟩
  obtain ⟨E, hE⟩ : ∃ V, makE a b = V := ⟨_, rfl⟩
  rw [hN, hD, hE] at HM HR HV
  clear hN hD hE
  clear ht hm
  obtain ⟨qaa, qac⟩ := qa
  obtain ⟨qba, qbc⟩ := qb
  replace S := Lib.hid (S.out.box 24 [.slice qaa a.length qac])
  replace S := Lib.hid (S.out.box' 24 [.slice qba b.length qbc] (K := w.heap.size + 1) (by simp))
  clear ha hb
  go_enter Tryz.func3, Tryz.ntmps3
  go_wp2_with fail
  refine (HAw.out _ S.out.bel).mono ?_
  rintro e w1 ⟨rfl, hb⟩
  replace S := Lib.hid (S.out.call hb)
  clear hb
  obtain ⟨⟨z1, f1, y1, -⟩, ⟨z0, f0, y0, -⟩, -⟩ := S.out.facts
  go_wp2_with fail
  refine (HFw.out ⟨qaa, qac⟩ ⟨qba, qbc⟩ _).mono ?_
  rintro e w2 ⟨rfl, hb⟩
  replace S := Lib.hid (S.out.call hb)
  clear hb z0 f0 y0 z1 f1 y1
  obtain ⟨⟨z1, f1, y1, -⟩, ⟨z0, f0, y0, -⟩, -⟩ := S.out.facts
  cases F
  · go_wp2_with fail
    refine (HAw.out _ S.out.bel).mono ?_
    rintro e w3 ⟨rfl, hb⟩
    replace S := Lib.hid (S.out.call hb)
    clear hb z0 f0 y0 z1 f1 y1
    obtain ⟨⟨z1, f1, y1, -⟩, ⟨z0, f0, y0, -⟩, -⟩ := S.out.facts
    go_wp2
    go_ret
    exact ⟨rfl, S.out.bel⟩
  · go_wp2_with fail
    refine (HM.out _ _ _ S.out.r0 S.out.r1).mono ?_
    rintro e w3 ⟨_, rfl, q1, r1, rfl, hr, hr2, hf, hf2, hb⟩
    replace S := Lib.hid (natRes2 S.out hr hr2 hf hf2 hb)
    clear hr hr2 hf hf2 hb z0 f0 y0 z1 f1 y1
    obtain ⟨⟨z1, f1, y1, -⟩, ⟨z0, f0, y0, -⟩, -⟩ := S.out.facts
    replace S := Lib.hid (S.out.box 28 [.slice q1.a (N).length q1.c, .slice r1.a (D).length r1.c])
    go_wp2_with fail
    refine (HR.out _ _ _ S.out.r2 S.out.r3).mono ?_
    rintro e w4 ⟨_, rfl, q2, r2, rfl, hr, hr2, hf, hf2, hb⟩
    replace S := Lib.hid (natRes2 S.out hr hr2 hf hf2 hb)
    clear hr hr2 hf hf2 hb z0 f0 y0 z1 f1 y1
    obtain ⟨⟨z2, f2, y2, y2a, -⟩, ⟨z1, f1, y1, -⟩, ⟨z0, f0, y0, -⟩, -⟩ := S.out.facts
    replace S := Lib.hid (S.out.box 28 [.slice q2.a (N).length q2.c, .slice r2.a (D).length r2.c])
    go_wp2_with fail
    refine (HS.out _ _ _ _ _ _ _ S.out.r3 S.out.r2 S.out.r1 S.out.r0).mono ?_
    rintro e w5 ⟨rfl, hb⟩
    replace S := Lib.hid (S.out.call hb)
    clear hb z0 f0 y0 z1 f1 y1 z2 f2 y2 y2a
    obtain ⟨⟨z3, f3, y3, y3a, -⟩, ⟨z2, f2, y2, y2a, -⟩, ⟨z1, f1, y1, -⟩, ⟨z0, f0, y0, -⟩, -⟩ := S.out.facts
    by_cases c : E = 0
    · subst c
      go_wp2_with fail
      refine (HV.out (by first | rfl | trivial) _ _ _ S.out.r3 S.out.r2).mono ?_
      rintro e w6 ⟨rfl, hb⟩
      replace S := Lib.hid (S.out.call hb)
      clear hb z0 f0 y0 z1 f1 y1 z2 f2 y2 y2a z3 f3 y3 y3a
      obtain ⟨⟨z3, f3, y3, y3a, -⟩, ⟨z2, f2, y2, y2a, -⟩, ⟨z1, f1, y1, -⟩, ⟨z0, f0, y0, -⟩, -⟩ := S.out.facts
      go_wp2
      go_ret
      exact ⟨rfl, S.out.bel⟩
    · have dE : (E != 0) = true := bne_iff_ne.2 c
      clear c
      go_wp2
      go_ret
      exact ⟨rfl, S.out.bel⟩
set_option maxHeartbeats 2000000 in
set_option maxRecDepth 100000 in
theorem law_of (w : World) (a b : Int) (a0 : 0 ≤ a) (a1 : a < 18446744073709551616) (b0 : 0 ≤ b) (b1 : b < 18446744073709551616) (ht : Tab w) (hm : MaxL w) :
    Calls Tryz.prog 4 #[.int .u64 a, .int .u64 b] w fun e w' => e = .returned (.bool true) ∧ Below w.heap.size w w' := by
  have S := Lib.hid (Fm.init w)
  have ht' := Lib.hid (fun w' (hb : Below w.heap.size w w') => ht.to hb)
  have hm' := Lib.hid (fun w' (hb : Below w.heap.size w w') => hm.to hb)
  have HAw := Lib.hid (fun w' (h : Below w.heap.size w w') => awake_c w' (ht'.out _ h) (hm'.out _ h))
  have HS := Lib.hid (fun n d q r q2 r2 w' (h1 : RLm w' w'.heap.size n q) (h2 : RLm w' w'.heap.size d r) (h3 : RLm w' w'.heap.size n q2) (h4 : RLm w' w'.heap.size d r2) => xsame_t w' n d q r q2 r2 h1 h2 h3 h4)
  have HO := Lib.hid (fun w' => xof_any a b w' a0 a1 b0 b1)
  have HR := Lib.hid (fun w' => xrof_any a b w' a0 a1 b0 b1)
  obtain ⟨N, hN⟩ : ∃ V, makN (lim a.toNat) (lim b.toNat) = V := ⟨_, rfl⟩
  obtain ⟨D, hD⟩ : ∃ V, makD (lim a.toNat) (lim b.toNat) = V := ⟨_, rfl⟩
  obtain ⟨E, hE⟩ : ∃ V, makE (lim a.toNat) (lim b.toNat) = V := ⟨_, rfl⟩
  rw [hN, hD, hE] at HO HR
  clear hN hD hE a0 a1 b0 b1
  clear ht hm
  go_enter Tryz.func4, Tryz.ntmps4
  go_wp2_with fail
  refine (HAw.out _ S.out.bel).mono ?_
  rintro e w1 ⟨rfl, hb⟩
  replace S := Lib.hid (S.out.call hb)
  clear hb
  go_wp2_with fail
  refine (HO.out _).mono ?_
  rintro e w2 ⟨_, rfl, q1, r1, rfl, hr, hr2, hf, hf2, hb⟩
  replace S := Lib.hid (natRes2 S.out hr hr2 hf hf2 hb)
  clear hr hr2 hf hf2 hb
  replace S := Lib.hid (S.out.box 28 [.slice q1.a (N).length q1.c, .slice r1.a (D).length r1.c])
  go_wp2_with fail
  refine (HR.out _).mono ?_
  rintro e w3 ⟨_, rfl, q2, r2, rfl, hr, hr2, hf, hf2, hb⟩
  replace S := Lib.hid (natRes2 S.out hr hr2 hf hf2 hb)
  clear hr hr2 hf hf2 hb
  obtain ⟨⟨z0, f0, y0, y0a, -⟩, -⟩ := S.out.facts
  replace S := Lib.hid (S.out.box 28 [.slice q2.a (N).length q2.c, .slice r2.a (D).length r2.c])
  go_wp2_with fail
  refine (HS.out _ _ _ _ _ _ _ S.out.r3 S.out.r2 S.out.r1 S.out.r0).mono ?_
  rintro e w4 ⟨rfl, hb⟩
  replace S := Lib.hid (S.out.call hb)
  clear hb z0 f0 y0 y0a
  obtain ⟨⟨z1, f1, y1, y1a, -⟩, ⟨z0, f0, y0, y0a, -⟩, -⟩ := S.out.facts
  go_wp2
  go_ret
  exact ⟨rfl, S.out.bel⟩
set_option maxHeartbeats 2000000 in
set_option maxRecDepth 100000 in
theorem law_valid (w : World) (rn : List Int) (qrn : LmP) (hrn : RLm w w.heap.size rn qrn) (lrn : Lim rn) (rd : List Int) (qrd : LmP) (hrd : RLm w w.heap.size rd qrd) (lrd : Lim rd) (ht : Tab w) (hm : MaxL w) :
    Calls Tryz.prog 8 #[ratV rn qrn rd qrd] w fun e w' => e = .returned (.bool true) ∧ Below w.heap.size w w' := by
  have S := Lib.hid (natArg (natArg (Fm.init w) hrd) hrn)
  have ht' := Lib.hid (fun w' (hb : Below w.heap.size w w') => ht.to hb)
  have hm' := Lib.hid (fun w' (hb : Below w.heap.size w w') => hm.to hb)
  have HAw := Lib.hid (fun w' (h : Below w.heap.size w w') => awake_c w' (ht'.out _ h) (hm'.out _ h))
  have HS := Lib.hid (fun n d q r q2 r2 w' (h1 : RLm w' w'.heap.size n q) (h2 : RLm w' w'.heap.size d r) (h3 : RLm w' w'.heap.size n q2) (h4 : RLm w' w'.heap.size d r2) => xsame_t w' n d q r q2 r2 h1 h2 h3 h4)
  have HV := Lib.hid (fun q r w' (h1 : RLm w' w'.heap.size rn q) (h2 : RLm w' w'.heap.size rd r) => validR_any w' rn q h1 lrn rd r h2 lrd)
  have HV2 := Lib.hid (fun q r w' (h1 : RLm w' w'.heap.size rn q) (h2 : RLm w' w'.heap.size rd r) => rvalidR_any w' rn q h1 lrn rd r h2 lrd)
  have HX := Lib.hid (fun q r w' (h1 : RLm w' w'.heap.size rn q) (h2 : RLm w' w'.heap.size rd r) (ht : Tab w') => xformat_any w' rn q h1 lrn rd r h2 lrd ht)
  have HY := Lib.hid (fun q r w' (h1 : RLm w' w'.heap.size rn q) (h2 : RLm w' w'.heap.size rd r) => xrformat_any w' rn q h1 lrn rd r h2 lrd)
  obtain ⟨v, hv⟩ : ∃ V, vR rn rd = V := ⟨_, rfl⟩
  obtain ⟨X, hX⟩ : ∃ V, rfV rn rd = V := ⟨_, rfl⟩
  obtain ⟨E, hE⟩ : ∃ V, rfE rn rd = V := ⟨_, rfl⟩
  rw [hv] at HV HV2
  rw [hX, hE] at HX HY
  clear hv hX hE
  have HFr := Lib.hid (fun q r w' => xfew_any w' rn rd q r)
  obtain ⟨Fr, hFr⟩ : ∃ b, fewB rn rd = b := ⟨_, rfl⟩
  rw [hFr] at HFr
  clear hFr
  clear ht hm
  obtain ⟨qrna, qrnc⟩ := qrn
  obtain ⟨qrda, qrdc⟩ := qrd
  replace S := Lib.hid (S.out.box 28 [.slice qrna rn.length qrnc, .slice qrda rd.length qrdc])
  clear hrn hrd
  go_enter Tryz.func8, Tryz.ntmps8
  go_wp2_with fail
  refine (HAw.out _ S.out.bel).mono ?_
  rintro e w1 ⟨rfl, hb⟩
  replace S := Lib.hid (S.out.call hb)
  clear hb
  obtain ⟨⟨z0, f0, y0, y0a, -⟩, -⟩ := S.out.facts
  go_wp2_with fail
  refine (HFr.out ⟨qrna, qrnc⟩ ⟨qrda, qrdc⟩ _).mono ?_
  rintro e w2 ⟨rfl, hb⟩
  replace S := Lib.hid (S.out.call hb)
  clear hb z0 f0 y0 y0a
  obtain ⟨⟨z0, f0, y0, y0a, -⟩, -⟩ := S.out.facts
  cases Fr
  · go_wp2_with fail
    refine (HAw.out _ S.out.bel).mono ?_
    rintro e w3 ⟨rfl, hb⟩
    replace S := Lib.hid (S.out.call hb)
    clear hb z0 f0 y0 y0a
    obtain ⟨⟨z0, f0, y0, y0a, -⟩, -⟩ := S.out.facts
    go_wp2
    go_ret
    exact ⟨rfl, S.out.bel⟩
  · go_wp2_with fail
    refine (HX.out _ _ _ S.out.r0 S.out.r1 (ht'.out _ S.out.bel)).mono ?_
    rintro e w3 ⟨rfl, hb⟩
    replace S := Lib.hid (S.out.call hb)
    clear hb z0 f0 y0 y0a
    obtain ⟨⟨z0, f0, y0, y0a, -⟩, -⟩ := S.out.facts
    go_wp2_with fail
    refine (HY.out _ _ _ S.out.r0 S.out.r1).mono ?_
    rintro e w4 ⟨rfl, hb⟩
    replace S := Lib.hid (S.out.call hb)
    clear hb z0 f0 y0 y0a
    obtain ⟨⟨z0, f0, y0, y0a, -⟩, -⟩ := S.out.facts
    go_wp2_with fail
    replace S := Lib.hid S.out.drew
    clear z0 f0 y0 y0a
    obtain ⟨⟨-, -, y0, y0a, -⟩, -⟩ := S.out.facts
    go_region_held3 (fun w' => w'.cell? ⟨w.heap.size, 0, none⟩ = some (.slice qrna rn.length qrnc) ∧ w'.cell? ⟨w.heap.size, 1, none⟩ = some (.slice qrda rd.length qrdc)) (go_keep)
      (first
        | ((with_reducible refine (HV.out ⟨qrna, qrnc⟩ ⟨qrda, qrdc⟩ _ (natOld S.out (by simp)) (natOld S.out (by simp))).mono ?_); rintro e wx ⟨rfl, hb⟩; replace S := Lib.hid (S.out.call hb); clear hb; clear y0 y0a; obtain ⟨⟨-, -, y0, y0a, -⟩, -⟩ := S.out.facts)
        | ((with_reducible refine (HV2.out ⟨qrna, qrnc⟩ ⟨qrda, qrdc⟩ _ (natOld S.out (by simp)) (natOld S.out (by simp))).mono ?_); rintro e wx ⟨rfl, hb⟩; replace S := Lib.hid (S.out.call hb); clear hb; clear y0 y0a; obtain ⟨⟨-, -, y0, y0a, -⟩, -⟩ := S.out.facts))
    all_goals
      go_wp2
      go_ret
      exact ⟨rfl, S.out.bel⟩
set_option maxHeartbeats 2000000 in
set_option maxRecDepth 100000 in
theorem law_compare (w : World) (an : List Int) (qan : LmP) (han : RLm w w.heap.size an qan) (lan : Lim an) (ad : List Int) (qad : LmP) (had : RLm w w.heap.size ad qad) (lad : Lim ad) (bn : List Int) (qbn : LmP) (hbn : RLm w w.heap.size bn qbn) (lbn : Lim bn) (bd : List Int) (qbd : LmP) (hbd : RLm w w.heap.size bd qbd) (lbd : Lim bd) (ht : Tab w) (hm : MaxL w) :
    Calls Tryz.prog 7 #[ratV an qan ad qad, ratV bn qbn bd qbd] w fun e w' => e = .returned (.bool true) ∧ Below w.heap.size w w' := by
  have S := Lib.hid (natArg (natArg (natArg (natArg (Fm.init w) hbd) hbn) had) han)
  have ht' := Lib.hid (fun w' (hb : Below w.heap.size w w') => ht.to hb)
  have hm' := Lib.hid (fun w' (hb : Below w.heap.size w w') => hm.to hb)
  have HAw := Lib.hid (fun w' (h : Below w.heap.size w w') => awake_c w' (ht'.out _ h) (hm'.out _ h))
  have HS := Lib.hid (fun n d q r q2 r2 w' (h1 : RLm w' w'.heap.size n q) (h2 : RLm w' w'.heap.size d r) (h3 : RLm w' w'.heap.size n q2) (h4 : RLm w' w'.heap.size d r2) => xsame_t w' n d q r q2 r2 h1 h2 h3 h4)
  have HC := Lib.hid (fun q0 q1 q2 q3 w' (h0 : RLm w' w'.heap.size an q0) (h1 : RLm w' w'.heap.size ad q1) (h2 : RLm w' w'.heap.size bn q2) (h3 : RLm w' w'.heap.size bd q3) => xcmp_any w' an q0 h0 lan ad q1 h1 lad bn q2 h2 lbn bd q3 h3 lbd)
  have HD := Lib.hid (fun q0 q1 q2 q3 w' (h0 : RLm w' w'.heap.size an q0) (h1 : RLm w' w'.heap.size ad q1) (h2 : RLm w' w'.heap.size bn q2) (h3 : RLm w' w'.heap.size bd q3) => xrcmp_any w' an q0 h0 lan ad q1 h1 lad bn q2 h2 lbn bd q3 h3 lbd)
  rw [(cmp_ref an ad bn bd).1, (cmp_ref an ad bn bd).2] at HD
  obtain ⟨V, hV⟩ : ∃ V, rcV an ad bn bd = V := ⟨_, rfl⟩
  obtain ⟨E, hE⟩ : ∃ V, crE an ad bn bd = V := ⟨_, rfl⟩
  rw [hV, hE] at HC HD
  clear hV hE
  have HFa := Lib.hid (fun q r w' => xfew_any w' an ad q r)
  obtain ⟨Fa, hFa⟩ : ∃ b, fewB an ad = b := ⟨_, rfl⟩
  rw [hFa] at HFa
  clear hFa
  have HFb := Lib.hid (fun q r w' => xfew_any w' bn bd q r)
  obtain ⟨Fb, hFb⟩ : ∃ b, fewB bn bd = b := ⟨_, rfl⟩
  rw [hFb] at HFb
  clear hFb
  clear ht hm
  obtain ⟨qana, qanc⟩ := qan
  obtain ⟨qada, qadc⟩ := qad
  obtain ⟨qbna, qbnc⟩ := qbn
  obtain ⟨qbda, qbdc⟩ := qbd
  replace S := Lib.hid (S.out.box 28 [.slice qana an.length qanc, .slice qada ad.length qadc])
  replace S := Lib.hid (S.out.box' 28 [.slice qbna bn.length qbnc, .slice qbda bd.length qbdc] (K := w.heap.size + 1) (by simp))
  clear han had hbn hbd
  go_enter Tryz.func7, Tryz.ntmps7
  go_wp2_with fail
  refine (HAw.out _ S.out.bel).mono ?_
  rintro e w1 ⟨rfl, hb⟩
  replace S := Lib.hid (S.out.call hb)
  clear hb
  obtain ⟨⟨z1, f1, y1, y1a, -⟩, ⟨z0, f0, y0, y0a, -⟩, -⟩ := S.out.facts
  go_wp2_with fail
  refine (HFa.out ⟨qana, qanc⟩ ⟨qada, qadc⟩ _).mono ?_
  rintro e w2 ⟨rfl, hb⟩
  replace S := Lib.hid (S.out.call hb)
  clear hb z0 f0 y0 y0a z1 f1 y1 y1a
  obtain ⟨⟨z1, f1, y1, y1a, -⟩, ⟨z0, f0, y0, y0a, -⟩, -⟩ := S.out.facts
  cases Fa
  · go_wp2_with fail
    refine (HAw.out _ S.out.bel).mono ?_
    rintro e w3 ⟨rfl, hb⟩
    replace S := Lib.hid (S.out.call hb)
    clear hb z0 f0 y0 y0a z1 f1 y1 y1a
    obtain ⟨⟨z1, f1, y1, y1a, -⟩, ⟨z0, f0, y0, y0a, -⟩, -⟩ := S.out.facts
    go_wp2
    go_ret
    exact ⟨rfl, S.out.bel⟩
  · go_wp2_with fail
    refine (HFb.out ⟨qbna, qbnc⟩ ⟨qbda, qbdc⟩ _).mono ?_
    rintro e w3 ⟨rfl, hb⟩
    replace S := Lib.hid (S.out.call hb)
    clear hb z0 f0 y0 y0a z1 f1 y1 y1a
    obtain ⟨⟨z1, f1, y1, y1a, -⟩, ⟨z0, f0, y0, y0a, -⟩, -⟩ := S.out.facts
    cases Fb
    · go_wp2_with fail
      refine (HAw.out _ S.out.bel).mono ?_
      rintro e w4 ⟨rfl, hb⟩
      replace S := Lib.hid (S.out.call hb)
      clear hb z0 f0 y0 y0a z1 f1 y1 y1a
      obtain ⟨⟨z1, f1, y1, y1a, -⟩, ⟨z0, f0, y0, y0a, -⟩, -⟩ := S.out.facts
      go_wp2
      go_ret
      exact ⟨rfl, S.out.bel⟩
    · go_wp2_with fail
      refine (HC.out _ _ _ _ _ S.out.r0 S.out.r1 S.out.r2 S.out.r3).mono ?_
      rintro e w4 ⟨rfl, hb⟩
      replace S := Lib.hid (S.out.call hb)
      clear hb z0 f0 y0 y0a z1 f1 y1 y1a
      obtain ⟨⟨z1, f1, y1, y1a, -⟩, ⟨z0, f0, y0, y0a, -⟩, -⟩ := S.out.facts
      go_wp2_with fail
      refine (HD.out _ _ _ _ _ S.out.r0 S.out.r1 S.out.r2 S.out.r3).mono ?_
      rintro e w5 ⟨rfl, hb⟩
      replace S := Lib.hid (S.out.call hb)
      clear hb z0 f0 y0 y0a z1 f1 y1 y1a
      obtain ⟨⟨z1, f1, y1, y1a, -⟩, ⟨z0, f0, y0, y0a, -⟩, -⟩ := S.out.facts
      go_wp2
      go_ret
      exact ⟨rfl, S.out.bel⟩
set_option maxHeartbeats 2000000 in
set_option maxRecDepth 100000 in
theorem law_mul (w : World) (an : List Int) (qan : LmP) (han : RLm w w.heap.size an qan) (lan : Lim an) (ad : List Int) (qad : LmP) (had : RLm w w.heap.size ad qad) (lad : Lim ad) (bn : List Int) (qbn : LmP) (hbn : RLm w w.heap.size bn qbn) (lbn : Lim bn) (bd : List Int) (qbd : LmP) (hbd : RLm w w.heap.size bd qbd) (lbd : Lim bd) (ht : Tab w) (hm : MaxL w) :
    Calls Tryz.prog 9 #[ratV an qan ad qad, ratV bn qbn bd qbd] w fun e w' => e = .returned (.bool true) ∧ Below w.heap.size w w' := by
  have S := Lib.hid (natArg (natArg (natArg (natArg (Fm.init w) hbd) hbn) had) han)
  have ht' := Lib.hid (fun w' (hb : Below w.heap.size w w') => ht.to hb)
  have hm' := Lib.hid (fun w' (hb : Below w.heap.size w w') => hm.to hb)
  have HAw := Lib.hid (fun w' (h : Below w.heap.size w w') => awake_c w' (ht'.out _ h) (hm'.out _ h))
  have HS := Lib.hid (fun n d q r q2 r2 w' (h1 : RLm w' w'.heap.size n q) (h2 : RLm w' w'.heap.size d r) (h3 : RLm w' w'.heap.size n q2) (h4 : RLm w' w'.heap.size d r2) => xsame_t w' n d q r q2 r2 h1 h2 h3 h4)
  have HA := Lib.hid (fun q0 q1 q2 q3 w' (h0 : RLm w' w'.heap.size an q0) (h1 : RLm w' w'.heap.size ad q1) (h2 : RLm w' w'.heap.size bn q2) (h3 : RLm w' w'.heap.size bd q3) => show Calls _ _ _ _ (Ret (RRes2 w' (prdN an ad bn bd) (prdD an ad bn bd) (prdE an ad bn bd))) from xmul_any w' an q0 h0 lan ad q1 h1 lad bn q2 h2 lbn bd q3 h3 lbd)
  have HB := Lib.hid (fun q0 q1 q2 q3 w' (h0 : RLm w' w'.heap.size an q0) (h1 : RLm w' w'.heap.size ad q1) (h2 : RLm w' w'.heap.size bn q2) (h3 : RLm w' w'.heap.size bd q3) => xrmul_any w' an q0 h0 lan ad q1 h1 lad bn q2 h2 lbn bd q3 h3 lbd)
  rw [(mul_ref an ad bn bd).1, (mul_ref an ad bn bd).2.1, (mul_ref an ad bn bd).2.2] at HB
  obtain ⟨N, hN⟩ : ∃ V, prdN an ad bn bd = V := ⟨_, rfl⟩
  obtain ⟨D, hD⟩ : ∃ V, prdD an ad bn bd = V := ⟨_, rfl⟩
  obtain ⟨E, hE⟩ : ∃ V, prdE an ad bn bd = V := ⟨_, rfl⟩
  rw [hN, hD, hE] at HA HB
  clear hN hD hE
  have HFa := Lib.hid (fun q r w' => xfew_any w' an ad q r)
  obtain ⟨Fa, hFa⟩ : ∃ b, fewB an ad = b := ⟨_, rfl⟩
  rw [hFa] at HFa
  clear hFa
  have HFb := Lib.hid (fun q r w' => xfew_any w' bn bd q r)
  obtain ⟨Fb, hFb⟩ : ∃ b, fewB bn bd = b := ⟨_, rfl⟩
  rw [hFb] at HFb
  clear hFb
  clear ht hm
  obtain ⟨qana, qanc⟩ := qan
  obtain ⟨qada, qadc⟩ := qad
  obtain ⟨qbna, qbnc⟩ := qbn
  obtain ⟨qbda, qbdc⟩ := qbd
  replace S := Lib.hid (S.out.box 28 [.slice qana an.length qanc, .slice qada ad.length qadc])
  replace S := Lib.hid (S.out.box' 28 [.slice qbna bn.length qbnc, .slice qbda bd.length qbdc] (K := w.heap.size + 1) (by simp))
  clear han had hbn hbd
  go_enter Tryz.func9, Tryz.ntmps9
  go_wp2_with fail
  refine (HAw.out _ S.out.bel).mono ?_
  rintro e w1 ⟨rfl, hb⟩
  replace S := Lib.hid (S.out.call hb)
  clear hb
  obtain ⟨⟨z1, f1, y1, y1a, -⟩, ⟨z0, f0, y0, y0a, -⟩, -⟩ := S.out.facts
  go_wp2_with fail
  refine (HFa.out ⟨qana, qanc⟩ ⟨qada, qadc⟩ _).mono ?_
  rintro e w2 ⟨rfl, hb⟩
  replace S := Lib.hid (S.out.call hb)
  clear hb z0 f0 y0 y0a z1 f1 y1 y1a
  obtain ⟨⟨z1, f1, y1, y1a, -⟩, ⟨z0, f0, y0, y0a, -⟩, -⟩ := S.out.facts
  cases Fa
  · go_wp2_with fail
    refine (HAw.out _ S.out.bel).mono ?_
    rintro e w3 ⟨rfl, hb⟩
    replace S := Lib.hid (S.out.call hb)
    clear hb z0 f0 y0 y0a z1 f1 y1 y1a
    obtain ⟨⟨z1, f1, y1, y1a, -⟩, ⟨z0, f0, y0, y0a, -⟩, -⟩ := S.out.facts
    go_wp2
    go_ret
    exact ⟨rfl, S.out.bel⟩
  · go_wp2_with fail
    refine (HFb.out ⟨qbna, qbnc⟩ ⟨qbda, qbdc⟩ _).mono ?_
    rintro e w3 ⟨rfl, hb⟩
    replace S := Lib.hid (S.out.call hb)
    clear hb z0 f0 y0 y0a z1 f1 y1 y1a
    obtain ⟨⟨z1, f1, y1, y1a, -⟩, ⟨z0, f0, y0, y0a, -⟩, -⟩ := S.out.facts
    cases Fb
    · go_wp2_with fail
      refine (HAw.out _ S.out.bel).mono ?_
      rintro e w4 ⟨rfl, hb⟩
      replace S := Lib.hid (S.out.call hb)
      clear hb z0 f0 y0 y0a z1 f1 y1 y1a
      obtain ⟨⟨z1, f1, y1, y1a, -⟩, ⟨z0, f0, y0, y0a, -⟩, -⟩ := S.out.facts
      go_wp2
      go_ret
      exact ⟨rfl, S.out.bel⟩
    · go_wp2_with fail
      refine (HA.out _ _ _ _ _ S.out.r0 S.out.r1 S.out.r2 S.out.r3).mono ?_
      rintro e w4 ⟨_, rfl, q1, r1, rfl, hr, hr2, hf, hf2, hb⟩
      replace S := Lib.hid (natRes2 S.out hr hr2 hf hf2 hb)
      clear hr hr2 hf hf2 hb z0 f0 y0 y0a z1 f1 y1 y1a
      obtain ⟨⟨z1, f1, y1, y1a, -⟩, ⟨z0, f0, y0, y0a, -⟩, -⟩ := S.out.facts
      replace S := Lib.hid (S.out.box 28 [.slice q1.a (N).length q1.c, .slice r1.a (D).length r1.c])
      go_wp2_with fail
      refine (HB.out _ _ _ _ _ S.out.r2 S.out.r3 S.out.r4 S.out.r5).mono ?_
      rintro e w5 ⟨_, rfl, q2, r2, rfl, hr, hr2, hf, hf2, hb⟩
      replace S := Lib.hid (natRes2 S.out hr hr2 hf hf2 hb)
      clear hr hr2 hf hf2 hb z0 f0 y0 y0a z1 f1 y1 y1a
      obtain ⟨⟨z2, f2, y2, y2a, -⟩, ⟨z1, f1, y1, y1a, -⟩, ⟨z0, f0, y0, y0a, -⟩, -⟩ := S.out.facts
      replace S := Lib.hid (S.out.box 28 [.slice q2.a (N).length q2.c, .slice r2.a (D).length r2.c])
      go_wp2_with fail
      refine (HS.out _ _ _ _ _ _ _ S.out.r3 S.out.r2 S.out.r1 S.out.r0).mono ?_
      rintro e w6 ⟨rfl, hb⟩
      replace S := Lib.hid (S.out.call hb)
      clear hb z0 f0 y0 y0a z1 f1 y1 y1a z2 f2 y2 y2a
      obtain ⟨⟨z3, f3, y3, y3a, -⟩, ⟨z2, f2, y2, y2a, -⟩, ⟨z1, f1, y1, y1a, -⟩, ⟨z0, f0, y0, y0a, -⟩, -⟩ := S.out.facts
      go_wp2
      go_ret
      exact ⟨rfl, S.out.bel⟩
set_option maxHeartbeats 2000000 in
set_option maxRecDepth 100000 in
theorem law_decimal (w : World) (rn : List Int) (qrn : LmP) (hrn : RLm w w.heap.size rn qrn) (lrn : Lim rn) (rd : List Int) (qrd : LmP) (hrd : RLm w w.heap.size rd qrd) (lrd : Lim rd) (k : Int) (ht : Tab w) (hm : MaxL w) :
    Calls Tryz.prog 6 #[ratV rn qrn rd qrd, .int .i64 k] w fun e w' => e = .returned (.bool true) ∧ Below w.heap.size w w' := by
  have S := Lib.hid (natArg (natArg (Fm.init w) hrd) hrn)
  have ht' := Lib.hid (fun w' (hb : Below w.heap.size w w') => ht.to hb)
  have hm' := Lib.hid (fun w' (hb : Below w.heap.size w w') => hm.to hb)
  have HAw := Lib.hid (fun w' (h : Below w.heap.size w w') => awake_c w' (ht'.out _ h) (hm'.out _ h))
  have HS := Lib.hid (fun n d q r q2 r2 w' (h1 : RLm w' w'.heap.size n q) (h2 : RLm w' w'.heap.size d r) (h3 : RLm w' w'.heap.size n q2) (h4 : RLm w' w'.heap.size d r2) => xsame_t w' n d q r q2 r2 h1 h2 h3 h4)
  have HX := Lib.hid (fun q r w' (h1 : RLm w' w'.heap.size rn q) (h2 : RLm w' w'.heap.size rd r) (ht : Tab w') => xdec_any w' rn q h1 lrn rd r h2 lrd k ht)
  have HY := Lib.hid (fun q r w' (h1 : RLm w' w'.heap.size rn q) (h2 : RLm w' w'.heap.size rd r) => xrdec_any w' rn q h1 lrn rd r h2 lrd k)
  obtain ⟨X, hX⟩ : ∃ V, dcV rn rd k = V := ⟨_, rfl⟩
  obtain ⟨E, hE⟩ : ∃ V, dcE rn rd k = V := ⟨_, rfl⟩
  rw [hX, hE] at HX HY
  clear hX hE
  have HFr := Lib.hid (fun q r w' => xfew_any w' rn rd q r)
  obtain ⟨Fr, hFr⟩ : ∃ b, fewB rn rd = b := ⟨_, rfl⟩
  rw [hFr] at HFr
  clear hFr
  clear ht hm
  obtain ⟨qrna, qrnc⟩ := qrn
  obtain ⟨qrda, qrdc⟩ := qrd
  replace S := Lib.hid (S.out.box 28 [.slice qrna rn.length qrnc, .slice qrda rd.length qrdc])
  clear hrn hrd
  go_enter Tryz.func6, Tryz.ntmps6
  go_wp2_with fail
  refine (HAw.out _ S.out.bel).mono ?_
  rintro e w1 ⟨rfl, hb⟩
  replace S := Lib.hid (S.out.call hb)
  clear hb
  obtain ⟨⟨z0, f0, y0, y0a, -⟩, -⟩ := S.out.facts
  go_wp2_with fail
  refine (HFr.out ⟨qrna, qrnc⟩ ⟨qrda, qrdc⟩ _).mono ?_
  rintro e w2 ⟨rfl, hb⟩
  replace S := Lib.hid (S.out.call hb)
  clear hb z0 f0 y0 y0a
  obtain ⟨⟨z0, f0, y0, y0a, -⟩, -⟩ := S.out.facts
  cases Fr
  · go_wp2_with fail
    refine (HAw.out _ S.out.bel).mono ?_
    rintro e w3 ⟨rfl, hb⟩
    replace S := Lib.hid (S.out.call hb)
    clear hb z0 f0 y0 y0a
    obtain ⟨⟨z0, f0, y0, y0a, -⟩, -⟩ := S.out.facts
    go_wp2
    go_ret
    exact ⟨rfl, S.out.bel⟩
  · go_wp2_with fail
    refine (HX.out _ _ _ S.out.r0 S.out.r1 (ht'.out _ S.out.bel)).mono ?_
    rintro e w3 ⟨rfl, hb⟩
    replace S := Lib.hid (S.out.call hb)
    clear hb z0 f0 y0 y0a
    obtain ⟨⟨z0, f0, y0, y0a, -⟩, -⟩ := S.out.facts
    go_wp2_with fail
    refine (HY.out _ _ _ S.out.r0 S.out.r1).mono ?_
    rintro e w4 ⟨rfl, hb⟩
    replace S := Lib.hid (S.out.call hb)
    clear hb z0 f0 y0 y0a
    obtain ⟨⟨z0, f0, y0, y0a, -⟩, -⟩ := S.out.facts
    go_wp2
    go_ret
    exact ⟨rfl, S.out.bel⟩
end Go.Proofs.YtoiokopmpcogbaaGreatDoor
