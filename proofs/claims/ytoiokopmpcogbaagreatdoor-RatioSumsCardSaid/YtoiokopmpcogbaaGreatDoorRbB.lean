/-
  CONTRACT of the law RatioSums.
  Conditions: those that each theorem names.
-/
import Derived.Test.YtoiokopmpcogbaaGreatDoorRaN
namespace Go.Proofs.YtoiokopmpcogbaaGreatDoor
open Go.RowKit Go.Sv
set_option maxHeartbeats 2000000 in
set_option maxRecDepth 100000 in
theorem law_sums (w : World) (an : List Int) (qan : LmP) (han : RLm w w.heap.size an qan) (lan : Lim an) (ad : List Int) (qad : LmP) (had : RLm w w.heap.size ad qad) (lad : Lim ad) (bn : List Int) (qbn : LmP) (hbn : RLm w w.heap.size bn qbn) (lbn : Lim bn) (bd : List Int) (qbd : LmP) (hbd : RLm w w.heap.size bd qbd) (lbd : Lim bd) (ht : Tab w) (hm : MaxL w) :
    Calls Tryz.prog 5 #[ratV an qan ad qad, ratV bn qbn bd qbd] w fun e w' => e = .returned (.bool true) ∧ Below w.heap.size w w' := by
  have S := Lib.hid (natArg (natArg (natArg (natArg (Fm.init w) hbd) hbn) had) han)
  have ht' := Lib.hid (fun w' (hb : Below w.heap.size w w') => ht.to hb)
  have hm' := Lib.hid (fun w' (hb : Below w.heap.size w w') => hm.to hb)
  have HAw := Lib.hid (fun w' (h : Below w.heap.size w w') => awake_c w' (ht'.out _ h) (hm'.out _ h))
  have HS := Lib.hid (fun n d q r q2 r2 w' (h1 : RLm w' w'.heap.size n q) (h2 : RLm w' w'.heap.size d r) (h3 : RLm w' w'.heap.size n q2) (h4 : RLm w' w'.heap.size d r2) => xsame_t w' n d q r q2 r2 h1 h2 h3 h4)
  have HA := Lib.hid (fun q0 q1 q2 q3 w' (h0 : RLm w' w'.heap.size an q0) (h1 : RLm w' w'.heap.size ad q1) (h2 : RLm w' w'.heap.size bn q2) (h3 : RLm w' w'.heap.size bd q3) => show Calls _ _ _ _ (Ret (RRes2 w' (addN an ad bn bd) (addD an ad bn bd) (addE an ad bn bd))) from xadd_any w' an q0 h0 lan ad q1 h1 lad bn q2 h2 lbn bd q3 h3 lbd)
  have HB := Lib.hid (fun q0 q1 q2 q3 w' (h0 : RLm w' w'.heap.size an q0) (h1 : RLm w' w'.heap.size ad q1) (h2 : RLm w' w'.heap.size bn q2) (h3 : RLm w' w'.heap.size bd q3) => xradd_any w' an q0 h0 lan ad q1 h1 lad bn q2 h2 lbn bd q3 h3 lbd)
  rw [(add_ref an ad bn bd).1, (add_ref an ad bn bd).2.1, (add_ref an ad bn bd).2.2] at HB
  obtain ⟨N, hN⟩ : ∃ V, addN an ad bn bd = V := ⟨_, rfl⟩
  obtain ⟨D, hD⟩ : ∃ V, addD an ad bn bd = V := ⟨_, rfl⟩
  obtain ⟨E, hE⟩ : ∃ V, addE an ad bn bd = V := ⟨_, rfl⟩
  rw [hN, hD, hE] at HA HB
  clear hN hD hE
  have HC := Lib.hid (fun q0 q1 q2 q3 w' (h0 : RLm w' w'.heap.size an q0) (h1 : RLm w' w'.heap.size ad q1) (h2 : RLm w' w'.heap.size bn q2) (h3 : RLm w' w'.heap.size bd q3) => show Calls _ _ _ _ (Ret (RRes2 w' (subN an ad bn bd) (subD an ad bn bd) (subE an ad bn bd))) from xsub_any w' an q0 h0 lan ad q1 h1 lad bn q2 h2 lbn bd q3 h3 lbd)
  have HD := Lib.hid (fun q0 q1 q2 q3 w' (h0 : RLm w' w'.heap.size an q0) (h1 : RLm w' w'.heap.size ad q1) (h2 : RLm w' w'.heap.size bn q2) (h3 : RLm w' w'.heap.size bd q3) => xrsub_any w' an q0 h0 lan ad q1 h1 lad bn q2 h2 lbn bd q3 h3 lbd)
  rw [(sub_ref an ad bn bd).1, (sub_ref an ad bn bd).2.1, (sub_ref an ad bn bd).2.2] at HD
  obtain ⟨M, hM⟩ : ∃ V, subN an ad bn bd = V := ⟨_, rfl⟩
  obtain ⟨C, hC⟩ : ∃ V, subD an ad bn bd = V := ⟨_, rfl⟩
  obtain ⟨G, hG⟩ : ∃ V, subE an ad bn bd = V := ⟨_, rfl⟩
  rw [hM, hC, hG] at HC HD
  clear hM hC hG
  have HFa := Lib.hid (fun q r w' => xfew_any w' an ad q r)
  obtain ⟨Fa, hFa⟩ : ∃ b, fewB an ad = b := ⟨_, rfl⟩
  rw [hFa] at HFa
  clear hFa
  have HFb := Lib.hid (fun q r w' => xfew_any w' bn bd q r)
  obtain ⟨Fb, hFb⟩ : ∃ b, fewB bn bd = b := ⟨_, rfl⟩
  rw [hFb] at HFb
  clear hFb
  clear ht hm
  obtain ⟨qana, qanc⟩ := qan
  obtain ⟨qada, qadc⟩ := qad
  obtain ⟨qbna, qbnc⟩ := qbn
  obtain ⟨qbda, qbdc⟩ := qbd
  replace S := Lib.hid (S.out.box 28 [.slice qana an.length qanc, .slice qada ad.length qadc])
  replace S := Lib.hid (S.out.box' 28 [.slice qbna bn.length qbnc, .slice qbda bd.length qbdc] (K := w.heap.size + 1) (by simp))
  clear han had hbn hbd
  go_enter Tryz.func5, Tryz.ntmps5
  go_wp2_with fail
  refine (HAw.out _ S.out.bel).mono ?_
  rintro e w1 ⟨rfl, hb⟩
  replace S := Lib.hid (S.out.call hb)
  clear hb
  obtain ⟨⟨z1, f1, y1, y1a, -⟩, ⟨z0, f0, y0, y0a, -⟩, -⟩ := S.out.facts
  go_wp2_with fail
  refine (HFa.out ⟨qana, qanc⟩ ⟨qada, qadc⟩ _).mono ?_
  rintro e w2 ⟨rfl, hb⟩
  replace S := Lib.hid (S.out.call hb)
  clear hb z0 f0 y0 y0a z1 f1 y1 y1a
  obtain ⟨⟨z1, f1, y1, y1a, -⟩, ⟨z0, f0, y0, y0a, -⟩, -⟩ := S.out.facts
  cases Fa
  · go_wp2_with fail
    refine (HAw.out _ S.out.bel).mono ?_
    rintro e w3 ⟨rfl, hb⟩
    replace S := Lib.hid (S.out.call hb)
    clear hb z0 f0 y0 y0a z1 f1 y1 y1a
    obtain ⟨⟨z1, f1, y1, y1a, -⟩, ⟨z0, f0, y0, y0a, -⟩, -⟩ := S.out.facts
    go_wp2
    go_ret
    exact ⟨rfl, S.out.bel⟩
  · go_wp2_with fail
    refine (HFb.out ⟨qbna, qbnc⟩ ⟨qbda, qbdc⟩ _).mono ?_
    rintro e w3 ⟨rfl, hb⟩
    replace S := Lib.hid (S.out.call hb)
    clear hb z0 f0 y0 y0a z1 f1 y1 y1a
    obtain ⟨⟨z1, f1, y1, y1a, -⟩, ⟨z0, f0, y0, y0a, -⟩, -⟩ := S.out.facts
    cases Fb
    · go_wp2_with fail
      refine (HAw.out _ S.out.bel).mono ?_
      rintro e w4 ⟨rfl, hb⟩
      replace S := Lib.hid (S.out.call hb)
      clear hb z0 f0 y0 y0a z1 f1 y1 y1a
      obtain ⟨⟨z1, f1, y1, y1a, -⟩, ⟨z0, f0, y0, y0a, -⟩, -⟩ := S.out.facts
      go_wp2
      go_ret
      exact ⟨rfl, S.out.bel⟩
    · go_wp2_with fail
      refine (HA.out _ _ _ _ _ S.out.r0 S.out.r1 S.out.r2 S.out.r3).mono ?_
      rintro e w4 ⟨_, rfl, q1, r1, rfl, hr, hr2, hf, hf2, hb⟩
      replace S := Lib.hid (natRes2 S.out hr hr2 hf hf2 hb)
      clear hr hr2 hf hf2 hb z0 f0 y0 y0a z1 f1 y1 y1a
      obtain ⟨⟨z1, f1, y1, y1a, -⟩, ⟨z0, f0, y0, y0a, -⟩, -⟩ := S.out.facts
      replace S := Lib.hid (S.out.box 28 [.slice q1.a (N).length q1.c, .slice r1.a (D).length r1.c])
      go_wp2_with fail
      refine (HB.out _ _ _ _ _ S.out.r2 S.out.r3 S.out.r4 S.out.r5).mono ?_
      rintro e w5 ⟨_, rfl, q2, r2, rfl, hr, hr2, hf, hf2, hb⟩
      replace S := Lib.hid (natRes2 S.out hr hr2 hf hf2 hb)
      clear hr hr2 hf hf2 hb z0 f0 y0 y0a z1 f1 y1 y1a
      obtain ⟨⟨z2, f2, y2, y2a, -⟩, ⟨z1, f1, y1, y1a, -⟩, ⟨z0, f0, y0, y0a, -⟩, -⟩ := S.out.facts
      replace S := Lib.hid (S.out.box 28 [.slice q2.a (N).length q2.c, .slice r2.a (D).length r2.c])
      go_wp2_with fail
      refine (HC.out _ _ _ _ _ S.out.r4 S.out.r5 S.out.r6 S.out.r7).mono ?_
      rintro e w6 ⟨_, rfl, q3, r3, rfl, hr, hr2, hf, hf2, hb⟩
      replace S := Lib.hid (natRes2 S.out hr hr2 hf hf2 hb)
      clear hr hr2 hf hf2 hb z0 f0 y0 y0a z1 f1 y1 y1a z2 f2 y2 y2a
      obtain ⟨⟨z3, f3, y3, y3a, -⟩, ⟨z2, f2, y2, y2a, -⟩, ⟨z1, f1, y1, y1a, -⟩, ⟨z0, f0, y0, y0a, -⟩, -⟩ := S.out.facts
      replace S := Lib.hid (S.out.box 28 [.slice q3.a (M).length q3.c, .slice r3.a (C).length r3.c])
      go_wp2_with fail
      refine (HD.out _ _ _ _ _ S.out.r6 S.out.r7 S.out.rd.2.2.2.2.2.2.2.2.1 S.out.rd.2.2.2.2.2.2.2.2.2.1).mono ?_
      rintro e w7 ⟨_, rfl, q4, r4, rfl, hr, hr2, hf, hf2, hb⟩
      replace S := Lib.hid (natRes2 S.out hr hr2 hf hf2 hb)
      clear hr hr2 hf hf2 hb z0 f0 y0 y0a z1 f1 y1 y1a z2 f2 y2 y2a z3 f3 y3 y3a
      obtain ⟨⟨z4, f4, y4, y4a, -⟩, ⟨z3, f3, y3, y3a, -⟩, ⟨z2, f2, y2, y2a, -⟩, ⟨z1, f1, y1, y1a, -⟩, ⟨z0, f0, y0, y0a, -⟩, -⟩ := S.out.facts
      replace S := Lib.hid (S.out.box 28 [.slice q4.a (M).length q4.c, .slice r4.a (C).length r4.c])
      go_wp2_with fail
      refine (HS.out _ _ _ _ _ _ _ S.out.r7 S.out.r6 S.out.r5 S.out.r4).mono ?_
      rintro e w8 ⟨rfl, hb⟩
      replace S := Lib.hid (S.out.call hb)
      clear hb z0 f0 y0 y0a z1 f1 y1 y1a z2 f2 y2 y2a z3 f3 y3 y3a z4 f4 y4 y4a
      obtain ⟨⟨z5, f5, y5, y5a, -⟩, ⟨z4, f4, y4, y4a, -⟩, ⟨z3, f3, y3, y3a, -⟩, ⟨z2, f2, y2, y2a, -⟩, ⟨z1, f1, y1, y1a, -⟩, ⟨z0, f0, y0, y0a, -⟩, -⟩ := S.out.facts
      go_wp2_with fail
      refine (HS.out _ _ _ _ _ _ _ S.out.r3 S.out.r2 S.out.r1 S.out.r0).mono ?_
      rintro e w9 ⟨rfl, hb⟩
      replace S := Lib.hid (S.out.call hb)
      clear hb z0 f0 y0 y0a z1 f1 y1 y1a z2 f2 y2 y2a z3 f3 y3 y3a z4 f4 y4 y4a z5 f5 y5 y5a
      obtain ⟨⟨z5, f5, y5, y5a, -⟩, ⟨z4, f4, y4, y4a, -⟩, ⟨z3, f3, y3, y3a, -⟩, ⟨z2, f2, y2, y2a, -⟩, ⟨z1, f1, y1, y1a, -⟩, ⟨z0, f0, y0, y0a, -⟩, -⟩ := S.out.facts
      go_wp2
      go_ret
      exact ⟨rfl, S.out.bel⟩
end Go.Proofs.YtoiokopmpcogbaaGreatDoor
