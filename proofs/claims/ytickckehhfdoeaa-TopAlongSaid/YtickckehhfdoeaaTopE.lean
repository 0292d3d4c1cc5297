/-
  CONTRACTS of mix.Blame and mix.Robust at valid mixes.
  Conditions: those that each theorem names.
-/
import Derived.Test.YtickckehhfdoeaaTopC
import Derived.Test.YtickckehhfdoeaaTopD
import Derived.Deep.RegionLaw
namespace Go.Proofs.Ytickckehhfdoeaa
open Go.RowKit Go.Sv
theorem cf_cells {w : World} {b off k : Nat} {l : List Cf} (h : ∀ i, i < 3 → w.cell? ⟨b, off + k * 3 + i, none⟩ = some (cfF l k i)) :
    w.cell? ⟨b, off + k * 3, none⟩ = some (.int .i64 (cfAt l k).table) ∧ w.cell? ⟨b, off + k * 3 + 1, none⟩ = some (.int .i64 (cfAt l k).writer) ∧ w.cell? ⟨b, off + k * 3 + 2, none⟩ = some (.int .i64 (cfAt l k).reader) := ⟨h 0 (by decide), h 1 (by decide), h 2 (by decide)⟩
set_option maxHeartbeats 8000000 in
set_option maxRecDepth 100000 in
theorem blame_any (p : Prob) (q : ProbP) (m : Mx) (qm : MixP) (w : World) (hp : RProb w w.heap.size p q) (hbd : PBd p) (hm : RMix w w.heap.size m qm) (hmb : MBd m qm) (hok : MOk p m) :
    Calls Try.prog 32 #[probV p q, mixV m qm] w (Ret (BlaR w (blmE p m))) := by
  obtain ⟨W0, hW0, S0⟩ := pm_boxes p q m qm w
  have h8 : H8 m := hmb.h8
  have S := (S0.box' 56 [.slice none 0 0, .slice none 0 0, .slice none 0 0] (K := w.heap.size + 1 + 1) (by rw [← hW0]; simp)).box' 80 [.int .i64 0, .int .i64 0, .int .i64 0] (K := w.heap.size + 1 + 1 + 1) (by rw [← hW0]; simp)
  obtain ⟨W, hW, S⟩ : ∃ W, (W0.alloc (.cells [Value.slice none 0 0, .slice none 0 0, .slice none 0 0].toArray 56)).alloc (.cells [Value.int .i64 0, .int .i64 0, .int .i64 0].toArray 80) = W ∧ Fm w W _ _ := ⟨_, rfl, S⟩
  rw [← hW0] at hW
  have hsz : w.heap.size + 4 ≤ W.heap.size := by rw [← hW]; simp
  have hps := prob_small hok.pr
  have h6 := open_6 hok hps.1
  have HA := Lib.hid (aborts_any p q m qm W (hp.to S.bel) hbd (hm.to S.bel) hmb hok)
  have HC := Lib.hid (fun (x : Mx) (qx : MixP) (W2 : World) (h : Below W.heap.size W W2) (hx : RMix W2 W2.heap.size x qx) (hxo : MOk p x) (h8 : H8 x) => conf_any p q x qx W2 ((hp.to S.bel).to h) hx hxo h8)
  have hab := Lib.hid (fun k => abM_ok hok k)
  have hab8 := Lib.hid (fun k => abM_h8 h8 k)
  have hrA := Lib.hid (fun h => rob_all (p := p) (m := m) h)
  have hrN := Lib.hid (fun k hk h => rob_not (p := p) (m := m) (k := k) hk h)
  have hLat := Lib.hid (fun k hk => abL_at (m := m) (k := k) hk)
  obtain ⟨N, hN⟩ : ∃ N : Nat, 2 ^ (openL m).length = N := ⟨_, rfl⟩
  have hN64 : N ≤ 64 := by rw [← hN]; exact Nat.le_trans (Nat.pow_le_pow_right (by decide) h6) (by decide)
  have hLl := abL_len m
  rw [hN] at hrA hrN hLat hLl
  obtain ⟨L, hL⟩ : ∃ L, abL m = L := ⟨_, rfl⟩
  rw [hL] at HA hLat hLl
  obtain ⟨qa0, qc0, qa1, qc1, qa2, qc2, qa3, qc3⟩ := q
  obtain ⟨ma0, mc0, ma1, mc1, ma2, mc2⟩ := qm
  dsimp only at HA HC hW S hW0 ⊢
  obtain ⟨⟨r3, f3, r30, r31, r32, -⟩, ⟨r4, f4, r40, r41, r42, -⟩, ⟨r1, f1, r10, r11, r12, -⟩, ⟨r2, f2, r20, r21, r22, r23, -⟩, -⟩ := S.facts
  have SW := Lib.hid S
  replace hok := Lib.hid hok
  clear S S0 hp hbd hm hmb hps hW0 hN hL h6
  go_enter Try.func32, Try.ntmps32
  go_wp2_with fail
  clear hW
  with_reducible refine HA.out.mono ?_
  rintro e w1 ⟨_, rfl, hb1, A, c, Q, rfl, hM⟩
  clear r3 f3 r30 r31 r32 r4 f4 r40 r41 r42 r1 f1 r10 r11 r12 r2 f2 r20 r21 r22 r23 HA
  have S1 := Lib.hid (SW.out.call hb1)
  have hW1 : W.heap.size ≤ w1.heap.size := hb1.size
  replace hb1 := Lib.hid hb1
  replace hM := Lib.hid hM
  rw [hLl]
  obtain ⟨⟨r3, f3, r30, r31, r32, -⟩, ⟨r4, f4, r40, r41, r42, -⟩, ⟨r1, f1, r10, r11, r12, -⟩, ⟨r2, f2, r20, r21, r22, r23, -⟩, -⟩ := S1.out.facts
  go_wp2
  clear r3 f3 r30 r31 r32 r4 f4 r40 r41 r42 r1 f1 r10 r11 r12 r2 f2 r20 r21 r22 r23
  go_loopw [25] (fun s25 wr => ∃ k : Nat, k ≤ N ∧ s25 = .int .i64 (k : Int) ∧ (∀ j, j < k → (foundL p (abM m j)).length = 0) ∧ Below w1.heap.size w1 wr) (fun s25 _ => N - (intOf s25).toNat)
  case atStart => exact ⟨0, Nat.zero_le _, rfl, fun j hj => by omega, Below.refl _ _⟩
  case round =>
    obtain ⟨k, hk, rfl, hall, hb⟩ := hrel
    have T := Lib.hid (S1.out.call hb)
    obtain ⟨⟨r3, f3, r30, r31, r32, -⟩, ⟨r4, f4, r40, r41, r42, -⟩, ⟨r1, f1, r10, r11, r12, -⟩, ⟨r2, f2, r20, r21, r22, r23, -⟩, -⟩ := T.out.facts
    have hs1 : w1.heap.size ≤ wr.heap.size := hb.size
    replace hall := Lib.hid hall
    by_cases hlt : k < N
    · obtain ⟨AM, cM, hv, haM⟩ := hM.out.arr
      injection hv with e1 e2 e3
      subst e1 e3
      obtain ⟨bM, oM, rfl, hbM, hcM⟩ := haM (by omega)
      obtain ⟨d0, d1, d2⟩ := mx_cells (hcM k (by omega))
      have hEk := Lib.hid (((hM.out.el k (by omega)).mix hW1).to hb)
      rw [hLat.out k hlt] at d0 d1 d2 hEk
      have k0 := (hb.cell (p := ⟨bM, oM + k * 3, none⟩) hbM).trans d0
      have k1 := (hb.cell (p := ⟨bM, oM + k * 3 + 1, none⟩) hbM).trans d1
      have k2 := (hb.cell (p := ⟨bM, oM + k * 3 + 2, none⟩) hbM).trans d2
      have jk : (k : Int) < (N : Int) := by omega
      have hxo := Lib.hid (hab.out k)
      have hx8 := Lib.hid (hab8.out k)
      have hno := Lib.hid (fun h => hrN.out k hlt h)
      have hnx : Hid ((foundL p (abM m k)).length = 0 → ∀ j, j < k + 1 → (foundL p (abM m j)).length = 0) := Lib.hid fun h j hj => by
        rcases Nat.lt_succ_iff_lt_or_eq.1 hj with h1 | h1
        · exact hall.out j h1
        · rw [h1]; exact h
      obtain ⟨x, hx⟩ : ∃ x, abM m k = x := ⟨_, rfl⟩
      rw [hx] at k0 k1 k2 hEk hxo hx8 hno hnx
      obtain ⟨⟨xa0, xc0, xa1, xc1, xa2, xc2⟩, hq⟩ : ∃ y, Q k = y := ⟨_, rfl⟩
      rw [hq] at k0 k1 k2 hEk
      dsimp only at k0 k1 k2
      obtain ⟨W3, (hW3 : wr.alloc (.cells #[.slice xa0 x.base.length xc0, .slice xa1 x.next.length xc1, .slice xa2 x.held.length xc2] 56) = W3), S3, hB3⟩ := fm_boxE T.out 56 [.slice xa0 x.base.length xc0, .slice xa1 x.next.length xc1, .slice xa2 x.held.length xc2]
      have hb3 := Lib.hid (hb.trans (hB3.mono hs1))
      have H := Lib.hid (HC.out x ⟨xa0, xc0, xa1, xc1, xa2, xc2⟩ W3 (hb1.out.trans (hb3.out.mono hW1)) (hEk.out.to hB3) hxo.out hx8.out)
      obtain ⟨⟨z1, g1, z10, z11, z12, -⟩, ⟨y3, h3, y30, y31, y32, -⟩, ⟨y4, h4, y40, y41, y42, -⟩, ⟨y1, h1, y10, y11, y12, -⟩, ⟨y2, h2, y20, y21, y22, y23, -⟩, -⟩ := S3.facts
      replace S3 := Lib.hid S3
      replace hx := Lib.hid hx
      clear hcM haM d0 d1 d2 hq
      go_wp2_with fail
      clear hW3
      with_reducible refine H.out.mono ?_
      rintro e w4 ⟨_, rfl, hb4, A4, c4, rfl, hown⟩
      clear r3 f3 r30 r31 r32 r4 f4 r40 r41 r42 r1 f1 r10 r11 r12 r2 f2 r20 r21 r22 r23 z1 g1 z10 z11 z12 y3 h3 y30 y31 y32 y4 h4 y40 y41 y42 y1 h1 y10 y11 y12 y2 h2 y20 y21 y22 y23 k0 k1 k2 H
      have S4 := Lib.hid (S3.out.call hb4)
      have hb5 := Lib.hid (hb3.out.trans (hb4.mono (Nat.le_trans hs1 hB3.size)))
      obtain ⟨⟨z1, g1, z10, z11, z12, -⟩, ⟨y3, h3, y30, y31, y32, -⟩, ⟨y4, h4, y40, y41, y42, -⟩, ⟨y1, h1, y10, y11, y12, -⟩, ⟨y2, h2, y20, y21, y22, y23, -⟩, -⟩ := S4.out.facts
      obtain ⟨F, hF⟩ : ∃ F, foundL p x = F := ⟨_, rfl⟩
      rw [hF] at hown hno hnx
      rw [hF]
      replace hF := Lib.hid hF
      by_cases hlen : F.length = 0
      · have hn2 := Lib.hid (hnx.out hlen)
        rw [hlen]
        clear hown hnx hno hlen hall
        go_wp2
        go_roundw
        case rel => exact ⟨k + 1, by omega, by go_num, hn2.out, hb5.out⟩
        case measure => simp [intOf]; omega
      · obtain ⟨A', c', hv, _, _, ha⟩ := own_form hown
        injection hv with e1 e2 e3
        subst e1 e3
        obtain ⟨bF, rfl, hBF, hbF, hcF⟩ := ha (by omega)
        have c0 := (hcF 0 (by omega)).trans (cfRow_get (l := F) (k := 0) (i := 0) (by omega) (by decide))
        have c1 := (hcF 1 (by omega)).trans (cfRow_get (l := F) (k := 0) (i := 1) (by omega) (by decide))
        have c2 := (hcF 2 (by omega)).trans (cfRow_get (l := F) (k := 0) (i := 2) (by omega) (by decide))
        unfold cfF cfC at c0 c1 c2
        have hW3 : W.heap.size ≤ W3.heap.size := Nat.le_trans hW1 hb3.out.size
        have i1 : ¬ bF = w.heap.size + 1 + 1 := by omega
        have i2 : ¬ w.heap.size + 1 + 1 = bF := by omega
        have i3 : ¬ bF = w.heap.size + 1 + 1 + 1 := by omega
        have i4 : ¬ w.heap.size + 1 + 1 + 1 = bF := by omega
        have i5 : ¬ wr.heap.size = w.heap.size + 1 + 1 := by omega
        have i6 : ¬ w.heap.size + 1 + 1 = wr.heap.size := by omega
        have i7 : ¬ wr.heap.size = w.heap.size + 1 + 1 + 1 := by omega
        have i8 : ¬ w.heap.size + 1 + 1 + 1 = wr.heap.size := by omega
        have hR := Lib.hid (hno.out (by omega))
        have hE : Hid (blmE p m = 0) := Lib.hid (by unfold blmE; rw [hR.out]; rfl)
        have jF : (0 : Int) < (F.length : Int) := by omega
        have jF2 : 0 < F.length := by omega
        obtain ⟨v0, hv0⟩ : ∃ v, (cfAt F 0).table = v := ⟨_, rfl⟩
        obtain ⟨v1, hv1⟩ : ∃ v, (cfAt F 0).writer = v := ⟨_, rfl⟩
        obtain ⟨v2, hv2⟩ : ∃ v, (cfAt F 0).reader = v := ⟨_, rfl⟩
        rw [hv0] at c0
        rw [hv1] at c1
        rw [hv2] at c2
        clear hv0 hv1 hv2 hcF ha hnx hno hlen hall
        replace hown := Lib.hid hown
        have S6 := Lib.hid ((((((S4.out.set 2 rfl 0 (.slice xa0 x.base.length xc0)).set 2 rfl 1 (.slice xa1 x.next.length xc1)).set 2 rfl 2 (.slice xa2 x.held.length xc2)).set 1 rfl 0 (.int .i64 v0)).set 1 rfl 1 (.int .i64 v1)).set 1 rfl 2 (.int .i64 v2)).drew
        go_wp2
        go_region_law ((fail))
        all_goals go_wp2_with fail
        all_goals clear z1 g1 z10 z11 z12 y3 h3 y30 y31 y32 y4 h4 y40 y41 y42 y1 h1 y10 y11 y12 y2 h2 y20 y21 y22 y23 c0 c1 c2
        all_goals obtain ⟨-, ⟨y3, h3, y30, y31, y32, -⟩, ⟨y4, h4, y40, y41, y42, -⟩, -⟩ := S6.out.facts
        all_goals
          refine bodyPost_ret (v := .tuple #[.agg #[.slice xa0 x.base.length xc0, .slice xa1 x.next.length xc1, .slice xa2 x.held.length xc2], .agg #[.int .i64 v0, .int .i64 v1, .int .i64 v2], .int .i64 0]) (by simp [results, Try.results32, go_sem, y30, y31, y32, y40, y41, y42]) rfl ?_
          exact Ret.mk (by rw [hE.out]; exact ⟨S6.out.bel, _, _, _, _, _, _, _, _, _, _, _, _, rfl⟩)
    · obtain rfl : k = N := by omega
      have hE : Hid (blmE p m = 15) := Lib.hid (by unfold blmE; rw [hrA.out hall.out]; rfl)
      have S6 := Lib.hid ((((((T.out.set 1 rfl 0 (.slice none 0 0)).set 1 rfl 1 (.slice none 0 0)).set 1 rfl 2 (.slice none 0 0)).set 0 rfl 0 (.int .i64 0)).set 0 rfl 1 (.int .i64 0)).set 0 rfl 2 (.int .i64 0))
      clear hlt
      go_wp2
      clear r3 f3 r30 r31 r32 r4 f4 r40 r41 r42 r1 f1 r10 r11 r12 r2 f2 r20 r21 r22 r23
      obtain ⟨⟨y3, h3, y30, y31, y32, -⟩, ⟨y4, h4, y40, y41, y42, -⟩, -⟩ := S6.out.facts
      refine bodyPost_ret (v := .tuple #[.agg #[.slice none 0 0, .slice none 0 0, .slice none 0 0], .agg #[.int .i64 0, .int .i64 0, .int .i64 0], .int .i64 15]) (by simp [results, Try.results32, go_sem, y30, y31, y32, y40, y41, y42]) rfl ?_
      exact Ret.mk (by rw [hE.out]; exact ⟨S6.out.bel, none, none, none, 0, 0, 0, 0, 0, 0, 0, 0, 0, rfl⟩)
theorem robust_any (p : Prob) (q : ProbP) (m : Mx) (qm : MixP) (w : World) (hp : RProb w w.heap.size p q) (hbd : PBd p) (hm : RMix w w.heap.size m qm) (hmb : MBd m qm) (hok : MOk p m) :
    Calls Try.prog 14 #[probV p q, mixV m qm] w fun e w' => e = .returned (.tuple #[.bool (robB p m), .int .i64 0]) ∧ Below w.heap.size w w' := by
  have h := robust_of p q m qm (blmE p m) w (fun W hb => blame_any p q m qm W (hp.to hb) hbd (hm.to hb) hmb hok)
  have e : robA (blmE p m) = .tuple #[.bool (robB p m), .int .i64 0] := by
    unfold robA blmE
    cases robB p m <;> rfl
  rw [e] at h
  exact h
end Go.Proofs.Ytickckehhfdoeaa
