/-
  CONTRACTS of reduced and Make, of both texts.
  Conditions: those that each theorem names.
-/
import Derived.Test.YtoiokopmpcogbaaGreatDoorRaB
namespace Go.Proofs.YtoiokopmpcogbaaGreatDoor
open Go.RowKit Go.Sv
def rdN (N D : Nat) : List Int := lim (N / Nat.gcd N D)
def rdD (N D : Nat) : List Int := lim (D / Nat.gcd N D)
def makE (n d : List Int) : Int := if (vN n && vN d) = true then (if vl d = 0 then 8 else 0) else 1
def makN (n d : List Int) : List Int := if (vN n && vN d) = true ∧ vl d ≠ 0 then rdN (vl n) (vl d) else []
def makD (n d : List Int) : List Int := if (vN n && vN d) = true ∧ vl d ≠ 0 then rdD (vl n) (vl d) else []
section
variable {w W : World} {bs : List Bx} {rs : List Rd} {n d : List Int} {q r : LmP}
theorem fm_rres (S : Fm w W bs rs) (hn : rowRd n q ∈ rs) (hd : rowRd d r ∈ rs) (fq : Fr w.heap.size q) (fr : Fr w.heap.size r) : RRes w n d (ratV n q d r) W := ⟨q, r, rfl, natOld S hn, natOld S hd, fq, fr, S.bel⟩
theorem fm_rres2 {E : Int} (S : Fm w W bs rs) (hn : rowRd n q ∈ rs) (hd : rowRd d r ∈ rs) (fq : Fr w.heap.size q) (fr : Fr w.heap.size r) : RRes2 w n d E (.tuple #[ratV n q d r, .int .i64 E]) W := ⟨q, r, rfl, natOld S hn, natOld S hd, fq, fr, S.bel⟩
theorem fm_rres0 {E : Int} (S : Fm w W bs rs) : RRes2 w [] [] E (.tuple #[.agg #[.slice none 0 0, .slice none 0 0], .int .i64 E]) W := ⟨⟨none, 0⟩, ⟨none, 0⟩, rfl, RLm.none_ _ _, RLm.none_ _ _, Fr.none_ _, Fr.none_ _, S.bel⟩
end
set_option maxHeartbeats 2000000 in
set_option maxRecDepth 100000 in
theorem reduced_any (w : World) (a : List Int) (qa : LmP) (ha : RLm w w.heap.size a qa) (la : Lim a) (b : List Int) (qb : LmP) (hb : RLm w w.heap.size b qb) (lb : Lim b) (va : vN a = true) (vb : vN b = true) (hz : vl b ≠ 0) :
    Calls Tryz.prog 41 #[natV a qa, natV b qb] w (Ret (RRes w (rdN (vl a) (vl b)) (rdD (vl a) (vl b)))) := by
  have S := Lib.hid (natArg (natArg (Fm.init w) hb) ha)
  have hg0 : 0 < Nat.gcd (vl a) (vl b) := Nat.gcd_pos_of_pos_right _ (by omega)
  have hg128 : (lim (Nat.gcd (vl a) (vl b))).length ≤ 128 := by
    have h1 : Nat.gcd (vl a) (vl b) ≤ vl b := Nat.gcd_le_right _ (by omega)
    obtain ⟨nb, cb⟩ := vN_can vb
    rcases Nat.lt_or_ge 128 (lim (Nat.gcd (vl a) (vl b))).length with c | c
    · have := len_mono h1 c
      rw [← lim_vl lb cb] at this
      omega
    · exact c
  have HG := Lib.hid (fun q0 q1 w' (h0 : RLm w' w'.heap.size (a) q0) (h1 : RLm w' w'.heap.size (b) q1) => by
    have := gcd_ok (a) (b) q0 q1 w' h0 h1 (la) (lb) (by rw [va, vb]; rfl)
    exact this)
  have HA := Lib.hid (fun q0 q1 w' (h0 : RLm w' w'.heap.size (a) q0) (h1 : RLm w' w'.heap.size (lim (Nat.gcd (vl a) (vl b))) q1) => by
    have := div_ok (a) (lim (Nat.gcd (vl a) (vl b))) q0 q1 w' h0 h1 (la) (lim_lim _) (by rw [va, vN_lim hg128]; rfl) (by rw [vl_lim]; exact hg0)
    rw [vl_lim] at this
    exact this)
  have HB := Lib.hid (fun q0 q1 w' (h0 : RLm w' w'.heap.size (b) q0) (h1 : RLm w' w'.heap.size (lim (Nat.gcd (vl a) (vl b))) q1) => by
    have := div_ok (b) (lim (Nat.gcd (vl a) (vl b))) q0 q1 w' h0 h1 (lb) (lim_lim _) (by rw [vb, vN_lim hg128]; rfl) (by rw [vl_lim]; exact hg0)
    rw [vl_lim] at this
    exact this)
  have eQ : Hid (rdN (vl a) (vl b) = lim (vl a / Nat.gcd (vl a) (vl b))) := Lib.hid rfl
  have eP : Hid (rdD (vl a) (vl b) = lim (vl b / Nat.gcd (vl a) (vl b))) := Lib.hid rfl
  obtain ⟨Q, hQ⟩ : ∃ V, lim (vl a / Nat.gcd (vl a) (vl b)) = V := ⟨_, rfl⟩
  obtain ⟨P, hP⟩ : ∃ V, lim (vl b / Nat.gcd (vl a) (vl b)) = V := ⟨_, rfl⟩
  obtain ⟨R, hR⟩ : ∃ V, lim (vl a % Nat.gcd (vl a) (vl b)) = V := ⟨_, rfl⟩
  obtain ⟨T, hT⟩ : ∃ V, lim (vl b % Nat.gcd (vl a) (vl b)) = V := ⟨_, rfl⟩
  rw [hQ, hR] at HA
  rw [hP, hT] at HB
  rw [hQ] at eQ
  rw [hP] at eP
  obtain ⟨G, hG⟩ : ∃ V, lim (Nat.gcd (vl a) (vl b)) = V := ⟨_, rfl⟩
  rw [hG] at HG HA HB
  clear hQ hP hR hT hG hg0 hg128
  clear va vb hz
  obtain ⟨qaa, qac⟩ := qa
  obtain ⟨qba, qbc⟩ := qb
  replace S := Lib.hid (S.out.box 24 [.slice qaa a.length qac])
  replace S := Lib.hid (S.out.box' 24 [.slice qba b.length qbc] (K := w.heap.size + 1) (by simp))
  replace S := Lib.hid (S.out.box' 28 [.slice none 0 0, .slice none 0 0] (K := w.heap.size + 1 + 1) (by simp))
  clear ha hb
  go_enter Tryz.func41, Tryz.ntmps41
  go_wp2_with fail
  refine (HG.out _ _ _ S.out.r0 S.out.r1).mono ?_
  rintro e w1 ⟨_, rfl, q1, rfl, hr, hf, hb⟩
  replace S := Lib.hid (natRes S.out hr hf hb)
  clear hr hf hb
  obtain ⟨⟨z2, f2, y2, y2a, -⟩, ⟨z1, f1, y1, -⟩, ⟨z0, f0, y0, -⟩, -⟩ := S.out.facts
  replace S := Lib.hid (S.out.box 24 [.slice q1.a (G).length q1.c])
  go_wp2_with fail
  refine (HA.out _ _ _ S.out.r1 S.out.r0).mono ?_
  rintro e w2 ⟨_, rfl, q2, q3, rfl, hr, hr2, hf, hf2, hb⟩
  have fr2 := Lib.hid (hf.le S.out.size)
  replace S := Lib.hid (natRes2 S.out hr hr2 hf hf2 hb)
  clear hr hr2 hf hf2 hb z0 f0 y0 z1 f1 y1 z2 f2 y2 y2a
  obtain ⟨⟨z3, f3, y3, -⟩, ⟨z2, f2, y2, y2a, -⟩, ⟨z1, f1, y1, -⟩, ⟨z0, f0, y0, -⟩, -⟩ := S.out.facts
  replace S := Lib.hid (S.out.box 24 [.slice q2.a (Q).length q2.c])
  replace S := Lib.hid (S.out.box' 24 [.slice q3.a (R).length q3.c] (K := w2.heap.size + 1) (by simp))
  go_wp2_with fail
  refine (HB.out _ _ _ S.out.r4 S.out.r2).mono ?_
  rintro e w3 ⟨_, rfl, q4, q5, rfl, hr, hr2, hf, hf2, hb⟩
  have fr4 := Lib.hid (hf.le S.out.size)
  replace S := Lib.hid (natRes2 S.out hr hr2 hf hf2 hb)
  clear hr hr2 hf hf2 hb z0 f0 y0 z1 f1 y1 z2 f2 y2 y2a z3 f3 y3
  obtain ⟨⟨z5, f5, y5, -⟩, ⟨z4, f4, y4, -⟩, ⟨z3, f3, y3, -⟩, ⟨z2, f2, y2, y2a, -⟩, ⟨z1, f1, y1, -⟩, ⟨z0, f0, y0, -⟩, -⟩ := S.out.facts
  replace S := Lib.hid (S.out.set 3 rfl 0 (.slice q2.a Q.length q2.c))
  replace S := Lib.hid (S.out.set 3 rfl 1 (.slice q4.a P.length q4.c))
  replace S := Lib.hid (S.out.box' 24 [.slice q4.a (P).length q4.c] (K := w3.heap.size) (by simp))
  replace S := Lib.hid (S.out.box' 24 [.slice q5.a (T).length q5.c] (K := w3.heap.size + 1) (by simp))
  go_wp2
  refine bodyPost_ret (v := ratV Q q2 P q4) (by simp [results, Tryz.results41, go_sem, y2, y2a, z2, Nat.lt_succ_of_lt z2]) rfl ?_
  rw [eQ.out, eP.out]
  exact Ret.mk (fm_rres S.out (by simp) (by simp) fr2.out fr4.out)
set_option maxHeartbeats 2000000 in
set_option maxRecDepth 100000 in
theorem rmake_a (w : World) (a : List Int) (qa : LmP) (ha : RLm w w.heap.size a qa) (_la : Lim a) (b : List Int) (qb : LmP) (hb : RLm w w.heap.size b qb) (_lb : Lim b) (va : vN a = false) :
    Calls Tryz.prog 16 #[natV a qa, natV b qb] w (Ret (RRes2 w [] [] 1)) := by
  have S := Lib.hid (natArg (natArg (Fm.init w) hb) ha)
  have HN := Lib.hid (fun q0 w' (h0 : RLm w' w'.heap.size (a) q0) => by
    have := rvalid_any (a) q0 w' h0 
    rw [va] at this
    exact this)
  clear va
  obtain ⟨qaa, qac⟩ := qa
  obtain ⟨qba, qbc⟩ := qb
  replace S := Lib.hid (S.out.box 24 [.slice qaa a.length qac])
  replace S := Lib.hid (S.out.box' 24 [.slice qba b.length qbc] (K := w.heap.size + 1) (by simp))
  replace S := Lib.hid (S.out.box' 28 [.slice none 0 0, .slice none 0 0] (K := w.heap.size + 1 + 1) (by simp))
  clear ha hb
  go_enter Tryz.func16, Tryz.ntmps16
  go_wp2_with fail
  refine (HN.out _ _ S.out.r0).mono ?_
  rintro e w1 ⟨rfl, hb⟩
  replace S := Lib.hid (S.out.call hb)
  clear hb
  obtain ⟨⟨z2, f2, y2, y2a, -⟩, ⟨z1, f1, y1, -⟩, ⟨z0, f0, y0, -⟩, -⟩ := S.out.facts
  replace S := Lib.hid (S.out.set 0 rfl 0 (.slice none 0 0))
  replace S := Lib.hid (S.out.set 0 rfl 1 (.slice none 0 0))
  go_wp2
  refine bodyPost_ret (v := .tuple #[.agg #[.slice none 0 0, .slice none 0 0], .int .i64 1]) (by simp [results, Tryz.results16, go_sem, y2, y2a]) rfl ?_
  exact Ret.mk (fm_rres0 S.out)
set_option maxHeartbeats 2000000 in
set_option maxRecDepth 100000 in
theorem rmake_b (w : World) (a : List Int) (qa : LmP) (ha : RLm w w.heap.size a qa) (_la : Lim a) (b : List Int) (qb : LmP) (hb : RLm w w.heap.size b qb) (_lb : Lim b) (va : vN a = true) (vb : vN b = false) :
    Calls Tryz.prog 16 #[natV a qa, natV b qb] w (Ret (RRes2 w [] [] 1)) := by
  have S := Lib.hid (natArg (natArg (Fm.init w) hb) ha)
  have HN := Lib.hid (fun q0 w' (h0 : RLm w' w'.heap.size (a) q0) => by
    have := rvalid_any (a) q0 w' h0 
    rw [va] at this
    exact this)
  have HD := Lib.hid (fun q0 w' (h0 : RLm w' w'.heap.size (b) q0) => by
    have := rvalid_any (b) q0 w' h0 
    rw [vb] at this
    exact this)
  clear va vb
  obtain ⟨qaa, qac⟩ := qa
  obtain ⟨qba, qbc⟩ := qb
  replace S := Lib.hid (S.out.box 24 [.slice qaa a.length qac])
  replace S := Lib.hid (S.out.box' 24 [.slice qba b.length qbc] (K := w.heap.size + 1) (by simp))
  replace S := Lib.hid (S.out.box' 28 [.slice none 0 0, .slice none 0 0] (K := w.heap.size + 1 + 1) (by simp))
  clear ha hb
  go_enter Tryz.func16, Tryz.ntmps16
  go_wp2_with fail
  refine (HN.out _ _ S.out.r0).mono ?_
  rintro e w1 ⟨rfl, hb⟩
  replace S := Lib.hid (S.out.call hb)
  clear hb
  obtain ⟨⟨z2, f2, y2, y2a, -⟩, ⟨z1, f1, y1, -⟩, ⟨z0, f0, y0, -⟩, -⟩ := S.out.facts
  go_wp2_with fail
  refine (HD.out _ _ S.out.r1).mono ?_
  rintro e w2 ⟨rfl, hb⟩
  replace S := Lib.hid (S.out.call hb)
  clear hb z0 f0 y0 z1 f1 y1 z2 f2 y2 y2a
  obtain ⟨⟨z2, f2, y2, y2a, -⟩, ⟨z1, f1, y1, -⟩, ⟨z0, f0, y0, -⟩, -⟩ := S.out.facts
  replace S := Lib.hid (S.out.set 0 rfl 0 (.slice none 0 0))
  replace S := Lib.hid (S.out.set 0 rfl 1 (.slice none 0 0))
  go_wp2
  refine bodyPost_ret (v := .tuple #[.agg #[.slice none 0 0, .slice none 0 0], .int .i64 1]) (by simp [results, Tryz.results16, go_sem, y2, y2a]) rfl ?_
  exact Ret.mk (fm_rres0 S.out)
set_option maxHeartbeats 2000000 in
set_option maxRecDepth 100000 in
theorem rmake_c (w : World) (a : List Int) (qa : LmP) (ha : RLm w w.heap.size a qa) (_la : Lim a) (b : List Int) (qb : LmP) (hb : RLm w w.heap.size b qb) (lb : Lim b) (va : vN a = true) (vb : vN b = true) (hz : vl b = 0) :
    Calls Tryz.prog 16 #[natV a qa, natV b qb] w (Ret (RRes2 w [] [] 8)) := by
  have S := Lib.hid (natArg (natArg (Fm.init w) hb) ha)
  have HN := Lib.hid (fun q0 w' (h0 : RLm w' w'.heap.size (a) q0) => by
    have := rvalid_any (a) q0 w' h0 
    rw [va] at this
    exact this)
  have HD := Lib.hid (fun q0 w' (h0 : RLm w' w'.heap.size (b) q0) => by
    have := rvalid_any (b) q0 w' h0 
    rw [vb] at this
    exact this)
  have dz : ((b.length : Int) == 0) = true := beq_iff_eq.2 (by have := (vl_len lb vb).1 hz; omega)
  clear va vb hz
  obtain ⟨qaa, qac⟩ := qa
  obtain ⟨qba, qbc⟩ := qb
  replace S := Lib.hid (S.out.box 24 [.slice qaa a.length qac])
  replace S := Lib.hid (S.out.box' 24 [.slice qba b.length qbc] (K := w.heap.size + 1) (by simp))
  replace S := Lib.hid (S.out.box' 28 [.slice none 0 0, .slice none 0 0] (K := w.heap.size + 1 + 1) (by simp))
  clear ha hb
  go_enter Tryz.func16, Tryz.ntmps16
  go_wp2_with fail
  refine (HN.out _ _ S.out.r0).mono ?_
  rintro e w1 ⟨rfl, hb⟩
  replace S := Lib.hid (S.out.call hb)
  clear hb
  obtain ⟨⟨z2, f2, y2, y2a, -⟩, ⟨z1, f1, y1, -⟩, ⟨z0, f0, y0, -⟩, -⟩ := S.out.facts
  go_wp2_with fail
  refine (HD.out _ _ S.out.r1).mono ?_
  rintro e w2 ⟨rfl, hb⟩
  replace S := Lib.hid (S.out.call hb)
  clear hb z0 f0 y0 z1 f1 y1 z2 f2 y2 y2a
  obtain ⟨⟨z2, f2, y2, y2a, -⟩, ⟨z1, f1, y1, -⟩, ⟨z0, f0, y0, -⟩, -⟩ := S.out.facts
  replace S := Lib.hid (S.out.set 0 rfl 0 (.slice none 0 0))
  replace S := Lib.hid (S.out.set 0 rfl 1 (.slice none 0 0))
  go_wp2
  refine bodyPost_ret (v := .tuple #[.agg #[.slice none 0 0, .slice none 0 0], .int .i64 8]) (by simp [results, Tryz.results16, go_sem, y2, y2a]) rfl ?_
  exact Ret.mk (fm_rres0 S.out)
set_option maxHeartbeats 2000000 in
set_option maxRecDepth 100000 in
theorem rmake_d (w : World) (a : List Int) (qa : LmP) (ha : RLm w w.heap.size a qa) (la : Lim a) (b : List Int) (qb : LmP) (hb : RLm w w.heap.size b qb) (lb : Lim b) (va : vN a = true) (vb : vN b = true) (hz : vl b ≠ 0) :
    Calls Tryz.prog 16 #[natV a qa, natV b qb] w (Ret (RRes2 w (rdN (vl a) (vl b)) (rdD (vl a) (vl b)) 0)) := by
  have S := Lib.hid (natArg (natArg (Fm.init w) hb) ha)
  have HN := Lib.hid (fun q0 w' (h0 : RLm w' w'.heap.size (a) q0) => by
    have := rvalid_any (a) q0 w' h0 
    rw [va] at this
    exact this)
  have HD := Lib.hid (fun q0 w' (h0 : RLm w' w'.heap.size (b) q0) => by
    have := rvalid_any (b) q0 w' h0 
    rw [vb] at this
    exact this)
  have dz : ((b.length : Int) == 0) = false := beq_eq_false_iff_ne.2 (fun e => hz ((vl_len lb vb).2 (by omega)))
  have hg0 : 0 < Nat.gcd (vl a) (vl b) := Nat.gcd_pos_of_pos_right _ (by omega)
  have hg128 : (lim (Nat.gcd (vl a) (vl b))).length ≤ 128 := by
    have h1 : Nat.gcd (vl a) (vl b) ≤ vl b := Nat.gcd_le_right _ (by omega)
    obtain ⟨nb, cb⟩ := vN_can vb
    rcases Nat.lt_or_ge 128 (lim (Nat.gcd (vl a) (vl b))).length with c | c
    · have := len_mono h1 c
      rw [← lim_vl lb cb] at this
      omega
    · exact c
  have HG := Lib.hid (fun q0 q1 w' (h0 : RLm w' w'.heap.size (a) q0) (h1 : RLm w' w'.heap.size (b) q1) => by
    have := rgcd_ok (a) (b) q0 q1 w' h0 h1 (la) (lb) (va) (vb)
    exact this)
  have HA := Lib.hid (fun q0 q1 w' (h0 : RLm w' w'.heap.size (a) q0) (h1 : RLm w' w'.heap.size (lim (Nat.gcd (vl a) (vl b))) q1) => by
    have := rdiv_any (a) (lim (Nat.gcd (vl a) (vl b))) q0 q1 w' h0 h1 (la) (lim_lim _)
    have hvv : (vN a && vN (lim (Nat.gcd (vl a) (vl b)))) = true := by rw [va, vN_lim hg128]; rfl
    have hnz : vl (lim (Nat.gcd (vl a) (vl b))) ≠ 0 := by rw [vl_lim]; omega
    rw [show quoV a (lim (Nat.gcd (vl a) (vl b))) = lim (vl a / vl (lim (Nat.gcd (vl a) (vl b)))) from if_pos ⟨hvv, hnz⟩, show remV a (lim (Nat.gcd (vl a) (vl b))) = lim (vl a % vl (lim (Nat.gcd (vl a) (vl b)))) from if_pos ⟨hvv, hnz⟩, show divE a (lim (Nat.gcd (vl a) (vl b))) = 0 from by unfold divE; rw [if_pos hvv, if_neg hnz], vl_lim] at this
    exact this)
  have HB := Lib.hid (fun q0 q1 w' (h0 : RLm w' w'.heap.size (b) q0) (h1 : RLm w' w'.heap.size (lim (Nat.gcd (vl a) (vl b))) q1) => by
    have := rdiv_any (b) (lim (Nat.gcd (vl a) (vl b))) q0 q1 w' h0 h1 (lb) (lim_lim _)
    have hvv : (vN b && vN (lim (Nat.gcd (vl a) (vl b)))) = true := by rw [vb, vN_lim hg128]; rfl
    have hnz : vl (lim (Nat.gcd (vl a) (vl b))) ≠ 0 := by rw [vl_lim]; omega
    rw [show quoV b (lim (Nat.gcd (vl a) (vl b))) = lim (vl b / vl (lim (Nat.gcd (vl a) (vl b)))) from if_pos ⟨hvv, hnz⟩, show remV b (lim (Nat.gcd (vl a) (vl b))) = lim (vl b % vl (lim (Nat.gcd (vl a) (vl b)))) from if_pos ⟨hvv, hnz⟩, show divE b (lim (Nat.gcd (vl a) (vl b))) = 0 from by unfold divE; rw [if_pos hvv, if_neg hnz], vl_lim] at this
    exact this)
  have eQ : Hid (rdN (vl a) (vl b) = lim (vl a / Nat.gcd (vl a) (vl b))) := Lib.hid rfl
  have eP : Hid (rdD (vl a) (vl b) = lim (vl b / Nat.gcd (vl a) (vl b))) := Lib.hid rfl
  obtain ⟨Q, hQ⟩ : ∃ V, lim (vl a / Nat.gcd (vl a) (vl b)) = V := ⟨_, rfl⟩
  obtain ⟨P, hP⟩ : ∃ V, lim (vl b / Nat.gcd (vl a) (vl b)) = V := ⟨_, rfl⟩
  obtain ⟨R, hR⟩ : ∃ V, lim (vl a % Nat.gcd (vl a) (vl b)) = V := ⟨_, rfl⟩
  obtain ⟨T, hT⟩ : ∃ V, lim (vl b % Nat.gcd (vl a) (vl b)) = V := ⟨_, rfl⟩
  rw [hQ, hR] at HA
  rw [hP, hT] at HB
  rw [hQ] at eQ
  rw [hP] at eP
  obtain ⟨G, hG⟩ : ∃ V, lim (Nat.gcd (vl a) (vl b)) = V := ⟨_, rfl⟩
  rw [hG] at HG HA HB
  clear hQ hP hR hT hG hg0 hg128
  clear va vb hz
  obtain ⟨qaa, qac⟩ := qa
  obtain ⟨qba, qbc⟩ := qb
  replace S := Lib.hid (S.out.box 24 [.slice qaa a.length qac])
  replace S := Lib.hid (S.out.box' 24 [.slice qba b.length qbc] (K := w.heap.size + 1) (by simp))
  replace S := Lib.hid (S.out.box' 28 [.slice none 0 0, .slice none 0 0] (K := w.heap.size + 1 + 1) (by simp))
  clear ha hb
  go_enter Tryz.func16, Tryz.ntmps16
  go_wp2_with fail
  refine (HN.out _ _ S.out.r0).mono ?_
  rintro e w1 ⟨rfl, hb⟩
  replace S := Lib.hid (S.out.call hb)
  clear hb
  obtain ⟨⟨z2, f2, y2, y2a, -⟩, ⟨z1, f1, y1, -⟩, ⟨z0, f0, y0, -⟩, -⟩ := S.out.facts
  go_wp2_with fail
  refine (HD.out _ _ S.out.r1).mono ?_
  rintro e w2 ⟨rfl, hb⟩
  replace S := Lib.hid (S.out.call hb)
  clear hb z0 f0 y0 z1 f1 y1 z2 f2 y2 y2a
  obtain ⟨⟨z2, f2, y2, y2a, -⟩, ⟨z1, f1, y1, -⟩, ⟨z0, f0, y0, -⟩, -⟩ := S.out.facts
  go_wp2_with fail
  refine (HG.out _ _ _ S.out.r0 S.out.r1).mono ?_
  rintro e w3 ⟨_, rfl, q1, rfl, hr, hf, hb⟩
  replace S := Lib.hid (natRes S.out hr hf hb)
  clear hr hf hb z0 f0 y0 z1 f1 y1 z2 f2 y2 y2a
  obtain ⟨⟨z2, f2, y2, y2a, -⟩, ⟨z1, f1, y1, -⟩, ⟨z0, f0, y0, -⟩, -⟩ := S.out.facts
  replace S := Lib.hid (S.out.box 24 [.slice q1.a (G).length q1.c])
  go_wp2_with fail
  refine (HA.out _ _ _ S.out.r1 S.out.r0).mono ?_
  rintro e w4 ⟨_, rfl, q2, q3, rfl, hr, hr2, hf, hf2, hb⟩
  have fr2 := Lib.hid (hf.le S.out.size)
  replace S := Lib.hid (natRes2 S.out hr hr2 hf hf2 hb)
  clear hr hr2 hf hf2 hb z0 f0 y0 z1 f1 y1 z2 f2 y2 y2a
  obtain ⟨⟨z3, f3, y3, -⟩, ⟨z2, f2, y2, y2a, -⟩, ⟨z1, f1, y1, -⟩, ⟨z0, f0, y0, -⟩, -⟩ := S.out.facts
  replace S := Lib.hid (S.out.box 24 [.slice q2.a (Q).length q2.c])
  replace S := Lib.hid (S.out.box' 24 [.slice q3.a (R).length q3.c] (K := w4.heap.size + 1) (by simp))
  go_wp2_with fail
  refine (HB.out _ _ _ S.out.r4 S.out.r2).mono ?_
  rintro e w5 ⟨_, rfl, q4, q5, rfl, hr, hr2, hf, hf2, hb⟩
  have fr4 := Lib.hid (hf.le S.out.size)
  replace S := Lib.hid (natRes2 S.out hr hr2 hf hf2 hb)
  clear hr hr2 hf hf2 hb z0 f0 y0 z1 f1 y1 z2 f2 y2 y2a z3 f3 y3
  obtain ⟨⟨z5, f5, y5, -⟩, ⟨z4, f4, y4, -⟩, ⟨z3, f3, y3, -⟩, ⟨z2, f2, y2, y2a, -⟩, ⟨z1, f1, y1, -⟩, ⟨z0, f0, y0, -⟩, -⟩ := S.out.facts
  replace S := Lib.hid (S.out.set 3 rfl 0 (.slice q2.a Q.length q2.c))
  replace S := Lib.hid (S.out.set 3 rfl 1 (.slice q4.a P.length q4.c))
  replace S := Lib.hid (S.out.box' 24 [.slice q4.a (P).length q4.c] (K := w5.heap.size) (by simp))
  replace S := Lib.hid (S.out.box' 24 [.slice q5.a (T).length q5.c] (K := w5.heap.size + 1) (by simp))
  go_wp2
  refine bodyPost_ret (v := .tuple #[ratV Q q2 P q4, .int .i64 0]) (by simp [results, Tryz.results16, go_sem, y2, y2a, z2, Nat.lt_succ_of_lt z2]) rfl ?_
  rw [eQ.out, eP.out]
  exact Ret.mk (fm_rres2 S.out (by simp) (by simp) fr2.out fr4.out)
set_option maxHeartbeats 2000000 in
set_option maxRecDepth 100000 in
theorem rmake_any (w : World) (a : List Int) (qa : LmP) (ha : RLm w w.heap.size a qa) (la : Lim a) (b : List Int) (qb : LmP) (hb : RLm w w.heap.size b qb) (lb : Lim b) :
    Calls Tryz.prog 16 #[natV a qa, natV b qb] w (Ret (RRes2 w (makN a b) (makD a b) (makE a b))) := by
  cases va : vN a with
  | false =>
    have e : makN a b = [] ∧ makD a b = [] ∧ makE a b = 1 := by unfold makN makD makE; rw [va]; exact ⟨rfl, rfl, rfl⟩
    rw [e.1, e.2.1, e.2.2]; exact rmake_a w a qa ha la b qb hb lb va
  | true =>
    cases vb : vN b with
    | false =>
      have e : makN a b = [] ∧ makD a b = [] ∧ makE a b = 1 := by unfold makN makD makE; rw [va, vb]; exact ⟨rfl, rfl, rfl⟩
      rw [e.1, e.2.1, e.2.2]; exact rmake_b w a qa ha la b qb hb lb va vb
    | true =>
      have hv : (vN a && vN b) = true := by rw [va, vb]; rfl
      by_cases hz : vl b = 0
      · have e : makN a b = [] ∧ makD a b = [] ∧ makE a b = 8 := ⟨if_neg (fun h => h.2 hz), if_neg (fun h => h.2 hz), by unfold makE; rw [if_pos hv, if_pos hz]⟩
        rw [e.1, e.2.1, e.2.2]; exact rmake_c w a qa ha la b qb hb lb va vb hz
      · have e : makN a b = rdN (vl a) (vl b) ∧ makD a b = rdD (vl a) (vl b) ∧ makE a b = 0 := ⟨if_pos ⟨hv, hz⟩, if_pos ⟨hv, hz⟩, by unfold makE; rw [if_pos hv, if_neg hz]⟩
        rw [e.1, e.2.1, e.2.2]; exact rmake_d w a qa ha la b qb hb lb va vb hz
set_option maxHeartbeats 2000000 in
set_option maxRecDepth 100000 in
theorem make_a (w : World) (a : List Int) (qa : LmP) (ha : RLm w w.heap.size a qa) (_la : Lim a) (b : List Int) (qb : LmP) (hb : RLm w w.heap.size b qb) (_lb : Lim b) (va : vN a = false) :
    Calls Tryz.prog 15 #[natV a qa, natV b qb] w (Ret (RRes2 w [] [] 1)) := by
  have S := Lib.hid (natArg (natArg (Fm.init w) hb) ha)
  have HN := Lib.hid (fun q0 w' (h0 : RLm w' w'.heap.size (a) q0) => by
    have := valid_any (a) q0 w' h0 
    rw [va] at this
    exact this)
  clear va
  obtain ⟨qaa, qac⟩ := qa
  obtain ⟨qba, qbc⟩ := qb
  replace S := Lib.hid (S.out.box 24 [.slice qaa a.length qac])
  replace S := Lib.hid (S.out.box' 24 [.slice qba b.length qbc] (K := w.heap.size + 1) (by simp))
  replace S := Lib.hid (S.out.box' 28 [.slice none 0 0, .slice none 0 0] (K := w.heap.size + 1 + 1) (by simp))
  clear ha hb
  go_enter Tryz.func15, Tryz.ntmps15
  go_wp2_with fail
  refine (HN.out _ _ S.out.r0).mono ?_
  rintro e w1 ⟨rfl, hb⟩
  replace S := Lib.hid (S.out.call hb)
  clear hb
  obtain ⟨⟨z2, f2, y2, y2a, -⟩, ⟨z1, f1, y1, -⟩, ⟨z0, f0, y0, -⟩, -⟩ := S.out.facts
  replace S := Lib.hid (S.out.set 0 rfl 0 (.slice none 0 0))
  replace S := Lib.hid (S.out.set 0 rfl 1 (.slice none 0 0))
  go_wp2
  refine bodyPost_ret (v := .tuple #[.agg #[.slice none 0 0, .slice none 0 0], .int .i64 1]) (by simp [results, Tryz.results15, go_sem, y2, y2a]) rfl ?_
  exact Ret.mk (fm_rres0 S.out)
set_option maxHeartbeats 2000000 in
set_option maxRecDepth 100000 in
theorem make_b (w : World) (a : List Int) (qa : LmP) (ha : RLm w w.heap.size a qa) (_la : Lim a) (b : List Int) (qb : LmP) (hb : RLm w w.heap.size b qb) (_lb : Lim b) (va : vN a = true) (vb : vN b = false) :
    Calls Tryz.prog 15 #[natV a qa, natV b qb] w (Ret (RRes2 w [] [] 1)) := by
  have S := Lib.hid (natArg (natArg (Fm.init w) hb) ha)
  have HN := Lib.hid (fun q0 w' (h0 : RLm w' w'.heap.size (a) q0) => by
    have := valid_any (a) q0 w' h0 
    rw [va] at this
    exact this)
  have HD := Lib.hid (fun q0 w' (h0 : RLm w' w'.heap.size (b) q0) => by
    have := valid_any (b) q0 w' h0 
    rw [vb] at this
    exact this)
  clear va vb
  obtain ⟨qaa, qac⟩ := qa
  obtain ⟨qba, qbc⟩ := qb
  replace S := Lib.hid (S.out.box 24 [.slice qaa a.length qac])
  replace S := Lib.hid (S.out.box' 24 [.slice qba b.length qbc] (K := w.heap.size + 1) (by simp))
  replace S := Lib.hid (S.out.box' 28 [.slice none 0 0, .slice none 0 0] (K := w.heap.size + 1 + 1) (by simp))
  clear ha hb
  go_enter Tryz.func15, Tryz.ntmps15
  go_wp2_with fail
  refine (HN.out _ _ S.out.r0).mono ?_
  rintro e w1 ⟨rfl, hb⟩
  replace S := Lib.hid (S.out.call hb)
  clear hb
  obtain ⟨⟨z2, f2, y2, y2a, -⟩, ⟨z1, f1, y1, -⟩, ⟨z0, f0, y0, -⟩, -⟩ := S.out.facts
  go_wp2_with fail
  refine (HD.out _ _ S.out.r1).mono ?_
  rintro e w2 ⟨rfl, hb⟩
  replace S := Lib.hid (S.out.call hb)
  clear hb z0 f0 y0 z1 f1 y1 z2 f2 y2 y2a
  obtain ⟨⟨z2, f2, y2, y2a, -⟩, ⟨z1, f1, y1, -⟩, ⟨z0, f0, y0, -⟩, -⟩ := S.out.facts
  replace S := Lib.hid (S.out.set 0 rfl 0 (.slice none 0 0))
  replace S := Lib.hid (S.out.set 0 rfl 1 (.slice none 0 0))
  go_wp2
  refine bodyPost_ret (v := .tuple #[.agg #[.slice none 0 0, .slice none 0 0], .int .i64 1]) (by simp [results, Tryz.results15, go_sem, y2, y2a]) rfl ?_
  exact Ret.mk (fm_rres0 S.out)
set_option maxHeartbeats 2000000 in
set_option maxRecDepth 100000 in
theorem make_c (w : World) (a : List Int) (qa : LmP) (ha : RLm w w.heap.size a qa) (_la : Lim a) (b : List Int) (qb : LmP) (hb : RLm w w.heap.size b qb) (lb : Lim b) (va : vN a = true) (vb : vN b = true) (hz : vl b = 0) :
    Calls Tryz.prog 15 #[natV a qa, natV b qb] w (Ret (RRes2 w [] [] 8)) := by
  have S := Lib.hid (natArg (natArg (Fm.init w) hb) ha)
  have HN := Lib.hid (fun q0 w' (h0 : RLm w' w'.heap.size (a) q0) => by
    have := valid_any (a) q0 w' h0 
    rw [va] at this
    exact this)
  have HD := Lib.hid (fun q0 w' (h0 : RLm w' w'.heap.size (b) q0) => by
    have := valid_any (b) q0 w' h0 
    rw [vb] at this
    exact this)
  have HB0 := Lib.hid (fun q w' (h1 : RLm w' w'.heap.size b q) => bits_any b q w' h1 lb (vN_can vb).2 (by have := (vN_can vb).1; omega))
  have dz : ((nbits (vl b) : Int) == 0) = true := by rw [hz]; rfl
  obtain ⟨B, hB⟩ : ∃ B, nbits (vl b) = B := ⟨_, rfl⟩
  rw [hB] at HB0 dz
  clear hB
  clear va vb hz
  obtain ⟨qaa, qac⟩ := qa
  obtain ⟨qba, qbc⟩ := qb
  replace S := Lib.hid (S.out.box 24 [.slice qaa a.length qac])
  replace S := Lib.hid (S.out.box' 24 [.slice qba b.length qbc] (K := w.heap.size + 1) (by simp))
  replace S := Lib.hid (S.out.box' 28 [.slice none 0 0, .slice none 0 0] (K := w.heap.size + 1 + 1) (by simp))
  clear ha hb
  go_enter Tryz.func15, Tryz.ntmps15
  go_wp2_with fail
  refine (HN.out _ _ S.out.r0).mono ?_
  rintro e w1 ⟨rfl, hb⟩
  replace S := Lib.hid (S.out.call hb)
  clear hb
  obtain ⟨⟨z2, f2, y2, y2a, -⟩, ⟨z1, f1, y1, -⟩, ⟨z0, f0, y0, -⟩, -⟩ := S.out.facts
  go_wp2_with fail
  refine (HD.out _ _ S.out.r1).mono ?_
  rintro e w2 ⟨rfl, hb⟩
  replace S := Lib.hid (S.out.call hb)
  clear hb z0 f0 y0 z1 f1 y1 z2 f2 y2 y2a
  obtain ⟨⟨z2, f2, y2, y2a, -⟩, ⟨z1, f1, y1, -⟩, ⟨z0, f0, y0, -⟩, -⟩ := S.out.facts
  go_wp2_with fail
  refine (HB0.out _ _ S.out.r1).mono ?_
  rintro e w3 ⟨rfl, hb⟩
  replace S := Lib.hid (S.out.call hb)
  clear hb z0 f0 y0 z1 f1 y1 z2 f2 y2 y2a
  obtain ⟨⟨z2, f2, y2, y2a, -⟩, ⟨z1, f1, y1, -⟩, ⟨z0, f0, y0, -⟩, -⟩ := S.out.facts
  replace S := Lib.hid (S.out.set 0 rfl 0 (.slice none 0 0))
  replace S := Lib.hid (S.out.set 0 rfl 1 (.slice none 0 0))
  go_wp2
  refine bodyPost_ret (v := .tuple #[.agg #[.slice none 0 0, .slice none 0 0], .int .i64 8]) (by simp [results, Tryz.results15, go_sem, y2, y2a]) rfl ?_
  exact Ret.mk (fm_rres0 S.out)
set_option maxHeartbeats 2000000 in
set_option maxRecDepth 100000 in
theorem make_d (w : World) (a : List Int) (qa : LmP) (ha : RLm w w.heap.size a qa) (la : Lim a) (b : List Int) (qb : LmP) (hb : RLm w w.heap.size b qb) (lb : Lim b) (va : vN a = true) (vb : vN b = true) (hz : vl b ≠ 0) :
    Calls Tryz.prog 15 #[natV a qa, natV b qb] w (Ret (RRes2 w (rdN (vl a) (vl b)) (rdD (vl a) (vl b)) 0)) := by
  have S := Lib.hid (natArg (natArg (Fm.init w) hb) ha)
  have HN := Lib.hid (fun q0 w' (h0 : RLm w' w'.heap.size (a) q0) => by
    have := valid_any (a) q0 w' h0 
    rw [va] at this
    exact this)
  have HD := Lib.hid (fun q0 w' (h0 : RLm w' w'.heap.size (b) q0) => by
    have := valid_any (b) q0 w' h0 
    rw [vb] at this
    exact this)
  have HB0 := Lib.hid (fun q w' (h1 : RLm w' w'.heap.size b q) => bits_any b q w' h1 lb (vN_can vb).2 (by have := (vN_can vb).1; omega))
  have dz : ((nbits (vl b) : Int) == 0) = false := beq_eq_false_iff_ne.2 (fun e => hz (by have := nbits_le.1 (show nbits (vl b) ≤ 0 by omega); omega))
  obtain ⟨B, hB⟩ : ∃ B, nbits (vl b) = B := ⟨_, rfl⟩
  rw [hB] at HB0 dz
  clear hB
  have HX := Lib.hid (fun q r w' (h1 : RLm w' w'.heap.size a q) (h2 : RLm w' w'.heap.size b r) => reduced_any w' a q h1 la b r h2 lb va vb hz)
  obtain ⟨Q, hQ⟩ : ∃ V, rdN (vl a) (vl b) = V := ⟨_, rfl⟩
  obtain ⟨P, hP⟩ : ∃ V, rdD (vl a) (vl b) = V := ⟨_, rfl⟩
  rw [hQ, hP] at HX
  rw [hQ, hP]
  clear hQ hP
  clear va vb hz
  obtain ⟨qaa, qac⟩ := qa
  obtain ⟨qba, qbc⟩ := qb
  replace S := Lib.hid (S.out.box 24 [.slice qaa a.length qac])
  replace S := Lib.hid (S.out.box' 24 [.slice qba b.length qbc] (K := w.heap.size + 1) (by simp))
  replace S := Lib.hid (S.out.box' 28 [.slice none 0 0, .slice none 0 0] (K := w.heap.size + 1 + 1) (by simp))
  clear ha hb
  go_enter Tryz.func15, Tryz.ntmps15
  go_wp2_with fail
  refine (HN.out _ _ S.out.r0).mono ?_
  rintro e w1 ⟨rfl, hb⟩
  replace S := Lib.hid (S.out.call hb)
  clear hb
  obtain ⟨⟨z2, f2, y2, y2a, -⟩, ⟨z1, f1, y1, -⟩, ⟨z0, f0, y0, -⟩, -⟩ := S.out.facts
  go_wp2_with fail
  refine (HD.out _ _ S.out.r1).mono ?_
  rintro e w2 ⟨rfl, hb⟩
  replace S := Lib.hid (S.out.call hb)
  clear hb z0 f0 y0 z1 f1 y1 z2 f2 y2 y2a
  obtain ⟨⟨z2, f2, y2, y2a, -⟩, ⟨z1, f1, y1, -⟩, ⟨z0, f0, y0, -⟩, -⟩ := S.out.facts
  go_wp2_with fail
  refine (HB0.out _ _ S.out.r1).mono ?_
  rintro e w3 ⟨rfl, hb⟩
  replace S := Lib.hid (S.out.call hb)
  clear hb z0 f0 y0 z1 f1 y1 z2 f2 y2 y2a
  obtain ⟨⟨z2, f2, y2, y2a, -⟩, ⟨z1, f1, y1, -⟩, ⟨z0, f0, y0, -⟩, -⟩ := S.out.facts
  go_wp2_with fail
  refine (HX.out _ _ _ S.out.r0 S.out.r1).mono ?_
  rintro e w4 ⟨_, rfl, q2, q4, rfl, hr, hr2, hf, hf2, hb⟩
  have fr2 := Lib.hid (hf.le S.out.size)
  have fr4 := Lib.hid (hf2.le S.out.size)
  replace S := Lib.hid (natRes2 S.out hr hr2 hf hf2 hb)
  clear hr hr2 hf hf2 hb z0 f0 y0 z1 f1 y1 z2 f2 y2 y2a
  obtain ⟨⟨z2, f2, y2, y2a, -⟩, ⟨z1, f1, y1, -⟩, ⟨z0, f0, y0, -⟩, -⟩ := S.out.facts
  replace S := Lib.hid (S.out.set 0 rfl 0 (.slice q2.a Q.length q2.c))
  replace S := Lib.hid (S.out.set 0 rfl 1 (.slice q4.a P.length q4.c))
  go_wp2
  refine bodyPost_ret (v := .tuple #[ratV Q q2 P q4, .int .i64 0]) (by simp [results, Tryz.results15, go_sem, y2, y2a]) rfl ?_
  exact Ret.mk (fm_rres2 S.out (by simp) (by simp) fr2.out fr4.out)
set_option maxHeartbeats 2000000 in
set_option maxRecDepth 100000 in
theorem make_any (w : World) (a : List Int) (qa : LmP) (ha : RLm w w.heap.size a qa) (la : Lim a) (b : List Int) (qb : LmP) (hb : RLm w w.heap.size b qb) (lb : Lim b) :
    Calls Tryz.prog 15 #[natV a qa, natV b qb] w (Ret (RRes2 w (makN a b) (makD a b) (makE a b))) := by
  cases va : vN a with
  | false =>
    have e : makN a b = [] ∧ makD a b = [] ∧ makE a b = 1 := by unfold makN makD makE; rw [va]; exact ⟨rfl, rfl, rfl⟩
    rw [e.1, e.2.1, e.2.2]; exact make_a w a qa ha la b qb hb lb va
  | true =>
    cases vb : vN b with
    | false =>
      have e : makN a b = [] ∧ makD a b = [] ∧ makE a b = 1 := by unfold makN makD makE; rw [va, vb]; exact ⟨rfl, rfl, rfl⟩
      rw [e.1, e.2.1, e.2.2]; exact make_b w a qa ha la b qb hb lb va vb
    | true =>
      have hv : (vN a && vN b) = true := by rw [va, vb]; rfl
      by_cases hz : vl b = 0
      · have e : makN a b = [] ∧ makD a b = [] ∧ makE a b = 8 := ⟨if_neg (fun h => h.2 hz), if_neg (fun h => h.2 hz), by unfold makE; rw [if_pos hv, if_pos hz]⟩
        rw [e.1, e.2.1, e.2.2]; exact make_c w a qa ha la b qb hb lb va vb hz
      · have e : makN a b = rdN (vl a) (vl b) ∧ makD a b = rdD (vl a) (vl b) ∧ makE a b = 0 := ⟨if_pos ⟨hv, hz⟩, if_pos ⟨hv, hz⟩, by unfold makE; rw [if_pos hv, if_neg hz]⟩
        rw [e.1, e.2.1, e.2.2]; exact make_d w a qa ha la b qb hb lb va vb hz
end Go.Proofs.YtoiokopmpcogbaaGreatDoor
