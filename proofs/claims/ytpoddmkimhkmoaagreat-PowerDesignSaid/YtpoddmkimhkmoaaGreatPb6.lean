/-
  CONTRACTS of the reference's small functions: failures, one; the fractions' operations at numbers.
  Conditions: those that each theorem names.
-/
import Derived.Test.YtpoddmkimhkmoaaGreatPb3
import Derived.Test.YtpoddmkimhkmoaaGreatPwS
import Derived.Test.YtpoddmkimhkmoaaGreatPh1
import Derived.Test.YtpoddmkimhkmoaaGreatPb7
import Derived.Deep.DeepCutAuto
namespace Go.Proofs.YtpoddmkimhkmoaaGreat
open Go.RowKit Go.Sv Go.Pw
theorem failsTo_take (l : List Bool) : ∀ k, k ≤ l.length → failsTo l k = (fails (l.take k) : Nat)
  | 0, _ => by simp [failsTo, fails]
  | k + 1, h => by
    have e : failsTo l (k + 1) = failsTo l k + bi (gb l k) := rfl
    have hk : k < l.length := by omega
    rw [e, failsTo_take l k (by omega), List.take_add_one, List.getElem?_eq_getElem hk]
    unfold fails
    rw [List.countP_append]
    have hg : gb l k = l[k] := by simp [gb, hk]
    rw [hg]
    cases l[k] <;> simp [bi]
theorem failsTo_all (l : List Bool) : failsTo l l.length = (fails l : Nat) := by rw [failsTo_take l l.length (Nat.le_refl _), List.take_length]
set_option maxRecDepth 100000 in
theorem failures_any (A : Option Addr) (l : List Bool) (c : Nat) (w : World) (hl : Arr w w.heap.size A l.length (bv l)) (hn : l.length ≤ 1000000) :
    Calls Tryz.prog 83 #[.slice A l.length c] w fun e w' => e = .returned (.int .i64 (fails l : Nat)) ∧ Below w.heap.size w w' := by
  have hfin := Lib.hid (failsTo_all l)
  replace hl := Lib.hid hl
  go_enter Tryz.func83, Tryz.ntmps83
  go_wp2
  go_loopw [3, 4] (fun f i wr => ∃ k : Nat, k ≤ l.length ∧ i = .int .i64 (k : Int) ∧ f = .int .i64 (failsTo l k) ∧ Drawn w wr) (fun _ i _ => l.length - (intOf i).toNat)
  case atStart => exact ⟨0, Nat.zero_le _, rfl, rfl, Drawn.refl _⟩
  case round =>
    obtain ⟨k, hk, rfl, rfl, m, rfl⟩ := hrel
    have fb := failsTo_bd l k
    by_cases hlt : k < l.length
    · have hd : decide ((k : Int) < (l.length : Int)) = true := decide_eq_true (by omega)
      obtain ⟨ba, oa, hAe, hba, hca⟩ := hl.out (by omega)
      have da := hca k hlt
      unfold bv at da
      have FS : failsTo l (k + 1) = failsTo l k + bi (gb l k) := rfl
      have hi : (k : Int) < (l.length : Int) := by omega
      clear hca
      subst hAe
      cases hb : gb l k with
      | true =>
        rw [hb] at da FS
        rw [bi_t] at FS
        replace FS := Lib.hid FS
        clear hb
        go_wp2
        go_roundw
        case rel => exact ⟨k + 1, by omega, by go_num, by rw [FS.out], Drawn.of _⟩
        case measure => simp [intOf]; omega
      | false =>
        rw [hb] at da FS
        rw [bi_f] at FS
        replace FS := Lib.hid FS
        clear hb
        go_wp2
        go_roundw
        case rel => exact ⟨k + 1, by omega, by go_num, by rw [FS.out, Int.add_zero], Drawn.of _⟩
        case measure => simp [intOf]; omega
    · have hd : decide ((k : Int) < (l.length : Int)) = false := by rw [decide_eq_false_iff_not]; omega
      have hx : Hid (failsTo l k = (fails l : Nat)) := Lib.hid (by rw [← hfin.out]; congr 1; omega)
      clear fb
      go_wp2
      go_ret
      exact ⟨by rw [← hx.out]; rfl, (Drawn.of _).below⟩
set_option maxHeartbeats 2000000 in
set_option maxRecDepth 100000 in
theorem one_any (w : World) : Calls Tryz.prog 56 #[] w (Ret (RRes w (lim 1) (lim 1))) := by
  have S := Lib.hid (Fm.init w)
  have HO := Lib.hid (fun w' => by
    have := rof_any 1 w' (by omega) (by omega)
    rw [show (1 : Int).toNat = 1 from rfl] at this
    exact this)
  obtain ⟨Ov, hO⟩ : ∃ v, lim 1 = v := ⟨_, rfl⟩
  rw [hO] at HO
  rw [hO]
  clear hO
  replace S := Lib.hid (S.out.box 26 [.slice none 0 0, .slice none 0 0])
  go_enter Tryz.func56, Tryz.ntmps56
  go_wp2_with fail
  refine (HO.out _).mono ?_
  rintro e w1 ⟨_, rfl, q1, rfl, hr, hf, hb⟩
  have fr1 := Lib.hid (hf.le S.out.size)
  replace S := Lib.hid (natRes S.out hr hf hb)
  clear hr hf hb
  go_wp2_with fail
  refine (HO.out _).mono ?_
  rintro e w2 ⟨_, rfl, q2, rfl, hr, hf, hb⟩
  have fr2 := Lib.hid (hf.le S.out.size)
  replace S := Lib.hid (natRes S.out hr hf hb)
  clear hr hf hb
  obtain ⟨⟨z0, f0, y0, y0a, -⟩, -⟩ := S.out.facts
  replace S := Lib.hid ((S.out.set 0 rfl 0 (.slice q1.a Ov.length q1.c)).set 0 rfl 1 (.slice q2.a Ov.length q2.c))
  go_wp2
  refine bodyPost_ret (v := ratV Ov q1 Ov q2) (by simp [results, Tryz.results56, go_sem, y0, y0a]) rfl ?_
  exact Ret.mk (fm_rres S.out (by simp) (by simp) fr1.out fr2.out)
section
variable (w : World) {n d m e : Nat} (q r q' r' : LmP) (h1 : RLm w w.heap.size (rdN n d) q) (h2 : RLm w w.heap.size (rdD n d) r) (h3 : RLm w w.heap.size (rdN m e) q') (h4 : RLm w w.heap.size (rdD m e) r')
include h1 h2 h3 h4
theorem rmulF (hd : 0 < d) (he : 0 < e) (hn : sm n) (hm : sm m) (sd : sm d) (se : sm e) (s1 : sm (n * m)) (s3 : sm (d * e)) :
    Calls Tryz.prog 84 #[ratV (rdN n d) q (rdD n d) r, ratV (rdN m e) q' (rdD m e) r'] w (Ret (RRes2 w (rdN (n * m) (d * e)) (rdD (n * m) (d * e)) 0)) := by
  have := xrmul_any w (rdN n d) q h1 (lim_lim _) (rdD n d) r h2 (lim_lim _) (rdN m e) q' h3 (lim_lim _) (rdD m e) r' h4 (lim_lim _)
  obtain ⟨x, y, z⟩ := mul_ref (rdN n d) (rdD n d) (rdN m e) (rdD m e)
  obtain ⟨x1, y1, z1⟩ := fr_mul hd he hn hm sd se s1 s3
  rw [x, y, z, x1, y1, z1] at this
  exact this
end
theorem raddF (w : World) {K S T : Nat} (q r q' r' : LmP) (h1 : RLm w w.heap.size (rdN S K) q) (h2 : RLm w w.heap.size (rdD S K) r) (h3 : RLm w w.heap.size (rdN T K) q') (h4 : RLm w w.heap.size (rdD T K) r')
    (hK : 0 < K) (hS : sm S) (hT : sm T) (sK : sm K) (s4 : sm (S * K + T * K)) (s3 : sm (K * K)) :
    Calls Tryz.prog 86 #[ratV (rdN S K) q (rdD S K) r, ratV (rdN T K) q' (rdD T K) r'] w (Ret (RRes2 w (rdN (S + T) K) (rdD (S + T) K) 0)) := by
  have := xradd_any w (rdN S K) q h1 (lim_lim _) (rdD S K) r h2 (lim_lim _) (rdN T K) q' h3 (lim_lim _) (rdD T K) r' h4 (lim_lim _)
  obtain ⟨x, y, z⟩ := add_ref (rdN S K) (rdD S K) (rdN T K) (rdD T K)
  obtain ⟨x1, y1, z1⟩ := fr_same hK hS hT sK s4 s3
  rw [x, y, z, x1, y1, z1] at this
  exact this
/-- 1 - a / d -/
theorem rsub1 (w : World) {a d : Nat} (q r q' r' : LmP) (h1 : RLm w w.heap.size (lim 1) q) (h2 : RLm w w.heap.size (lim 1) r) (h3 : RLm w w.heap.size (lim a) q') (h4 : RLm w w.heap.size (lim d) r')
    (hv : vR (lim a) (lim d) = true) (had : a ≤ d) (hd2 : d ≤ 1000) :
    Calls Tryz.prog 102 #[ratV (lim 1) q (lim 1) r, ratV (lim a) q' (lim d) r'] w (Ret (RRes2 w (rdN (d - a) d) (rdD (d - a) d) 0)) := by
  have := xrsub_any w (lim 1) q h1 (lim_lim _) (lim 1) r h2 (lim_lim _) (lim a) q' h3 (lim_lim _) (lim d) r' h4 (lim_lim _)
  obtain ⟨x, y, z⟩ := sub_ref (lim 1) (lim 1) (lim a) (lim d)
  have v1 : vR (lim 1) (lim 1) = true := vR_lim (sm_s (by decide)) (sm_s (by decide)) (by decide) (by decide)
  obtain ⟨x1, y1, z1⟩ := sub_val v1 hv (sm_s (by omega)) (sm_s (by omega)) (sm_s (by omega)) (by omega)
  rw [x, y, z, x1, y1, z1] at this
  simp only [Nat.one_mul, Nat.mul_one] at this
  exact this
theorem rd_self {a d : Nat} (hd : 0 < d) (g : Nat.gcd a d = 1) : rdN a d = lim a ∧ rdD a d = lim d := rd_eq hd hd g rfl
theorem rd_zero (K : Nat) (hK : 0 < K) : rdN 0 K = lim 0 ∧ rdD 0 K = lim 1 := rd_eq hK (by decide) (by decide) (by omega)
end Go.Proofs.YtpoddmkimhkmoaaGreat
namespace Go.Proofs.YtpoddmkimhkmoaaGreat
open Go.RowKit Go.Sv Go.Pw
set_option maxHeartbeats 4000000 in
set_option maxRecDepth 100000 in
theorem list_any (a d f g : Nat) (qn qd : LmP) (w : World) (hn : RLm w w.heap.size (lim a) qn) (hd : RLm w w.heap.size (lim d) qd) (hp : PrB a d) (hf : f ≤ 40) (hg : g ≤ 40) :
    Calls Tryz.prog 85 #[ratV (lim a) qn (lim d) qd, .int .i64 (f : Int), .int .i64 (g : Int)] w (Ret (RRes w (rdN (a ^ f * (d - a) ^ g) (d ^ f * d ^ g)) (rdD (a ^ f * (d - a) ^ g) (d ^ f * d ^ g)))) := by
  have d2 := hp.d2
  have had := hp.le
  have d0 : 0 < d := hp.d1
  have sP : Hid (∀ x i : Nat, x ≤ 1000 → i ≤ 40 → ∀ y j, y ≤ 1000 → j ≤ 40 → sm (x ^ i * y ^ j)) := Lib.hid fun x i hx hi y j hy hj => sm_big (Nat.lt_of_le_of_lt (Nat.mul_le_mul (Nat.le_trans (Nat.pow_le_pow_left hx i) (Nat.pow_le_pow_right (by decide) hi)) (Nat.le_trans (Nat.pow_le_pow_left hy j) (Nat.pow_le_pow_right (by decide) hj))) (by decide +kernel))
  have pp : Hid (∀ i, 0 < d ^ i) := Lib.hid fun i => Nat.pow_pos d0
  obtain ⟨qna, qnc⟩ := qn
  obtain ⟨qda, qdc⟩ := qd
  obtain ⟨eN, eD⟩ := rd_self d0 hp.g
  have HO := Lib.hid (fun w' => one_any w')
  have HS := Lib.hid (fun q r q' r' w' h1 h2 h3 h4 => rsub1 w' (a := a) (d := d) q r q' r' h1 h2 h3 h4 hp.v had d2)
  have H1 := Lib.hid (fun (i : Nat) (hi : i < f) q r q' r' w' h1 h2 h3 h4 => by
    have := rmulF w' (n := a ^ i) (d := d ^ i) (m := a) (e := d) q r q' r' h1 h2 h3 h4 (pp.out i) d0 (by have := sP.out a i (by omega) (by omega) 1 0 (by omega) (by omega); simpa using this) (sm_s (by omega)) (by have := sP.out d i d2 (by omega) 1 0 (by omega) (by omega); simpa using this) (sm_s (by omega)) (by have := sP.out a i (by omega) (by omega) a 1 (by omega) (by omega); simpa using this) (by have := sP.out d i d2 (by omega) d 1 d2 (by omega); simpa using this)
    rw [← Nat.pow_succ, ← Nat.pow_succ] at this
    exact this)
  have H2 := Lib.hid (fun (j : Nat) (hj : j < g) q r q' r' w' h1 h2 h3 h4 => by
    have := rmulF w' (n := a ^ f * (d - a) ^ j) (d := d ^ f * d ^ j) (m := d - a) (e := d) q r q' r' h1 h2 h3 h4 (Nat.mul_pos (pp.out f) (pp.out j)) d0 (sP.out a f (by omega) hf (d - a) j (by omega) (by omega)) (sm_s (by omega)) (sP.out d f d2 hf d j d2 (by omega)) (sm_s (by omega)) (by rw [Nat.mul_assoc, ← Nat.pow_succ]; exact sP.out a f (by omega) hf (d - a) (j + 1) (by omega) (by omega)) (by rw [Nat.mul_assoc, ← Nat.pow_succ]; exact sP.out d f d2 hf d (j + 1) d2 (by omega))
    rw [Nat.mul_assoc, ← Nat.pow_succ, Nat.mul_assoc, ← Nat.pow_succ] at this
    exact this)
  rw [eN, eD] at H1
  have S := Lib.hid (natArg (natArg (Fm.init w) hd) hn)
  have e1 : Hid (lim 1 = rdN (a ^ 0) (d ^ 0) ∧ lim 1 = rdD (a ^ 0) (d ^ 0)) := Lib.hid (by
    obtain ⟨x, y⟩ := rd_eq (N := 1) (D := 1) (n := 1) (d := 1) (by decide) (by decide) (by decide) rfl
    exact ⟨x.symm, y.symm⟩)
  have e2 : Hid (a ^ f = a ^ f * (d - a) ^ 0 ∧ d ^ f = d ^ f * d ^ 0) := Lib.hid ⟨by simp, by simp⟩
  clear hn hd hp d2 had d0 sP pp eN eD
  obtain ⟨Av, hA⟩ : ∃ v, lim a = v := ⟨_, rfl⟩
  obtain ⟨Dv, hD⟩ : ∃ v, lim d = v := ⟨_, rfl⟩
  obtain ⟨Ov, hO⟩ : ∃ v, lim 1 = v := ⟨_, rfl⟩
  obtain ⟨Bn, hBn⟩ : ∃ v, rdN (d - a) d = v := ⟨_, rfl⟩
  obtain ⟨Bd, hBd⟩ : ∃ v, rdD (d - a) d = v := ⟨_, rfl⟩
  rw [hA, hD] at S H1
  rw [hA, hD, hO, hBn, hBd] at HS
  rw [hBn, hBd] at H2
  rw [hO] at HO e1
  rw [hA, hD]
  clear hA hD hO hBn hBd
  replace S := Lib.hid (S.out.box 26 [.slice qna Av.length qnc, .slice qda Dv.length qdc])
  replace S := Lib.hid (S.out.box' 26 [.slice none 0 0, .slice none 0 0] (K := w.heap.size + 1) (by simp))
  go_enter Tryz.func85, Tryz.ntmps85
  go_upto_region 1 with fail
  go_cut [7] (fun s7 wx => ∃ (B : Nat) (qb rb : LmP), s7 = .pointer (some ⟨B, 0, none⟩) ∧ Hid (Fm w wx [⟨B, 26, [.slice qb.a (Bn).length qb.c, .slice rb.a (Bd).length rb.c]⟩, ⟨w.heap.size + 1, 26, [.slice none 0 0, .slice none 0 0]⟩, ⟨w.heap.size, 26, [.slice qna Av.length qnc, .slice qda Dv.length qdc]⟩] [rowRd Bd rb, rowRd Bn qb, rowRd Av ⟨qna, qnc⟩, rowRd Dv ⟨qda, qdc⟩]))
  case first =>
    generalize (w.alloc (.cells #[.slice qna Av.length qnc, .slice qda Dv.length qdc] 26)).alloc (.cells #[.slice none 0 0, .slice none 0 0] 26) = W3 at S ⊢
    obtain ⟨⟨z1, f1, y1, y1a, -⟩, ⟨z0, f0, y0, y0a, -⟩, -⟩ := S.out.facts
    have nbl0 := Nat.ne_of_lt z0
    have nbg0 := Nat.ne_of_gt z0
    have zz0 := z0
    clear z1 f1 y1 y1a z0 f0 y0 y0a
    have S3 := S
    have hkA : (W3.alloc (.cells #[.slice none 0 0, .slice none 0 0] 26)).drew.cell? ⟨w.heap.size, 0, none⟩ = some (.slice qna Av.length qnc) ∧ (W3.alloc (.cells #[.slice none 0 0, .slice none 0 0] 26)).drew.cell? ⟨w.heap.size, 1, none⟩ = some (.slice qda Dv.length qdc) := by
      obtain ⟨⟨z2, f2, y2, y2a, -⟩, ⟨z1, f1, y1, y1a, -⟩, ⟨z0, f0, y0, y0a, -⟩, -⟩ := (S3.out.box 26 [.slice none 0 0, .slice none 0 0]).drew.facts
      exact ⟨y0, y0a⟩
    replace S := Lib.hid S.out.drew
    obtain ⟨⟨z1, f1, y1, y1a, -⟩, ⟨z0, f0, y0, y0a, -⟩, -⟩ := S.out.facts
    go_region_held3 (fun w' => w'.cell? ⟨w.heap.size, 0, none⟩ = some (.slice qna Av.length qnc) ∧ w'.cell? ⟨w.heap.size, 1, none⟩ = some (.slice qda Dv.length qdc)) (first | with_reducible assumption | go_keep)
      (first
        | ((with_reducible refine (HO.out _).mono ?_); rintro e wx ⟨_, rfl, qx, qy, rfl, hr, hr2, hf, hf2, hb⟩; replace S := Lib.hid (natRes2 ((S3.out.box 26 [.slice none 0 0, .slice none 0 0]).drew) hr hr2 hf hf2 hb); clear hr hr2 hf hf2 hb; clear z1 f1 y1 y1a z0 f0 y0 y0a; obtain ⟨⟨z2, f2, y2, y2a, -⟩, ⟨z1, f1, y1, y1a, -⟩, ⟨z0, f0, y0, y0a, -⟩, -⟩ := S.out.facts)
        | ((with_reducible refine (HO.out _).mono ?_); rintro e wx ⟨_, rfl, qx, qy, rfl, hr, hr2, hf, hf2, hb⟩; replace S := Lib.hid (natRes2 S.out hr hr2 hf hf2 hb); clear hr hr2 hf hf2 hb; clear z2 f2 y2 y2a z1 f1 y1 y1a z0 f0 y0 y0a; obtain ⟨⟨z2, f2, y2, y2a, -⟩, ⟨z1, f1, y1, y1a, -⟩, ⟨z0, f0, y0, y0a, -⟩, -⟩ := S.out.facts)
        | ((with_reducible refine (HS.out _ _ ⟨qna, qnc⟩ ⟨qda, qdc⟩ _ (natOld S.out (by simp)) (natOld S.out (by simp)) (natOld S.out (by simp)) (natOld S.out (by simp))).mono ?_); rintro e wx ⟨_, rfl, qx, qy, rfl, hr, hr2, hf, hf2, hb⟩; replace S := Lib.hid (natRes2 S.out hr hr2 hf hf2 hb); clear hr hr2 hf hf2 hb; clear z2 f2 y2 y2a z1 f1 y1 y1a z0 f0 y0 y0a; obtain ⟨⟨z2, f2, y2, y2a, -⟩, ⟨z1, f1, y1, y1a, -⟩, ⟨z0, f0, y0, y0a, -⟩, -⟩ := S.out.facts)
        | ((with_reducible refine (HO.out _).mono ?_); rintro e wx ⟨_, rfl, qx, qy, rfl, hr, hr2, hf, hf2, hb⟩; replace S := Lib.hid (natRes2 S.out hr hr2 hf hf2 hb); clear hr hr2 hf hf2 hb; clear z1 f1 y1 y1a z0 f0 y0 y0a; obtain ⟨⟨z1, f1, y1, y1a, -⟩, ⟨z0, f0, y0, y0a, -⟩, -⟩ := S.out.facts)
        | ((with_reducible refine (HS.out _ _ ⟨qna, qnc⟩ ⟨qda, qdc⟩ _ (natOld S.out (by simp)) (natOld S.out (by simp)) (natOld S.out (by simp)) (natOld S.out (by simp))).mono ?_); rintro e wx ⟨_, rfl, qx, qy, rfl, hr, hr2, hf, hf2, hb⟩; replace S := Lib.hid (natRes2 S.out hr hr2 hf hf2 hb); clear hr hr2 hf hf2 hb; clear z1 f1 y1 y1a z0 f0 y0 y0a; obtain ⟨⟨z1, f1, y1, y1a, -⟩, ⟨z0, f0, y0, y0a, -⟩, -⟩ := S.out.facts)
        | ((with_reducible refine (HO.out _).mono ?_); rintro e wx ⟨_, rfl, qx, qy, rfl, hr, hr2, hf, hf2, hb⟩; replace S := Lib.hid (natRes2 (S.out.box 26 [.slice none 0 0, .slice none 0 0]) hr hr2 hf hf2 hb); clear hr hr2 hf hf2 hb; have nbl0 := Nat.ne_of_lt z0; have nbg0 := Nat.ne_of_gt z0; clear z1 f1 y1 y1a z0 f0 y0 y0a; obtain ⟨⟨z2, f2, y2, y2a, -⟩, ⟨z1, f1, y1, y1a, -⟩, ⟨z0, f0, y0, y0a, -⟩, -⟩ := S.out.facts)
        | ((with_reducible refine (HS.out _ _ ⟨qna, qnc⟩ ⟨qda, qdc⟩ _ (natOld (S.out.box 26 [.slice none 0 0, .slice none 0 0]) (by simp)) (natOld (S.out.box 26 [.slice none 0 0, .slice none 0 0]) (by simp)) (natOld (S.out.box 26 [.slice none 0 0, .slice none 0 0]) (by simp)) (natOld (S.out.box 26 [.slice none 0 0, .slice none 0 0]) (by simp))).mono ?_); rintro e wx ⟨_, rfl, qx, qy, rfl, hr, hr2, hf, hf2, hb⟩; replace S := Lib.hid (natRes2 (S.out.box 26 [.slice none 0 0, .slice none 0 0]) hr hr2 hf hf2 hb); clear hr hr2 hf hf2 hb; have nbl0 := Nat.ne_of_lt z0; have nbg0 := Nat.ne_of_gt z0; clear z1 f1 y1 y1a z0 f0 y0 y0a; obtain ⟨⟨z2, f2, y2, y2a, -⟩, ⟨z1, f1, y1, y1a, -⟩, ⟨z0, f0, y0, y0a, -⟩, -⟩ := S.out.facts))
    all_goals (go_wp2_with fail; go_meet)
    all_goals
      first
        | exact ⟨_, qx, qy, rfl, Lib.hid (fm_sel (S.out.box 26 [.slice qx.a Bn.length qx.c, .slice qy.a Bd.length qy.c]) _ _ (List.Sublist.refl _) (by simp))⟩
        | exact ⟨_, qx, qy, rfl, Lib.hid (fm_sel ((S.out.set 0 rfl 0 (.slice qx.a Bn.length qx.c)).set 0 rfl 1 (.slice qy.a Bd.length qy.c)) _ _ (List.Sublist.refl _) (by simp))⟩
  case rest =>
    clear S
    obtain ⟨B, qb, rb, rfl, S⟩ := hcut
    go_wp2_with fail
    refine (HO.out _).mono ?_
    rintro e w2 ⟨_, rfl, q1, r1, rfl, hr, hr2, hf1, hf2, hb⟩
    have fr1 := Lib.hid (hf1.le S.out.size)
    have fr2 := Lib.hid (hf2.le S.out.size)
    replace S := Lib.hid (natRes2 S.out hr hr2 hf1 hf2 hb)
    clear hr hr2 hf1 hf2 hb
    replace S := Lib.hid (S.out.box 26 [.slice q1.a Ov.length q1.c, .slice r1.a Ov.length r1.c])
    have S0 : Hid (Fm w (w2.alloc (.cells #[.slice q1.a Ov.length q1.c, .slice r1.a Ov.length r1.c] 26)) [⟨w2.heap.size, 26, [.slice q1.a (rdN (a ^ 0) (d ^ 0)).length q1.c, .slice r1.a (rdD (a ^ 0) (d ^ 0)).length r1.c]⟩, ⟨B, 26, [.slice qb.a (Bn).length qb.c, .slice rb.a (Bd).length rb.c]⟩, ⟨w.heap.size + 1, 26, [.slice none 0 0, .slice none 0 0]⟩, ⟨w.heap.size, 26, [.slice qna Av.length qnc, .slice qda Dv.length qdc]⟩] [rowRd (rdD (a ^ 0) (d ^ 0)) r1, rowRd (rdN (a ^ 0) (d ^ 0)) q1, rowRd Bd rb, rowRd Bn qb, rowRd Av ⟨qna, qnc⟩, rowRd Dv ⟨qda, qdc⟩]) := Lib.hid (by
      rw [← e1.out.1, ← e1.out.2]
      exact S.out)
    obtain ⟨⟨z3, f3, y3, y3a, -⟩, ⟨z2, f2, y2, y2a, -⟩, ⟨z1, f1, y1, y1a, -⟩, ⟨z0, f0, y0, y0a, -⟩, -⟩ := S.out.facts
    clear S
    go_wp2_with fail
    clear z3 f3 y3 y3a z2 f2 y2 y2a z1 f1 y1 y1a z0 f0 y0 y0a
    go_loopw [10] (fun i wr => ∃ (k : Nat) (q1 r1 : LmP), k ≤ f ∧ i = .int .i64 (k : Int) ∧ Hid (Fm w wr [⟨w2.heap.size, 26, [.slice q1.a (rdN (a ^ k) (d ^ k)).length q1.c, .slice r1.a (rdD (a ^ k) (d ^ k)).length r1.c]⟩, ⟨B, 26, [.slice qb.a (Bn).length qb.c, .slice rb.a (Bd).length rb.c]⟩, ⟨w.heap.size + 1, 26, [.slice none 0 0, .slice none 0 0]⟩, ⟨w.heap.size, 26, [.slice qna Av.length qnc, .slice qda Dv.length qdc]⟩] [rowRd (rdD (a ^ k) (d ^ k)) r1, rowRd (rdN (a ^ k) (d ^ k)) q1, rowRd Bd rb, rowRd Bn qb, rowRd Av ⟨qna, qnc⟩, rowRd Dv ⟨qda, qdc⟩]) ∧ Hid (Fr w.heap.size q1) ∧ Hid (Fr w.heap.size r1)) (fun i _ => f - (intOf i).toNat)
    case atStart => exact ⟨0, q1, r1, Nat.zero_le _, rfl, S0, fr1, fr2⟩
    case round =>
      clear S0 fr1 fr2
      obtain ⟨k, q1, r1, hk, rfl, S, fr1, fr2⟩ := hrel
      obtain ⟨⟨z3, f3, y3, y3a, -⟩, ⟨z2, f2, y2, y2a, -⟩, ⟨z1, f1, y1, y1a, -⟩, ⟨z0, f0, y0, y0a, -⟩, -⟩ := S.out.facts
      by_cases hlt : k < f
      · have hd : decide ((k : Int) < (f : Int)) = true := decide_eq_true (by omega)
        have hM := Lib.hid (H1.out k hlt)
        obtain ⟨Xn, hX⟩ : ∃ v, rdN (a ^ k) (d ^ k) = v := ⟨_, rfl⟩
        obtain ⟨Xd, hY⟩ : ∃ v, rdD (a ^ k) (d ^ k) = v := ⟨_, rfl⟩
        rw [hX, hY] at hM S
        rw [hX] at y3
        rw [hY] at y3a
        clear hX hY
        obtain ⟨Yn, hZ⟩ : ∃ v, rdN (a ^ (k + 1)) (d ^ (k + 1)) = v := ⟨_, rfl⟩
        obtain ⟨Yd, hW⟩ : ∃ v, rdD (a ^ (k + 1)) (d ^ (k + 1)) = v := ⟨_, rfl⟩
        rw [hZ, hW] at hM
        replace hZ := Lib.hid hZ
        replace hW := Lib.hid hW
        go_wp2_with fail
        refine (hM.out q1 r1 ⟨qna, qnc⟩ ⟨qda, qdc⟩ _ S.out.r1 S.out.r0 S.out.r4 S.out.r5).mono ?_
        rintro e w5 ⟨_, rfl, q5, r5, rfl, hr, hr2, hf5, hf6, hb⟩
        have g1 := Lib.hid (hf5.le S.out.size)
        have g2 := Lib.hid (hf6.le S.out.size)
        replace S := Lib.hid (natRes2 S.out hr hr2 hf5 hf6 hb)
        clear hr hr2 hf5 hf6 hb fr1 fr2 z3 f3 y3 y3a z2 f2 y2 y2a z1 f1 y1 y1a z0 f0 y0 y0a
        obtain ⟨⟨z3, f3, y3, y3a, -⟩, ⟨z2, f2, y2, y2a, -⟩, ⟨z1, f1, y1, y1a, -⟩, ⟨z0, f0, y0, y0a, -⟩, -⟩ := S.out.facts
        have hF := Lib.hid (fm_sel ((S.out.set 0 rfl 0 (.slice q5.a Yn.length q5.c)).set 0 rfl 1 (.slice r5.a Yd.length r5.c)) _ [rowRd Yd r5, rowRd Yn q5, rowRd Bd rb, rowRd Bn qb, rowRd Av ⟨qna, qnc⟩, rowRd Dv ⟨qda, qdc⟩] (List.Sublist.refl _) (by simp))
        clear S
        go_wp2
        go_roundw
        case rel => exact ⟨k + 1, q5, r5, by omega, by go_num, Lib.hid (by rw [hZ.out, hW.out]; exact hF.out), g1, g2⟩
        case measure => simp [intOf]; omega
      · have hd : decide ((k : Int) < (f : Int)) = false := by rw [decide_eq_false_iff_not]; omega
        obtain rfl : f = k := by omega
        have S2 : Hid (Fm w wr [⟨w2.heap.size, 26, [.slice q1.a (rdN (a ^ f * (d - a) ^ 0) (d ^ f * d ^ 0)).length q1.c, .slice r1.a (rdD (a ^ f * (d - a) ^ 0) (d ^ f * d ^ 0)).length r1.c]⟩, ⟨B, 26, [.slice qb.a (Bn).length qb.c, .slice rb.a (Bd).length rb.c]⟩, ⟨w.heap.size + 1, 26, [.slice none 0 0, .slice none 0 0]⟩, ⟨w.heap.size, 26, [.slice qna Av.length qnc, .slice qda Dv.length qdc]⟩] [rowRd (rdD (a ^ f * (d - a) ^ 0) (d ^ f * d ^ 0)) r1, rowRd (rdN (a ^ f * (d - a) ^ 0) (d ^ f * d ^ 0)) q1, rowRd Bd rb, rowRd Bn qb, rowRd Av ⟨qna, qnc⟩, rowRd Dv ⟨qda, qdc⟩]) := Lib.hid (by
          rw [← e2.out.1, ← e2.out.2]
          exact S.out)
        clear S
        go_wp2_with fail
        clear z3 f3 y3 y3a z2 f2 y2 y2a z1 f1 y1 y1a z0 f0 y0 y0a
        go_loopw [11] (fun i wr => ∃ (k : Nat) (q1 r1 : LmP), k ≤ g ∧ i = .int .i64 (k : Int) ∧ Hid (Fm w wr [⟨w2.heap.size, 26, [.slice q1.a (rdN (a ^ f * (d - a) ^ k) (d ^ f * d ^ k)).length q1.c, .slice r1.a (rdD (a ^ f * (d - a) ^ k) (d ^ f * d ^ k)).length r1.c]⟩, ⟨B, 26, [.slice qb.a (Bn).length qb.c, .slice rb.a (Bd).length rb.c]⟩, ⟨w.heap.size + 1, 26, [.slice none 0 0, .slice none 0 0]⟩, ⟨w.heap.size, 26, [.slice qna Av.length qnc, .slice qda Dv.length qdc]⟩] [rowRd (rdD (a ^ f * (d - a) ^ k) (d ^ f * d ^ k)) r1, rowRd (rdN (a ^ f * (d - a) ^ k) (d ^ f * d ^ k)) q1, rowRd Bd rb, rowRd Bn qb, rowRd Av ⟨qna, qnc⟩, rowRd Dv ⟨qda, qdc⟩]) ∧ Hid (Fr w.heap.size q1) ∧ Hid (Fr w.heap.size r1)) (fun i _ => g - (intOf i).toNat)
        case atStart => exact ⟨0, q1, r1, Nat.zero_le _, rfl, S2, fr1, fr2⟩
        case round =>
          clear S2 fr1 fr2
          obtain ⟨k, q1, r1, hk, rfl, S, fr1, fr2⟩ := hrel
          obtain ⟨⟨z3, f3, y3, y3a, -⟩, ⟨z2, f2, y2, y2a, -⟩, ⟨z1, f1, y1, y1a, -⟩, ⟨z0, f0, y0, y0a, -⟩, -⟩ := S.out.facts
          by_cases hlt : k < g
          · have hd : decide ((k : Int) < (g : Int)) = true := decide_eq_true (by omega)
            have hM := Lib.hid (H2.out k hlt)
            obtain ⟨Xn, hX⟩ : ∃ v, rdN (a ^ f * (d - a) ^ k) (d ^ f * d ^ k) = v := ⟨_, rfl⟩
            obtain ⟨Xd, hY⟩ : ∃ v, rdD (a ^ f * (d - a) ^ k) (d ^ f * d ^ k) = v := ⟨_, rfl⟩
            rw [hX, hY] at hM S
            rw [hX] at y3
            rw [hY] at y3a
            clear hX hY
            obtain ⟨Yn, hZ⟩ : ∃ v, rdN (a ^ f * (d - a) ^ (k + 1)) (d ^ f * d ^ (k + 1)) = v := ⟨_, rfl⟩
            obtain ⟨Yd, hW⟩ : ∃ v, rdD (a ^ f * (d - a) ^ (k + 1)) (d ^ f * d ^ (k + 1)) = v := ⟨_, rfl⟩
            rw [hZ, hW] at hM
            replace hZ := Lib.hid hZ
            replace hW := Lib.hid hW
            go_wp2_with fail
            refine (hM.out q1 r1 qb rb _ S.out.r1 S.out.r0 S.out.r3 S.out.r2).mono ?_
            rintro e w5 ⟨_, rfl, q5, r5, rfl, hr, hr2, hf5, hf6, hb⟩
            have g1 := Lib.hid (hf5.le S.out.size)
            have g2 := Lib.hid (hf6.le S.out.size)
            replace S := Lib.hid (natRes2 S.out hr hr2 hf5 hf6 hb)
            clear hr hr2 hf5 hf6 hb fr1 fr2 z3 f3 y3 y3a z2 f2 y2 y2a z1 f1 y1 y1a z0 f0 y0 y0a
            obtain ⟨⟨z3, f3, y3, y3a, -⟩, ⟨z2, f2, y2, y2a, -⟩, ⟨z1, f1, y1, y1a, -⟩, ⟨z0, f0, y0, y0a, -⟩, -⟩ := S.out.facts
            have hF := Lib.hid (fm_sel ((S.out.set 0 rfl 0 (.slice q5.a Yn.length q5.c)).set 0 rfl 1 (.slice r5.a Yd.length r5.c)) _ [rowRd Yd r5, rowRd Yn q5, rowRd Bd rb, rowRd Bn qb, rowRd Av ⟨qna, qnc⟩, rowRd Dv ⟨qda, qdc⟩] (List.Sublist.refl _) (by simp))
            clear S
            go_wp2
            go_roundw
            case rel => exact ⟨k + 1, q5, r5, by omega, by go_num, Lib.hid (by rw [hZ.out, hW.out]; exact hF.out), g1, g2⟩
            case measure => simp [intOf]; omega
          · have hd : decide ((k : Int) < (g : Int)) = false := by rw [decide_eq_false_iff_not]; omega
            obtain rfl : g = k := by omega
            obtain ⟨Xn, hX⟩ : ∃ v, rdN (a ^ f * (d - a) ^ g) (d ^ f * d ^ g) = v := ⟨_, rfl⟩
            obtain ⟨Xd, hY⟩ : ∃ v, rdD (a ^ f * (d - a) ^ g) (d ^ f * d ^ g) = v := ⟨_, rfl⟩
            rw [hX, hY] at S
            rw [hX] at y3
            rw [hY] at y3a
            have hret : Hid (∀ W v, RRes w Xn Xd v W → RRes w (rdN (a ^ f * (d - a) ^ g) (d ^ f * d ^ g)) (rdD (a ^ f * (d - a) ^ g) (d ^ f * d ^ g)) v W) := Lib.hid (by rw [hX, hY]; exact fun _ _ h => h)
            clear hX hY
            have S8 := Lib.hid ((S.out.set 2 rfl 0 (.slice q1.a Xn.length q1.c)).set 2 rfl 1 (.slice r1.a Xd.length r1.c))
            go_wp2
            refine bodyPost_ret (v := ratV Xn q1 Xd r1) (by simp [results, Tryz.results85, go_sem, y1, y1a]) rfl ?_
            exact Ret.mk (hret.out _ _ (fm_rres S8.out (by simp) (by simp) fr1.out fr2.out))
end Go.Proofs.YtpoddmkimhkmoaaGreat
