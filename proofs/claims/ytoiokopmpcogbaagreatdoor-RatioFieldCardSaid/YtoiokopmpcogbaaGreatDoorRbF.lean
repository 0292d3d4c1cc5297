/-
  PLAIN: the field laws of small fractions.
  Conditions: those that each theorem names.
-/
import Derived.Test.YtoiokopmpcogbaaGreatDoorRbA
namespace Go.Proofs.YtoiokopmpcogbaaGreatDoor
open Go.RowKit Go.Sv
theorem lt_mul {a b x y : Nat} (h : a < 2 ^ x) (h' : b < 2 ^ y) : a * b < 2 ^ (x + y) := by
  rw [Nat.pow_add]
  exact Nat.mul_lt_mul'' h h'
theorem sm_lt {a x : Nat} (h : a < 2 ^ x) (hx : x ≤ 250) : sm a := sm_of (Nat.lt_of_lt_of_le h (Nat.pow_le_pow_right (by decide) hx))
theorem cmp_self (l : List Int) : cmpL l l = 0 := by
  unfold cmpL cmpV
  rw [if_neg (Int.lt_irrefl _), if_neg (Int.lt_irrefl _)]
/-- a fraction in lowest terms, below powers of two -/
structure Fr2 (N D : List Int) (n d x y : Nat) : Prop where
  en : N = lim n
  ed : D = lim d
  d0 : 0 < d
  g : Nat.gcd n d = 1
  bn : n < 2 ^ x
  bd : d < 2 ^ y
theorem Fr2.v {N D : List Int} {n d x y : Nat} (h : Fr2 N D n d x y) (hx : x ≤ 250) (hy : y ≤ 250) : vR (lim n) (lim d) = true := vR_lim (sm_lt h.bn hx) (sm_lt h.bd hy) (by have := h.d0; omega) h.g
theorem fr2_of {N D x y : Nat} (hD : 0 < D) (hx : N < 2 ^ x) (hy : D < 2 ^ y) : ∃ n d, Fr2 (rdN N D) (rdD N D) n d x y ∧ N * d = n * D := by
  obtain ⟨n, d, e1, e2, d0, g, h, nl, dl⟩ := rd_val (N := N) (D := D) hD
  exact ⟨n, d, ⟨e1, e2, d0, g, Nat.lt_of_le_of_lt nl hx, Nat.lt_of_le_of_lt dl hy⟩, h⟩
theorem add_fr {N D M E : List Int} {n d m e x y u v : Nat} (h : Fr2 N D n d x y) (k : Fr2 M E m e u v) (h1 : x + v ≤ 248) (h2 : u + y ≤ 248) (h3 : y + v ≤ 248) (hx : x ≤ 250) (hy : y ≤ 250) (hu : u ≤ 250) (hv : v ≤ 250) (t : Nat) (ht1 : x + v < t) (ht2 : u + y < t) (ht : t ≤ 250) :
    ∃ p q, Fr2 (addN N D M E) (addD N D M E) p q t (y + v) ∧ addE N D M E = 0 ∧ (n * e + m * d) * q = p * (d * e) ∧ addN N D M E = rdN (n * e + m * d) (d * e) ∧ addD N D M E = rdD (n * e + m * d) (d * e) := by
  have b1 := lt_mul h.bn k.bd
  have b2 := lt_mul k.bn h.bd
  have b3 := lt_mul h.bd k.bd
  have b4 : n * e + m * d < 2 ^ t := by
    have p1 : 2 ^ (x + v) ≤ 2 ^ (t - 1) := Nat.pow_le_pow_right (by decide) (by omega)
    have p2 : 2 ^ (u + y) ≤ 2 ^ (t - 1) := Nat.pow_le_pow_right (by decide) (by omega)
    have p3 : 2 ^ t = 2 ^ (t - 1) * 2 := by rw [← Nat.pow_succ]; congr 1; omega
    omega
  obtain ⟨a, b, c⟩ := add_val (h.v hx hy) (k.v hu hv) (sm_lt b1 (by omega)) (sm_lt b2 (by omega)) (sm_lt b3 (by omega)) (sm_lt b4 ht)
  rw [← h.en, ← h.ed, ← k.en, ← k.ed] at a b c
  obtain ⟨p, q, hp, hq⟩ := fr2_of (N := n * e + m * d) (D := d * e) (Nat.mul_pos h.d0 k.d0) b4 b3
  exact ⟨p, q, by rw [b, c]; exact hp, a, hq, b, c⟩
theorem prd_fr {N D M E : List Int} {n d m e x y u v : Nat} (h : Fr2 N D n d x y) (k : Fr2 M E m e u v) (h1 : x + u ≤ 250) (h3 : y + v ≤ 250) (hx : x ≤ 250) (hy : y ≤ 250) (hu : u ≤ 250) (hv : v ≤ 250) :
    ∃ p q, Fr2 (prdN N D M E) (prdD N D M E) p q (x + u) (y + v) ∧ prdE N D M E = 0 ∧ (n * m) * q = p * (d * e) := by
  have b1 := lt_mul h.bn k.bn
  have b3 := lt_mul h.bd k.bd
  obtain ⟨a, b, c⟩ := prd_val (h.v hx hy) (k.v hu hv) (sm_lt b1 h1) (sm_lt b3 h3)
  rw [← h.en, ← h.ed, ← k.en, ← k.ed] at a b c
  obtain ⟨p, q, hp, hq⟩ := fr2_of (N := n * m) (D := d * e) (Nat.mul_pos h.d0 k.d0) b1 b3
  exact ⟨p, q, by rw [b, c]; exact hp, a, hq⟩
theorem back_eq {an ad bn bd sn sd : Nat} (a0 : 0 < ad) (h : (an * bd + bn * ad) * sd = sn * (ad * bd)) : bn * sd ≤ sn * bd ∧ (sn * bd - bn * sd) * ad = an * (sd * bd) := by
  have e : (sn * bd) * ad = an * (sd * bd) + (bn * sd) * ad := by grind
  constructor
  · refine Nat.le_of_mul_le_mul_right ?_ a0
    rw [e]; exact Nat.le_add_left _ _
  · rw [Nat.sub_mul, e, Nat.add_sub_cancel]
theorem dist_eq {an ad bn bd cn cd sn sd pn pd un ud vn vd : Nat} (a0 : 0 < ad) (b0 : 0 < bd) (c0 : 0 < cd) (s0 : 0 < sd) (hs : (an * bd + bn * ad) * sd = sn * (ad * bd)) (hp : (sn * cn) * pd = pn * (sd * cd)) (hu : (an * cn) * ud = un * (ad * cd)) (hv : (cn * bn) * vd = vn * (cd * bd)) :
    (un * vd + vn * ud) * pd = pn * (ud * vd) := by
  have K : 0 < (ad * cd) * (cd * bd) * sd := Nat.mul_pos (Nat.mul_pos (Nat.mul_pos a0 c0) (Nat.mul_pos c0 b0)) s0
  refine Nat.eq_of_mul_eq_mul_right K ?_
  have e1 : (un * vd + vn * ud) * pd * ((ad * cd) * (cd * bd) * sd) = (un * (ad * cd)) * (vd * pd * (cd * bd) * sd) + (vn * (cd * bd)) * (ud * pd * (ad * cd) * sd) := by grind
  have e2 : pn * (ud * vd) * ((ad * cd) * (cd * bd) * sd) = (pn * (sd * cd)) * (ud * vd * ad * cd * bd) := by grind
  rw [e1, e2, ← hu, ← hv, ← hp]
  have e3 : (sn * cn) * pd * (ud * vd * ad * cd * bd) = (sn * (ad * bd)) * (cn * pd * ud * vd * cd) := by grind
  rw [e3, ← hs]
  grind
/-- what RatioField computes -/
theorem field_key (a0 a1 b0 b1 c0 c1 : Nat) (ha0 : a0 < 4294967296) (ha1 : a1 < 4294967296) (hb0 : b0 < 4294967296) (hb1 : b1 < 4294967296) (hc0 : c0 < 4294967296) (hc1 : c1 < 4294967296) :
    ∃ An Ad Bn Bd Cn Cd Sn Sd Pn Pd Un Ud Vn Vd : List Int, (Lim An ∧ Lim Ad ∧ Lim Bn ∧ Lim Bd ∧ Lim Cn ∧ Lim Cd ∧ Lim Sn ∧ Lim Sd ∧ Lim Pn ∧ Lim Pd ∧ Lim Un ∧ Lim Ud ∧ Lim Vn ∧ Lim Vd) ∧
      (rdN a0 (a1 + 1) = An ∧ rdD a0 (a1 + 1) = Ad) ∧ (rdN b0 (b1 + 1) = Bn ∧ rdD b0 (b1 + 1) = Bd) ∧ (rdN c0 (c1 + 1) = Cn ∧ rdD c0 (c1 + 1) = Cd) ∧
      (addN An Ad Bn Bd = Sn ∧ addD An Ad Bn Bd = Sd ∧ addE An Ad Bn Bd = 0) ∧ (addN Bn Bd An Ad = Sn ∧ addD Bn Bd An Ad = Sd ∧ addE Bn Bd An Ad = 0) ∧
      (subN Sn Sd Bn Bd = An ∧ subD Sn Sd Bn Bd = Ad ∧ subE Sn Sd Bn Bd = 0) ∧ (prdN Sn Sd Cn Cd = Pn ∧ prdD Sn Sd Cn Cd = Pd ∧ prdE Sn Sd Cn Cd = 0) ∧
      (prdN An Ad Cn Cd = Un ∧ prdD An Ad Cn Cd = Ud ∧ prdE An Ad Cn Cd = 0) ∧ (prdN Cn Cd Bn Bd = Vn ∧ prdD Cn Cd Bn Bd = Vd ∧ prdE Cn Cd Bn Bd = 0) ∧
      (addN Un Ud Vn Vd = Pn ∧ addD Un Ud Vn Vd = Pd ∧ addE Un Ud Vn Vd = 0) ∧ rcV Pn Pd Pn Pd = 0 ∧ crE Pn Pd Pn Pd = 0 := by
  obtain ⟨an, ad, hA, _⟩ := fr2_of (N := a0) (D := a1 + 1) (x := 33) (y := 33) (by omega) (by omega) (by omega)
  obtain ⟨bn, bd, hB, _⟩ := fr2_of (N := b0) (D := b1 + 1) (x := 33) (y := 33) (by omega) (by omega) (by omega)
  obtain ⟨cn, cd, hC, _⟩ := fr2_of (N := c0) (D := c1 + 1) (x := 33) (y := 33) (by omega) (by omega) (by omega)
  obtain ⟨sn, sd, hS, zS, eS, rS1, rS2⟩ := add_fr hA hB (by decide) (by decide) (by decide) (by decide) (by decide) (by decide) (by decide) 67 (by decide) (by decide) (by decide)
  obtain ⟨sn', sd', hS', zS', eS', rS1', rS2'⟩ := add_fr hB hA (by decide) (by decide) (by decide) (by decide) (by decide) (by decide) (by decide) 67 (by decide) (by decide) (by decide)
  obtain ⟨pn, pd, hP, zP, eP⟩ := prd_fr hS hC (by decide) (by decide) (by decide) (by decide) (by decide) (by decide)
  obtain ⟨un, ud, hU, zU, eU⟩ := prd_fr hA hC (by decide) (by decide) (by decide) (by decide) (by decide) (by decide)
  obtain ⟨vn, vd, hV, zV, eV⟩ := prd_fr hC hB (by decide) (by decide) (by decide) (by decide) (by decide) (by decide)
  obtain ⟨tn, td, hT, zT, eT, rT1, rT2⟩ := add_fr hU hV (by decide) (by decide) (by decide) (by decide) (by decide) (by decide) (by decide) 133 (by decide) (by decide) (by decide)
  have hcomm := rd_eq (N := bn * ad + an * bd) (D := bd * ad) (n := sn) (d := sd) (Nat.mul_pos hB.d0 hA.d0) hS.d0 hS.g (by rw [Nat.add_comm (bn * ad), eS, Nat.mul_comm ad bd])
  obtain ⟨hle, hbk⟩ := back_eq hA.d0 eS
  have hback := rd_eq (N := sn * bd - bn * sd) (D := sd * bd) (n := an) (d := ad) (Nat.mul_pos hS.d0 hB.d0) hA.d0 hA.g hbk
  obtain ⟨zb, sb1, sb2⟩ := sub_val (hS.v (by decide) (by decide)) (hB.v (by decide) (by decide)) (sm_lt (lt_mul hS.bn hB.bd) (by decide)) (sm_lt (lt_mul hB.bn hS.bd) (by decide)) (sm_lt (lt_mul hS.bd hB.bd) (by decide)) hle
  have hdist := rd_eq (N := un * vd + vn * ud) (D := ud * vd) (n := pn) (d := pd) (Nat.mul_pos hU.d0 hV.d0) hP.d0 hP.g (dist_eq hA.d0 hB.d0 hC.d0 hS.d0 eS eP eU eV)
  obtain ⟨zc, ec⟩ := cmp_val (hP.v (by decide) (by decide)) (hP.v (by decide) (by decide)) (sm_lt (lt_mul hP.bn hP.bd) (by decide)) (sm_lt (lt_mul hP.bn hP.bd) (by decide))
  have L : ∀ {N D : List Int} {n d x y : Nat}, Fr2 N D n d x y → Lim N ∧ Lim D := fun h => by rw [h.en, h.ed]; exact ⟨lim_lim _, lim_lim _⟩
  refine ⟨_, _, _, _, _, _, _, _, _, _, _, _, _, _, ⟨(L hA).1, (L hA).2, (L hB).1, (L hB).2, (L hC).1, (L hC).2, (L hS).1, (L hS).2, (L hP).1, (L hP).2, (L hU).1, (L hU).2, (L hV).1, (L hV).2⟩,
    ⟨rfl, rfl⟩, ⟨rfl, rfl⟩, ⟨rfl, rfl⟩, ⟨rfl, rfl, zS⟩, ⟨?_, ?_, zS'⟩, ⟨?_, ?_, ?_⟩, ⟨rfl, rfl, zP⟩, ⟨rfl, rfl, zU⟩, ⟨rfl, rfl, zV⟩, ⟨?_, ?_, zT⟩, ?_, ?_⟩
  · rw [rS1', hcomm.1, hS.en]
  · rw [rS2', hcomm.2, hS.ed]
  · rw [hS.en, hS.ed, hB.en, hB.ed, sb1, hback.1, hA.en]
  · rw [hS.en, hS.ed, hB.en, hB.ed, sb2, hback.2, hA.ed]
  · rw [hS.en, hS.ed, hB.en, hB.ed, zb]
  · rw [rT1, hdist.1, hP.en]
  · rw [rT2, hdist.2, hP.ed]
  · rw [hP.en, hP.ed, ec, cmp_self]
  · rw [hP.en, hP.ed, zc]
end Go.Proofs.YtoiokopmpcogbaaGreatDoor
