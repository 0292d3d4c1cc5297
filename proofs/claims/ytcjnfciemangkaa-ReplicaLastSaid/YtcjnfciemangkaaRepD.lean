/-
  CONTRACTS of Apply, the program's and the reference's.
  Conditions: those that each theorem names.
-/
import Derived.Test.YtcjnfciemangkaaRepC
import Derived.RegionTactic
import Derived.BigRegion
namespace Go.Proofs.Ytcjnfciemangkaa
open Go.RowKit Go.Sv

theorem box43 {w w' : World} {a b c d a' b' c' : Value} {t t' : TypeId} (hb : Below (w.heap.size + 2) ((w.alloc (.cells #[a, b, c, d] t)).alloc (.cells #[a', b', c'] t')) w') :
    (w'.cell? ⟨w.heap.size, 0, none⟩ = some a ∧ w'.cell? ⟨w.heap.size, 1, none⟩ = some b ∧ w'.cell? ⟨w.heap.size, 2, none⟩ = some c ∧ w'.cell? ⟨w.heap.size, 3, none⟩ = some d) ∧
    w'.cell? ⟨w.heap.size + 1, 0, none⟩ = some a' ∧ w'.cell? ⟨w.heap.size + 1, 1, none⟩ = some b' ∧ w'.cell? ⟨w.heap.size + 1, 2, none⟩ = some c' := by
  have h1 : ∀ i, w'.cell? ⟨w.heap.size, i, none⟩ = #[a, b, c, d][i]? := fun i => by rw [hb.cell (p := ⟨w.heap.size, i, none⟩) (by simp), cell_first]
  have h2 : ∀ i, w'.cell? ⟨w.heap.size + 1, i, none⟩ = #[a', b', c'][i]? := fun i => by rw [hb.cell (p := ⟨w.heap.size + 1, i, none⟩) (by simp), cell_second]
  exact ⟨⟨h1 0, h1 1, h1 2, h1 3⟩, h2 0, h2 1, h2 2⟩

abbrev cmdV (c : Cmd) : Value := .agg #[.int .i64 c.rnd, .int .i64 c.rep, .int .i64 c.ver]

theorem applyE_p {p : Prob} {l : List Rep} {c : Cmd} (h : probE p ≠ 0) : applyE p l c = probE p := by unfold applyE; rw [if_pos h]
theorem applyE_4 {p : Prob} {l : List Rep} {c : Cmd} (h : probE p = 0) (h2 : ¬ (0 ≤ c.rep ∧ c.rep < l.length)) : applyE p l c = 4 := by unfold applyE; rw [if_neg (by simp [h]), if_pos h2]
theorem applyE_7 {p : Prob} {l : List Rep} {c : Cmd} (h : probE p = 0) (h2 : 0 ≤ c.rep ∧ c.rep < l.length)
    (h3 : ¬ (0 ≤ (rp l c.rep.toNat).sv ∧ (rp l c.rep.toNat).sv < p.vs.length ∧ 0 ≤ c.ver ∧ c.ver < gi p.vs (rp l c.rep.toNat).sv.toNat)) : applyE p l c = 7 := by
  unfold applyE; rw [if_neg (by simp [h]), if_neg (by simp [h2]), if_pos h3]
theorem applyE_11 {p : Prob} {l : List Rep} {c : Cmd} (h : probE p = 0) (h2 : 0 ≤ c.rep ∧ c.rep < l.length)
    (h3 : 0 ≤ (rp l c.rep.toNat).sv ∧ (rp l c.rep.toNat).sv < p.vs.length ∧ 0 ≤ c.ver ∧ c.ver < gi p.vs (rp l c.rep.toNat).sv.toNat) (h4 : (rp l c.rep.toNat).up = false) : applyE p l c = 11 := by
  unfold applyE; rw [if_neg (by simp [h]), if_neg (fun h => h h2), if_neg (fun h => h h3), if_pos h4]
theorem applyE_16 {p : Prob} {l : List Rep} {c : Cmd} (h : probE p = 0) (h2 : 0 ≤ c.rep ∧ c.rep < l.length)
    (h3 : 0 ≤ (rp l c.rep.toNat).sv ∧ (rp l c.rep.toNat).sv < p.vs.length ∧ 0 ≤ c.ver ∧ c.ver < gi p.vs (rp l c.rep.toNat).sv.toNat) (h4 : (rp l c.rep.toNat).up = true) (h5 : c.rnd < (rp l c.rep.toNat).rnd) : applyE p l c = 16 := by
  unfold applyE; rw [if_neg (by simp [h]), if_neg (fun h => h h2), if_neg (fun h => h h3), if_neg (by simp [h4]), if_pos h5]
theorem applyE_0 {p : Prob} {l : List Rep} {c : Cmd} (h : probE p = 0) (h2 : 0 ≤ c.rep ∧ c.rep < l.length)
    (h3 : 0 ≤ (rp l c.rep.toNat).sv ∧ (rp l c.rep.toNat).sv < p.vs.length ∧ 0 ≤ c.ver ∧ c.ver < gi p.vs (rp l c.rep.toNat).sv.toNat) (h4 : (rp l c.rep.toNat).up = true) (h5 : ¬ c.rnd < (rp l c.rep.toNat).rnd) : applyE p l c = 0 := by
  unfold applyE; rw [if_neg (by simp [h]), if_neg (fun h => h h2), if_neg (fun h => h h3), if_neg (by simp [h4]), if_neg h5]
theorem applyL_bad {p : Prob} {l : List Rep} {c : Cmd} (h : applyE p l c ≠ 0) : applyL p l c = [] := by unfold applyL; rw [if_neg h]
theorem applyL_ok {p : Prob} {l : List Rep} {c : Cmd} (h : applyE p l c = 0) : applyL p l c = setCmd l c := by unfold applyL; rw [if_pos h]
theorem setCmd_no {l : List Rep} {c : Cmd} (h : ¬ (rp l c.rep.toNat).rnd < c.rnd) : setCmd l c = l := by unfold setCmd; rw [if_neg h]
theorem setCmd_yes {l : List Rep} {c : Cmd} (h : (rp l c.rep.toNat).rnd < c.rnd) : setCmd l c = l.set c.rep.toNat { rp l c.rep.toNat with ver := c.ver, rnd := c.rnd } := by unfold setCmd; rw [if_pos h]

theorem cmd_res13 {w w1 : World} {e : TypeId} {l : List Rep} {g cc k : Nat} {ver rnd : Int} (h : w1.ownsRow w.heap.size e 4 (.slice (some ⟨g, 0, none⟩) l.length cc) l.length (rpRow l)) (hk : k < l.length) (hg : w.heap.size ≤ g) (hb : Below w.heap.size w w1) :
    RRes w (l.set k { rp l k with ver := ver, rnd := rnd }) 0 (.tuple #[.slice (some ⟨g, 0, none⟩) l.length cc, .int .i64 0]) ((w1.setCell ⟨g, k * 4 + 1, none⟩ (.int .i64 ver)).setCell ⟨g, k * 4 + 3, none⟩ (.int .i64 rnd)) := by
  have h1 := (h.stored (k * 4 + 1) (.int .i64 ver)).1
  rw [rpRow_set (i := 1) (k := k) (r := { rp l k with ver := ver }) (u := .int .i64 ver) (by omega) rfl (fun j h1 h2 => by match j, h1, h2 with | 0, _, _ => rfl | 2, _, _ => rfl | 3, _, _ => rfl) hk] at h1
  have hlen : (l.set k { rp l k with ver := ver }).length = l.length := List.length_set ..
  have h3 := (h1.stored (k * 4 + 3) (.int .i64 rnd)).1
  rw [rpRow_set (i := 3) (k := k) (r := { rp l k with ver := ver, rnd := rnd }) (u := .int .i64 rnd) (by omega) rfl (fun j h1 h2 => by rw [rp_set_same hk]; match j, h1, h2 with | 0, _, _ => rfl | 1, _, _ => rfl | 2, _, _ => rfl | j + 3, h1, h2 => exact absurd (show j + 3 = 3 by omega) h2) (by rw [hlen]; exact hk), List.set_set] at h3
  have hlen2 : (l.set k { rp l k with ver := ver, rnd := rnd }).length = l.length := List.length_set ..
  rw [← hlen2] at h3
  exact ⟨_, _, by rw [hlen2], (fun h => by cases h), own_reps h3, (hb.setCell hg _).setCell hg _⟩
theorem cmd_res31 {w w1 : World} {e : TypeId} {l : List Rep} {g cc k : Nat} {ver rnd : Int} (h : w1.ownsRow w.heap.size e 4 (.slice (some ⟨g, 0, none⟩) l.length cc) l.length (rpRow l)) (hk : k < l.length) (hg : w.heap.size ≤ g) (hb : Below w.heap.size w w1) :
    RRes w (l.set k { rp l k with ver := ver, rnd := rnd }) 0 (.tuple #[.slice (some ⟨g, 0, none⟩) l.length cc, .int .i64 0]) ((w1.setCell ⟨g, k * 4 + 3, none⟩ (.int .i64 rnd)).setCell ⟨g, k * 4 + 1, none⟩ (.int .i64 ver)) := by
  have h1 := (h.stored (k * 4 + 3) (.int .i64 rnd)).1
  rw [rpRow_set (i := 3) (k := k) (r := { rp l k with rnd := rnd }) (u := .int .i64 rnd) (by omega) rfl (fun j h1 h2 => by match j, h1, h2 with | 0, _, _ => rfl | 1, _, _ => rfl | 2, _, _ => rfl | j + 3, h1, h2 => exact absurd (show j + 3 = 3 by omega) h2) hk] at h1
  have hlen : (l.set k { rp l k with rnd := rnd }).length = l.length := List.length_set ..
  have h3 := (h1.stored (k * 4 + 1) (.int .i64 ver)).1
  rw [rpRow_set (i := 1) (k := k) (r := { rp l k with ver := ver, rnd := rnd }) (u := .int .i64 ver) (by omega) rfl (fun j h1 h2 => by rw [rp_set_same hk]; match j, h1, h2 with | 0, _, _ => rfl | 2, _, _ => rfl | 3, _, _ => rfl) (by rw [hlen]; exact hk), List.set_set] at h3
  have hlen2 : (l.set k { rp l k with ver := ver, rnd := rnd }).length = l.length := List.length_set ..
  rw [← hlen2] at h3
  exact ⟨_, _, by rw [hlen2], (fun h => by cases h), own_reps h3, (hb.setCell hg _).setCell hg _⟩
theorem RRes.alike {w w' w'' : World} {l : List Rep} {e : Int} {v : Value} (h : RRes w l e v w') (ha : Drawn w' w'') : RRes w l e v w'' := by
  obtain ⟨A, c, h1, h2, h3, h4⟩ := h
  exact ⟨A, c, h1, h2, by have := h3.drawn ha; rwa [← ha.size] at this, h4.drawn ha⟩

set_option maxHeartbeats 8000000 in
theorem apply_any (p : Prob) (q : ProbP) (A : Option Addr) (c : Nat) (l : List Rep) (cm : Cmd) (w : World) (hp : RProb w w.heap.size p q) (hbd : PBd p) (ha : RReps w w.heap.size A l) (hA : A = none → l.length = 0 ∧ c = 0) (hn : l.length ≤ 1000000) :
    Calls Try.prog 18 #[probV p q, .slice A l.length c, cmdV cm] w (Ret (RRes w (applyL p l cm) (applyE p l cm))) := by
  obtain ⟨qa0, qc0, qa1, qc1, qa2, qc2, qa3, qc3⟩ := q
  obtain ⟨rnd, rep, ver⟩ := cm
  have hbx : Hid (∀ o o' : Obj, Below w.heap.size w ((w.alloc o).alloc o')) := Lib.hid fun o o' => ((Below.refl _ _).alloc (Nat.le_refl _) o).alloc (by simp) o'
  have hsx : Hid (∀ o o' : Obj, ((w.alloc o).alloc o').heap.size = w.heap.size + 2) := Lib.hid fun o o' => by simp
  have hv : Hid (∀ o o' : Obj, Calls Try.prog 33 #[probV p ⟨qa0, qc0, qa1, qc1, qa2, qc2, qa3, qc3⟩] ((w.alloc o).alloc o') fun e w' => e = .returned (.int .i64 (probE p)) ∧ Below ((w.alloc o).alloc o').heap.size ((w.alloc o).alloc o') w') :=
    Lib.hid fun o o' => validProblem_any p ⟨qa0, qc0, qa1, qc1, qa2, qc2, qa3, qc3⟩ _ (hp.to (hbx.out o o')) hbd
  by_cases g1 : probE p = 0
  case neg =>
    have E := applyE_p (l := l) (c := ⟨rnd, rep, ver⟩) g1
    rw [applyL_bad (by rw [E]; exact g1), E]
    clear E
    have hx : (probE p != 0) = true := by rw [bne_iff_ne]; exact g1
    clear g1
    replace hp := Lib.hid hp
    replace ha := Lib.hid ha
    replace hA := Lib.hid hA
    go_enter Try.func18, Try.ntmps18
    go_wp2_with fail
    refine (hv.out _ _).mono ?_
    rintro e w1 ⟨rfl, hb1⟩
    have hb2 := Lib.hid (below_of (hbx.out _ _) (hbx.out _ _).size hb1)
    clear hb1
    go_wp2
    go_ret2
    exact Ret.mk (RRes.none_ hb2.out)
  have z1 := (probE_dims g1).1
  have G1 := Lib.hid g1
  clear g1
  by_cases g2 : 0 ≤ rep ∧ rep < l.length
  case neg =>
    have E := applyE_4 (c := ⟨rnd, rep, ver⟩) G1.out g2
    rw [applyL_bad (by rw [E]; omega), E]
    clear E
    replace hp := Lib.hid hp
    replace ha := Lib.hid ha
    replace hA := Lib.hid hA
    by_cases r0 : rep < 0
    · clear g2
      go_enter Try.func18, Try.ntmps18
      go_wp2_with fail
      refine (hv.out _ _).mono ?_
      rintro e w1 ⟨rfl, hb1⟩
      rw [G1.out]
      rw [hsx.out] at hb1
      obtain ⟨⟨y0, y1, y2, y3⟩, x0, x1, x2⟩ := box43 hb1
      have hs2 : w.heap.size + 2 ≤ w1.heap.size := by have := hb1.size; rw [hsx.out] at this; exact this
      have hb2 := below_of (hbx.out _ _) (by rw [hsx.out]; omega) (hb1.mono (by rw [hsx.out]; omega))
      clear hb1
      have hs3 : w.heap.size < w1.heap.size := by omega
      have hs4 : w.heap.size + 1 < w1.heap.size := by omega
      go_wp2
      go_ret2
      exact Ret.mk (RRes.none_ hb2)
    · have r1 : (l.length : Int) ≤ rep := by omega
      clear g2
      go_enter Try.func18, Try.ntmps18
      go_wp2_with fail
      refine (hv.out _ _).mono ?_
      rintro e w1 ⟨rfl, hb1⟩
      rw [G1.out]
      rw [hsx.out] at hb1
      obtain ⟨⟨y0, y1, y2, y3⟩, x0, x1, x2⟩ := box43 hb1
      have hs2 : w.heap.size + 2 ≤ w1.heap.size := by have := hb1.size; rw [hsx.out] at this; exact this
      have hb2 := below_of (hbx.out _ _) (by rw [hsx.out]; omega) (hb1.mono (by rw [hsx.out]; omega))
      clear hb1
      have hs3 : w.heap.size < w1.heap.size := by omega
      have hs4 : w.heap.size + 1 < w1.heap.size := by omega
      go_wp2
      go_ret2
      exact Ret.mk (RRes.none_ hb2)
  obtain ⟨r0, r1⟩ := id g2
  have G2 := Lib.hid g2
  clear g2
  obtain ⟨bl, ol, rfl, hbl, hcl⟩ := id (ha (by omega))
  obtain ⟨c0, c1, c2, c3⟩ := rp_cells (hcl rep.toNat (by omega))
  replace ha := Lib.hid ha
  replace hA := Lib.hid hA
  clear hcl
  by_cases s1 : (rp l rep.toNat).sv < 0
  · have E := applyE_7 (c := ⟨rnd, rep, ver⟩) G1.out G2.out (by dsimp only; omega)
    rw [applyL_bad (by rw [E]; omega), E]
    clear E
    replace hp := Lib.hid hp
    go_enter Try.func18, Try.ntmps18
    go_wp2_with fail
    refine (hv.out _ _).mono ?_
    rintro e w1 ⟨rfl, hb1⟩
    rw [G1.out]
    rw [hsx.out] at hb1
    obtain ⟨⟨y0, y1, y2, y3⟩, x0, x1, x2⟩ := box43 hb1
    have hs2 : w.heap.size + 2 ≤ w1.heap.size := by have := hb1.size; rw [hsx.out] at this; exact this
    have hb2 := below_of (hbx.out _ _) (by rw [hsx.out]; omega) (hb1.mono (by rw [hsx.out]; omega))
    clear hb1
    have hs3 : w.heap.size < w1.heap.size := by omega
    have hs4 : w.heap.size + 1 < w1.heap.size := by omega
    have d0 := (hb2.cell (p := ⟨bl, ol + rep.toNat * 4, none⟩) hbl).trans c0
    have d1 := (hb2.cell (p := ⟨bl, ol + rep.toNat * 4 + 1, none⟩) hbl).trans c1
    have d2 := (hb2.cell (p := ⟨bl, ol + rep.toNat * 4 + 2, none⟩) hbl).trans c2
    have d3 := (hb2.cell (p := ⟨bl, ol + rep.toNat * 4 + 3, none⟩) hbl).trans c3
    clear c0 c1 c2 c3
    replace hb2 := Lib.hid hb2
    go_wp2_with fail
    go_big_quiet (fail)
    go_wp2
    go_ret2
    exact Ret.mk (RRes.none_ (below_drewN (hb2.out.alloc (by omega) _) _))
  have ee1 : decide ((rp l rep.toNat).sv < 0) = false := by rw [decide_eq_false_iff_not]; exact s1
  by_cases s2 : (p.vs.length : Int) ≤ (rp l rep.toNat).sv
  · have E := applyE_7 (c := ⟨rnd, rep, ver⟩) G1.out G2.out (by dsimp only; omega)
    rw [applyL_bad (by rw [E]; omega), E]
    clear E
    replace hp := Lib.hid hp
    go_enter Try.func18, Try.ntmps18
    go_wp2_with fail
    refine (hv.out _ _).mono ?_
    rintro e w1 ⟨rfl, hb1⟩
    rw [G1.out]
    rw [hsx.out] at hb1
    obtain ⟨⟨y0, y1, y2, y3⟩, x0, x1, x2⟩ := box43 hb1
    have hs2 : w.heap.size + 2 ≤ w1.heap.size := by have := hb1.size; rw [hsx.out] at this; exact this
    have hb2 := below_of (hbx.out _ _) (by rw [hsx.out]; omega) (hb1.mono (by rw [hsx.out]; omega))
    clear hb1
    have hs3 : w.heap.size < w1.heap.size := by omega
    have hs4 : w.heap.size + 1 < w1.heap.size := by omega
    have d0 := (hb2.cell (p := ⟨bl, ol + rep.toNat * 4, none⟩) hbl).trans c0
    have d1 := (hb2.cell (p := ⟨bl, ol + rep.toNat * 4 + 1, none⟩) hbl).trans c1
    have d2 := (hb2.cell (p := ⟨bl, ol + rep.toNat * 4 + 2, none⟩) hbl).trans c2
    have d3 := (hb2.cell (p := ⟨bl, ol + rep.toNat * 4 + 3, none⟩) hbl).trans c3
    clear c0 c1 c2 c3
    replace hb2 := Lib.hid hb2
    go_wp2_with fail
    go_big_quiet (fail)
    go_wp2
    go_ret2
    exact Ret.mk (RRes.none_ (below_drewN (hb2.out.alloc (by omega) _) _))
  have ee2 : decide ((p.vs.length : Int) ≤ (rp l rep.toNat).sv) = false := by rw [decide_eq_false_iff_not]; exact s2
  by_cases s3 : ver < 0
  · have E := applyE_7 (c := ⟨rnd, rep, ver⟩) G1.out G2.out (by dsimp only; omega)
    rw [applyL_bad (by rw [E]; omega), E]
    clear E
    replace hp := Lib.hid hp
    go_enter Try.func18, Try.ntmps18
    go_wp2_with fail
    refine (hv.out _ _).mono ?_
    rintro e w1 ⟨rfl, hb1⟩
    rw [G1.out]
    rw [hsx.out] at hb1
    obtain ⟨⟨y0, y1, y2, y3⟩, x0, x1, x2⟩ := box43 hb1
    have hs2 : w.heap.size + 2 ≤ w1.heap.size := by have := hb1.size; rw [hsx.out] at this; exact this
    have hb2 := below_of (hbx.out _ _) (by rw [hsx.out]; omega) (hb1.mono (by rw [hsx.out]; omega))
    clear hb1
    have hs3 : w.heap.size < w1.heap.size := by omega
    have hs4 : w.heap.size + 1 < w1.heap.size := by omega
    have d0 := (hb2.cell (p := ⟨bl, ol + rep.toNat * 4, none⟩) hbl).trans c0
    have d1 := (hb2.cell (p := ⟨bl, ol + rep.toNat * 4 + 1, none⟩) hbl).trans c1
    have d2 := (hb2.cell (p := ⟨bl, ol + rep.toNat * 4 + 2, none⟩) hbl).trans c2
    have d3 := (hb2.cell (p := ⟨bl, ol + rep.toNat * 4 + 3, none⟩) hbl).trans c3
    clear c0 c1 c2 c3
    replace hb2 := Lib.hid hb2
    go_wp2_with fail
    go_big_quiet (fail)
    go_wp2
    go_ret2
    exact Ret.mk (RRes.none_ (below_drewN (hb2.out.alloc (by omega) _) _))
  have ee3 : decide (ver < 0) = false := by rw [decide_eq_false_iff_not]; exact s3
  obtain ⟨bv, ov, e0, hbv, hcv⟩ := hp.r0 (by omega)
  dsimp only at e0
  subst e0
  have cv := hcv (rp l rep.toNat).sv.toNat (by omega)
  unfold iv at cv
  clear hcv
  replace hp := Lib.hid hp
  have u1 : (0 : Int) ≤ (rp l rep.toNat).sv := by omega
  have u2 : (rp l rep.toNat).sv < (p.vs.length : Int) := by omega
  by_cases s4 : gi p.vs (rp l rep.toNat).sv.toNat ≤ ver
  · have E := applyE_7 (c := ⟨rnd, rep, ver⟩) G1.out G2.out (by dsimp only; omega)
    rw [applyL_bad (by rw [E]; omega), E]
    clear E
    go_enter Try.func18, Try.ntmps18
    go_wp2_with fail
    refine (hv.out _ _).mono ?_
    rintro e w1 ⟨rfl, hb1⟩
    rw [G1.out]
    rw [hsx.out] at hb1
    obtain ⟨⟨y0, y1, y2, y3⟩, x0, x1, x2⟩ := box43 hb1
    have hs2 : w.heap.size + 2 ≤ w1.heap.size := by have := hb1.size; rw [hsx.out] at this; exact this
    have hb2 := below_of (hbx.out _ _) (by rw [hsx.out]; omega) (hb1.mono (by rw [hsx.out]; omega))
    clear hb1
    have hs3 : w.heap.size < w1.heap.size := by omega
    have hs4 : w.heap.size + 1 < w1.heap.size := by omega
    have d0 := (hb2.cell (p := ⟨bl, ol + rep.toNat * 4, none⟩) hbl).trans c0
    have d1 := (hb2.cell (p := ⟨bl, ol + rep.toNat * 4 + 1, none⟩) hbl).trans c1
    have d2 := (hb2.cell (p := ⟨bl, ol + rep.toNat * 4 + 2, none⟩) hbl).trans c2
    have d3 := (hb2.cell (p := ⟨bl, ol + rep.toNat * 4 + 3, none⟩) hbl).trans c3
    clear c0 c1 c2 c3
    have dv := (hb2.cell (p := ⟨bv, ov + (rp l rep.toNat).sv.toNat, none⟩) hbv).trans cv
    have hbv1 : bv < w1.heap.size := by omega
    clear cv
    replace hb2 := Lib.hid hb2
    go_wp2_with fail
    go_big_quiet (fail)
    go_wp2
    go_ret2
    exact Ret.mk (RRes.none_ (below_drewN (hb2.out.alloc (by omega) _) _))
  have ee4 : decide (gi p.vs (rp l rep.toNat).sv.toNat ≤ ver) = false := by rw [decide_eq_false_iff_not]; exact s4
  have H3 : Hid (0 ≤ (rp l rep.toNat).sv ∧ (rp l rep.toNat).sv < p.vs.length ∧ 0 ≤ ver ∧ ver < gi p.vs (rp l rep.toNat).sv.toNat) := Lib.hid (by omega)
  by_cases s5 : (rp l rep.toNat).up = true
  case neg =>
    have s5' : (rp l rep.toNat).up = false := by simpa using s5
    have E := applyE_11 (c := ⟨rnd, rep, ver⟩) G1.out G2.out H3.out s5'
    rw [applyL_bad (by rw [E]; omega), E]
    rw [s5'] at c2
    clear E s5 s5'
    go_enter Try.func18, Try.ntmps18
    go_wp2_with fail
    refine (hv.out _ _).mono ?_
    rintro e w1 ⟨rfl, hb1⟩
    rw [G1.out]
    rw [hsx.out] at hb1
    obtain ⟨⟨y0, y1, y2, y3⟩, x0, x1, x2⟩ := box43 hb1
    have hs2 : w.heap.size + 2 ≤ w1.heap.size := by have := hb1.size; rw [hsx.out] at this; exact this
    have hb2 := below_of (hbx.out _ _) (by rw [hsx.out]; omega) (hb1.mono (by rw [hsx.out]; omega))
    clear hb1
    have hs3 : w.heap.size < w1.heap.size := by omega
    have hs4 : w.heap.size + 1 < w1.heap.size := by omega
    have d0 := (hb2.cell (p := ⟨bl, ol + rep.toNat * 4, none⟩) hbl).trans c0
    have d1 := (hb2.cell (p := ⟨bl, ol + rep.toNat * 4 + 1, none⟩) hbl).trans c1
    have d2 := (hb2.cell (p := ⟨bl, ol + rep.toNat * 4 + 2, none⟩) hbl).trans c2
    have d3 := (hb2.cell (p := ⟨bl, ol + rep.toNat * 4 + 3, none⟩) hbl).trans c3
    clear c0 c1 c2 c3
    have dv := (hb2.cell (p := ⟨bv, ov + (rp l rep.toNat).sv.toNat, none⟩) hbv).trans cv
    have hbv1 : bv < w1.heap.size := by omega
    clear cv
    replace hb2 := Lib.hid hb2
    go_wp2_with fail
    go_big_quiet (fail)
    go_wp2
    go_ret2
    exact Ret.mk (RRes.none_ (below_drewN (hb2.out.alloc (by omega) _) _))
  have S5 := Lib.hid s5
  rw [s5] at c2
  clear s5
  by_cases s6 : rnd < (rp l rep.toNat).rnd
  · have E := applyE_16 (c := ⟨rnd, rep, ver⟩) G1.out G2.out H3.out S5.out s6
    rw [applyL_bad (by rw [E]; omega), E]
    clear E
    go_enter Try.func18, Try.ntmps18
    go_wp2_with fail
    refine (hv.out _ _).mono ?_
    rintro e w1 ⟨rfl, hb1⟩
    rw [G1.out]
    rw [hsx.out] at hb1
    obtain ⟨⟨y0, y1, y2, y3⟩, x0, x1, x2⟩ := box43 hb1
    have hs2 : w.heap.size + 2 ≤ w1.heap.size := by have := hb1.size; rw [hsx.out] at this; exact this
    have hb2 := below_of (hbx.out _ _) (by rw [hsx.out]; omega) (hb1.mono (by rw [hsx.out]; omega))
    clear hb1
    have hs3 : w.heap.size < w1.heap.size := by omega
    have hs4 : w.heap.size + 1 < w1.heap.size := by omega
    have d0 := (hb2.cell (p := ⟨bl, ol + rep.toNat * 4, none⟩) hbl).trans c0
    have d1 := (hb2.cell (p := ⟨bl, ol + rep.toNat * 4 + 1, none⟩) hbl).trans c1
    have d2 := (hb2.cell (p := ⟨bl, ol + rep.toNat * 4 + 2, none⟩) hbl).trans c2
    have d3 := (hb2.cell (p := ⟨bl, ol + rep.toNat * 4 + 3, none⟩) hbl).trans c3
    clear c0 c1 c2 c3
    have dv := (hb2.cell (p := ⟨bv, ov + (rp l rep.toNat).sv.toNat, none⟩) hbv).trans cv
    have hbv1 : bv < w1.heap.size := by omega
    clear cv
    replace hb2 := Lib.hid hb2
    go_wp2_with fail
    go_big_quiet (fail)
    go_wp2
    go_ret2
    exact Ret.mk (RRes.none_ (below_drewN (hb2.out.alloc (by omega) _) _))
  have E := applyE_0 (c := ⟨rnd, rep, ver⟩) G1.out G2.out H3.out S5.out s6
  rw [applyL_ok E, E]
  clear E
  by_cases s7 : (rp l rep.toNat).rnd < rnd
  case neg =>
    rw [setCmd_no s7]
    go_enter Try.func18, Try.ntmps18
    go_wp2_with fail
    refine (hv.out _ _).mono ?_
    rintro e w1 ⟨rfl, hb1⟩
    rw [G1.out]
    rw [hsx.out] at hb1
    obtain ⟨⟨y0, y1, y2, y3⟩, x0, x1, x2⟩ := box43 hb1
    have hs2 : w.heap.size + 2 ≤ w1.heap.size := by have := hb1.size; rw [hsx.out] at this; exact this
    have hb2 := below_of (hbx.out _ _) (by rw [hsx.out]; omega) (hb1.mono (by rw [hsx.out]; omega))
    clear hb1
    have hs3 : w.heap.size < w1.heap.size := by omega
    have hs4 : w.heap.size + 1 < w1.heap.size := by omega
    have d0 := (hb2.cell (p := ⟨bl, ol + rep.toNat * 4, none⟩) hbl).trans c0
    have d1 := (hb2.cell (p := ⟨bl, ol + rep.toNat * 4 + 1, none⟩) hbl).trans c1
    have d2 := (hb2.cell (p := ⟨bl, ol + rep.toNat * 4 + 2, none⟩) hbl).trans c2
    have d3 := (hb2.cell (p := ⟨bl, ol + rep.toNat * 4 + 3, none⟩) hbl).trans c3
    clear c0 c1 c2 c3
    have dv := (hb2.cell (p := ⟨bv, ov + (rp l rep.toNat).sv.toNat, none⟩) hbv).trans cv
    have hbv1 : bv < w1.heap.size := by omega
    clear cv
    replace hb2 := Lib.hid hb2
    go_wp2_with fail
    go_big_quiet (fail)
    obtain ⟨w2, hw2⟩ : ∃ W, W = World.drewN (w1.alloc (.cells #[.int .i64 (rp l rep.toNat).sv, .int .i64 (rp l rep.toNat).ver, .bool true, .int .i64 (rp l rep.toNat).rnd] 40)) nq := ⟨_, rfl⟩
    rw [← hw2]
    have hb12 : Below w1.heap.size w1 w2 := by rw [hw2]; exact below_drewN ((Below.refl _ _).alloc (Nat.le_refl _) _) _
    have hc12 : ∀ i, w2.cell? ⟨w1.heap.size, i, none⟩ = #[Value.int .i64 (rp l rep.toNat).sv, .int .i64 (rp l rep.toNat).ver, .bool true, .int .i64 (rp l rep.toNat).rnd][i]? := fun i => by rw [hw2]; exact World.cell?_alloc_new ..
    have hs12 : w1.heap.size < w2.heap.size := by rw [hw2]; simp
    clear hw2
    have v2 : w2.cell? ⟨w1.heap.size, 2, none⟩ = some (.bool true) := hc12 2
    have v3 : w2.cell? ⟨w1.heap.size, 3, none⟩ = some (.int .i64 (rp l rep.toNat).rnd) := hc12 3
    have t0 := (hb12.cell (p := ⟨w.heap.size + 1, 0, none⟩) hs4).trans x0
    have t1 := (hb12.cell (p := ⟨w.heap.size + 1, 1, none⟩) hs4).trans x1
    have t2 := (hb12.cell (p := ⟨w.heap.size + 1, 2, none⟩) hs4).trans x2
    have hb22 := below_of hb2.out (by omega) hb12
    have haw := Lib.hid (RReps.to ha.out hb22)
    clear hb12 hc12
    go_wp2_with fail
    refine (cloneR_any _ _ l _ haw.out hA.out hn).mono ?_
    rintro e w3 ⟨v, rfl, A1, cc, rfl, hown, hb3⟩
    have v3' := (hb3.cell (p := ⟨w1.heap.size, 3, none⟩) hs12).trans v3
    have t0' := (hb3.cell (p := ⟨w.heap.size + 1, 0, none⟩) (by show w.heap.size + 1 < w2.heap.size; omega)).trans t0
    have hres : Hid (RRes w l 0 (.tuple #[.slice A1 l.length cc, .int .i64 0]) w3) := Lib.hid ⟨A1, cc, rfl, own_nil hown, own_reps hown, below_of hb22 hb22.size hb3⟩
    clear hown hb3 hb22
    go_wp2
    go_ret2
    exact Ret.mk hres.out
  rw [setCmd_yes s7]
  dsimp only
  go_enter Try.func18, Try.ntmps18
  go_wp2_with fail
  refine (hv.out _ _).mono ?_
  rintro e w1 ⟨rfl, hb1⟩
  rw [G1.out]
  rw [hsx.out] at hb1
  obtain ⟨⟨y0, y1, y2, y3⟩, x0, x1, x2⟩ := box43 hb1
  have hs2 : w.heap.size + 2 ≤ w1.heap.size := by have := hb1.size; rw [hsx.out] at this; exact this
  have hb2 := below_of (hbx.out _ _) (by rw [hsx.out]; omega) (hb1.mono (by rw [hsx.out]; omega))
  clear hb1
  have hs3 : w.heap.size < w1.heap.size := by omega
  have hs4 : w.heap.size + 1 < w1.heap.size := by omega
  have d0 := (hb2.cell (p := ⟨bl, ol + rep.toNat * 4, none⟩) hbl).trans c0
  have d1 := (hb2.cell (p := ⟨bl, ol + rep.toNat * 4 + 1, none⟩) hbl).trans c1
  have d2 := (hb2.cell (p := ⟨bl, ol + rep.toNat * 4 + 2, none⟩) hbl).trans c2
  have d3 := (hb2.cell (p := ⟨bl, ol + rep.toNat * 4 + 3, none⟩) hbl).trans c3
  clear c0 c1 c2 c3
  have dv := (hb2.cell (p := ⟨bv, ov + (rp l rep.toNat).sv.toNat, none⟩) hbv).trans cv
  have hbv1 : bv < w1.heap.size := by omega
  clear cv
  replace hb2 := Lib.hid hb2
  go_wp2_with fail
  go_big_quiet (fail)
  obtain ⟨w2, hw2⟩ : ∃ W, W = World.drewN (w1.alloc (.cells #[.int .i64 (rp l rep.toNat).sv, .int .i64 (rp l rep.toNat).ver, .bool true, .int .i64 (rp l rep.toNat).rnd] 40)) nq := ⟨_, rfl⟩
  rw [← hw2]
  have hb12 : Below w1.heap.size w1 w2 := by rw [hw2]; exact below_drewN ((Below.refl _ _).alloc (Nat.le_refl _) _) _
  have hc12 : ∀ i, w2.cell? ⟨w1.heap.size, i, none⟩ = #[Value.int .i64 (rp l rep.toNat).sv, .int .i64 (rp l rep.toNat).ver, .bool true, .int .i64 (rp l rep.toNat).rnd][i]? := fun i => by rw [hw2]; exact World.cell?_alloc_new ..
  have hs12 : w1.heap.size < w2.heap.size := by rw [hw2]; simp
  clear hw2
  have v2 : w2.cell? ⟨w1.heap.size, 2, none⟩ = some (.bool true) := hc12 2
  have v3 : w2.cell? ⟨w1.heap.size, 3, none⟩ = some (.int .i64 (rp l rep.toNat).rnd) := hc12 3
  have t0 := (hb12.cell (p := ⟨w.heap.size + 1, 0, none⟩) hs4).trans x0
  have t1 := (hb12.cell (p := ⟨w.heap.size + 1, 1, none⟩) hs4).trans x1
  have t2 := (hb12.cell (p := ⟨w.heap.size + 1, 2, none⟩) hs4).trans x2
  have hb22 := below_of hb2.out (by omega) hb12
  have haw := Lib.hid (RReps.to ha.out hb22)
  clear hb12 hc12
  go_wp2_with fail
  refine (cloneR_any _ _ l _ haw.out hA.out hn).mono ?_
  rintro e w3 ⟨v, rfl, A1, cc, rfl, hown, hb3⟩
  have v3' := (hb3.cell (p := ⟨w1.heap.size, 3, none⟩) hs12).trans v3
  have hz : w.heap.size + 1 < w2.heap.size := by omega
  have t0' := (hb3.cell (p := ⟨w.heap.size + 1, 0, none⟩) hz).trans t0
  have t1' := (hb3.cell (p := ⟨w.heap.size + 1, 1, none⟩) hz).trans t1
  have t2' := (hb3.cell (p := ⟨w.heap.size + 1, 2, none⟩) hz).trans t2
  obtain ⟨g, rfl, hg, hgl, hcell, hfr⟩ := copy_at (w := w2) (k := rep.toNat) hown (by omega)
  have k1 := hcell 1 (by omega)
  have k3 := hcell 3 (by omega)
  have f1 := hfr (rep.toNat * 4 + 1)
  have f3 := hfr (rep.toNat * 4 + 3)
  unfold rpF rpCell at k1 k3
  have hne : ¬ g = w.heap.size + 1 := by omega
  have hne2 : ¬ w.heap.size + 1 = g := by omega
  have hown0 : w3.ownsRow w.heap.size 40 4 (.slice (some ⟨g, 0, none⟩) l.length cc) l.length (rpRow l) := ⟨hown.1, by
    rcases hown.2 with h | ⟨g', cap, cur, h1, h2, h3⟩
    · exact Or.inl h
    · exact Or.inr ⟨g', cap, cur, h1, by have := hb22.size; omega, h3⟩⟩
  have hb33 := below_of hb22 hb22.size hb3
  have R13 := Lib.hid (cmd_res13 (k := rep.toNat) (ver := ver) (rnd := rnd) hown0 (by omega) (by have := hb22.size; omega) hb33)
  have R31 := Lib.hid (cmd_res31 (k := rep.toNat) (ver := ver) (rnd := rnd) hown0 (by omega) (by have := hb22.size; omega) hb33)
  clear hown hown0 hb3 hb22 hb33 hcell hfr d0 d1 d2 d3 dv t0 t1 t2 x0 x1 x2 y0 y1 y2 y3 v2 v3
  go_wp2_with fail
  have i0 : (0 : Int) ≤ rep := r0
  go_region
  all_goals (go_wp2; go_ret2)
  all_goals (first | exact Ret.mk R13.out | exact Ret.mk R31.out | exact Ret.mk (RRes.alike R13.out (Drawn.of 1)) | exact Ret.mk (RRes.alike R31.out (Drawn.of 1)))
end Go.Proofs.Ytcjnfciemangkaa
