/-
  CONTRACT of sheaveref36.Found: the walk.
  Conditions: those that each theorem names.
-/
import Derived.Test.YtfcimilimojfoaaDoorStQj
namespace Go.Proofs.YtfcimilimojfoaaDoor
open Go.RowKit Go.Sv
theorem own_lt {w : World} {B s n : Nat} {e : TypeId} {v : Value} {xs : List Value} (h : w.ownsRow B e s v n xs) {g : Nat} (hg : w.heap.size ≤ g) : v.ownBlock ≠ some g := by
  rcases h.2 with ⟨rfl, _⟩ | ⟨b, cap, cur, rfl, _, hw, _⟩
  · intro e; cases e
  · intro e
    have e : some b = some g := e
    injection e with e
    have hw : Whole w b _ cur := hw
    have := hw.lt
    omega
structure TBx (w : World) (g : Nat) (v0 v1 v2 v3 v4 v5 : Value) : Prop where
  z : g < w.heap.size
  f : ∀ o : Nat, w.frozen? ⟨g, o, none⟩ = false
  t0 : w.cell? ⟨g, 0, none⟩ = some v0
  t1 : w.cell? ⟨g, 1, none⟩ = some v1
  t2 : w.cell? ⟨g, 2, none⟩ = some v2
  t3 : w.cell? ⟨g, 3, none⟩ = some v3
  t4 : w.cell? ⟨g, 4, none⟩ = some v4
  t5 : w.cell? ⟨g, 5, none⟩ = some v5
theorem TBx.to {w w' : World} {g : Nat} {v0 v1 v2 v3 v4 v5 : Value} (h : TBx w g v0 v1 v2 v3 v4 v5) (hb : Below w.heap.size w w') : TBx w' g v0 v1 v2 v3 v4 v5 :=
  ⟨Nat.lt_of_lt_of_le h.z hb.size, fun o => (hb.frozen (p := ⟨g, o, none⟩) h.z).trans (h.f o), (hb.cell (p := ⟨g, 0, none⟩) h.z).trans h.t0, (hb.cell (p := ⟨g, 1, none⟩) h.z).trans h.t1, (hb.cell (p := ⟨g, 2, none⟩) h.z).trans h.t2,
    (hb.cell (p := ⟨g, 3, none⟩) h.z).trans h.t3, (hb.cell (p := ⟨g, 4, none⟩) h.z).trans h.t4, (hb.cell (p := ⟨g, 5, none⟩) h.z).trans h.t5⟩
theorem TBx.grown {w w' : World} {g : Nat} {row : Option Nat} {v0 v1 v2 v3 v4 v5 : Value} (h : TBx w g v0 v1 v2 v3 v4 v5) (hg : w.grownBy w' row) (hne : row ≠ some g) : TBx w' g v0 v1 v2 v3 v4 v5 :=
  ⟨Nat.lt_of_lt_of_le h.z hg.size, fun o => (hg.frozen_far ⟨g, o, none⟩ h.z (Ne.symm hne)).trans (h.f o), hg.cell h.t0 (Ne.symm hne), hg.cell h.t1 (Ne.symm hne), hg.cell h.t2 (Ne.symm hne), hg.cell h.t3 (Ne.symm hne), hg.cell h.t4 (Ne.symm hne), hg.cell h.t5 (Ne.symm hne)⟩
theorem TBx.push {w w' : World} {g : Nat} {row : Option Nat} {o : Obj} {v0 v1 v2 v3 v4 v5 : Value} (h : TBx w g v0 v1 v2 v3 v4 v5) (hg : (w.alloc o).grownBy w' row) (hne : row ≠ some g) : TBx w' g v0 v1 v2 v3 v4 v5 :=
  (h.to ((Below.refl _ _).alloc (Nat.le_refl _) o)).grown hg hne
theorem ob_push {w : World} {g : Nat} {v v' : Value} (h : v.ownBlock ≠ some g) (hz : g < w.heap.size) (ho : v'.ownBlock = v.ownBlock ∨ v'.ownBlock = some (w.heap.size + 1)) : v'.ownBlock ≠ some g := by
  rcases ho with e | e
  · rw [e]; exact h
  · rw [e]; intro e; injection e with e; omega
set_option maxHeartbeats 8000000 in
set_option maxRecDepth 100000 in
theorem rfound_any (p : Prob) (q : ProbP) (m : Mx) (qm : MixP) (w : World) (hp : RProb w w.heap.size p q) (hm : RMix w w.heap.size m qm) (hok : MOk p m) (h8 : H8 m) :
    Calls Tryd.prog 29 #[probV p q, mixV m qm] w (Ret (OwnC w (foundL p m))) := by
  obtain ⟨W, hW, S⟩ := pm_boxes p q m qm w
  have hsz : w.heap.size + 2 ≤ W.heap.size := by rw [← hW]; simp
  obtain ⟨hv6, ht12, -, -⟩ := prob_small hok.pr
  have HR := Lib.hid (fun (k : Nat) (W2 : World) (h : Below W.heap.size W W2) (hk : k < p.vs.length) => rrun_any m qm k W2 ((hm.to S.bel).to h) (by rw [hok.lb]; exact hk) (by rw [hok.ln]; exact hk) (hok.sv k hk).1 (by have := (hok.sv k hk).2.1; have := vs_le hok.pr hk; omega) (hok.sv k hk).2.2.1 (by have := (hok.sv k hk).2.2.2.1; have := vs_le hok.pr hk; omega))
  have hpW := Lib.hid (fun W2 (h : Below W.heap.size W W2) => (hp.to S.bel).to h)
  have hmW := Lib.hid (fun W2 (h : Below W.heap.size W W2) => (hm.to S.bel).to h)
  have hP0 := Lib.hid (hp.to S.bel)
  have hM0 := Lib.hid (hm.to S.bel)
  obtain ⟨qa0, qc0, qa1, qc1, qa2, qc2, qa3, qc3⟩ := q
  obtain ⟨ma0, mc0, ma1, mc1, ma2, mc2⟩ := qm
  dsimp only at HR hW S ⊢
  obtain ⟨⟨r1, f1, r10, r11, r12, -⟩, ⟨r2, f2, r20, r21, r22, r23, -⟩, -⟩ := S.facts
  have SW := Lib.hid S
  replace hok := Lib.hid hok
  replace h8 := Lib.hid h8
  clear S hp hm
  go_enter Tryd.func29, Tryd.ntmps29
  go_wp2
  clear hW r1 f1 r10 r11 r12 r2 f2 r20 r21 r22 r23
  go_loopw [5, 6, 7, 8, 9, 10, 11] (fun v s6 _ _ _ _ _ wr => ∃ i : Nat, i ≤ p.tabs.length ∧ s6 = .int .i64 (i : Int) ∧ LC W wr (fd1 p m i) v ∧ Below W.heap.size W wr) (fun _ s6 _ _ _ _ _ _ => p.tabs.length - (intOf s6).toNat)
  case atStart => exact ⟨0, Nat.zero_le _, rfl, World.ownsRow_nil _ _ _ _, Below.refl _ _⟩
  case round =>
    obtain ⟨i, hi, rfl, hown, hbel⟩ := hrel
    have T := Lib.hid (SW.out.call hbel)
    obtain ⟨⟨r1, f1, r10, r11, r12, -⟩, ⟨r2, f2, r20, r21, r22, r23, -⟩, -⟩ := T.out.facts
    by_cases hlt : i < p.tabs.length
    · have TF := Lib.hid (tab_facts hok.out.pr hlt)
      obtain ⟨F, hr, hmat⟩ := hP0.out.r3
      obtain ⟨b, off, e4, hb, hc⟩ := hr (by omega)
      dsimp only at e4
      subst e4
      have c0 : wr.cell? ⟨b, off + i * 6, none⟩ = some (.int .i64 (tab p.tabs i).kind) := (hbel.cell (p := ⟨b, off + i * 6, none⟩) hb).trans (hc i hlt 0 (by decide))
      have c1 : wr.cell? ⟨b, off + i * 6 + 1, none⟩ = some (.int .i64 (tab p.tabs i).src) := (hbel.cell (p := ⟨b, off + i * 6 + 1, none⟩) hb).trans (hc i hlt 1 (by decide))
      have c2 : wr.cell? ⟨b, off + i * 6 + 2, none⟩ = some (.int .i64 (tab p.tabs i).dst) := (hbel.cell (p := ⟨b, off + i * 6 + 2, none⟩) hb).trans (hc i hlt 2 (by decide))
      have c3 : wr.cell? ⟨b, off + i * 6 + 3, none⟩ = some (.bool (tab p.tabs i).aware) := (hbel.cell (p := ⟨b, off + i * 6 + 3, none⟩) hb).trans (hc i hlt 3 (by decide))
      have c4 : wr.cell? ⟨b, off + i * 6 + 4, none⟩ = some (.slice (F i).okA (tab p.tabs i).ok.length (F i).okC) := (hbel.cell (p := ⟨b, off + i * 6 + 4, none⟩) hb).trans (hc i hlt 4 (by decide))
      have c5 : wr.cell? ⟨b, off + i * 6 + 5, none⟩ = some (.slice (F i).rwA (tab p.tabs i).rw.length (F i).rwC) := (hbel.cell (p := ⟨b, off + i * 6 + 5, none⟩) hb).trans (hc i hlt 5 (by decide))
      have hbw0 : b < wr.heap.size := Nat.lt_of_lt_of_le hb hbel.size
      have hOK := Lib.hid (hmat i hlt).1
      obtain ⟨a, ha⟩ : ∃ a : Nat, (tab p.tabs i).src = (a : Int) := ⟨(tab p.tabs i).src.toNat, by have := TF.out.s0; omega⟩
      obtain ⟨d, hdd⟩ : ∃ d : Nat, (tab p.tabs i).dst = (d : Int) := ⟨(tab p.tabs i).dst.toNat, by have := TF.out.d0; omega⟩
      have haL : a < p.vs.length := by have := TF.out.s1; omega
      have hdL : d < p.vs.length := by have := TF.out.d1; omega
      have va := vs_le hok.out.pr haL
      have vd := vs_le hok.out.pr hdL
      obtain ⟨nu, hnu⟩ : ∃ n : Nat, gi p.vs a = (n : Int) := ⟨(gi p.vs a).toNat, by omega⟩
      obtain ⟨nv, hnv⟩ : ∃ n : Nat, gi p.vs d = (n : Int) := ⟨(gi p.vs d).toNat, by omega⟩
      have hnu6 : nu ≤ 6 := by omega
      have hnv6 : nv ≤ 6 := by omega
      have hnv1 : 1 ≤ nv := by omega
      have hnu1 : 1 ≤ nu := by omega
      have hol : (tab p.tabs i).ok.length = nu := by have := TF.out.ol; rw [ha, Int.toNat_natCast, hnu] at this; omega
      have hom : ∀ u, u < nu → mlen (tab p.tabs i).ok u = nv := fun u hu => by have := TF.out.om u (by omega); rw [hdd, Int.toNat_natCast, hnv] at this; omega
      have hall2 := Lib.hid (fd2_all (p := p) (m := m) (i := i) (n := nu) (by rw [ha, Int.toNat_natCast, hnu]; omega))
      have hnvN : nvN p i = nv := by unfold nvN; rw [hdd, Int.toNat_natCast, hnv]; omega
      have hfU := Lib.hid (fun u => fU_yes (p := p) (m := m) (i := i) (u := u))
      rw [hnvN] at hfU
      have hfN := Lib.hid (fun u => fU_no (p := p) (m := m) (i := i) (u := u))
      have hfS := Lib.hid (fun u k => fdA_same (p := p) (m := m) (i := i) (u := u) (k := k))
      have hfM := Lib.hid (fun u k => fdA_more (p := p) (m := m) (i := i) (u := u) (k := k))
      have hrS := Lib.hid (fun u k => rdB_succ p m i u k)
      have hrds : rds p m i = run m d := by unfold rds; rw [hdd, Int.toNat_natCast]
      have hwrs : wrs p m i = if stB (tab p.tabs i).kind = true then hd m i else run m a := by unfold wrs Go.Sv.stored; rw [ha, Int.toNat_natCast]
      have hlh := hok.out.lh
      have hA256 : run m a < 256 := run_lt hok.out haL
      have hD256 : run m d < 256 := run_lt hok.out hdL
      have hH256 : hd m i < 256 := hd_lt hok.out hlt
      have hHd := Lib.hid (h8_hd h8.out (k := i) (by rw [hlh]; exact hlt))
      obtain ⟨bv, ov, ev, hbv, hcv⟩ := hP0.out.r0 (by omega)
      have v1 := hcv a haL
      have v2 := hcv d hdL
      obtain ⟨bh, oh, eh, hbh, hch⟩ := hM0.out.r2 (by omega)
      have v3 := hch i (by omega)
      dsimp only at ev eh
      subst ev eh
      unfold iv at v1 v2
      unfold u8v at v3
      rw [hnu] at v1
      rw [hnv] at v2
      rw [hHd.out] at v3
      obtain ⟨⟨oA, oC, rA, rC⟩, hF⟩ : ∃ y, F i = y := ⟨_, rfl⟩
      rw [hF] at c4 c5 hOK
      obtain ⟨x, hx⟩ : ∃ x, wrs p m i = x := ⟨_, rfl⟩
      rw [hx] at hwrs hfU hfN
      obtain ⟨ra, hra⟩ : ∃ x, run m a = x := ⟨_, rfl⟩
      obtain ⟨y, hy⟩ : ∃ x, run m d = x := ⟨_, rfl⟩
      obtain ⟨hh, hhh⟩ : ∃ x, hd m i = x := ⟨_, rfl⟩
      rw [hra] at hwrs hA256
      rw [hy] at hD256
      rw [hhh] at hwrs hH256 v3
      rw [hrds, hy] at hfS hfM hrS
      obtain ⟨⟨kd, sr, ds, aw, ok, rw0⟩, ht⟩ : ∃ t, tab p.tabs i = t := ⟨_, rfl⟩
      rw [ht] at c0 c1 c2 c3 c4 c5 hOK ha hdd hol hom hwrs hfU hfS hfM hrS
      dsimp only at c0 c1 c2 c3 c4 c5 hOK ha hdd hol hom hwrs hfU hfS hfM hrS
      subst ha hdd
      obtain ⟨R, hRa, hRb⟩ := hOK.out
      obtain ⟨bo, oo, eo, hbo, hco⟩ := hRa (by omega)
      subst eo
      rw [hol] at c4
      obtain ⟨sb, hsb⟩ : ∃ sb, stB kd = sb := ⟨_, rfl⟩
      rw [hsb] at hwrs
      obtain ⟨W3, (hW3 : wr.alloc (.cells #[.int .i64 kd, .int .i64 (a : Int), .int .i64 (d : Int), .bool aw, .slice (some ⟨bo, oo, none⟩) nu oC, .slice rA rw0.length rC] 98) = W3), S3, hB3⟩ := fm_boxE T.out 98 [.int .i64 kd, .int .i64 (a : Int), .int .i64 (d : Int), .bool aw, .slice (some ⟨bo, oo, none⟩) nu oC, .slice rA rw0.length rC]
      have hb3 := Lib.hid (hbel.trans (hB3.mono hbel.size))
      have H1 := Lib.hid (HR.out a W3 hb3.out haL)
      rw [hra] at H1
      have HRd := Lib.hid (fun W2 (h : Below W.heap.size W W2) => HR.out d W2 h hdL)
      rw [hy] at HRd
      have H2 := Lib.hid (fun w => rstored_any ⟨kd, a, d, aw, ok, rw0⟩ ⟨some ⟨bo, oo, none⟩, oC, rA, rC⟩ w)
      dsimp only [tabV] at H2
      rw [hol, hsb] at H2
      have hown0 := Lib.hid hown
      replace hbel := Lib.hid hbel
      replace hra := Lib.hid hra
      replace hy := Lib.hid hy
      replace hhh := Lib.hid hhh
      replace hsb := Lib.hid hsb
      replace hx := Lib.hid hx
      replace hF := Lib.hid hF
      replace ht := Lib.hid ht
      replace hnu := Lib.hid hnu
      replace hnv := Lib.hid hnv
      replace hnvN := Lib.hid hnvN
      replace hrds := Lib.hid hrds
      replace hol := Lib.hid hol
      replace hom := Lib.hid hom
      replace hRa := Lib.hid hRa
      replace hRb := Lib.hid hRb
      replace hco := Lib.hid hco
      replace hwrs := Lib.hid hwrs
      replace hlh := Lib.hid hlh
      have jt : (i : Int) < (p.tabs.length : Int) := by omega
      have jv : (a : Int) < (p.vs.length : Int) := by omega
      have jd : (d : Int) < (p.vs.length : Int) := by omega
      have jh : (i : Int) < (m.held.length : Int) := by rw [hlh.out]; omega
      clear hcv hch hc hr hmat hown hOK T
      obtain ⟨⟨zt, ft, t0, t1, t2, t3, t4, t5, -⟩, ⟨s1, h1, s10, s11, s12, -⟩, ⟨s2, h2, s20, s21, s22, s23, -⟩, -⟩ := S3.facts
      replace S3 := Lib.hid S3
      go_wp2_with fail
      clear hW3 c0 c1 c2 c3 c4 c5
      with_reducible refine H1.out.mono ?_
      rintro e' w4 ⟨rfl, hb4⟩
      clear zt ft t0 t1 t2 t3 t4 t5 r1 f1 r10 r11 r12 r2 f2 r20 r21 r22 r23 s1 h1 s10 s11 s12 s2 h2 s20 s21 s22 s23 H1
      have S4 := Lib.hid (S3.out.call hb4)
      have hb4' := Lib.hid (hB3.trans (hb4.mono hB3.size))
      clear hb4
      obtain ⟨⟨zt, ft, t0, t1, t2, t3, t4, t5, -⟩, ⟨r1, f1, r10, r11, r12, -⟩, ⟨r2, f2, r20, r21, r22, r23, -⟩, -⟩ := S4.out.facts
      go_wp2_with fail
      with_reducible refine (H2.out w4).mono ?_
      rintro e' w5 ⟨rfl, hb5⟩
      clear zt ft t0 t1 t2 t3 t4 t5 r1 f1 r10 r11 r12 r2 f2 r20 r21 r22 r23
      have S5 := Lib.hid (S4.out.call hb5)
      have hb5' := Lib.hid (hb4'.out.trans (hb5.mono hb4'.out.size))
      have hbW5 := Lib.hid (hbel.out.trans (hb5'.out.mono hbel.out.size))
      have ho5 : Hid (LC W w5 (fd1 p m i) _) := Lib.hid (own_to hown0.out hb5'.out)
      have hob5 := Lib.hid (own_lt hown0.out (Nat.le_refl wr.heap.size))
      have k3 := (hbW5.out.cell (p := ⟨bh, oh + i, none⟩) hbh).trans v3
      clear hb5 H2 hown0
      obtain ⟨⟨zt, ft, t0, t1, t2, t3, t4, t5, -⟩, ⟨r1, f1, r10, r11, r12, -⟩, ⟨r2, f2, r20, r21, r22, r23, -⟩, -⟩ := S5.out.facts
      have hTB5 := Lib.hid (TBx.mk zt ft t0 t1 t2 t3 t4 t5)
      obtain ⟨gB, hgB⟩ : ∃ g, wr.heap.size = g := ⟨_, rfl⟩
      rw [hgB] at hTB5 hob5
      have hx256 : x < 256 := by
        rw [hwrs.out]; split <;> assumption
      cases sb
      · have e7 : x = ra := hwrs.out.trans (if_neg (by decide))
        rw [← e7]
        replace e7 := Lib.hid e7
        go_wp2
        rename World => wo
        clear zt ft t0 t1 t2 t3 t4 t5 r1 f1 r10 r11 r12 r2 f2 r20 r21 r22 r23
        go_loopw [5, 9, 10, 11] (fun v s9 _ _ wr => ∃ u : Nat, u ≤ nu ∧ s9 = .int .i64 (u : Int) ∧ LC W wr (fd2 p m i u) v ∧ v.ownBlock ≠ some gB ∧ TBx wr gB (.int .i64 kd) (.int .i64 (a : Int)) (.int .i64 (d : Int)) (.bool aw) (.slice (some ⟨bo, oo, none⟩) nu oC) (.slice rA rw0.length rC) ∧ Below W.heap.size W wr) (fun _ s9 _ _ _ => nu - (intOf s9).toNat)
        case atStart => exact ⟨0, Nat.zero_le _, rfl, by rw [fd2_0]; exact ho5.out, hob5.out, hTB5.out, hbW5.out⟩
        case round =>
          obtain ⟨u, hu, rfl, hown, hob, hTB, hbel2⟩ := hrel
          have T := Lib.hid (SW.out.call hbel2)
          obtain ⟨zt, ft, t0, t1, t2, t3, t4, t5⟩ := hTB
          have hTB := Lib.hid (TBx.mk zt ft t0 t1 t2 t3 t4 t5)
          obtain ⟨⟨r1, f1, r10, r11, r12, -⟩, ⟨r2, f2, r20, r21, r22, r23, -⟩, -⟩ := T.out.facts
          have g1 := (hbel2.cell (p := ⟨bv, ov + a, none⟩) hbv).trans v1
          by_cases hlt2 : u < nu
          · have ju : (u : Int) < (nu : Int) := by omega
            have H3 := Lib.hid (rhas_any x u hx256 (by omega) wr)
            have hNo := Lib.hid (fun h => (fd2_next p m i u).trans (by rw [hfN.out u h, List.append_nil]))
            have hYes := Lib.hid (fun h => (fd2_next p m i u).trans (by rw [hfU.out u h]))
            obtain ⟨bw, ow, ew, hbw, hcw⟩ := hRb.out u (by rw [hol.out]; exact hlt2) (by rw [hom.out u hlt2]; omega)
            have hrow := hco.out u (by rw [hol.out]; exact hlt2)
            rw [ew, hom.out u hlt2] at hrow
            rw [hom.out u hlt2] at hcw
            replace hcw := Lib.hid hcw
            have hLu := Lib.hid (fd2_len hok.out.pr m i u)
            have hF0 := Lib.hid (fdA_0 p m i u)
            have hFl := Lib.hid (fun k => fdA_len p m i u k)
            have hfS2 := Lib.hid (fun k => hfS.out u k)
            have hfM2 := Lib.hid (fun k => hfM.out u k)
            have hrS2 := Lib.hid (fun k => hrS.out u k)
            obtain ⟨L0, hL0⟩ : ∃ L, fd2 p m i u = L := ⟨_, rfl⟩
            rw [hL0] at hown hNo hYes hLu
            have hO := Lib.hid hown
            replace hob := Lib.hid hob
            replace hbel2 := Lib.hid hbel2
            replace hL0 := Lib.hid hL0
            clear hown ew
            go_wp2_with fail
            with_reducible refine H3.out.mono ?_
            rintro e' w' ⟨rfl, hww⟩
            subst hww
            cases hxu : x.testBit u with
            | false =>
              have hO2 : Hid (LC W wr (fd2 p m i (u + 1)) _) := Lib.hid (by rw [hNo.out hxu]; exact hO.out)
              replace hxu := Lib.hid hxu
              go_wp2
              go_roundw
              case rel => exact ⟨u + 1, by omega, by go_num, hO2.out, hob.out, hTB.out, hbel2.out⟩
              case measure => simp [intOf]; omega
            | true =>
              have hYes2 := Lib.hid (hYes.out hxu)
              replace hxu := Lib.hid hxu
              go_wp2
              rename World => wu
              clear zt ft t0 t1 t2 t3 t4 t5 r1 f1 r10 r11 r12 r2 f2 r20 r21 r22 r23 g1 T
              go_loopw [5, 10, 11] (fun v s10 s11 wr => ∃ k : Nat, k ≤ nv ∧ s11 = .int .i64 (k : Int) ∧ s10 = .bool (rdB p m i u k) ∧ LC W wr (L0 ++ fdA p m i u k) v ∧ v.ownBlock ≠ some gB ∧ TBx wr gB (.int .i64 kd) (.int .i64 (a : Int)) (.int .i64 (d : Int)) (.bool aw) (.slice (some ⟨bo, oo, none⟩) nu oC) (.slice rA rw0.length rC) ∧ Below W.heap.size W wr) (fun _ _ s11 _ => nv - (intOf s11).toNat)
              case atStart => exact ⟨0, Nat.zero_le _, rfl, rfl, by rw [hF0.out, List.append_nil]; exact hO.out, hob.out, hTB.out, hbel2.out⟩
              case round =>
                clear hO hbel2 hob hTB
                obtain ⟨k, hk, rfl, rfl, hown, hob, hTB, hbel3⟩ := hrel
                have T := Lib.hid (SW.out.call hbel3)
                obtain ⟨zt, ft, t0, t1, t2, t3, t4, t5⟩ := hTB
                have hTB := Lib.hid (TBx.mk zt ft t0 t1 t2 t3 t4 t5)
                replace hob := Lib.hid hob
                obtain ⟨⟨r1, f1, r10, r11, r12, -⟩, ⟨r2, f2, r20, r21, r22, r23, -⟩, -⟩ := T.out.facts
                have g2 := (hbel3.cell (p := ⟨bv, ov + d, none⟩) hbv).trans v2
                have hO := Lib.hid hown
                have hLk := Lib.hid (hFl.out k)
                by_cases hlt3 : k < nv
                · have jk : (k : Int) < (nv : Int) := by omega
                  have H4 := Lib.hid (HRd.out wr hbel3)
                  have hfS3 := Lib.hid (hfS2.out k)
                  have hfM3 := Lib.hid (hfM2.out k)
                  have hrS3 := Lib.hid (hrS2.out k)
                  obtain ⟨rd, hrd⟩ : ∃ rd, rdB p m i u k = rd := ⟨_, rfl⟩
                  obtain ⟨L1, hL1⟩ : ∃ L, fdA p m i u k = L := ⟨_, rfl⟩
                  obtain ⟨mm, hmm⟩ : ∃ b, mat ok u k = b := ⟨_, rfl⟩
                  have hrc := hcw.out k hlt3
                  rw [hrd] at hrS3 ⊢
                  rw [hL1] at hO hfS3 hfM3 hLk
                  rw [hmm] at hrS3 hfS3 hfM3 hrc
                  replace hbel3 := Lib.hid hbel3
                  replace hrd := Lib.hid hrd
                  replace hL1 := Lib.hid hL1
                  replace hmm := Lib.hid hmm
                  clear hown
                  go_wp2_with fail
                  with_reducible refine H4.out.mono ?_
                  rintro e' w6 ⟨rfl, hb6⟩
                  clear zt ft t0 t1 t2 t3 t4 t5 r1 f1 r10 r11 r12 r2 f2 r20 r21 r22 r23 g2 H4
                  have S6 := Lib.hid (T.out.call hb6)
                  have hb7 := Lib.hid (hbel3.out.trans (hb6.mono hbel3.out.size))
                  have hO6 := Lib.hid (own_to hO.out hb6)
                  have hTB6 := Lib.hid (hTB.out.to hb6)
                  have hBs : W.heap.size ≤ w6.heap.size := hb7.out.size
                  obtain ⟨zt, ft, t0, t1, t2, t3, t4, t5⟩ := hTB6.out
                  obtain ⟨⟨r1, f1, r10, r11, r12, -⟩, ⟨r2, f2, r20, r21, r22, r23, -⟩, -⟩ := S6.out.facts
                  have g3 := (hb7.out.cell (p := ⟨bo, oo + u, none⟩) hbo).trans hrow
                  have g4 := (hb7.out.cell (p := ⟨bw, ow + k, none⟩) hbw).trans hrc
                  have H5 := Lib.hid (rhas_any y k hD256 (by omega) w6)
                  clear hb6 hO T hbel3 hrc hTB
                  go_wp2_with fail
                  with_reducible refine H5.out.mono ?_
                  rintro e' w' ⟨rfl, hww⟩
                  subst hww
                  cases hyk : y.testBit k with
                  | false =>
                    have hO7 : Hid (LC W w6 (L0 ++ fdA p m i u (k + 1)) _) := Lib.hid (by rw [hfS3.out (by simp [hyk])]; exact hO6.out)
                    have hr7 := Lib.hid (hrS3.out.trans (by rw [hyk, Bool.false_and, Bool.or_false]))
                    replace hyk := Lib.hid hyk
                    go_wp2
                    go_roundw
                    case rel => exact ⟨k + 1, by omega, by go_num, by rw [hr7.out], hO7.out, hob.out, hTB6.out, hb7.out⟩
                    case measure => simp [intOf]; omega
                  | true =>
                    rw [hyk, Bool.true_and] at hrS3
                    have hS4 := Lib.hid (fun (h : (aw || mm) = true) => hfS3.out (by rw [hyk, Bool.not_true, Bool.false_or]; exact h))
                    have hM4 := Lib.hid (fun h1 h2 => hfM3.out h1 hyk h2)
                    replace hyk := Lib.hid hyk
                    clear hfS3 hfM3
                    rcases Bool.eq_false_or_eq_true aw with haw | haw
                    · rw [haw] at t3
                      rcases Bool.eq_false_or_eq_true mm with hmm2 | hmm2
                      · rw [hmm2] at g4
                        rcases Bool.eq_false_or_eq_true rd with hrd2 | hrd2
                        · rw [hrd2]
                          have hr7 : Hid (rdB p m i u (k + 1) = true) := Lib.hid (by rw [hrS3.out, hrd2, hmm2]; rfl)
                          have hO7 : Hid (LC W w6 (L0 ++ fdA p m i u (k + 1)) _) := Lib.hid (by rw [hS4.out (by rw [haw, hmm2]; rfl)]; exact hO6.out)
                          clear hS4 hM4 hrS3
                          replace haw := Lib.hid haw
                          replace hrd2 := Lib.hid hrd2
                          replace hmm2 := Lib.hid hmm2
                          go_wp2
                          go_roundw
                          case rel => exact ⟨k + 1, by omega, by go_num, by rw [hr7.out], hO7.out, hob.out, hTB6.out, hb7.out⟩
                          case measure => simp [intOf]; omega
                        · rw [hrd2]
                          have hr7 : Hid (rdB p m i u (k + 1) = true) := Lib.hid (by rw [hrS3.out, hrd2, hmm2]; rfl)
                          have hO7 : Hid (LC W w6 (L0 ++ fdA p m i u (k + 1)) _) := Lib.hid (by rw [hS4.out (by rw [haw, hmm2]; rfl)]; exact hO6.out)
                          clear hS4 hM4 hrS3
                          replace haw := Lib.hid haw
                          replace hrd2 := Lib.hid hrd2
                          replace hmm2 := Lib.hid hmm2
                          go_wp2
                          go_roundw
                          case rel => exact ⟨k + 1, by omega, by go_num, by rw [hr7.out], hO7.out, hob.out, hTB6.out, hb7.out⟩
                          case measure => simp [intOf]; omega
                      · rw [hmm2] at g4
                        rcases Bool.eq_false_or_eq_true rd with hrd2 | hrd2
                        · rw [hrd2]
                          have hr7 : Hid (rdB p m i u (k + 1) = true) := Lib.hid (by rw [hrS3.out, hrd2, hmm2]; rfl)
                          have hO7 : Hid (LC W w6 (L0 ++ fdA p m i u (k + 1)) _) := Lib.hid (by rw [hS4.out (by rw [haw, hmm2]; rfl)]; exact hO6.out)
                          clear hS4 hM4 hrS3
                          replace haw := Lib.hid haw
                          replace hrd2 := Lib.hid hrd2
                          replace hmm2 := Lib.hid hmm2
                          go_wp2
                          go_roundw
                          case rel => exact ⟨k + 1, by omega, by go_num, by rw [hr7.out], hO7.out, hob.out, hTB6.out, hb7.out⟩
                          case measure => simp [intOf]; omega
                        · rw [hrd2]
                          have hr7 : Hid (rdB p m i u (k + 1) = false) := Lib.hid (by rw [hrS3.out, hrd2, hmm2]; rfl)
                          have hO7 : Hid (LC W w6 (L0 ++ fdA p m i u (k + 1)) _) := Lib.hid (by rw [hS4.out (by rw [haw, hmm2]; rfl)]; exact hO6.out)
                          clear hS4 hM4 hrS3
                          replace haw := Lib.hid haw
                          replace hrd2 := Lib.hid hrd2
                          replace hmm2 := Lib.hid hmm2
                          go_wp2
                          go_roundw
                          case rel => exact ⟨k + 1, by omega, by go_num, by rw [hr7.out], hO7.out, hob.out, hTB6.out, hb7.out⟩
                          case measure => simp [intOf]; omega
                    · rw [haw] at t3
                      rcases Bool.eq_false_or_eq_true mm with hmm2 | hmm2
                      · rw [hmm2] at g4
                        rcases Bool.eq_false_or_eq_true rd with hrd2 | hrd2
                        · rw [hrd2]
                          have hr7 : Hid (rdB p m i u (k + 1) = true) := Lib.hid (by rw [hrS3.out, hrd2, hmm2]; rfl)
                          have hO7 : Hid (LC W w6 (L0 ++ fdA p m i u (k + 1)) _) := Lib.hid (by rw [hS4.out (by rw [haw, hmm2]; rfl)]; exact hO6.out)
                          clear hS4 hM4 hrS3
                          replace haw := Lib.hid haw
                          replace hrd2 := Lib.hid hrd2
                          replace hmm2 := Lib.hid hmm2
                          go_wp2
                          go_roundw
                          case rel => exact ⟨k + 1, by omega, by go_num, by rw [hr7.out], hO7.out, hob.out, hTB6.out, hb7.out⟩
                          case measure => simp [intOf]; omega
                        · rw [hrd2]
                          have hr7 : Hid (rdB p m i u (k + 1) = true) := Lib.hid (by rw [hrS3.out, hrd2, hmm2]; rfl)
                          have hO7 : Hid (LC W w6 (L0 ++ fdA p m i u (k + 1)) _) := Lib.hid (by rw [hS4.out (by rw [haw, hmm2]; rfl)]; exact hO6.out)
                          clear hS4 hM4 hrS3
                          replace haw := Lib.hid haw
                          replace hrd2 := Lib.hid hrd2
                          replace hmm2 := Lib.hid hmm2
                          go_wp2
                          go_roundw
                          case rel => exact ⟨k + 1, by omega, by go_num, by rw [hr7.out], hO7.out, hob.out, hTB6.out, hb7.out⟩
                          case measure => simp [intOf]; omega
                      · rw [hmm2] at g4
                        rcases Bool.eq_false_or_eq_true rd with hrd2 | hrd2
                        · rw [hrd2]
                          have hr7 : Hid (rdB p m i u (k + 1) = true) := Lib.hid (by rw [hrS3.out, hrd2, hmm2]; rfl)
                          have hMo := Lib.hid (hM4.out haw hmm2)
                          clear hS4 hM4 hrS3
                          replace haw := Lib.hid haw
                          replace hrd2 := Lib.hid hrd2
                          replace hmm2 := Lib.hid hmm2
                          go_wp2_with (at_builtin; refine push_own elCf rfl _ _ rfl W.heap.size _ (L0 ++ L1).length (cfRow (L0 ++ L1)) hO6.out rfl [.int .i64 (i : Int), .int .i64 (u : Int), .int .i64 (k : Int)] rfl rfl rfl (by have := hLu.out; have := hLk.out; rw [List.length_append]; omega) (by omega) hBs ?_)
                          intro v' w8 hown8 hgr hb8 hs8 hob8
                          have hO8 : Hid (LC W w8 (L0 ++ fdA p m i u (k + 1)) v') := Lib.hid (lc_next (l := L0 ++ L1) (c := ⟨i, u, k⟩) (by rw [List.length_append]; exact hown8) (by rw [hMo.out, List.append_assoc]))
                          have hb9 : Hid (Below W.heap.size W w8) := Lib.hid (hb7.out.trans hb8)
                          have hTB8 := Lib.hid (hTB6.out.push hgr hob.out)
                          have hob9 := Lib.hid (ob_push hob.out zt hob8)
                          clear hown8 hgr hb8 hs8 hob8 zt ft t0 t1 t2 t3 t4 t5 r1 f1 r10 r11 r12 r2 f2 r20 r21 r22 r23 g3 g4
                          go_wp2
                          go_roundw
                          case rel => exact ⟨k + 1, by omega, by go_num, by rw [hr7.out], hO8.out, hob9.out, hTB8.out, hb9.out⟩
                          case measure => simp [intOf]; omega
                        · rw [hrd2]
                          have hr7 : Hid (rdB p m i u (k + 1) = false) := Lib.hid (by rw [hrS3.out, hrd2, hmm2]; rfl)
                          have hMo := Lib.hid (hM4.out haw hmm2)
                          clear hS4 hM4 hrS3
                          replace haw := Lib.hid haw
                          replace hrd2 := Lib.hid hrd2
                          replace hmm2 := Lib.hid hmm2
                          go_wp2_with (at_builtin; refine push_own elCf rfl _ _ rfl W.heap.size _ (L0 ++ L1).length (cfRow (L0 ++ L1)) hO6.out rfl [.int .i64 (i : Int), .int .i64 (u : Int), .int .i64 (k : Int)] rfl rfl rfl (by have := hLu.out; have := hLk.out; rw [List.length_append]; omega) (by omega) hBs ?_)
                          intro v' w8 hown8 hgr hb8 hs8 hob8
                          have hO8 : Hid (LC W w8 (L0 ++ fdA p m i u (k + 1)) v') := Lib.hid (lc_next (l := L0 ++ L1) (c := ⟨i, u, k⟩) (by rw [List.length_append]; exact hown8) (by rw [hMo.out, List.append_assoc]))
                          have hb9 : Hid (Below W.heap.size W w8) := Lib.hid (hb7.out.trans hb8)
                          have hTB8 := Lib.hid (hTB6.out.push hgr hob.out)
                          have hob9 := Lib.hid (ob_push hob.out zt hob8)
                          clear hown8 hgr hb8 hs8 hob8 zt ft t0 t1 t2 t3 t4 t5 r1 f1 r10 r11 r12 r2 f2 r20 r21 r22 r23 g3 g4
                          go_wp2
                          go_roundw
                          case rel => exact ⟨k + 1, by omega, by go_num, by rw [hr7.out], hO8.out, hob9.out, hTB8.out, hb9.out⟩
                          case measure => simp [intOf]; omega
                · obtain rfl : k = nv := by omega
                  obtain ⟨rd, hrd⟩ : ∃ rd, rdB p m i u k = rd := ⟨_, rfl⟩
                  obtain ⟨L1, hL1⟩ : ∃ L, fdA p m i u k = L := ⟨_, rfl⟩
                  have hY := Lib.hid hYes2.out
                  rw [hrd, hL1] at hY
                  rw [hrd]
                  rw [hL1] at hO hLk
                  have hBs : W.heap.size ≤ wr.heap.size := hbel3.size
                  replace hbel3 := Lib.hid hbel3
                  replace hrd := Lib.hid hrd
                  replace hL1 := Lib.hid hL1
                  clear hown hlt3
                  rcases Bool.eq_false_or_eq_true aw with haw | haw
                  · rw [haw] at t3
                    rcases Bool.eq_false_or_eq_true rd with hrd2 | hrd2
                    · rw [hrd2]
                      have hO7 : Hid (LC W wr (fd2 p m i (u + 1)) _) := Lib.hid (by rw [hY.out, haw, hrd2, if_neg (by decide), List.append_nil]; exact hO.out)
                      clear hY
                      replace haw := Lib.hid haw
                      replace hrd2 := Lib.hid hrd2
                      go_wp2
                      go_roundw
                      case rel => exact ⟨u + 1, by omega, by go_num, hO7.out, hob.out, hTB.out, hbel3.out⟩
                      case measure => simp [intOf]; omega
                    · rw [hrd2]
                      have hMo : Hid (fd2 p m i (u + 1) = L0 ++ (L1 ++ [⟨i, u, -1⟩])) := Lib.hid (by rw [hY.out, haw, hrd2]; rfl)
                      clear hY
                      replace haw := Lib.hid haw
                      replace hrd2 := Lib.hid hrd2
                      go_wp2_with (at_builtin; refine push_own elCf rfl _ _ rfl W.heap.size _ (L0 ++ L1).length (cfRow (L0 ++ L1)) hO.out rfl [.int .i64 (i : Int), .int .i64 (u : Int), .int .i64 (-1)] rfl rfl rfl (by have := hLu.out; have := hLk.out; rw [List.length_append]; omega) (by omega) hBs ?_)
                      intro v' w8 hown8 hgr hb8 hs8 hob8
                      have hO8 : Hid (LC W w8 (fd2 p m i (u + 1)) v') := Lib.hid (lc_next (l := L0 ++ L1) (c := ⟨i, u, -1⟩) (by rw [List.length_append]; exact hown8) (by rw [hMo.out, List.append_assoc]))
                      have hb9 : Hid (Below W.heap.size W w8) := Lib.hid (hbel3.out.trans hb8)
                      have hTB8 := Lib.hid (hTB.out.push hgr hob.out)
                      have hob9 := Lib.hid (ob_push hob.out zt hob8)
                      clear hown8 hgr hb8 hs8 hob8 zt ft t0 t1 t2 t3 t4 t5 r1 f1 r10 r11 r12 r2 f2 r20 r21 r22 r23
                      go_wp2
                      go_roundw
                      case rel => exact ⟨u + 1, by omega, by go_num, hO8.out, hob9.out, hTB8.out, hb9.out⟩
                      case measure => simp [intOf]; omega
                  · rw [haw] at t3
                    have hO7 : Hid (LC W wr (fd2 p m i (u + 1)) _) := Lib.hid (by rw [hY.out, haw, Bool.false_and, if_neg (by decide), List.append_nil]; exact hO.out)
                    clear hY
                    replace haw := Lib.hid haw
                    go_wp2
                    go_roundw
                    case rel => exact ⟨u + 1, by omega, by go_num, hO7.out, hob.out, hTB.out, hbel3.out⟩
                    case measure => simp [intOf]; omega
          · obtain rfl : u = nu := by omega
            have hO : Hid (LC W wr (fd1 p m (i + 1)) _) := Lib.hid (hall2.out ▸ hown)
            have hbF := Lib.hid hbel2
            clear hbel2
            clear hown hlt2
            go_wp2
            go_roundw
            case rel => exact ⟨i + 1, by omega, by go_num, hO.out, hbF.out⟩
            case measure => simp [intOf]; omega
      · have e7 : x = hh := hwrs.out.trans (if_pos rfl)
        rw [← e7] at k3
        replace e7 := Lib.hid e7
        go_wp2
        rename World => wo
        clear zt ft t0 t1 t2 t3 t4 t5 r1 f1 r10 r11 r12 r2 f2 r20 r21 r22 r23
        go_loopw [5, 9, 10, 11] (fun v s9 _ _ wr => ∃ u : Nat, u ≤ nu ∧ s9 = .int .i64 (u : Int) ∧ LC W wr (fd2 p m i u) v ∧ v.ownBlock ≠ some gB ∧ TBx wr gB (.int .i64 kd) (.int .i64 (a : Int)) (.int .i64 (d : Int)) (.bool aw) (.slice (some ⟨bo, oo, none⟩) nu oC) (.slice rA rw0.length rC) ∧ Below W.heap.size W wr) (fun _ s9 _ _ _ => nu - (intOf s9).toNat)
        case atStart => exact ⟨0, Nat.zero_le _, rfl, by rw [fd2_0]; exact ho5.out, hob5.out, hTB5.out, hbW5.out⟩
        case round =>
          obtain ⟨u, hu, rfl, hown, hob, hTB, hbel2⟩ := hrel
          have T := Lib.hid (SW.out.call hbel2)
          obtain ⟨zt, ft, t0, t1, t2, t3, t4, t5⟩ := hTB
          have hTB := Lib.hid (TBx.mk zt ft t0 t1 t2 t3 t4 t5)
          obtain ⟨⟨r1, f1, r10, r11, r12, -⟩, ⟨r2, f2, r20, r21, r22, r23, -⟩, -⟩ := T.out.facts
          have g1 := (hbel2.cell (p := ⟨bv, ov + a, none⟩) hbv).trans v1
          by_cases hlt2 : u < nu
          · have ju : (u : Int) < (nu : Int) := by omega
            have H3 := Lib.hid (rhas_any x u hx256 (by omega) wr)
            have hNo := Lib.hid (fun h => (fd2_next p m i u).trans (by rw [hfN.out u h, List.append_nil]))
            have hYes := Lib.hid (fun h => (fd2_next p m i u).trans (by rw [hfU.out u h]))
            obtain ⟨bw, ow, ew, hbw, hcw⟩ := hRb.out u (by rw [hol.out]; exact hlt2) (by rw [hom.out u hlt2]; omega)
            have hrow := hco.out u (by rw [hol.out]; exact hlt2)
            rw [ew, hom.out u hlt2] at hrow
            rw [hom.out u hlt2] at hcw
            replace hcw := Lib.hid hcw
            have hLu := Lib.hid (fd2_len hok.out.pr m i u)
            have hF0 := Lib.hid (fdA_0 p m i u)
            have hFl := Lib.hid (fun k => fdA_len p m i u k)
            have hfS2 := Lib.hid (fun k => hfS.out u k)
            have hfM2 := Lib.hid (fun k => hfM.out u k)
            have hrS2 := Lib.hid (fun k => hrS.out u k)
            obtain ⟨L0, hL0⟩ : ∃ L, fd2 p m i u = L := ⟨_, rfl⟩
            rw [hL0] at hown hNo hYes hLu
            have hO := Lib.hid hown
            replace hob := Lib.hid hob
            replace hbel2 := Lib.hid hbel2
            replace hL0 := Lib.hid hL0
            clear hown ew
            go_wp2_with fail
            with_reducible refine H3.out.mono ?_
            rintro e' w' ⟨rfl, hww⟩
            subst hww
            cases hxu : x.testBit u with
            | false =>
              have hO2 : Hid (LC W wr (fd2 p m i (u + 1)) _) := Lib.hid (by rw [hNo.out hxu]; exact hO.out)
              replace hxu := Lib.hid hxu
              go_wp2
              go_roundw
              case rel => exact ⟨u + 1, by omega, by go_num, hO2.out, hob.out, hTB.out, hbel2.out⟩
              case measure => simp [intOf]; omega
            | true =>
              have hYes2 := Lib.hid (hYes.out hxu)
              replace hxu := Lib.hid hxu
              go_wp2
              rename World => wu
              clear zt ft t0 t1 t2 t3 t4 t5 r1 f1 r10 r11 r12 r2 f2 r20 r21 r22 r23 g1 T
              go_loopw [5, 10, 11] (fun v s10 s11 wr => ∃ k : Nat, k ≤ nv ∧ s11 = .int .i64 (k : Int) ∧ s10 = .bool (rdB p m i u k) ∧ LC W wr (L0 ++ fdA p m i u k) v ∧ v.ownBlock ≠ some gB ∧ TBx wr gB (.int .i64 kd) (.int .i64 (a : Int)) (.int .i64 (d : Int)) (.bool aw) (.slice (some ⟨bo, oo, none⟩) nu oC) (.slice rA rw0.length rC) ∧ Below W.heap.size W wr) (fun _ _ s11 _ => nv - (intOf s11).toNat)
              case atStart => exact ⟨0, Nat.zero_le _, rfl, rfl, by rw [hF0.out, List.append_nil]; exact hO.out, hob.out, hTB.out, hbel2.out⟩
              case round =>
                clear hO hbel2 hob hTB
                obtain ⟨k, hk, rfl, rfl, hown, hob, hTB, hbel3⟩ := hrel
                have T := Lib.hid (SW.out.call hbel3)
                obtain ⟨zt, ft, t0, t1, t2, t3, t4, t5⟩ := hTB
                have hTB := Lib.hid (TBx.mk zt ft t0 t1 t2 t3 t4 t5)
                replace hob := Lib.hid hob
                obtain ⟨⟨r1, f1, r10, r11, r12, -⟩, ⟨r2, f2, r20, r21, r22, r23, -⟩, -⟩ := T.out.facts
                have g2 := (hbel3.cell (p := ⟨bv, ov + d, none⟩) hbv).trans v2
                have hO := Lib.hid hown
                have hLk := Lib.hid (hFl.out k)
                by_cases hlt3 : k < nv
                · have jk : (k : Int) < (nv : Int) := by omega
                  have H4 := Lib.hid (HRd.out wr hbel3)
                  have hfS3 := Lib.hid (hfS2.out k)
                  have hfM3 := Lib.hid (hfM2.out k)
                  have hrS3 := Lib.hid (hrS2.out k)
                  obtain ⟨rd, hrd⟩ : ∃ rd, rdB p m i u k = rd := ⟨_, rfl⟩
                  obtain ⟨L1, hL1⟩ : ∃ L, fdA p m i u k = L := ⟨_, rfl⟩
                  obtain ⟨mm, hmm⟩ : ∃ b, mat ok u k = b := ⟨_, rfl⟩
                  have hrc := hcw.out k hlt3
                  rw [hrd] at hrS3 ⊢
                  rw [hL1] at hO hfS3 hfM3 hLk
                  rw [hmm] at hrS3 hfS3 hfM3 hrc
                  replace hbel3 := Lib.hid hbel3
                  replace hrd := Lib.hid hrd
                  replace hL1 := Lib.hid hL1
                  replace hmm := Lib.hid hmm
                  clear hown
                  go_wp2_with fail
                  with_reducible refine H4.out.mono ?_
                  rintro e' w6 ⟨rfl, hb6⟩
                  clear zt ft t0 t1 t2 t3 t4 t5 r1 f1 r10 r11 r12 r2 f2 r20 r21 r22 r23 g2 H4
                  have S6 := Lib.hid (T.out.call hb6)
                  have hb7 := Lib.hid (hbel3.out.trans (hb6.mono hbel3.out.size))
                  have hO6 := Lib.hid (own_to hO.out hb6)
                  have hTB6 := Lib.hid (hTB.out.to hb6)
                  have hBs : W.heap.size ≤ w6.heap.size := hb7.out.size
                  obtain ⟨zt, ft, t0, t1, t2, t3, t4, t5⟩ := hTB6.out
                  obtain ⟨⟨r1, f1, r10, r11, r12, -⟩, ⟨r2, f2, r20, r21, r22, r23, -⟩, -⟩ := S6.out.facts
                  have g3 := (hb7.out.cell (p := ⟨bo, oo + u, none⟩) hbo).trans hrow
                  have g4 := (hb7.out.cell (p := ⟨bw, ow + k, none⟩) hbw).trans hrc
                  have H5 := Lib.hid (rhas_any y k hD256 (by omega) w6)
                  clear hb6 hO T hbel3 hrc hTB
                  go_wp2_with fail
                  with_reducible refine H5.out.mono ?_
                  rintro e' w' ⟨rfl, hww⟩
                  subst hww
                  cases hyk : y.testBit k with
                  | false =>
                    have hO7 : Hid (LC W w6 (L0 ++ fdA p m i u (k + 1)) _) := Lib.hid (by rw [hfS3.out (by simp [hyk])]; exact hO6.out)
                    have hr7 := Lib.hid (hrS3.out.trans (by rw [hyk, Bool.false_and, Bool.or_false]))
                    replace hyk := Lib.hid hyk
                    go_wp2
                    go_roundw
                    case rel => exact ⟨k + 1, by omega, by go_num, by rw [hr7.out], hO7.out, hob.out, hTB6.out, hb7.out⟩
                    case measure => simp [intOf]; omega
                  | true =>
                    rw [hyk, Bool.true_and] at hrS3
                    have hS4 := Lib.hid (fun (h : (aw || mm) = true) => hfS3.out (by rw [hyk, Bool.not_true, Bool.false_or]; exact h))
                    have hM4 := Lib.hid (fun h1 h2 => hfM3.out h1 hyk h2)
                    replace hyk := Lib.hid hyk
                    clear hfS3 hfM3
                    rcases Bool.eq_false_or_eq_true aw with haw | haw
                    · rw [haw] at t3
                      rcases Bool.eq_false_or_eq_true mm with hmm2 | hmm2
                      · rw [hmm2] at g4
                        rcases Bool.eq_false_or_eq_true rd with hrd2 | hrd2
                        · rw [hrd2]
                          have hr7 : Hid (rdB p m i u (k + 1) = true) := Lib.hid (by rw [hrS3.out, hrd2, hmm2]; rfl)
                          have hO7 : Hid (LC W w6 (L0 ++ fdA p m i u (k + 1)) _) := Lib.hid (by rw [hS4.out (by rw [haw, hmm2]; rfl)]; exact hO6.out)
                          clear hS4 hM4 hrS3
                          replace haw := Lib.hid haw
                          replace hrd2 := Lib.hid hrd2
                          replace hmm2 := Lib.hid hmm2
                          go_wp2
                          go_roundw
                          case rel => exact ⟨k + 1, by omega, by go_num, by rw [hr7.out], hO7.out, hob.out, hTB6.out, hb7.out⟩
                          case measure => simp [intOf]; omega
                        · rw [hrd2]
                          have hr7 : Hid (rdB p m i u (k + 1) = true) := Lib.hid (by rw [hrS3.out, hrd2, hmm2]; rfl)
                          have hO7 : Hid (LC W w6 (L0 ++ fdA p m i u (k + 1)) _) := Lib.hid (by rw [hS4.out (by rw [haw, hmm2]; rfl)]; exact hO6.out)
                          clear hS4 hM4 hrS3
                          replace haw := Lib.hid haw
                          replace hrd2 := Lib.hid hrd2
                          replace hmm2 := Lib.hid hmm2
                          go_wp2
                          go_roundw
                          case rel => exact ⟨k + 1, by omega, by go_num, by rw [hr7.out], hO7.out, hob.out, hTB6.out, hb7.out⟩
                          case measure => simp [intOf]; omega
                      · rw [hmm2] at g4
                        rcases Bool.eq_false_or_eq_true rd with hrd2 | hrd2
                        · rw [hrd2]
                          have hr7 : Hid (rdB p m i u (k + 1) = true) := Lib.hid (by rw [hrS3.out, hrd2, hmm2]; rfl)
                          have hO7 : Hid (LC W w6 (L0 ++ fdA p m i u (k + 1)) _) := Lib.hid (by rw [hS4.out (by rw [haw, hmm2]; rfl)]; exact hO6.out)
                          clear hS4 hM4 hrS3
                          replace haw := Lib.hid haw
                          replace hrd2 := Lib.hid hrd2
                          replace hmm2 := Lib.hid hmm2
                          go_wp2
                          go_roundw
                          case rel => exact ⟨k + 1, by omega, by go_num, by rw [hr7.out], hO7.out, hob.out, hTB6.out, hb7.out⟩
                          case measure => simp [intOf]; omega
                        · rw [hrd2]
                          have hr7 : Hid (rdB p m i u (k + 1) = false) := Lib.hid (by rw [hrS3.out, hrd2, hmm2]; rfl)
                          have hO7 : Hid (LC W w6 (L0 ++ fdA p m i u (k + 1)) _) := Lib.hid (by rw [hS4.out (by rw [haw, hmm2]; rfl)]; exact hO6.out)
                          clear hS4 hM4 hrS3
                          replace haw := Lib.hid haw
                          replace hrd2 := Lib.hid hrd2
                          replace hmm2 := Lib.hid hmm2
                          go_wp2
                          go_roundw
                          case rel => exact ⟨k + 1, by omega, by go_num, by rw [hr7.out], hO7.out, hob.out, hTB6.out, hb7.out⟩
                          case measure => simp [intOf]; omega
                    · rw [haw] at t3
                      rcases Bool.eq_false_or_eq_true mm with hmm2 | hmm2
                      · rw [hmm2] at g4
                        rcases Bool.eq_false_or_eq_true rd with hrd2 | hrd2
                        · rw [hrd2]
                          have hr7 : Hid (rdB p m i u (k + 1) = true) := Lib.hid (by rw [hrS3.out, hrd2, hmm2]; rfl)
                          have hO7 : Hid (LC W w6 (L0 ++ fdA p m i u (k + 1)) _) := Lib.hid (by rw [hS4.out (by rw [haw, hmm2]; rfl)]; exact hO6.out)
                          clear hS4 hM4 hrS3
                          replace haw := Lib.hid haw
                          replace hrd2 := Lib.hid hrd2
                          replace hmm2 := Lib.hid hmm2
                          go_wp2
                          go_roundw
                          case rel => exact ⟨k + 1, by omega, by go_num, by rw [hr7.out], hO7.out, hob.out, hTB6.out, hb7.out⟩
                          case measure => simp [intOf]; omega
                        · rw [hrd2]
                          have hr7 : Hid (rdB p m i u (k + 1) = true) := Lib.hid (by rw [hrS3.out, hrd2, hmm2]; rfl)
                          have hO7 : Hid (LC W w6 (L0 ++ fdA p m i u (k + 1)) _) := Lib.hid (by rw [hS4.out (by rw [haw, hmm2]; rfl)]; exact hO6.out)
                          clear hS4 hM4 hrS3
                          replace haw := Lib.hid haw
                          replace hrd2 := Lib.hid hrd2
                          replace hmm2 := Lib.hid hmm2
                          go_wp2
                          go_roundw
                          case rel => exact ⟨k + 1, by omega, by go_num, by rw [hr7.out], hO7.out, hob.out, hTB6.out, hb7.out⟩
                          case measure => simp [intOf]; omega
                      · rw [hmm2] at g4
                        rcases Bool.eq_false_or_eq_true rd with hrd2 | hrd2
                        · rw [hrd2]
                          have hr7 : Hid (rdB p m i u (k + 1) = true) := Lib.hid (by rw [hrS3.out, hrd2, hmm2]; rfl)
                          have hMo := Lib.hid (hM4.out haw hmm2)
                          clear hS4 hM4 hrS3
                          replace haw := Lib.hid haw
                          replace hrd2 := Lib.hid hrd2
                          replace hmm2 := Lib.hid hmm2
                          go_wp2_with (at_builtin; refine push_own elCf rfl _ _ rfl W.heap.size _ (L0 ++ L1).length (cfRow (L0 ++ L1)) hO6.out rfl [.int .i64 (i : Int), .int .i64 (u : Int), .int .i64 (k : Int)] rfl rfl rfl (by have := hLu.out; have := hLk.out; rw [List.length_append]; omega) (by omega) hBs ?_)
                          intro v' w8 hown8 hgr hb8 hs8 hob8
                          have hO8 : Hid (LC W w8 (L0 ++ fdA p m i u (k + 1)) v') := Lib.hid (lc_next (l := L0 ++ L1) (c := ⟨i, u, k⟩) (by rw [List.length_append]; exact hown8) (by rw [hMo.out, List.append_assoc]))
                          have hb9 : Hid (Below W.heap.size W w8) := Lib.hid (hb7.out.trans hb8)
                          have hTB8 := Lib.hid (hTB6.out.push hgr hob.out)
                          have hob9 := Lib.hid (ob_push hob.out zt hob8)
                          clear hown8 hgr hb8 hs8 hob8 zt ft t0 t1 t2 t3 t4 t5 r1 f1 r10 r11 r12 r2 f2 r20 r21 r22 r23 g3 g4
                          go_wp2
                          go_roundw
                          case rel => exact ⟨k + 1, by omega, by go_num, by rw [hr7.out], hO8.out, hob9.out, hTB8.out, hb9.out⟩
                          case measure => simp [intOf]; omega
                        · rw [hrd2]
                          have hr7 : Hid (rdB p m i u (k + 1) = false) := Lib.hid (by rw [hrS3.out, hrd2, hmm2]; rfl)
                          have hMo := Lib.hid (hM4.out haw hmm2)
                          clear hS4 hM4 hrS3
                          replace haw := Lib.hid haw
                          replace hrd2 := Lib.hid hrd2
                          replace hmm2 := Lib.hid hmm2
                          go_wp2_with (at_builtin; refine push_own elCf rfl _ _ rfl W.heap.size _ (L0 ++ L1).length (cfRow (L0 ++ L1)) hO6.out rfl [.int .i64 (i : Int), .int .i64 (u : Int), .int .i64 (k : Int)] rfl rfl rfl (by have := hLu.out; have := hLk.out; rw [List.length_append]; omega) (by omega) hBs ?_)
                          intro v' w8 hown8 hgr hb8 hs8 hob8
                          have hO8 : Hid (LC W w8 (L0 ++ fdA p m i u (k + 1)) v') := Lib.hid (lc_next (l := L0 ++ L1) (c := ⟨i, u, k⟩) (by rw [List.length_append]; exact hown8) (by rw [hMo.out, List.append_assoc]))
                          have hb9 : Hid (Below W.heap.size W w8) := Lib.hid (hb7.out.trans hb8)
                          have hTB8 := Lib.hid (hTB6.out.push hgr hob.out)
                          have hob9 := Lib.hid (ob_push hob.out zt hob8)
                          clear hown8 hgr hb8 hs8 hob8 zt ft t0 t1 t2 t3 t4 t5 r1 f1 r10 r11 r12 r2 f2 r20 r21 r22 r23 g3 g4
                          go_wp2
                          go_roundw
                          case rel => exact ⟨k + 1, by omega, by go_num, by rw [hr7.out], hO8.out, hob9.out, hTB8.out, hb9.out⟩
                          case measure => simp [intOf]; omega
                · obtain rfl : k = nv := by omega
                  obtain ⟨rd, hrd⟩ : ∃ rd, rdB p m i u k = rd := ⟨_, rfl⟩
                  obtain ⟨L1, hL1⟩ : ∃ L, fdA p m i u k = L := ⟨_, rfl⟩
                  have hY := Lib.hid hYes2.out
                  rw [hrd, hL1] at hY
                  rw [hrd]
                  rw [hL1] at hO hLk
                  have hBs : W.heap.size ≤ wr.heap.size := hbel3.size
                  replace hbel3 := Lib.hid hbel3
                  replace hrd := Lib.hid hrd
                  replace hL1 := Lib.hid hL1
                  clear hown hlt3
                  rcases Bool.eq_false_or_eq_true aw with haw | haw
                  · rw [haw] at t3
                    rcases Bool.eq_false_or_eq_true rd with hrd2 | hrd2
                    · rw [hrd2]
                      have hO7 : Hid (LC W wr (fd2 p m i (u + 1)) _) := Lib.hid (by rw [hY.out, haw, hrd2, if_neg (by decide), List.append_nil]; exact hO.out)
                      clear hY
                      replace haw := Lib.hid haw
                      replace hrd2 := Lib.hid hrd2
                      go_wp2
                      go_roundw
                      case rel => exact ⟨u + 1, by omega, by go_num, hO7.out, hob.out, hTB.out, hbel3.out⟩
                      case measure => simp [intOf]; omega
                    · rw [hrd2]
                      have hMo : Hid (fd2 p m i (u + 1) = L0 ++ (L1 ++ [⟨i, u, -1⟩])) := Lib.hid (by rw [hY.out, haw, hrd2]; rfl)
                      clear hY
                      replace haw := Lib.hid haw
                      replace hrd2 := Lib.hid hrd2
                      go_wp2_with (at_builtin; refine push_own elCf rfl _ _ rfl W.heap.size _ (L0 ++ L1).length (cfRow (L0 ++ L1)) hO.out rfl [.int .i64 (i : Int), .int .i64 (u : Int), .int .i64 (-1)] rfl rfl rfl (by have := hLu.out; have := hLk.out; rw [List.length_append]; omega) (by omega) hBs ?_)
                      intro v' w8 hown8 hgr hb8 hs8 hob8
                      have hO8 : Hid (LC W w8 (fd2 p m i (u + 1)) v') := Lib.hid (lc_next (l := L0 ++ L1) (c := ⟨i, u, -1⟩) (by rw [List.length_append]; exact hown8) (by rw [hMo.out, List.append_assoc]))
                      have hb9 : Hid (Below W.heap.size W w8) := Lib.hid (hbel3.out.trans hb8)
                      have hTB8 := Lib.hid (hTB.out.push hgr hob.out)
                      have hob9 := Lib.hid (ob_push hob.out zt hob8)
                      clear hown8 hgr hb8 hs8 hob8 zt ft t0 t1 t2 t3 t4 t5 r1 f1 r10 r11 r12 r2 f2 r20 r21 r22 r23
                      go_wp2
                      go_roundw
                      case rel => exact ⟨u + 1, by omega, by go_num, hO8.out, hob9.out, hTB8.out, hb9.out⟩
                      case measure => simp [intOf]; omega
                  · rw [haw] at t3
                    have hO7 : Hid (LC W wr (fd2 p m i (u + 1)) _) := Lib.hid (by rw [hY.out, haw, Bool.false_and, if_neg (by decide), List.append_nil]; exact hO.out)
                    clear hY
                    replace haw := Lib.hid haw
                    go_wp2
                    go_roundw
                    case rel => exact ⟨u + 1, by omega, by go_num, hO7.out, hob.out, hTB.out, hbel3.out⟩
                    case measure => simp [intOf]; omega
          · obtain rfl : u = nu := by omega
            have hO : Hid (LC W wr (fd1 p m (i + 1)) _) := Lib.hid (hall2.out ▸ hown)
            have hbF := Lib.hid hbel2
            clear hbel2
            clear hown hlt2
            go_wp2
            go_roundw
            case rel => exact ⟨i + 1, by omega, by go_num, hO.out, hbF.out⟩
            case measure => simp [intOf]; omega
    · obtain rfl : i = p.tabs.length := by omega
      have hR := Lib.hid (OwnC.of (w := w) (l := foundL p m) (own_base hown SW.out.size) T.out.bel)
      clear hown hlt hbel
      go_wp2
      go_ret
      exact Ret.mk hR.out
end Go.Proofs.YtfcimilimojfoaaDoor
