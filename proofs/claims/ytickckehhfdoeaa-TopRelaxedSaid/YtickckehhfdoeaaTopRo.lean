/-
  THE LAW sheavetop.TopRelaxed: it returns true.
  Conditions: none but the arguments' form.
-/
import Derived.Test.YtickckehhfdoeaaTr3
import Derived.Deep.CutBlock
import Derived.Deep.RegionHeld3
namespace Go.Proofs.Ytickckehhfdoeaa
open Go.RowKit Go.Sv
def u16v (l : List Int) (k : Nat) : Value := .int .u16 (gi l k)
theorem cells4_far {w : World} {p : Addr} {u : Value} {a0 a1 a2 a3 : Addr} {v0 v1 v2 v3 : Value} (hB : p.block ≠ a0.block ∧ p.block ≠ a1.block ∧ p.block ≠ a2.block ∧ p.block ≠ a3.block) (h : w.cell? a0 = some v0 ∧ w.cell? a1 = some v1 ∧ w.cell? a2 = some v2 ∧ w.cell? a3 = some v3) :
    (w.setCell p u).cell? a0 = some v0 ∧ (w.setCell p u).cell? a1 = some v1 ∧ (w.setCell p u).cell? a2 = some v2 ∧ (w.setCell p u).cell? a3 = some v3 := by
  have t : ∀ (a : Addr) (v : Value), p.block ≠ a.block → w.cell? a = some v → (w.setCell p u).cell? a = some v := fun a v l e => (World.cell?_setCell_far w p a u l).trans e
  obtain ⟨h0, h1, h2, h3⟩ := h
  obtain ⟨l0, l1, l2, l3⟩ := hB
  exact ⟨t _ _ l0 h0, t _ _ l1 h1, t _ _ l2 h2, t _ _ l3 h3⟩
theorem cells4_fard {w : World} {p : Addr} {u : Value} {a0 a1 a2 a3 : Addr} {v0 v1 v2 v3 : Value} (hB : p.block ≠ a0.block ∧ p.block ≠ a1.block ∧ p.block ≠ a2.block ∧ p.block ≠ a3.block) (h : w.drew.cell? a0 = some v0 ∧ w.drew.cell? a1 = some v1 ∧ w.drew.cell? a2 = some v2 ∧ w.drew.cell? a3 = some v3) :
    (w.setCell p u).drew.cell? a0 = some v0 ∧ (w.setCell p u).drew.cell? a1 = some v1 ∧ (w.setCell p u).drew.cell? a2 = some v2 ∧ (w.setCell p u).drew.cell? a3 = some v3 := cells4_far (w := w) hB h
theorem RlI.drew {p ρ : Prob} {w w3 wr : World} {b4 : Nat} {qp : ProbP} {F : Nat → TabP} {G C H D : Nat → Nat → Nat} {L : Nat → Nat} {R : List Bx} (h : RlI p w w3 b4 qp F G C H D L R ρ wr) : RlI p w w3 b4 qp F G C H D L R ρ wr.drew := by
  have hd : Below wr.heap.size wr wr.drew := ((Drawn.refl wr).drew).below
  exact ⟨h.rx, h.px.to hd, h.fm.drew, h.bel.trans (hd.mono h.bel.size), h.lt, h.hR, h.hw⟩
set_option maxHeartbeats 8000000 in
set_option maxRecDepth 100000 in
theorem law_relaxed (d : Dra) (q : ProbP) (x : DMx) (r : MixP) (Am : Option Addr) (cm : Nat) (ms : List Int) (w : World) (hd : RDra w w.heap.size d q) (hbd : DBd d) (hx : RDmx w w.heap.size x r) (hxb : MDBd x)
    (hm : Arr w w.heap.size Am ms.length (u16v ms)) (h16 : ∀ k, k < ms.length → 0 ≤ gi ms k ∧ gi ms k ≤ 65535) :
    Calls Try.prog 4 #[draV d q, dmxV x r, .slice Am ms.length cm] w fun e w' => e = .returned (.bool true) ∧ Below w.heap.size w w' := by
  obtain ⟨qa0, qc0, qa1, qc1, qa2, qc2, qa3, qc3⟩ := q
  obtain ⟨ra0, rc0, ra1, rc1, ra2, rc2⟩ := r
  obtain ⟨W, hW, hWs, S⟩ : ∃ W, (w.alloc (.cells #[.slice qa0 d.vs.length qc0, .slice qa1 d.now.length qc1, .slice qa2 d.tgt.length qc2, .slice qa3 d.lk.length qc3] 32)).alloc (.cells #[.slice ra0 x.base.length rc0, .slice ra1 x.next.length rc1, .slice ra2 x.held.length rc2] 34) = W ∧ W.heap.size = w.heap.size + 2 ∧
      Fm w W [⟨w.heap.size + 1, 34, [.slice ra0 x.base.length rc0, .slice ra1 x.next.length rc1, .slice ra2 x.held.length rc2]⟩, ⟨w.heap.size, 32, [.slice qa0 d.vs.length qc0, .slice qa1 d.now.length qc1, .slice qa2 d.tgt.length qc2, .slice qa3 d.lk.length qc3]⟩] [] := ⟨_, rfl, by simp, ((Fm.init w).box 32 _).box' 34 _ (by simp)⟩
  have HS := Lib.hid (small40_any d ⟨qa0, qc0, qa1, qc1, qa2, qc2, qa3, qc3⟩ W ((hd.below S.bel).more S.bel.size) hbd)
  have HAw := Lib.hid (fun W' => awake_any W')
  have hmW := Lib.hid (fun W' (hb : Below w.heap.size w W') => (hm.below hb).more hb.size)
  have hxW := Lib.hid (fun W' (hb : Below w.heap.size w W') => (hx.below hb).more hb.size)
  have hmo : Hid (0 < ms.length → ∃ bM oM, Am = some ⟨bM, oM, none⟩ ∧ bM < w.heap.size ∧ ∀ W', Below w.heap.size w W' → ∀ k, k < ms.length → W'.cell? ⟨bM, oM + k, none⟩ = some (.int .u16 (gi ms k))) := Lib.hid (fun h => by
    obtain ⟨bM, oM, e, hb, hc⟩ := hm h
    exact ⟨bM, oM, e, hb, fun W' hb' k hk => (hb'.cell (p := ⟨bM, oM + k, none⟩) hb).trans (hc k hk)⟩)
  have SW := Lib.hid S
  obtain ⟨⟨zx, fx, x0, x1, x2, -⟩, ⟨zd, fd, d0, d1, d2, d3, -⟩, -⟩ := S.facts
  replace h16 := Lib.hid h16
  replace hxb := Lib.hid hxb
  replace hWs := Lib.hid hWs
  clear S hd hbd hx hm
  go_enter Try.func4, Try.ntmps4
  go_wp2_with fail
  clear hW
  with_reducible refine HS.out.mono ?_
  rintro e' w1 ⟨_, rfl, hb1, hv⟩
  have S1 := SW.out.call hb1
  have hs1 := hb1.size
  clear HS SW hb1 zx fx x0 x1 x2 zd fd d0 d1 d2 d3
  rcases hv with ⟨hs, ⟨y0, v0, y1, v1, y2, v2, y3, v3⟩, A9, n9, c9, b9, rfl, hP1, hn1⟩ | ⟨-, rfl⟩
  case inr =>
    obtain ⟨⟨zx, fx, x0, x1, x2, -⟩, ⟨zd, fd, d0, d1, d2, d3, -⟩, -⟩ := S1.facts
    go_upto_region 2 with fail
    obtain ⟨W2, hW2, S2, hb2⟩ := fm_boxE S1 39 [.slice none 0 0, .slice none 0 0, .slice none 0 0, .slice none 0 0]
    try rw [hW2]
    clear hW2 hb2 S1 zx fx x0 x1 x2 zd fd d0 d1 d2 d3
    replace S2 := Lib.hid S2
    go_wp2_with fail
    with_reducible refine (HAw.out _).mono ?_
    rintro e' w3 ⟨rfl, hb3⟩
    have S3 := Lib.hid (S2.out.call hb3)
    clear hb3
    go_wp2_with fail
    with_reducible refine (HAw.out _).mono ?_
    rintro e' w4 ⟨rfl, hb4⟩
    have S4 := Lib.hid (S3.out.call hb4)
    clear hb4
    go_wp2
    go_ret
    exact ⟨rfl, S4.out.bel⟩
  have hp0 := dProb_ok hs.1 hs.2
  have hpb := dProb_bd hs.1 hs.2
  have hps := prob_small hp0
  obtain ⟨p, hpd⟩ : ∃ p, dProb d = p := ⟨_, rfl⟩
  rw [hpd] at hp0 hpb hps hP1 hn1 ⊢
  replace hpd := Lib.hid hpd
  have k0 : p.vs.length ≤ 6 := hps.1
  have k1 : p.now.length ≤ 6 := by omega
  have k2 : p.tgt.length ≤ 6 := by omega
  have k3 : p.tabs.length ≤ 12 := by omega
  dsimp only at hn1
  clear hps
  obtain ⟨⟨zx, fx, x0, x1, x2, -⟩, ⟨zd, fd, d0, d1, d2, d3, -⟩, -⟩ := S1.facts
  go_upto_region 2 with fail
  obtain ⟨W2, (hW2 : w1.alloc (.cells #[.slice y0 p.vs.length v0, .slice y1 p.now.length v1, .slice y2 p.tgt.length v2, .slice y3 p.tabs.length v3] 39) = W2), S2, hB2⟩ := fm_boxE S1 39 [.slice y0 p.vs.length v0, .slice y1 p.now.length v1, .slice y2 p.tgt.length v2, .slice y3 p.tabs.length v3]
  have hP2 := Lib.hid (hP1.to hB2)
  replace S2 := Lib.hid S2
  try rw [hW2]
  clear hW2 S1 hP1 hB2 zx fx x0 x1 x2 zd fd d0 d1 d2 d3
  replace hn1 := Lib.hid hn1
  replace hp0 := Lib.hid hp0
  replace hpb := Lib.hid hpb
  replace hs := Lib.hid hs
  obtain ⟨⟨zp, fp, p0, p1, p2, p3, -⟩, -⟩ := S2.out.facts
  go_wp2_with fail
  with_reducible refine (HAw.out _).mono ?_
  rintro e' w3 ⟨rfl, hb3⟩
  have S3 := Lib.hid (S2.out.call hb3)
  have hP3 := Lib.hid (hP2.out.to hb3)
  have hs3 := hb3.size
  have zp3 := Lib.hid (Nat.lt_of_lt_of_le zp hs3)
  clear hb3 S2 hP2 zp fp p0 p1 p2 p3
  obtain ⟨⟨zp, fp, p0, p1, p2, p3, -⟩, -⟩ := S3.out.facts
  cases b9 with
  | false =>
    go_wp2_with fail
    with_reducible refine (HAw.out _).mono ?_
    rintro e' w4 ⟨rfl, hb4⟩
    have S4 := Lib.hid (S3.out.call hb4)
    clear hb4 zp fp p0 p1 p2 p3
    go_wp2
    go_ret
    exact ⟨rfl, S4.out.bel⟩
  | true =>
  have HB := Lib.hid (rbetween_any p ⟨y0, v0, y1, v1, y2, v2, y3, v3⟩ w3 hP3.out hpb.out hp0.out)
  go_wp2_with fail
  with_reducible refine HB.out.mono ?_
  rintro e' w4 ⟨_, rfl, hb4, ⟨z0, t0, z1, t1, z2, t2, z3, t3⟩, F, G, C, H, D, L, rfl, hX4⟩
  have S4 := S3.out.call hb4
  have hP4 := Lib.hid (hP3.out.to hb4)
  have hs4 := hb4.size
  have hbel4 := hb4
  clear hb4 S3 HB zp fp p0 p1 p2 p3
  obtain ⟨⟨zp, fp, p0, p1, p2, p3, -⟩, -⟩ := S4.facts
  go_upto_region 5 with fail
  obtain ⟨W5, (hW5 : w4.alloc (.cells #[.slice z0 p.vs.length t0, .slice z1 p.now.length t1, .slice z2 p.tgt.length t2, .slice z3 p.tabs.length t3] 39) = W5), S5, hB5⟩ := fm_boxE S4 39 [.slice z0 p.vs.length t0, .slice z1 p.now.length t1, .slice z2 p.tgt.length t2, .slice z3 p.tabs.length t3]
  have hws : w.heap.size + 2 ≤ w1.heap.size := by have := hWs.out; omega
  have hs2 : w1.heap.size < w3.heap.size := zp3.out
  have hI0 : Hid (RlI p w w3 w4.heap.size ⟨z0, t0, z1, t1, z2, t2, z3, t3⟩ F G C H D L [⟨w1.heap.size, 39, [.slice y0 p.vs.length v0, .slice y1 p.now.length v1, .slice y2 p.tgt.length v2, .slice y3 p.tabs.length v3]⟩, ⟨w.heap.size + 1, 34, [.slice ra0 x.base.length rc0, .slice ra1 x.next.length rc1, .slice ra2 x.held.length rc2]⟩, ⟨w.heap.size, 32, [.slice qa0 d.vs.length qc0, .slice qa1 d.now.length qc1, .slice qa2 d.tgt.length qc2, .slice qa3 d.lk.length qc3]⟩] p W5) := Lib.hid ⟨RX.refl hp0.out hpb.out, hX4.to hB5, S5, hbel4.trans (hB5.mono hs4), hX4.mm.tp, (by
    intro b hb
    simp only [List.mem_cons, List.not_mem_nil, or_false] at hb
    rcases hb with rfl | rfl | rfl <;> dsimp only <;> omega), (by omega)⟩
  have hz5 : w4.heap.size < W5.heap.size := by rw [← hW5]; simp
  clear S4 hB5 hX4 hbel4 S5 zp fp p0 p1 p2 p3
  rw [hW5]
  clear hW5
  obtain ⟨⟨zq, fq, q0, q1, q2, q3, -⟩, -⟩ := hI0.out.fm.facts
  replace hs2 := Lib.hid hs2
  replace hws := Lib.hid hws
  go_upto_block 0 with fail
  go_cut [] (fun wx => ∃ ρ, Hid (RlI p w w3 w4.heap.size ⟨z0, t0, z1, t1, z2, t2, z3, t3⟩ F G C H D L [⟨w1.heap.size, 39, [.slice y0 p.vs.length v0, .slice y1 p.now.length v1, .slice y2 p.tgt.length v2, .slice y3 p.tabs.length v3]⟩, ⟨w.heap.size + 1, 34, [.slice ra0 x.base.length rc0, .slice ra1 x.next.length rc1, .slice ra2 x.held.length rc2]⟩, ⟨w.heap.size, 32, [.slice qa0 d.vs.length qc0, .slice qa1 d.now.length qc1, .slice qa2 d.tgt.length qc2, .slice qa3 d.lk.length qc3]⟩] ρ wx))
  case first =>
    go_wp2
    go_loopw [50] (fun s50 wr => ∃ (i : Nat) (ρ : Prob), s50 = .int .i64 (i : Int) ∧ i ≤ p.tabs.length ∧ Hid (RlI p w w3 w4.heap.size ⟨z0, t0, z1, t1, z2, t2, z3, t3⟩ F G C H D L [⟨w1.heap.size, 39, [.slice y0 p.vs.length v0, .slice y1 p.now.length v1, .slice y2 p.tgt.length v2, .slice y3 p.tabs.length v3]⟩, ⟨w.heap.size + 1, 34, [.slice ra0 x.base.length rc0, .slice ra1 x.next.length rc1, .slice ra2 x.held.length rc2]⟩, ⟨w.heap.size, 32, [.slice qa0 d.vs.length qc0, .slice qa1 d.now.length qc1, .slice qa2 d.tgt.length qc2, .slice qa3 d.lk.length qc3]⟩] ρ wr)) (fun s50 _ => p.tabs.length - (intOf s50).toNat)
    case atStart => exact ⟨0, p, rfl, Nat.zero_le _, hI0⟩
    case round =>
      clear hI0 zq fq q0 q1 q2 q3
      obtain ⟨i, ρ, rfl, hi, hI⟩ := hrel
      obtain ⟨⟨zq, fq, q0, q1, q2, q3, -⟩, -⟩ := hI.out.fm.facts
      by_cases hlt : i < p.tabs.length
      · have ji : (i : Int) < (p.tabs.length : Int) := by omega
        by_cases hmi : ms.length ≤ i
        · have jm : (ms.length : Int) ≤ (i : Int) := by omega
          go_wp2
          go_meet
          exact ⟨ρ, hI⟩
        · have jm : ¬ (ms.length : Int) ≤ (i : Int) := by omega
          have jm2 : (i : Int) < (ms.length : Int) := by omega
          obtain ⟨bM, oM, rfl, hbM, hcM⟩ := hmo.out (by omega)
          obtain ⟨g3, e3⟩ := hI.out.a3 (by omega)
          dsimp only at e3
          subst e3
          obtain ⟨d3, _⟩ := hI.out.t3 hlt rfl
          have dm := tab_dims hp0.out hlt
          obtain ⟨n, hn⟩ : ∃ n, (tab p.tabs i).ok.length = n := ⟨_, rfl⟩
          have hn6 : n ≤ 6 := by have := dm.ol; omega
          rw [hn] at d3
          have hml := Lib.hid dm.om
          rw [hn] at hml
          replace hn := Lib.hid hn
          replace hcM := Lib.hid hcM
          clear hmi dm
          go_wp2_with fail
          clear zq fq q0 q1 q2 q3 d3
          go_loopw [64] (fun s64 wr2 => ∃ (u : Nat) (ρ2 : Prob), s64 = .int .i64 (u : Int) ∧ u ≤ n ∧ Hid (RlI p w w3 w4.heap.size ⟨z0, t0, z1, t1, z2, t2, (some ⟨g3, 0, none⟩), t3⟩ F G C H D L [⟨w1.heap.size, 39, [.slice y0 p.vs.length v0, .slice y1 p.now.length v1, .slice y2 p.tgt.length v2, .slice y3 p.tabs.length v3]⟩, ⟨w.heap.size + 1, 34, [.slice ra0 x.base.length rc0, .slice ra1 x.next.length rc1, .slice ra2 x.held.length rc2]⟩, ⟨w.heap.size, 32, [.slice qa0 d.vs.length qc0, .slice qa1 d.now.length qc1, .slice qa2 d.tgt.length qc2, .slice qa3 d.lk.length qc3]⟩] ρ2 wr2)) (fun s64 _ => n - (intOf s64).toNat)
          case atStart => exact ⟨0, ρ, rfl, Nat.zero_le _, hI⟩
          case round =>
            clear hI
            obtain ⟨u, ρ2, rfl, hu, hI2⟩ := hrel
            obtain ⟨⟨zq, fq, q0, q1, q2, q3, -⟩, -⟩ := hI2.out.fm.facts
            by_cases hlu : u < n
            · have ju : (u : Int) < (n : Int) := by omega
              obtain ⟨g4, e4⟩ := hI2.out.a4 hlt (by have := hn.out; omega)
              obtain ⟨d3, _⟩ := hI2.out.t3 hlt rfl
              obtain ⟨d4, _⟩ := hI2.out.t4 hlt (u := u) (by have := hn.out; omega) e4
              obtain ⟨k, hk⟩ : ∃ k, mlen (tab p.tabs i).ok u = k := ⟨_, rfl⟩
              have hk6 : k ≤ 6 := by have := hml.out u hlu; omega
              rw [e4, hn.out] at d3
              rw [hk] at d4
              replace hk := Lib.hid hk
              replace e4 := Lib.hid e4
              go_wp2_with fail
              clear zq fq q0 q1 q2 q3 d3 d4
              go_loopw [77] (fun s77 wr3 => ∃ (v : Nat) (ρ3 : Prob), s77 = .int .i64 (v : Int) ∧ v ≤ k ∧ Hid (RlI p w w3 w4.heap.size ⟨z0, t0, z1, t1, z2, t2, (some ⟨g3, 0, none⟩), t3⟩ F G C H D L [⟨w1.heap.size, 39, [.slice y0 p.vs.length v0, .slice y1 p.now.length v1, .slice y2 p.tgt.length v2, .slice y3 p.tabs.length v3]⟩, ⟨w.heap.size + 1, 34, [.slice ra0 x.base.length rc0, .slice ra1 x.next.length rc1, .slice ra2 x.held.length rc2]⟩, ⟨w.heap.size, 32, [.slice qa0 d.vs.length qc0, .slice qa1 d.now.length qc1, .slice qa2 d.tgt.length qc2, .slice qa3 d.lk.length qc3]⟩] ρ3 wr3)) (fun s77 _ => k - (intOf s77).toNat)
              case atStart => exact ⟨0, ρ2, rfl, Nat.zero_le _, hI2⟩
              case round =>
                clear hI2
                obtain ⟨v, ρ3, rfl, hv, hI3⟩ := hrel
                by_cases hlv : v < k
                · have jv : (v : Int) < (k : Int) := by omega
                  have hun : u < (tab p.tabs i).ok.length := by rw [hn.out]; exact hlu
                  have hvk : v < mlen (tab p.tabs i).ok u := by rw [hk.out]; exact hlv
                  obtain ⟨d3, n3⟩ := hI3.out.t3 hlt rfl
                  obtain ⟨d4, n4⟩ := hI3.out.t4 hlt hun e4.out
                  obtain ⟨d5, f5⟩ := hI3.out.t5 hlt hun hvk
                  have n3 := n3 u hun
                  obtain ⟨b5, b6, b7⟩ := hI3.out.blk hlt hun
                  have dM := hcM.out _ hI3.out.fm.bel i (by omega)
                  obtain ⟨m0, m1⟩ := h16.out i (by omega)
                  have hset := Lib.hid (fun b => hI3.out.set hlt hun hvk b)
                  rw [e4.out, hn.out] at d3
                  rw [hk.out] at d4
                  obtain ⟨⟨zq, fq, q0, q1, q2, q3, -⟩, -⟩ := hI3.out.fm.facts
                  obtain ⟨gu, hgu⟩ : ∃ g, G i u = g := ⟨_, rfl⟩
                  obtain ⟨cu, hcu⟩ : ∃ c, C i u = c := ⟨_, rfl⟩
                  obtain ⟨c4, hc4⟩ : ∃ c, (F i).okC = c := ⟨_, rfl⟩
                  obtain ⟨mv, hmv⟩ : ∃ z, gi ms i = z := ⟨_, rfl⟩
                  obtain ⟨bo, hbo⟩ : ∃ z, mat (tab ρ3.tabs i).ok u v = z := ⟨_, rfl⟩
                  rw [hgu] at d4 d5 f5 n3 n4 b5 b6 b7 hset
                  rw [hcu] at d4
                  rw [hc4] at d3
                  rw [hmv] at dM m0 m1
                  rw [hbo] at d5 hset
                  have nM : gu ≠ bM := by have := hI3.out.hw; omega
                  have nq : gu ≠ w4.heap.size := by omega
                  have nE : w4.heap.size ≠ gu := by omega
                  have nF : bM ≠ gu := by omega
                  have e1 : IntKind.i64.wrap (3 * (u : Int)) = 3 * (u : Int) := by simp [IntKind.wrap, IntKind.bits, IntKind.signed]; omega
                  have e2 : IntKind.i64.wrap (3 * (u : Int) + (v : Int)) = 3 * (u : Int) + (v : Int) := by simp [IntKind.wrap, IntKind.bits, IntKind.signed]; omega
                  have e3 : (0 : Int) ≤ 3 * (u : Int) + (v : Int) := by omega
                  clear hun hvk hgu hcu hc4 hmv hbo
                  go_upto_region 15 with fail
                  cases bo with
                  | false =>
                    refine wp_region_noPanic ?_
                    refine wp_region_held_drew (S := (fun w' => w'.cell? ⟨w4.heap.size, 3, none⟩ = some (.slice (some ⟨g3, 0, none⟩) p.tabs.length t3) ∧ w'.cell? ⟨g3, i * 6 + 4, none⟩ = some (.slice (some ⟨g4, 0, none⟩) n c4) ∧ w'.cell? ⟨g4, u, none⟩ = some (.slice (some ⟨gu, 0, none⟩) k cu) ∧ w'.cell? ⟨bM, oM + i, none⟩ = some (.int .u16 mv))) (by kernel_rfl) ?_ (fun hHeld => ?_)
                    · exact ⟨q3, d3, d4, dM⟩
                    refine wpAnyH_take (i := 0) (oi := { dst := some 80, op := Op.fieldAddr 39 (Operand.tmp 10) 3, type := 0, pos := "top46.go:270", after := #[], guard := none }) (v := ?u1) rfl (by kernel_rfl) (by kernel_rfl) (by kernel_rfl) (fun _ _ _ h => h) (Or.inl ⟨by rfl, ?hz1⟩) (by with_reducible assumption) ?rst1
                    case hz1 => (intro wS hSw; (try dsimp only at hSw); (go_simp <;> with_reducible rfl))
                    try simp only [Act.put, List.setIfInBounds_toArray, List.set_cons_zero, List.set_cons_succ]
                    refine wpAnyH_take (i := 1) (oi := { dst := some 81, op := Op.load 37 (Operand.tmp 80), type := 37, pos := "top46.go:270", after := #[{ on := 0, ground := Ground.data }], guard := none }) (v := ?u2) rfl (by kernel_rfl) (by kernel_rfl) (by kernel_rfl) (fun _ _ _ h => h) (Or.inl ⟨by rfl, ?hz2⟩) (by with_reducible assumption) ?rst2
                    case hz2 => (intro wS hSw; (try dsimp only at hSw); (go_simp <;> with_reducible rfl))
                    try simp only [Act.put, List.setIfInBounds_toArray, List.set_cons_zero, List.set_cons_succ]
                    refine wpAnyH_take (i := 2) (oi := { dst := some 82, op := Op.move (Operand.tmp 12), type := 3, pos := "top46.go:270", after := #[], guard := none }) (v := ?u3) rfl (by kernel_rfl) (by kernel_rfl) (by kernel_rfl) (fun _ _ _ h => h) (Or.inl ⟨by rfl, ?hz3⟩) (by with_reducible assumption) ?rst3
                    case hz3 => (intro wS hSw; (try dsimp only at hSw); (go_simp <;> with_reducible rfl))
                    try simp only [Act.put, List.setIfInBounds_toArray, List.set_cons_zero, List.set_cons_succ]
                    refine wpAnyH_take (i := 3) (oi := { dst := some 83, op := Op.indexAddr 37 (Operand.tmp 81) (Operand.tmp 82), type := 0, pos := "top46.go:270", after := #[{ on := 1, ground := Ground.data }, { on := 2, ground := Ground.data }], guard := none }) (v := ?u4) rfl (by kernel_rfl) (by kernel_rfl) (by kernel_rfl) (fun _ _ _ h => h) (Or.inl ⟨by rfl, ?hz4⟩) (by with_reducible assumption) ?rst4
                    case hz4 => (intro wS hSw; (try dsimp only at hSw); (go_simp <;> with_reducible rfl))
                    try simp only [Act.put, List.setIfInBounds_toArray, List.set_cons_zero, List.set_cons_succ]
                    refine wpAnyH_take (i := 4) (oi := { dst := some 84, op := Op.fieldAddr 47 (Operand.tmp 83) 4, type := 0, pos := "top46.go:270", after := #[{ on := 3, ground := Ground.data }], guard := none }) (v := ?u5) rfl (by kernel_rfl) (by kernel_rfl) (by kernel_rfl) (fun _ _ _ h => h) (Or.inl ⟨by rfl, ?hz5⟩) (by with_reducible assumption) ?rst5
                    case hz5 => (intro wS hSw; (try dsimp only at hSw); (go_simp <;> with_reducible rfl))
                    try simp only [Act.put, List.setIfInBounds_toArray, List.set_cons_zero, List.set_cons_succ]
                    refine wpAnyH_take (i := 5) (oi := { dst := some 85, op := Op.load 45 (Operand.tmp 84), type := 45, pos := "top46.go:270", after := #[{ on := 4, ground := Ground.data }], guard := none }) (v := ?u6) rfl (by kernel_rfl) (by kernel_rfl) (by kernel_rfl) (fun _ _ _ h => h) (Or.inl ⟨by rfl, ?hz6⟩) (by with_reducible assumption) ?rst6
                    case hz6 => (intro wS hSw; (try dsimp only at hSw); (go_simp <;> with_reducible rfl))
                    try simp only [Act.put, List.setIfInBounds_toArray, List.set_cons_zero, List.set_cons_succ]
                    refine wpAnyH_take (i := 6) (oi := { dst := some 86, op := Op.move (Operand.tmp 13), type := 3, pos := "top46.go:270", after := #[], guard := none }) (v := ?u7) rfl (by kernel_rfl) (by kernel_rfl) (by kernel_rfl) (fun _ _ _ h => h) (Or.inl ⟨by rfl, ?hz7⟩) (by with_reducible assumption) ?rst7
                    case hz7 => (intro wS hSw; (try dsimp only at hSw); (go_simp <;> with_reducible rfl))
                    try simp only [Act.put, List.setIfInBounds_toArray, List.set_cons_zero, List.set_cons_succ]
                    refine wpAnyH_take (i := 7) (oi := { dst := some 87, op := Op.indexAddr 45 (Operand.tmp 85) (Operand.tmp 86), type := 0, pos := "top46.go:270", after := #[{ on := 5, ground := Ground.data }, { on := 6, ground := Ground.data }], guard := none }) (v := ?u8) rfl (by kernel_rfl) (by kernel_rfl) (by kernel_rfl) (fun _ _ _ h => h) (Or.inl ⟨by rfl, ?hz8⟩) (by with_reducible assumption) ?rst8
                    case hz8 => (intro wS hSw; (try dsimp only at hSw); (go_simp <;> with_reducible rfl))
                    try simp only [Act.put, List.setIfInBounds_toArray, List.set_cons_zero, List.set_cons_succ]
                    refine wpAnyH_take (i := 8) (oi := { dst := some 88, op := Op.load 48 (Operand.tmp 87), type := 48, pos := "top46.go:270", after := #[{ on := 7, ground := Ground.data }], guard := none }) (v := ?u9) rfl (by kernel_rfl) (by kernel_rfl) (by kernel_rfl) (fun _ _ _ h => h) (Or.inl ⟨by rfl, ?hz9⟩) (by with_reducible assumption) ?rst9
                    case hz9 => (intro wS hSw; (try dsimp only at hSw); (go_simp <;> with_reducible rfl))
                    try simp only [Act.put, List.setIfInBounds_toArray, List.set_cons_zero, List.set_cons_succ]
                    refine wpAnyH_take (i := 9) (oi := { dst := some 89, op := Op.move (Operand.tmp 14), type := 3, pos := "top46.go:270", after := #[], guard := none }) (v := ?u10) rfl (by kernel_rfl) (by kernel_rfl) (by kernel_rfl) (fun _ _ _ h => h) (Or.inl ⟨by rfl, ?hz10⟩) (by with_reducible assumption) ?rst10
                    case hz10 => (intro wS hSw; (try dsimp only at hSw); (go_simp <;> with_reducible rfl))
                    try simp only [Act.put, List.setIfInBounds_toArray, List.set_cons_zero, List.set_cons_succ]
                    refine wpAnyH_take (i := 10) (oi := { dst := some 90, op := Op.fieldAddr 39 (Operand.tmp 10) 3, type := 0, pos := "top46.go:270", after := #[], guard := none }) (v := ?u11) rfl (by kernel_rfl) (by kernel_rfl) (by kernel_rfl) (fun _ _ _ h => h) (Or.inl ⟨by rfl, ?hz11⟩) (by with_reducible assumption) ?rst11
                    case hz11 => (intro wS hSw; (try dsimp only at hSw); (go_simp <;> with_reducible rfl))
                    try simp only [Act.put, List.setIfInBounds_toArray, List.set_cons_zero, List.set_cons_succ]
                    refine wpAnyH_take (i := 11) (oi := { dst := some 91, op := Op.load 37 (Operand.tmp 90), type := 37, pos := "top46.go:270", after := #[{ on := 10, ground := Ground.data }], guard := none }) (v := ?u12) rfl (by kernel_rfl) (by kernel_rfl) (by kernel_rfl) (fun _ _ _ h => h) (Or.inl ⟨by rfl, ?hz12⟩) (by with_reducible assumption) ?rst12
                    case hz12 => (intro wS hSw; (try dsimp only at hSw); (go_simp <;> with_reducible rfl))
                    try simp only [Act.put, List.setIfInBounds_toArray, List.set_cons_zero, List.set_cons_succ]
                    refine wpAnyH_take (i := 12) (oi := { dst := some 92, op := Op.move (Operand.tmp 12), type := 3, pos := "top46.go:270", after := #[], guard := none }) (v := ?u13) rfl (by kernel_rfl) (by kernel_rfl) (by kernel_rfl) (fun _ _ _ h => h) (Or.inl ⟨by rfl, ?hz13⟩) (by with_reducible assumption) ?rst13
                    case hz13 => (intro wS hSw; (try dsimp only at hSw); (go_simp <;> with_reducible rfl))
                    try simp only [Act.put, List.setIfInBounds_toArray, List.set_cons_zero, List.set_cons_succ]
                    refine wpAnyH_take (i := 13) (oi := { dst := some 93, op := Op.indexAddr 37 (Operand.tmp 91) (Operand.tmp 92), type := 0, pos := "top46.go:270", after := #[{ on := 11, ground := Ground.data }, { on := 12, ground := Ground.data }], guard := none }) (v := ?u14) rfl (by kernel_rfl) (by kernel_rfl) (by kernel_rfl) (fun _ _ _ h => h) (Or.inl ⟨by rfl, ?hz14⟩) (by with_reducible assumption) ?rst14
                    case hz14 => (intro wS hSw; (try dsimp only at hSw); (go_simp <;> with_reducible rfl))
                    try simp only [Act.put, List.setIfInBounds_toArray, List.set_cons_zero, List.set_cons_succ]
                    refine wpAnyH_take (i := 14) (oi := { dst := some 94, op := Op.fieldAddr 47 (Operand.tmp 93) 4, type := 0, pos := "top46.go:270", after := #[{ on := 13, ground := Ground.data }], guard := none }) (v := ?u15) rfl (by kernel_rfl) (by kernel_rfl) (by kernel_rfl) (fun _ _ _ h => h) (Or.inl ⟨by rfl, ?hz15⟩) (by with_reducible assumption) ?rst15
                    case hz15 => (intro wS hSw; (try dsimp only at hSw); (go_simp <;> with_reducible rfl))
                    try simp only [Act.put, List.setIfInBounds_toArray, List.set_cons_zero, List.set_cons_succ]
                    refine wpAnyH_take (i := 15) (oi := { dst := some 95, op := Op.load 45 (Operand.tmp 94), type := 45, pos := "top46.go:270", after := #[{ on := 14, ground := Ground.data }], guard := none }) (v := ?u16) rfl (by kernel_rfl) (by kernel_rfl) (by kernel_rfl) (fun _ _ _ h => h) (Or.inl ⟨by rfl, ?hz16⟩) (by with_reducible assumption) ?rst16
                    case hz16 => (intro wS hSw; (try dsimp only at hSw); (go_simp <;> with_reducible rfl))
                    try simp only [Act.put, List.setIfInBounds_toArray, List.set_cons_zero, List.set_cons_succ]
                    refine wpAnyH_take (i := 16) (oi := { dst := some 96, op := Op.move (Operand.tmp 13), type := 3, pos := "top46.go:270", after := #[], guard := none }) (v := ?u17) rfl (by kernel_rfl) (by kernel_rfl) (by kernel_rfl) (fun _ _ _ h => h) (Or.inl ⟨by rfl, ?hz17⟩) (by with_reducible assumption) ?rst17
                    case hz17 => (intro wS hSw; (try dsimp only at hSw); (go_simp <;> with_reducible rfl))
                    try simp only [Act.put, List.setIfInBounds_toArray, List.set_cons_zero, List.set_cons_succ]
                    refine wpAnyH_take (i := 17) (oi := { dst := some 97, op := Op.indexAddr 45 (Operand.tmp 95) (Operand.tmp 96), type := 0, pos := "top46.go:270", after := #[{ on := 15, ground := Ground.data }, { on := 16, ground := Ground.data }], guard := none }) (v := ?u18) rfl (by kernel_rfl) (by kernel_rfl) (by kernel_rfl) (fun _ _ _ h => h) (Or.inl ⟨by rfl, ?hz18⟩) (by with_reducible assumption) ?rst18
                    case hz18 => (intro wS hSw; (try dsimp only at hSw); (go_simp <;> with_reducible rfl))
                    try simp only [Act.put, List.setIfInBounds_toArray, List.set_cons_zero, List.set_cons_succ]
                    refine wpAnyH_take (i := 18) (oi := { dst := some 98, op := Op.load 48 (Operand.tmp 97), type := 48, pos := "top46.go:270", after := #[{ on := 17, ground := Ground.data }], guard := none }) (v := ?u19) rfl (by kernel_rfl) (by kernel_rfl) (by kernel_rfl) (fun _ _ _ h => h) (Or.inl ⟨by rfl, ?hz19⟩) (by with_reducible assumption) ?rst19
                    case hz19 => (intro wS hSw; (try dsimp only at hSw); (go_simp <;> with_reducible rfl))
                    try simp only [Act.put, List.setIfInBounds_toArray, List.set_cons_zero, List.set_cons_succ]
                    refine wpAnyH_take (i := 19) (oi := { dst := some 99, op := Op.move (Operand.tmp 14), type := 3, pos := "top46.go:270", after := #[], guard := none }) (v := ?u20) rfl (by kernel_rfl) (by kernel_rfl) (by kernel_rfl) (fun _ _ _ h => h) (Or.inl ⟨by rfl, ?hz20⟩) (by with_reducible assumption) ?rst20
                    case hz20 => (intro wS hSw; (try dsimp only at hSw); (go_simp <;> with_reducible rfl))
                    try simp only [Act.put, List.setIfInBounds_toArray, List.set_cons_zero, List.set_cons_succ]
                    refine wpAnyH_take (i := 20) (oi := { dst := some 100, op := Op.indexAddr 48 (Operand.tmp 98) (Operand.tmp 99), type := 0, pos := "top46.go:270", after := #[{ on := 18, ground := Ground.data }, { on := 19, ground := Ground.data }], guard := none }) (v := ?u21) rfl (by kernel_rfl) (by kernel_rfl) (by kernel_rfl) (fun _ _ _ h => h) (Or.inl ⟨by rfl, ?hz21⟩) (by with_reducible assumption) ?rst21
                    case hz21 => (intro wS hSw; (try dsimp only at hSw); (go_simp <;> with_reducible rfl))
                    try simp only [Act.put, List.setIfInBounds_toArray, List.set_cons_zero, List.set_cons_succ]
                    refine wpAnyH_ready (rs := [21]) (by kernel_rfl) (by simp) ?_
                    refine AllReadyH.cons (o := { dst := some 101, op := Op.load 4 (Operand.tmp 100), type := 4, pos := "top46.go:270", after := #[{ on := 20, ground := Ground.data }], guard := none }) rfl (fun K hK => ?_) AllReadyH.nil
                    go_simp
                    refine hK.out _ _ ?_ (fun hHeld => ?_)
                    · with_reducible assumption
                    clear hK K
                    refine wpAnyH_take (i := 22) (oi := { dst := some 102, op := Op.move (Operand.tmp 101), type := 4, pos := "top46.go:270", after := #[{ on := 21, ground := Ground.data }], guard := none }) (v := ?u22) rfl (by kernel_rfl) (by kernel_rfl) (by kernel_rfl) (fun _ _ _ h => h) (Or.inl ⟨by rfl, ?hz22⟩) (by with_reducible assumption) ?rst22
                    case hz22 => (intro wS hSw; (try dsimp only at hSw); (go_simp <;> with_reducible rfl))
                    try simp only [Act.put, List.setIfInBounds_toArray, List.set_cons_zero, List.set_cons_succ]
                    refine wpAnyH_take (i := 23) (oi := { dst := some 103, op := Op.move (Operand.tmp 2), type := 35, pos := "top46.go:270", after := #[{ on := 22, ground := Ground.guard }], guard := some (22, false) }) (v := ?u101) rfl (by kernel_rfl) (by kernel_rfl) (by kernel_rfl) (fun _ _ _ h => h) (Or.inl ⟨by rfl, ?hz101⟩) (by with_reducible assumption) ?rst23
                    case hz101 => (intro wS hSw; (try dsimp only at hSw); (go_simp <;> with_reducible rfl))
                    try simp only [Act.put, List.setIfInBounds_toArray, List.set_cons_zero, List.set_cons_succ]
                    refine wpAnyH_take (i := 24) (oi := { dst := some 104, op := Op.move (Operand.tmp 12), type := 3, pos := "top46.go:270", after := #[{ on := 22, ground := Ground.guard }], guard := some (22, false) }) (v := ?u102) rfl (by kernel_rfl) (by kernel_rfl) (by kernel_rfl) (fun _ _ _ h => h) (Or.inl ⟨by rfl, ?hz102⟩) (by with_reducible assumption) ?rst24
                    case hz102 => (intro wS hSw; (try dsimp only at hSw); (go_simp <;> with_reducible rfl))
                    try simp only [Act.put, List.setIfInBounds_toArray, List.set_cons_zero, List.set_cons_succ]
                    refine wpAnyH_take (i := 25) (oi := { dst := some 105, op := Op.indexAddr 35 (Operand.tmp 103) (Operand.tmp 104), type := 0, pos := "top46.go:270", after := #[{ on := 23, ground := Ground.data }, { on := 24, ground := Ground.data }, { on := 22, ground := Ground.guard }], guard := some (22, false) }) (v := ?u103) rfl (by kernel_rfl) (by kernel_rfl) (by kernel_rfl) (fun _ _ _ h => h) (Or.inl ⟨by rfl, ?hz103⟩) (by with_reducible assumption) ?rst25
                    case hz103 => (intro wS hSw; (try dsimp only at hSw); (go_simp <;> with_reducible rfl))
                    try simp only [Act.put, List.setIfInBounds_toArray, List.set_cons_zero, List.set_cons_succ]
                    refine wpAnyH_take (i := 26) (oi := { dst := some 106, op := Op.load 49 (Operand.tmp 105), type := 49, pos := "top46.go:270", after := #[{ on := 25, ground := Ground.data }, { on := 22, ground := Ground.guard }], guard := some (22, false) }) (v := ?u104) rfl (by kernel_rfl) (by kernel_rfl) (by kernel_rfl) (fun _ _ _ h => h) (Or.inl ⟨by rfl, ?hz104⟩) (by with_reducible assumption) ?rst26
                    case hz104 => (intro wS hSw; (try dsimp only at hSw); (go_simp <;> with_reducible rfl))
                    try simp only [Act.put, List.setIfInBounds_toArray, List.set_cons_zero, List.set_cons_succ]
                    refine wpAnyH_take (i := 27) (oi := { dst := some 107, op := Op.move (Operand.tmp 13), type := 3, pos := "top46.go:270", after := #[{ on := 22, ground := Ground.guard }], guard := some (22, false) }) (v := ?u105) rfl (by kernel_rfl) (by kernel_rfl) (by kernel_rfl) (fun _ _ _ h => h) (Or.inl ⟨by rfl, ?hz105⟩) (by with_reducible assumption) ?rst27
                    case hz105 => (intro wS hSw; (try dsimp only at hSw); (go_simp <;> with_reducible rfl))
                    try simp only [Act.put, List.setIfInBounds_toArray, List.set_cons_zero, List.set_cons_succ]
                    refine wpAnyH_take (i := 28) (oi := { dst := some 108, op := Op.binOp BinOp.mul 3 (Operand.const (Value.int IntKind.i64 3)) (Operand.tmp 107) 3, type := 3, pos := "top46.go:270", after := #[{ on := 27, ground := Ground.data }, { on := 22, ground := Ground.guard }], guard := some (22, false) }) (v := ?u106) rfl (by kernel_rfl) (by kernel_rfl) (by kernel_rfl) (fun _ _ _ h => h) (Or.inl ⟨by rfl, ?hz106⟩) (by with_reducible assumption) ?rst28
                    case hz106 => (intro wS hSw; (try dsimp only at hSw); (go_simp <;> with_reducible rfl))
                    try simp only [Act.put, List.setIfInBounds_toArray, List.set_cons_zero, List.set_cons_succ]
                    refine wpAnyH_take (i := 29) (oi := { dst := some 109, op := Op.move (Operand.tmp 14), type := 3, pos := "top46.go:270", after := #[{ on := 22, ground := Ground.guard }], guard := some (22, false) }) (v := ?u107) rfl (by kernel_rfl) (by kernel_rfl) (by kernel_rfl) (fun _ _ _ h => h) (Or.inl ⟨by rfl, ?hz107⟩) (by with_reducible assumption) ?rst29
                    case hz107 => (intro wS hSw; (try dsimp only at hSw); (go_simp <;> with_reducible rfl))
                    try simp only [Act.put, List.setIfInBounds_toArray, List.set_cons_zero, List.set_cons_succ]
                    refine wpAnyH_take (i := 30) (oi := { dst := some 110, op := Op.binOp BinOp.add 3 (Operand.tmp 108) (Operand.tmp 109) 3, type := 3, pos := "top46.go:270", after := #[{ on := 28, ground := Ground.data }, { on := 29, ground := Ground.data }, { on := 22, ground := Ground.guard }], guard := some (22, false) }) (v := ?u108) rfl (by kernel_rfl) (by kernel_rfl) (by kernel_rfl) (fun _ _ _ h => h) (Or.inl ⟨by rfl, ?hz108⟩) (by with_reducible assumption) ?rst30
                    case hz108 => (intro wS hSw; (try dsimp only at hSw); (go_simp <;> with_reducible rfl))
                    try simp only [Act.put, List.setIfInBounds_toArray, List.set_cons_zero, List.set_cons_succ]
                    refine wpAnyH_take (i := 31) (oi := { dst := some 111, op := Op.binOp BinOp.shr 49 (Operand.tmp 106) (Operand.tmp 110) 3, type := 49, pos := "top46.go:270", after := #[{ on := 26, ground := Ground.data }, { on := 30, ground := Ground.data }, { on := 22, ground := Ground.guard }], guard := some (22, false) }) (v := ?u109) rfl (by kernel_rfl) (by kernel_rfl) (by kernel_rfl) (fun _ _ _ h => h) (Or.inl ⟨by rfl, ?hz109⟩) (by with_reducible assumption) ?rst31
                    case hz109 => (intro wS hSw; (try dsimp only at hSw); (go_simp <;> with_reducible rfl))
                    try simp only [Act.put, List.setIfInBounds_toArray, List.set_cons_zero, List.set_cons_succ]
                    refine wpAnyH_take (i := 32) (oi := { dst := some 112, op := Op.binOp BinOp.and 49 (Operand.tmp 111) (Operand.const (Value.int IntKind.u16 1)) 49, type := 49, pos := "top46.go:270", after := #[{ on := 31, ground := Ground.data }, { on := 22, ground := Ground.guard }], guard := some (22, false) }) (v := ?u110) rfl (by kernel_rfl) (by kernel_rfl) (by kernel_rfl) (fun _ _ _ h => h) (Or.inl ⟨by rfl, ?hz110⟩) (by with_reducible assumption) ?rst32
                    case hz110 => (intro wS hSw; (try dsimp only at hSw); (go_simp <;> with_reducible rfl))
                    try simp only [Act.put, List.setIfInBounds_toArray, List.set_cons_zero, List.set_cons_succ]
                    refine wpAnyH_take (i := 33) (oi := { dst := some 113, op := Op.binOp BinOp.eql 49 (Operand.tmp 112) (Operand.const (Value.int IntKind.u16 1)) 49, type := 4, pos := "top46.go:270", after := #[{ on := 32, ground := Ground.data }, { on := 22, ground := Ground.guard }], guard := some (22, false) }) (v := ?u111) rfl (by kernel_rfl) (by kernel_rfl) (by kernel_rfl) (fun _ _ _ h => h) (Or.inl ⟨by rfl, ?hz111⟩) (by with_reducible assumption) ?rst33
                    case hz111 => (intro wS hSw; (try dsimp only at hSw); (go_simp <;> with_reducible rfl))
                    try simp only [Act.put, List.setIfInBounds_toArray, List.set_cons_zero, List.set_cons_succ]
                    refine wpAnyH_take (i := 34) (oi := { dst := some 114, op := Op.pick (Operand.tmp 102) (Operand.const (Value.bool true)) (Operand.tmp 113), type := 4, pos := "top46.go:270", after := #[{ on := 22, ground := Ground.data }, { on := 33, ground := Ground.data }], guard := none }) (v := ?u34) rfl (by kernel_rfl) (by kernel_rfl) (by kernel_rfl) (fun _ _ _ h => h) (Or.inl ⟨by rfl, ?hz34⟩) (by with_reducible assumption) ?rst34
                    case hz34 => (intro wS hSw; (try dsimp only at hSw); (go_simp <;> with_reducible rfl))
                    try simp only [Act.put, List.setIfInBounds_toArray, List.set_cons_zero, List.set_cons_succ]
                    refine wpAnyH_take (i := 35) (oi := { dst := some 115, op := Op.indexAddr 48 (Operand.tmp 88) (Operand.tmp 89), type := 0, pos := "top46.go:270", after := #[{ on := 8, ground := Ground.data }, { on := 9, ground := Ground.data }, { on := 0, ground := Ground.phase }, { on := 1, ground := Ground.phase }, { on := 2, ground := Ground.phase }, { on := 3, ground := Ground.phase }, { on := 4, ground := Ground.phase }, { on := 5, ground := Ground.phase }, { on := 6, ground := Ground.phase }, { on := 7, ground := Ground.phase }, { on := 8, ground := Ground.phase }, { on := 9, ground := Ground.phase }, { on := 10, ground := Ground.phase }, { on := 11, ground := Ground.phase }, { on := 12, ground := Ground.phase }, { on := 13, ground := Ground.phase }, { on := 14, ground := Ground.phase }, { on := 15, ground := Ground.phase }, { on := 16, ground := Ground.phase }, { on := 17, ground := Ground.phase }, { on := 18, ground := Ground.phase }, { on := 19, ground := Ground.phase }, { on := 20, ground := Ground.phase }, { on := 21, ground := Ground.phase }, { on := 22, ground := Ground.phase }, { on := 23, ground := Ground.phase }, { on := 24, ground := Ground.phase }, { on := 25, ground := Ground.phase }, { on := 26, ground := Ground.phase }, { on := 27, ground := Ground.phase }, { on := 28, ground := Ground.phase }, { on := 29, ground := Ground.phase }, { on := 30, ground := Ground.phase }, { on := 31, ground := Ground.phase }, { on := 32, ground := Ground.phase }, { on := 33, ground := Ground.phase }, { on := 34, ground := Ground.phase }], guard := none }) (v := ?u35) rfl (by kernel_rfl) (by kernel_rfl) (by kernel_rfl) (fun _ _ _ h => h) (Or.inl ⟨by rfl, ?hz35⟩) (by with_reducible assumption) ?rst35
                    case hz35 => (intro wS hSw; (try dsimp only at hSw); (go_simp <;> with_reducible rfl))
                    try simp only [Act.put, List.setIfInBounds_toArray, List.set_cons_zero, List.set_cons_succ]
                    refine wpAnyH_ready (rs := [36]) (by kernel_rfl) (by simp) ?_
                    refine AllReadyH.cons (o := { dst := none, op := Op.store 4 (Operand.tmp 115) (Operand.tmp 114), type := 0, pos := "top46.go:270", after := #[{ on := 35, ground := Ground.data }, { on := 34, ground := Ground.data }, { on := 22, ground := Ground.chain }, { on := 0, ground := Ground.phase }, { on := 1, ground := Ground.phase }, { on := 2, ground := Ground.phase }, { on := 3, ground := Ground.phase }, { on := 4, ground := Ground.phase }, { on := 5, ground := Ground.phase }, { on := 6, ground := Ground.phase }, { on := 7, ground := Ground.phase }, { on := 8, ground := Ground.phase }, { on := 9, ground := Ground.phase }, { on := 10, ground := Ground.phase }, { on := 11, ground := Ground.phase }, { on := 12, ground := Ground.phase }, { on := 13, ground := Ground.phase }, { on := 14, ground := Ground.phase }, { on := 15, ground := Ground.phase }, { on := 16, ground := Ground.phase }, { on := 17, ground := Ground.phase }, { on := 18, ground := Ground.phase }, { on := 19, ground := Ground.phase }, { on := 20, ground := Ground.phase }, { on := 21, ground := Ground.phase }, { on := 22, ground := Ground.phase }, { on := 23, ground := Ground.phase }, { on := 24, ground := Ground.phase }, { on := 25, ground := Ground.phase }, { on := 26, ground := Ground.phase }, { on := 27, ground := Ground.phase }, { on := 28, ground := Ground.phase }, { on := 29, ground := Ground.phase }, { on := 30, ground := Ground.phase }, { on := 31, ground := Ground.phase }, { on := 32, ground := Ground.phase }, { on := 33, ground := Ground.phase }, { on := 34, ground := Ground.phase }], guard := none }) rfl (fun K hK => ?_) AllReadyH.nil
                    go_simp
                    refine hK.out _ _ ?_ (fun hHeld => ?_)
                    · (first
                        | (refine cells4_fard ⟨nq, fun e => n3 e.symm, fun e => n4 e.symm, nM⟩ ?_; with_reducible assumption)
                        | (refine cells4_far ⟨nq, fun e => n3 e.symm, fun e => n4 e.symm, nM⟩ ?_; with_reducible assumption))
                    clear hK K
                    refine wpAnyH_done (by kernel_rfl) (NoPanic.normal ?_) _
                    clear zq fq q0 q1 q2 q3 d3 d4 d5 dM f5
                    go_wp2
                    go_roundw
                    case rel => exact ⟨v + 1, _, by go_num, by omega, Lib.hid (RlI.drew (hset.out _))⟩
                    case measure => simp [intOf]; omega
                  | true =>
                    refine wp_region_noPanic ?_
                    refine wp_region_held_drew (S := (fun w' => w'.cell? ⟨w4.heap.size, 3, none⟩ = some (.slice (some ⟨g3, 0, none⟩) p.tabs.length t3) ∧ w'.cell? ⟨g3, i * 6 + 4, none⟩ = some (.slice (some ⟨g4, 0, none⟩) n c4) ∧ w'.cell? ⟨g4, u, none⟩ = some (.slice (some ⟨gu, 0, none⟩) k cu) ∧ w'.cell? ⟨bM, oM + i, none⟩ = some (.int .u16 mv))) (by kernel_rfl) ?_ (fun hHeld => ?_)
                    · exact ⟨q3, d3, d4, dM⟩
                    refine wpAnyH_take (i := 0) (oi := { dst := some 80, op := Op.fieldAddr 39 (Operand.tmp 10) 3, type := 0, pos := "top46.go:270", after := #[], guard := none }) (v := ?v1) rfl (by kernel_rfl) (by kernel_rfl) (by kernel_rfl) (fun _ _ _ h => h) (Or.inl ⟨by rfl, ?hy1⟩) (by with_reducible assumption) ?rest1
                    case hy1 => (intro wS hSw; (try dsimp only at hSw); (go_simp <;> with_reducible rfl))
                    try simp only [Act.put, List.setIfInBounds_toArray, List.set_cons_zero, List.set_cons_succ]
                    refine wpAnyH_take (i := 1) (oi := { dst := some 81, op := Op.load 37 (Operand.tmp 80), type := 37, pos := "top46.go:270", after := #[{ on := 0, ground := Ground.data }], guard := none }) (v := ?v2) rfl (by kernel_rfl) (by kernel_rfl) (by kernel_rfl) (fun _ _ _ h => h) (Or.inl ⟨by rfl, ?hy2⟩) (by with_reducible assumption) ?rest2
                    case hy2 => (intro wS hSw; (try dsimp only at hSw); (go_simp <;> with_reducible rfl))
                    try simp only [Act.put, List.setIfInBounds_toArray, List.set_cons_zero, List.set_cons_succ]
                    refine wpAnyH_take (i := 2) (oi := { dst := some 82, op := Op.move (Operand.tmp 12), type := 3, pos := "top46.go:270", after := #[], guard := none }) (v := ?v3) rfl (by kernel_rfl) (by kernel_rfl) (by kernel_rfl) (fun _ _ _ h => h) (Or.inl ⟨by rfl, ?hy3⟩) (by with_reducible assumption) ?rest3
                    case hy3 => (intro wS hSw; (try dsimp only at hSw); (go_simp <;> with_reducible rfl))
                    try simp only [Act.put, List.setIfInBounds_toArray, List.set_cons_zero, List.set_cons_succ]
                    refine wpAnyH_take (i := 3) (oi := { dst := some 83, op := Op.indexAddr 37 (Operand.tmp 81) (Operand.tmp 82), type := 0, pos := "top46.go:270", after := #[{ on := 1, ground := Ground.data }, { on := 2, ground := Ground.data }], guard := none }) (v := ?v4) rfl (by kernel_rfl) (by kernel_rfl) (by kernel_rfl) (fun _ _ _ h => h) (Or.inl ⟨by rfl, ?hy4⟩) (by with_reducible assumption) ?rest4
                    case hy4 => (intro wS hSw; (try dsimp only at hSw); (go_simp <;> with_reducible rfl))
                    try simp only [Act.put, List.setIfInBounds_toArray, List.set_cons_zero, List.set_cons_succ]
                    refine wpAnyH_take (i := 4) (oi := { dst := some 84, op := Op.fieldAddr 47 (Operand.tmp 83) 4, type := 0, pos := "top46.go:270", after := #[{ on := 3, ground := Ground.data }], guard := none }) (v := ?v5) rfl (by kernel_rfl) (by kernel_rfl) (by kernel_rfl) (fun _ _ _ h => h) (Or.inl ⟨by rfl, ?hy5⟩) (by with_reducible assumption) ?rest5
                    case hy5 => (intro wS hSw; (try dsimp only at hSw); (go_simp <;> with_reducible rfl))
                    try simp only [Act.put, List.setIfInBounds_toArray, List.set_cons_zero, List.set_cons_succ]
                    refine wpAnyH_take (i := 5) (oi := { dst := some 85, op := Op.load 45 (Operand.tmp 84), type := 45, pos := "top46.go:270", after := #[{ on := 4, ground := Ground.data }], guard := none }) (v := ?v6) rfl (by kernel_rfl) (by kernel_rfl) (by kernel_rfl) (fun _ _ _ h => h) (Or.inl ⟨by rfl, ?hy6⟩) (by with_reducible assumption) ?rest6
                    case hy6 => (intro wS hSw; (try dsimp only at hSw); (go_simp <;> with_reducible rfl))
                    try simp only [Act.put, List.setIfInBounds_toArray, List.set_cons_zero, List.set_cons_succ]
                    refine wpAnyH_take (i := 6) (oi := { dst := some 86, op := Op.move (Operand.tmp 13), type := 3, pos := "top46.go:270", after := #[], guard := none }) (v := ?v7) rfl (by kernel_rfl) (by kernel_rfl) (by kernel_rfl) (fun _ _ _ h => h) (Or.inl ⟨by rfl, ?hy7⟩) (by with_reducible assumption) ?rest7
                    case hy7 => (intro wS hSw; (try dsimp only at hSw); (go_simp <;> with_reducible rfl))
                    try simp only [Act.put, List.setIfInBounds_toArray, List.set_cons_zero, List.set_cons_succ]
                    refine wpAnyH_take (i := 7) (oi := { dst := some 87, op := Op.indexAddr 45 (Operand.tmp 85) (Operand.tmp 86), type := 0, pos := "top46.go:270", after := #[{ on := 5, ground := Ground.data }, { on := 6, ground := Ground.data }], guard := none }) (v := ?v8) rfl (by kernel_rfl) (by kernel_rfl) (by kernel_rfl) (fun _ _ _ h => h) (Or.inl ⟨by rfl, ?hy8⟩) (by with_reducible assumption) ?rest8
                    case hy8 => (intro wS hSw; (try dsimp only at hSw); (go_simp <;> with_reducible rfl))
                    try simp only [Act.put, List.setIfInBounds_toArray, List.set_cons_zero, List.set_cons_succ]
                    refine wpAnyH_take (i := 8) (oi := { dst := some 88, op := Op.load 48 (Operand.tmp 87), type := 48, pos := "top46.go:270", after := #[{ on := 7, ground := Ground.data }], guard := none }) (v := ?v9) rfl (by kernel_rfl) (by kernel_rfl) (by kernel_rfl) (fun _ _ _ h => h) (Or.inl ⟨by rfl, ?hy9⟩) (by with_reducible assumption) ?rest9
                    case hy9 => (intro wS hSw; (try dsimp only at hSw); (go_simp <;> with_reducible rfl))
                    try simp only [Act.put, List.setIfInBounds_toArray, List.set_cons_zero, List.set_cons_succ]
                    refine wpAnyH_take (i := 9) (oi := { dst := some 89, op := Op.move (Operand.tmp 14), type := 3, pos := "top46.go:270", after := #[], guard := none }) (v := ?v10) rfl (by kernel_rfl) (by kernel_rfl) (by kernel_rfl) (fun _ _ _ h => h) (Or.inl ⟨by rfl, ?hy10⟩) (by with_reducible assumption) ?rest10
                    case hy10 => (intro wS hSw; (try dsimp only at hSw); (go_simp <;> with_reducible rfl))
                    try simp only [Act.put, List.setIfInBounds_toArray, List.set_cons_zero, List.set_cons_succ]
                    refine wpAnyH_take (i := 10) (oi := { dst := some 90, op := Op.fieldAddr 39 (Operand.tmp 10) 3, type := 0, pos := "top46.go:270", after := #[], guard := none }) (v := ?v11) rfl (by kernel_rfl) (by kernel_rfl) (by kernel_rfl) (fun _ _ _ h => h) (Or.inl ⟨by rfl, ?hy11⟩) (by with_reducible assumption) ?rest11
                    case hy11 => (intro wS hSw; (try dsimp only at hSw); (go_simp <;> with_reducible rfl))
                    try simp only [Act.put, List.setIfInBounds_toArray, List.set_cons_zero, List.set_cons_succ]
                    refine wpAnyH_take (i := 11) (oi := { dst := some 91, op := Op.load 37 (Operand.tmp 90), type := 37, pos := "top46.go:270", after := #[{ on := 10, ground := Ground.data }], guard := none }) (v := ?v12) rfl (by kernel_rfl) (by kernel_rfl) (by kernel_rfl) (fun _ _ _ h => h) (Or.inl ⟨by rfl, ?hy12⟩) (by with_reducible assumption) ?rest12
                    case hy12 => (intro wS hSw; (try dsimp only at hSw); (go_simp <;> with_reducible rfl))
                    try simp only [Act.put, List.setIfInBounds_toArray, List.set_cons_zero, List.set_cons_succ]
                    refine wpAnyH_take (i := 12) (oi := { dst := some 92, op := Op.move (Operand.tmp 12), type := 3, pos := "top46.go:270", after := #[], guard := none }) (v := ?v13) rfl (by kernel_rfl) (by kernel_rfl) (by kernel_rfl) (fun _ _ _ h => h) (Or.inl ⟨by rfl, ?hy13⟩) (by with_reducible assumption) ?rest13
                    case hy13 => (intro wS hSw; (try dsimp only at hSw); (go_simp <;> with_reducible rfl))
                    try simp only [Act.put, List.setIfInBounds_toArray, List.set_cons_zero, List.set_cons_succ]
                    refine wpAnyH_take (i := 13) (oi := { dst := some 93, op := Op.indexAddr 37 (Operand.tmp 91) (Operand.tmp 92), type := 0, pos := "top46.go:270", after := #[{ on := 11, ground := Ground.data }, { on := 12, ground := Ground.data }], guard := none }) (v := ?v14) rfl (by kernel_rfl) (by kernel_rfl) (by kernel_rfl) (fun _ _ _ h => h) (Or.inl ⟨by rfl, ?hy14⟩) (by with_reducible assumption) ?rest14
                    case hy14 => (intro wS hSw; (try dsimp only at hSw); (go_simp <;> with_reducible rfl))
                    try simp only [Act.put, List.setIfInBounds_toArray, List.set_cons_zero, List.set_cons_succ]
                    refine wpAnyH_take (i := 14) (oi := { dst := some 94, op := Op.fieldAddr 47 (Operand.tmp 93) 4, type := 0, pos := "top46.go:270", after := #[{ on := 13, ground := Ground.data }], guard := none }) (v := ?v15) rfl (by kernel_rfl) (by kernel_rfl) (by kernel_rfl) (fun _ _ _ h => h) (Or.inl ⟨by rfl, ?hy15⟩) (by with_reducible assumption) ?rest15
                    case hy15 => (intro wS hSw; (try dsimp only at hSw); (go_simp <;> with_reducible rfl))
                    try simp only [Act.put, List.setIfInBounds_toArray, List.set_cons_zero, List.set_cons_succ]
                    refine wpAnyH_take (i := 15) (oi := { dst := some 95, op := Op.load 45 (Operand.tmp 94), type := 45, pos := "top46.go:270", after := #[{ on := 14, ground := Ground.data }], guard := none }) (v := ?v16) rfl (by kernel_rfl) (by kernel_rfl) (by kernel_rfl) (fun _ _ _ h => h) (Or.inl ⟨by rfl, ?hy16⟩) (by with_reducible assumption) ?rest16
                    case hy16 => (intro wS hSw; (try dsimp only at hSw); (go_simp <;> with_reducible rfl))
                    try simp only [Act.put, List.setIfInBounds_toArray, List.set_cons_zero, List.set_cons_succ]
                    refine wpAnyH_take (i := 16) (oi := { dst := some 96, op := Op.move (Operand.tmp 13), type := 3, pos := "top46.go:270", after := #[], guard := none }) (v := ?v17) rfl (by kernel_rfl) (by kernel_rfl) (by kernel_rfl) (fun _ _ _ h => h) (Or.inl ⟨by rfl, ?hy17⟩) (by with_reducible assumption) ?rest17
                    case hy17 => (intro wS hSw; (try dsimp only at hSw); (go_simp <;> with_reducible rfl))
                    try simp only [Act.put, List.setIfInBounds_toArray, List.set_cons_zero, List.set_cons_succ]
                    refine wpAnyH_take (i := 17) (oi := { dst := some 97, op := Op.indexAddr 45 (Operand.tmp 95) (Operand.tmp 96), type := 0, pos := "top46.go:270", after := #[{ on := 15, ground := Ground.data }, { on := 16, ground := Ground.data }], guard := none }) (v := ?v18) rfl (by kernel_rfl) (by kernel_rfl) (by kernel_rfl) (fun _ _ _ h => h) (Or.inl ⟨by rfl, ?hy18⟩) (by with_reducible assumption) ?rest18
                    case hy18 => (intro wS hSw; (try dsimp only at hSw); (go_simp <;> with_reducible rfl))
                    try simp only [Act.put, List.setIfInBounds_toArray, List.set_cons_zero, List.set_cons_succ]
                    refine wpAnyH_take (i := 18) (oi := { dst := some 98, op := Op.load 48 (Operand.tmp 97), type := 48, pos := "top46.go:270", after := #[{ on := 17, ground := Ground.data }], guard := none }) (v := ?v19) rfl (by kernel_rfl) (by kernel_rfl) (by kernel_rfl) (fun _ _ _ h => h) (Or.inl ⟨by rfl, ?hy19⟩) (by with_reducible assumption) ?rest19
                    case hy19 => (intro wS hSw; (try dsimp only at hSw); (go_simp <;> with_reducible rfl))
                    try simp only [Act.put, List.setIfInBounds_toArray, List.set_cons_zero, List.set_cons_succ]
                    refine wpAnyH_take (i := 19) (oi := { dst := some 99, op := Op.move (Operand.tmp 14), type := 3, pos := "top46.go:270", after := #[], guard := none }) (v := ?v20) rfl (by kernel_rfl) (by kernel_rfl) (by kernel_rfl) (fun _ _ _ h => h) (Or.inl ⟨by rfl, ?hy20⟩) (by with_reducible assumption) ?rest20
                    case hy20 => (intro wS hSw; (try dsimp only at hSw); (go_simp <;> with_reducible rfl))
                    try simp only [Act.put, List.setIfInBounds_toArray, List.set_cons_zero, List.set_cons_succ]
                    refine wpAnyH_take (i := 20) (oi := { dst := some 100, op := Op.indexAddr 48 (Operand.tmp 98) (Operand.tmp 99), type := 0, pos := "top46.go:270", after := #[{ on := 18, ground := Ground.data }, { on := 19, ground := Ground.data }], guard := none }) (v := ?v21) rfl (by kernel_rfl) (by kernel_rfl) (by kernel_rfl) (fun _ _ _ h => h) (Or.inl ⟨by rfl, ?hy21⟩) (by with_reducible assumption) ?rest21
                    case hy21 => (intro wS hSw; (try dsimp only at hSw); (go_simp <;> with_reducible rfl))
                    try simp only [Act.put, List.setIfInBounds_toArray, List.set_cons_zero, List.set_cons_succ]
                    refine wpAnyH_ready (rs := [21]) (by kernel_rfl) (by simp) ?_
                    refine AllReadyH.cons (o := { dst := some 101, op := Op.load 4 (Operand.tmp 100), type := 4, pos := "top46.go:270", after := #[{ on := 20, ground := Ground.data }], guard := none }) rfl (fun K hK => ?_) AllReadyH.nil
                    go_simp
                    refine hK.out _ _ ?_ (fun hHeld => ?_)
                    · with_reducible assumption
                    clear hK K
                    refine wpAnyH_take (i := 22) (oi := { dst := some 102, op := Op.move (Operand.tmp 101), type := 4, pos := "top46.go:270", after := #[{ on := 21, ground := Ground.data }], guard := none }) (v := ?v22) rfl (by kernel_rfl) (by kernel_rfl) (by kernel_rfl) (fun _ _ _ h => h) (Or.inl ⟨by rfl, ?hy22⟩) (by with_reducible assumption) ?rest22
                    case hy22 => (intro wS hSw; (try dsimp only at hSw); (go_simp <;> with_reducible rfl))
                    try simp only [Act.put, List.setIfInBounds_toArray, List.set_cons_zero, List.set_cons_succ]
                    refine wpAnyH_take (i := 23) (oi := { dst := some 103, op := Op.move (Operand.tmp 2), type := 35, pos := "top46.go:270", after := #[{ on := 22, ground := Ground.guard }], guard := some (22, false) }) (v := undef) rfl (by kernel_rfl) (by kernel_rfl) (by kernel_rfl) (fun _ _ _ h => h) (Or.inr ⟨by rfl, rfl⟩) (by with_reducible assumption) ?rest23
                    try simp only [Act.put, List.setIfInBounds_toArray, List.set_cons_zero, List.set_cons_succ]
                    refine wpAnyH_take (i := 24) (oi := { dst := some 104, op := Op.move (Operand.tmp 12), type := 3, pos := "top46.go:270", after := #[{ on := 22, ground := Ground.guard }], guard := some (22, false) }) (v := undef) rfl (by kernel_rfl) (by kernel_rfl) (by kernel_rfl) (fun _ _ _ h => h) (Or.inr ⟨by rfl, rfl⟩) (by with_reducible assumption) ?rest24
                    try simp only [Act.put, List.setIfInBounds_toArray, List.set_cons_zero, List.set_cons_succ]
                    refine wpAnyH_take (i := 25) (oi := { dst := some 105, op := Op.indexAddr 35 (Operand.tmp 103) (Operand.tmp 104), type := 0, pos := "top46.go:270", after := #[{ on := 23, ground := Ground.data }, { on := 24, ground := Ground.data }, { on := 22, ground := Ground.guard }], guard := some (22, false) }) (v := undef) rfl (by kernel_rfl) (by kernel_rfl) (by kernel_rfl) (fun _ _ _ h => h) (Or.inr ⟨by rfl, rfl⟩) (by with_reducible assumption) ?rest25
                    try simp only [Act.put, List.setIfInBounds_toArray, List.set_cons_zero, List.set_cons_succ]
                    refine wpAnyH_take (i := 26) (oi := { dst := some 106, op := Op.load 49 (Operand.tmp 105), type := 49, pos := "top46.go:270", after := #[{ on := 25, ground := Ground.data }, { on := 22, ground := Ground.guard }], guard := some (22, false) }) (v := undef) rfl (by kernel_rfl) (by kernel_rfl) (by kernel_rfl) (fun _ _ _ h => h) (Or.inr ⟨by rfl, rfl⟩) (by with_reducible assumption) ?rest26
                    try simp only [Act.put, List.setIfInBounds_toArray, List.set_cons_zero, List.set_cons_succ]
                    refine wpAnyH_take (i := 27) (oi := { dst := some 107, op := Op.move (Operand.tmp 13), type := 3, pos := "top46.go:270", after := #[{ on := 22, ground := Ground.guard }], guard := some (22, false) }) (v := undef) rfl (by kernel_rfl) (by kernel_rfl) (by kernel_rfl) (fun _ _ _ h => h) (Or.inr ⟨by rfl, rfl⟩) (by with_reducible assumption) ?rest27
                    try simp only [Act.put, List.setIfInBounds_toArray, List.set_cons_zero, List.set_cons_succ]
                    refine wpAnyH_take (i := 28) (oi := { dst := some 108, op := Op.binOp BinOp.mul 3 (Operand.const (Value.int IntKind.i64 3)) (Operand.tmp 107) 3, type := 3, pos := "top46.go:270", after := #[{ on := 27, ground := Ground.data }, { on := 22, ground := Ground.guard }], guard := some (22, false) }) (v := undef) rfl (by kernel_rfl) (by kernel_rfl) (by kernel_rfl) (fun _ _ _ h => h) (Or.inr ⟨by rfl, rfl⟩) (by with_reducible assumption) ?rest28
                    try simp only [Act.put, List.setIfInBounds_toArray, List.set_cons_zero, List.set_cons_succ]
                    refine wpAnyH_take (i := 29) (oi := { dst := some 109, op := Op.move (Operand.tmp 14), type := 3, pos := "top46.go:270", after := #[{ on := 22, ground := Ground.guard }], guard := some (22, false) }) (v := undef) rfl (by kernel_rfl) (by kernel_rfl) (by kernel_rfl) (fun _ _ _ h => h) (Or.inr ⟨by rfl, rfl⟩) (by with_reducible assumption) ?rest29
                    try simp only [Act.put, List.setIfInBounds_toArray, List.set_cons_zero, List.set_cons_succ]
                    refine wpAnyH_take (i := 30) (oi := { dst := some 110, op := Op.binOp BinOp.add 3 (Operand.tmp 108) (Operand.tmp 109) 3, type := 3, pos := "top46.go:270", after := #[{ on := 28, ground := Ground.data }, { on := 29, ground := Ground.data }, { on := 22, ground := Ground.guard }], guard := some (22, false) }) (v := undef) rfl (by kernel_rfl) (by kernel_rfl) (by kernel_rfl) (fun _ _ _ h => h) (Or.inr ⟨by rfl, rfl⟩) (by with_reducible assumption) ?rest30
                    try simp only [Act.put, List.setIfInBounds_toArray, List.set_cons_zero, List.set_cons_succ]
                    refine wpAnyH_take (i := 31) (oi := { dst := some 111, op := Op.binOp BinOp.shr 49 (Operand.tmp 106) (Operand.tmp 110) 3, type := 49, pos := "top46.go:270", after := #[{ on := 26, ground := Ground.data }, { on := 30, ground := Ground.data }, { on := 22, ground := Ground.guard }], guard := some (22, false) }) (v := undef) rfl (by kernel_rfl) (by kernel_rfl) (by kernel_rfl) (fun _ _ _ h => h) (Or.inr ⟨by rfl, rfl⟩) (by with_reducible assumption) ?rest31
                    try simp only [Act.put, List.setIfInBounds_toArray, List.set_cons_zero, List.set_cons_succ]
                    refine wpAnyH_take (i := 32) (oi := { dst := some 112, op := Op.binOp BinOp.and 49 (Operand.tmp 111) (Operand.const (Value.int IntKind.u16 1)) 49, type := 49, pos := "top46.go:270", after := #[{ on := 31, ground := Ground.data }, { on := 22, ground := Ground.guard }], guard := some (22, false) }) (v := undef) rfl (by kernel_rfl) (by kernel_rfl) (by kernel_rfl) (fun _ _ _ h => h) (Or.inr ⟨by rfl, rfl⟩) (by with_reducible assumption) ?rest32
                    try simp only [Act.put, List.setIfInBounds_toArray, List.set_cons_zero, List.set_cons_succ]
                    refine wpAnyH_take (i := 33) (oi := { dst := some 113, op := Op.binOp BinOp.eql 49 (Operand.tmp 112) (Operand.const (Value.int IntKind.u16 1)) 49, type := 4, pos := "top46.go:270", after := #[{ on := 32, ground := Ground.data }, { on := 22, ground := Ground.guard }], guard := some (22, false) }) (v := undef) rfl (by kernel_rfl) (by kernel_rfl) (by kernel_rfl) (fun _ _ _ h => h) (Or.inr ⟨by rfl, rfl⟩) (by with_reducible assumption) ?rest33
                    try simp only [Act.put, List.setIfInBounds_toArray, List.set_cons_zero, List.set_cons_succ]
                    refine wpAnyH_take (i := 34) (oi := { dst := some 114, op := Op.pick (Operand.tmp 102) (Operand.const (Value.bool true)) (Operand.tmp 113), type := 4, pos := "top46.go:270", after := #[{ on := 22, ground := Ground.data }, { on := 33, ground := Ground.data }], guard := none }) (v := ?v34) rfl (by kernel_rfl) (by kernel_rfl) (by kernel_rfl) (fun _ _ _ h => h) (Or.inl ⟨by rfl, ?hy34⟩) (by with_reducible assumption) ?rest34
                    case hy34 => (intro wS hSw; (try dsimp only at hSw); (go_simp <;> with_reducible rfl))
                    try simp only [Act.put, List.setIfInBounds_toArray, List.set_cons_zero, List.set_cons_succ]
                    refine wpAnyH_take (i := 35) (oi := { dst := some 115, op := Op.indexAddr 48 (Operand.tmp 88) (Operand.tmp 89), type := 0, pos := "top46.go:270", after := #[{ on := 8, ground := Ground.data }, { on := 9, ground := Ground.data }, { on := 0, ground := Ground.phase }, { on := 1, ground := Ground.phase }, { on := 2, ground := Ground.phase }, { on := 3, ground := Ground.phase }, { on := 4, ground := Ground.phase }, { on := 5, ground := Ground.phase }, { on := 6, ground := Ground.phase }, { on := 7, ground := Ground.phase }, { on := 8, ground := Ground.phase }, { on := 9, ground := Ground.phase }, { on := 10, ground := Ground.phase }, { on := 11, ground := Ground.phase }, { on := 12, ground := Ground.phase }, { on := 13, ground := Ground.phase }, { on := 14, ground := Ground.phase }, { on := 15, ground := Ground.phase }, { on := 16, ground := Ground.phase }, { on := 17, ground := Ground.phase }, { on := 18, ground := Ground.phase }, { on := 19, ground := Ground.phase }, { on := 20, ground := Ground.phase }, { on := 21, ground := Ground.phase }, { on := 22, ground := Ground.phase }, { on := 23, ground := Ground.phase }, { on := 24, ground := Ground.phase }, { on := 25, ground := Ground.phase }, { on := 26, ground := Ground.phase }, { on := 27, ground := Ground.phase }, { on := 28, ground := Ground.phase }, { on := 29, ground := Ground.phase }, { on := 30, ground := Ground.phase }, { on := 31, ground := Ground.phase }, { on := 32, ground := Ground.phase }, { on := 33, ground := Ground.phase }, { on := 34, ground := Ground.phase }], guard := none }) (v := ?v35) rfl (by kernel_rfl) (by kernel_rfl) (by kernel_rfl) (fun _ _ _ h => h) (Or.inl ⟨by rfl, ?hy35⟩) (by with_reducible assumption) ?rest35
                    case hy35 => (intro wS hSw; (try dsimp only at hSw); (go_simp <;> with_reducible rfl))
                    try simp only [Act.put, List.setIfInBounds_toArray, List.set_cons_zero, List.set_cons_succ]
                    refine wpAnyH_ready (rs := [36]) (by kernel_rfl) (by simp) ?_
                    refine AllReadyH.cons (o := { dst := none, op := Op.store 4 (Operand.tmp 115) (Operand.tmp 114), type := 0, pos := "top46.go:270", after := #[{ on := 35, ground := Ground.data }, { on := 34, ground := Ground.data }, { on := 22, ground := Ground.chain }, { on := 0, ground := Ground.phase }, { on := 1, ground := Ground.phase }, { on := 2, ground := Ground.phase }, { on := 3, ground := Ground.phase }, { on := 4, ground := Ground.phase }, { on := 5, ground := Ground.phase }, { on := 6, ground := Ground.phase }, { on := 7, ground := Ground.phase }, { on := 8, ground := Ground.phase }, { on := 9, ground := Ground.phase }, { on := 10, ground := Ground.phase }, { on := 11, ground := Ground.phase }, { on := 12, ground := Ground.phase }, { on := 13, ground := Ground.phase }, { on := 14, ground := Ground.phase }, { on := 15, ground := Ground.phase }, { on := 16, ground := Ground.phase }, { on := 17, ground := Ground.phase }, { on := 18, ground := Ground.phase }, { on := 19, ground := Ground.phase }, { on := 20, ground := Ground.phase }, { on := 21, ground := Ground.phase }, { on := 22, ground := Ground.phase }, { on := 23, ground := Ground.phase }, { on := 24, ground := Ground.phase }, { on := 25, ground := Ground.phase }, { on := 26, ground := Ground.phase }, { on := 27, ground := Ground.phase }, { on := 28, ground := Ground.phase }, { on := 29, ground := Ground.phase }, { on := 30, ground := Ground.phase }, { on := 31, ground := Ground.phase }, { on := 32, ground := Ground.phase }, { on := 33, ground := Ground.phase }, { on := 34, ground := Ground.phase }], guard := none }) rfl (fun K hK => ?_) AllReadyH.nil
                    go_simp
                    refine hK.out _ _ ?_ (fun hHeld => ?_)
                    · (first
                        | (refine cells4_fard ⟨nq, fun e => n3 e.symm, fun e => n4 e.symm, nM⟩ ?_; with_reducible assumption)
                        | (refine cells4_far ⟨nq, fun e => n3 e.symm, fun e => n4 e.symm, nM⟩ ?_; with_reducible assumption))
                    clear hK K
                    refine wpAnyH_done (by kernel_rfl) (NoPanic.normal ?_) _
                    clear zq fq q0 q1 q2 q3 d3 d4 d5 dM f5
                    go_wp2
                    go_roundw
                    case rel => exact ⟨v + 1, _, by go_num, by omega, Lib.hid (RlI.drew (hset.out true))⟩
                    case measure => simp [intOf]; omega
                · obtain rfl : v = k := by omega
                  clear hlv
                  go_wp2
                  go_roundw
                  case rel => exact ⟨u + 1, ρ3, by go_num, by omega, hI3⟩
                  case measure => simp [intOf]; omega
            · obtain rfl : u = n := by omega
              clear hlu
              clear zq fq q0 q1 q2 q3
              go_wp2
              go_roundw
              case rel => exact ⟨i + 1, ρ2, by go_num, by omega, hI2⟩
              case measure => simp [intOf]; omega
      · obtain rfl : i = p.tabs.length := by omega
        clear hlt
        go_wp2
        go_meet
        exact ⟨ρ, hI⟩
  case rest =>
    clear hI0 zq fq q0 q1 q2 q3
    rename World => wx
    obtain ⟨ρ, hI⟩ := hcut
    have S6 := Lib.hid hI.out.fm
    have hP6 := Lib.hid (hP3.out.to hI.out.bel)
    have HF := Lib.hid (find_any p ⟨y0, v0, y1, v1, y2, v2, y3, v3⟩ wx hP6.out hpb.out hp0.out hn1.out)
    have hC := Lib.hid (fro_chk hI.out.rx)
    have hL6 := fro_len p (stMx p)
    obtain ⟨l, hl⟩ : ∃ l, (frO p (stMx p)).1 = l := ⟨_, rfl⟩
    obtain ⟨e6, he6⟩ : ∃ e, (frO p (stMx p)).2 = e := ⟨_, rfl⟩
    rw [hl, he6] at HF hC
    rw [hl] at hL6
    clear hl he6
    obtain ⟨⟨zq, fq, q0, q1, q2, q3, -⟩, ⟨zp, fp, p0, p1, p2, p3, -⟩, -⟩ := S6.out.facts
    go_wp2_with fail
    with_reducible refine HF.out.mono ?_
    rintro e' w7 ⟨_, rfl, hb7, A7, c7, rfl, hO7⟩
    have S7 := Lib.hid (S6.out.call hb7)
    have hP7 := Lib.hid (hP6.out.to hb7)
    have hX7 := hI.out.px.to hb7
    have HC := check_any ρ ⟨z0, t0, z1, t1, z2, t2, z3, t3⟩ A7 c7 l w7 hX7.po.prob hI.out.rx.bd hI.out.rx.e0 (fun h => by have h2 := hX7.o1; dsimp only at h2 h; rw [h] at h2; exact own_none h2) (spOwn_arr hO7) hL6
    dsimp only [probV] at HC
    rw [hI.out.rx.rl.vs, hI.out.rx.rl.now, hI.out.rx.rl.tgt, hI.out.rx.rl.tl] at HC
    replace HC := Lib.hid HC
    clear hX7 hO7 hb7 hI S6 hP6 HF zq fq q0 q1 q2 q3 zp fp p0 p1 p2 p3
    obtain ⟨⟨zq, fq, q0, q1, q2, q3, -⟩, ⟨zp, fp, p0, p1, p2, p3, -⟩, ⟨zx, fx, x0, x1, x2, -⟩, ⟨zd, fd, d0, d1, d2, d3, -⟩, -⟩ := S7.out.facts
    by_cases he : e6 = 0
    · subst he
      have hC2 := hC.out rfl
      rw [hC2] at HC
      clear hC2 hC
      go_wp2_with fail
      with_reducible refine HC.out.mono ?_
      rintro e' w8 ⟨rfl, hb8⟩
      have S8 := Lib.hid (S7.out.call hb8)
      have hP8 := Lib.hid (hP7.out.to hb8)
      clear hb8 S7 hP7 HC zq fq q0 q1 q2 q3 zp fp p0 p1 p2 p3 zx fx x0 x1 x2 zd fd d0 d1 d2 d3
      obtain ⟨⟨zq, fq, q0, q1, q2, q3, -⟩, ⟨zp, fp, p0, p1, p2, p3, -⟩, ⟨zx, fx, x0, x1, x2, -⟩, ⟨zd, fd, d0, d1, d2, d3, -⟩, -⟩ := S8.out.facts
      have HO := Lib.hid (of36_any p ⟨y0, v0, y1, v1, y2, v2, y3, v3⟩ x ⟨ra0, rc0, ra1, rc1, ra2, rc2⟩ _ hP8.out hp0.out (hxW.out _ S8.out.bel) hxb.out)
      go_wp2_with fail
      with_reducible refine HO.out.mono ?_
      rintro e' w9 ⟨_, rfl, hb9, ⟨a0, c0, a1, c1, a2, c2⟩, rfl, hA9⟩
      have S9 := S8.out.call hb9
      have hP9 := hP8.out.to hb9
      have hmo := dMix_ok (p := p) x hp0.out
      have hm8 := dMix_h8t (p := p) x hp0.out
      obtain ⟨m, hm⟩ : ∃ m, dMix p x = m := ⟨_, rfl⟩
      rw [hm] at hA9 hmo hm8
      replace hm := Lib.hid hm
      rw [hm.out]
      clear hb9 S8 hP8 HO zq fq q0 q1 q2 q3 zp fp p0 p1 p2 p3 zx fx x0 x1 x2 zd fd d0 d1 d2 d3
      obtain ⟨⟨zq, fq, q0, q1, q2, q3, -⟩, ⟨zp, fp, p0, p1, p2, p3, -⟩, -⟩ := S9.facts
      go_upto_region 23 with fail
      obtain ⟨W10, (hW10 : w9.alloc (.cells #[.slice a0 m.base.length c0, .slice a1 m.next.length c1, .slice a2 m.held.length c2] 56) = W10), S10, hB10⟩ := fm_boxE S9 56 [.slice a0 m.base.length c0, .slice a1 m.next.length c1, .slice a2 m.held.length c2]
      have hA10 := hA9.to hB10
      have hP10 := hP9.to hB10
      have HR := Lib.hid (robust_any p ⟨y0, v0, y1, v1, y2, v2, y3, v3⟩ m ⟨a0, c0, a1, c1, a2, c2⟩ W10 hP10 hpb.out hA10.mix (hA10.bd hm8) hmo)
      obtain ⟨rb, hrb⟩ : ∃ b, robB p m = b := ⟨_, rfl⟩
      rw [hrb] at HR
      replace hrb := Lib.hid hrb
      replace hmo := Lib.hid hmo
      replace hm8 := Lib.hid hm8
      replace S10 := Lib.hid S10
      replace hA10 := Lib.hid hA10
      replace hP10 := Lib.hid hP10
      rw [hW10]
      clear hW10 S9 hB10 hA9 hP9 zq fq q0 q1 q2 q3 zp fp p0 p1 p2 p3
      obtain ⟨⟨zm, fm, m0, m1, m2, -⟩, ⟨zq, fq, q0, q1, q2, q3, -⟩, ⟨zp, fp, p0, p1, p2, p3, -⟩, -⟩ := S10.out.facts
      go_wp2_with fail
      with_reducible refine HR.out.mono ?_
      rintro e' w11 ⟨rfl, hb11⟩
      have S11 := Lib.hid (S10.out.call hb11)
      have hP11 := Lib.hid (hP10.out.to hb11)
      have hA11 := Lib.hid (hA10.out.to hb11)
      clear hb11 S10 hP10 hA10 HR zm fm m0 m1 m2 zq fq q0 q1 q2 q3 zp fp p0 p1 p2 p3
      obtain ⟨⟨zm, fm, m0, m1, m2, -⟩, ⟨zq, fq, q0, q1, q2, q3, -⟩, ⟨zp, fp, p0, p1, p2, p3, -⟩, -⟩ := S11.out.facts
      go_wp2_with fail
      have hmb := Lib.hid (hA11.out.bd hm8.out)
      have hM11 := Lib.hid hA11.out.mix
      clear hA11 hmW hxW
      go_loopw [146] (fun s146 wr => ∃ (i : Nat), s146 = .int .i64 (i : Int) ∧ i ≤ p.tabs.length ∧ Hid (Fm w wr [⟨w9.heap.size, 56, [.slice a0 m.base.length c0, .slice a1 m.next.length c1, .slice a2 m.held.length c2]⟩, ⟨w4.heap.size, 39, [.slice z0 p.vs.length t0, .slice z1 p.now.length t1, .slice z2 p.tgt.length t2, .slice z3 p.tabs.length t3]⟩, ⟨w1.heap.size, 39, [.slice y0 p.vs.length v0, .slice y1 p.now.length v1, .slice y2 p.tgt.length v2, .slice y3 p.tabs.length v3]⟩, ⟨w.heap.size + 1, 34, [.slice ra0 x.base.length rc0, .slice ra1 x.next.length rc1, .slice ra2 x.held.length rc2]⟩, ⟨w.heap.size, 32, [.slice qa0 d.vs.length qc0, .slice qa1 d.now.length qc1, .slice qa2 d.tgt.length qc2, .slice qa3 d.lk.length qc3]⟩] []) ∧ Hid (RProb wr wr.heap.size p ⟨y0, v0, y1, v1, y2, v2, y3, v3⟩) ∧ Hid (RMix wr wr.heap.size m ⟨a0, c0, a1, c1, a2, c2⟩)) (fun s146 _ => p.tabs.length - (intOf s146).toNat)
      case atStart => exact ⟨0, rfl, Nat.zero_le _, S11, hP11, hM11⟩
      case round =>
        clear S11 hP11 hM11 zm fm m0 m1 m2 zq fq q0 q1 q2 q3 zp fp p0 p1 p2 p3
        obtain ⟨i, rfl, hi, hF, hPw, hMw⟩ := hrel
        obtain ⟨⟨zm, fm, m0, m1, m2, -⟩, ⟨zq, fq, q0, q1, q2, q3, -⟩, ⟨zp, fp, p0, p1, p2, p3, -⟩, -⟩ := hF.out.facts
        by_cases hlt : i < p.tabs.length
        · have HA := apply1_any p ⟨y0, v0, y1, v1, y2, v2, y3, v3⟩ m ⟨a0, c0, a1, c1, a2, c2⟩ ⟨3, (i : Int), 0⟩ wr hPw.out hpb.out hMw.out hmb.out hmo.out
          have f1 := Lib.hid (fun (h : Go.Sv.appE p m ⟨3, (i : Int), 0⟩ = 0) => apM_mok hmo.out h)
          have f2 := Lib.hid (fun (h : Go.Sv.appE p m ⟨3, (i : Int), 0⟩ = 0) => apM_h8 hmo.out hm8.out h)
          have f3 := Lib.hid (fun (h : Go.Sv.appE p m ⟨3, (i : Int), 0⟩ = 0) (hr : robB p m = true) => clear_rob hmo.out h hr)
          obtain ⟨y, hy⟩ : ∃ y, Go.Sv.apM p m ⟨3, (i : Int), 0⟩ = y := ⟨_, rfl⟩
          obtain ⟨ee, hee⟩ : ∃ e, Go.Sv.appE p m ⟨3, (i : Int), 0⟩ = e := ⟨_, rfl⟩
          rw [hy] at HA f1 f2 f3
          rw [hee] at HA f1 f2 f3
          clear hy hee
          replace HA := Lib.hid HA
          go_wp2_with fail
          with_reducible refine HA.out.mono ?_
          rintro e' w12 ⟨_, rfl, hb12, ⟨b0, k0, b1, k1, b2, k2⟩, rfl, hAy⟩
          have S12 := hF.out.call hb12
          have hP12 := hPw.out.to hb12
          have hM12 := hMw.out.to hb12
          clear hb12 hF hPw hMw HA zm fm m0 m1 m2 zq fq q0 q1 q2 q3 zp fp p0 p1 p2 p3
          obtain ⟨⟨zm, fm, m0, m1, m2, -⟩, ⟨zq, fq, q0, q1, q2, q3, -⟩, ⟨zp, fp, p0, p1, p2, p3, -⟩, -⟩ := S12.facts
          go_upto_region 30 with fail
          obtain ⟨W13, (hW13 : w12.alloc (.cells #[.slice b0 y.base.length k0, .slice b1 y.next.length k1, .slice b2 y.held.length k2] 56) = W13), S13, hB13⟩ := fm_boxE S12 56 [.slice b0 y.base.length k0, .slice b1 y.next.length k1, .slice b2 y.held.length k2]
          have hAy13 := Lib.hid (hAy.to hB13)
          have hP13 := Lib.hid (hP12.to hB13)
          have hM13 := Lib.hid (hM12.to hB13)
          replace S13 := Lib.hid S13
          rw [hW13]
          clear hW13 hB13 hAy hP12 hM12 S12 zm fm m0 m1 m2 zq fq q0 q1 q2 q3 zp fp p0 p1 p2 p3
          obtain ⟨⟨zy, fy, n0, n1, n2, -⟩, ⟨zm, fm, m0, m1, m2, -⟩, ⟨zq, fq, q0, q1, q2, q3, -⟩, ⟨zp, fp, p0, p1, p2, p3, -⟩, -⟩ := S13.out.facts
          have hD := Lib.hid (fun (W' : World) (hF' : Fm w W' (⟨w12.heap.size, 56, [.slice b0 y.base.length k0, .slice b1 y.next.length k1, .slice b2 y.held.length k2]⟩ :: [⟨w9.heap.size, 56, [.slice a0 m.base.length c0, .slice a1 m.next.length c1, .slice a2 m.held.length c2]⟩, ⟨w4.heap.size, 39, [.slice z0 p.vs.length t0, .slice z1 p.now.length t1, .slice z2 p.tgt.length t2, .slice z3 p.tabs.length t3]⟩, ⟨w1.heap.size, 39, [.slice y0 p.vs.length v0, .slice y1 p.now.length v1, .slice y2 p.tgt.length v2, .slice y3 p.tabs.length v3]⟩, ⟨w.heap.size + 1, 34, [.slice ra0 x.base.length rc0, .slice ra1 x.next.length rc1, .slice ra2 x.held.length rc2]⟩, ⟨w.heap.size, 32, [.slice qa0 d.vs.length qc0, .slice qa1 d.now.length qc1, .slice qa2 d.tgt.length qc2, .slice qa3 d.lk.length qc3]⟩]) []) => hF'.drop [⟨w9.heap.size, 56, [.slice a0 m.base.length c0, .slice a1 m.next.length c1, .slice a2 m.held.length c2]⟩, ⟨w4.heap.size, 39, [.slice z0 p.vs.length t0, .slice z1 p.now.length t1, .slice z2 p.tgt.length t2, .slice z3 p.tabs.length t3]⟩, ⟨w1.heap.size, 39, [.slice y0 p.vs.length v0, .slice y1 p.now.length v1, .slice y2 p.tgt.length v2, .slice y3 p.tabs.length v3]⟩, ⟨w.heap.size + 1, 34, [.slice ra0 x.base.length rc0, .slice ra1 x.next.length rc1, .slice ra2 x.held.length rc2]⟩, ⟨w.heap.size, 32, [.slice qa0 d.vs.length qc0, .slice qa1 d.now.length qc1, .slice qa2 d.tgt.length qc2, .slice qa3 d.lk.length qc3]⟩] [] (List.Sublist.cons _ (List.Sublist.refl _)) (List.Sublist.refl _))
          by_cases hz : ee = 0
          · subst hz
            cases rb with
            | false =>
              clear zy fy n0 n1 n2 zm fm m0 m1 m2 zq fq q0 q1 q2 q3 zp fp p0 p1 p2 p3
              go_wp2
              go_roundw
              case rel => exact ⟨i + 1, by go_num, by omega, Lib.hid (hD.out _ S13.out), hP13, hM13⟩
              case measure => simp [intOf]; omega
            | true =>
              have HR := robust_any p ⟨y0, v0, y1, v1, y2, v2, y3, v3⟩ y ⟨b0, k0, b1, k1, b2, k2⟩ W13 hP13.out hpb.out hAy13.out.mix (hAy13.out.bd (f2.out rfl)) (f1.out rfl)
              rw [f3.out rfl hrb.out] at HR
              replace HR := Lib.hid HR
              go_wp2_with fail
              with_reducible refine HR.out.mono ?_
              rintro e' w14 ⟨rfl, hb14⟩
              have S14 := Lib.hid (hD.out _ (S13.out.call hb14))
              have hP14 := Lib.hid (hP13.out.to hb14)
              have hM14 := Lib.hid (hM13.out.to hb14)
              clear hb14 S13 hP13 hM13 HR hAy13 zy fy n0 n1 n2 zm fm m0 m1 m2 zq fq q0 q1 q2 q3 zp fp p0 p1 p2 p3
              go_wp2
              go_roundw
              case rel => exact ⟨i + 1, by go_num, by omega, S14, hP14, hM14⟩
              case measure => simp [intOf]; omega
          · have hz2 : (ee == 0) = false := by simpa using hz
            clear zy fy n0 n1 n2 zm fm m0 m1 m2 zq fq q0 q1 q2 q3 zp fp p0 p1 p2 p3
            go_wp2
            go_roundw
            case rel => exact ⟨i + 1, by go_num, by omega, Lib.hid (hD.out _ S13.out), hP13, hM13⟩
            case measure => simp [intOf]; omega
        · obtain rfl : i = p.tabs.length := by omega
          clear hlt zm fm m0 m1 m2 zq fq q0 q1 q2 q3 zp fp p0 p1 p2 p3
          go_wp2
          go_ret
          exact ⟨rfl, hF.out.bel⟩
    · have he2 : (e6 == 0) = false := by simpa using he
      have S8 := S7
      have hP8 := hP7
      clear S7 hP7 HC hC zq fq q0 q1 q2 q3 zp fp p0 p1 p2 p3 zx fx x0 x1 x2 zd fd d0 d1 d2 d3
      obtain ⟨⟨zq, fq, q0, q1, q2, q3, -⟩, ⟨zp, fp, p0, p1, p2, p3, -⟩, ⟨zx, fx, x0, x1, x2, -⟩, ⟨zd, fd, d0, d1, d2, d3, -⟩, -⟩ := S8.out.facts
      have HO := Lib.hid (of36_any p ⟨y0, v0, y1, v1, y2, v2, y3, v3⟩ x ⟨ra0, rc0, ra1, rc1, ra2, rc2⟩ _ hP8.out hp0.out (hxW.out _ S8.out.bel) hxb.out)
      go_wp2_with fail
      with_reducible refine HO.out.mono ?_
      rintro e' w9 ⟨_, rfl, hb9, ⟨a0, c0, a1, c1, a2, c2⟩, rfl, hA9⟩
      have S9 := S8.out.call hb9
      have hP9 := hP8.out.to hb9
      have hmo := dMix_ok (p := p) x hp0.out
      have hm8 := dMix_h8t (p := p) x hp0.out
      obtain ⟨m, hm⟩ : ∃ m, dMix p x = m := ⟨_, rfl⟩
      rw [hm] at hA9 hmo hm8
      replace hm := Lib.hid hm
      rw [hm.out]
      clear hb9 S8 hP8 HO zq fq q0 q1 q2 q3 zp fp p0 p1 p2 p3 zx fx x0 x1 x2 zd fd d0 d1 d2 d3
      obtain ⟨⟨zq, fq, q0, q1, q2, q3, -⟩, ⟨zp, fp, p0, p1, p2, p3, -⟩, -⟩ := S9.facts
      go_upto_region 23 with fail
      obtain ⟨W10, (hW10 : w9.alloc (.cells #[.slice a0 m.base.length c0, .slice a1 m.next.length c1, .slice a2 m.held.length c2] 56) = W10), S10, hB10⟩ := fm_boxE S9 56 [.slice a0 m.base.length c0, .slice a1 m.next.length c1, .slice a2 m.held.length c2]
      have hA10 := hA9.to hB10
      have hP10 := hP9.to hB10
      have HR := Lib.hid (robust_any p ⟨y0, v0, y1, v1, y2, v2, y3, v3⟩ m ⟨a0, c0, a1, c1, a2, c2⟩ W10 hP10 hpb.out hA10.mix (hA10.bd hm8) hmo)
      obtain ⟨rb, hrb⟩ : ∃ b, robB p m = b := ⟨_, rfl⟩
      rw [hrb] at HR
      replace hrb := Lib.hid hrb
      replace hmo := Lib.hid hmo
      replace hm8 := Lib.hid hm8
      replace S10 := Lib.hid S10
      replace hA10 := Lib.hid hA10
      replace hP10 := Lib.hid hP10
      rw [hW10]
      clear hW10 S9 hB10 hA9 hP9 zq fq q0 q1 q2 q3 zp fp p0 p1 p2 p3
      obtain ⟨⟨zm, fm, m0, m1, m2, -⟩, ⟨zq, fq, q0, q1, q2, q3, -⟩, ⟨zp, fp, p0, p1, p2, p3, -⟩, -⟩ := S10.out.facts
      go_wp2_with fail
      with_reducible refine HR.out.mono ?_
      rintro e' w11 ⟨rfl, hb11⟩
      have S11 := Lib.hid (S10.out.call hb11)
      have hP11 := Lib.hid (hP10.out.to hb11)
      have hA11 := Lib.hid (hA10.out.to hb11)
      clear hb11 S10 hP10 hA10 HR zm fm m0 m1 m2 zq fq q0 q1 q2 q3 zp fp p0 p1 p2 p3
      obtain ⟨⟨zm, fm, m0, m1, m2, -⟩, ⟨zq, fq, q0, q1, q2, q3, -⟩, ⟨zp, fp, p0, p1, p2, p3, -⟩, -⟩ := S11.out.facts
      go_wp2_with fail
      have hmb := Lib.hid (hA11.out.bd hm8.out)
      have hM11 := Lib.hid hA11.out.mix
      clear hA11 hmW hxW
      go_loopw [146] (fun s146 wr => ∃ (i : Nat), s146 = .int .i64 (i : Int) ∧ i ≤ p.tabs.length ∧ Hid (Fm w wr [⟨w9.heap.size, 56, [.slice a0 m.base.length c0, .slice a1 m.next.length c1, .slice a2 m.held.length c2]⟩, ⟨w4.heap.size, 39, [.slice z0 p.vs.length t0, .slice z1 p.now.length t1, .slice z2 p.tgt.length t2, .slice z3 p.tabs.length t3]⟩, ⟨w1.heap.size, 39, [.slice y0 p.vs.length v0, .slice y1 p.now.length v1, .slice y2 p.tgt.length v2, .slice y3 p.tabs.length v3]⟩, ⟨w.heap.size + 1, 34, [.slice ra0 x.base.length rc0, .slice ra1 x.next.length rc1, .slice ra2 x.held.length rc2]⟩, ⟨w.heap.size, 32, [.slice qa0 d.vs.length qc0, .slice qa1 d.now.length qc1, .slice qa2 d.tgt.length qc2, .slice qa3 d.lk.length qc3]⟩] []) ∧ Hid (RProb wr wr.heap.size p ⟨y0, v0, y1, v1, y2, v2, y3, v3⟩) ∧ Hid (RMix wr wr.heap.size m ⟨a0, c0, a1, c1, a2, c2⟩)) (fun s146 _ => p.tabs.length - (intOf s146).toNat)
      case atStart => exact ⟨0, rfl, Nat.zero_le _, S11, hP11, hM11⟩
      case round =>
        clear S11 hP11 hM11 zm fm m0 m1 m2 zq fq q0 q1 q2 q3 zp fp p0 p1 p2 p3
        obtain ⟨i, rfl, hi, hF, hPw, hMw⟩ := hrel
        obtain ⟨⟨zm, fm, m0, m1, m2, -⟩, ⟨zq, fq, q0, q1, q2, q3, -⟩, ⟨zp, fp, p0, p1, p2, p3, -⟩, -⟩ := hF.out.facts
        by_cases hlt : i < p.tabs.length
        · have HA := apply1_any p ⟨y0, v0, y1, v1, y2, v2, y3, v3⟩ m ⟨a0, c0, a1, c1, a2, c2⟩ ⟨3, (i : Int), 0⟩ wr hPw.out hpb.out hMw.out hmb.out hmo.out
          have f1 := Lib.hid (fun (h : Go.Sv.appE p m ⟨3, (i : Int), 0⟩ = 0) => apM_mok hmo.out h)
          have f2 := Lib.hid (fun (h : Go.Sv.appE p m ⟨3, (i : Int), 0⟩ = 0) => apM_h8 hmo.out hm8.out h)
          have f3 := Lib.hid (fun (h : Go.Sv.appE p m ⟨3, (i : Int), 0⟩ = 0) (hr : robB p m = true) => clear_rob hmo.out h hr)
          obtain ⟨y, hy⟩ : ∃ y, Go.Sv.apM p m ⟨3, (i : Int), 0⟩ = y := ⟨_, rfl⟩
          obtain ⟨ee, hee⟩ : ∃ e, Go.Sv.appE p m ⟨3, (i : Int), 0⟩ = e := ⟨_, rfl⟩
          rw [hy] at HA f1 f2 f3
          rw [hee] at HA f1 f2 f3
          clear hy hee
          replace HA := Lib.hid HA
          go_wp2_with fail
          with_reducible refine HA.out.mono ?_
          rintro e' w12 ⟨_, rfl, hb12, ⟨b0, k0, b1, k1, b2, k2⟩, rfl, hAy⟩
          have S12 := hF.out.call hb12
          have hP12 := hPw.out.to hb12
          have hM12 := hMw.out.to hb12
          clear hb12 hF hPw hMw HA zm fm m0 m1 m2 zq fq q0 q1 q2 q3 zp fp p0 p1 p2 p3
          obtain ⟨⟨zm, fm, m0, m1, m2, -⟩, ⟨zq, fq, q0, q1, q2, q3, -⟩, ⟨zp, fp, p0, p1, p2, p3, -⟩, -⟩ := S12.facts
          go_upto_region 30 with fail
          obtain ⟨W13, (hW13 : w12.alloc (.cells #[.slice b0 y.base.length k0, .slice b1 y.next.length k1, .slice b2 y.held.length k2] 56) = W13), S13, hB13⟩ := fm_boxE S12 56 [.slice b0 y.base.length k0, .slice b1 y.next.length k1, .slice b2 y.held.length k2]
          have hAy13 := Lib.hid (hAy.to hB13)
          have hP13 := Lib.hid (hP12.to hB13)
          have hM13 := Lib.hid (hM12.to hB13)
          replace S13 := Lib.hid S13
          rw [hW13]
          clear hW13 hB13 hAy hP12 hM12 S12 zm fm m0 m1 m2 zq fq q0 q1 q2 q3 zp fp p0 p1 p2 p3
          obtain ⟨⟨zy, fy, n0, n1, n2, -⟩, ⟨zm, fm, m0, m1, m2, -⟩, ⟨zq, fq, q0, q1, q2, q3, -⟩, ⟨zp, fp, p0, p1, p2, p3, -⟩, -⟩ := S13.out.facts
          have hD := Lib.hid (fun (W' : World) (hF' : Fm w W' (⟨w12.heap.size, 56, [.slice b0 y.base.length k0, .slice b1 y.next.length k1, .slice b2 y.held.length k2]⟩ :: [⟨w9.heap.size, 56, [.slice a0 m.base.length c0, .slice a1 m.next.length c1, .slice a2 m.held.length c2]⟩, ⟨w4.heap.size, 39, [.slice z0 p.vs.length t0, .slice z1 p.now.length t1, .slice z2 p.tgt.length t2, .slice z3 p.tabs.length t3]⟩, ⟨w1.heap.size, 39, [.slice y0 p.vs.length v0, .slice y1 p.now.length v1, .slice y2 p.tgt.length v2, .slice y3 p.tabs.length v3]⟩, ⟨w.heap.size + 1, 34, [.slice ra0 x.base.length rc0, .slice ra1 x.next.length rc1, .slice ra2 x.held.length rc2]⟩, ⟨w.heap.size, 32, [.slice qa0 d.vs.length qc0, .slice qa1 d.now.length qc1, .slice qa2 d.tgt.length qc2, .slice qa3 d.lk.length qc3]⟩]) []) => hF'.drop [⟨w9.heap.size, 56, [.slice a0 m.base.length c0, .slice a1 m.next.length c1, .slice a2 m.held.length c2]⟩, ⟨w4.heap.size, 39, [.slice z0 p.vs.length t0, .slice z1 p.now.length t1, .slice z2 p.tgt.length t2, .slice z3 p.tabs.length t3]⟩, ⟨w1.heap.size, 39, [.slice y0 p.vs.length v0, .slice y1 p.now.length v1, .slice y2 p.tgt.length v2, .slice y3 p.tabs.length v3]⟩, ⟨w.heap.size + 1, 34, [.slice ra0 x.base.length rc0, .slice ra1 x.next.length rc1, .slice ra2 x.held.length rc2]⟩, ⟨w.heap.size, 32, [.slice qa0 d.vs.length qc0, .slice qa1 d.now.length qc1, .slice qa2 d.tgt.length qc2, .slice qa3 d.lk.length qc3]⟩] [] (List.Sublist.cons _ (List.Sublist.refl _)) (List.Sublist.refl _))
          by_cases hz : ee = 0
          · subst hz
            cases rb with
            | false =>
              clear zy fy n0 n1 n2 zm fm m0 m1 m2 zq fq q0 q1 q2 q3 zp fp p0 p1 p2 p3
              go_wp2
              go_roundw
              case rel => exact ⟨i + 1, by go_num, by omega, Lib.hid (hD.out _ S13.out), hP13, hM13⟩
              case measure => simp [intOf]; omega
            | true =>
              have HR := robust_any p ⟨y0, v0, y1, v1, y2, v2, y3, v3⟩ y ⟨b0, k0, b1, k1, b2, k2⟩ W13 hP13.out hpb.out hAy13.out.mix (hAy13.out.bd (f2.out rfl)) (f1.out rfl)
              rw [f3.out rfl hrb.out] at HR
              replace HR := Lib.hid HR
              go_wp2_with fail
              with_reducible refine HR.out.mono ?_
              rintro e' w14 ⟨rfl, hb14⟩
              have S14 := Lib.hid (hD.out _ (S13.out.call hb14))
              have hP14 := Lib.hid (hP13.out.to hb14)
              have hM14 := Lib.hid (hM13.out.to hb14)
              clear hb14 S13 hP13 hM13 HR hAy13 zy fy n0 n1 n2 zm fm m0 m1 m2 zq fq q0 q1 q2 q3 zp fp p0 p1 p2 p3
              go_wp2
              go_roundw
              case rel => exact ⟨i + 1, by go_num, by omega, S14, hP14, hM14⟩
              case measure => simp [intOf]; omega
          · have hz2 : (ee == 0) = false := by simpa using hz
            clear zy fy n0 n1 n2 zm fm m0 m1 m2 zq fq q0 q1 q2 q3 zp fp p0 p1 p2 p3
            go_wp2
            go_roundw
            case rel => exact ⟨i + 1, by go_num, by omega, Lib.hid (hD.out _ S13.out), hP13, hM13⟩
            case measure => simp [intOf]; omega
        · obtain rfl : i = p.tabs.length := by omega
          clear hlt zm fm m0 m1 m2 zq fq q0 q1 q2 q3 zp fp p0 p1 p2 p3
          go_wp2
          go_ret
          exact ⟨rfl, hF.out.bel⟩
end Go.Proofs.Ytickckehhfdoeaa
