/-
  CONTRACT of sheaveref37.After: the mix behind a step, in a copy.
  Conditions: those that each theorem names.
-/
import Derived.Deep.RegionLaw
import Derived.Test.YtfcimilimojfoaaDoorSb12
import Derived.Test.YtfcimilimojfoaaDoorSb5
import Derived.Test.YtfcimilimojfoaaDoorRegK
import Derived.Deep.DeepCutAuto
namespace Go.Proofs.YtfcimilimojfoaaDoor
open Go.RowKit Go.Sv
def emptyN (e : TypeId) : Value → List Bx → List Rd → Prop := fun v bs _ => ∃ g, v = .slice (some ⟨g, 0, none⟩) 0 0 ∧ (⟨g, e, []⟩ : Bx) ∈ bs
/-- the copy's three rows -/
def triN (m : Mx) : Value → List Bx → List Rd → Prop := fun v bs _ => ∃ u0 u1 u2, v = .agg #[u0, u1, u2] ∧ RowJ 3 m.base.length (iv m.base) u0 bs ∧ RowJ 3 m.next.length (iv m.next) u1 bs ∧ RowJ 64 m.held.length (u8v m.held) u2 bs ∧
  (∀ g, keyV u0 = some g → keyV u1 ≠ some g) ∧ (∀ g, keyV u0 = some g → keyV u2 ≠ some g) ∧ ∀ g, keyV u1 = some g → keyV u2 ≠ some g
theorem triN.mono {m : Mx} {v : Value} {bs bs' : List Bx} {rs rs' : List Rd} (h : triN m v bs rs) (hb : ∀ x ∈ bs, x ∈ bs') : triN m v bs' rs' := by
  obtain ⟨u0, u1, u2, e, r0, r1, r2, d⟩ := h
  exact ⟨u0, u1, u2, e, r0.mono hb, r1.mono hb, r2.mono hb, d⟩
theorem RowJ.own {w W : World} {bs : List Bx} {rs : List Rd} (S : Fm w W bs rs) {e : TypeId} {n : Nat} {f : Nat → Value} {v : Value} (h : RowJ e n f v bs) : ∃ A c, v = .slice A n c ∧ W.ownsRow w.heap.size e 1 (.slice A n c) n (rowM n f) := by
  obtain ⟨g, c, cs, rfl, hm, hl, hn, hc, ht⟩ := h
  have hw := allB_at S.bx _ hm
  exact ⟨_, c, rfl, by rw [rowM_len, Nat.mul_one], Or.inr ⟨g, c, cs.toArray, rfl, S.lo _ hm, hw, hn, hc, by simpa using hl, by rw [Nat.mul_one]; exact ht⟩⟩
theorem RowJ.ne {w W : World} {bs : List Bx} {rs : List Rd} (S : Fm w W bs rs) {e t : TypeId} {n : Nat} {f : Nat → Value} {v : Value} (h : RowJ e n f v bs) {gB : Nat} {cs : List Value} (hm : (⟨gB, t, cs⟩ : Bx) ∈ bs) (he : e ≠ t) : keyV v ≠ some gB := by
  obtain ⟨g, c, cs', rfl, hm', _⟩ := h
  intro hk
  cases n with
  | zero => cases hk
  | succ n =>
    have hk : g = gB := by injection hk
    subst hk
    have h1 : W.heap[g]? = _ := allB_at S.bx _ hm
    have h2 : W.heap[g]? = _ := allB_at S.bx _ hm'
    rw [h1] at h2
    injection h2 with h2
    injection h2 with _ h3 _
    exact he h3.symm
theorem AO.else_ {W : World} {B : Nat} {m : Mx} {q : MixP} (h : AO W B m q) {g i : Nat} (k0 : keyV (.slice q.a0 m.base.length q.c0) ≠ some g) (k1 : keyV (.slice q.a1 m.next.length q.c1) ≠ some g) (k2 : keyV (.slice q.a2 m.held.length q.c2) ≠ some g) (u : Value) : AO (W.setCell ⟨g, i, none⟩ u) B m q :=
  ⟨own_else h.o0 k0 u, own_else h.o1 k1 u, own_else h.o2 k2 u, h.d01, h.d02, h.d12⟩
set_option maxHeartbeats 4000000 in
set_option maxRecDepth 100000 in
theorem rafter_any (p : Prob) (q : ProbP) (m : Mx) (qm : MixP) (s : Sp) (w : World) (hp : RProb w w.heap.size p q) (_hbd : PBd p) (hm : RMix w w.heap.size m qm) (hmb : MBd m qm) (hok : MOk p m)
    (hs : spB s = true) (he : existsB p s = true) :
    Calls Tryd.prog 52 #[probV p q, mixV m qm, stepV s] w (Ret (AftR w p m s)) := by
  have h8 : H8 m := hmb.h8
  have hps := prob_small hok.pr
  have lb := hok.lb
  have ln := hok.ln
  have lh := hok.lh
  have b0 : m.base.length ≤ 1000000 := by omega
  have b1 : m.next.length ≤ 1000000 := by omega
  have b2 : m.held.length ≤ 1000000 := by omega
  obtain ⟨W, hW, hsz, S⟩ := pms_boxes p q m qm s w
  have hmW := Lib.hid (fun W2 (h : Below W.heap.size W W2) => (hm.to S.bel).to h)
  have hpW := Lib.hid (fun W2 (h : Below W.heap.size W W2) => (hp.to S.bel).to h)
  have SW := Lib.hid S
  obtain ⟨hN0, hN1, hN2⟩ := And.intro hmb.n0 (And.intro hmb.n1 hmb.n2)
  obtain ⟨qa0, qc0, qa1, qc1, qa2, qc2, qa3, qc3⟩ := q
  obtain ⟨ma0, mc0, ma1, mc1, ma2, mc2⟩ := qm
  obtain ⟨kd, ix, v⟩ := s
  dsimp only at hW S hN0 hN1 hN2 hmW ⊢
  replace hps := Lib.hid hps
  replace lb := Lib.hid lb
  replace ln := Lib.hid ln
  replace lh := Lib.hid lh
  obtain ⟨⟨r1, f1, r10, r11, r12, -⟩, ⟨r2, f2, r20, r21, r22, -⟩, ⟨zm1, f3, n0, n1, n2, -⟩, ⟨r4, f4, r40, r41, r42, r43, -⟩, -⟩ := S.facts
  clear S hm hp hmb
  go_enter Tryd.func52, Tryd.ntmps52
  go_wp2_with fail
  clear hW
  refine wp_region_any (by kernel_rfl) ?_
  change wpAny _ _ _ _ _ #[false, false, false, false, false, false, false, false, false, false, false, false, false, false, false] _ (World.drew _)
  have S0 := Lib.hid ((Fm.init W).drew)
  generalize hJ : ([⟨0, 15, false, emptyN 3⟩, ⟨1, 16, false, valN (.pointer (some ⟨w.heap.size + 1, 0, none⟩))⟩, ⟨2, 17, false, valN (.slice ma0 m.base.length mc0)⟩, ⟨3, 18, true, fun v bs _ => RowJ 3 m.base.length (iv m.base) v bs⟩, ⟨4, 19, false, emptyN 3⟩, ⟨5, 20, false, valN (.pointer (some ⟨w.heap.size + 1, 1, none⟩))⟩, ⟨6, 21, false, valN (.slice ma1 m.next.length mc1)⟩, ⟨7, 22, true, fun v bs _ => RowJ 3 m.next.length (iv m.next) v bs⟩, ⟨8, 23, false, emptyN 64⟩, ⟨9, 24, false, valN (.pointer (some ⟨w.heap.size + 1, 2, none⟩))⟩, ⟨10, 25, false, valN (.slice ma2 m.held.length mc2)⟩, ⟨11, 26, true, fun v bs _ => RowJ 64 m.held.length (u8v m.held) v bs⟩, ⟨12, 27, false, triN m⟩, ⟨13, 8, true, boxN 36 [.slice none 0 0, .slice none 0 0, .slice none 0 0]⟩] : List Jc) = J
  have hI : J.map Jc.i = [0, 1, 2, 3, 4, 5, 6, 7, 8, 9, 10, 11, 12, 13] := by subst hJ; rfl
  have hD : J.map Jc.d = [15, 16, 17, 18, 19, 20, 21, 22, 23, 24, 25, 26, 27, 8] := by subst hJ; rfl
  refine regk_go (T := [14]) [0, 1, 2, 3, 4, 5, 6, 7, 8, 9, 10, 11, 12, 13] [15, 16, 17, 18, 19, 20, 21, 22, 23, 24, 25, 26, 27, 8] hI hD 14 _ #[true, true, true, true, true, true, true, true, true, true, true, true, true, true, false] (by decide) (by decide) (by kernel_rfl) (by decide) (by decide) (by kernel_rfl) (by kernel_rfl) (by decide) (by decide) (by decide) (by decide) rfl (by decide) (by kernel_rfl) (by decide) (by decide) S0.out ?hmono ?hbx ?hstep ?hrest
  all_goals clear hI hD
  case hmono =>
    subst hJ
    intro j hj v bs bs' rs rs' hb hr hN
    simp only [List.mem_cons, List.not_mem_nil, or_false] at hj
    rcases hj with rfl | rfl | rfl | rfl | rfl | rfl | rfl | rfl | rfl | rfl | rfl | rfl | rfl | rfl
    · obtain ⟨g, e, mm⟩ := hN; exact ⟨g, e, hb _ mm⟩
    · exact hN
    · exact hN
    · exact RowJ.mono hN hb
    · obtain ⟨g, e, mm⟩ := hN; exact ⟨g, e, hb _ mm⟩
    · exact hN
    · exact hN
    · exact RowJ.mono hN hb
    · obtain ⟨g, e, mm⟩ := hN; exact ⟨g, e, hb _ mm⟩
    · exact hN
    · exact hN
    · exact RowJ.mono hN hb
    · exact triN.mono (rs := rs) (rs' := rs') hN hb
    · obtain ⟨g, e, mm⟩ := hN; exact ⟨g, e, hb _ mm⟩
  case hbx =>
    subst hJ
    intro j hj hx v bs rs hN
    simp only [List.mem_cons, List.not_mem_nil, or_false] at hj
    rcases hj with rfl | rfl | rfl | rfl | rfl | rfl | rfl | rfl | rfl | rfl | rfl | rfl | rfl | rfl
    · cases hx
    · cases hx
    · cases hx
    · exact RowJ.key hN
    · cases hx
    · cases hx
    · cases hx
    · exact RowJ.key hN
    · cases hx
    · cases hx
    · cases hx
    · exact RowJ.key hN
    · cases hx
    · obtain ⟨g, rfl, mm⟩ := hN; intro g' hg; exact ⟨_, mm, by injection hg⟩
  case hstep =>
    subst hJ
    intro j hj
    simp only [List.mem_cons, List.not_mem_nil, or_false] at hj
    rcases hj with rfl | rfl | rfl | rfl | rfl | rfl | rfl | rfl | rfl | rfl | rfl | rfl | rfl | rfl
    · refine ⟨_, rfl, rfl, fun a wq bs rs K hag hS hb0 hr0 hw hne hK => ?_⟩
      exact oper_build0 elInt rfl rfl (hK _ _ _ _ (hS.box 3 []) (fun _ h => List.mem_cons_of_mem _ h) (fun _ h => h) ⟨_, rfl, List.mem_cons_self ..⟩ (fun h => by cases h))
    · refine ⟨_, rfl, rfl, fun a wq bs rs K hag hS hb0 hr0 hw hne hK => ?_⟩
      have e4 : a.tmps[4]?.getD undef = .pointer (some ⟨w.heap.size + 1, 0, none⟩) := eval_raw ((hag.eval (by decide)).trans rfl)
      clear hag hw hb0 hr0 hne
      replace hS := Lib.hid hS
      replace hK := Lib.hid hK
      go_simp
      exact hK.out _ _ _ _ hS.out (fun _ h => h) (fun _ h => h) rfl (fun h => by cases h)
    · refine ⟨_, rfl, rfl, fun a wq bs rs K hag hS hb0 hr0 hw hne hK => ?_⟩
      have e2 : a.eval (.tmp 16) = .pointer (some ⟨w.heap.size + 1, 0, none⟩) := hw _ (List.Mem.tail _ (List.Mem.head _)) (by kernel_rfl)
      have yy : wq.cell? ⟨w.heap.size + 1, 0, none⟩ = some (.slice ma0 m.base.length mc0) := (hS.bel.cell (p := ⟨w.heap.size + 1, 0, none⟩) zm1).trans n0
      exact oper_load rfl rfl e2 Tryd.underlying30 yy (hK _ _ _ _ hS (fun _ h => h) (fun _ h => h) rfl (fun h => by cases h))
    · refine ⟨_, rfl, rfl, fun a wq bs rs K hag hS hb0 hr0 hw hne hK => ?_⟩
      obtain ⟨g, e1, m1⟩ : emptyN 3 (a.eval (.tmp 15)) bs rs := hw _ (List.Mem.head _) (by kernel_rfl)
      have e2 : a.eval (.tmp 17) = .slice ma0 m.base.length mc0 := hw _ (List.Mem.tail _ (List.Mem.tail _ (List.Mem.head _))) (by kernel_rfl)
      exact job_copy elInt (.tmp 15) (.tmp 17) rfl rfl hS e1 m1 ma0 m.base.length mc0 (iv m.base) e2 (hmW.out wq hS.bel).r0 hN0 (by omega) (by decide) (fun v w' bs' hS' hbb hR hf => hK _ _ _ _ hS' hbb (fun _ h => h) hR (fun _ => hf))
    · refine ⟨_, rfl, rfl, fun a wq bs rs K hag hS hb0 hr0 hw hne hK => ?_⟩
      exact oper_build0 elInt rfl rfl (hK _ _ _ _ (hS.box 3 []) (fun _ h => List.mem_cons_of_mem _ h) (fun _ h => h) ⟨_, rfl, List.mem_cons_self ..⟩ (fun h => by cases h))
    · refine ⟨_, rfl, rfl, fun a wq bs rs K hag hS hb0 hr0 hw hne hK => ?_⟩
      have e4 : a.tmps[4]?.getD undef = .pointer (some ⟨w.heap.size + 1, 0, none⟩) := eval_raw ((hag.eval (by decide)).trans rfl)
      clear hag hw hb0 hr0 hne
      replace hS := Lib.hid hS
      replace hK := Lib.hid hK
      go_simp
      exact hK.out _ _ _ _ hS.out (fun _ h => h) (fun _ h => h) rfl (fun h => by cases h)
    · refine ⟨_, rfl, rfl, fun a wq bs rs K hag hS hb0 hr0 hw hne hK => ?_⟩
      have e2 : a.eval (.tmp 20) = .pointer (some ⟨w.heap.size + 1, 1, none⟩) := hw _ (List.Mem.tail _ (List.Mem.tail _ (List.Mem.tail _ (List.Mem.tail _ (List.Mem.tail _ (List.Mem.head _)))))) (by kernel_rfl)
      have yy : wq.cell? ⟨w.heap.size + 1, 1, none⟩ = some (.slice ma1 m.next.length mc1) := (hS.bel.cell (p := ⟨w.heap.size + 1, 1, none⟩) zm1).trans n1
      exact oper_load rfl rfl e2 Tryd.underlying30 yy (hK _ _ _ _ hS (fun _ h => h) (fun _ h => h) rfl (fun h => by cases h))
    · refine ⟨_, rfl, rfl, fun a wq bs rs K hag hS hb0 hr0 hw hne hK => ?_⟩
      obtain ⟨g, e1, m1⟩ : emptyN 3 (a.eval (.tmp 19)) bs rs := hw _ (List.Mem.tail _ (List.Mem.tail _ (List.Mem.tail _ (List.Mem.tail _ (List.Mem.head _))))) (by kernel_rfl)
      have e2 : a.eval (.tmp 21) = .slice ma1 m.next.length mc1 := hw _ (List.Mem.tail _ (List.Mem.tail _ (List.Mem.tail _ (List.Mem.tail _ (List.Mem.tail _ (List.Mem.tail _ (List.Mem.head _))))))) (by kernel_rfl)
      exact job_copy elInt (.tmp 19) (.tmp 21) rfl rfl hS e1 m1 ma1 m.next.length mc1 (iv m.next) e2 (hmW.out wq hS.bel).r1 hN1 (by omega) (by decide) (fun v w' bs' hS' hbb hR hf => hK _ _ _ _ hS' hbb (fun _ h => h) hR (fun _ => hf))
    · refine ⟨_, rfl, rfl, fun a wq bs rs K hag hS hb0 hr0 hw hne hK => ?_⟩
      exact oper_build0 elSet rfl rfl (hK _ _ _ _ (hS.box 64 []) (fun _ h => List.mem_cons_of_mem _ h) (fun _ h => h) ⟨_, rfl, List.mem_cons_self ..⟩ (fun h => by cases h))
    · refine ⟨_, rfl, rfl, fun a wq bs rs K hag hS hb0 hr0 hw hne hK => ?_⟩
      have e4 : a.tmps[4]?.getD undef = .pointer (some ⟨w.heap.size + 1, 0, none⟩) := eval_raw ((hag.eval (by decide)).trans rfl)
      clear hag hw hb0 hr0 hne
      replace hS := Lib.hid hS
      replace hK := Lib.hid hK
      go_simp
      exact hK.out _ _ _ _ hS.out (fun _ h => h) (fun _ h => h) rfl (fun h => by cases h)
    · refine ⟨_, rfl, rfl, fun a wq bs rs K hag hS hb0 hr0 hw hne hK => ?_⟩
      have e2 : a.eval (.tmp 24) = .pointer (some ⟨w.heap.size + 1, 2, none⟩) := hw _ (List.Mem.tail _ (List.Mem.tail _ (List.Mem.tail _ (List.Mem.tail _ (List.Mem.tail _ (List.Mem.tail _ (List.Mem.tail _ (List.Mem.tail _ (List.Mem.tail _ (List.Mem.head _)))))))))) (by kernel_rfl)
      have yy : wq.cell? ⟨w.heap.size + 1, 2, none⟩ = some (.slice ma2 m.held.length mc2) := (hS.bel.cell (p := ⟨w.heap.size + 1, 2, none⟩) zm1).trans n2
      exact oper_load rfl rfl e2 Tryd.underlying34 yy (hK _ _ _ _ hS (fun _ h => h) (fun _ h => h) rfl (fun h => by cases h))
    · refine ⟨_, rfl, rfl, fun a wq bs rs K hag hS hb0 hr0 hw hne hK => ?_⟩
      obtain ⟨g, e1, m1⟩ : emptyN 64 (a.eval (.tmp 23)) bs rs := hw _ (List.Mem.tail _ (List.Mem.tail _ (List.Mem.tail _ (List.Mem.tail _ (List.Mem.tail _ (List.Mem.tail _ (List.Mem.tail _ (List.Mem.tail _ (List.Mem.head _))))))))) (by kernel_rfl)
      have e2 : a.eval (.tmp 25) = .slice ma2 m.held.length mc2 := hw _ (List.Mem.tail _ (List.Mem.tail _ (List.Mem.tail _ (List.Mem.tail _ (List.Mem.tail _ (List.Mem.tail _ (List.Mem.tail _ (List.Mem.tail _ (List.Mem.tail _ (List.Mem.tail _ (List.Mem.head _))))))))))) (by kernel_rfl)
      exact job_copy elSet (.tmp 23) (.tmp 25) rfl rfl hS e1 m1 ma2 m.held.length mc2 (u8v m.held) e2 (hmW.out wq hS.bel).r2 hN2 (by omega) (by decide) (fun v w' bs' hS' hbb hR hf => hK _ _ _ _ hS' hbb (fun _ h => h) hR (fun _ => hf))
    · refine ⟨_, rfl, rfl, fun a wq bs rs K hag hS hb0 hr0 hw hne hK => ?_⟩
      have r0 : RowJ 3 m.base.length (iv m.base) (a.eval (.tmp 18)) bs := hw _ (List.Mem.tail _ (List.Mem.tail _ (List.Mem.tail _ (List.Mem.head _)))) (by kernel_rfl)
      have r1 : RowJ 3 m.next.length (iv m.next) (a.eval (.tmp 22)) bs := hw _ (List.Mem.tail _ (List.Mem.tail _ (List.Mem.tail _ (List.Mem.tail _ (List.Mem.tail _ (List.Mem.tail _ (List.Mem.tail _ (List.Mem.head _)))))))) (by kernel_rfl)
      have r2 : RowJ 64 m.held.length (u8v m.held) (a.eval (.tmp 26)) bs := hw _ (List.Mem.tail _ (List.Mem.tail _ (List.Mem.tail _ (List.Mem.tail _ (List.Mem.tail _ (List.Mem.tail _ (List.Mem.tail _ (List.Mem.tail _ (List.Mem.tail _ (List.Mem.tail _ (List.Mem.tail _ (List.Mem.head _)))))))))))) (by kernel_rfl)
      have d01 := hne _ (List.Mem.tail _ (List.Mem.tail _ (List.Mem.tail _ (List.Mem.head _)))) _ (List.Mem.tail _ (List.Mem.tail _ (List.Mem.tail _ (List.Mem.tail _ (List.Mem.tail _ (List.Mem.tail _ (List.Mem.tail _ (List.Mem.head _)))))))) (by kernel_rfl) (by kernel_rfl) rfl rfl (by show (3 : Nat) ≠ 7; decide)
      have d02 := hne _ (List.Mem.tail _ (List.Mem.tail _ (List.Mem.tail _ (List.Mem.head _)))) _ (List.Mem.tail _ (List.Mem.tail _ (List.Mem.tail _ (List.Mem.tail _ (List.Mem.tail _ (List.Mem.tail _ (List.Mem.tail _ (List.Mem.tail _ (List.Mem.tail _ (List.Mem.tail _ (List.Mem.tail _ (List.Mem.head _)))))))))))) (by kernel_rfl) (by kernel_rfl) rfl rfl (by show (3 : Nat) ≠ 11; decide)
      have d12 := hne _ (List.Mem.tail _ (List.Mem.tail _ (List.Mem.tail _ (List.Mem.tail _ (List.Mem.tail _ (List.Mem.tail _ (List.Mem.tail _ (List.Mem.head _)))))))) _ (List.Mem.tail _ (List.Mem.tail _ (List.Mem.tail _ (List.Mem.tail _ (List.Mem.tail _ (List.Mem.tail _ (List.Mem.tail _ (List.Mem.tail _ (List.Mem.tail _ (List.Mem.tail _ (List.Mem.tail _ (List.Mem.head _)))))))))))) (by kernel_rfl) (by kernel_rfl) rfl rfl (by show (7 : Nat) ≠ 11; decide)
      dsimp only at d01 d02 d12
      obtain ⟨u0, h0⟩ : ∃ u, a.eval (.tmp 18) = u := ⟨_, rfl⟩
      obtain ⟨u1, h1⟩ : ∃ u, a.eval (.tmp 22) = u := ⟨_, rfl⟩
      obtain ⟨u2, h2⟩ : ∃ u, a.eval (.tmp 26) = u := ⟨_, rfl⟩
      rw [h0] at r0 d01 d02
      rw [h1] at r1 d01 d12
      rw [h2] at r2 d02 d12
      have e0 := eval_raw h0
      have e1 := eval_raw h1
      have e2 := eval_raw h2
      have hT := Lib.hid (show triN m (.agg #[u0, u1, u2]) bs rs from ⟨u0, u1, u2, rfl, r0, r1, r2, d01, d02, d12⟩)
      obtain ⟨g0, c0, cs0, rfl, -⟩ := r0
      obtain ⟨g1, c1, cs1, rfl, -⟩ := r1
      obtain ⟨g2, c2, cs2, rfl, -⟩ := r2
      clear hag hw hb0 hr0 hne d01 d02 d12 h0 h1 h2
      replace hS := Lib.hid hS
      replace hK := Lib.hid hK
      go_simp
      exact hK.out _ _ _ _ hS.out (fun _ h => h) (fun _ h => h) hT.out (fun h => by cases h)
    · refine ⟨_, rfl, rfl, fun a wq bs rs K hag hS hb0 hr0 hw hne hK => ?_⟩
      clear hag hw hb0 hr0 hne
      replace hS := Lib.hid hS
      replace hK := Lib.hid hK
      go_simp
      exact hK.out _ _ _ _ (hS.out.box 36 [.slice none 0 0, .slice none 0 0, .slice none 0 0]) (fun _ h => List.mem_cons_of_mem _ h) (fun _ h => h) ⟨_, rfl, List.mem_cons_self ..⟩ (fun _ => boxN.fresh hS.out)
  case hrest =>
    subst hJ
    intro f w2 bs rs S2 hb0 hr0 hN hne
    obtain ⟨u0, u1, u2, e27, R0, R1, R2, d01, d02, d12⟩ := hN _ (List.Mem.tail _ (List.Mem.tail _ (List.Mem.tail _ (List.Mem.tail _ (List.Mem.tail _ (List.Mem.tail _ (List.Mem.tail _ (List.Mem.tail _ (List.Mem.tail _ (List.Mem.tail _ (List.Mem.tail _ (List.Mem.tail _ (List.Mem.head _)))))))))))))
    obtain ⟨gB, e8, mB⟩ := hN _ (List.Mem.tail _ (List.Mem.tail _ (List.Mem.tail _ (List.Mem.tail _ (List.Mem.tail _ (List.Mem.tail _ (List.Mem.tail _ (List.Mem.tail _ (List.Mem.tail _ (List.Mem.tail _ (List.Mem.tail _ (List.Mem.tail _ (List.Mem.tail _ (List.Mem.head _))))))))))))))
    replace e27 : f 27 = .agg #[u0, u1, u2] := e27
    replace e8 : f 8 = .pointer (some ⟨gB, 0, none⟩) := e8
    clear hN hne hb0 hr0
    obtain ⟨X15, x15⟩ : ∃ x, f 15 = x := ⟨_, rfl⟩
    obtain ⟨X16, x16⟩ : ∃ x, f 16 = x := ⟨_, rfl⟩
    obtain ⟨X17, x17⟩ : ∃ x, f 17 = x := ⟨_, rfl⟩
    obtain ⟨X18, x18⟩ : ∃ x, f 18 = x := ⟨_, rfl⟩
    obtain ⟨X19, x19⟩ : ∃ x, f 19 = x := ⟨_, rfl⟩
    obtain ⟨X20, x20⟩ : ∃ x, f 20 = x := ⟨_, rfl⟩
    obtain ⟨X21, x21⟩ : ∃ x, f 21 = x := ⟨_, rfl⟩
    obtain ⟨X22, x22⟩ : ∃ x, f 22 = x := ⟨_, rfl⟩
    obtain ⟨X23, x23⟩ : ∃ x, f 23 = x := ⟨_, rfl⟩
    obtain ⟨X24, x24⟩ : ∃ x, f 24 = x := ⟨_, rfl⟩
    obtain ⟨X25, x25⟩ : ∃ x, f 25 = x := ⟨_, rfl⟩
    obtain ⟨X26, x26⟩ : ∃ x, f 26 = x := ⟨_, rfl⟩
    simp only [List.foldl_cons, List.foldl_nil, List.drop_succ_cons, List.drop_zero, e27, e8, x15, x16, x17, x18, x19, x20, x21, x22, x23, x24, x25, x26]
    clear e27 e8 x15 x16 x17 x18 x19 x20 x21 x22 x23 x24 x25 x26
    replace R0 : RowJ 3 m.base.length (iv m.base) u0 bs := R0
    replace R1 : RowJ 3 m.next.length (iv m.next) u1 bs := R1
    replace R2 : RowJ 64 m.held.length (u8v m.held) u2 bs := R2
    have k0 := RowJ.ne S2 R0 mB (by decide)
    have k1 := RowJ.ne S2 R1 mB (by decide)
    have k2 := RowJ.ne S2 R2 mB (by decide)
    obtain ⟨A0, c0, rfl, o0⟩ := RowJ.own S2 R0
    obtain ⟨A1, c1, rfl, o1⟩ := RowJ.own S2 R1
    obtain ⟨A2, c2, rfl, o2⟩ := RowJ.own S2 R2
    have ha2 : AO w2 W.heap.size m ⟨A0, c0, A1, c1, A2, c2⟩ := ⟨o0, o1, o2, d01, d02, d12⟩
    have hgB : W.heap.size ≤ gB := S2.lo _ mB
    have hwB : Whole w2 gB 36 [.slice none 0 0, .slice none 0 0, .slice none 0 0].toArray := allB_at S2.bx _ mB
    have SB := SW.out.newbox S2.bel hwB hgB
    have S3 := Lib.hid (((SB.set 0 rfl 0 (.slice A0 m.base.length c0)).set 0 rfl 1 (.slice A1 m.next.length c1)).set 0 rfl 2 (.slice A2 m.held.length c2))
    have ha3 := Lib.hid (((ha2.else_ (i := 0) k0 k1 k2 (.slice A0 m.base.length c0)).else_ (i := 1) k0 k1 k2 (.slice A1 m.next.length c1)).else_ (i := 2) k0 k1 k2 (.slice A2 m.held.length c2))
    replace k0 := Lib.hid k0
    replace k1 := Lib.hid k1
    replace k2 := Lib.hid k2
    obtain ⟨⟨xB, fB, xB0, xB1, xB2, -⟩, -⟩ := SB.facts
    have hB3 := Lib.hid (((S2.bel.setCell (p := ⟨gB, 0, none⟩) hgB (.slice A0 m.base.length c0)).setCell (p := ⟨gB, 1, none⟩) hgB (.slice A1 m.next.length c1)).setCell (p := ⟨gB, 2, none⟩) hgB (.slice A2 m.held.length c2))
    clear R0 R1 R2 o0 o1 o2 d01 d02 d12 ha2 hwB SB S2 mB n0 n1 n2 r1 f1 r10 r11 r12 r2 f2 r20 r21 r22 zm1 f3 r4 f4 r40 r41 r42 r43
    go_upto_region 2 with fail
    generalize hW3 : ((w2.setCell ⟨gB, 0, none⟩ (.slice A0 m.base.length c0)).setCell ⟨gB, 1, none⟩ (.slice A1 m.next.length c1)).setCell ⟨gB, 2, none⟩ (.slice A2 m.held.length c2) = W3 at S3 ha3 hB3 ⊢
    have hgn : ∀ n, n < 4 → ¬ gB = w.heap.size + n := fun n hn => by omega
    have RS : RSt w W gB [⟨w.heap.size + 1 + 1 + 1, 36, [.slice none 0 0, .slice none 0 0, .slice none 0 0]⟩, ⟨w.heap.size + 1 + 1, 52, [.int .i64 kd, .int .i64 ix, .int .i64 v]⟩, ⟨w.heap.size + 1, 36, [.slice ma0 m.base.length mc0, .slice ma1 m.next.length mc1, .slice ma2 m.held.length mc2]⟩, ⟨w.heap.size, 33, [.slice qa0 p.vs.length qc0, .slice qa1 p.now.length qc1, .slice qa2 p.tgt.length qc2, .slice qa3 p.tabs.length qc3]⟩] m ⟨A0, c0, A1, c1, A2, c2⟩ W3 := ⟨S3.out, (fun x hx => by
      simp only [List.mem_cons, List.not_mem_nil, or_false] at hx
      rcases hx with rfl | rfl | rfl | rfl
      · show w.heap.size + 1 + 1 + 1 < _; omega
      · show w.heap.size + 1 + 1 < _; omega
      · show w.heap.size + 1 < _; omega
      · show w.heap.size < _; omega), ha3.out, k0.out, k1.out, k2.out, hB3.out, by omega⟩
    clear xB fB xB0 xB1 xB2 S3 ha3 hB3 k0 k1 k2 hgn hW3
    replace RS := Lib.hid RS
    obtain ⟨⟨xB, fB, xB0, xB1, xB2, -⟩, ⟨r1, f1, r10, r11, r12, -⟩, ⟨r2, f2, r20, r21, r22, -⟩, ⟨r3, f3, r30, r31, r32, -⟩, ⟨r4, f4, r40, r41, r42, r43, -⟩, -⟩ := RS.out.fm.facts
    unfold spB at hs
    have hs := of_decide_eq_true hs
    unfold existsB at he
    dsimp only at hs he
    obtain ⟨hs1, hs2, hs3, hs4, hs5⟩ := hs
    obtain ⟨i, rfl⟩ : ∃ i : Nat, ix = (i : Int) := ⟨ix.toNat, by omega⟩
    rw [Int.toNat_natCast] at he
    have hne4 : ∀ n, n = w.heap.size ∨ n = w.heap.size + 1 ∨ n = w.heap.size + 1 + 1 ∨ n = w.heap.size + 1 + 1 + 1 → ¬ gB = n := fun n hn => by omega
    cases hk1 : (kd == 1) with
    | true =>
      have hkk := beq_iff_eq.1 hk1
      subst hkk
      have he1 : (i : Int) < (p.vs.length : Int) ∧ v < gi p.vs i := by simpa using he
      have hil : i < p.vs.length := by omega
      have jn' : i < m.next.length := by have := ln.out; omega
      have jb' : i < m.base.length := by have := lb.out; omega
      have jn : (i : Int) < (m.next.length : Int) := by omega
      have jb : (i : Int) < (m.base.length : Int) := by omega
      have haft : aft p m ⟨1, (i : Int), v⟩ = if 0 ≤ gi m.next i ∨ gi m.base i = v then none else some { m with next := m.next.set i v, held := heldS p m (i : Int) v } := by
        unfold aft
        simp
      obtain ⟨bn, on, e1, hbn, hcn⟩ := (hmW.out W (Below.refl _ _)).r1 (by omega)
      obtain ⟨bb, ob, e0, hbb, hcb⟩ := (hmW.out W (Below.refl _ _)).r0 (by omega)
      have dn := (RS.out.bel.cell (p := ⟨bn, on + i, none⟩) hbn).trans (hcn i jn')
      have db := (RS.out.bel.cell (p := ⟨bb, ob + i, none⟩) hbb).trans (hcb i jb')
      unfold iv at dn db
      dsimp only at e0 e1
      subst e0 e1
      have hWs := RS.out.bel.size
      have hbn3 : bn < W3.heap.size := by omega
      have hbb3 : bb < W3.heap.size := by omega
      have vv := vs_le hok.pr hil
      have h8' := Lib.hid h8
      clear hcn hcb he hs1 hs2 hs5 hne4
      obtain ⟨x, hx⟩ : ∃ x, gi m.next i = x := ⟨_, rfl⟩
      obtain ⟨y, hy⟩ : ∃ y, gi m.base i = y := ⟨_, rfl⟩
      rw [hx] at dn haft
      rw [hy] at db haft
      cases hnx : decide (0 ≤ x) with
      | true =>
        rw [if_pos (Or.inl (of_decide_eq_true hnx))] at haft
        have hab := Lib.hid (aftB_none haft)
        replace haft := Lib.hid haft
        go_wp2_with fail
        refine wp_region_quiet_lit (by kernel_rfl) (by kernel_rfl) ?_
        repeat (go_big_quiet_step (fail))
        refine wpQuiet_nil ?_
        intro w5 hw5
        have hd5 : Drawn W3 w5 := hw5
        have RD := Lib.hid (RS.out.to hd5.below)
        clear hw5 hd5 dn db xB fB xB0 xB1 xB2 r1 f1 r10 r11 r12 r2 f2 r20 r21 r22 r3 f3 r30 r31 r32 r4 f4 r40 r41 r42 r43
        obtain ⟨⟨xB, fB, xB0, xB1, xB2, -⟩, ⟨r1, f1, r10, r11, r12, -⟩, ⟨r2, f2, r20, r21, r22, -⟩, ⟨r3, f3, r30, r31, r32, -⟩, ⟨r4, f4, r40, r41, r42, r43, -⟩, -⟩ := RD.out.fm.facts
        have S4 := Lib.hid (((RD.out.fm.set 1 rfl 0 (.slice none 0 0)).set 1 rfl 1 (.slice none 0 0)).set 1 rfl 2 (.slice none 0 0))
        go_wp2
        clear xB fB xB0 xB1 xB2 r1 f1 r10 r11 r12 r2 f2 r20 r21 r22 r3 f3 r30 r31 r32 r4 f4 r40 r41 r42 r43
        obtain ⟨-, ⟨r1, f1, r10, r11, r12, -⟩, -⟩ := S4.out.facts
        refine bodyPost_ret (v := .tuple #[.agg #[.slice none 0 0, .slice none 0 0, .slice none 0 0], .bool false]) (by simp [results, Tryd.results52, go_sem, r10, r11, r12]) rfl ?_
        exact Ret.mk ⟨S4.out.bel, mx0, ⟨none, 0, none, 0, none, 0⟩, by rw [hab.out]; rfl, fun x' hx => by rw [haft.out] at hx; cases hx⟩
      | false =>
        cases hv : (v == y) with
        | true =>
          rw [if_pos (Or.inr (beq_iff_eq.1 hv).symm)] at haft
          have hab := Lib.hid (aftB_none haft)
          replace haft := Lib.hid haft
          go_wp2_with fail
          refine wp_region_quiet_lit (by kernel_rfl) (by kernel_rfl) ?_
          repeat (go_big_quiet_step (fail))
          refine wpQuiet_nil ?_
          intro w5 hw5
          have hd5 : Drawn W3 w5 := hw5
          have RD := Lib.hid (RS.out.to hd5.below)
          clear hw5 hd5 dn db xB fB xB0 xB1 xB2 r1 f1 r10 r11 r12 r2 f2 r20 r21 r22 r3 f3 r30 r31 r32 r4 f4 r40 r41 r42 r43
          obtain ⟨⟨xB, fB, xB0, xB1, xB2, -⟩, ⟨r1, f1, r10, r11, r12, -⟩, ⟨r2, f2, r20, r21, r22, -⟩, ⟨r3, f3, r30, r31, r32, -⟩, ⟨r4, f4, r40, r41, r42, r43, -⟩, -⟩ := RD.out.fm.facts
          have S4 := Lib.hid (((RD.out.fm.set 1 rfl 0 (.slice none 0 0)).set 1 rfl 1 (.slice none 0 0)).set 1 rfl 2 (.slice none 0 0))
          go_wp2
          clear xB fB xB0 xB1 xB2 r1 f1 r10 r11 r12 r2 f2 r20 r21 r22 r3 f3 r30 r31 r32 r4 f4 r40 r41 r42 r43
          obtain ⟨-, ⟨r1, f1, r10, r11, r12, -⟩, -⟩ := S4.out.facts
          refine bodyPost_ret (v := .tuple #[.agg #[.slice none 0 0, .slice none 0 0, .slice none 0 0], .bool false]) (by simp [results, Tryd.results52, go_sem, r10, r11, r12]) rfl ?_
          exact Ret.mk ⟨S4.out.bel, mx0, ⟨none, 0, none, 0, none, 0⟩, by rw [hab.out]; rfl, fun x' hx => by rw [haft.out] at hx; cases hx⟩
        | false =>
          rw [if_neg (fun h => h.elim (fun h => by rw [decide_eq_true h] at hnx; cases hnx) (fun h => by rw [beq_iff_eq.2 h.symm] at hv; cases hv))] at haft
          have hab := Lib.hid (aftB_some haft)
          replace haft := Lib.hid haft
          go_wp2_with fail
          refine wp_region_quiet_lit (by kernel_rfl) (by kernel_rfl) ?_
          repeat (go_big_quiet_step (fail))
          refine wpQuiet_nil ?_
          intro w5 hw5
          have hd5 : Drawn W3 w5 := hw5
          have RD := Lib.hid (RS.out.to hd5.below)
          clear hw5 hd5 dn db xB fB xB0 xB1 xB2 r1 f1 r10 r11 r12 r2 f2 r20 r21 r22 r3 f3 r30 r31 r32 r4 f4 r40 r41 r42 r43
          obtain ⟨⟨xB, fB, xB0, xB1, xB2, -⟩, ⟨r1, f1, r10, r11, r12, -⟩, ⟨r2, f2, r20, r21, r22, -⟩, ⟨r3, f3, r30, r31, r32, -⟩, ⟨r4, f4, r40, r41, r42, r43, -⟩, -⟩ := RD.out.fm.facts
          obtain ⟨g1, e1, q1, gB1, gl1, gf1, gc1, gs1⟩ := RD.out.set1 (i := i) jn'
          dsimp only at e1
          subst e1
          have R1 := Lib.hid (gs1 v)
          have j1 : ¬ gB = g1 := q1
          have j2 : ¬ g1 = gB := fun h => q1 h.symm
          clear gs1 hnx hv
          go_wp2
          go_loopw [10] (fun s10 wr => ∃ k : Nat, s10 = .int .i64 k ∧ k ≤ p.tabs.length ∧ RSt w W gB [⟨w.heap.size + 1 + 1 + 1, 36, [.slice none 0 0, .slice none 0 0, .slice none 0 0]⟩, ⟨w.heap.size + 1 + 1, 52, [.int .i64 1, .int .i64 (i : Int), .int .i64 v]⟩, ⟨w.heap.size + 1, 36, [.slice (some ⟨bb, ob, none⟩) m.base.length mc0, .slice (some ⟨bn, on, none⟩) m.next.length mc1, .slice ma2 m.held.length mc2]⟩, ⟨w.heap.size, 33, [.slice qa0 p.vs.length qc0, .slice qa1 p.now.length qc1, .slice qa2 p.tgt.length qc2, .slice qa3 p.tabs.length qc3]⟩] (mixN p m i v k) ⟨A0, c0, some ⟨g1, 0, none⟩, c1, A2, c2⟩ wr) (fun s10 _ => p.tabs.length - (intOf s10).toNat)
          case atStart => exact ⟨0, rfl, Nat.zero_le _, by rw [mixN_0]; exact R1.out⟩
          case round =>
            clear R1
            obtain ⟨k, rfl, hk, T⟩ := hrel
            replace T := Lib.hid T
            obtain ⟨⟨xB, fB, xB0, xB1, xB2, -⟩, ⟨r1, f1, r10, r11, r12, -⟩, ⟨r2, f2, r20, r21, r22, -⟩, ⟨r3, f3, r30, r31, r32, -⟩, ⟨r4, f4, r40, r41, r42, r43, -⟩, -⟩ := T.out.fm.facts
            rw [mixN_hlen] at xB2
            rw [mixN_nlen] at xB1
            replace xB0 : wr.cell? ⟨gB, 0, none⟩ = some (.slice A0 m.base.length c0) := xB0
            by_cases hlt : k < p.tabs.length
            · obtain ⟨qt, hq1, hq2⟩ := (hpW.out wr T.out.bel).r3
              obtain ⟨b3, o3, e3, hb3, hc3⟩ := hq1 (by omega)
              dsimp only at e3
              subst e3
              obtain ⟨t0, t1, t2, t3, t4, t5⟩ := tab_cells (hc3 k hlt)
              have jk : (k : Int) < (p.tabs.length : Int) := by omega
              have jh' : k < m.held.length := by have := lh.out; omega
              have jh : (k : Int) < (m.held.length : Int) := by omega
              have hgk := h8_hd h8'.out jh'
              have hH := hd_lt hok hlt
              have hp12 := hps.out.2.1
              clear hc3 hq1 hq2
              have HS := Lib.hid (rstored_any (tab p.tabs k) (qt k) wr)
              unfold tabV at HS
              cases hsrc : ((tab p.tabs k).src == (i : Int)) with
              | false =>
                have hsk := Lib.hid (mixN_skip (p := p) (m := m) (i := i) (v := v) (K := k) (fun h => by rw [beq_iff_eq.2 h.1] at hsrc; cases hsrc))
                clear hgk hH
                go_wp2
                go_roundw
                case rel => exact ⟨k + 1, by go_num, by omega, by rw [hsk.out]; exact T.out⟩
                case measure => simp [intOf]; omega
              | true =>
                have hsrc' := Lib.hid (beq_iff_eq.1 hsrc)
                cases hkd : stB (tab p.tabs k).kind with
                | false =>
                  have hsk := Lib.hid (mixN_skip (p := p) (m := m) (i := i) (v := v) (K := k) (fun h => by have := h.2; unfold Go.Sv.stored at this; rw [hkd] at this; cases this))
                  rw [hkd] at HS
                  clear hgk hH hkd
                  go_wp2_with (go_at_call 55; with_reducible refine HS.out.mono ?_; rintro e w6 ⟨rfl, hb6⟩)
                  go_roundw
                  case rel => exact ⟨k + 1, by go_num, by omega, by rw [hsk.out]; exact T.out.to hb6⟩
                  case measure => simp [intOf]; omega
                | true =>
                  have htk := Lib.hid (mixN_take (p := p) (m := m) (i := i) (v := v) (K := k) jh' ⟨hsrc'.out, hkd⟩)
                  rw [hkd] at HS
                  clear hkd
                  go_wp2_with (go_at_call 55; with_reducible refine HS.out.mono ?_; rintro e w6 ⟨rfl, hb6⟩)
                  have U3 := Lib.hid (T.out.to hb6)
                  clear xB fB xB0 xB1 xB2 r1 f1 r10 r11 r12 r2 f2 r20 r21 r22 r3 f3 r30 r31 r32 r4 f4 r40 r41 r42 r43
                  clear t0 t1 t2 t3 t4 t5 hb6
                  obtain ⟨⟨xB, fB, xB0, xB1, xB2, -⟩, ⟨r1, f1, r10, r11, r12, -⟩, ⟨r2, f2, r20, r21, r22, -⟩, ⟨r3, f3, r30, r31, r32, -⟩, ⟨r4, f4, r40, r41, r42, r43, -⟩, -⟩ := U3.out.fm.facts
                  obtain ⟨g2, e2, q2, gB2, gl2, gf2, gc2, gs2⟩ := U3.out.set2 (i := k) (by rw [mixN_hlen]; exact jh')
                  rw [mixN_held jh', hgk] at gc2
                  rw [mixN_hlen] at xB2
                  rw [mixN_nlen] at xB1
                  dsimp only at e2
                  subst e2
                  obtain ⟨H, hHe⟩ : ∃ H, hd m k = H := ⟨_, rfl⟩
                  rw [hHe] at gc2 hH htk
                  clear hHe hgk
                  have w1' := shl8' hs4 (show v < 8 by omega)
                  have w2' := or8h hH (show v.toNat < 8 by omega)
                  have j8 : v ≤ 8 := by omega
                  have i1 : ¬ gB = g2 := q2
                  have i2 : ¬ g2 = gB := fun h => q2 h.symm
                  have i3 : ¬ w.heap.size + 1 + 1 = g2 := by omega
                  have i4 : ¬ g2 = w.heap.size + 1 + 1 := by omega
                  clear gs2
                  go_wp2_with fail
                  go_region_law ((fail))
                  all_goals (try go_wp2)
                  all_goals go_roundw
                  all_goals first
                    | exact ⟨k + 1, by go_num, by omega, by rw [htk.out]; exact U3.out.put2 ((Drawn.refl _).drewN _) (by rw [mixN_hlen]; exact jh') rfl _⟩
                    | (simp [intOf]; omega)
            · obtain rfl : k = p.tabs.length := by omega
              clear hlt
              have S4 := Lib.hid (((T.out.fm.set 1 rfl 0 (.slice A0 m.base.length c0)).set 1 rfl 1 (.slice (some ⟨g1, 0, none⟩) m.next.length c1)).set 1 rfl 2 (.slice A2 m.held.length c2))
              have hA4 := Lib.hid (T.out.ao.far3 (g := w.heap.size + 1 + 1 + 1) (by omega) (.slice A0 m.base.length c0) (.slice (some ⟨g1, 0, none⟩) m.next.length c1) (.slice A2 m.held.length c2))
              go_wp2
              clear xB fB xB0 xB1 xB2 r1 f1 r10 r11 r12 r2 f2 r20 r21 r22 r3 f3 r30 r31 r32 r4 f4 r40 r41 r42 r43
              obtain ⟨-, ⟨r1, f1, r10, r11, r12, -⟩, -⟩ := S4.out.facts
              refine bodyPost_ret (v := .tuple #[.agg #[.slice A0 m.base.length c0, .slice (some ⟨g1, 0, none⟩) m.next.length c1, .slice A2 m.held.length c2], .bool true]) (by simp [results, Tryd.results52, go_sem, r10, r11, r12]) rfl ?_
              exact Ret.mk ⟨S4.out.bel, mixN p m i v p.tabs.length, ⟨A0, c0, some ⟨g1, 0, none⟩, c1, A2, c2⟩, by rw [hab.out]; dsimp only [mixV]; rw [mixN_hlen, mixN_nlen]; rfl, fun x' hx => by
                rw [haft.out] at hx
                injection hx with hx
                rw [mixN_done]
                subst hx
                exact ⟨rfl, by have := hA4.out.base (B' := w.heap.size) (by omega); rw [mixN_done] at this; exact this⟩⟩
    | false =>
      cases hk3 : (kd == 3) with
      | true =>
        have hkk := beq_iff_eq.1 hk3
        subst hkk
        have hlt : i < p.tabs.length := by
          have : (i : Int) < (p.tabs.length : Int) := by simpa using he
          omega
        have haft := aft_clear (p := p) (m := m) (s := ⟨3, (i : Int), v⟩) rfl
        rw [show (⟨3, (i : Int), v⟩ : Sp).ix.toNat = i from Int.toNat_natCast i] at haft
        have F := tab_facts hok.pr hlt
        obtain ⟨s, hsr⟩ : ∃ s : Nat, (tab p.tabs i).src = (s : Int) := ⟨(tab p.tabs i).src.toNat, by have := F.s0; omega⟩
        have hst : (tab p.tabs i).src.toNat = s := by omega
        have hsv : s < p.vs.length := by have := F.s1; omega
        have hRw := fun hs h => rewB_of (i := i) hok hlt hs h
        have hNo := fun (u : Nat) (h1 : (hd m i).testBit u = true) (h2 : (run m (tab p.tabs i).src.toNat).testBit u = false) (h3 : mat (tab p.tabs i).rw u (gi m.base (tab p.tabs i).src.toNat).toNat = false) (hr : rewB p m i) => (show False by have := hr u h1 h2; rw [h3] at this; cases this)
        have rl := F.rl
        have rm := F.rm
        rw [hst] at haft hRw hNo rl rm
        obtain ⟨s0, s1, s2, s3, -⟩ := hok.sv s hsv
        have vv := vs_le hok.pr hsv
        have jh' : i < m.held.length := by have := lh.out; omega
        have jh : (i : Int) < (m.held.length : Int) := by omega
        have jb' : s < m.base.length := by have := lb.out; omega
        have jb : (s : Int) < (m.base.length : Int) := by omega
        have jn' : s < m.next.length := by have := ln.out; omega
        have jk : (i : Int) < (p.tabs.length : Int) := by omega
        have jsv : (s : Int) < (p.vs.length : Int) := by omega
        have hgk := h8_hd h8 jh'
        have hH := hd_lt hok hlt
        have hR8 := run_lt hok hsv
        obtain ⟨qt, hq1, hq2⟩ := (hpW.out W (Below.refl _ _)).r3
        obtain ⟨b3, o3, e3, hb3, hc3⟩ := hq1 (by omega)
        obtain ⟨bv, ov, ev, hbv, hcv⟩ := (hpW.out W (Below.refl _ _)).r0 (by omega)
        obtain ⟨bh, oh, e2, hbh, hch⟩ := (hmW.out W (Below.refl _ _)).r2 (by omega)
        obtain ⟨bb, ob, e0, hbb, hcb⟩ := (hmW.out W (Below.refl _ _)).r0 (by omega)
        have RN := Lib.hid (fun W2 (h : Below W.heap.size W W2) => rrun_any m ⟨ma0, mc0, ma1, mc1, ma2, mc2⟩ s W2 (hmW.out W2 h) jb' jn' s0 (by omega) s2 (by omega))
        obtain ⟨rr, hr1, hr2⟩ := (hq2 i hlt).2
        dsimp only at e3 ev e2 e0 hr1
        subst e3 ev e2 e0
        obtain ⟨t0, t1, t2, t3, t4, t5⟩ := tab_cells (hc3 i hlt)
        have dh := hch i jh'
        have db := hcb s jb'
        have dv := hcv s hsv
        unfold u8v at dh
        unfold iv at db dv
        rw [hgk] at dh
        obtain ⟨T0, hT0⟩ : ∃ x, tab p.tabs i = x := ⟨_, rfl⟩
        rw [hT0] at t0 t1 t2 t3 t4 t5 haft hRw hNo rl rm hr1 hr2 hsr
        obtain ⟨tk, tsrc, td, taw, tok, trw⟩ := T0
        obtain ⟨Q0, hQ0⟩ : ∃ x, qt i = x := ⟨_, rfl⟩
        rw [hQ0] at t4 t5 hr1
        obtain ⟨oA, oC, rA, rC⟩ := Q0
        dsimp only at t0 t1 t2 t3 t4 t5 haft hRw hNo rl rm hr1 hr2 hsr
        subst hsr
        clear hQ0 hT0
        have x0 := (RS.out.bel.cell (p := ⟨b3, o3 + i * 6, none⟩) hb3).trans t0
        have x1 := (RS.out.bel.cell (p := ⟨b3, o3 + i * 6 + 1, none⟩) hb3).trans t1
        have x2 := (RS.out.bel.cell (p := ⟨b3, o3 + i * 6 + 2, none⟩) hb3).trans t2
        have x3 := (RS.out.bel.cell (p := ⟨b3, o3 + i * 6 + 3, none⟩) hb3).trans t3
        have x4 := (RS.out.bel.cell (p := ⟨b3, o3 + i * 6 + 4, none⟩) hb3).trans t4
        have x5 := (RS.out.bel.cell (p := ⟨b3, o3 + i * 6 + 5, none⟩) hb3).trans t5
        have hWs := RS.out.bel.size
        have hb33 : b3 < W3.heap.size := by omega
        obtain ⟨W4, (hW4 : W3.alloc (.cells #[.int .i64 tk, .int .i64 (s : Int), .int .i64 td, .bool taw, .slice oA tok.length oC, .slice rA trw.length rC] 98) = W4), TB, hB4⟩ := fm_boxE (Fm.init W3) 98 [.int .i64 tk, .int .i64 (s : Int), .int .i64 td, .bool taw, .slice oA tok.length oC, .slice rA trw.length rC]
        have R4 := Lib.hid (RS.out.to hB4)
        replace TB := Lib.hid TB
        have HS := Lib.hid (rstored_any ⟨tk, (s : Int), td, taw, tok, trw⟩ ⟨oA, oC, rA, rC⟩ W4)
        unfold tabV at HS
        dsimp only at HS RN
        have jw : w.heap.size < W3.heap.size := by omega
        clear t0 t1 t2 t3 t4 t5 hc3 hcv hch hcb hq1 hq2 he hs1 hs2 hs5 F hne4
        obtain ⟨⟨zT, fT, zT0, zT1, zT2, zT3, zT4, zT5, -⟩, -⟩ := TB.out.facts
        obtain ⟨⟨xB4, fB4, xB04, xB14, xB24, -⟩, ⟨q1, g1, q10, q11, q12, -⟩, ⟨q2, g2, q20, q21, q22, -⟩, ⟨q3, g3, q30, q31, q32, -⟩, ⟨q4, g4, q40, q41, q42, q43, -⟩, -⟩ := R4.out.fm.facts
        cases hkd : stB tk with
        | false =>
          rw [if_pos (Or.inl (show Go.Sv.stored (⟨tk, (s : Int), td, taw, tok, trw⟩ : Tab) = false from hkd))] at haft
          have hab := Lib.hid (aftB_none haft)
          replace haft := Lib.hid haft
          rw [hkd] at HS
          clear hkd hRw rl rm
          go_wp2_with fail
          clear hW4
          with_reducible refine HS.out.mono ?_
          rintro e w6 ⟨rfl, hb6⟩
          have R6 := Lib.hid (R4.out.to hb6)
          clear xB fB xB0 xB1 xB2 r1 f1 r10 r11 r12 r2 f2 r20 r21 r22 r3 f3 r30 r31 r32 r4 f4 r40 r41 r42 r43
          clear zT fT zT0 zT1 zT2 zT3 zT4 zT5 xB4 fB4 xB04 xB14 xB24 q1 g1 q10 q11 q12 q2 g2 q20 q21 q22 q3 g3 q30 q31 q32 q4 g4 q40 q41 q42 q43 x0 x1 x2 x3 x4 x5 hb6
          obtain ⟨⟨xB, fB, xB0, xB1, xB2, -⟩, ⟨r1, f1, r10, r11, r12, -⟩, ⟨r2, f2, r20, r21, r22, -⟩, ⟨r3, f3, r30, r31, r32, -⟩, ⟨r4, f4, r40, r41, r42, r43, -⟩, -⟩ := R6.out.fm.facts
          have S4 := Lib.hid (((R6.out.fm.set 1 rfl 0 (.slice none 0 0)).set 1 rfl 1 (.slice none 0 0)).set 1 rfl 2 (.slice none 0 0))
          go_wp2
          clear xB fB xB0 xB1 xB2 r1 f1 r10 r11 r12 r2 f2 r20 r21 r22 r3 f3 r30 r31 r32 r4 f4 r40 r41 r42 r43
          obtain ⟨-, ⟨r1, f1, r10, r11, r12, -⟩, -⟩ := S4.out.facts
          refine bodyPost_ret (v := .tuple #[.agg #[.slice none 0 0, .slice none 0 0, .slice none 0 0], .bool false]) (by simp [results, Tryd.results52, go_sem, r10, r11, r12]) rfl ?_
          exact Ret.mk ⟨S4.out.bel, mx0, ⟨none, 0, none, 0, none, 0⟩, by rw [hab.out]; rfl, fun x' hx => by rw [haft.out] at hx; cases hx⟩
        | true =>
          rw [hkd] at HS
          have hkd' : Hid (Go.Sv.stored (⟨tk, (s : Int), td, taw, tok, trw⟩ : Tab) = true) := Lib.hid hkd
          clear hkd
          go_wp2_with fail
          clear hW4
          with_reducible refine HS.out.mono ?_
          rintro e w6 ⟨rfl, hb6⟩
          have R6 := Lib.hid (R4.out.to hb6)
          have T6 := Lib.hid (TB.out.call hb6)
          clear xB fB xB0 xB1 xB2 r1 f1 r10 r11 r12 r2 f2 r20 r21 r22 r3 f3 r30 r31 r32 r4 f4 r40 r41 r42 r43
          clear zT fT zT0 zT1 zT2 zT3 zT4 zT5 xB4 fB4 xB04 xB14 xB24 q1 g1 q10 q11 q12 q2 g2 q20 q21 q22 q3 g3 q30 q31 q32 q4 g4 q40 q41 q42 q43 x0 x1 x2 x3 x4 x5 hb6
          obtain ⟨⟨xB, fB, xB0, xB1, xB2, -⟩, ⟨r1, f1, r10, r11, r12, -⟩, ⟨r2, f2, r20, r21, r22, -⟩, ⟨r3, f3, r30, r31, r32, -⟩, ⟨r4, f4, r40, r41, r42, r43, -⟩, -⟩ := R6.out.fm.facts
          obtain ⟨⟨zT, fT, zT0, zT1, zT2, zT3, zT4, zT5, -⟩, -⟩ := T6.out.facts
          go_wp2_with fail
          with_reducible refine (RN.out w6 R6.out.bel).mono ?_
          rintro e w7 ⟨rfl, hb7⟩
          have R7 := Lib.hid (R6.out.to hb7)
          have T7 := Lib.hid (T6.out.call hb7)
          clear xB fB xB0 xB1 xB2 r1 f1 r10 r11 r12 r2 f2 r20 r21 r22 r3 f3 r30 r31 r32 r4 f4 r40 r41 r42 r43
          clear zT fT zT0 zT1 zT2 zT3 zT4 zT5 hb7
          obtain ⟨⟨xB, fB, xB0, xB1, xB2, -⟩, ⟨r1, f1, r10, r11, r12, -⟩, ⟨r2, f2, r20, r21, r22, -⟩, ⟨r3, f3, r30, r31, r32, -⟩, ⟨r4, f4, r40, r41, r42, r43, -⟩, -⟩ := R7.out.fm.facts
          obtain ⟨⟨zT, fT, zT0, zT1, zT2, zT3, zT4, zT5, -⟩, -⟩ := T7.out.facts
          have y0 := (R7.out.bel.cell (p := ⟨bh, oh + i, none⟩) hbh).trans dh
          have hW7 := R7.out.bel.size
          have hbh7 : bh < w7.heap.size := by omega
          obtain ⟨R, hRe⟩ : ∃ R, run m s = R := ⟨_, rfl⟩
          obtain ⟨H, hHe⟩ : ∃ H, hd m i = H := ⟨_, rfl⟩
          rw [hHe] at y0 hH haft hRw hNo
          rw [hRe] at hR8 haft hRw hNo
          rw [hRe]
          cases hHR : ((H : Int) == (R : Int)) with
          | true =>
            rw [if_pos (Or.inr (Or.inl (by have := beq_iff_eq.1 hHR; omega)))] at haft
            have hab := Lib.hid (aftB_none haft)
            replace haft := Lib.hid haft
            clear hRw rl rm
            have S4 := Lib.hid (((R7.out.fm.set 1 rfl 0 (.slice none 0 0)).set 1 rfl 1 (.slice none 0 0)).set 1 rfl 2 (.slice none 0 0))
            go_wp2
            clear xB fB xB0 xB1 xB2 r1 f1 r10 r11 r12 r2 f2 r20 r21 r22 r3 f3 r30 r31 r32 r4 f4 r40 r41 r42 r43
            obtain ⟨-, ⟨r1, f1, r10, r11, r12, -⟩, -⟩ := S4.out.facts
            refine bodyPost_ret (v := .tuple #[.agg #[.slice none 0 0, .slice none 0 0, .slice none 0 0], .bool false]) (by simp [results, Tryd.results52, go_sem, r10, r11, r12]) rfl ?_
            exact Ret.mk ⟨S4.out.bel, mx0, ⟨none, 0, none, 0, none, 0⟩, by rw [hab.out]; rfl, fun x' hx => by rw [haft.out] at hx; cases hx⟩
          | false =>
            have hne : ¬ H = R := fun h => by rw [h] at hHR; simp at hHR
            have n0 : 0 ≤ gi p.vs s := by omega
            obtain ⟨n, hn⟩ : ∃ n : Nat, gi p.vs s = (n : Int) := ⟨(gi p.vs s).toNat, by omega⟩
            rw [hn] at dv hRw rl rm vv s1
            have hbv7 : bv < w7.heap.size := by omega
            have y1 := (R7.out.bel.cell (p := ⟨bv, ov + s, none⟩) hbv).trans dv
            have hF := Lib.hid haft
            replace hRw := Lib.hid hRw
            replace hNo := Lib.hid hNo
            obtain ⟨bs, hbs⟩ : ∃ bs : Nat, gi m.base s = (bs : Int) := ⟨(gi m.base s).toNat, by omega⟩
            have hbt : (gi m.base s).toNat = bs := by omega
            rw [hbt] at hRw hNo
            rw [hbs] at db
            have hbbn : bs < n := by omega
            have hdh := dh
            rw [hHe] at hdh
            replace rl := Lib.hid rl
            replace rm := Lib.hid rm
            clear haft
            go_wp2
            go_loopw [13, 14] (fun s13 _ wr => ∃ u : Nat, s13 = .int .i64 u ∧ u ≤ n ∧ (∀ j, j < u → tk = 4 → H.testBit j = true → R.testBit j = false → mat trw j bs = true) ∧ Drawn w7 wr) (fun s13 _ _ => n - (intOf s13).toNat)
            case atStart => exact ⟨0, rfl, Nat.zero_le _, fun j hj => by omega, Drawn.refl _⟩
            case round =>
              clear xB fB xB0 xB1 xB2 r1 f1 r10 r11 r12 r2 f2 r20 r21 r22 r3 f3 r30 r31 r32 r4 f4 r40 r41 r42 r43
              clear zT fT zT0 zT1 zT2 zT3 zT4 zT5 y0 y1
              obtain ⟨u, rfl, hu, hall, hdr⟩ := hrel
              replace hall := Lib.hid hall
              have R8 := Lib.hid (R7.out.to hdr.below)
              have T8 := Lib.hid (T7.out.call hdr.below)
              obtain ⟨⟨xB, fB, xB0, xB1, xB2, -⟩, ⟨r1, f1, r10, r11, r12, -⟩, ⟨r2, f2, r20, r21, r22, -⟩, ⟨r3, f3, r30, r31, r32, -⟩, ⟨r4, f4, r40, r41, r42, r43, -⟩, -⟩ := R8.out.fm.facts
              obtain ⟨⟨zT, fT, zT0, zT1, zT2, zT3, zT4, zT5, -⟩, -⟩ := T8.out.facts
              have y0 := (R8.out.bel.cell (p := ⟨bh, oh + i, none⟩) hbh).trans hdh
              have y1 := (R8.out.bel.cell (p := ⟨bv, ov + s, none⟩) hbv).trans dv
              replace hdr := Lib.hid hdr
              by_cases hun : u < n
              · have ju : (u : Int) < (n : Int) := by omega
                have HA := Lib.hid (fun w => rhas_any H u hH (by omega) w)
                have HB := Lib.hid (fun w => rhas_any R u hR8 (by omega) w)
                have hnx : Hid ((tk = 4 → H.testBit u = true → R.testBit u = false → mat trw u bs = true) → ∀ j, j < u + 1 → tk = 4 → H.testBit j = true → R.testBit j = false → mat trw j bs = true) := Lib.hid fun h j hj => by
                  rcases Nat.lt_succ_iff_lt_or_eq.1 hj with h' | h'
                  · exact hall.out j h'
                  · rw [h']; exact h
                cases hA1 : H.testBit u with
                | false =>
                  have hN1 := Lib.hid (hnx.out (fun _ h => by rw [hA1] at h; cases h))
                  rw [hA1] at HA
                  clear hA1 HB hnx
                  go_wp2_with (first | (go_at_call 59; with_reducible refine (HA.out _).mono ?_; rintro e w6 ⟨rfl, rfl⟩) | (go_at_call 59; with_reducible refine (HB.out _).mono ?_; rintro e w6 ⟨rfl, rfl⟩))
                  refine wp_region_quiet_lit (by kernel_rfl) (by kernel_rfl) ?_
                  repeat (go_big_quiet_step (fail))
                  refine wpQuiet_nil ?_
                  intro w9 hw9
                  have hd9 : Drawn wr w9 := hw9
                  go_wp2
                  go_roundw
                  case rel => exact ⟨u + 1, by go_num, by omega, hN1.out, hdr.out.trans hd9⟩
                  case measure => simp [intOf]; omega
                | true =>
                  rw [hA1] at HA
                  cases hB1 : R.testBit u with
                  | true =>
                    have hN1 := Lib.hid (hnx.out (fun _ _ h => by rw [hB1] at h; cases h))
                    rw [hB1] at HB
                    clear hA1 hB1 hnx
                    go_wp2_with (first | (go_at_call 59; with_reducible refine (HA.out _).mono ?_; rintro e w6 ⟨rfl, rfl⟩) | (go_at_call 59; with_reducible refine (HB.out _).mono ?_; rintro e w6 ⟨rfl, rfl⟩))
                    refine wp_region_quiet_lit (by kernel_rfl) (by kernel_rfl) ?_
                    repeat (go_big_quiet_step (fail))
                    refine wpQuiet_nil ?_
                    intro w9 hw9
                    have hd9 : Drawn wr w9 := hw9
                    go_wp2
                    go_roundw
                    case rel => exact ⟨u + 1, by go_num, by omega, hN1.out, hdr.out.trans hd9⟩
                    case measure => simp [intOf]; omega
                  | false =>
                    rw [hB1] at HB
                    cases hk4 : (tk == 4) with
                    | false =>
                      have hN1 := Lib.hid (hnx.out (fun h => by rw [beq_iff_eq.2 h] at hk4; cases hk4))
                      clear hA1 hB1 hnx
                      go_wp2_with (first | (go_at_call 59; with_reducible refine (HA.out _).mono ?_; rintro e w6 ⟨rfl, rfl⟩) | (go_at_call 59; with_reducible refine (HB.out _).mono ?_; rintro e w6 ⟨rfl, rfl⟩))
                      refine wp_region_quiet_lit (by kernel_rfl) (by kernel_rfl) ?_
                      repeat (go_big_quiet_step (fail))
                      refine wpQuiet_nil ?_
                      intro w9 hw9
                      have hd9 : Drawn wr w9 := hw9
                      go_wp2
                      go_roundw
                      case rel => exact ⟨u + 1, by go_num, by omega, hN1.out, hdr.out.trans hd9⟩
                      case measure => simp [intOf]; omega
                    | true =>
                      have h4 := beq_iff_eq.1 hk4
                      have rl' := rl.out h4
                      have rm' := rm.out h4 u (by omega)
                      obtain ⟨b6, o6, e6, hb6', hc6⟩ := hr1 (by omega)
                      obtain ⟨b7, o7, e7, hb7', hc7⟩ := hr2 u (by omega) (by omega)
                      have d6 := (R8.out.bel.cell (p := ⟨b6, o6 + u, none⟩) hb6').trans (hc6 u (by omega))
                      have d7 := (R8.out.bel.cell (p := ⟨b7, o7 + bs, none⟩) hb7').trans (hc7 bs (by omega))
                      have d8 := (R8.out.bel.cell (p := ⟨bb, ob + s, none⟩) hbb).trans db
                      dsimp only at d6 d7 e6
                      rw [e7] at d6
                      subst e6
                      have ju6 : (u : Int) < (trw.length : Int) := by omega
                      have ju7 : (bs : Int) < (mlen trw u : Int) := by omega
                      have hNo1 := Lib.hid (hNo.out u hA1 hB1)
                      clear hc6 hc7 e7 h4 hA1 hB1 rl' rm'
                      cases hmm : mat trw u bs with
                      | true =>
                        have hN1 := Lib.hid (hnx.out (fun _ _ _ => hmm))
                        rw [hmm] at d7
                        clear hmm hnx
                        go_wp2_with (first | (go_at_call 59; with_reducible refine (HA.out _).mono ?_; rintro e w6 ⟨rfl, rfl⟩) | (go_at_call 59; with_reducible refine (HB.out _).mono ?_; rintro e w6 ⟨rfl, rfl⟩))
                        refine wp_region_quiet_lit (by kernel_rfl) (by kernel_rfl) ?_
                        repeat (go_big_quiet_step (fail))
                        refine wpQuiet_nil ?_
                        intro w9 hw9
                        have hd9 : Drawn wr w9 := hw9
                        go_wp2
                        go_roundw
                        case rel => exact ⟨u + 1, by go_num, by omega, hN1.out, hdr.out.trans hd9⟩
                        case measure => simp [intOf]; omega
                      | false =>
                        have haft := hF.out.trans (if_pos (Or.inr (Or.inr ⟨beq_iff_eq.1 hk4, fun hr => hNo1.out hmm hr⟩)))
                        have hab := Lib.hid (aftB_none haft)
                        replace haft := Lib.hid haft
                        rw [hmm] at d7
                        clear hmm hnx hF hNo1
                        go_wp2_with (first | (go_at_call 59; with_reducible refine (HA.out _).mono ?_; rintro e w6 ⟨rfl, rfl⟩) | (go_at_call 59; with_reducible refine (HB.out _).mono ?_; rintro e w6 ⟨rfl, rfl⟩))
                        refine wp_region_quiet_lit (by kernel_rfl) (by kernel_rfl) ?_
                        repeat (go_big_quiet_step (fail))
                        refine wpQuiet_nil ?_
                        intro w9 hw9
                        have hd9 : Drawn wr w9 := hw9
                        have R9 := Lib.hid (R8.out.to hd9.below)
                        clear xB fB xB0 xB1 xB2 r1 f1 r10 r11 r12 r2 f2 r20 r21 r22 r3 f3 r30 r31 r32 r4 f4 r40 r41 r42 r43 zT fT zT0 zT1 zT2 zT3 zT4 zT5 y0 y1 d6 d7 d8 hw9 hd9
                        obtain ⟨⟨xB, fB, xB0, xB1, xB2, -⟩, ⟨r1, f1, r10, r11, r12, -⟩, ⟨r2, f2, r20, r21, r22, -⟩, ⟨r3, f3, r30, r31, r32, -⟩, ⟨r4, f4, r40, r41, r42, r43, -⟩, -⟩ := R9.out.fm.facts
                        have S4 := Lib.hid (((R9.out.fm.set 1 rfl 0 (.slice none 0 0)).set 1 rfl 1 (.slice none 0 0)).set 1 rfl 2 (.slice none 0 0))
                        go_wp2
                        clear xB fB xB0 xB1 xB2 r1 f1 r10 r11 r12 r2 f2 r20 r21 r22 r3 f3 r30 r31 r32 r4 f4 r40 r41 r42 r43
                        obtain ⟨-, ⟨r1, f1, r10, r11, r12, -⟩, -⟩ := S4.out.facts
                        refine bodyPost_ret (v := .tuple #[.agg #[.slice none 0 0, .slice none 0 0, .slice none 0 0], .bool false]) (by simp [results, Tryd.results52, go_sem, r10, r11, r12]) rfl ?_
                        exact Ret.mk ⟨S4.out.bel, mx0, ⟨none, 0, none, 0, none, 0⟩, by rw [hab.out]; rfl, fun x' hx => by rw [haft.out] at hx; cases hx⟩
              · obtain rfl : u = n := by omega
                have haft := hF.out.trans (if_neg (not_or.2 ⟨by rw [hkd'.out]; decide, not_or.2 ⟨hne, fun h => h.2 (hRw.out hkd'.out (fun j hj h1 h2 => hall.out j (by omega) h.1 h1 h2))⟩⟩))
                have hab := Lib.hid (aftB_some haft)
                replace haft := Lib.hid haft
                obtain ⟨g2, e2, q2, gB2, gl2, gf2, gc2, gs2⟩ := R8.out.set2 (i := i) jh'
                dsimp only at e2
                subst e2
                have R9 := Lib.hid (gs2 (R : Int))
                have i1 : ¬ gB = g2 := q2
                have i2 : ¬ g2 = gB := fun h => q2 h.symm
                have i3 : ¬ g2 = w.heap.size + 1 + 1 + 1 := by omega
                have i4 : ¬ w.heap.size + 1 + 1 + 1 = g2 := by omega
                have S4 := Lib.hid (((R9.out.fm.set 1 rfl 0 (.slice A0 m.base.length c0)).set 1 rfl 1 (.slice A1 m.next.length c1)).set 1 rfl 2 (.slice (some ⟨g2, 0, none⟩) m.held.length c2))
                have hA4 := Lib.hid (R9.out.ao.far3 (g := w.heap.size + 1 + 1 + 1) (by omega) (.slice A0 m.base.length c0) (.slice A1 m.next.length c1) (.slice (some ⟨g2, 0, none⟩) m.held.length c2))
                clear gs2 hF
                go_wp2
                clear xB fB xB0 xB1 xB2 r1 f1 r10 r11 r12 r2 f2 r20 r21 r22 r3 f3 r30 r31 r32 r4 f4 r40 r41 r42 r43
                obtain ⟨-, ⟨r1, f1, r10, r11, r12, -⟩, -⟩ := S4.out.facts
                refine bodyPost_ret (v := .tuple #[.agg #[.slice A0 m.base.length c0, .slice A1 m.next.length c1, .slice (some ⟨g2, 0, none⟩) m.held.length c2], .bool true]) (by simp [results, Tryd.results52, go_sem, r10, r11, r12]) rfl ?_
                exact Ret.mk ⟨S4.out.bel, { m with held := m.held.set i (R : Int) }, ⟨A0, c0, A1, c1, some ⟨g2, 0, none⟩, c2⟩, by rw [hab.out]; dsimp only [mixV]; rw [List.length_set], fun x' hx => by
                  rw [haft.out] at hx
                  injection hx with hx
                  subst hx
                  exact ⟨rfl, hA4.out.base (by omega)⟩⟩
      | false =>
        have hne1 : ¬ kd = 1 := fun h => by rw [beq_iff_eq.2 h] at hk1; cases hk1
        have hne3 : ¬ kd = 3 := fun h => by rw [beq_iff_eq.2 h] at hk3; cases hk3
        have hil : i < p.vs.length := by
          rw [if_neg hne3] at he
          have : (i : Int) < (p.vs.length : Int) := by simpa [hne1] using he
          omega
        have jn' : i < m.next.length := by have := ln.out; omega
        have jb' : i < m.base.length := by have := lb.out; omega
        have jn : (i : Int) < (m.next.length : Int) := by omega
        have jb : (i : Int) < (m.base.length : Int) := by omega
        have haft : aft p m ⟨kd, (i : Int), v⟩ = if gi m.next i < 0 then none else if kd = 2 then some { m with base := m.base.set i (gi m.next i), next := m.next.set i (-1) } else some { m with next := m.next.set i (-1) } := by
          unfold aft
          simp [hne1, hne3]
        obtain ⟨bn, on, e1, hbn, hcn⟩ := (hmW.out W3 RS.out.bel).r1 (by omega)
        have dn := hcn i jn'
        unfold iv at dn
        dsimp only at e1
        subst e1
        obtain ⟨bW, oW, eW, hbW, -⟩ := (hmW.out W (Below.refl _ _)).r1 (by omega)
        obtain rfl : bn = bW := by injection eW with e; injection e
        clear hcn eW he hs1 hs2 hs5 hne1 hne3 hne4
        obtain ⟨x, hx⟩ : ∃ x, gi m.next i = x := ⟨_, rfl⟩
        rw [hx] at dn haft
        cases hnx : decide (x < 0) with
        | true =>
          rw [if_pos (of_decide_eq_true hnx)] at haft
          have hab := Lib.hid (aftB_none haft)
          replace haft := Lib.hid haft
          cases hk2 : (kd == 2) with
          | true =>
            have S4 := Lib.hid (((RS.out.fm.set 1 rfl 0 (.slice none 0 0)).set 1 rfl 1 (.slice none 0 0)).set 1 rfl 2 (.slice none 0 0))
            go_wp2
            clear xB fB xB0 xB1 xB2 r1 f1 r10 r11 r12 r2 f2 r20 r21 r22 r3 f3 r30 r31 r32 r4 f4 r40 r41 r42 r43
            obtain ⟨-, ⟨r1, f1, r10, r11, r12, -⟩, -⟩ := S4.out.facts
            refine bodyPost_ret (v := .tuple #[.agg #[.slice none 0 0, .slice none 0 0, .slice none 0 0], .bool false]) (by simp [results, Tryd.results52, go_sem, r10, r11, r12]) rfl ?_
            exact Ret.mk ⟨S4.out.bel, mx0, ⟨none, 0, none, 0, none, 0⟩, by rw [hab.out]; rfl, fun x' hx => by rw [haft.out] at hx; cases hx⟩
          | false =>
            have S4 := Lib.hid (((RS.out.fm.set 1 rfl 0 (.slice none 0 0)).set 1 rfl 1 (.slice none 0 0)).set 1 rfl 2 (.slice none 0 0))
            go_wp2
            clear xB fB xB0 xB1 xB2 r1 f1 r10 r11 r12 r2 f2 r20 r21 r22 r3 f3 r30 r31 r32 r4 f4 r40 r41 r42 r43
            obtain ⟨-, ⟨r1, f1, r10, r11, r12, -⟩, -⟩ := S4.out.facts
            refine bodyPost_ret (v := .tuple #[.agg #[.slice none 0 0, .slice none 0 0, .slice none 0 0], .bool false]) (by simp [results, Tryd.results52, go_sem, r10, r11, r12]) rfl ?_
            exact Ret.mk ⟨S4.out.bel, mx0, ⟨none, 0, none, 0, none, 0⟩, by rw [hab.out]; rfl, fun x' hx => by rw [haft.out] at hx; cases hx⟩
        | false =>
          rw [if_neg (of_decide_eq_false hnx)] at haft
          cases hk2 : (kd == 2) with
          | true =>
            rw [if_pos (beq_iff_eq.1 hk2)] at haft
            have hab := Lib.hid (aftB_some haft)
            replace haft := Lib.hid haft
            obtain ⟨g0, e0, q1, gB0, gl0, gf0, gc0, gs0⟩ := RS.out.set0 (i := i) jb'
            obtain ⟨g1, e1, q2, gB1, gl1, gf1, gc1, gs1⟩ := RS.out.set1 (i := i) jn'
            have hd01 := RS.out.ao.d01 g0 (key_pos e0 (by omega))
            have hd : ¬ g0 = g1 := fun h => hd01 (by rw [h]; exact key_pos e1 (by omega))
            dsimp only at e0 e1
            subst e0 e1
            have R2 := Lib.hid ((RS.out.put0 (Drawn.refl W3) jb' rfl x).put1 (Drawn.refl _) jn' rfl (-1))
            have i1 : ¬ gB = g0 := q1
            have i2 : ¬ g0 = gB := fun h => q1 h.symm
            have i3 : ¬ gB = g1 := q2
            have i4 : ¬ g1 = gB := fun h => q2 h.symm
            have i5 : ¬ w.heap.size + 1 = g0 := by omega
            have i6 : ¬ g0 = w.heap.size + 1 := by omega
            have i7 : ¬ w.heap.size + 1 = g1 := by omega
            have i8 : ¬ g1 = w.heap.size + 1 := by omega
            have i9 : ¬ bn = g0 := by omega
            have i10 : ¬ g0 = bn := by omega
            have i11 : ¬ bn = g1 := by omega
            have i12 : ¬ g1 = bn := by omega
            have i13 : ¬ g1 = g0 := fun h => hd h.symm
            clear gs0 gs1 hd01
            go_wp2_with fail
            go_region_held3 (fun w' => w'.cell? ⟨gB, 0, none⟩ = some (.slice (some ⟨g0, 0, none⟩) m.base.length c0) ∧ w'.cell? ⟨gB, 1, none⟩ = some (.slice (some ⟨g1, 0, none⟩) m.next.length c1) ∧ w'.cell? ⟨w.heap.size + 1, 1, none⟩ = some (.slice (some ⟨bn, on, none⟩) m.next.length mc1) ∧ w'.cell? ⟨bn, on + i, none⟩ = some (.int .i64 x)) (go_keep) (fail)
            have S4 := Lib.hid (((R2.out.fm.set 1 rfl 0 (.slice (some ⟨g0, 0, none⟩) m.base.length c0)).set 1 rfl 1 (.slice (some ⟨g1, 0, none⟩) m.next.length c1)).set 1 rfl 2 (.slice A2 m.held.length c2)).drew
            have hA4 := Lib.hid ((R2.out.ao.far3 (g := w.heap.size + 1 + 1 + 1) (by omega) (.slice (some ⟨g0, 0, none⟩) m.base.length c0) (.slice (some ⟨g1, 0, none⟩) m.next.length c1) (.slice A2 m.held.length c2)).to ((Drawn.refl _).drew).below)
            go_wp2
            clear xB fB xB0 xB1 xB2 r1 f1 r10 r11 r12 r2 f2 r20 r21 r22 r3 f3 r30 r31 r32 r4 f4 r40 r41 r42 r43
            obtain ⟨-, ⟨r1, f1, r10, r11, r12, -⟩, -⟩ := S4.out.facts
            refine bodyPost_ret (v := .tuple #[.agg #[.slice (some ⟨g0, 0, none⟩) m.base.length c0, .slice (some ⟨g1, 0, none⟩) m.next.length c1, .slice A2 m.held.length c2], .bool true]) (by simp [results, Tryd.results52, go_sem, r10, r11, r12]) rfl ?_
            exact Ret.mk ⟨S4.out.bel, { m with base := m.base.set i x, next := m.next.set i (-1) }, ⟨some ⟨g0, 0, none⟩, c0, some ⟨g1, 0, none⟩, c1, A2, c2⟩, by rw [hab.out]; unfold mixV; rw [List.length_set, List.length_set], fun x' hx => by
              rw [haft.out] at hx
              injection hx with hx
              subst hx
              exact ⟨rfl, hA4.out.base (by omega)⟩⟩
          | false =>
            rw [if_neg (fun h => by rw [beq_iff_eq.2 h] at hk2; cases hk2)] at haft
            have hab := Lib.hid (aftB_some haft)
            replace haft := Lib.hid haft
            obtain ⟨g1, e1, j1, gB1, gl1, gf1, gc1, gs1⟩ := RS.out.set1 (i := i) jn'
            dsimp only at e1
            subst e1
            have R1 := Lib.hid (gs1 (-1))
            have j2 : ¬ g1 = gB := fun h => j1 h.symm
            have j1' : ¬ gB = g1 := j1
            have j3 : ¬ w.heap.size + 1 + 1 = g1 := by omega
            have j4 : ¬ w.heap.size + 1 + 1 + 1 = g1 := by omega
            have j5 : ¬ g1 = w.heap.size + 1 + 1 + 1 := by omega
            have S4 := Lib.hid (((R1.out.fm.set 1 rfl 0 (.slice A0 m.base.length c0)).set 1 rfl 1 (.slice (some ⟨g1, 0, none⟩) m.next.length c1)).set 1 rfl 2 (.slice A2 m.held.length c2))
            have hA4 := Lib.hid (R1.out.ao.far3 (g := w.heap.size + 1 + 1 + 1) (by omega) (.slice A0 m.base.length c0) (.slice (some ⟨g1, 0, none⟩) m.next.length c1) (.slice A2 m.held.length c2))
            clear gs1
            go_wp2
            clear xB fB xB0 xB1 xB2 r1 f1 r10 r11 r12 r2 f2 r20 r21 r22 r3 f3 r30 r31 r32 r4 f4 r40 r41 r42 r43
            obtain ⟨-, ⟨r1, f1, r10, r11, r12, -⟩, -⟩ := S4.out.facts
            refine bodyPost_ret (v := .tuple #[.agg #[.slice A0 m.base.length c0, .slice (some ⟨g1, 0, none⟩) m.next.length c1, .slice A2 m.held.length c2], .bool true]) (by simp [results, Tryd.results52, go_sem, r10, r11, r12]) rfl ?_
            exact Ret.mk ⟨S4.out.bel, { m with next := m.next.set i (-1) }, ⟨A0, c0, some ⟨g1, 0, none⟩, c1, A2, c2⟩, by rw [hab.out]; unfold mixV; rw [List.length_set], fun x' hx => by
              rw [haft.out] at hx
              injection hx with hx
              subst hx
              exact ⟨rfl, hA4.out.base (by omega)⟩⟩
end Go.Proofs.YtfcimilimojfoaaDoor
