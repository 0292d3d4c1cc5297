/-
  CONTRACT of sheaveref36.copied.
  Conditions: those that each theorem names.
-/
import Derived.Test.YtickckehhfdoeaaTopRa
import Derived.Deep.CutBlock
import Derived.Deep.RegionLaw

namespace Go.Proofs.Ytickckehhfdoeaa
open Go.RowKit Go.Sv
set_option maxHeartbeats 8000000 in
set_option maxRecDepth 100000 in
theorem rcopied_any (m : Mx) (q : MixP) (w : World) (hm : RMix w w.heap.size m q) (hmb : MBd m q) (b0 : m.base.length ≤ 1000000) (b1 : m.next.length ≤ 1000000) (b2 : m.held.length ≤ 1000000) :
    Calls Try.prog 92 #[mixV m q] w (Ret (AOR w m)) := by
  obtain ⟨hN0, hN1, hN2⟩ := And.intro hmb.n0 (And.intro hmb.n1 hmb.n2)
  obtain ⟨ma0, mc0, ma1, mc1, ma2, mc2⟩ := q
  dsimp only at hN0 hN1 hN2 ⊢
  obtain ⟨W, hW, S⟩ : ∃ W, (w.alloc (.cells #[.slice ma0 m.base.length mc0, .slice ma1 m.next.length mc1, .slice ma2 m.held.length mc2] 56)).alloc (.cells #[.slice none 0 0, .slice none 0 0, .slice none 0 0] 56) = W ∧ Fm w W [⟨w.heap.size + 1, 56, [.slice none 0 0, .slice none 0 0, .slice none 0 0]⟩, ⟨w.heap.size, 56, [.slice ma0 m.base.length mc0, .slice ma1 m.next.length mc1, .slice ma2 m.held.length mc2]⟩] [] := ⟨_, rfl, ((Fm.init w).box 56 _).box' 56 _ (by simp)⟩
  have hsz : W.heap.size = w.heap.size + 2 := by rw [← hW]; simp
  have hmW := Lib.hid (fun W2 (h : Below W.heap.size W W2) => (hm.to S.bel).to h)
  try dsimp only at hmW
  have SW := Lib.hid S
  obtain ⟨⟨zr, fr, r0, r1, r2, -⟩, ⟨zm1, f3, n0, n1, n2, -⟩, -⟩ := S.facts
  clear S hm hmb
  go_enter Try.func92, Try.ntmps92
  go_wp2_with fail
  clear hW
  refine wp_region_any (by kernel_rfl) ?_
  change wpAny _ _ _ _ _ #[false, false, false, false, false, false, false, false, false, false, false, false, false, false] _ (World.drew _)
  have S0 := Lib.hid ((Fm.init W).drew)
  generalize hJ : ([⟨0, 3, false, emptyN 3⟩, ⟨1, 4, false, valN (.pointer (some ⟨w.heap.size, 0, none⟩))⟩, ⟨2, 5, false, valN (.slice ma0 m.base.length mc0)⟩, ⟨3, 6, true, fun v bs _ => RowJ 3 m.base.length (iv m.base) v bs⟩, ⟨4, 7, false, emptyN 3⟩, ⟨5, 8, false, valN (.pointer (some ⟨w.heap.size, 1, none⟩))⟩, ⟨6, 9, false, valN (.slice ma1 m.next.length mc1)⟩, ⟨7, 10, true, fun v bs _ => RowJ 3 m.next.length (iv m.next) v bs⟩, ⟨8, 11, false, emptyN 84⟩, ⟨9, 12, false, valN (.pointer (some ⟨w.heap.size, 2, none⟩))⟩, ⟨10, 13, false, valN (.slice ma2 m.held.length mc2)⟩, ⟨11, 14, true, fun v bs _ => RowJ 84 m.held.length (u8v m.held) v bs⟩, ⟨12, 15, false, triN m⟩] : List Jc) = J
  have hI : J.map Jc.i = [0, 1, 2, 3, 4, 5, 6, 7, 8, 9, 10, 11, 12] := by subst hJ; rfl
  have hD : J.map Jc.d = [3, 4, 5, 6, 7, 8, 9, 10, 11, 12, 13, 14, 15] := by subst hJ; rfl
  refine regk_go (T := [13]) [0, 1, 2, 3, 4, 5, 6, 7, 8, 9, 10, 11, 12] [3, 4, 5, 6, 7, 8, 9, 10, 11, 12, 13, 14, 15] hI hD 13 _ #[true, true, true, true, true, true, true, true, true, true, true, true, true, false] (by decide) (by decide) (by kernel_rfl) (by decide) (by decide) (by kernel_rfl) (by kernel_rfl) (by decide) (by decide) (by decide) (by decide) rfl (by decide) (by kernel_rfl) (by decide) (by decide) S0.out ?hmono ?hbx ?hstep ?hrest
  all_goals clear hI hD
  case hmono =>
    subst hJ
    intro j hj v bs bs' rs rs' hb hr hN
    simp only [List.mem_cons, List.not_mem_nil, or_false] at hj
    rcases hj with rfl | rfl | rfl | rfl | rfl | rfl | rfl | rfl | rfl | rfl | rfl | rfl | rfl
    · obtain ⟨g, e, mm⟩ := hN; exact ⟨g, e, hb _ mm⟩
    · exact hN
    · exact hN
    · exact RowJ.mono hN hb
    · obtain ⟨g, e, mm⟩ := hN; exact ⟨g, e, hb _ mm⟩
    · exact hN
    · exact hN
    · exact RowJ.mono hN hb
    · obtain ⟨g, e, mm⟩ := hN; exact ⟨g, e, hb _ mm⟩
    · exact hN
    · exact hN
    · exact RowJ.mono hN hb
    · exact triN.mono (rs := rs) (rs' := rs') hN hb
  case hbx =>
    subst hJ
    intro j hj hx v bs rs hN
    simp only [List.mem_cons, List.not_mem_nil, or_false] at hj
    rcases hj with rfl | rfl | rfl | rfl | rfl | rfl | rfl | rfl | rfl | rfl | rfl | rfl | rfl
    · cases hx
    · cases hx
    · cases hx
    · exact RowJ.key hN
    · cases hx
    · cases hx
    · cases hx
    · exact RowJ.key hN
    · cases hx
    · cases hx
    · cases hx
    · exact RowJ.key hN
    · cases hx
  case hstep =>
    subst hJ
    intro j hj
    simp only [List.mem_cons, List.not_mem_nil, or_false] at hj
    rcases hj with rfl | rfl | rfl | rfl | rfl | rfl | rfl | rfl | rfl | rfl | rfl | rfl | rfl
    · refine ⟨_, rfl, rfl, fun a wq bs rs K hag hS hb0 hr0 hw hne hK => ?_⟩
      exact oper_build0 elInt rfl rfl (hK _ _ _ _ (hS.box 3 []) (fun _ h => List.mem_cons_of_mem _ h) (fun _ h => h) ⟨_, rfl, List.mem_cons_self ..⟩ (fun h => by cases h))
    · refine ⟨_, rfl, rfl, fun a wq bs rs K hag hS hb0 hr0 hw hne hK => ?_⟩
      have e4 : a.tmps[1]?.getD undef = .pointer (some ⟨w.heap.size, 0, none⟩) := eval_raw ((hag.eval (by decide)).trans rfl)
      clear hag hw hb0 hr0 hne
      replace hS := Lib.hid hS
      replace hK := Lib.hid hK
      go_simp
      exact hK.out _ _ _ _ hS.out (fun _ h => h) (fun _ h => h) rfl (fun h => by cases h)
    · refine ⟨_, rfl, rfl, fun a wq bs rs K hag hS hb0 hr0 hw hne hK => ?_⟩
      have e2 : a.eval (.tmp 4) = .pointer (some ⟨w.heap.size, 0, none⟩) := hw _ (List.Mem.tail _ (List.Mem.head _)) (by kernel_rfl)
      have yy : wq.cell? ⟨w.heap.size, 0, none⟩ = some (.slice ma0 m.base.length mc0) := (hS.bel.cell (p := ⟨w.heap.size, 0, none⟩) zm1).trans n0
      exact oper_load rfl rfl e2 Try.underlying36 yy (hK _ _ _ _ hS (fun _ h => h) (fun _ h => h) rfl (fun h => by cases h))
    · refine ⟨_, rfl, rfl, fun a wq bs rs K hag hS hb0 hr0 hw hne hK => ?_⟩
      obtain ⟨g, e1, m1⟩ : emptyN 3 (a.eval (.tmp 3)) bs rs := hw _ (List.Mem.head _) (by kernel_rfl)
      have e2 : a.eval (.tmp 5) = .slice ma0 m.base.length mc0 := hw _ (List.Mem.tail _ (List.Mem.tail _ (List.Mem.head _))) (by kernel_rfl)
      exact job_copy elInt (.tmp 3) (.tmp 5) rfl rfl hS e1 m1 ma0 m.base.length mc0 (iv m.base) e2 (hmW.out wq hS.bel).r0 hN0 (by omega) (by decide) (fun v w' bs' hS' hbb hR hf => hK _ _ _ _ hS' hbb (fun _ h => h) hR (fun _ => hf))
    · refine ⟨_, rfl, rfl, fun a wq bs rs K hag hS hb0 hr0 hw hne hK => ?_⟩
      exact oper_build0 elInt rfl rfl (hK _ _ _ _ (hS.box 3 []) (fun _ h => List.mem_cons_of_mem _ h) (fun _ h => h) ⟨_, rfl, List.mem_cons_self ..⟩ (fun h => by cases h))
    · refine ⟨_, rfl, rfl, fun a wq bs rs K hag hS hb0 hr0 hw hne hK => ?_⟩
      have e4 : a.tmps[1]?.getD undef = .pointer (some ⟨w.heap.size, 0, none⟩) := eval_raw ((hag.eval (by decide)).trans rfl)
      clear hag hw hb0 hr0 hne
      replace hS := Lib.hid hS
      replace hK := Lib.hid hK
      go_simp
      exact hK.out _ _ _ _ hS.out (fun _ h => h) (fun _ h => h) rfl (fun h => by cases h)
    · refine ⟨_, rfl, rfl, fun a wq bs rs K hag hS hb0 hr0 hw hne hK => ?_⟩
      have e2 : a.eval (.tmp 8) = .pointer (some ⟨w.heap.size, 1, none⟩) := hw _ (List.Mem.tail _ (List.Mem.tail _ (List.Mem.tail _ (List.Mem.tail _ (List.Mem.tail _ (List.Mem.head _)))))) (by kernel_rfl)
      have yy : wq.cell? ⟨w.heap.size, 1, none⟩ = some (.slice ma1 m.next.length mc1) := (hS.bel.cell (p := ⟨w.heap.size, 1, none⟩) zm1).trans n1
      exact oper_load rfl rfl e2 Try.underlying36 yy (hK _ _ _ _ hS (fun _ h => h) (fun _ h => h) rfl (fun h => by cases h))
    · refine ⟨_, rfl, rfl, fun a wq bs rs K hag hS hb0 hr0 hw hne hK => ?_⟩
      obtain ⟨g, e1, m1⟩ : emptyN 3 (a.eval (.tmp 7)) bs rs := hw _ (List.Mem.tail _ (List.Mem.tail _ (List.Mem.tail _ (List.Mem.tail _ (List.Mem.head _))))) (by kernel_rfl)
      have e2 : a.eval (.tmp 9) = .slice ma1 m.next.length mc1 := hw _ (List.Mem.tail _ (List.Mem.tail _ (List.Mem.tail _ (List.Mem.tail _ (List.Mem.tail _ (List.Mem.tail _ (List.Mem.head _))))))) (by kernel_rfl)
      exact job_copy elInt (.tmp 7) (.tmp 9) rfl rfl hS e1 m1 ma1 m.next.length mc1 (iv m.next) e2 (hmW.out wq hS.bel).r1 hN1 (by omega) (by decide) (fun v w' bs' hS' hbb hR hf => hK _ _ _ _ hS' hbb (fun _ h => h) hR (fun _ => hf))
    · refine ⟨_, rfl, rfl, fun a wq bs rs K hag hS hb0 hr0 hw hne hK => ?_⟩
      exact oper_build0 elSet rfl rfl (hK _ _ _ _ (hS.box 84 []) (fun _ h => List.mem_cons_of_mem _ h) (fun _ h => h) ⟨_, rfl, List.mem_cons_self ..⟩ (fun h => by cases h))
    · refine ⟨_, rfl, rfl, fun a wq bs rs K hag hS hb0 hr0 hw hne hK => ?_⟩
      have e4 : a.tmps[1]?.getD undef = .pointer (some ⟨w.heap.size, 0, none⟩) := eval_raw ((hag.eval (by decide)).trans rfl)
      clear hag hw hb0 hr0 hne
      replace hS := Lib.hid hS
      replace hK := Lib.hid hK
      go_simp
      exact hK.out _ _ _ _ hS.out (fun _ h => h) (fun _ h => h) rfl (fun h => by cases h)
    · refine ⟨_, rfl, rfl, fun a wq bs rs K hag hS hb0 hr0 hw hne hK => ?_⟩
      have e2 : a.eval (.tmp 12) = .pointer (some ⟨w.heap.size, 2, none⟩) := hw _ (List.Mem.tail _ (List.Mem.tail _ (List.Mem.tail _ (List.Mem.tail _ (List.Mem.tail _ (List.Mem.tail _ (List.Mem.tail _ (List.Mem.tail _ (List.Mem.tail _ (List.Mem.head _)))))))))) (by kernel_rfl)
      have yy : wq.cell? ⟨w.heap.size, 2, none⟩ = some (.slice ma2 m.held.length mc2) := (hS.bel.cell (p := ⟨w.heap.size, 2, none⟩) zm1).trans n2
      exact oper_load rfl rfl e2 Try.underlying54 yy (hK _ _ _ _ hS (fun _ h => h) (fun _ h => h) rfl (fun h => by cases h))
    · refine ⟨_, rfl, rfl, fun a wq bs rs K hag hS hb0 hr0 hw hne hK => ?_⟩
      obtain ⟨g, e1, m1⟩ : emptyN 84 (a.eval (.tmp 11)) bs rs := hw _ (List.Mem.tail _ (List.Mem.tail _ (List.Mem.tail _ (List.Mem.tail _ (List.Mem.tail _ (List.Mem.tail _ (List.Mem.tail _ (List.Mem.tail _ (List.Mem.head _))))))))) (by kernel_rfl)
      have e2 : a.eval (.tmp 13) = .slice ma2 m.held.length mc2 := hw _ (List.Mem.tail _ (List.Mem.tail _ (List.Mem.tail _ (List.Mem.tail _ (List.Mem.tail _ (List.Mem.tail _ (List.Mem.tail _ (List.Mem.tail _ (List.Mem.tail _ (List.Mem.tail _ (List.Mem.head _))))))))))) (by kernel_rfl)
      exact job_copy elSet (.tmp 11) (.tmp 13) rfl rfl hS e1 m1 ma2 m.held.length mc2 (u8v m.held) e2 (hmW.out wq hS.bel).r2 hN2 (by omega) (by decide) (fun v w' bs' hS' hbb hR hf => hK _ _ _ _ hS' hbb (fun _ h => h) hR (fun _ => hf))
    · refine ⟨_, rfl, rfl, fun a wq bs rs K hag hS hb0 hr0 hw hne hK => ?_⟩
      have r0 : RowJ 3 m.base.length (iv m.base) (a.eval (.tmp 6)) bs := hw _ (List.Mem.tail _ (List.Mem.tail _ (List.Mem.tail _ (List.Mem.head _)))) (by kernel_rfl)
      have r1 : RowJ 3 m.next.length (iv m.next) (a.eval (.tmp 10)) bs := hw _ (List.Mem.tail _ (List.Mem.tail _ (List.Mem.tail _ (List.Mem.tail _ (List.Mem.tail _ (List.Mem.tail _ (List.Mem.tail _ (List.Mem.head _)))))))) (by kernel_rfl)
      have r2 : RowJ 84 m.held.length (u8v m.held) (a.eval (.tmp 14)) bs := hw _ (List.Mem.tail _ (List.Mem.tail _ (List.Mem.tail _ (List.Mem.tail _ (List.Mem.tail _ (List.Mem.tail _ (List.Mem.tail _ (List.Mem.tail _ (List.Mem.tail _ (List.Mem.tail _ (List.Mem.tail _ (List.Mem.head _)))))))))))) (by kernel_rfl)
      have d01 := hne _ (List.Mem.tail _ (List.Mem.tail _ (List.Mem.tail _ (List.Mem.head _)))) _ (List.Mem.tail _ (List.Mem.tail _ (List.Mem.tail _ (List.Mem.tail _ (List.Mem.tail _ (List.Mem.tail _ (List.Mem.tail _ (List.Mem.head _)))))))) (by kernel_rfl) (by kernel_rfl) rfl rfl (by show (3 : Nat) ≠ 7; decide)
      have d02 := hne _ (List.Mem.tail _ (List.Mem.tail _ (List.Mem.tail _ (List.Mem.head _)))) _ (List.Mem.tail _ (List.Mem.tail _ (List.Mem.tail _ (List.Mem.tail _ (List.Mem.tail _ (List.Mem.tail _ (List.Mem.tail _ (List.Mem.tail _ (List.Mem.tail _ (List.Mem.tail _ (List.Mem.tail _ (List.Mem.head _)))))))))))) (by kernel_rfl) (by kernel_rfl) rfl rfl (by show (3 : Nat) ≠ 11; decide)
      have d12 := hne _ (List.Mem.tail _ (List.Mem.tail _ (List.Mem.tail _ (List.Mem.tail _ (List.Mem.tail _ (List.Mem.tail _ (List.Mem.tail _ (List.Mem.head _)))))))) _ (List.Mem.tail _ (List.Mem.tail _ (List.Mem.tail _ (List.Mem.tail _ (List.Mem.tail _ (List.Mem.tail _ (List.Mem.tail _ (List.Mem.tail _ (List.Mem.tail _ (List.Mem.tail _ (List.Mem.tail _ (List.Mem.head _)))))))))))) (by kernel_rfl) (by kernel_rfl) rfl rfl (by show (7 : Nat) ≠ 11; decide)
      dsimp only at d01 d02 d12
      obtain ⟨u0, h0⟩ : ∃ u, a.eval (.tmp 6) = u := ⟨_, rfl⟩
      obtain ⟨u1, h1⟩ : ∃ u, a.eval (.tmp 10) = u := ⟨_, rfl⟩
      obtain ⟨u2, h2⟩ : ∃ u, a.eval (.tmp 14) = u := ⟨_, rfl⟩
      rw [h0] at r0 d01 d02
      rw [h1] at r1 d01 d12
      rw [h2] at r2 d02 d12
      have e0 := eval_raw h0
      have e1 := eval_raw h1
      have e2 := eval_raw h2
      have hT := Lib.hid (show triN m (.agg #[u0, u1, u2]) bs rs from ⟨u0, u1, u2, rfl, r0, r1, r2, d01, d02, d12⟩)
      obtain ⟨g0, c0, cs0, rfl, -⟩ := r0
      obtain ⟨g1, c1, cs1, rfl, -⟩ := r1
      obtain ⟨g2, c2, cs2, rfl, -⟩ := r2
      clear hag hw hb0 hr0 hne d01 d02 d12 h0 h1 h2
      replace hS := Lib.hid hS
      replace hK := Lib.hid hK
      go_simp
      exact hK.out _ _ _ _ hS.out (fun _ h => h) (fun _ h => h) hT.out (fun h => by cases h)
  case hrest =>
    subst hJ
    intro f w2 bs rs S2 hb0 hr0 hN hne
    obtain ⟨u0, u1, u2, e15, R0, R1, R2, d01, d02, d12⟩ := hN _ (List.Mem.tail _ (List.Mem.tail _ (List.Mem.tail _ (List.Mem.tail _ (List.Mem.tail _ (List.Mem.tail _ (List.Mem.tail _ (List.Mem.tail _ (List.Mem.tail _ (List.Mem.tail _ (List.Mem.tail _ (List.Mem.tail _ (List.Mem.head _)))))))))))))
    replace e15 : f 15 = .agg #[u0, u1, u2] := e15
    clear hN hne hb0 hr0
    obtain ⟨X3, x3⟩ : ∃ x, f 3 = x := ⟨_, rfl⟩
    obtain ⟨X4, x4⟩ : ∃ x, f 4 = x := ⟨_, rfl⟩
    obtain ⟨X5, x5⟩ : ∃ x, f 5 = x := ⟨_, rfl⟩
    obtain ⟨X6, x6⟩ : ∃ x, f 6 = x := ⟨_, rfl⟩
    obtain ⟨X7, x7⟩ : ∃ x, f 7 = x := ⟨_, rfl⟩
    obtain ⟨X8, x8⟩ : ∃ x, f 8 = x := ⟨_, rfl⟩
    obtain ⟨X9, x9⟩ : ∃ x, f 9 = x := ⟨_, rfl⟩
    obtain ⟨X10, x10⟩ : ∃ x, f 10 = x := ⟨_, rfl⟩
    obtain ⟨X11, x11⟩ : ∃ x, f 11 = x := ⟨_, rfl⟩
    obtain ⟨X12, x12⟩ : ∃ x, f 12 = x := ⟨_, rfl⟩
    obtain ⟨X13, x13⟩ : ∃ x, f 13 = x := ⟨_, rfl⟩
    obtain ⟨X14, x14⟩ : ∃ x, f 14 = x := ⟨_, rfl⟩
    simp only [List.foldl_cons, List.foldl_nil, List.drop_succ_cons, List.drop_zero, e15, x3, x4, x5, x6, x7, x8, x9, x10, x11, x12, x13, x14]
    clear e15 x3 x4 x5 x6 x7 x8 x9 x10 x11 x12 x13 x14
    replace R0 : RowJ 3 m.base.length (iv m.base) u0 bs := R0
    replace R1 : RowJ 3 m.next.length (iv m.next) u1 bs := R1
    replace R2 : RowJ 84 m.held.length (u8v m.held) u2 bs := R2
    obtain ⟨A0, c0, rfl, o0⟩ := RowJ.own S2 R0
    obtain ⟨A1, c1, rfl, o1⟩ := RowJ.own S2 R1
    obtain ⟨A2, c2, rfl, o2⟩ := RowJ.own S2 R2
    have ha2 : AO w2 W.heap.size m ⟨A0, c0, A1, c1, A2, c2⟩ := ⟨o0, o1, o2, d01, d02, d12⟩
    have SB := SW.out.call S2.bel
    have S3 := Lib.hid (((SB.set 0 rfl 0 (.slice A0 m.base.length c0)).set 0 rfl 1 (.slice A1 m.next.length c1)).set 0 rfl 2 (.slice A2 m.held.length c2))
    have ha3 := Lib.hid ((ha2.far3 (g := w.heap.size + 1) (by omega) (.slice A0 m.base.length c0) (.slice A1 m.next.length c1) (.slice A2 m.held.length c2)).base (B' := w.heap.size) (by omega))
    clear R0 R1 R2 o0 o1 o2 d01 d02 d12 ha2 S2 zr fr r0 r1 r2 zm1 f3 n0 n1 n2
    obtain ⟨⟨zr, fr, r0, r1, r2, -⟩, ⟨zm1, f3, n0, n1, n2, -⟩, -⟩ := SB.facts
    clear SB
    go_wp2
    clear zr fr r0 r1 r2 zm1 f3 n0 n1 n2
    obtain ⟨⟨zr, fr, r0, r1, r2, -⟩, -⟩ := S3.out.facts
    refine bodyPost_ret (v := mixV m ⟨A0, c0, A1, c1, A2, c2⟩) (by simp [results, Try.results92, go_sem, r0, r1, r2]) rfl ?_
    exact Ret.mk ⟨⟨A0, c0, A1, c1, A2, c2⟩, rfl, ha3.out, S3.out.bel⟩
end Go.Proofs.Ytickckehhfdoeaa

namespace Go.Sv
open Go.RowKit
theorem fm_else {w W : World} {bs : List Bx} (h : Fm w W bs []) {g i : Nat} (hg : w.heap.size ≤ g) (hn : ∀ x ∈ bs, x.b ≠ g) (u : Value) : Fm w (W.setCell ⟨g, i, none⟩ u) bs [] :=
  ⟨h.bel.setCell hg u, allB_of fun x hx => (allB_at h.bx x hx).far (hn x hx) u, trivial, h.lo, (fun r hr => by cases hr), h.dis⟩
/-- an abort of one service -/
theorem mok_set {p : Prob} {m : Mx} (h : MOk p m) {k : Nat} (hk : k < m.next.length) : MOk p { m with next := m.next.set k (-1) } := by
  have hg : ∀ i, gi (m.next.set k (-1)) i = gi m.next i ∨ gi (m.next.set k (-1)) i = -1 := fun i => by
    by_cases c : i = k
    · right; rw [c, gi_set_same hk]
    · left; rw [gi_set_ne c]
  refine ⟨h.pr, h.lb, by show (m.next.set k (-1)).length = _; rw [List.length_set]; exact h.ln, h.lh, fun i hi => ?_, fun i hi hs => ?_, h.ns⟩
  · obtain ⟨a, b, c, d, e⟩ := h.sv i hi
    show 0 ≤ gi m.base i ∧ gi m.base i < gi p.vs i ∧ -1 ≤ gi (m.next.set k (-1)) i ∧ gi (m.next.set k (-1)) i < gi p.vs i ∧ gi m.base i ≠ gi (m.next.set k (-1)) i
    rcases hg i with g | g
    · rw [g]; exact ⟨a, b, c, d, e⟩
    · rw [g]; exact ⟨a, b, by omega, by omega, by omega⟩
  · obtain ⟨a, b⟩ := h.st i hi hs
    refine ⟨a, fun u hu => b u ?_⟩
    unfold run at hu ⊢
    dsimp only at hu
    rcases hg (tab p.tabs i).src.toNat with g | g
    · rw [g] at hu; exact hu
    · rw [g, if_neg (by omega), Nat.or_zero] at hu
      rw [Nat.testBit_or]
      have hu : (2 ^ (gi m.base (tab p.tabs i).src.toNat).toNat).testBit u = true := hu
      rw [hu]; rfl
end Go.Sv
namespace Go.Proofs.Ytickckehhfdoeaa
open Go.RowKit Go.Sv
/-- valid mixes to read -/
def AllR (p : Prob) (w : World) (v : Value) (w' : World) : Prop := Below w.heap.size w w' ∧ ∃ ms Q A c, v = .slice A ms.length c ∧ ms.length ≤ 64 ∧ ArrN w' w'.heap.size 3 A ms.length (mxF ms Q) ∧ ∀ k, k < ms.length → RMix w' w'.heap.size (mxAt ms k) (Q k) ∧ MOk p (mxAt ms k) ∧ MBd (mxAt ms k) (Q k)
theorem mok_sm {p : Prob} {m : Mx} (h : MOk p m) : m.base.length ≤ 6 ∧ m.next.length ≤ 6 ∧ m.held.length ≤ 12 := by
  have hp := prob_small h.pr
  have := h.lb
  have := h.ln
  have := h.lh
  omega
set_option maxHeartbeats 8000000 in
set_option maxRecDepth 100000 in
theorem rall_any (p : Prob) (m : Mx) (q : MixP) (w : World) (hm : RMix w w.heap.size m q) (hmb : MBd m q) (hok : MOk p m) :
    Calls Try.prog 74 #[mixV m q] w (Ret (AllR p w)) := by
  obtain ⟨ma0, mc0, ma1, mc1, ma2, mc2⟩ := q
  obtain ⟨W, (hW : w.alloc (.cells #[.slice ma0 m.base.length mc0, .slice ma1 m.next.length mc1, .slice ma2 m.held.length mc2] 56) = W), S, hB⟩ := fm_boxE (Fm.init w) 56 [.slice ma0 m.base.length mc0, .slice ma1 m.next.length mc1, .slice ma2 m.held.length mc2]
  have hsm := mok_sm hok
  have hmW := Lib.hid (fun W2 (h : Below W.heap.size W W2) => (hm.to S.bel).to h)
  have HC := Lib.hid (fun W2 (h : Below W.heap.size W W2) => rcopied_any m ⟨ma0, mc0, ma1, mc1, ma2, mc2⟩ W2 ((hm.to S.bel).to h) hmb (by omega) (by omega) (by omega))
  have hmb0 := Lib.hid hmb
  obtain ⟨n, hn⟩ : ∃ n, m.next.length = n := ⟨_, rfl⟩
  have hn6 : n ≤ 6 := by omega
  obtain ⟨⟨zm, fm, m0, m1, m2, -⟩, -⟩ := S.facts
  have SW := Lib.hid S
  replace hsm := Lib.hid hsm
  replace hok := Lib.hid hok
  replace hn := Lib.hid hn
  clear S hm hmb hB
  try dsimp only at hmW HC
  go_enter Try.func74, Try.ntmps74
  go_wp2_with fail
  clear hW
  go_loop [3, 4] (fun s3 s4 => ∃ i j : Nat, s3 = .int .i64 (j : Int) ∧ s4 = .int .i64 (i : Int) ∧ i ≤ n ∧ j ≤ i) (fun _ s4 => n - (intOf s4).toNat)
  case atStart => exact ⟨0, 0, rfl, rfl, Nat.zero_le _, Nat.le_refl _⟩
  case round =>
    obtain ⟨i, j, rfl, rfl, hi, hji⟩ := hrel
    by_cases hlt : i < n
    · obtain ⟨bN, oN, e1, hbN, hcN⟩ := (hmW.out W (Below.refl _ _)).r1 (by rw [hn.out]; omega)
      have dN := hcN i (by rw [hn.out]; exact hlt)
      dsimp only at e1
      subst e1
      unfold iv at dN
      obtain ⟨u, hu⟩ : ∃ u, gi m.next i = u := ⟨_, rfl⟩
      rw [hu] at dN
      have ji : (i : Int) < (m.next.length : Int) := by rw [hn.out]; omega
      clear hcN hu
      cases g1 : decide (0 ≤ u) with
      | true =>
        go_wp2
        go_round
        case rel => exact ⟨i + 1, j + 1, by go_num, by go_num, by omega, by omega⟩
        case measure => simp [intOf]; omega
      | false =>
        go_wp2
        go_round
        case rel => exact ⟨i + 1, j, rfl, by go_num, by omega, by omega⟩
        case measure => simp [intOf]; omega
    · obtain rfl : n = i := by omega
      clear hlt
      have jn : ¬ (n : Int) < (m.next.length : Int) := by rw [hn.out]; omega
      have h6 : 2 ^ j ≤ 2 ^ 6 := Nat.pow_le_pow_right (by decide) (by omega)
      have hsh : wrap64 ((2 : Int) ^ j) = ((2 ^ j : Nat) : Int) := by
        have e : (2 : Int) ^ j = ((2 ^ j : Nat) : Int) := by simp
        rw [e]
        have h6 : 2 ^ j ≤ 64 := h6
        generalize 2 ^ j = z at h6
        unfold wrap64; omega
      obtain ⟨N, hN⟩ : ∃ N : Nat, 2 ^ j = N := ⟨_, rfl⟩
      rw [hN] at h6 hsh
      have hN64 : N ≤ 64 := h6
      clear h6
      replace hN := Lib.hid hN
      go_wp2_with fail
      clear zm fm m0 m1 m2
      go_loopw [5, 6] (fun s5 s6 wr => ∃ (k : Nat) (ms : List Mx) (Q : Nat → MixP), s6 = .int .i64 (k : Int) ∧ k ≤ N ∧ ms.length = k ∧ Hid (MxL wr W.heap.size W.heap.size ms Q s5) ∧ Hid (∀ t, t < ms.length → MOk p (mxAt ms t)) ∧ Below W.heap.size W wr) (fun _ s6 _ => N - (intOf s6).toNat)
      case atStart => exact ⟨0, [], _, rfl, Nat.zero_le _, rfl, Lib.hid (MxL.nil _ _ _), Lib.hid (fun t ht => by cases ht), Below.refl _ _⟩
      case round =>
        obtain ⟨k, ms, Q, rfl, hk, hml, hM, hO, hbel⟩ := hrel
        have T := Lib.hid (SW.out.call hbel)
        obtain ⟨⟨zm, fm, m0, m1, m2, -⟩, -⟩ := T.out.facts
        replace hml := Lib.hid hml
        by_cases hlt : k < N
        · have jk : (k : Int) < (N : Int) := by omega
          have HC2 := Lib.hid (HC.out wr hbel)
          have hz : W.heap.size ≤ wr.heap.size := hbel.size
          have hbelh := Lib.hid hbel
          clear hbel
          go_wp2_with fail
          with_reducible refine HC2.out.mono ?_
          rintro e w3 ⟨_, rfl, ⟨g0, h0, g1, h1, g2, h2⟩, rfl, ha3, hb3⟩
          obtain ⟨W4, (hW4 : w3.alloc (.cells #[.slice g0 m.base.length h0, .slice g1 m.next.length h1, .slice g2 m.held.length h2] 56) = W4), F4, hB4⟩ := fm_boxE ((Fm.init wr).call hb3) 56 [.slice g0 m.base.length h0, .slice g1 m.next.length h1, .slice g2 m.held.length h2]
          have hkey : Hid (0 < n → ∀ a, g1 = some a → a.block < w3.heap.size) := Lib.hid (fun h a ha => by
            obtain ⟨g', e, _, hl, _⟩ := ha3.set1 (i := 0) (by rw [hn.out]; exact h)
            dsimp only at e
            rw [ha] at e; injection e with e; subst e; exact hl)
          have ha4 := Lib.hid (ha3.to hB4)
          have hz3 := hb3.size
          have h8m := Lib.hid hmb0.out.h8
          have F4 := Lib.hid F4
          have T4 := Lib.hid (T.out.call F4.out.bel)
          have hnx := Lib.hid hn.out
          clear zm fm m0 m1 m2 hb3 ha3 hB4
          go_wp2_with fail
          clear hW4
          go_loopw [8, 9] (fun s8 s9 wx => ∃ (i pl : Nat) (x : Mx), s8 = .int .i64 (pl : Int) ∧ s9 = .int .i64 (i : Int) ∧ i ≤ n ∧ pl ≤ i ∧ Hid (x.next.length = n) ∧ Hid (Fm wr wx [⟨w3.heap.size, 56, [.slice g0 x.base.length h0, .slice g1 x.next.length h1, .slice g2 x.held.length h2]⟩] []) ∧ Hid (AO wx wr.heap.size x ⟨g0, h0, g1, h1, g2, h2⟩) ∧ Hid (MOk p x) ∧ Hid (H8 x)) (fun _ s9 _ => n - (intOf s9).toNat)
          case atStart => exact ⟨0, 0, m, rfl, rfl, Nat.zero_le _, Nat.le_refl _, hnx, F4, ha4, hok, h8m⟩
          case round =>
            rename World => wx
            obtain ⟨i, pl, x, rfl, rfl, hi, hpl, hxn, hF, hA, hOx, h8x⟩ := hrel
            have hbx := Lib.hid (hbelh.out.trans (hF.out.bel.mono hz))
            have T5 := Lib.hid (T.out.call hF.out.bel)
            obtain ⟨⟨zm, fm, m0, m1, m2, -⟩, -⟩ := T5.out.facts
            obtain ⟨⟨zx, fx, x0, x1, x2, -⟩, -⟩ := hF.out.facts
            by_cases hlt3 : i < n
            · obtain ⟨bN, oN, e1, hbN, hcN⟩ := (hmW.out wx hbx.out).r1 (by rw [hn.out]; omega)
              have dN := hcN i (by rw [hn.out]; exact hlt3)
              subst e1
              unfold iv at dN
              obtain ⟨u, hu⟩ : ∃ u, gi m.next i = u := ⟨_, rfl⟩
              rw [hu] at dN
              have ji : (i : Int) < (m.next.length : Int) := by rw [hn.out]; omega
              have jx : (i : Int) < (x.next.length : Int) := by rw [hxn.out]; omega
              clear hcN hu
              cases g9 : decide (u < 0) with
              | true =>
                go_wp2
                go_roundw
                case rel => exact ⟨i + 1, pl, x, rfl, by go_num, by omega, by omega, hxn, hF, hA, hOx, h8x⟩
                case measure => simp [intOf]; omega
              | false =>
                obtain ⟨g', eg, hB', hl', hfz, hcl, hset⟩ := hA.out.set1 (i := i) (by rw [hxn.out]; exact hlt3)
                have hkl := hkey.out (by omega) _ eg
                dsimp only at eg hkl
                subst eg
                have S' := fm_else (i := i) hF.out (g := g') hB' (by intro z hz; simp only [List.mem_cons, List.not_mem_nil, or_false] at hz; rw [hz]; dsimp only; omega) (.int .i64 (-1))
                have A' := Lib.hid (hset (-1))
                have O' := Lib.hid (mok_set hOx.out (k := i) (by rw [hxn.out]; exact hlt3))
                have hxn' : Hid ((({ x with next := x.next.set i (-1) } : Mx)).next.length = n) := Lib.hid (by show (x.next.set i (-1)).length = n; rw [List.length_set]; exact hxn.out)
                have S2' : Hid (Fm wr (wx.setCell ⟨g', i, none⟩ (.int .i64 (-1))) [⟨w3.heap.size, 56, [.slice g0 ({ x with next := x.next.set i (-1) } : Mx).base.length h0, .slice (some ⟨g', 0, none⟩) ({ x with next := x.next.set i (-1) } : Mx).next.length h1, .slice g2 ({ x with next := x.next.set i (-1) } : Mx).held.length h2]⟩] []) := Lib.hid (by
                  show Fm wr _ [⟨w3.heap.size, 56, [.slice g0 x.base.length h0, .slice (some ⟨g', 0, none⟩) (x.next.set i (-1)).length h1, .slice g2 x.held.length h2]⟩] []
                  rw [List.length_set]
                  exact S')
                have H' : Hid (H8 ({ x with next := x.next.set i (-1) } : Mx)) := Lib.hid h8x.out
                have jpl : ¬ (pl : Int) < 0 := by omega
                clear S' hset
                cases g10 : (((k : Int) / 2 ^ pl).tmod 2 == 1) with
                | true =>
                  go_wp2
                  go_roundw
                  case rel => exact ⟨i + 1, pl + 1, { x with next := x.next.set i (-1) }, by go_num, by go_num, by omega, by omega, hxn', S2', A', O', H'⟩
                  case measure => simp [intOf]; omega
                | false =>
                  go_wp2
                  go_roundw
                  case rel => exact ⟨i + 1, pl + 1, x, by go_num, by go_num, by omega, by omega, hxn, hF, hA, hOx, h8x⟩
                  case measure => simp [intOf]; omega
            · obtain rfl : n = i := by omega
              clear hlt3
              have jn : ¬ (n : Int) < (m.next.length : Int) := by rw [hn.out]; omega
              have hMx := Lib.hid (hM.out.to hz hF.out.bel)
              have hMrow := Lib.hid hMx.out.row
              have hEy : Hid (MEl wx W.heap.size W.heap.size x ⟨g0, h0, g1, h1, g2, h2⟩) := Lib.hid ⟨Or.inr (hA.out.base hz), hA.out.bd h8x.out⟩
              have hsX : W.heap.size ≤ wx.heap.size := hbx.out.size
              go_wp2_with (at_builtin; refine push_own elMix rfl _ _ rfl W.heap.size _ ms.length (mxRow ms Q) hMrow.out rfl [.slice g0 x.base.length h0, .slice g1 x.next.length h1, .slice g2 x.held.length h2] rfl rfl rfl (by rw [hml.out]; omega) (by omega) hsX ?_)
              intro v' w6 hown6 hg6 hb6 hs6 _
              have hM6 := Lib.hid (hMx.out.snoc hEy.out (Nat.le_refl _) hsX hown6 hg6)
              have hb7 := hbx.out.trans hb6
              have hO6 : Hid (∀ t, t < (ms ++ [x]).length → MOk p (mxAt (ms ++ [x]) t)) := Lib.hid (fun t ht => by
                rw [List.length_append, List.length_singleton] at ht
                by_cases c : t < ms.length
                · rw [mxAt_snoc_lt c]; exact hO.out t c
                · obtain rfl : t = ms.length := by omega
                  rw [mxAt_snoc_last]; exact hOx.out)
              have hml2 : (ms ++ [x]).length = k + 1 := by rw [List.length_append, List.length_singleton, hml.out]
              replace hml2 := Lib.hid hml2
              clear hown6 hg6 hb6 hs6
              go_wp2
              go_roundw
              case rel => exact ⟨k + 1, ms ++ [x], _, by go_num, by omega, hml2.out, hM6, hO6, hb7⟩
              case measure => simp [intOf]; omega
        · obtain rfl : k = N := by omega
          clear hlt
          obtain ⟨AM, cM, rfl, harr⟩ := hM.out.arr
          have hF := Lib.hid (And.intro T.out.bel (And.intro harr (fun t ht => (⟨(hM.out.el t ht).mix hbel.size, hO.out t ht, (hM.out.el t ht).2⟩ : RMix wr wr.heap.size (mxAt ms t) (Q t) ∧ MOk p (mxAt ms t) ∧ MBd (mxAt ms t) (Q t)))))
          clear zm fm m0 m1 m2 harr hbel
          go_wp2
          go_ret
          exact Ret.mk ⟨hF.out.1, ms, Q, AM, cM, rfl, by rw [hml.out]; exact hN64, hF.out.2.1, hF.out.2.2⟩

set_option maxHeartbeats 2000000 in
set_option maxRecDepth 100000 in
theorem risSafe_any (p : Prob) (q : ProbP) (m : Mx) (qm : MixP) (w : World) (hp : RProb w w.heap.size p q) (hm : RMix w w.heap.size m qm) (hok : MOk p m) (h8 : H8 m) :
    Calls Try.prog 75 #[probV p q, mixV m qm] w (Ret (BoolR w)) := by
  obtain ⟨W, hW, S⟩ := pm_boxes p q m qm w
  have HF := Lib.hid (rfound_any p q m qm W (hp.to S.bel) (hm.to S.bel) hok h8)
  obtain ⟨L, hL⟩ : ∃ L, foundL p m = L := ⟨_, rfl⟩
  rw [hL] at HF
  obtain ⟨qa0, qc0, qa1, qc1, qa2, qc2, qa3, qc3⟩ := q
  obtain ⟨ma0, mc0, ma1, mc1, ma2, mc2⟩ := qm
  dsimp only at HF hW S ⊢
  obtain ⟨⟨r1, f1, r10, r11, r12, -⟩, ⟨r2, f2, r20, r21, r22, r23, -⟩, -⟩ := S.facts
  have SW := Lib.hid S
  clear S hp hm hok h8 hL
  go_enter Try.func75, Try.ntmps75
  go_wp2_with fail
  clear hW
  with_reducible refine HF.out.mono ?_
  rintro e w1 ⟨_, rfl, hb1, A, c, rfl, -⟩
  have S1 := Lib.hid (SW.out.call hb1)
  clear r1 f1 r10 r11 r12 r2 f2 r20 r21 r22 r23 hb1
  go_wp2
  go_ret
  exact Ret.mk ⟨_, rfl, S1.out.bel⟩
set_option maxHeartbeats 2000000 in
set_option maxRecDepth 100000 in
theorem risRobust_any (p : Prob) (q : ProbP) (m : Mx) (qm : MixP) (w : World) (hp : RProb w w.heap.size p q) (hm : RMix w w.heap.size m qm) (hmb : MBd m qm) (hok : MOk p m) :
    Calls Try.prog 49 #[probV p q, mixV m qm] w (Ret (BoolR w)) := by
  obtain ⟨W, hW, S⟩ := pm_boxes p q m qm w
  have HA := Lib.hid (rall_any p m qm W (hm.to S.bel) hmb hok)
  have HS := Lib.hid (fun (x : Mx) (qx : MixP) (W2 : World) (h : Below W.heap.size W W2) (hx : RMix W2 W2.heap.size x qx) (hO : MOk p x) (h8 : H8 x) => risSafe_any p q x qx W2 ((hp.to S.bel).to h) hx hO h8)
  obtain ⟨qa0, qc0, qa1, qc1, qa2, qc2, qa3, qc3⟩ := q
  obtain ⟨ma0, mc0, ma1, mc1, ma2, mc2⟩ := qm
  dsimp only at HA HS hW S ⊢
  obtain ⟨⟨r1, f1, r10, r11, r12, -⟩, ⟨r2, f2, r20, r21, r22, r23, -⟩, -⟩ := S.facts
  have SW := Lib.hid S
  clear S hp hm hok hmb
  go_enter Try.func49, Try.ntmps49
  go_wp2_with fail
  clear hW
  with_reducible refine HA.out.mono ?_
  rintro e w1 ⟨_, rfl, hb1, ms, Q, A, c, rfl, h64, harr, hel⟩
  have S1 := Lib.hid (SW.out.call hb1)
  have hbW1 := Lib.hid hb1
  replace harr := Lib.hid harr
  replace hel := Lib.hid hel
  obtain ⟨n, hn⟩ : ∃ n, ms.length = n := ⟨_, rfl⟩
  rw [hn] at harr hel h64 ⊢
  clear r1 f1 r10 r11 r12 r2 f2 r20 r21 r22 r23 hb1 hn
  go_wp2
  go_loopw [6] (fun s6 wr => ∃ i : Nat, s6 = .int .i64 (i : Int) ∧ i ≤ n ∧ Below w1.heap.size w1 wr) (fun s6 _ => n - (intOf s6).toNat)
  case atStart => exact ⟨0, rfl, Nat.zero_le _, Below.refl _ _⟩
  case round =>
    obtain ⟨i, rfl, hi, hb⟩ := hrel
    have T := Lib.hid (S1.out.call hb)
    obtain ⟨⟨r1, f1, r10, r11, r12, -⟩, ⟨r2, f2, r20, r21, r22, r23, -⟩, -⟩ := T.out.facts
    by_cases hlt : i < n
    · obtain ⟨bM, oM, rfl, hbM, hcM⟩ := (harr.out.below hb) (by omega)
      obtain ⟨k0, k1, k2⟩ := mx_cells (hcM i hlt)
      obtain ⟨e1, e2, e3⟩ := hel.out i hlt
      have hdr : Below wr.heap.size wr wr.drew := ((Drawn.refl wr).drew).below
      have hb2 := (hbW1.out.trans (hb.mono hbW1.out.size))
      have HS2 := HS.out (mxAt ms i) (Q i) wr.drew (hb2.trans (hdr.mono hb2.size)) ((e1.to hb).to hdr) e2 e3.h8
      obtain ⟨x, hx⟩ : ∃ x, mxAt ms i = x := ⟨_, rfl⟩
      obtain ⟨⟨xa0, xc0, xa1, xc1, xa2, xc2⟩, hq⟩ : ∃ z, Q i = z := ⟨_, rfl⟩
      rw [hx, hq] at k0 k1 k2 HS2
      dsimp only at k0 k1 k2
      dsimp only [probV, mixV] at HS2
      replace HS2 := Lib.hid HS2
      have ji : (i : Int) < (n : Int) := by omega
      have hbMw : bM < wr.heap.size := by have := hb.size; omega
      replace hb := Lib.hid hb
      have Td := Lib.hid (Fm.drew T.out)
      have hbd := Lib.hid (hb.out.trans (hdr.mono hb.out.size))
      clear hcM e1 e2 e3 hb2 hx hq hdr
      go_wp2_with fail
      go_region_held3 (fun w' => w'.cell? ⟨w.heap.size, 0, none⟩ = some (.slice qa0 p.vs.length qc0) ∧ w'.cell? ⟨w.heap.size, 1, none⟩ = some (.slice qa1 p.now.length qc1) ∧ w'.cell? ⟨w.heap.size, 2, none⟩ = some (.slice qa2 p.tgt.length qc2) ∧ w'.cell? ⟨w.heap.size, 3, none⟩ = some (.slice qa3 p.tabs.length qc3) ∧
          w'.cell? ⟨bM, oM + i * 3, none⟩ = some (.slice xa0 x.base.length xc0) ∧ w'.cell? ⟨bM, oM + i * 3 + 1, none⟩ = some (.slice xa1 x.next.length xc1) ∧ w'.cell? ⟨bM, oM + i * 3 + 2, none⟩ = some (.slice xa2 x.held.length xc2)) (go_keep)
        (first
          | ((with_reducible refine HS2.out.mono ?_)
             rintro e w4 ⟨_, rfl, b, rfl, hb4⟩
             have hb5 := Lib.hid (hbd.out.trans (hb4.mono hbd.out.size))
             have T5 := Lib.hid (Td.out.call hb4)
             have hb4' := ((Drawn.refl wr).drew).below.trans hb4
             have l0 := (hb4'.cell (p := ⟨bM, oM + i * 3, none⟩) hbMw).trans k0
             have l1 := (hb4'.cell (p := ⟨bM, oM + i * 3 + 1, none⟩) hbMw).trans k1
             have l2 := (hb4'.cell (p := ⟨bM, oM + i * 3 + 2, none⟩) hbMw).trans k2
             clear r1 f1 r10 r11 r12 r2 f2 r20 r21 r22 r23 k0 k1 k2 hb4 hb4'
             obtain ⟨⟨r1, f1, r10, r11, r12, -⟩, ⟨r2, f2, r20, r21, r22, r23, -⟩, -⟩ := T5.out.facts))
      clear r1 f1 r10 r11 r12 r2 f2 r20 r21 r22 r23 l0 l1 l2
      cases b with
      | true =>
        go_wp2
        go_roundw
        case rel => exact ⟨i + 1, by go_num, by omega, hb5.out⟩
        case measure => simp [intOf]; omega
      | false =>
        go_wp2
        go_ret
        exact Ret.mk ⟨_, rfl, T5.out.bel⟩
    · obtain rfl : i = n := by omega
      clear hlt r1 f1 r10 r11 r12 r2 f2 r20 r21 r22 r23
      go_wp2
      go_ret
      exact Ret.mk ⟨_, rfl, T.out.bel⟩
end Go.Proofs.Ytickckehhfdoeaa

namespace Go.Proofs.Ytickckehhfdoeaa
open Go.RowKit Go.Sv
/-- a place in a list, and whether it is there -/
def PlR (w : World) (n : Nat) (v : Value) (w' : World) : Prop := Below w.heap.size w w' ∧ ∃ (k : Nat) (b : Bool), v = .tuple #[.int .i64 (k : Int), .bool b] ∧ k ≤ n
set_option maxHeartbeats 4000000 in
set_option maxRecDepth 100000 in
theorem rplace_any (ms : List Mx) (Q : Nat → MixP) (A : Option Addr) (c : Nat) (m : Mx) (qm : MixP) (w : World) (ha : ArrN w w.heap.size 3 A ms.length (mxF ms Q)) (hel : ∀ k, k < ms.length → RMix w w.heap.size (mxAt ms k) (Q k) ∧ MSm (mxAt ms k)) (hm : RMix w w.heap.size m qm) (hs : MSm m) (hl : ms.length ≤ 1000000) :
    Calls Try.prog 52 #[.slice A ms.length c, mixV m qm] w (Ret (PlR w ms.length)) := by
  obtain ⟨xa0, xc0, xa1, xc1, xa2, xc2⟩ := qm
  obtain ⟨W, (hW : w.alloc (.cells #[.slice xa0 m.base.length xc0, .slice xa1 m.next.length xc1, .slice xa2 m.held.length xc2] 56) = W), S, hB⟩ := fm_boxE (Fm.init w) 56 [.slice xa0 m.base.length xc0, .slice xa1 m.next.length xc1, .slice xa2 m.held.length xc2]
  have HC := Lib.hid (fun (k : Nat) (hk : k < ms.length) (W2 : World) (h : Below w.heap.size w W2) => rcompare_any (mxAt ms k) m (Q k) ⟨xa0, xc0, xa1, xc1, xa2, xc2⟩ W2 ((hel k hk).1.to h) (hm.to h) (hel k hk).2 hs)
  have haW := Lib.hid (fun (W2 : World) (h : Below w.heap.size w W2) => ha.below h)
  obtain ⟨n, hn⟩ : ∃ n, ms.length = n := ⟨_, rfl⟩
  rw [hn] at HC haW hl ⊢
  obtain ⟨⟨zm, fm, m0, m1, m2, -⟩, -⟩ := S.facts
  replace S := Lib.hid S
  clear ha hel hm hs hB hn
  go_enter Try.func52, Try.ntmps52
  go_upto_block 0 with fail
  clear hW
  clear zm fm m0 m1 m2
  go_cut [6] (fun s6 wx => ∃ i : Nat, s6 = .int .i64 (i : Int) ∧ i ≤ n ∧ Hid (Fm w wx [⟨w.heap.size, 56, [.slice xa0 m.base.length xc0, .slice xa1 m.next.length xc1, .slice xa2 m.held.length xc2]⟩] []))
  case first =>
    go_wp2_with fail
    go_loopw [6] (fun s6 wr => ∃ i : Nat, s6 = .int .i64 (i : Int) ∧ i ≤ n ∧ Hid (Fm w wr [⟨w.heap.size, 56, [.slice xa0 m.base.length xc0, .slice xa1 m.next.length xc1, .slice xa2 m.held.length xc2]⟩] [])) (fun s6 _ => n - (intOf s6).toNat)
    case atStart => exact ⟨0, rfl, Nat.zero_le _, S⟩
    case round =>
      obtain ⟨i, rfl, hi, hF⟩ := hrel
      obtain ⟨⟨zm, fm, m0, m1, m2, -⟩, -⟩ := hF.out.facts
      have hdr : Below wr.heap.size wr wr.drew := ((Drawn.refl wr).drew).below
      have Td := Lib.hid (Fm.drew hF.out)
      by_cases hlt : i < n
      · obtain ⟨bM, oM, rfl, hbM, hcM⟩ := (haW.out wr hF.out.bel) (by omega)
        obtain ⟨k0, k1, k2⟩ := mx_cells (hcM i hlt)
        have HC2 := HC.out i hlt wr.drew (hF.out.bel.trans (hdr.mono hF.out.size))
        obtain ⟨x, hx⟩ : ∃ x, mxAt ms i = x := ⟨_, rfl⟩
        obtain ⟨⟨ya0, yc0, ya1, yc1, ya2, yc2⟩, hq⟩ : ∃ z, Q i = z := ⟨_, rfl⟩
        rw [hx, hq] at k0 k1 k2 HC2
        dsimp only at k0 k1 k2
        dsimp only [mixV] at HC2
        replace HC2 := Lib.hid HC2
        have ji : (i : Int) < (n : Int) := by omega
        have hbMw : bM < wr.heap.size := by have := hF.out.size; omega
        clear hcM hx hq hdr
        go_wp2_with fail
        go_region_held3 (fun w' => w'.cell? ⟨w.heap.size, 0, none⟩ = some (.slice xa0 m.base.length xc0) ∧ w'.cell? ⟨w.heap.size, 1, none⟩ = some (.slice xa1 m.next.length xc1) ∧ w'.cell? ⟨w.heap.size, 2, none⟩ = some (.slice xa2 m.held.length xc2) ∧
            w'.cell? ⟨bM, oM + i * 3, none⟩ = some (.slice ya0 x.base.length yc0) ∧ w'.cell? ⟨bM, oM + i * 3 + 1, none⟩ = some (.slice ya1 x.next.length yc1) ∧ w'.cell? ⟨bM, oM + i * 3 + 2, none⟩ = some (.slice ya2 x.held.length yc2)) (go_keep)
          (first
            | ((with_reducible refine HC2.out.mono ?_)
               rintro e w4 ⟨hb4, z, rfl, -⟩
               have hb4' := ((Drawn.refl wr).drew).below.trans hb4
               have T5 := Lib.hid (Td.out.call hb4)
               have l0 := (hb4'.cell (p := ⟨bM, oM + i * 3, none⟩) hbMw).trans k0
               have l1 := (hb4'.cell (p := ⟨bM, oM + i * 3 + 1, none⟩) hbMw).trans k1
               have l2 := (hb4'.cell (p := ⟨bM, oM + i * 3 + 2, none⟩) hbMw).trans k2
               clear zm fm m0 m1 m2 k0 k1 k2 hb4 hb4'
               obtain ⟨⟨zm, fm, m0, m1, m2, -⟩, -⟩ := T5.out.facts))
        clear zm fm m0 m1 m2 l0 l1 l2
        cases gz : decide (z < 0) with
        | true =>
          go_wp2
          go_roundw
          case rel => exact ⟨i + 1, by go_num, by omega, T5⟩
          case measure => simp [intOf]; omega
        | false =>
          go_wp2
          go_meet
          exact ⟨i, rfl, hi, T5⟩
      · obtain rfl : n = i := by omega
        clear hlt zm fm m0 m1 m2
        go_wp2_with fail
        refine wp_region_quiet_lit (by kernel_rfl) (by kernel_rfl) ?_
        repeat (go_big_quiet_step (fail))
        refine wpQuiet_nil ?_
        intro w5 hw5
        have hd5 : Drawn wr w5 := hw5
        have T5 := Lib.hid (hF.out.drawn hd5)
        clear hw5 hd5
        go_wp2
        go_meet
        exact ⟨n, rfl, hi, T5⟩
  case rest =>
    rename World => wr
    obtain ⟨i, rfl, hi, hF⟩ := hcut
    obtain ⟨⟨zm, fm, m0, m1, m2, -⟩, -⟩ := hF.out.facts
    have hdr : Below wr.heap.size wr wr.drew := ((Drawn.refl wr).drew).below
    have Td := Lib.hid (Fm.drew hF.out)
    by_cases hlt : i < n
    · obtain ⟨bM, oM, rfl, hbM, hcM⟩ := (haW.out wr hF.out.bel) (by omega)
      obtain ⟨k0, k1, k2⟩ := mx_cells (hcM i hlt)
      have HC2 := HC.out i hlt wr.drew (hF.out.bel.trans (hdr.mono hF.out.size))
      obtain ⟨x, hx⟩ : ∃ x, mxAt ms i = x := ⟨_, rfl⟩
      obtain ⟨⟨ya0, yc0, ya1, yc1, ya2, yc2⟩, hq⟩ : ∃ z, Q i = z := ⟨_, rfl⟩
      rw [hx, hq] at k0 k1 k2 HC2
      dsimp only at k0 k1 k2
      dsimp only [mixV] at HC2
      replace HC2 := Lib.hid HC2
      have ji : (i : Int) < (n : Int) := by omega
      have hbMw : bM < wr.heap.size := by have := hF.out.size; omega
      clear hcM hx hq hdr
      go_wp2_with fail
      go_region_held3 (fun w' => w'.cell? ⟨w.heap.size, 0, none⟩ = some (.slice xa0 m.base.length xc0) ∧ w'.cell? ⟨w.heap.size, 1, none⟩ = some (.slice xa1 m.next.length xc1) ∧ w'.cell? ⟨w.heap.size, 2, none⟩ = some (.slice xa2 m.held.length xc2) ∧
          w'.cell? ⟨bM, oM + i * 3, none⟩ = some (.slice ya0 x.base.length yc0) ∧ w'.cell? ⟨bM, oM + i * 3 + 1, none⟩ = some (.slice ya1 x.next.length yc1) ∧ w'.cell? ⟨bM, oM + i * 3 + 2, none⟩ = some (.slice ya2 x.held.length yc2)) (go_keep)
        (first
          | ((with_reducible refine HC2.out.mono ?_)
             rintro e w4 ⟨hb4, z, rfl, -⟩
             have hb4' := ((Drawn.refl wr).drew).below.trans hb4
             have T5 := Lib.hid (Td.out.call hb4)
             have l0 := (hb4'.cell (p := ⟨bM, oM + i * 3, none⟩) hbMw).trans k0
             have l1 := (hb4'.cell (p := ⟨bM, oM + i * 3 + 1, none⟩) hbMw).trans k1
             have l2 := (hb4'.cell (p := ⟨bM, oM + i * 3 + 2, none⟩) hbMw).trans k2
             clear zm fm m0 m1 m2 k0 k1 k2 hb4 hb4'
             obtain ⟨⟨zm, fm, m0, m1, m2, -⟩, -⟩ := T5.out.facts))
      all_goals clear zm fm m0 m1 m2 l0 l1 l2
      all_goals
        go_wp2
        go_ret2
        exact Ret.mk ⟨T5.out.bel, i, _, rfl, hi⟩
    · obtain rfl : n = i := by omega
      clear hlt zm fm m0 m1 m2
      go_wp2_with fail
      refine wp_region_quiet_lit (by kernel_rfl) (by kernel_rfl) ?_
      repeat (go_big_quiet_step (fail))
      refine wpQuiet_nil ?_
      intro w5 hw5
      have hd5 : Drawn wr w5 := hw5
      have T5 := Lib.hid (hF.out.drawn hd5)
      clear hw5 hd5
      go_wp2
      go_ret2
      exact Ret.mk ⟨T5.out.bel, n, _, rfl, hi⟩
end Go.Proofs.Ytickckehhfdoeaa

namespace Go.Sv
open Go.RowKit
theorem range_gi {l : List Int} {n : Nat} (h : l.length = n) : (List.range n).map (gi l) = l := by
  subst h
  apply List.ext_getElem
  · simp
  · intro k h1 h2
    simp [gi, h2]
end Go.Sv
namespace Go.Proofs.Ytickckehhfdoeaa
open Go.RowKit Go.Sv
theorem stM_mx {p : Prob} (h : probE p = 0) : stM p p.vs.length p.tabs.length = stMx p := by
  have hl := (prob_small h).2.2.1
  unfold stM stMx
  rw [range_gi hl]
  have e2 : (List.range p.vs.length).map (fun _ => (-1 : Int)) = List.replicate p.now.length (-1) := by rw [hl]; simp [List.map_const']
  rw [e2]
  rfl
/-- a list of valid mixes of the call's own -/
structure FLs (p : Prob) (W : World) (B : Nat) (ms : List Mx) (Q : Nat → MixP) (v : Value) : Prop where
  row : W.ownsRow B 56 3 v ms.length (mxRow ms Q)
  el : ∀ k, k < ms.length → AO W B (mxAt ms k) (Q k) ∧ MOk p (mxAt ms k) ∧ H8 (mxAt ms k)
theorem AO.pushM {W W' : World} {B B' s n : Nat} {m : Mx} {q : MixP} {u : Value} {ys : List Value} (h : AO W B m q) (hu : W.ownsRow B' 56 s u n ys) (hg : W.grownBy W' u.ownBlock) : AO W' B m q :=
  ⟨ownO_other h.o0 hu (by decide) hg, ownO_other h.o1 hu (by decide) hg, ownO_other h.o2 hu (by decide) hg, h.d01, h.d02, h.d12⟩
section
variable {p : Prob} {W W' : World} {B : Nat} {ms : List Mx} {Q : Nat → MixP} {v : Value}
theorem FLs.to (h : FLs p W B ms Q v) (hb : Below W.heap.size W W') : FLs p W' B ms Q v :=
  ⟨own_to h.row hb, fun k hk => ⟨(h.el k hk).1.to hb, (h.el k hk).2⟩⟩
theorem FLs.arr (h : FLs p W B ms Q v) : ∃ A c, v = .slice A ms.length c ∧ ArrN W W.heap.size 3 A ms.length (mxF ms Q) := by
  obtain ⟨A, c, hv, _, _, ha⟩ := own_arrN (f := mxF ms Q) h.row (fun k hk i hi => mxRow_get hk hi)
  exact ⟨A, c, hv, ha⟩
theorem FLs.one {m : Mx} {q : MixP} (hm : AO W B m q) (ho : MOk p m) (h8 : H8 m) (hB : B ≤ W.heap.size) : FLs p (W.alloc (.cells #[.slice q.a0 m.base.length q.c0, .slice q.a1 m.next.length q.c1, .slice q.a2 m.held.length q.c2] 56)) B [m] (fun _ => q) (.slice (some ⟨W.heap.size, 0, none⟩) 1 1) :=
  ⟨by
    have h := own_one (w := W) (B := B) (e := 56) (cs := [.slice q.a0 m.base.length q.c0, .slice q.a1 m.next.length q.c1, .slice q.a2 m.held.length q.c2]) (s := 3) rfl hB
    have e : mxRow [m] (fun _ => q) = [.slice q.a0 m.base.length q.c0, .slice q.a1 m.next.length q.c1, .slice q.a2 m.held.length q.c2] := by
      unfold mxRow rowN
      simp [List.range_succ, mxF, mxC, mxAt]
    show World.ownsRow _ _ _ _ _ 1 (mxRow [m] fun _ => q)
    rw [e]
    exact h, fun k hk => by
    have : k = 0 := by simpa using hk
    subst this
    exact ⟨hm.to ((Below.refl _ _).alloc (Nat.le_refl _) _), ho, h8⟩⟩
/-- one more mix -/
theorem FLs.snoc {v' : Value} {m : Mx} {q : MixP} {o : Obj} (h : FLs p W B ms Q v) (hm : AO W B m q) (hk : MOk p m) (h8 : H8 m)
    (ho : W'.ownsRow B 56 3 v' (ms.length + 1) (mxRow ms Q ++ [.slice q.a0 m.base.length q.c0, .slice q.a1 m.next.length q.c1, .slice q.a2 m.held.length q.c2])) (hg : (W.alloc o).grownBy W' v.ownBlock) : FLs p W' B (ms ++ [m]) (Qs ms.length Q q) v' := by
  have ha : Below W.heap.size W (W.alloc o) := (Below.refl _ _).alloc (Nat.le_refl _) o
  refine ⟨?_, fun k hk' => ?_⟩
  · show World.ownsRow _ _ _ _ _ (ms ++ [m]).length _
    rw [List.length_append, List.length_singleton, mxRow_snoc]
    exact ho
  · rw [List.length_append, List.length_singleton] at hk'
    by_cases c : k < ms.length
    · rw [mxAt_snoc_lt c, Qs_lt c]
      exact ⟨((h.el k c).1.to ha).pushM (own_to h.row ha) hg, (h.el k c).2⟩
    · obtain rfl : k = ms.length := by omega
      rw [mxAt_snoc_last, Qs_at]
      exact ⟨(hm.to ha).pushM (own_to h.row ha) hg, hk, h8⟩
/-- another list grows -/
theorem FLs.other {B' n s : Nat} {u : Value} {ys : List Value} {o : Obj} (h : FLs p W B ms Q v) (hu : W.ownsRow B' 56 s u n ys) (hne : ∀ g, v.ownBlock = some g → u.ownBlock ≠ some g) (hg : (W.alloc o).grownBy W' u.ownBlock) : FLs p W' B ms Q v := by
  have ha : Below W.heap.size W (W.alloc o) := (Below.refl _ _).alloc (Nat.le_refl _) o
  refine ⟨?_, fun k hk => ⟨((h.el k hk).1.to ha).pushM (own_to hu ha) hg, (h.el k hk).2⟩⟩
  have h' := own_to h.row ha
  refine ⟨h'.1, ?_⟩
  rcases h'.2 with hn | ⟨g, cap, cur, hv, hb, hgg, rest⟩
  · exact Or.inl hn
  · have hw : Whole (W.alloc o) g _ cur := hgg
    exact Or.inr ⟨g, cap, cur, hv, hb, hw.grown hg (fun e => hne g (by rw [hv]; rfl) e.symm), rest⟩
end
end Go.Proofs.Ytickckehhfdoeaa

namespace Go.Proofs.Ytickckehhfdoeaa
open Go.RowKit Go.Sv
theorem step_arr {P : Program} {t e : TypeId} {z : Value} {size bytes : Nat} {w : World} (E : ElemT P t e z size bytes) {ops : Array Oper} {o : Oper} {a : Act} {K : Act → World → Prop} {Q : Exit → Act → World → Prop} {X : Prop} (hgd : o.guard = none) (s x : Operand)
    (ho : o.op = .call { callee := .builtin .append, args := #[s, x], argTypes := #[t, t] }) (base : Nat) (v : Value) (n : Nat) (xs : List Value) (hown : w.ownsRow base e size v n xs) (hs : a.eval s = v)
    (A : Option Addr) (m c : Nat) (news : List Value) (hx : a.eval x = .slice A m c) (hnl : news.length = m * size) (h1 : ∀ u ∈ news, u.oneCell' = true)
    (hA : A = none → m = 0) (hc : ∀ ad, A = some ad → ∀ j u, news[j]? = some u → w.cell? (ad.add j) = some u)
    (hn : n + m ≤ 1073741824) (hby : bytes ≤ 4096) (hbase : base ≤ w.heap.size)
    (h : ∀ v' w', w'.ownsRow base e size v' (n + m) (xs ++ news) → w.grownBy w' v.ownBlock → Below base w w' → K (a.put o.dst v') w') :
    if Region.wanted o (yielded ops a.tmps) = true then Oper.wp P o a w K Q else X := by
  have hw : Region.wanted o (yielded ops a.tmps) = true := by simp [Region.wanted, hgd]
  rw [if_pos hw]
  obtain ⟨v', w', hr, h2, h3, h4⟩ := run_append_arr E w o.type base v n xs hown A m c news hnl h1 hA hc hn hby hbase
  unfold Oper.wp execOp
  simp only [ho, resolve, invoke, builtin, Sem.run_bind, Sem.run_pure, Result.andThen_ok, List.map_toArray, List.map_cons, List.map_nil, hs, hx, hr]
  exact h v' w' h2 h3 (own_below hown h3 hbase)
theorem own_empty {w : World} {B g s : Nat} {e : TypeId} (hw : Whole w g e #[]) (hB : B ≤ g) : w.ownsRow B e s (.slice (some ⟨g, 0, none⟩) 0 0) 0 [] :=
  ⟨by simp, Or.inr ⟨g, 0, #[], rfl, hB, hw, Nat.le_refl _, Nat.zero_le _, by simp, by simp⟩⟩
theorem add_off (b o j : Nat) : (⟨b, o, none⟩ : Addr).add j = ⟨b, o + j, none⟩ := by
  unfold Addr.add
  split
  · rename_i h0; rw [h0]; rfl
  · rfl
theorem whole_cells {w : World} {g : Nat} {e : TypeId} {cs : List Value} (hw : Whole w g e cs.toArray) : ∀ ad, some (⟨g, 0, none⟩ : Addr) = some ad → ∀ j u, cs[j]? = some u → w.cell? (ad.add j) = some u := by
  intro ad had j u hu
  injection had with had
  subst had
  rw [add_off, Nat.zero_add, hw.cell j]
  simpa using hu
section
variable {w W : World} {b N : Nat} {xs : List Value}
theorem take_cells (h : ∀ j, j < N * 3 → w.cell? ⟨b, j, none⟩ = xs[j]?) (hb : b < w.heap.size) (hB : Below w.heap.size w W) {t : Nat} (ht : t ≤ N) : ∀ ad, some (⟨b, 0, none⟩ : Addr) = some ad → ∀ j u, (xs.take (t * 3))[j]? = some u → W.cell? (ad.add j) = some u := by
  intro ad had j u hu
  injection had with had
  subst had
  rw [List.getElem?_take] at hu
  split at hu
  · rw [add_off, Nat.zero_add, hB.cell (p := ⟨b, j, none⟩) hb, h j (by omega)]; exact hu
  · cases hu
theorem drop_cells (h : ∀ j, j < N * 3 → w.cell? ⟨b, j, none⟩ = xs[j]?) (hl : xs.length = N * 3) (hb : b < w.heap.size) (hB : Below w.heap.size w W) {t o : Nat} (ho : o = t * 3) : ∀ ad, some (⟨b, o, none⟩ : Addr) = some ad → ∀ j u, (xs.drop (t * 3))[j]? = some u → W.cell? (ad.add j) = some u := by
  intro ad had j u hu
  injection had with had
  subst had ho
  rw [List.getElem?_drop] at hu
  have hlt := (List.getElem?_eq_some_iff.1 hu).1
  rw [add_off, hB.cell (p := ⟨b, t * 3 + j, none⟩) hb, h _ (by omega)]; exact hu
end
def insM (ss : List Mx) (t : Nat) (y : Mx) : List Mx := ss.take t ++ y :: ss.drop t
def insQ (R : Nat → MixP) (t : Nat) (q : MixP) (k : Nat) : MixP := if k < t then R k else if k = t then q else R (k - 1)
theorem insM_len {ss : List Mx} {t : Nat} (y : Mx) (h : t ≤ ss.length) : (insM ss t y).length = ss.length + 1 := by unfold insM; simp; omega
theorem insM_lt {ss : List Mx} {t k : Nat} {y : Mx} (h : t ≤ ss.length) (hk : k < t) : mxAt (insM ss t y) k = mxAt ss k := by
  unfold mxAt insM
  rw [List.getD_eq_getElem?_getD, List.getD_eq_getElem?_getD, List.getElem?_append_left (by simp; omega), List.getElem?_take, if_pos hk]
theorem insM_at {ss : List Mx} {t : Nat} {y : Mx} (h : t ≤ ss.length) : mxAt (insM ss t y) t = y := by
  have hl : (ss.take t).length = t := by simp; omega
  unfold mxAt insM
  rw [List.getD_eq_getElem?_getD, List.getElem?_append_right (by omega), hl, Nat.sub_self]
  rfl
theorem insM_gt {ss : List Mx} {t k : Nat} {y : Mx} (h : t ≤ ss.length) (hk : t < k) : mxAt (insM ss t y) k = mxAt ss (k - 1) := by
  have hl : (ss.take t).length = t := by simp; omega
  unfold mxAt insM
  rw [List.getD_eq_getElem?_getD, List.getD_eq_getElem?_getD, List.getElem?_append_right (by omega), hl]
  obtain ⟨j, rfl⟩ : ∃ j, k = t + 1 + j := ⟨k - (t + 1), by omega⟩
  rw [show t + 1 + j - t = j + 1 by omega, List.getElem?_cons_succ, List.getElem?_drop, show t + 1 + j - 1 = t + j by omega]
theorem mxRow_ins {ss : List Mx} {R : Nat → MixP} {t : Nat} {y : Mx} {q : MixP} (h : t ≤ ss.length) :
    mxRow (insM ss t y) (insQ R t q) = ((mxRow ss R).take (t * 3) ++ [.slice q.a0 y.base.length q.c0, .slice q.a1 y.next.length q.c1, .slice q.a2 y.held.length q.c2]) ++ (mxRow ss R).drop (t * 3) := by
  have hl : (mxRow ss R).length = ss.length * 3 := rowN_length ..
  have hl2 : (mxRow (insM ss t y) (insQ R t q)).length = (ss.length + 1) * 3 := by
    have : (mxRow (insM ss t y) (insQ R t q)).length = (insM ss t y).length * 3 := rowN_length ..
    rw [this, insM_len y h]
  apply List.ext_getElem?
  intro j
  by_cases hj : j < (ss.length + 1) * 3
  · obtain ⟨k, i, hi, rfl⟩ : ∃ k i, i < 3 ∧ j = k * 3 + i := ⟨j / 3, j % 3, Nat.mod_lt _ (by decide), by omega⟩
    have hk : k < (insM ss t y).length := by rw [insM_len y h]; omega
    rw [mxRow_get hk hi]
    by_cases c : k < t
    · rw [List.getElem?_append_left (by simp; omega), List.getElem?_append_left (by simp; omega), List.getElem?_take, if_pos (by omega), mxRow_get (by omega) hi]
      unfold mxF insQ
      rw [insM_lt h c, if_pos c]
    · by_cases c2 : k = t
      · subst c2
        rw [List.getElem?_append_left (by simp; omega), List.getElem?_append_right (by simp; omega)]
        have e : k * 3 + i - ((mxRow ss R).take (k * 3)).length = i := by simp; omega
        rw [e]
        unfold mxF insQ
        rw [insM_at h, if_neg c, if_pos rfl]
        match i, hi with
        | 0, _ => rfl
        | 1, _ => rfl
        | 2, _ => rfl
      · rw [List.getElem?_append_right (by simp; omega)]
        have e : k * 3 + i - ((mxRow ss R).take (t * 3) ++ [Value.slice q.a0 y.base.length q.c0, .slice q.a1 y.next.length q.c1, .slice q.a2 y.held.length q.c2]).length = (k - 1 - t) * 3 + i := by simp; omega
        rw [e, List.getElem?_drop, show t * 3 + ((k - 1 - t) * 3 + i) = (k - 1) * 3 + i by omega, mxRow_get (by omega) hi]
        unfold mxF insQ
        rw [insM_gt h (by omega), if_neg c, if_neg c2]
  · rw [List.getElem?_eq_none (by omega), List.getElem?_eq_none (by simp; omega)]
theorem FLs.ins {p : Prob} {w W : World} {B B2 t n : Nat} {ss : List Mx} {R : Nat → MixP} {v v' : Value} {y : Mx} {q : MixP} (h : FLs p w B ss R v) (hb : Below w.heap.size w W) (ht : t ≤ ss.length) (hy : AO W B y q) (ho : MOk p y) (h8 : H8 y) (hB : B ≤ B2) (hn : n = ss.length + 1)
    (hr : W.ownsRow B2 56 3 v' n (((mxRow ss R).take (t * 3) ++ [.slice q.a0 y.base.length q.c0, .slice q.a1 y.next.length q.c1, .slice q.a2 y.held.length q.c2]) ++ (mxRow ss R).drop (t * 3))) : FLs p W B (insM ss t y) (insQ R t q) v' := by
  refine ⟨?_, fun k hk => ?_⟩
  · rw [insM_len y ht, mxRow_ins ht]
    rw [hn] at hr
    exact own_base hr hB
  · rw [insM_len y ht] at hk
    by_cases c : k < t
    · rw [insM_lt ht c]
      unfold insQ
      rw [if_pos c]
      exact ⟨(h.el k (by omega)).1.to hb, (h.el k (by omega)).2⟩
    · by_cases c2 : k = t
      · subst c2
        rw [insM_at ht]
        unfold insQ
        rw [if_neg c, if_pos rfl]
        exact ⟨hy, ho, h8⟩
      · rw [insM_gt ht (by omega)]
        unfold insQ
        rw [if_neg c, if_neg c2]
        exact ⟨(h.el (k - 1) (by omega)).1.to hb, (h.el (k - 1) (by omega)).2⟩
theorem own_ge {w : World} {B s n : Nat} {e : TypeId} {v : Value} {xs : List Value} (h : w.ownsRow B e s v n xs) : ∀ g, v.ownBlock = some g → B ≤ g := by
  intro g hg
  rcases h.2 with ⟨rfl, _⟩ | ⟨b, cap, cur, rfl, hb, _⟩
  · cases hg
  · have e : b = g := by injection hg
    omega
end Go.Proofs.Ytickckehhfdoeaa
