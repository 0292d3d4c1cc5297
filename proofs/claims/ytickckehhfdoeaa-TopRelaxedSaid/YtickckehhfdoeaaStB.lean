/-
  CONTRACTS of step.exists, math/bits.TrailingZeros8 and step.rewritable.
  Conditions: those that each theorem names.
-/
import Derived.Test.YtickckehhfdoeaaStA
import Derived.Test.YtickckehhfdoeaaShelfS
namespace Go.Proofs.Ytickckehhfdoeaa
open Go.RowKit Go.Sv
set_option maxRecDepth 100000 in
theorem sexists_any (p : Prob) (q : ProbP) (s : Sp) (w : World) (hp : RProb w w.heap.size p q) (hbd : PBd p) (h0 : 0 ≤ s.ix) :
    Calls Try.prog 64 #[probV p q, stepV s] w fun e w' => e = .returned (.bool (existsB p s)) ∧ Below w.heap.size w w' := by
  obtain ⟨a0, c0, a1, c1, a2, c2, a3, c3⟩ := q
  obtain ⟨k, i, v⟩ := s
  have hl0 := hbd.b0
  have hl3 := hbd.b3
  have S := ((Fm.init w).box 39 [.slice a0 p.vs.length c0, .slice a1 p.now.length c1, .slice a2 p.tgt.length c2, .slice a3 p.tabs.length c3]).box' 63 [.int .i64 k, .int .i64 i, .int .i64 v] (K := w.heap.size + 1) (by simp)
  have hb := Lib.hid S.bel
  obtain ⟨b, hE⟩ : ∃ b, existsB p ⟨k, i, v⟩ = b := ⟨_, rfl⟩
  rw [hE]
  unfold existsB at hE
  dsimp only at hE h0 ⊢
  have hp0 := hp.r0
  clear hp hbd S
  cases h3 : (k == 3) with
  | true =>
    rw [if_pos (beq_iff_eq.1 h3)] at hE
    replace hE := Lib.hid hE
    replace hp0 := Lib.hid hp0
    go_enter Try.func64, Try.ntmps64
    go_wp2
    go_ret
    exact ⟨ret_b hE.out, hb.out⟩
  | false =>
    rw [if_neg (by simpa using h3)] at hE
    have hbn : Hid (Drawn w w) := Lib.hid (Drawn.refl _)
    cases h4 : decide (i < (p.vs.length : Int)) with
    | false =>
      rw [h4] at hE
      replace hE := Lib.hid hE
      replace hp0 := Lib.hid hp0
      go_enter Try.func64, Try.ntmps64
      go_wp2_with fail
      go_big_quiet (fail)
      go_wp2
      go_ret
      exact ⟨ret_b hE.out, hb.out.drawn ((Drawn.refl _).drewN _)⟩
    | true =>
      rw [h4] at hE
      have hlt : i < (p.vs.length : Int) := of_decide_eq_true h4
      obtain ⟨bb, oo, e0, hbb, hcc⟩ := hp0 (by omega)
      dsimp only at e0
      subst e0
      have hy := hcc i.toNat (by omega)
      unfold iv at hy
      have hi : (i.toNat : Int) = i := by omega
      have hbb1 : bb < w.heap.size + 1 := by omega
      have hbb2 : bb < w.heap.size + 1 + 1 := by omega
      obtain ⟨n, hn⟩ : ∃ n, gi p.vs i.toNat = n := ⟨_, rfl⟩
      rw [hn] at hy hE
      clear hcc hp0 hn
      cases h5 : (k == 1) with
      | false =>
        have h5' : (k != 1) = true := by rw [bne, h5]; rfl
        rw [show decide (k = 1) = false from by simpa using h5] at hE
        replace hE := Lib.hid hE
        go_enter Try.func64, Try.ntmps64
        go_wp2_with fail
        go_big_quiet (fail)
        go_wp2
        go_ret
        exact ⟨ret_b hE.out, hb.out.drawn ((Drawn.refl _).drewN _)⟩
      | true =>
        have h5' : (k != 1) = false := by rw [bne, h5]; rfl
        rw [show decide (k = 1) = true from by simpa using h5] at hE
        replace hE := Lib.hid hE
        go_enter Try.func64, Try.ntmps64
        go_wp2_with fail
        go_big_quiet (fail)
        go_wp2
        go_ret
        exact ⟨ret_b hE.out, hb.out.drawn ((Drawn.refl _).drewN _)⟩
theorem tz8_any (u : Nat) (h : u < 256) (w : World) : Calls Try.prog 100 #[.int .u8 (u : Int)] w fun e w' => e = .returned (.int .i64 ((Lib.trailingZeros8 u : Nat) : Int)) ∧ w = w' :=
  (Try.bits_TrailingZeros8 (u : Int) w (by omega) (by omega)).mono fun _ _ ⟨he, hw⟩ => ⟨by rw [he, Int.toNat_natCast], hw.symm⟩
set_option maxHeartbeats 1000000 in
set_option maxRecDepth 100000 in
theorem rewritable_any (t : Tab) (qt : TabP) (old base : Nat) (w : World) (ht : RTab w w.heap.size t qt) (ho : old < 256) (hb : ∀ u, old.testBit u = true → u < t.rw.length ∧ base < mlen t.rw u) :
    Calls Try.prog 91 #[tabV t qt, .int .u8 (old : Int), .int .i64 (base : Int)] w fun e w' => e = .returned (.bool (allOn (fun u => mat t.rw u base) old)) ∧ Below w.heap.size w w' := by
  obtain ⟨kd, sr, ds, aw, okm, rwm⟩ := t
  obtain ⟨oA, oC, rA, rC⟩ := qt
  have hr := ht.2
  dsimp only at hr hb ⊢
  obtain ⟨r, hr1, hr2⟩ := hr
  have S := (Fm.init w).box 47 [.int .i64 kd, .int .i64 sr, .int .i64 ds, .bool aw, .slice oA okm.length oC, .slice rA rwm.length rC]
  obtain ⟨W, (hW : w.alloc (.cells #[.int .i64 kd, .int .i64 sr, .int .i64 ds, .bool aw, .slice oA okm.length oC, .slice rA rwm.length rC] 47) = W), S, hWW⟩ := fm_boxE (Fm.init w) 47 [.int .i64 kd, .int .i64 sr, .int .i64 ds, .bool aw, .slice oA okm.length oC, .slice rA rwm.length rC]
  have hf := Lib.hid S.bel
  have HZ := Lib.hid (fun u h w => tz8_any u h w)
  replace hb := Lib.hid hb
  replace hr1 := Lib.hid hr1
  replace hr2 := Lib.hid hr2
  clear ht
  obtain ⟨⟨x1, g1, x10, x11, x12, x13, x14, x15, -⟩, -⟩ := S.facts
  replace S := Lib.hid S
  go_enter Try.func91, Try.ntmps91
  go_wp2
  clear hW
  go_loopw [7] (fun s7 wr => ∃ u : Nat, s7 = .int .u8 (u : Int) ∧ u < 256 ∧ (∀ i, u.testBit i = true → old.testBit i = true) ∧ allOn (fun u => mat rwm u base) old = allOn (fun u => mat rwm u base) u ∧ Drawn W wr) (fun s7 _ => (intOf s7).toNat)
  case atStart => exact ⟨old, rfl, ho, fun _ h => h, rfl, Drawn.refl _⟩
  case round =>
    obtain ⟨u, rfl, hu, hsub, heq, hdr⟩ := hrel
    replace hsub := Lib.hid hsub
    replace heq := Lib.hid heq
    have T := Lib.hid (S.out.drawn hdr)
    clear x1 g1 x10 x11 x12 x13 x14 x15
    obtain ⟨⟨x1, g1, x10, x11, x12, x13, x14, x15, -⟩, -⟩ := T.out.facts
    by_cases h0 : u = 0
    · subst h0
      have E := Lib.hid (heq.out.trans (allOn_0 _))
      go_wp2
      go_ret
      exact ⟨ret_b E.out.symm, T.out.bel⟩
    · have hz : ((u : Int) != 0) = true := by rw [bne_iff_ne]; omega
      obtain ⟨z8, zt, zlt, zb⟩ := low_bit ⟨u, hu⟩ h0
      dsimp only at z8 zt zlt zb
      have hst := Lib.hid (allOn_step (f := fun u => mat rwm u base) h0 hu)
      obtain ⟨hi1, hi2⟩ := hb.out _ (hsub.out _ zt)
      have HZ1 := Lib.hid (fun w => HZ.out u hu w)
      have hnsub : Hid (∀ i, (u &&& (u - 1)).testBit i = true → old.testBit i = true) := Lib.hid fun i hi => hsub.out i (by
        rw [Nat.testBit_and, Bool.and_eq_true] at hi; exact hi.1)
      obtain ⟨z, hzz⟩ : ∃ z, Lib.trailingZeros8 u = z := ⟨_, rfl⟩
      rw [hzz] at hi1 hi2 HZ1 hst
      obtain ⟨v, hv⟩ : ∃ v, u - 1 = v := ⟨_, rfl⟩
      have w1 : IntKind.u8.wrap ((u : Int) - 1) = (v : Int) := by rw [show (u : Int) - 1 = ((v : Nat) : Int) by omega]; exact back8 (by omega)
      have a1 := bits_and8 (a := u) (b := v) hu (by omega)
      rw [hv] at zlt hst hnsub
      obtain ⟨x, hx⟩ : ∃ x, u &&& v = x := ⟨_, rfl⟩
      rw [hx] at a1 zlt hst hnsub
      have hx8 : x < 256 := by omega
      obtain ⟨b5, o5, e5, hb5, hc5⟩ := hr1.out (by omega)
      subst e5
      have y5 := (hWW.cell (p := ⟨b5, o5 + z, none⟩) hb5).trans (hc5 z hi1)
      obtain ⟨b6, o6, e6, hb6, hc6⟩ := hr2.out z hi1 (by omega)
      have y6 := (hWW.cell (p := ⟨b6, o6 + base, none⟩) hb6).trans (hc6 base hi2)
      dsimp only at y5 y6
      rw [e6] at y5
      have yy5 := (hdr.cell ⟨b5, o5 + z, none⟩).trans y5
      have yy6 := (hdr.cell ⟨b6, o6 + base, none⟩).trans y6
      have j1 : (z : Int) < (rwm.length : Int) := by omega
      have j2 : (base : Int) < (mlen rwm z : Int) := by omega
      clear hc5 hc6 e6 y5 y6 zb zt hzz hv hx z8
      cases hm : mat rwm z base with
      | false =>
        rw [hm] at yy6
        have E : Hid (allOn (fun u => mat rwm u base) old = false) := Lib.hid (heq.out.trans (hst.out.trans (by simp [hm])))
        clear hm
        go_wp2_with fail
        refine wp_region_quiet_lit (by kernel_rfl) (by kernel_rfl) ?_
        repeat (go_big_quiet_step ((go_at_call 100; exact quiet_l (HZ1.out _))))
        refine wpQuiet_nil ?_
        intro w2 hw2
        have hd2 : Drawn wr w2 := hw2
        go_wp2
        go_ret
        exact ⟨ret_b E.out.symm, T.out.bel.drawn hd2⟩
      | true =>
        rw [hm] at yy6
        have E : Hid (allOn (fun u => mat rwm u base) old = allOn (fun u => mat rwm u base) x) := Lib.hid (heq.out.trans (hst.out.trans (by simp [hm])))
        clear hm
        go_wp2_with fail
        refine wp_region_quiet_lit (by kernel_rfl) (by kernel_rfl) ?_
        repeat (go_big_quiet_step ((go_at_call 100; exact quiet_l (HZ1.out _))))
        refine wpQuiet_nil ?_
        intro w2 hw2
        have hd2 : Drawn wr w2 := hw2
        go_wp2
        go_roundw
        case rel => exact ⟨x, rfl, hx8, hnsub.out, E.out, hdr.trans hd2⟩
        case measure => simp [intOf]; omega
end Go.Proofs.Ytickckehhfdoeaa
