/-
  CONTRACT of the reference's Gcd: the round.
  Conditions: those that each theorem names.
-/
import Derived.Test.YtpoddmkimhkmoaaGreatNt7
import Derived.Deep.LoopGhost
import Derived.Deep.RegionLaw
namespace Go.Sv
open Go.RowKit
def gcdE (a b : List Int) : Int := if (Proofs.YtpoddmkimhkmoaaGreat.vN a && Proofs.YtpoddmkimhkmoaaGreat.vN b) = true then 0 else 1
def gcdV (a b : List Int) : List Int := if (Proofs.YtpoddmkimhkmoaaGreat.vN a && Proofs.YtpoddmkimhkmoaaGreat.vN b) = true then lim (Nat.gcd (vl a) (vl b)) else []
end Go.Sv
namespace Go.Proofs.YtpoddmkimhkmoaaGreat
open Go.RowKit Go.Sv
theorem rlm_set {w' : World} {l : List Int} {q : LmP} {b : Nat} (h : RLm w' w'.heap.size l q) (hf : 0 < l.length → ∀ g, q.a = some g → g.block ≠ b) (v : Value) : RLm (w'.setCell ⟨b, 0, none⟩ v) (w'.setCell ⟨b, 0, none⟩ v).heap.size l q := by
  refine ⟨fun hn => ?_, h.nil, h.cap, h.cmx⟩
  obtain ⟨g, off, e, hg, hc⟩ := h.arr hn
  refine ⟨g, off, e, by simpa using hg, fun k hk => ?_⟩
  rw [← hc k hk]
  refine World.cell?_setCell_other _ _ _ _ fun e2 => ?_
  have h3 := hf hn _ e
  injection e2 with e3
  exact h3 e3.symm
/-- the box holds v, and may be written -/
theorem ResB.put {W : World} {b : Nat} {v v' : Value} (h : ResB W b v) : ResB (W.setCell ⟨b, 0, none⟩ v') b v' :=
  ⟨by simpa using h.z, World.cell?_setCell_same _ _ _ h.y, by rw [World.frozen?_setCell]; exact h.f⟩
theorem ResB.off {W : World} {b b' : Nat} {v v' : Value} (h : ResB W b v) (hb : b ≠ b') : ResB (W.setCell ⟨b', 0, none⟩ v') b v :=
  ⟨by simpa using h.z, (World.cell?_setCell_other _ _ _ _ (fun e => hb (by injection e with e; exact e.symm))).trans h.y, by rw [World.frozen?_setCell]; exact h.f⟩
structure GcI (w : World) (G g1 g2 : Nat) (la lb : List Int) (q r : LmP) (wr : World) : Prop where
  ma : Lim la
  mb : Lim lb
  va : vN la = true
  vb : vN lb = true
  gc : Nat.gcd (vl la) (vl lb) = G
  b1 : ResB wr g1 (rowV la q)
  b2 : ResB wr g2 (rowV lb r)
  ra : RLm wr wr.heap.size la q
  rb : RLm wr wr.heap.size lb r
  na : 0 < la.length → ∀ g, q.a = some g → g.block ≠ g1 ∧ g.block ≠ g2
  nb : 0 < lb.length → ∀ g, r.a = some g → g.block ≠ g1 ∧ g.block ≠ g2
  bel : Below w.heap.size w wr
theorem GcI.drawn {w wr w' : World} {G g1 g2 : Nat} {la lb : List Int} {q r : LmP} (h : GcI w G g1 g2 la lb q r wr) (hd : Drawn wr w') : GcI w G g1 g2 la lb q r w' :=
  ⟨h.ma, h.mb, h.va, h.vb, h.gc, h.b1.drawn hd, h.b2.drawn hd, h.ra.to hd.below, h.rb.to hd.below, h.na, h.nb, h.bel.drawn hd⟩
theorem vN_mod {a b : List Int} (hb : Lim b) (vb : vN b = true) (h0 : 0 < vl b) : vN (lim (vl a % vl b)) = true := by
  obtain ⟨nb, cb⟩ := vN_can vb
  refine vN_lim (lim_len_le.2 ?_)
  have h2 : (lim (vl b)).length = b.length := by rw [← lim_vl hb cb]
  have h3 := (lim_len_le (N := vl b) (k := 128)).1 (by omega)
  have := Nat.mod_lt (vl a) h0
  omega
theorem GcI.go {w wr w5 w6 : World} {G g1 g2 : Nat} {la lb : List Int} {q r r' : LmP} (h : GcI w G g1 g2 la lb q r wr) (h0 : 0 < vl lb) (hne : g1 ≠ g2) (hw1 : w.heap.size ≤ g1) (hw2 : w.heap.size ≤ g2)
    (h5 : Below wr.heap.size wr w5) (hr : RLm w5 w5.heap.size (lim (vl la % vl lb)) r') (hf : Fr wr.heap.size r') (h6 : Below w5.heap.size w5 w6) :
    GcI w G g1 g2 lb (lim (vl la % vl lb)) r r' ((w6.setCell ⟨g1, 0, none⟩ (rowV lb r)).setCell ⟨g2, 0, none⟩ (rowV (lim (vl la % vl lb)) r')) ∧
    GcI w G g1 g2 lb (lim (vl la % vl lb)) r r' ((w6.setCell ⟨g2, 0, none⟩ (rowV (lim (vl la % vl lb)) r')).setCell ⟨g1, 0, none⟩ (rowV lb r)) := by
  have b56 := h5.trans (h6.mono h5.size)
  have x1 := h.b1.to b56
  have x2 := h.b2.to b56
  have z1 := h.b1.z
  have z2 := h.b2.z
  have rb := h.rb.to b56
  have rr := hr.to h6
  have n1 : 0 < (lim (vl la % vl lb)).length → ∀ g, r'.a = some g → g.block ≠ g1 ∧ g.block ≠ g2 := fun _ g hg => by have := hf g hg; omega
  have nb := h.nb
  have hbel := below_of h.bel h.bel.size b56
  have hgc : Nat.gcd (vl lb) (vl (lim (vl la % vl lb))) = G := by rw [vl_lim, ← h.gc]; exact (Nat.gcd_comm _ _).trans ((Nat.gcd_rec (vl lb) (vl la)).symm.trans (Nat.gcd_comm _ _))
  exact ⟨⟨h.mb, lim_lim _, h.vb, vN_mod h.mb h.vb h0, hgc, (x1.put).off hne, (x2.off (fun e => hne e.symm)).put, rlm_set (rlm_set rb (fun c g hg => (nb c g hg).1) _) (fun c g hg => (nb c g hg).2) _,
      rlm_set (rlm_set rr (fun c g hg => (n1 c g hg).1) _) (fun c g hg => (n1 c g hg).2) _, nb, n1, (hbel.setCell hw1 _).setCell hw2 _⟩,
    ⟨h.mb, lim_lim _, h.vb, vN_mod h.mb h.vb h0, hgc, (x1.off hne).put, (x2.put).off (fun e => hne e.symm), rlm_set (rlm_set rb (fun c g hg => (nb c g hg).2) _) (fun c g hg => (nb c g hg).1) _,
      rlm_set (rlm_set rr (fun c g hg => (n1 c g hg).2) _) (fun c g hg => (n1 c g hg).1) _, nb, n1, (hbel.setCell hw2 _).setCell hw1 _⟩⟩
end Go.Proofs.YtpoddmkimhkmoaaGreat

namespace Go.Proofs.YtpoddmkimhkmoaaGreat
open Go.RowKit Go.Sv

set_option maxRecDepth 100000 in
theorem rgcd_no (a b : List Int) (q r : LmP) (w : World) (h : RLm w w.heap.size a q) (h' : RLm w w.heap.size b r) (hv : (vN a && vN b) = false) :
    Calls Tryz.prog 54 #[natV a q, natV b r] w (Ret (NRes2 w [] 1)) := by
  have hbx : Hid (∀ o1 o2 o3 : Obj, Below w.heap.size w (((w.alloc o1).alloc o2).alloc o3)) := Lib.hid fun o1 o2 o3 => (((Below.refl _ _).alloc (Nat.le_refl _) o1).alloc (by simp) o2).alloc (by simp; omega) o3
  have HVa := Lib.hid (fun w' (hw : Below w.heap.size w w') => rvalid_any a q w' (h.to hw))
  have HVb := Lib.hid (fun w' (hw : Below w.heap.size w w') => rvalid_any b r w' (h'.to hw))
  obtain ⟨qa, qc⟩ := q
  obtain ⟨ra, rc⟩ := r
  have hB2 : Hid (Box1 (((w.alloc (.cells #[.slice qa a.length qc] 24)).alloc (.cells #[.slice ra b.length rc] 24)).alloc (.cells #[.slice none 0 0] 24)) (w.heap.size + 1) (.slice ra b.length rc)) :=
    Lib.hid (by have := Box1.new (w := w.alloc (.cells #[.slice qa a.length qc] 24)) (e := 24) (v := .slice ra b.length rc); rw [World.size_alloc] at this; exact this.to ((Below.refl _ _).alloc (Nat.le_refl _) _))
  have hRB : Hid (ResB (((w.alloc (.cells #[.slice qa a.length qc] 24)).alloc (.cells #[.slice ra b.length rc] 24)).alloc (.cells #[.slice none 0 0] 24)) (w.heap.size + 1 + 1) (.slice none 0 0)) :=
    Lib.hid (ResB.new' (by simp))
  clear h h'
  cases va : vN a
  · rw [va] at HVa
    clear hv va
    go_enter Tryz.func54, Tryz.ntmps54
    go_wp2_with fail
    refine (HVa.out _ (hbx.out _ _ _)).mono ?_
    rintro e w1 ⟨rfl, hb1⟩
    obtain ⟨s0, s1, s2⟩ := hRB.out.to hb1
    have hb := Lib.hid ((below_of (hbx.out _ _ _) (hbx.out _ _ _).size hb1).setCell (p := ⟨w.heap.size + 1 + 1, 0, none⟩) (by show w.heap.size ≤ w.heap.size + 1 + 1; omega) (.slice none 0 0))
    clear hb1
    go_wp2
    refine bodyPost_ret (v := .tuple #[.agg #[.slice none 0 0], .int .i64 1]) (by simp [results, Tryz.results54, go_sem, s1]) rfl ?_
    exact Ret.mk (NRes2.none_ hb.out)
  · have vb : vN b = false := by rw [va] at hv; simpa using hv
    rw [va] at HVa
    rw [vb] at HVb
    clear hv va vb
    go_enter Tryz.func54, Tryz.ntmps54
    go_wp2_with fail
    refine (HVa.out _ (hbx.out _ _ _)).mono ?_
    rintro e w1 ⟨rfl, hb1⟩
    have XR := Lib.hid (hRB.out.to hb1)
    obtain ⟨z1, y1⟩ := hB2.out.to hb1
    have hbw := Lib.hid (below_of (hbx.out _ _ _) (hbx.out _ _ _).size hb1)
    clear hb1
    go_wp2_with fail
    refine (HVb.out _ hbw.out).mono ?_
    rintro e w2 ⟨rfl, hb2⟩
    obtain ⟨s0, s1, s2⟩ := XR.out.to hb2
    have hb := Lib.hid ((below_of hbw.out hbw.out.size hb2).setCell (p := ⟨w.heap.size + 1 + 1, 0, none⟩) (by show w.heap.size ≤ w.heap.size + 1 + 1; omega) (.slice none 0 0))
    clear hb2 z1 y1
    go_wp2
    refine bodyPost_ret (v := .tuple #[.agg #[.slice none 0 0], .int .i64 1]) (by simp [results, Tryz.results54, go_sem, s1]) rfl ?_
    exact Ret.mk (NRes2.none_ hb.out)

set_option maxHeartbeats 1000000 in
set_option maxRecDepth 100000 in
theorem rgcd_ok (a b : List Int) (q r : LmP) (w : World) (h : RLm w w.heap.size a q) (h' : RLm w w.heap.size b r) (ha : Lim a) (hb : Lim b) (va : vN a = true) (vb : vN b = true) :
    Calls Tryz.prog 54 #[natV a q, natV b r] w (Ret (NRes2 w (lim (Nat.gcd (vl a) (vl b))) 0)) := by
  have hbx : Hid (∀ o1 o2 o3 : Obj, Below w.heap.size w (((w.alloc o1).alloc o2).alloc o3)) := Lib.hid fun o1 o2 o3 => (((Below.refl _ _).alloc (Nat.le_refl _) o1).alloc (by simp) o2).alloc (by simp; omega) o3
  have HVa := Lib.hid (fun w' (hw : Below w.heap.size w w') => rvalid_any a q w' (h.to hw))
  have HVb := Lib.hid (fun w' (hw : Below w.heap.size w w') => rvalid_any b r w' (h'.to hw))
  rw [va] at HVa
  rw [vb] at HVb
  have ba : 0 < a.length → ∀ g, q.a = some g → g.block ≠ w.heap.size ∧ g.block ≠ w.heap.size + 1 := fun c g hg => by
    obtain ⟨g', off, e, hlt, _⟩ := h.arr c
    rw [hg] at e; injection e with e; subst e; dsimp only; omega
  have bb : 0 < b.length → ∀ g, r.a = some g → g.block ≠ w.heap.size ∧ g.block ≠ w.heap.size + 1 := fun c g hg => by
    obtain ⟨g', off, e, hlt, _⟩ := h'.arr c
    rw [hg] at e; injection e with e; subst e; dsimp only; omega
  obtain ⟨qa, qc⟩ := q
  obtain ⟨ra, rc⟩ := r
  have hR1 : Hid (ResB (((w.alloc (.cells #[.slice qa a.length qc] 24)).alloc (.cells #[.slice ra b.length rc] 24)).alloc (.cells #[.slice none 0 0] 24)) w.heap.size (.slice qa a.length qc)) :=
    Lib.hid ((ResB.new.to ((Below.refl _ _).alloc (Nat.le_refl _) _)).to ((Below.refl _ _).alloc (Nat.le_refl _) _))
  have hR2 : Hid (ResB (((w.alloc (.cells #[.slice qa a.length qc] 24)).alloc (.cells #[.slice ra b.length rc] 24)).alloc (.cells #[.slice none 0 0] 24)) (w.heap.size + 1) (.slice ra b.length rc)) :=
    Lib.hid ((ResB.new' (by simp)).to ((Below.refl _ _).alloc (Nat.le_refl _) _))
  have hRB : Hid (ResB (((w.alloc (.cells #[.slice qa a.length qc] 24)).alloc (.cells #[.slice ra b.length rc] 24)).alloc (.cells #[.slice none 0 0] 24)) (w.heap.size + 1 + 1) (.slice none 0 0)) :=
    Lib.hid (ResB.new' (by simp))
  obtain ⟨G, hG⟩ : ∃ G, Nat.gcd (vl a) (vl b) = G := ⟨_, rfl⟩
  rw [hG]
  have I0 := Lib.hid (fun w' (hw : Below (((w.alloc (.cells #[.slice qa a.length qc] 24)).alloc (.cells #[.slice ra b.length rc] 24)).alloc (.cells #[.slice none 0 0] 24)).heap.size (((w.alloc (.cells #[.slice qa a.length qc] 24)).alloc (.cells #[.slice ra b.length rc] 24)).alloc (.cells #[.slice none 0 0] 24)) w') (hc : Below w.heap.size w w') => (⟨ha, hb, va, vb, hG, hR1.out.to hw, hR2.out.to hw, h.to hc, h'.to hc, ba, bb, hc⟩ : GcI w G w.heap.size (w.heap.size + 1) a b ⟨qa, qc⟩ ⟨ra, rc⟩ w'))
  clear h h' ha hb va vb hG hR1 ba bb
  go_enter Tryz.func54, Tryz.ntmps54
  go_wp2_with fail
  refine (HVa.out _ (hbx.out _ _ _)).mono ?_
  rintro e w1 ⟨rfl, hb1⟩
  obtain ⟨z1, y1⟩ := (hR2.out.to hb1)
  have hbw := Lib.hid (below_of (hbx.out _ _ _) (hbx.out _ _ _).size hb1)
  have hb1' := Lib.hid hb1
  clear hb1
  go_wp2_with fail
  refine (HVb.out _ hbw.out).mono ?_
  rintro e w2 ⟨rfl, hb2⟩
  have b12 := hb1'.out.trans (hb2.mono hb1'.out.size)
  have I1 := Lib.hid (I0.out w2 b12 (below_of hbw.out hbw.out.size hb2))
  have XR := Lib.hid (hRB.out.to b12)
  clear hb2 b12 hb1' hbw z1 y1 I0 hRB hR2 hbx HVa HVb
  go_wp2
  obtain ⟨K0, hK0⟩ : ∃ K0, vl b = K0 := ⟨_, rfl⟩
  replace hK0 := Lib.hid hK0
  go_loopg [6, 7, 8] K0 (fun k _ _ _ wr => ∃ (la lb : List Int) (q r : LmP), vl lb = k ∧ GcI w G w.heap.size (w.heap.size + 1) la lb q r wr ∧ ResB wr (w.heap.size + 1 + 1) (.slice none 0 0))
  case atStart => exact ⟨_, _, _, _, hK0.out, I1.out, XR.out⟩
  case round =>
    clear I1 XR hK0
    obtain ⟨la, lb, ⟨qa', qc'⟩, ⟨ra', rc'⟩, hk, I, XR⟩ := hrel
    replace hk := Lib.hid hk
    have n128 := (vN_can I.va).1
    have m128 := (vN_can I.vb).1
    obtain ⟨z0, y0, f0⟩ := I.b1
    obtain ⟨z1, y1, f1⟩ := I.b2
    dsimp only [rowV] at y0 y1
    by_cases hl : lb.length = 0
    · have d0 : decide ((0 : Int) < (lb.length : Int)) = false := by rw [decide_eq_false_iff_not]; omega
      have d0' : decide (0 < lb.length) = false := by rw [decide_eq_false_iff_not]; omega
      have HT := rtrim_any la ⟨qa', qc'⟩ wr I.ra (by omega)
      have hg : norm la = lim G := norm_lim I.ma (by
        have e := I.gc
        rw [List.eq_nil_of_length_eq_zero hl, show vl [] = 0 from rfl, Nat.gcd_zero_right] at e
        rw [← e]; exact vl_vt I.ma)
      rw [hg] at HT
      dsimp only at HT
      replace HT := Lib.hid HT
      have hbr := Lib.hid I.bel
      replace hl := Lib.hid hl
      obtain ⟨m, hm⟩ : ∃ m, lim G = m := ⟨_, rfl⟩
      rw [hm] at HT
      replace hm := Lib.hid hm
      replace XR := Lib.hid XR
      clear I hg hk
      go_wp2_with fail
      refine HT.out.mono ?_
      rintro e w3 ⟨_, rfl, q5, rfl, hr5, hf5, hb5⟩
      have hR := Lib.hid (nres2_put (E := 0) hbr.out (show w.heap.size ≤ w.heap.size + 1 + 1 by omega) XR.out.z hr5 hf5 hb5)
      obtain ⟨s0, s1, s2⟩ := XR.out.to hb5
      clear hr5 hf5 hb5
      go_wp2
      refine bodyPost_ret (v := .tuple #[natV m q5, .int .i64 0]) (by simp [results, Tryz.results54, go_sem, s1]) rfl ?_
      rw [hm.out]
      exact Ret.mk hR.out
    · have d0 : decide ((0 : Int) < (lb.length : Int)) = true := decide_eq_true (by omega)
      have d0' : decide (0 < lb.length) = true := decide_eq_true (by omega)
      have h0 : 0 < vl lb := by
        rcases Nat.eq_zero_or_pos (vl lb) with c | c
        · exfalso
          have e := lim_vl I.mb (vN_can I.vb).2
          rw [c, lim_zero] at e
          exact hl (by rw [e]; rfl)
        · exact c
      have HD := Lib.hid (rdiv_ok la lb ⟨qa', qc'⟩ ⟨ra', rc'⟩ wr I.ra I.rb I.ma I.mb I.va I.vb h0)
      have hlt := Lib.hid (Nat.mod_lt (vl la) h0)
      replace h0 := Lib.hid h0
      replace hl := Lib.hid hl
      have S := Lib.hid (fun w5 w6 r' => I.go (w5 := w5) (w6 := w6) (r' := r') h0.out (by omega) (Nat.le_refl _) (by omega))
      have YB1 := Lib.hid I.b1
      have YB2 := Lib.hid I.b2
      obtain ⟨m, hm⟩ : ∃ m, lim (vl la % vl lb) = m := ⟨_, rfl⟩
      rw [hm] at HD S
      have hm' : Hid (vl m = vl la % vl lb) := Lib.hid (by rw [← hm, vl_lim])
      replace hm := Lib.hid hm
      replace XR := Lib.hid XR
      have hne : w.heap.size ≠ w.heap.size + 1 := by omega
      have hne' : w.heap.size + 1 ≠ w.heap.size := by omega
      clear I n128
      go_wp2_with fail
      refine HD.out.mono ?_
      rintro e w5 ⟨_, rfl, q5, r5, rfl, hq5, hr5, hfq, hfr, hb5⟩
      clear hq5 hfq z0 y0 f0 z1 y1 f1
      have hW : Hid (Below w5.heap.size w5 ((w5.alloc (.cells #[.slice q5.a (lim (vl la / vl lb)).length q5.c] 24)).alloc (.cells #[.slice r5.a m.length r5.c] 24))) := Lib.hid (((Below.refl _ _).alloc (Nat.le_refl _) _).alloc (by simp) _)
      have b5W := hb5.trans (hW.out.mono hb5.size)
      have S' := Lib.hid (((S.out w5 _ r5 hb5 hr5 hfr hW.out).1).drawn (Drawn.of 1))
      have XR' := Lib.hid ((((XR.out.to b5W).off (b' := w.heap.size) (v' := .slice ra' lb.length rc') (by omega)).off (b' := w.heap.size + 1) (v' := .slice r5.a m.length r5.c) (by omega)).drawn (Drawn.of 1))
      obtain ⟨z0, y0, f0⟩ := YB1.out.to b5W
      obtain ⟨z1, y1, f1⟩ := YB2.out.to b5W
      have X7 := ResB.new' (w := w5.alloc (.cells #[.slice q5.a (lim (vl la / vl lb)).length q5.c] 24)) (e := 24) (v := .slice r5.a m.length r5.c) (b := w5.heap.size + 1) (by simp)
      obtain ⟨z2, y2, f2⟩ := X7
      dsimp only [rowV] at y0 y1
      clear hr5 hfr b5W
      have hz5 := hb5.size
      have zz2 : w.heap.size ≠ w5.heap.size + 1 := by have := YB1.out.z; omega
      have zz3 : w.heap.size + 1 ≠ w5.heap.size + 1 := by have := YB2.out.z; omega
      clear hz5 hb5
      go_wp2
      go_region_law ((fail))
      all_goals
        go_wp2
        go_roundg (vl m)
        case measure => have h1 := hk.out; have h2 := hlt.out; have h3 := hm'.out; omega
        case rel => exact ⟨lb, m, ⟨ra', rc'⟩, r5, rfl, S'.out, XR'.out⟩
theorem rgcd_any (a b : List Int) (q r : LmP) (w : World) (h : RLm w w.heap.size a q) (h' : RLm w w.heap.size b r) (ha : Lim a) (hb : Lim b) :
    Calls Tryz.prog 54 #[natV a q, natV b r] w (Ret (NRes2 w (gcdV a b) (gcdE a b))) := by
  unfold gcdV gcdE
  by_cases hv : (vN a && vN b) = true
  · obtain ⟨va, vb⟩ := (Bool.and_eq_true _ _).mp hv
    rw [if_pos hv, if_pos hv]
    exact rgcd_ok a b q r w h h' ha hb va vb
  · rw [if_neg hv, if_neg hv]
    exact rgcd_no a b q r w h h' (by simpa using hv)
end Go.Proofs.YtpoddmkimhkmoaaGreat

namespace Go.Proofs.YtpoddmkimhkmoaaGreat
open Go.RowKit Go.Sv

theorem pair_new {w : World} {v1 v2 : Value} {e : TypeId} : w.heap.size ≤ w.heap.size ∧ w.heap.size ≤ w.heap.size + 1 ∧ w.heap.size ≠ w.heap.size + 1 ∧ ResB ((w.alloc (.cells #[v1] e)).alloc (.cells #[v2] e)).drew w.heap.size v1 ∧ ResB ((w.alloc (.cells #[v1] e)).alloc (.cells #[v2] e)).drew (w.heap.size + 1) v2 ∧ Below w.heap.size w ((w.alloc (.cells #[v1] e)).alloc (.cells #[v2] e)).drew :=
  ⟨Nat.le_refl _, by omega, by omega, (ResB.new.to ((Below.refl _ _).alloc (Nat.le_refl _) _)).drawn (Drawn.of 1), (ResB.new' (by simp)).drawn (Drawn.of 1), ((((Below.refl _ _).alloc (Nat.le_refl _) _).alloc (by simp) _).drawn (Drawn.of 1))⟩
set_option maxRecDepth 100000 in
theorem gcd_no (a b : List Int) (q r : LmP) (w : World) (h : RLm w w.heap.size a q) (h' : RLm w w.heap.size b r) (hv : (vN a && vN b) = false) :
    Calls Tryz.prog 89 #[natV a q, natV b r] w (Ret (NRes2 w [] 1)) := by
  have hbx : Hid (∀ o1 o2 o3 : Obj, Below w.heap.size w (((w.alloc o1).alloc o2).alloc o3)) := Lib.hid fun o1 o2 o3 => (((Below.refl _ _).alloc (Nat.le_refl _) o1).alloc (by simp) o2).alloc (by simp; omega) o3
  have HV := Lib.hid (fun w' (hw : Below w.heap.size w w') => valid2_any a b q r w' (h.to hw) (h'.to hw))
  obtain ⟨qa, qc⟩ := q
  obtain ⟨ra, rc⟩ := r
  have hB1 : Hid (Box1 (((w.alloc (.cells #[.slice qa a.length qc] 24)).alloc (.cells #[.slice ra b.length rc] 24)).alloc (.cells #[.slice none 0 0] 24)) w.heap.size (.slice qa a.length qc)) :=
    Lib.hid ((Box1.new.to ((Below.refl _ _).alloc (Nat.le_refl _) _)).to ((Below.refl _ _).alloc (Nat.le_refl _) _))
  have hR2 : Hid (ResB (((w.alloc (.cells #[.slice qa a.length qc] 24)).alloc (.cells #[.slice ra b.length rc] 24)).alloc (.cells #[.slice none 0 0] 24)) (w.heap.size + 1) (.slice ra b.length rc)) :=
    Lib.hid ((ResB.new' (by simp)).to ((Below.refl _ _).alloc (Nat.le_refl _) _))
  have hRB : Hid (ResB (((w.alloc (.cells #[.slice qa a.length qc] 24)).alloc (.cells #[.slice ra b.length rc] 24)).alloc (.cells #[.slice none 0 0] 24)) (w.heap.size + 1 + 1) (.slice none 0 0)) :=
    Lib.hid (ResB.new' (by simp))
  rw [hv] at HV
  clear h h' hv
  go_enter Tryz.func89, Tryz.ntmps89
  go_wp2_with fail
  refine (HV.out _ (hbx.out _ _ _)).mono ?_
  rintro e w1 ⟨rfl, hb1⟩
  have X1 := Lib.hid (hB1.out.to hb1)
  have X2 := Lib.hid (hR2.out.to hb1)
  have XR := Lib.hid (hRB.out.to hb1)
  have hbw := Lib.hid (below_of (hbx.out _ _ _) (hbx.out _ _ _).size hb1)
  clear hb1
  clear X1 X2
  obtain ⟨s0, s1, s2⟩ := XR.out
  have hb := Lib.hid (hbw.out.setCell (p := ⟨w.heap.size + 1 + 1, 0, none⟩) (by show w.heap.size ≤ w.heap.size + 1 + 1; omega) (.slice none 0 0))
  go_wp2
  refine bodyPost_ret (v := .tuple #[.agg #[.slice none 0 0], .int .i64 1]) (by simp [results, Tryz.results89, go_sem, s1]) rfl ?_
  exact Ret.mk (NRes2.none_ hb.out)

set_option maxHeartbeats 1000000 in
set_option maxRecDepth 100000 in
theorem gcd_ok (a b : List Int) (q r : LmP) (w : World) (h : RLm w w.heap.size a q) (h' : RLm w w.heap.size b r) (ha : Lim a) (hb : Lim b) (hv : (vN a && vN b) = true) :
    Calls Tryz.prog 89 #[natV a q, natV b r] w (Ret (NRes2 w (lim (Nat.gcd (vl a) (vl b))) 0)) := by
  obtain ⟨va, vb⟩ := (Bool.and_eq_true _ _).mp hv
  have hbx : Hid (∀ o1 o2 o3 : Obj, Below w.heap.size w (((w.alloc o1).alloc o2).alloc o3)) := Lib.hid fun o1 o2 o3 => (((Below.refl _ _).alloc (Nat.le_refl _) o1).alloc (by simp) o2).alloc (by simp; omega) o3
  have HV := Lib.hid (fun w' (hw : Below w.heap.size w w') => valid2_any a b q r w' (h.to hw) (h'.to hw))
  rw [hv] at HV
  obtain ⟨qa, qc⟩ := q
  obtain ⟨ra, rc⟩ := r
  have hB1 : Hid (Box1 (((w.alloc (.cells #[.slice qa a.length qc] 24)).alloc (.cells #[.slice ra b.length rc] 24)).alloc (.cells #[.slice none 0 0] 24)) w.heap.size (.slice qa a.length qc)) :=
    Lib.hid ((Box1.new.to ((Below.refl _ _).alloc (Nat.le_refl _) _)).to ((Below.refl _ _).alloc (Nat.le_refl _) _))
  have hR2 : Hid (ResB (((w.alloc (.cells #[.slice qa a.length qc] 24)).alloc (.cells #[.slice ra b.length rc] 24)).alloc (.cells #[.slice none 0 0] 24)) (w.heap.size + 1) (.slice ra b.length rc)) :=
    Lib.hid ((ResB.new' (by simp)).to ((Below.refl _ _).alloc (Nat.le_refl _) _))
  have hRB : Hid (ResB (((w.alloc (.cells #[.slice qa a.length qc] 24)).alloc (.cells #[.slice ra b.length rc] 24)).alloc (.cells #[.slice none 0 0] 24)) (w.heap.size + 1 + 1) (.slice none 0 0)) :=
    Lib.hid (ResB.new' (by simp))
  obtain ⟨G, hG⟩ : ∃ G, Nat.gcd (vl a) (vl b) = G := ⟨_, rfl⟩
  rw [hG]
  have I0 := Lib.hid (fun w' (hc : Below w.heap.size w w') => And.intro (h.to hc) (h'.to hc))
  have hA : 0 < a.length → ∀ g, qa = some g → g.block < w.heap.size := fun c g hg => by
    obtain ⟨g', off, e, hlt, _⟩ := h.arr c
    rw [hg] at e; injection e with e; subst e; exact hlt
  have hB : 0 < b.length → ∀ g, ra = some g → g.block < w.heap.size := fun c g hg => by
    obtain ⟨g', off, e, hlt, _⟩ := h'.arr c
    rw [hg] at e; injection e with e; subst e; exact hlt
  have hAB := Lib.hid (And.intro hA hB)
  have I2 := Lib.hid (⟨ha, hb, va, vb, hG⟩ : Lim a ∧ Lim b ∧ vN a = true ∧ vN b = true ∧ Nat.gcd (vl a) (vl b) = G)
  clear h h' ha hb va vb hG hv hA hB
  go_enter Tryz.func89, Tryz.ntmps89
  go_wp2_with fail
  refine (HV.out _ (hbx.out _ _ _)).mono ?_
  rintro e w1 ⟨rfl, hb1⟩
  have X1 := Lib.hid (hB1.out.to hb1)
  have X2 := Lib.hid (hR2.out.to hb1)
  have XR := Lib.hid (hRB.out.to hb1)
  have hbw := Lib.hid (below_of (hbx.out _ _ _) (hbx.out _ _ _).size hb1)
  clear hb1
  obtain ⟨z0, y0⟩ := X1.out
  obtain ⟨z1, y1, f1⟩ := X2.out
  clear X1 X2 HV hbx
  go_upto_region 3 with fail
  go_cut [6, 7] (fun s6 s7 wx => ∃ g1 g2 : Nat, s6 = .pointer (some ⟨g1, 0, none⟩) ∧ s7 = .pointer (some ⟨g2, 0, none⟩) ∧ w1.heap.size ≤ g1 ∧ w1.heap.size ≤ g2 ∧ g1 ≠ g2 ∧ ResB wx g1 (.slice qa a.length qc) ∧ ResB wx g2 (.slice ra b.length rc) ∧ Below w1.heap.size w1 wx)
  case first =>
    have P1 := Lib.hid (pair_new (w := w1) (v1 := .slice qa a.length qc) (v2 := .slice ra b.length rc) (e := 24))
    have P2 := Lib.hid (pair_new (w := w1) (v1 := .slice ra b.length rc) (v2 := .slice qa a.length qc) (e := 24))
    go_region_law ((fail))
    all_goals (go_wp2_with fail; go_meet)
    all_goals
      first
        | exact ⟨_, _, rfl, rfl, P1.out⟩
        | (obtain ⟨p1, p2, p3, p4, p5, p6⟩ := P2.out; exact ⟨_, _, rfl, rfl, p2, p1, fun e => p3 e.symm, p5, p4, p6⟩)
  case rest =>
    rename World => w2
    obtain ⟨g1, g2, rfl, rfl, l1, l2, hne, b1, b2, hbel⟩ := hcut
    clear z0 y0 z1 y1 f1
    have hs1 := hbw.out.size
    have hrs := XR.out.z
    obtain ⟨m1, m2, m3, m4, m5⟩ := I2.out
    obtain ⟨ra1, rb1⟩ := I0.out w2 (below_of hbw.out hbw.out.size hbel)
    have I1 := Lib.hid (⟨m1, m2, m3, m4, m5, b1, b2, ra1, rb1, fun c g hg => by have := hAB.out.1 c g hg; omega, fun c g hg => by have := hAB.out.2 c g hg; omega, below_of hbw.out hbw.out.size hbel⟩ : GcI w G g1 g2 a b ⟨qa, qc⟩ ⟨ra, rc⟩ w2)
    have XR1 := Lib.hid (XR.out.to hbel)
    have w1g : w.heap.size ≤ g1 := Nat.le_trans hs1 l1
    have w2g : w.heap.size ≤ g2 := Nat.le_trans hs1 l2
    have n1 : w.heap.size + 1 + 1 ≠ g1 := by omega
    have n2 : w.heap.size + 1 + 1 ≠ g2 := by omega
    obtain ⟨K0, hK0⟩ : ∃ K0, vl b = K0 := ⟨_, rfl⟩
    replace hK0 := Lib.hid hK0
    clear m1 m2 m3 m4 m5 ra1 rb1 b1 b2 hbel I2 I0 hAB XR hB1 hR2 hRB
    go_wp2
    go_loopg [8, 9, 10] K0 (fun k _ _ _ wr => ∃ (la lb : List Int) (q r : LmP), vl lb = k ∧ GcI w G g1 g2 la lb q r wr ∧ ResB wr (w.heap.size + 1 + 1) (.slice none 0 0))
    case atStart => exact ⟨_, _, _, _, hK0.out, I1.out, XR1.out⟩
    case round =>
      clear I1 XR1 hK0
      obtain ⟨la, lb, ⟨qa', qc'⟩, ⟨ra', rc'⟩, hk, I, XR⟩ := hrel
      replace hk := Lib.hid hk
      have n128 := (vN_can I.va).1
      have m128 := (vN_can I.vb).1
      obtain ⟨z0, y0, f0⟩ := I.b1
      obtain ⟨z1, y1, f1⟩ := I.b2
      dsimp only [rowV] at y0 y1
      by_cases hl : lb.length = 0
      · have d0 : decide ((0 : Int) < (lb.length : Int)) = false := by rw [decide_eq_false_iff_not]; omega
        have d0' : decide (0 < lb.length) = false := by rw [decide_eq_false_iff_not]; omega
        have HT := trim_any la ⟨qa', qc'⟩ wr I.ra (by omega)
        have hg : norm la = lim G := norm_lim I.ma (by
          have e := I.gc
          rw [List.eq_nil_of_length_eq_zero hl, show vl [] = 0 from rfl, Nat.gcd_zero_right] at e
          rw [← e]; exact vl_vt I.ma)
        rw [hg] at HT
        dsimp only at HT
        replace HT := Lib.hid HT
        have hbr := Lib.hid I.bel
        replace hl := Lib.hid hl
        obtain ⟨m, hm⟩ : ∃ m, lim G = m := ⟨_, rfl⟩
        rw [hm] at HT
        replace hm := Lib.hid hm
        replace XR := Lib.hid XR
        clear I hg hk
        go_wp2_with fail
        refine HT.out.mono ?_
        rintro e w3 ⟨_, rfl, q5, rfl, hr5, hf5, hb5⟩
        have hR := Lib.hid (nres2_put (E := 0) hbr.out (show w.heap.size ≤ w.heap.size + 1 + 1 by omega) XR.out.z hr5 hf5 hb5)
        obtain ⟨s0, s1, s2⟩ := XR.out.to hb5
        clear hr5 hf5 hb5
        go_wp2
        refine bodyPost_ret (v := .tuple #[natV m q5, .int .i64 0]) (by simp [results, Tryz.results89, go_sem, s1]) rfl ?_
        rw [hm.out]
        exact Ret.mk hR.out
      · have d0 : decide ((0 : Int) < (lb.length : Int)) = true := decide_eq_true (by omega)
        have d0' : decide (0 < lb.length) = true := decide_eq_true (by omega)
        have h0 : 0 < vl lb := by
          rcases Nat.eq_zero_or_pos (vl lb) with c | c
          · exfalso
            have e := lim_vl I.mb (vN_can I.vb).2
            rw [c, lim_zero] at e
            exact hl (by rw [e]; rfl)
          · exact c
        have HD := Lib.hid (div_ok la lb ⟨qa', qc'⟩ ⟨ra', rc'⟩ wr I.ra I.rb I.ma I.mb ((Bool.and_eq_true _ _).mpr ⟨I.va, I.vb⟩) h0)
        have hlt := Lib.hid (Nat.mod_lt (vl la) h0)
        replace h0 := Lib.hid h0
        replace hl := Lib.hid hl
        have S := Lib.hid (fun w5 w6 r' => I.go (w5 := w5) (w6 := w6) (r' := r') h0.out hne w1g w2g)
        have YB1 := Lib.hid I.b1
        have YB2 := Lib.hid I.b2
        obtain ⟨m, hm⟩ : ∃ m, lim (vl la % vl lb) = m := ⟨_, rfl⟩
        rw [hm] at HD S
        have hm' : Hid (vl m = vl la % vl lb) := Lib.hid (by rw [← hm, vl_lim])
        replace hm := Lib.hid hm
        replace XR := Lib.hid XR
        have hne' : g2 ≠ g1 := fun e => hne e.symm
        clear I n128
        go_wp2_with fail
        refine HD.out.mono ?_
        rintro e w5 ⟨_, rfl, q5, r5, rfl, hq5, hr5, hfq, hfr, hb5⟩
        clear hq5 hfq z0 y0 f0 z1 y1 f1
        have hW : Hid (Below w5.heap.size w5 ((w5.alloc (.cells #[.slice q5.a (lim (vl la / vl lb)).length q5.c] 24)).alloc (.cells #[.slice r5.a m.length r5.c] 24))) := Lib.hid (((Below.refl _ _).alloc (Nat.le_refl _) _).alloc (by simp) _)
        have b5W := hb5.trans (hW.out.mono hb5.size)
        have S' := Lib.hid (((S.out w5 _ r5 hb5 hr5 hfr hW.out).1).drawn (Drawn.of 1))
        have XR' := Lib.hid ((((XR.out.to b5W).off (b' := g1) (v' := .slice ra' lb.length rc') n1).off (b' := g2) (v' := .slice r5.a m.length r5.c) n2).drawn (Drawn.of 1))
        obtain ⟨z0, y0, f0⟩ := YB1.out.to b5W
        obtain ⟨z1, y1, f1⟩ := YB2.out.to b5W
        have X7 := ResB.new' (w := w5.alloc (.cells #[.slice q5.a (lim (vl la / vl lb)).length q5.c] 24)) (e := 24) (v := .slice r5.a m.length r5.c) (b := w5.heap.size + 1) (by simp)
        obtain ⟨z2, y2, f2⟩ := X7
        dsimp only [rowV] at y0 y1
        clear hr5 hfr b5W
        have hz5 := hb5.size
        have zz2 : g1 ≠ w5.heap.size + 1 := by have := YB1.out.z; omega
        have zz3 : g2 ≠ w5.heap.size + 1 := by have := YB2.out.z; omega
        clear hz5 hb5
        go_wp2
        go_region_law ((fail))
        all_goals
          go_wp2
          go_roundg (vl m)
          case measure => have h1 := hk.out; have h2 := hlt.out; have h3 := hm'.out; omega
          case rel => exact ⟨lb, m, ⟨ra', rc'⟩, r5, rfl, S'.out, XR'.out⟩

theorem gcd_any (a b : List Int) (q r : LmP) (w : World) (h : RLm w w.heap.size a q) (h' : RLm w w.heap.size b r) (ha : Lim a) (hb : Lim b) :
    Calls Tryz.prog 89 #[natV a q, natV b r] w (Ret (NRes2 w (gcdV a b) (gcdE a b))) := by
  unfold gcdV gcdE
  by_cases hv : (vN a && vN b) = true
  · rw [if_pos hv, if_pos hv]
    exact gcd_ok a b q r w h h' ha hb hv
  · rw [if_neg hv, if_neg hv]
    exact gcd_no a b q r w h h' (by simpa using hv)
end Go.Proofs.YtpoddmkimhkmoaaGreat

namespace Go.Sv
open Go.RowKit
def powV (a : List Int) (n : Int) : List Int := if Proofs.YtpoddmkimhkmoaaGreat.vN a = true ∧ 0 ≤ n then Proofs.YtpoddmkimhkmoaaGreat.cutV (vl a ^ n.toNat) else []
def powE (a : List Int) (n : Int) : Int := if Proofs.YtpoddmkimhkmoaaGreat.vN a = true then (if 0 ≤ n then Proofs.YtpoddmkimhkmoaaGreat.cutE (vl a ^ n.toNat) else 7) else 1
theorem len_mono {M N : Nat} (h : M ≤ N) (hc : 128 < (lim M).length) : 128 < (lim N).length := by
  rcases Nat.lt_or_ge 128 (lim N).length with c | c
  · exact c
  · exfalso
    have h1 := (lim_len_le (N := N) (k := 128)).1 c
    have h2 := (lim_len_le (N := M) (k := 128)).2 (by omega)
    omega
theorem pow_gt {x n M : Nat} (hx : 2 ≤ x) (hn : M ≤ n) (h : x ^ n < 2 ^ M) : False := by
  have h3 : 2 ^ n ≤ x ^ n := Nat.pow_le_pow_left hx n
  have h4 : 2 ^ M ≤ 2 ^ n := Nat.pow_le_pow_right (by decide) hn
  omega
theorem pow_big {x n : Nat} (hx : 2 ≤ x) (hn : 4096 < n) : 128 < (lim (x ^ n)).length := by
  rcases Nat.lt_or_ge 128 (lim (x ^ n)).length with c | c
  · exact c
  · exfalso
    have h1 := (lim_len_le (N := x ^ n) (k := 128)).1 c
    rw [Bp_two] at h1
    exact pow_gt (M := 32 * 128) hx (by omega) (Int.ofNat_lt.1 h1)
/-- the leading bits of n -/
theorem shr_two (n k : Nat) : n / 2 ^ k = 2 * (n / 2 ^ (k + 1)) + n / 2 ^ k % 2 := by
  rw [Nat.pow_succ, ← Nat.div_div_eq_div_mul]
  omega
theorem pow_sq {x n k : Nat} : x ^ (n / 2 ^ (k + 1)) * x ^ (n / 2 ^ (k + 1)) = x ^ (2 * (n / 2 ^ (k + 1))) := by
  rw [← Nat.pow_add]; congr 1; omega
end Go.Sv
