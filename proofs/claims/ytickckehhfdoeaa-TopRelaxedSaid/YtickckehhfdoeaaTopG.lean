/-
  CONTRACT of mix.Start at a valid problem.
  Conditions: those that each theorem names.
-/
import Derived.Test.YtickckehhfdoeaaTp2
namespace Go.Sv
open Go.RowKit
/-- a row in a box, or no row -/
def RowK' (e : TypeId) (n : Nat) (f : Nat → Value) (v : Value) (bs : List Bx) : Prop := (n = 0 ∧ v = .slice none 0 0) ∨ ∃ g c cs, v = .slice (some ⟨g, 0, none⟩) n c ∧ (⟨g, e, cs⟩ : Bx) ∈ bs ∧ cs.length = c ∧ n ≤ c ∧ c ≤ maxLen ∧ cs.take n = (List.range n).map f
theorem RowK'.mono {e : TypeId} {n : Nat} {f : Nat → Value} {v : Value} {bs bs' : List Bx} (h : RowK' e n f v bs) (hb : ∀ x ∈ bs, x ∈ bs') : RowK' e n f v bs' := by
  rcases h with h | ⟨g, c, cs, h1, h2, h3⟩
  · exact Or.inl h
  · exact Or.inr ⟨g, c, cs, h1, hb _ h2, h3⟩
theorem RowK'.key {e : TypeId} {n : Nat} {f : Nat → Value} {v : Value} {bs : List Bx} (h : RowK' e n f v bs) : ∀ g, keyV v = some g → ∃ x ∈ bs, x.b = g := by
  intro g' hg
  rcases h with ⟨_, rfl⟩ | ⟨g, c, cs, rfl, h2, _⟩
  · cases hg
  · cases n with
    | zero => cases hg
    | succ n =>
      have e : g = g' := by injection hg
      exact ⟨_, h2, e⟩
theorem RowK'.congr {e : TypeId} {n : Nat} {f f' : Nat → Value} {v : Value} {bs : List Bx} (h : RowK' e n f v bs) (hf : ∀ k, k < n → f k = f' k) : RowK' e n f' v bs := by
  rcases h with h | ⟨g, c, cs, h1, h2, h3, h4, h5, h6⟩
  · exact Or.inl h
  · refine Or.inr ⟨g, c, cs, h1, h2, h3, h4, h5, h6.trans ?_⟩
    exact List.map_congr_left fun k hk => hf k (List.mem_range.1 hk)
theorem newbox' {w W W' : World} {bs : List Bx} {rs : List Rd} (h : Fm w W bs rs) (hb : Below W.heap.size W W') {g : Nat} {t : TypeId} {cs : List Value} (hw : Whole W' g t cs.toArray) (hg : W.heap.size ≤ g) : Fm w W' (⟨g, t, cs⟩ :: bs) rs := by
  have k := h.call hb
  refine ⟨k.bel, ⟨hw, k.bx⟩, k.rd, fun x hx => ?_, fun r hr g' hg' => ⟨(k.far r hr g' hg').1, fun x hx => ?_⟩, List.Pairwise.cons (fun x hx e => ?_) k.dis⟩
  · rcases List.mem_cons.1 hx with rfl | hx
    · exact Nat.le_trans h.size hg
    · exact k.lo x hx
  · rcases List.mem_cons.1 hx with rfl | hx
    · have := (h.far r hr g' hg').1
      show g ≠ g'
      omega
    · exact (k.far r hr g' hg').2 x hx
  · have := h.b_lt hx
    have e : g = x.b := e
    omega
end Go.Sv
namespace Go.Proofs.Ytickckehhfdoeaa
open Go.RowKit Go.Sv
theorem RowK'.own {w W : World} {bs : List Bx} {rs : List Rd} (S : Fm w W bs rs) {e : TypeId} {n : Nat} {f : Nat → Value} {v : Value} (h : RowK' e n f v bs) : ∃ A c, v = .slice A n c ∧ W.ownsRow w.heap.size e 1 (.slice A n c) n (rowM n f) := by
  rcases h with ⟨rfl, rfl⟩ | ⟨g, c, cs, rfl, hm, hl, hn, hc, ht⟩
  · exact ⟨none, 0, rfl, World.ownsRow_nil _ _ _ _⟩
  · have hw := allB_at S.bx _ hm
    exact ⟨_, c, rfl, by rw [rowM_len, Nat.mul_one], Or.inr ⟨g, c, cs.toArray, rfl, S.lo _ hm, hw, hn, hc, by simpa using hl, by rw [Nat.mul_one]; exact ht⟩⟩
theorem RowK'.ne {w W : World} {bs : List Bx} {rs : List Rd} (S : Fm w W bs rs) {e t : TypeId} {n : Nat} {f : Nat → Value} {v : Value} (h : RowK' e n f v bs) {gB : Nat} {cs : List Value} (hm : (⟨gB, t, cs⟩ : Bx) ∈ bs) (he : e ≠ t) : keyV v ≠ some gB := by
  intro hk
  rcases h with ⟨_, rfl⟩ | ⟨g, c, cs', rfl, hm', _⟩
  · cases hk
  · cases n with
    | zero => cases hk
    | succ n =>
      have hk : g = gB := by injection hk
      subst hk
      have h1 : W.heap[g]? = _ := allB_at S.bx _ hm
      have h2 : W.heap[g]? = _ := allB_at S.bx _ hm'
      rw [h1] at h2
      injection h2 with h2
      injection h2 with _ h3 _
      exact he h3.symm
/-- what a call hands back that clones, as a job -/
theorem ownM_job {w0 w w' : World} {bs : List Bx} {rs : List Rd} (S : Fm w0 w bs rs) {e : TypeId} {n : Nat} {f : Nat → Value} {v : Value} (h : OwnM w e n f v w') :
    ∃ bs', Fm w0 w' bs' rs ∧ (∀ x ∈ bs, x ∈ bs') ∧ RowK' e n f v bs' ∧ ∀ x ∈ bs, keyV v ≠ some x.b := by
  obtain ⟨A, c, rfl, own, hb⟩ := h
  have k := keyV_lt own
  have hk : ∀ x ∈ bs, keyV (.slice A n c) ≠ some x.b := fun x hx e => by
    have h1 := S.b_lt hx
    have h2 := (k _ e).1
    omega
  rcases own.2 with ⟨hv, h0⟩ | ⟨g, cap, cur, hv, hB, hw, hnc, hm, hsz, ht⟩
  · exact ⟨bs, S.call hb, fun _ h => h, Or.inl ⟨h0, hv⟩, hk⟩
  · have hw : Whole w' g e cur := hw
    refine ⟨⟨g, e, cur.toList⟩ :: bs, newbox' S hb (by simpa using hw) hB, fun _ h => List.mem_cons_of_mem _ h, Or.inr ⟨g, cap, cur.toList, hv, List.mem_cons_self .., by simpa using hsz, hnc, hm, ?_⟩, hk⟩
    rw [Nat.mul_one] at ht
    exact ht
def rowKN (e : TypeId) (n : Nat) (f : Nat → Value) : Value → List Bx → List Rd → Prop := fun v bs _ => RowK' e n f v bs
def oneN (e : TypeId) (x : Value) : Value → List Bx → List Rd → Prop := fun v bs _ => ∃ g, v = .slice (some ⟨g, 0, none⟩) 1 1 ∧ (⟨g, e, [x]⟩ : Bx) ∈ bs
/-- three rows -/
def triK (m : Mx) : Value → List Bx → List Rd → Prop := fun v bs _ => ∃ u0 u1 u2, v = .agg #[u0, u1, u2] ∧ RowK' 3 m.base.length (iv m.base) u0 bs ∧ RowK' 3 m.next.length (iv m.next) u1 bs ∧ RowK' 84 m.held.length (u8v m.held) u2 bs ∧
  (∀ g, keyV u0 = some g → keyV u1 ≠ some g) ∧ (∀ g, keyV u0 = some g → keyV u2 ≠ some g) ∧ ∀ g, keyV u1 = some g → keyV u2 ≠ some g
theorem triK.mono {m : Mx} {v : Value} {bs bs' : List Bx} {rs rs' : List Rd} (h : triK m v bs rs) (hb : ∀ x ∈ bs, x ∈ bs') : triK m v bs' rs' := by
  obtain ⟨u0, u1, u2, e, r0, r1, r2, d⟩ := h
  exact ⟨u0, u1, u2, e, r0.mono hb, r1.mono hb, r2.mono hb, d⟩
/-- a mix that the call owns, in a variable g; w0: the world ahead of it -/
structure HSt (w0 : World) (g : Nat) (x : Mx) (q : MixP) (wr : World) : Prop where
  bel : Below w0.heap.size w0 wr
  hg : w0.heap.size ≤ g
  mb : Whole wr g 56 #[.slice q.a0 x.base.length q.c0, .slice q.a1 x.next.length q.c1, .slice q.a2 x.held.length q.c2]
  ao : AO wr w0.heap.size x q
  nb : keyV (.slice q.a2 x.held.length q.c2) ≠ some g
theorem HSt.facts {w0 wr : World} {g : Nat} {x : Mx} {q : MixP} (h : HSt w0 g x q wr) : g < wr.heap.size ∧ (∀ o, wr.frozen? ⟨g, o, none⟩ = false) ∧ wr.cell? ⟨g, 0, none⟩ = some (.slice q.a0 x.base.length q.c0) ∧ wr.cell? ⟨g, 1, none⟩ = some (.slice q.a1 x.next.length q.c1) ∧ wr.cell? ⟨g, 2, none⟩ = some (.slice q.a2 x.held.length q.c2) :=
  ⟨h.mb.lt, fun o => h.mb.frozen o, h.mb.cell 0, h.mb.cell 1, h.mb.cell 2⟩
theorem HSt.to {w0 wr w' : World} {g : Nat} {x : Mx} {q : MixP} (h : HSt w0 g x q wr) (hb : Below wr.heap.size wr w') : HSt w0 g x q w' := ⟨h.bel.trans (hb.mono h.bel.size), h.hg, h.mb.below hb h.mb.lt, h.ao.to hb, h.nb⟩
theorem HSt.set {w0 wr : World} {g : Nat} {x : Mx} {q : MixP} (h : HSt w0 g x q wr) {i : Nat} (hi : i < x.held.length) :
    ∃ b, q.a2 = some ⟨b, 0, none⟩ ∧ b ≠ g ∧ w0.heap.size ≤ b ∧ b < wr.heap.size ∧ (∀ o, wr.frozen? ⟨b, o, none⟩ = false) ∧ wr.cell? ⟨b, i, none⟩ = some (.int .u8 (gi x.held i)) ∧ ∀ z : Int, HSt w0 g { x with held := x.held.set i z } q (wr.setCell ⟨b, i, none⟩ (.int .u8 z)) := by
  obtain ⟨b, e, hb, hl, hf, hc, hs⟩ := h.ao.set2 hi
  have hk : keyV (.slice q.a2 x.held.length q.c2) = some b := key_pos e (by omega)
  have hne : b ≠ g := fun c => h.nb (by rw [hk, c])
  refine ⟨b, e, hne, hb, hl, hf, hc, fun z => ⟨h.bel.setCell hb _, h.hg, ?_, hs z, ?_⟩⟩
  · have := h.mb.far (p := ⟨b, i, none⟩) (Ne.symm hne) (.int .u8 z)
    show Whole _ _ _ #[_, _, .slice q.a2 (x.held.set i z).length q.c2]
    rw [List.length_set]; exact this
  · show keyV (.slice q.a2 (x.held.set i z).length q.c2) ≠ _
    rw [List.length_set]; exact h.nb
theorem mk_set (n : Nat) (hn : n ≤ 1000) : ∃ O : Obj, (∀ w : World, (Instr.makeSlice 54 (.int .i64 (n : Int)) (.int .i64 (n : Int))).run Try.prog w = .ok (.slice (some ⟨w.heap.size, 0, none⟩) n n) (w.alloc O)) ∧ O = .cells (zeC .u8 n).toArray 84 := by
  obtain ⟨i, hi, e1, e2, e3⟩ := info_parts elSet.hi
  refine ⟨.cells (zeC .u8 n).toArray 84, fun w => ?_, rfl⟩
  have h := run_makeSlice (P := Try.prog) (w := w) 54 84 i (.int .u8 0) elSet.ht hi e1 .i64 .i64 (n : Int) (n : Int) (by omega) (Int.le_refl _) (by rw [e2, Int.toNat_natCast]; omega) (by rw [e3]; omega) (by omega)
  rw [e2] at h
  rw [h]
  simp only [Int.toNat_natCast, Nat.mul_one]
  have : madeCells (Value.int .u8 0).cells n = (zeC .u8 n).toArray := by
    apply Array.toList_inj.1
    show (madeCells #[Value.int .u8 0] n).toList = _
    rw [toList_madeCells_one]; rfl
  rw [this]
/-- a mix of the call's own, and no error -/
def StaR (w : World) (m : Mx) (v : Value) (w' : World) : Prop := Below w.heap.size w w' ∧ ∃ q, v = .tuple #[mixV m q, .int .i64 0] ∧ AO w' w.heap.size m q
/-- the mix while the tables are gone through -/
def stM0 (p : Prob) (i : Nat) : Mx := ⟨p.now, List.replicate p.now.length (-1), stHl p i⟩
theorem stM0_all (p : Prob) : stM0 p p.tabs.length = stMx p := by unfold stM0; rw [stHl_all]; rfl
theorem st0_row1 {p : Prob} {v : Value} {bs : List Bx} (h : RowK' 3 p.now.length (fun _ => .int .i64 (-1)) v bs) : RowK' 3 (stM0 p 0).next.length (iv (stM0 p 0).next) v bs := by
  have e : (stM0 p 0).next.length = p.now.length := by simp [stM0]
  rw [e]
  exact h.congr fun k hk => by unfold iv stM0; simp [gi, hk]
theorem st0_row2 {p : Prob} {v : Value} {bs : List Bx} (h : RowK' 84 p.tabs.length (fun _ => .int .u8 0) v bs) : RowK' 84 (stM0 p 0).held.length (u8v (stM0 p 0).held) v bs := by
  have e : (stM0 p 0).held.length = p.tabs.length := stHl_len p 0
  rw [e]
  exact h.congr fun k hk => by unfold u8v stM0; rw [stHl_gi hk, if_neg (by omega)]
theorem hst_of {w0 v : World} {g : Nat} {m : Mx} {q : MixP} (hb : Below w0.heap.size w0 v) (hg : w0.heap.size ≤ g) (hw : Whole v g 56 #[.slice none 0 0, .slice none 0 0, .slice none 0 0]) (ha : AO v w0.heap.size m q)
    (n0 : keyV (.slice q.a0 m.base.length q.c0) ≠ some g) (n1 : keyV (.slice q.a1 m.next.length q.c1) ≠ some g) (n2 : keyV (.slice q.a2 m.held.length q.c2) ≠ some g) :
    HSt w0 g m q (((v.setCell ⟨g, 0, none⟩ (.slice q.a0 m.base.length q.c0)).setCell ⟨g, 1, none⟩ (.slice q.a1 m.next.length q.c1)).setCell ⟨g, 2, none⟩ (.slice q.a2 m.held.length q.c2)) :=
  ⟨((hb.setCell hg _).setCell hg _).setCell hg _, hg, ((hw.set 0 _).set 1 _).set 2 _, aoElse (aoElse (aoElse ha n0 n1 n2 _) n0 n1 n2 _) n0 n1 n2 _, n2⟩
set_option maxHeartbeats 8000000 in
set_option maxRecDepth 100000 in
theorem start0_any (p : Prob) (q : ProbP) (w : World) (hp : RProb w w.heap.size p q) (hbd : PBd p) (h0 : probE p = 0) (hn1 : q.a1 = none → p.now.length = 0 ∧ q.c1 = 0) :
    Calls Try.prog 17 #[probV p q] w (Ret (StaR w (stMx p))) := by
  have S0 := (Fm.init w).box 39 [.slice q.a0 p.vs.length q.c0, .slice q.a1 p.now.length q.c1, .slice q.a2 p.tgt.length q.c2, .slice q.a3 p.tabs.length q.c3]
  have S := S0.box' 56 [.slice none 0 0, .slice none 0 0, .slice none 0 0] (K := w.heap.size + 1) (by simp)
  obtain ⟨W, hW, S⟩ : ∃ W, (w.alloc (.cells #[.slice q.a0 p.vs.length q.c0, .slice q.a1 p.now.length q.c1, .slice q.a2 p.tgt.length q.c2, .slice q.a3 p.tabs.length q.c3] 39)).alloc (.cells #[.slice none 0 0, .slice none 0 0, .slice none 0 0] 56) = W ∧ Fm w W _ _ := ⟨_, rfl, S⟩
  have hsz : w.heap.size + 2 ≤ W.heap.size := by rw [← hW]; simp
  obtain ⟨h6, ht12, hnl, -⟩ := prob_small h0
  replace hnl := Lib.hid hnl
  have HV := Lib.hid (validProblem_any p q W (hp.to S.bel) hbd)
  rw [h0] at HV
  have hpW := Lib.hid (fun W2 (h : Below W.heap.size W W2) => (hp.to S.bel).to h)
  have HC0 := Lib.hid (fun W2 (h : Below W.heap.size W W2) => cloneI_any q.a1 q.c1 p.now.length (iv p.now) W2 ((hp.to S.bel).to h).r1 hn1 (fun k _ => rfl) (by rw [hnl.out]; omega))
  obtain ⟨O, mk, hO⟩ := mk_set p.tabs.length (by omega)
  obtain ⟨qa0, qc0, qa1, qc1, qa2, qc2, qa3, qc3⟩ := q
  dsimp only at HV HC0 hW S hpW ⊢
  obtain ⟨⟨r1, f1, r10, r11, r12, -⟩, ⟨r2, f2, r20, r21, r22, r23, -⟩, -⟩ := S.facts
  have SW := Lib.hid S
  replace h0 := Lib.hid h0
  replace hO := Lib.hid hO
  clear S S0 hp hbd hn1
  go_enter Try.func17, Try.ntmps17
  go_wp2_with fail
  clear hW
  with_reducible refine HV.out.mono ?_
  rintro e w1 ⟨rfl, hb1⟩
  clear r1 f1 r10 r11 r12 r2 f2 r20 r21 r22 r23 HV
  have S1 := Lib.hid (SW.out.call hb1)
  have HC := Lib.hid (fun w' (h : Below w1.heap.size w1 w') => HC0.out w' (hb1.trans (h.mono hb1.size)))
  have hW1 : W.heap.size ≤ w1.heap.size := hb1.size
  replace hb1 := Lib.hid hb1
  obtain ⟨⟨r1, f1, r10, r11, r12, -⟩, ⟨zp, f2, n0, n1, n2, n3, -⟩, -⟩ := S1.out.facts
  go_wp2_with fail
  refine wp_region_any (by kernel_rfl) ?_
  change wpAny _ _ _ _ _ #[false, false, false, false, false, false, false, false, false, false, false, false, false, false, false] _ (World.drew _)
  have SD := Lib.hid ((Fm.init w1).drew)
  generalize hJ : ([⟨0, 14, false, valN (.pointer (some ⟨w.heap.size, 1, none⟩))⟩, ⟨1, 15, false, valN (.slice qa1 p.now.length qc1)⟩, ⟨2, 16, true, rowKN 3 p.now.length (iv p.now)⟩, ⟨3, 17, true, oneN 3 (.int .i64 (-1))⟩, ⟨4, 18, false, valN (.pointer (some ⟨w.heap.size, 1, none⟩))⟩, ⟨5, 19, false, valN (.slice qa1 p.now.length qc1)⟩, ⟨6, 20, false, valN (.int .i64 (p.now.length : Int))⟩, ⟨7, 21, true, rowKN 3 p.now.length (fun _ => .int .i64 (-1))⟩, ⟨8, 22, false, valN (.pointer (some ⟨w.heap.size, 3, none⟩))⟩, ⟨9, 23, false, valN (.slice qa3 p.tabs.length qc3)⟩, ⟨10, 24, false, valN (.int .i64 (p.tabs.length : Int))⟩, ⟨11, 25, true, rowKN 84 p.tabs.length (fun _ => .int .u8 0)⟩, ⟨12, 26, false, triK (stM0 p 0)⟩, ⟨13, 5, true, boxN 56 [.slice none 0 0, .slice none 0 0, .slice none 0 0]⟩] : List Jc) = J
  have hI : J.map Jc.i = [0, 1, 2, 3, 4, 5, 6, 7, 8, 9, 10, 11, 12, 13] := by subst hJ; rfl
  have hD : J.map Jc.d = [14, 15, 16, 17, 18, 19, 20, 21, 22, 23, 24, 25, 26, 5] := by subst hJ; rfl
  refine regk_go (T := [14]) [0, 1, 2, 3, 4, 5, 6, 7, 8, 9, 10, 11, 12, 13] [14, 15, 16, 17, 18, 19, 20, 21, 22, 23, 24, 25, 26, 5] hI hD 14 _ #[true, true, true, true, true, true, true, true, true, true, true, true, true, true, false] (by decide) (by decide) (by kernel_rfl) (by decide) (by decide) (by kernel_rfl) (by kernel_rfl) (by decide) (by decide) (by decide) (by decide) rfl (by decide) (by kernel_rfl) (by decide) (by decide) SD.out ?hmono ?hbx ?hstep ?hrest
  all_goals clear hI hD
  case hmono =>
    subst hJ
    intro j hj v bs bs' rs rs' hb hr hN
    simp only [List.mem_cons, List.not_mem_nil, or_false] at hj
    rcases hj with rfl | rfl | rfl | rfl | rfl | rfl | rfl | rfl | rfl | rfl | rfl | rfl | rfl | rfl
    · exact hN
    · exact hN
    · exact RowK'.mono hN hb
    · obtain ⟨g, e, mm⟩ := hN; exact ⟨g, e, hb _ mm⟩
    · exact hN
    · exact hN
    · exact hN
    · exact RowK'.mono hN hb
    · exact hN
    · exact hN
    · exact hN
    · exact RowK'.mono hN hb
    · exact triK.mono (rs := rs) (rs' := rs') hN hb
    · obtain ⟨g, e, mm⟩ := hN; exact ⟨g, e, hb _ mm⟩
  case hbx =>
    subst hJ
    intro j hj hx v bs rs hN
    simp only [List.mem_cons, List.not_mem_nil, or_false] at hj
    rcases hj with rfl | rfl | rfl | rfl | rfl | rfl | rfl | rfl | rfl | rfl | rfl | rfl | rfl | rfl
    · cases hx
    · cases hx
    · exact RowK'.key hN
    · obtain ⟨g, rfl, mm⟩ := hN; intro g' hg; exact ⟨_, mm, by injection hg⟩
    · cases hx
    · cases hx
    · cases hx
    · exact RowK'.key hN
    · cases hx
    · cases hx
    · cases hx
    · exact RowK'.key hN
    · cases hx
    · obtain ⟨g, rfl, mm⟩ := hN; intro g' hg; exact ⟨_, mm, by injection hg⟩
  case hstep =>
    subst hJ
    intro j hj
    simp only [List.mem_cons, List.not_mem_nil, or_false] at hj
    rcases hj with rfl | rfl | rfl | rfl | rfl | rfl | rfl | rfl | rfl | rfl | rfl | rfl | rfl | rfl
    · refine ⟨_, rfl, rfl, fun a wq bs rs K hag hS hb0 hr0 hw hne hK => ?_⟩
      have e1 : a.tmps[1]?.getD undef = .pointer (some ⟨w.heap.size, 0, none⟩) := eval_raw ((hag.eval (by decide)).trans rfl)
      clear hag hw hb0 hr0 hne
      replace hS := Lib.hid hS
      replace hK := Lib.hid hK
      go_simp
      exact hK.out _ _ _ _ hS.out (fun _ h => h) (fun _ h => h) rfl (fun h => by cases h)
    · refine ⟨_, rfl, rfl, fun a wq bs rs K hag hS hb0 hr0 hw hne hK => ?_⟩
      have e2 : a.eval (.tmp 14) = .pointer (some ⟨w.heap.size, 1, none⟩) := hw _ (List.Mem.head _) (by kernel_rfl)
      have yy : wq.cell? ⟨w.heap.size, 1, none⟩ = some (.slice qa1 p.now.length qc1) := (hS.bel.cell (p := ⟨w.heap.size, 1, none⟩) zp).trans n1
      exact oper_load rfl rfl e2 Try.underlying36 yy (hK _ _ _ _ hS (fun _ h => h) (fun _ h => h) rfl (fun h => by cases h))
    · refine ⟨_, rfl, rfl, fun a wq bs rs K hag hS hb0 hr0 hw hne hK => ?_⟩
      have e2 : a.eval (.tmp 15) = .slice qa1 p.now.length qc1 := hw _ (List.Mem.tail _ (List.Mem.head _)) (by kernel_rfl)
      have e3 := eval_raw e2
      have HH := Lib.hid (HC.out wq hS.bel)
      clear e2
      clear hag hw hb0 hr0 hne
      replace hS := Lib.hid hS
      replace hK := Lib.hid hK
      go_simp
      go_at_call 38
      refine HH.out.mono ?_
      rintro e w6 ⟨_, rfl, h6⟩
      obtain ⟨bs', S', hbb, hR, hf⟩ := ownM_job hS.out h6
      exact hK.out _ _ _ _ S' hbb (fun _ h => h) hR (fun _ => hf)
    · refine ⟨_, rfl, rfl, fun a wq bs rs K hag hS hb0 hr0 hw hne hK => ?_⟩
      exact oper_build1 elInt rfl rfl rfl (hK _ _ _ _ (hS.box 3 [.int .i64 (-1)]) (fun _ h => List.mem_cons_of_mem _ h) (fun _ h => h) ⟨_, rfl, List.mem_cons_self ..⟩ (fun _ x hx h => by
        have h1 := hS.b_lt hx
        injection h with h
        have h : wq.heap.size = x.b := h
        omega))
    · refine ⟨_, rfl, rfl, fun a wq bs rs K hag hS hb0 hr0 hw hne hK => ?_⟩
      have e1 : a.tmps[1]?.getD undef = .pointer (some ⟨w.heap.size, 0, none⟩) := eval_raw ((hag.eval (by decide)).trans rfl)
      clear hag hw hb0 hr0 hne
      replace hS := Lib.hid hS
      replace hK := Lib.hid hK
      go_simp
      exact hK.out _ _ _ _ hS.out (fun _ h => h) (fun _ h => h) rfl (fun h => by cases h)
    · refine ⟨_, rfl, rfl, fun a wq bs rs K hag hS hb0 hr0 hw hne hK => ?_⟩
      have e2 : a.eval (.tmp 18) = .pointer (some ⟨w.heap.size, 1, none⟩) := hw _ (List.Mem.tail _ (List.Mem.tail _ (List.Mem.tail _ (List.Mem.tail _ (List.Mem.head _))))) (by kernel_rfl)
      have yy : wq.cell? ⟨w.heap.size, 1, none⟩ = some (.slice qa1 p.now.length qc1) := (hS.bel.cell (p := ⟨w.heap.size, 1, none⟩) zp).trans n1
      exact oper_load rfl rfl e2 Try.underlying36 yy (hK _ _ _ _ hS (fun _ h => h) (fun _ h => h) rfl (fun h => by cases h))
    · refine ⟨_, rfl, rfl, fun a wq bs rs K hag hS hb0 hr0 hw hne hK => ?_⟩
      have e2 : a.eval (.tmp 19) = .slice qa1 p.now.length qc1 := hw _ (List.Mem.tail _ (List.Mem.tail _ (List.Mem.tail _ (List.Mem.tail _ (List.Mem.tail _ (List.Mem.head _)))))) (by kernel_rfl)
      have e3 := eval_raw e2
      clear e2
      clear hag hw hb0 hr0 hne
      replace hS := Lib.hid hS
      replace hK := Lib.hid hK
      go_simp
      exact hK.out _ _ _ _ hS.out (fun _ h => h) (fun _ h => h) rfl (fun h => by cases h)
    · refine ⟨_, rfl, rfl, fun a wq bs rs K hag hS hb0 hr0 hw hne hK => ?_⟩
      obtain ⟨g, e2, mm⟩ : oneN 3 (.int .i64 (-1)) (a.eval (.tmp 17)) bs rs := hw _ (List.Mem.tail _ (List.Mem.tail _ (List.Mem.tail _ (List.Mem.head _)))) (by kernel_rfl)
      have e4 : a.eval (.tmp 20) = .int .i64 (p.now.length : Int) := hw _ (List.Mem.tail _ (List.Mem.tail _ (List.Mem.tail _ (List.Mem.tail _ (List.Mem.tail _ (List.Mem.tail _ (List.Mem.head _))))))) (by kernel_rfl)
      have e3 := eval_raw e2
      have e5 := eval_raw e4
      have hwh : Whole wq g 3 _ := allB_at hS.bx _ mm
      have HH := Lib.hid (repeat_any g p.now.length 1 (by rw [hnl.out]; exact h6) wq (hwh.cell 0) hwh.lt)
      clear e2 e4 mm hwh
      clear hag hw hb0 hr0 hne
      replace hS := Lib.hid hS
      replace hK := Lib.hid hK
      go_simp
      go_at_call 39
      refine HH.out.mono ?_
      rintro e w6 ⟨_, rfl, h6⟩
      obtain ⟨bs', S', hbb, hR, hf⟩ := ownM_job hS.out h6
      exact hK.out _ _ _ _ S' hbb (fun _ h => h) hR (fun _ => hf)
    · refine ⟨_, rfl, rfl, fun a wq bs rs K hag hS hb0 hr0 hw hne hK => ?_⟩
      have e1 : a.tmps[1]?.getD undef = .pointer (some ⟨w.heap.size, 0, none⟩) := eval_raw ((hag.eval (by decide)).trans rfl)
      clear hag hw hb0 hr0 hne
      replace hS := Lib.hid hS
      replace hK := Lib.hid hK
      go_simp
      exact hK.out _ _ _ _ hS.out (fun _ h => h) (fun _ h => h) rfl (fun h => by cases h)
    · refine ⟨_, rfl, rfl, fun a wq bs rs K hag hS hb0 hr0 hw hne hK => ?_⟩
      have e2 : a.eval (.tmp 22) = .pointer (some ⟨w.heap.size, 3, none⟩) := hw _ (List.Mem.tail _ (List.Mem.tail _ (List.Mem.tail _ (List.Mem.tail _ (List.Mem.tail _ (List.Mem.tail _ (List.Mem.tail _ (List.Mem.tail _ (List.Mem.head _))))))))) (by kernel_rfl)
      have yy : wq.cell? ⟨w.heap.size, 3, none⟩ = some (.slice qa3 p.tabs.length qc3) := (hS.bel.cell (p := ⟨w.heap.size, 3, none⟩) zp).trans n3
      exact oper_load rfl rfl e2 Try.underlying37 yy (hK _ _ _ _ hS (fun _ h => h) (fun _ h => h) rfl (fun h => by cases h))
    · refine ⟨_, rfl, rfl, fun a wq bs rs K hag hS hb0 hr0 hw hne hK => ?_⟩
      have e2 : a.eval (.tmp 23) = .slice qa3 p.tabs.length qc3 := hw _ (List.Mem.tail _ (List.Mem.tail _ (List.Mem.tail _ (List.Mem.tail _ (List.Mem.tail _ (List.Mem.tail _ (List.Mem.tail _ (List.Mem.tail _ (List.Mem.tail _ (List.Mem.head _)))))))))) (by kernel_rfl)
      have e3 := eval_raw e2
      clear e2
      clear hag hw hb0 hr0 hne
      replace hS := Lib.hid hS
      replace hK := Lib.hid hK
      go_simp
      exact hK.out _ _ _ _ hS.out (fun _ h => h) (fun _ h => h) rfl (fun h => by cases h)
    · refine ⟨_, rfl, rfl, fun a wq bs rs K hag hS hb0 hr0 hw hne hK => ?_⟩
      have e2 : a.eval (.tmp 24) = .int .i64 (p.tabs.length : Int) := hw _ (List.Mem.tail _ (List.Mem.tail _ (List.Mem.tail _ (List.Mem.tail _ (List.Mem.tail _ (List.Mem.tail _ (List.Mem.tail _ (List.Mem.tail _ (List.Mem.tail _ (List.Mem.tail _ (List.Mem.head _))))))))))) (by kernel_rfl)
      have e3 := eval_raw e2
      clear e2
      clear hag hw hb0 hr0 hne
      replace hS := Lib.hid hS
      replace hK := Lib.hid hK
      go_simp
      exact hK.out _ _ _ _ (by rw [hO.out]; exact hS.out.box 84 (zeC .u8 p.tabs.length)) (fun _ h => List.mem_cons_of_mem _ h) (fun _ h => h) (Or.inr ⟨_, _, _, rfl, List.mem_cons_self .., by simp [zeC], Nat.le_refl _, by unfold maxLen; omega, by simp [zeC, List.map_const']⟩) (fun _ x hx h => by
        have h1 := hS.out.b_lt hx
        obtain ⟨nn, hnn⟩ : ∃ nn, p.tabs.length = nn := ⟨_, rfl⟩
        rw [hnn] at h
        cases nn with
        | zero => cases h
        | succ nn =>
          injection h with h
          have h : wq.heap.size = x.b := h
          omega)
    · refine ⟨_, rfl, rfl, fun a wq bs rs K hag hS hb0 hr0 hw hne hK => ?_⟩
      have r0 : RowK' 3 p.now.length (iv p.now) (a.eval (.tmp 16)) bs := hw _ (List.Mem.tail _ (List.Mem.tail _ (List.Mem.head _))) (by kernel_rfl)
      have r1 : RowK' 3 p.now.length (fun _ => .int .i64 (-1)) (a.eval (.tmp 21)) bs := hw _ (List.Mem.tail _ (List.Mem.tail _ (List.Mem.tail _ (List.Mem.tail _ (List.Mem.tail _ (List.Mem.tail _ (List.Mem.tail _ (List.Mem.head _)))))))) (by kernel_rfl)
      have r2 : RowK' 84 p.tabs.length (fun _ => .int .u8 0) (a.eval (.tmp 25)) bs := hw _ (List.Mem.tail _ (List.Mem.tail _ (List.Mem.tail _ (List.Mem.tail _ (List.Mem.tail _ (List.Mem.tail _ (List.Mem.tail _ (List.Mem.tail _ (List.Mem.tail _ (List.Mem.tail _ (List.Mem.tail _ (List.Mem.head _)))))))))))) (by kernel_rfl)
      have d01 := hne _ (List.Mem.tail _ (List.Mem.tail _ (List.Mem.head _))) _ (List.Mem.tail _ (List.Mem.tail _ (List.Mem.tail _ (List.Mem.tail _ (List.Mem.tail _ (List.Mem.tail _ (List.Mem.tail _ (List.Mem.head _)))))))) (by kernel_rfl) (by kernel_rfl) rfl rfl (by show (2 : Nat) ≠ 7; decide)
      have d02 := hne _ (List.Mem.tail _ (List.Mem.tail _ (List.Mem.head _))) _ (List.Mem.tail _ (List.Mem.tail _ (List.Mem.tail _ (List.Mem.tail _ (List.Mem.tail _ (List.Mem.tail _ (List.Mem.tail _ (List.Mem.tail _ (List.Mem.tail _ (List.Mem.tail _ (List.Mem.tail _ (List.Mem.head _)))))))))))) (by kernel_rfl) (by kernel_rfl) rfl rfl (by show (2 : Nat) ≠ 11; decide)
      have d12 := hne _ (List.Mem.tail _ (List.Mem.tail _ (List.Mem.tail _ (List.Mem.tail _ (List.Mem.tail _ (List.Mem.tail _ (List.Mem.tail _ (List.Mem.head _)))))))) _ (List.Mem.tail _ (List.Mem.tail _ (List.Mem.tail _ (List.Mem.tail _ (List.Mem.tail _ (List.Mem.tail _ (List.Mem.tail _ (List.Mem.tail _ (List.Mem.tail _ (List.Mem.tail _ (List.Mem.tail _ (List.Mem.head _)))))))))))) (by kernel_rfl) (by kernel_rfl) rfl rfl (by show (7 : Nat) ≠ 11; decide)
      dsimp only at d01 d02 d12
      obtain ⟨u0, h0⟩ : ∃ u, a.eval (.tmp 16) = u := ⟨_, rfl⟩
      obtain ⟨u1, h1⟩ : ∃ u, a.eval (.tmp 21) = u := ⟨_, rfl⟩
      obtain ⟨u2, h2⟩ : ∃ u, a.eval (.tmp 25) = u := ⟨_, rfl⟩
      rw [h0] at r0 d01 d02
      rw [h1] at r1 d01 d12
      rw [h2] at r2 d02 d12
      have e0 := eval_raw h0
      have e1 := eval_raw h1
      have e2 := eval_raw h2
      have hT := Lib.hid (show triK (stM0 p 0) (.agg #[u0, u1, u2]) bs rs from ⟨u0, u1, u2, rfl, r0, st0_row1 r1, st0_row2 r2, d01, d02, d12⟩)
      obtain ⟨A0, c0, rfl, -⟩ := RowK'.own hS r0
      obtain ⟨A1, c1, rfl, -⟩ := RowK'.own hS r1
      obtain ⟨A2, c2, rfl, -⟩ := RowK'.own hS r2
      clear d01 d02 d12 h0 h1 h2 r0 r1 r2
      clear hag hw hb0 hr0 hne
      replace hS := Lib.hid hS
      replace hK := Lib.hid hK
      go_simp
      exact hK.out _ _ _ _ hS.out (fun _ h => h) (fun _ h => h) hT.out (fun h => by cases h)
    · refine ⟨_, rfl, rfl, fun a wq bs rs K hag hS hb0 hr0 hw hne hK => ?_⟩
      clear hag hw hb0 hr0 hne
      replace hS := Lib.hid hS
      replace hK := Lib.hid hK
      go_simp
      exact hK.out _ _ _ _ (hS.out.box 56 [.slice none 0 0, .slice none 0 0, .slice none 0 0]) (fun _ h => List.mem_cons_of_mem _ h) (fun _ h => h) ⟨_, rfl, List.mem_cons_self ..⟩ (fun _ => boxN.fresh hS.out)
  case hrest =>
    subst hJ
    intro f w2 bs rs S2 hb0 hr0 hN hne
    obtain ⟨u0, u1, u2, e26, R0, R1, R2, d01, d02, d12⟩ := hN _ (List.Mem.tail _ (List.Mem.tail _ (List.Mem.tail _ (List.Mem.tail _ (List.Mem.tail _ (List.Mem.tail _ (List.Mem.tail _ (List.Mem.tail _ (List.Mem.tail _ (List.Mem.tail _ (List.Mem.tail _ (List.Mem.tail _ (List.Mem.head _)))))))))))))
    obtain ⟨gB, e5, mB⟩ := hN _ (List.Mem.tail _ (List.Mem.tail _ (List.Mem.tail _ (List.Mem.tail _ (List.Mem.tail _ (List.Mem.tail _ (List.Mem.tail _ (List.Mem.tail _ (List.Mem.tail _ (List.Mem.tail _ (List.Mem.tail _ (List.Mem.tail _ (List.Mem.tail _ (List.Mem.head _))))))))))))))
    replace e26 : f 26 = .agg #[u0, u1, u2] := e26
    replace e5 : f 5 = .pointer (some ⟨gB, 0, none⟩) := e5
    clear hN hne hb0 hr0
    obtain ⟨X14, x14⟩ : ∃ x, f 14 = x := ⟨_, rfl⟩
    obtain ⟨X15, x15⟩ : ∃ x, f 15 = x := ⟨_, rfl⟩
    obtain ⟨X16, x16⟩ : ∃ x, f 16 = x := ⟨_, rfl⟩
    obtain ⟨X17, x17⟩ : ∃ x, f 17 = x := ⟨_, rfl⟩
    obtain ⟨X18, x18⟩ : ∃ x, f 18 = x := ⟨_, rfl⟩
    obtain ⟨X19, x19⟩ : ∃ x, f 19 = x := ⟨_, rfl⟩
    obtain ⟨X20, x20⟩ : ∃ x, f 20 = x := ⟨_, rfl⟩
    obtain ⟨X21, x21⟩ : ∃ x, f 21 = x := ⟨_, rfl⟩
    obtain ⟨X22, x22⟩ : ∃ x, f 22 = x := ⟨_, rfl⟩
    obtain ⟨X23, x23⟩ : ∃ x, f 23 = x := ⟨_, rfl⟩
    obtain ⟨X24, x24⟩ : ∃ x, f 24 = x := ⟨_, rfl⟩
    obtain ⟨X25, x25⟩ : ∃ x, f 25 = x := ⟨_, rfl⟩
    simp only [List.foldl_cons, List.foldl_nil, List.drop_succ_cons, List.drop_zero, e26, e5, x14, x15, x16, x17, x18, x19, x20, x21, x22, x23, x24, x25]
    clear e26 e5 x14 x15 x16 x17 x18 x19 x20 x21 x22 x23 x24 x25
    replace R0 : RowK' 3 (stM0 p 0).base.length (iv (stM0 p 0).base) u0 bs := R0
    replace R1 : RowK' 3 (stM0 p 0).next.length (iv (stM0 p 0).next) u1 bs := R1
    replace R2 : RowK' 84 (stM0 p 0).held.length (u8v (stM0 p 0).held) u2 bs := R2
    have k0 := RowK'.ne S2 R0 mB (by decide)
    have k1 := RowK'.ne S2 R1 mB (by decide)
    have k2 := RowK'.ne S2 R2 mB (by decide)
    obtain ⟨A0, c0, rfl, o0⟩ := RowK'.own S2 R0
    obtain ⟨A1, c1, rfl, o1⟩ := RowK'.own S2 R1
    obtain ⟨A2, c2, rfl, o2⟩ := RowK'.own S2 R2
    have ha2 : AO w2 w1.heap.size (stM0 p 0) ⟨A0, c0, A1, c1, A2, c2⟩ := ⟨o0, o1, o2, d01, d02, d12⟩
    have hH := Lib.hid (hst_of (q := ⟨A0, c0, A1, c1, A2, c2⟩) S2.bel (S2.lo _ mB) (allB_at S2.bx _ mB) ha2 k0 k1 k2)
    have hwB := allB_at S2.bx _ mB
    obtain ⟨xz, xf, x0, x1, x2⟩ := wh3 hwB
    clear R0 R1 R2 o0 o1 o2 d01 d02 d12 ha2 hwB S2 mB k0 k1 k2 n0 n1 n2 n3 r1 f1 r10 r11 r12 f2 zp
    go_upto_region 5 with fail
    generalize hW3 : ((w2.setCell ⟨gB, 0, none⟩ (.slice A0 (stM0 p 0).base.length c0)).setCell ⟨gB, 1, none⟩ (.slice A1 (stM0 p 0).next.length c1)).setCell ⟨gB, 2, none⟩ (.slice A2 (stM0 p 0).held.length c2) = W3 at hH ⊢
    clear hW3 xz xf x0 x1 x2
    rename World => W3
    have hl0 := Lib.hid (fun i => show (stM0 p i).held.length = p.tabs.length from stHl_len p i)
    have hl1 := Lib.hid (fun i => show (stM0 p i).next.length = p.now.length by simp [stM0])
    have T := Lib.hid (SW.out.call (hb1.out.trans (hH.out.bel.mono hW1)))
    obtain ⟨⟨r1, f1, r10, r11, r12, -⟩, ⟨r2, f2, r20, r21, r22, r23, -⟩, -⟩ := T.out.facts
    go_wp2
    clear r1 f1 r10 r11 r12 r2 f2 r20 r21 r22 r23 T
    go_loopw [30] (fun s30 wr => ∃ i : Nat, i ≤ p.tabs.length ∧ s30 = .int .i64 (i : Int) ∧ HSt w1 gB (stM0 p i) ⟨A0, c0, A1, c1, A2, c2⟩ wr) (fun s30 _ => p.tabs.length - (intOf s30).toNat)
    case atStart => exact ⟨0, Nat.zero_le _, rfl, hH.out⟩
    case round =>
      clear hH
      obtain ⟨i, hi, rfl, hX⟩ := hrel
      have hbel := Lib.hid (hb1.out.trans (hX.bel.mono hW1))
      have hWr : W.heap.size ≤ wr.heap.size := hbel.out.size
      have T := Lib.hid (SW.out.call hbel.out)
      obtain ⟨⟨r1, f1, r10, r11, r12, -⟩, ⟨r2, f2, r20, r21, r22, r23, -⟩, -⟩ := T.out.facts
      by_cases hlt : i < p.tabs.length
      · have TF := Lib.hid (tab_facts h0.out hlt)
        have hP0 := hpW.out wr hbel.out
        obtain ⟨F, hr, hmat⟩ := hP0.r3
        obtain ⟨b, off, e4, hb, hc⟩ := hr (by omega)
        dsimp only at e4
        subst e4
        have k0 : wr.cell? ⟨b, off + i * 6, none⟩ = some (.int .i64 (tab p.tabs i).kind) := hc i hlt 0 (by decide)
        have k1 : wr.cell? ⟨b, off + i * 6 + 1, none⟩ = some (.int .i64 (tab p.tabs i).src) := hc i hlt 1 (by decide)
        have k2 : wr.cell? ⟨b, off + i * 6 + 2, none⟩ = some (.int .i64 (tab p.tabs i).dst) := hc i hlt 2 (by decide)
        have k3 : wr.cell? ⟨b, off + i * 6 + 3, none⟩ = some (.bool (tab p.tabs i).aware) := hc i hlt 3 (by decide)
        have k4 : wr.cell? ⟨b, off + i * 6 + 4, none⟩ = some (.slice (F i).okA (tab p.tabs i).ok.length (F i).okC) := hc i hlt 4 (by decide)
        have k5 : wr.cell? ⟨b, off + i * 6 + 5, none⟩ = some (.slice (F i).rwA (tab p.tabs i).rw.length (F i).rwC) := hc i hlt 5 (by decide)
        obtain ⟨a, ha⟩ : ∃ a : Nat, (tab p.tabs i).src = (a : Int) := ⟨(tab p.tabs i).src.toNat, by have := TF.out.s0; omega⟩
        have haL : a < p.vs.length := by have := TF.out.s1; omega
        have hnow := now_in h0.out haL
        have hvs := vs_le h0.out haL
        obtain ⟨bn, on, en, hbn, hcn⟩ := hP0.r1 (by rw [hnl.out]; omega)
        dsimp only at en
        subst en
        have kn := hcn a (by rw [hnl.out]; exact haL)
        unfold iv at kn
        have jn : (a : Int) < (p.now.length : Int) := by rw [hnl.out]; omega
        have hst : Hid (stHd p i = if stB (tab p.tabs i).kind = true then ((2 ^ (gi p.now a).toNat : Nat) : Int) else 0) := Lib.hid (by unfold stHd; rw [ha, Int.toNat_natCast]; rfl)
        have hsk := Lib.hid (fun h => stHl_skip (p := p) hlt h)
        have hnx := Lib.hid (stHl_next (p := p) hlt)
        obtain ⟨x, hx⟩ : ∃ x, gi p.now a = x := ⟨_, rfl⟩
        rw [hx] at kn hnow hst
        obtain ⟨⟨oA, oC, rA, rC⟩, hF⟩ : ∃ y, F i = y := ⟨_, rfl⟩
        rw [hF] at k4 k5
        obtain ⟨⟨kd, sr, ds, aw, ok, rw0⟩, ht⟩ : ∃ t, tab p.tabs i = t := ⟨_, rfl⟩
        rw [ht] at k0 k1 k2 k3 k4 k5 ha hst hsk
        dsimp only at k0 k1 k2 k3 k4 k5 ha hst
        subst ha
        have hsk2 : Hid (stB kd = false → stM0 p (i + 1) = stM0 p i) := Lib.hid (fun h => by unfold stM0; rw [hsk.out h])
        have hbw : b < wr.heap.size := hb
        have hbnw : bn < wr.heap.size := hbn
        obtain ⟨xz, xf, x0, x1, x2⟩ := hX.facts
        dsimp only at x0 x1 x2
        rw [hl0.out] at x2
        obtain ⟨W4, (hW4 : wr.alloc (.cells #[.int .i64 kd, .int .i64 (a : Int), .int .i64 ds, .bool aw, .slice oA ok.length oC, .slice rA rw0.length rC] 47) = W4), S4, hB4⟩ := fm_boxE T.out 47 [.int .i64 kd, .int .i64 (a : Int), .int .i64 ds, .bool aw, .slice oA ok.length oC, .slice rA rw0.length rC]
        have H2 := Lib.hid (mstored_any ⟨kd, a, ds, aw, ok, rw0⟩ ⟨oA, oC, rA, rC⟩ W4)
        dsimp only [tabV] at H2
        have ji : (i : Int) < (p.tabs.length : Int) := by omega
        obtain ⟨⟨zt, ft, t0, t1, t2, t3, t4, t5, -⟩, -⟩ := S4.facts
        replace S4 := Lib.hid S4
        replace hX := Lib.hid hX
        replace ht := Lib.hid ht
        replace hF := Lib.hid hF
        replace hx := Lib.hid hx
        clear hcn hc hr hmat hP0 hsk
        go_wp2_with fail
        clear hW4
        with_reducible refine H2.out.mono ?_
        rintro e w5 ⟨rfl, hb5⟩
        have hb5' := Lib.hid (hB4.trans (hb5.mono hB4.size))
        have S5 := Lib.hid (S4.out.call hb5)
        have hX5 := Lib.hid (hX.out.to hb5'.out)
        have kn5 := (hb5'.out.cell (p := ⟨bn, on + a, none⟩) hbnw).trans kn
        clear r1 f1 r10 r11 r12 r2 f2 r20 r21 r22 r23 xz xf x0 x1 x2 zt ft t0 t1 t2 t3 t4 t5 k0 k1 k2 k3 k4 k5 kn H2 hb5
        obtain ⟨⟨zt, ft, t0, t1, t2, t3, t4, t5, -⟩, ⟨r1, f1, r10, r11, r12, -⟩, ⟨r2, f2, r20, r21, r22, r23, -⟩, -⟩ := S5.out.facts
        obtain ⟨xz, xf, x0, x1, x2⟩ := hX5.out.facts
        dsimp only at x0 x1 x2
        rw [hl0.out] at x2
        cases hsb : stB kd with
        | false =>
          have hE := Lib.hid (hsk2.out hsb)
          replace hsb := Lib.hid hsb
          go_wp2
          go_roundw
          case rel => exact ⟨i + 1, by omega, by go_num, by rw [hE.out]; exact hX5.out⟩
          case measure => simp [intOf]; omega
        | true =>
          rw [if_pos hsb] at hst
          obtain ⟨bb, eb, hne, hlo, lt, fr, cl, hs⟩ := hX5.out.set (i := i) (by rw [hl0.out]; exact hlt)
          dsimp only at eb
          subst eb
          have hs2 := Lib.hid (hs (stHd p i))
          have hE : Hid ({ stM0 p i with held := (stM0 p i).held.set i (stHd p i) } = stM0 p (i + 1)) := Lib.hid (by unfold stM0; rw [hnx.out])
          rw [hE.out, hst.out, show ((2 ^ x.toNat : Nat) : Int) = 2 ^ x.toNat by simp] at hs2
          replace hs2 := Lib.hid (hs2.out.to ((Drawn.refl _).drew).below)
          have sh := shl8' (x := x) (by omega) (by omega)
          have x8 : x ≤ 8 := by omega
          have x00 : ¬ x < 0 := by omega
          have i1 : ¬ bb = w.heap.size := by omega
          have i2 : ¬ w.heap.size = bb := by omega
          replace hsb := Lib.hid hsb
          clear hs hnow hvs
          go_wp2
          go_region_law ((fail))
          all_goals go_wp2_with fail
          all_goals go_roundw
          all_goals first
            | (case rel => exact ⟨i + 1, by omega, by go_num, hs2.out⟩)
            | (case measure => simp [intOf]; omega)
      · obtain rfl : i = p.tabs.length := by omega
        have hXF := hX
        rw [stM0_all] at hXF
        obtain ⟨xz, xf, x0, x1, x2⟩ := hXF.facts
        have hgw : w.heap.size + 1 < w1.heap.size := by omega
        have ha := Lib.hid (((hXF.ao.far (p := ⟨w.heap.size + 1, 0, none⟩) hgw (.slice A0 (stMx p).base.length c0)).far (p := ⟨w.heap.size + 1, 1, none⟩) hgw (.slice A1 (stMx p).next.length c1)).far (p := ⟨w.heap.size + 1, 2, none⟩) hgw (.slice A2 (stMx p).held.length c2))
        have S7 := Lib.hid (((T.out.set 0 rfl 0 (.slice A0 (stMx p).base.length c0)).set 0 rfl 1 (.slice A1 (stMx p).next.length c1)).set 0 rfl 2 (.slice A2 (stMx p).held.length c2))
        dsimp only at x0 x1 x2
        obtain ⟨B, hB⟩ : ∃ B, stMx p = B := ⟨_, rfl⟩
        rw [hB] at x0 x1 x2 ha S7 ⊢
        clear hX hXF hlt
        go_wp2
        clear r1 f1 r10 r11 r12 r2 f2 r20 r21 r22 r23 xz xf x0 x1 x2
        obtain ⟨⟨r1, f1, r10, r11, r12, -⟩, -⟩ := S7.out.facts
        refine bodyPost_ret (v := .tuple #[mixV B ⟨A0, c0, A1, c1, A2, c2⟩, .int .i64 0]) (by simp [results, Try.results17, go_sem, r10, r11, r12]) rfl ?_
        exact Ret.mk ⟨S7.out.bel, ⟨A0, c0, A1, c1, A2, c2⟩, rfl, ha.out.base (by omega)⟩
end Go.Proofs.Ytickckehhfdoeaa
