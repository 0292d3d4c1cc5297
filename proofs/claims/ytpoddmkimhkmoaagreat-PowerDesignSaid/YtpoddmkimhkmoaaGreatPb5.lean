/-
  PLAIN: the first fixed test with the errors that are asked for; frames: boxes apart, a row's numbers, a test's rows beside boxes.
  Conditions: those that each theorem names.
-/
import Derived.Test.YtpoddmkimhkmoaaGreatPb7
import Derived.Test.YtpoddmkimhkmoaaGreatPwK
import Derived.Test.YtpoddmkimhkmoaaGreatRegP
import Derived.Test.YtpoddmkimhkmoaaGreatPb2
import Derived.Test.YtpoddmkimhkmoaaGreatNt9
import Derived.Deep.RegionHeld3
namespace Go.Proofs.YtpoddmkimhkmoaaGreat
open Go.RowKit Go.Sv Go.Pw
/-- a fixed test of n observations that passes with fewer than c failures has the errors that are asked for -/
def okD (a0 d0 a1 d1 an ad bn bd n c : Nat) : Bool := decide ((d0 ^ n - low a0 (d0 - a0) n c) * ad ≤ an * d0 ^ n) && decide (low a1 (d1 - a1) n c * bd ≤ bn * d1 ^ n)
/-- none of the fixed tests before (n, c) has them -/
def NoD (ok : Nat → Nat → Bool) (n c : Nat) : Prop := (∀ m k, 1 ≤ m → m < n → k ≤ m + 1 → ok m k = false) ∧ ∀ k, k < c → ok n k = false
theorem NoD.start (ok : Nat → Nat → Bool) : NoD ok 1 0 := ⟨fun m k h1 h2 => by omega, fun k h => by omega⟩
theorem NoD.next {ok : Nat → Nat → Bool} {n c : Nat} (h : NoD ok n c) (e : ok n c = false) : NoD ok n (c + 1) := ⟨h.1, fun k hk => by
  by_cases e2 : k = c
  · rw [e2]; exact e
  · exact h.2 k (by omega)⟩
theorem NoD.row {ok : Nat → Nat → Bool} {n : Nat} (h : NoD ok n (n + 2)) : NoD ok (n + 1) 0 := ⟨fun m k h1 h2 h3 => by
  by_cases e : m = n
  · rw [e]; exact h.2 k (by omega)
  · exact h.1 m k h1 (by omega) h3, fun k hk => by omega⟩
/-- the first is one alone -/
theorem NoD.uniq {ok : Nat → Nat → Bool} {n c n' c' : Nat} (h : NoD ok n c) (h' : NoD ok n' c') (o : ok n c = true) (o' : ok n' c' = true) (l1 : 1 ≤ n) (l2 : c ≤ n + 1) (l1' : 1 ≤ n') (l2' : c' ≤ n' + 1) : n = n' ∧ c = c' := by
  have a : ∀ {n c n' c' : Nat}, NoD ok n c → ok n' c' = true → 1 ≤ n' → c' ≤ n' + 1 → n ≤ n' ∧ (n = n' → c ≤ c') := fun {n c n' c'} h o l1 l2 => by
    constructor
    · apply Nat.le_of_not_lt
      intro hx
      rw [h.1 n' c' l1 hx l2] at o
      cases o
    · intro e
      apply Nat.le_of_not_lt
      intro hx
      rw [← e, h.2 c' hx] at o
      cases o
  have x := a h o' l1' l2'
  have y := a h' o l1 l2
  have e : n = n' := by omega
  exact ⟨e, by have := x.2 e; have := y.2 e.symm; omega⟩
/-- what Design leaves -/
def DesR (w : World) (ok : Nat → Nat → Bool) (most : Nat) (v : Value) (w' : World) : Prop :=
  (∃ n c, 1 ≤ n ∧ n ≤ most ∧ c ≤ n + 1 ∧ ok n c = true ∧ NoD ok n c ∧ TRes w (fixT n ((c : Int) - 1)) 0 v w') ∨ (NoD ok (most + 1) 0 ∧ TRes w tst0 4 v w')
theorem fm_bne {w W : World} {bs : List Bx} {rs : List Rd} (S : Fm w W bs rs) {x y : Bx} (hx : x ∈ bs) (hy : y ∈ bs) (ht : x.t ≠ y.t) : x.b ≠ y.b := by
  obtain ⟨i, hi⟩ := List.mem_iff_getElem?.1 hx
  obtain ⟨j, hj⟩ := List.mem_iff_getElem?.1 hy
  have hij : j ≠ i := fun e => by
    rw [e, hi] at hj
    injection hj with hj
    exact ht (by rw [hj])
  exact (pair_ne S.dis hi j y hj hij).symm
theorem fm_swap {w W : World} {bs : List Bx} {r0 r1 : Rd} {rs : List Rd} (S : Fm w W bs (r1 :: r0 :: rs)) : Fm w W bs (r0 :: r1 :: rs) :=
  fm_sel S _ _ (List.Sublist.refl _) (fun r hr => by
    simp only [List.mem_cons] at hr ⊢
    rcases hr with h | h | h
    · exact .inr (.inl h)
    · exact .inl h
    · exact .inr (.inr h))
/-- a number of a row that a frame reads -/
theorem row_at {w W : World} {bs : List Bx} {rs : List Rd} {lo hi k g o : Nat} {L : Nat → List Int} {Q : Nat → LmP} (S : Fm w W bs rs) (hm : nrowRd lo hi (some ⟨g, o, none⟩) k L Q ∈ rs) {i : Nat} (hi' : i < k) :
    W.cell? ⟨g, o + i, none⟩ = some (.slice (Q i).a (L i).length (Q i).c) ∧ g < W.heap.size ∧ (∀ x ∈ bs, x.b ≠ g) ∧ RLm W W.heap.size (L i) (Q i) := by
  have hT : NRow W lo hi (some ⟨g, o, none⟩) k L Q := allR_at S.rd _ hm
  obtain ⟨b, off, e, hb1, hb2, hc⟩ := hT.arr (by omega)
  injection e with e
  injection e with e1 e2
  subst e1 e2
  have fr := S.far _ hm g ⟨hb1, hb2⟩
  refine ⟨hc i hi', fr.1, fr.2, ?_⟩
  have rC := hT.num i hi'
  have fq := hT.fr i hi'
  refine ⟨fun hl => ?_, rC.nil, rC.cap, rC.cmx⟩
  obtain ⟨b, off, e, hb, hc⟩ := rC.arr hl
  exact ⟨b, off, e, (S.far _ hm b ⟨fq _ e, hb⟩).1, hc⟩
theorem arr_box {W : World} {B : Nat} {A : Option Addr} {n b : Nat} {f : Nat → Value} {t : TypeId} {cs : Array Value} (h : Arr W B A n f) (hb : Whole W b t cs) (hf : ∀ v ∈ cs, ∀ k, f k ≠ v) (k : Nat) (u : Value) : Arr (W.setCell ⟨b, k, none⟩ u) B A n f := fun hn => by
  obtain ⟨g, off, e, h1, hc⟩ := h hn
  have hg : g ≠ b := fun e2 => by
    have x := hc 0 hn
    rw [e2, hb.cell] at x
    exact hf _ (Array.mem_of_getElem? x) 0 rfl
  exact ⟨g, off, e, h1, fun j hj => (World.cell?_setCell_other _ _ _ _ (fun e3 => hg (by injection e3 with e4; exact e4.symm))).trans (hc j hj)⟩
/-- a store into a box does not touch a test's rows -/
theorem fm_tst_set {w W : World} {bs : List Bx} {rs : List Rd} (S : Fm w W bs rs) {x : Bx} (hx : x ∈ bs) (hn : ∀ v ∈ x.cs, ∀ z, v ≠ .int .i64 z) {t : Tst} {q : TstP} (h : RTst W W.heap.size t q) (k : Nat) (u : Value) :
    RTst (W.setCell ⟨x.b, k, none⟩ u) (W.setCell ⟨x.b, k, none⟩ u).heap.size t q := by
  have hb := allB_at S.bx x hx
  rw [show (W.setCell ⟨x.b, k, none⟩ u).heap.size = W.heap.size by simp]
  exact ⟨arr_box h.r0 hb (fun v hv k e => hn v (by simpa using hv) _ e.symm) k u, arr_box h.r1 hb (fun v hv k e => hn v (by simpa using hv) _ e.symm) k u⟩
def numN (l : List Int) : Value → List Bx → List Rd → Prop := fun v _ rs => ∃ q : LmP, v = natV l q ∧ rowRd l q ∈ rs
theorem low_mono {a b n c d : Nat} (h : c ≤ d) : low a b n c ≤ low a b n d := by
  induction d with
  | zero => rw [show c = 0 by omega]; exact Nat.le_refl _
  | succ d ih =>
    by_cases e : c = d + 1
    · rw [e]; exact Nat.le_refl _
    · rw [low_succ]; exact Nat.le_trans (ih (by omega)) (Nat.le_add_right _ _)
theorem low_all {a b n : Nat} : low a b n (n + 1) = (a + b) ^ n := gd_total a b n
theorem low_0 {a b n : Nat} : low a b n 0 = 0 := rfl
end Go.Proofs.YtpoddmkimhkmoaaGreat
namespace Go.Proofs.YtpoddmkimhkmoaaGreat
open Go.RowKit Go.Sv Go.Pw
/-- a test whose rows lie in blocks of their own -/
def tstRd2 (t : Tst) (q : TstP) : Rd where
  R := fun W => RTst W W.heap.size t q
  D := fun g => (0 < t.acc.length ∧ ∃ a, q.a0 = some a ∧ a.block = g) ∨ (0 < t.rej.length ∧ ∃ a, q.a1 = some a ∧ a.block = g)
  st := fun {w w'} h hc hs => ⟨fun hn => by
    obtain ⟨b, off, e, hb, hx⟩ := h.r0 hn
    exact ⟨b, off, e, Nat.lt_of_lt_of_le hb hs, fun k hk => (hc ⟨b, off + k, none⟩ (.inl ⟨hn, _, e, rfl⟩)).trans (hx k hk)⟩, fun hn => by
    obtain ⟨b, off, e, hb, hx⟩ := h.r1 hn
    exact ⟨b, off, e, Nat.lt_of_lt_of_le hb hs, fun k hk => (hc ⟨b, off + k, none⟩ (.inr ⟨hn, _, e, rfl⟩)).trans (hx k hk)⟩⟩
theorem tst_blk {W : World} {t : Tst} {q : TstP} (h : RTst W W.heap.size t q) {g : Nat} (hg : (tstRd2 t q).D g) : g < W.heap.size := by
  rcases hg with ⟨hn, a, e, rfl⟩ | ⟨hn, a, e, rfl⟩
  · obtain ⟨b, off, e2, hb, _⟩ := h.r0 hn
    rw [e] at e2; injection e2 with e2; rw [e2]; exact hb
  · obtain ⟨b, off, e2, hb, _⟩ := h.r1 hn
    rw [e] at e2; injection e2 with e2; rw [e2]; exact hb
theorem arr_apart {W : World} {B : Nat} {A : Option Addr} {n b : Nat} {f : Nat → Value} {t : TypeId} {cs : Array Value} (h : Arr W B A n f) (hb : Whole W b t cs) (hf : ∀ v ∈ cs, ∀ k, f k ≠ v) (hn : 0 < n) {a : Addr} (ha : A = some a) : b ≠ a.block := by
  obtain ⟨g, off, e, _, hc⟩ := h hn
  rw [ha] at e
  injection e with e
  subst e
  intro e2
  have x := hc 0 hn
  have e3 : b = g := e2
  rw [← e3, hb.cell] at x
  exact hf _ (Array.mem_of_getElem? x) 0 rfl
/-- no cell of a box is an integer of the test's kind -/
def NoInt (bs : List Bx) : Prop := ∀ x ∈ bs, ∀ v ∈ x.cs, ∀ z, v ≠ .int .i64 z
theorem fm_tst {w W W' : World} {bs : List Bx} {rs : List Rd} (S : Fm w W bs rs) (hb : Below W.heap.size W W') {t : Tst} {q : TstP} (h : RTst W' W'.heap.size t q) (hn : NoInt bs) : Fm w W' bs (tstRd2 t q :: rs) := by
  have k := S.call hb
  refine k.also (tstRd2 t q) h (fun g hg => ⟨tst_blk h hg, fun x hx => ?_⟩)
  have hw := allB_at k.bx x hx
  rcases hg with ⟨h0, a, e, rfl⟩ | ⟨h0, a, e, rfl⟩
  · exact arr_apart h.r0 hw (fun v hv k e => hn x hx v (by simpa using hv) _ e.symm) h0 e
  · exact arr_apart h.r1 hw (fun v hv k e => hn x hx v (by simpa using hv) _ e.symm) h0 e
theorem fm_tst0 {w W : World} {bs : List Bx} {rs : List Rd} (S : Fm w W bs rs) {t : Tst} {q : TstP} (h : RTst W W.heap.size t q) (hn : NoInt bs) : Fm w W bs (tstRd2 t q :: rs) := fm_tst S (Below.refl _ _) h hn
theorem tstOld {w W : World} {bs : List Bx} {rs : List Rd} (S : Fm w W bs rs) {t : Tst} {q : TstP} (h : tstRd2 t q ∈ rs) : RTst W W.heap.size t q := allR_at S.rd _ h
/-- two literals of integers -/
theorem lit_at (l : List Int) {W : World} {b : Nat} (h : ∀ i, W.cell? ⟨b, i, none⟩ = ((l.map (Value.int .i64)).toArray)[i]?) {B : Nat} (hb : b < B) : Arr W B (some ⟨b, 0, none⟩) l.length (iv l) := fun _ =>
  ⟨b, 0, rfl, hb, fun k hk => by rw [Nat.zero_add, h k]; simp [iv, gi, hk]⟩
theorem rtst_lits (w : World) (a b : List Int) (ty : TypeId) (c d : Nat) : RTst ((w.alloc (.cells (a.map (Value.int .i64)).toArray ty)).alloc (.cells (b.map (Value.int .i64)).toArray ty)) ((w.alloc (.cells (a.map (Value.int .i64)).toArray ty)).alloc (.cells (b.map (Value.int .i64)).toArray ty)).heap.size ⟨a, b⟩ ⟨some ⟨w.heap.size, 0, none⟩, c, some ⟨w.heap.size + 1, 0, none⟩, d⟩ :=
  ⟨lit_at a (fun i => cell_first w _ _ _ i) (by simp; omega), lit_at b (fun i => cell_second w _ _ _ i) (by simp)⟩
theorem rtst_lits2 (w : World) (a b : List Int) (ty : TypeId) (c d : Nat) : RTst ((w.alloc (.cells (b.map (Value.int .i64)).toArray ty)).alloc (.cells (a.map (Value.int .i64)).toArray ty)) ((w.alloc (.cells (b.map (Value.int .i64)).toArray ty)).alloc (.cells (a.map (Value.int .i64)).toArray ty)).heap.size ⟨a, b⟩ ⟨some ⟨w.heap.size + 1, 0, none⟩, c, some ⟨w.heap.size, 0, none⟩, d⟩ :=
  ⟨lit_at a (fun i => cell_second w _ _ _ i) (by simp), lit_at b (fun i => cell_first w _ _ _ i) (by simp; omega)⟩
theorem rtst_d1 (w : World) (ty : TypeId) : RTst ((w.alloc (.cells #[.int .i64 0] ty)).alloc (.cells #[.int .i64 1] ty)) ((w.alloc (.cells #[.int .i64 0] ty)).alloc (.cells #[.int .i64 1] ty)).heap.size ⟨[0], [1]⟩ ⟨some ⟨w.heap.size, 0, none⟩, 1, some ⟨w.heap.size + 1, 0, none⟩, 1⟩ := rtst_lits w [0] [1] ty 1 1
theorem rtst_d2 (w : World) (ty : TypeId) : RTst ((w.alloc (.cells #[.int .i64 1] ty)).alloc (.cells #[.int .i64 0] ty)) ((w.alloc (.cells #[.int .i64 1] ty)).alloc (.cells #[.int .i64 0] ty)).heap.size ⟨[0], [1]⟩ ⟨some ⟨w.heap.size + 1, 0, none⟩, 1, some ⟨w.heap.size, 0, none⟩, 1⟩ := rtst_lits2 w [0] [1] ty 1 1
/-- a table's rows -/
theorem tab_at {w W : World} {bs : List Bx} {rs : List Rd} {lo hi k g o : Nat} {L : Nat → Nat → List Int} {R : Nat → Option Addr} {K : Nat → Nat} {Q : Nat → Nat → LmP} (S : Fm w W bs rs) (hm : tabRd lo hi (some ⟨g, o, none⟩) k L R K Q ∈ rs) {i : Nat} (hi' : i < k) :
    W.cell? ⟨g, o + i, none⟩ = some (.slice (R i) (i + 1) (K i)) ∧ g < W.heap.size ∧ Fm w W bs (nrowRd lo hi (R i) (i + 1) (L i) (Q i) :: rs) := by
  have hT : NTab W lo hi (some ⟨g, o, none⟩) k L R K Q := allR_at S.rd _ hm
  obtain ⟨b, off, e, hb1, hb2, hc⟩ := hT.arr (by omega)
  injection e with e
  injection e with e1 e2
  subst e1 e2
  exact ⟨hc i hi', (S.far _ hm g ⟨hb1, hb2⟩).1, S.also (nrowRd lo hi (R i) (i + 1) (L i) (Q i)) (hT.row i hi') (fun g hg => S.far _ hm g hg)⟩
/-! ### the examples -/
def awT : Tst := ⟨[-1, 0, 0], [2, 2, 1]⟩
theorem awT_v : validE awT = 0 := by
  refine validE_0 ⟨by decide, by decide⟩ rfl (fun i hi => ?_) rfl
  have : i = 0 ∨ i = 1 ∨ i = 2 := by have : i < 3 := hi; omega
  rcases this with rfl | rfl | rfl <;> (unfold vBad; decide)
theorem awT_b : TBd awT := ⟨by decide, by decide⟩
theorem aw_u : U (VT awT) 2 1 = 2 := by decide +kernel
theorem aw_p : rdN (allS (VT awT) 1 (2 - 1) awT.acc.length kP) (2 ^ awT.acc.length) = lim 1 ∧ rdD (allS (VT awT) 1 (2 - 1) awT.acc.length kP) (2 ^ awT.acc.length) = lim 4 := by
  rw [show allS (VT awT) 1 (2 - 1) awT.acc.length kP = 2 by decide +kernel, show 2 ^ awT.acc.length = 8 by decide]
  exact rd_eq (by decide) (by decide) (by decide) (by decide)
theorem aw_e : rdN (allS (VT awT) 1 (2 - 1) awT.acc.length kE) (2 ^ awT.acc.length) = lim 5 ∧ rdD (allS (VT awT) 1 (2 - 1) awT.acc.length kE) (2 ^ awT.acc.length) = lim 2 := by
  rw [show allS (VT awT) 1 (2 - 1) awT.acc.length kE = 20 by decide +kernel, show 2 ^ awT.acc.length = 8 by decide]
  exact rd_eq (by decide) (by decide) (by decide) (by decide)
/-- a bound -/
structure BdB (a d : Nat) : Prop where
  le : a ≤ d
  d1 : 1 ≤ d
  d2 : d < 4294967296
  g : Nat.gcd a d = 1
theorem BdB.v {a d : Nat} (h : BdB a d) : vR (lim a) (lim d) = true := vR_lim (sm_s (by have := h.le; have := h.d2; omega)) (sm_s (by have := h.d2; omega)) (by have := h.d1; omega) h.g
theorem pair_ok {a0 d0 a1 d1 an ad bn bd : Nat} (h0 : PrB a0 d0) (h1 : PrB a1 d1) (h2 : BdB an ad) (h3 : BdB bn bd) (hl : a0 * d1 < a1 * d0) : pairE (lim a0) (lim d0) (lim a1) (lim d1) (lim an) (lim ad) (lim bn) (lim bd) = 0 := by
  have hF : frE 2 2 (pk (lim a0) (lim a1)) (pk (lim d0) (lim d1)) (pk (lim an) (lim bn)) (pk (lim ad) (lim bd)) = 0 := by
    refine frE_0 (fun k _ => ?_) (fun k _ => ?_) (fun k _ => ?_) (fun k _ => ?_)
    · unfold pk; split <;> simp only [h0.v, h1.v]
    · unfold pk; split <;> simp only [h2.v, h3.v]
    · unfold pk; split
      · exact ⟨(cmp_le a0 d0).2 h0.le, (cmp_le d0 1000).2 h0.d2⟩
      · exact ⟨(cmp_le a1 d1).2 h1.le, (cmp_le d1 1000).2 h1.d2⟩
    · unfold pk; split
      · exact ⟨(cmp_le an ad).2 h2.le, by rw [vl_lim]; exact nbits_le.2 (by have := h2.d2; omega)⟩
      · exact ⟨(cmp_le bn bd).2 h3.le, by rw [vl_lim]; exact nbits_le.2 (by have := h3.d2; omega)⟩
  have b0 := h0.le
  have b1 := h1.le
  have b2 := h0.d2
  have b3 := h1.d2
  have m1 : a0 * d1 ≤ 1000 * 1000 := Nat.mul_le_mul (by omega) (by omega)
  have m2 : a1 * d0 ≤ 1000 * 1000 := Nat.mul_le_mul (by omega) (by omega)
  have hc := cmp_val h0.v h1.v (sm_s (by omega)) (sm_s (by omega))
  have hx : crE (lim a0) (lim d0) (lim a1) (lim d1) = 0 := hc.1
  have hr : rcV (lim a0) (lim d0) (lim a1) (lim d1) < 0 := by
    rw [hc.2]
    have h := cmpL_lt (lim_lim (a0 * d1)) (lim_lim (a1 * d0))
    rw [vl_lim, vl_lim, decide_eq_true hl] at h
    exact of_decide_eq_true h
  unfold pairE
  simp only [hF]
  rw [if_neg (by decide), if_neg (by simp only [hx]; omega)]
theorem aw_pair : pairE (lim 1) (lim 10) (lim 9) (lim 10) (lim 1) (lim 5) (lim 1) (lim 5) = 0 :=
  pair_ok ⟨by decide, by decide, by decide, by decide⟩ ⟨by decide, by decide, by decide, by decide⟩ ⟨by decide, by decide, by decide, by decide⟩ ⟨by decide, by decide, by decide, by decide⟩ (by decide)
theorem aw_des {w w' : World} {v : Value} (h : DesR w (okD 1 10 9 10 1 5 1 5) 3 v w') : TRes w (fixT 1 0) 0 v w' := by
  have e0 : okD 1 10 9 10 1 5 1 5 1 0 = false := by decide +kernel
  have e1 : okD 1 10 9 10 1 5 1 5 1 1 = true := by decide +kernel
  have h1 : NoD (okD 1 10 9 10 1 5 1 5) 1 1 := (NoD.start _).next e0
  rcases h with ⟨n, c, l1, l2, l3, ok, hn, hr⟩ | ⟨hn, _⟩
  · obtain ⟨rfl, rfl⟩ := hn.uniq h1 ok e1 l1 l3 (by decide) (by decide)
    exact hr
  · rw [hn.1 1 1 (by decide) (by decide) (by decide)] at e1
    cases e1
end Go.Proofs.YtpoddmkimhkmoaaGreat
namespace Go.Proofs.YtpoddmkimhkmoaaGreat
open Go.RowKit Go.Sv Go.Pw
theorem vR_is {n d : List Int} (ln : Lim n) (ld : Lim d) (h : vR n d = true) : n = lim (vl n) ∧ d = lim (vl d) :=
  ⟨lim_vl ln (vN_can (vR_pos h).1).2, lim_vl ld (vN_can (vR_pos h).2.1).2⟩
theorem vR_sm {n d : List Int} (ln : Lim n) (ld : Lim d) (h : vR n d = true) : sm (vl n) ∧ sm (vl d) := by
  obtain ⟨h1, h2⟩ := vR_is ln ld h
  have x := (vN_can (vR_pos h).1).1
  have y := (vN_can (vR_pos h).2.1).1
  rw [h1] at x
  rw [h2] at y
  exact ⟨x, y⟩
theorem vR_one : vR (lim 1) (lim 1) = true := vR_lim (sm_s (by decide)) (sm_s (by decide)) (by decide) (by decide)
theorem rc_one {n d : List Int} (ln : Lim n) (ld : Lim d) (h : vR n d = true) : rcV n d (lim 1) (lim 1) = cmpL n d := by
  obtain ⟨h1, h2⟩ := vR_is ln ld h
  obtain ⟨s1, s2⟩ := vR_sm ln ld h
  have h' : vR (lim (vl n)) (lim (vl d)) = true := by rw [← h1, ← h2]; exact h
  have x := (cmp_val h' vR_one (by rw [Nat.mul_one]; exact s1) (by rw [Nat.one_mul]; exact s2)).2
  rw [Nat.mul_one, Nat.one_mul, ← h1, ← h2] at x
  exact x
theorem pr_is {n d : List Int} (ln : Lim n) (ld : Lim d) (h : vR n d = true) : (rcV n d (lim 1) (lim 1) ≤ 0 ∧ cmpL d (lim 1000) ≤ 0) ↔ pOk n d := by
  unfold pOk; rw [rc_one ln ld h]
theorem bd_is {n d : List Int} (ln : Lim n) (ld : Lim d) (h : vR n d = true) : (rcV n d (lim 1) (lim 1) ≤ 0 ∧ d.length = 1) ↔ bOk n d := by
  unfold bOk
  rw [rc_one ln ld h]
  have h0 := (vR_pos h).2.2.1
  obtain ⟨-, h2⟩ := vR_is ln ld h
  have e1 : d.length ≤ 1 ↔ ((vl d : Nat) : Int) < Bp 1 := by
    have := lim_len_le (N := vl d) (k := 1)
    rw [← h2] at this
    exact this
  have e2 : d.length = 0 ↔ vl d = 0 := by
    have := lim_len_zero (N := vl d)
    rw [← h2] at this
    exact this
  rw [Bp_pow] at e1
  have e3 : nbits (vl d) ≤ 32 ↔ vl d < 2 ^ 32 := nbits_le
  have e4 : ((vl d : Nat) : Int) < ((2 ^ (32 * 1) : Nat) : Int) ↔ vl d < 2 ^ 32 := by rw [Int.ofNat_lt]
  rw [e4] at e1
  constructor
  · rintro ⟨a, b⟩
    exact ⟨a, e3.2 (e1.1 (by omega))⟩
  · rintro ⟨a, b⟩
    have := e1.2 (e3.1 b)
    exact ⟨a, by omega⟩
theorem prE_1 {n d : List Int} (h : vR n d = false) : prE n d = 1 := frE_1a (k := 0) (by decide) h
theorem prE_7 {n d : List Int} (h : vR n d = true) (h2 : ¬ pOk n d) : prE n d = 7 := frE_7a (fun _ _ => h) (fun _ hj => by omega) (k := 0) (by decide) h2
theorem prE_0 {n d : List Int} (h : vR n d = true) (h2 : pOk n d) : prE n d = 0 := frE_0 (fun _ _ => h) (fun _ hj => by omega) (fun _ _ => h2) (fun _ hj => by omega)
theorem pr_vals {n d : List Int} (ln : Lim n) (ld : Lim d) (h : vR n d = true) (h2 : pOk n d) : ∃ a e, n = lim a ∧ d = lim e ∧ PrB a e := by
  obtain ⟨e1, e2⟩ := vR_is ln ld h
  refine ⟨vl n, vl d, e1, e2, ?_, ?_, ?_, (vR_pos h).2.2.2⟩
  · have := h2.1
    rw [e1, e2] at this
    exact (cmp_le _ _).1 this
  · have := (vR_pos h).2.2.1
    omega
  · have := h2.2
    rw [e2] at this
    exact (cmp_le _ _).1 this
theorem bd_vals {n d : List Int} (ln : Lim n) (ld : Lim d) (h : vR n d = true) (h2 : bOk n d) : ∃ a e, n = lim a ∧ d = lim e ∧ BdB a e := by
  obtain ⟨e1, e2⟩ := vR_is ln ld h
  refine ⟨vl n, vl d, e1, e2, ?_, ?_, ?_, (vR_pos h).2.2.2⟩
  · have := h2.1
    rw [e1, e2] at this
    exact (cmp_le _ _).1 this
  · have := (vR_pos h).2.2.1
    omega
  · have := nbits_le.1 h2.2
    omega
section
variable {n0 d0 n1 d1 an ad bn bd : List Int} 
theorem pairE_1 (h : ¬ (vR n0 d0 = true ∧ vR n1 d1 = true ∧ vR an ad = true ∧ vR bn bd = true)) : pairE n0 d0 n1 d1 an ad bn bd = 1 := by
  have hF : frE 2 2 (pk n0 n1) (pk d0 d1) (pk an bn) (pk ad bd) = 1 := by
    by_cases c0 : vR n0 d0 = true
    · by_cases c1 : vR n1 d1 = true
      · by_cases c2 : vR an ad = true
        · exact frE_1b (k := 1) (by decide) (by
            show vR bn bd = false
            rcases Bool.eq_false_or_eq_true (vR bn bd) with c | c
            · exact absurd ⟨c0, c1, c2, c⟩ h
            · exact c)
        · exact frE_1b (k := 0) (by decide) (Bool.eq_false_iff.2 c2)
      · exact frE_1a (k := 1) (by decide) (Bool.eq_false_iff.2 c1)
    · exact frE_1a (k := 0) (by decide) (Bool.eq_false_iff.2 c0)
  unfold pairE
  simp only [hF]
  rw [if_pos (by decide)]
theorem pk_vR (v0 : vR n0 d0 = true) (v1 : vR n1 d1 = true) (k : Nat) : vR (pk n0 n1 k) (pk d0 d1 k) = true := by
  unfold pk; split <;> assumption
theorem pairE_7 (v0 : vR n0 d0 = true) (v1 : vR n1 d1 = true) (v2 : vR an ad = true) (v3 : vR bn bd = true) (h : ¬ (pOk n0 d0 ∧ pOk n1 d1 ∧ bOk an ad ∧ bOk bn bd)) : pairE n0 d0 n1 d1 an ad bn bd = 7 := by
  have hF : frE 2 2 (pk n0 n1) (pk d0 d1) (pk an bn) (pk ad bd) = 7 := by
    have w1 : ∀ k, k < 2 → vR (pk n0 n1 k) (pk d0 d1 k) = true := fun k _ => pk_vR v0 v1 k
    have w2 : ∀ k, k < 2 → vR (pk an bn k) (pk ad bd k) = true := fun k _ => pk_vR v2 v3 k
    by_cases c0 : pOk n0 d0
    · by_cases c1 : pOk n1 d1
      · by_cases c2 : bOk an ad
        · exact frE_7b w1 w2 (k := 1) (by decide) (fun c => h ⟨c0, c1, c2, c⟩)
        · exact frE_7b w1 w2 (k := 0) (by decide) c2
      · exact frE_7a w1 w2 (k := 1) (by decide) c1
    · exact frE_7a w1 w2 (k := 0) (by decide) c0
  unfold pairE
  simp only [hF]
  rw [if_pos (by decide)]
theorem pairE_end (v0 : vR n0 d0 = true) (v1 : vR n1 d1 = true) (v2 : vR an ad = true) (v3 : vR bn bd = true) (c0 : pOk n0 d0) (c1 : pOk n1 d1) (c2 : bOk an ad) (c3 : bOk bn bd) :
    pairE n0 d0 n1 d1 an ad bn bd = if crE n0 d0 n1 d1 ≠ 0 ∨ 0 ≤ rcV n0 d0 n1 d1 then 1 else 0 := by
  have hF : frE 2 2 (pk n0 n1) (pk d0 d1) (pk an bn) (pk ad bd) = 0 := by
    refine frE_0 (fun k _ => pk_vR v0 v1 k) (fun k _ => pk_vR v2 v3 k) (fun k _ => ?_) (fun k _ => ?_)
    · unfold pk; split <;> assumption
    · unfold pk; split <;> assumption
  unfold pairE
  simp only [hF]
  rw [if_neg (by decide)]
theorem pr_cmp {a d b e : Nat} (h : PrB a d) (k : PrB b e) : crE (lim a) (lim d) (lim b) (lim e) = 0 ∧ (rcV (lim a) (lim d) (lim b) (lim e) ≤ 0 ↔ a * e ≤ b * d) ∧ (0 ≤ rcV (lim a) (lim d) (lim b) (lim e) ↔ b * d ≤ a * e) := by
  have b0 := h.le
  have b1 := k.le
  have b2 := h.d2
  have b3 := k.d2
  have m1 : a * e ≤ 1000 * 1000 := Nat.mul_le_mul (by omega) (by omega)
  have m2 : b * d ≤ 1000 * 1000 := Nat.mul_le_mul (by omega) (by omega)
  have hc := cmp_val h.v k.v (sm_s (by omega)) (sm_s (by omega))
  refine ⟨hc.1, ?_, ?_⟩
  · rw [hc.2]; exact cmp_le _ _
  · rw [hc.2]
    have x := cmpL_lt (lim_lim (a * e)) (lim_lim (b * d))
    rw [vl_lim, vl_lim] at x
    have y : cmpL (lim (a * e)) (lim (b * d)) < 0 ↔ a * e < b * d := decide_eq_decide.1 x
    omega
variable (l0 : Lim n0) (m0 : Lim d0) (l1 : Lim n1) (m1 : Lim d1) (l2 : Lim an) (m2 : Lim ad) (l3 : Lim bn) (m3 : Lim bd)
include l0 m0 l1 m1
/-- the last test, as the reference has it -/
theorem pairE_ref (v0 : vR n0 d0 = true) (v1 : vR n1 d1 = true) (v2 : vR an ad = true) (v3 : vR bn bd = true) (c0 : pOk n0 d0) (c1 : pOk n1 d1) (c2 : bOk an ad) (c3 : bOk bn bd) :
    pairE n0 d0 n1 d1 an ad bn bd = if rcV n1 d1 n0 d0 ≤ 0 then 1 else 0 := by
  rw [pairE_end v0 v1 v2 v3 c0 c1 c2 c3]
  obtain ⟨a, d, rfl, rfl, pa⟩ := pr_vals l0 m0 v0 c0
  obtain ⟨b, e, rfl, rfl, pb⟩ := pr_vals l1 m1 v1 c1
  obtain ⟨x, -, y⟩ := pr_cmp pa pb
  obtain ⟨-, z, -⟩ := pr_cmp pb pa
  by_cases h : b * d ≤ a * e
  · rw [if_pos (.inr (y.2 h)), if_pos (z.2 h)]
  · rw [if_neg (by rintro (c | c); exact c x; exact h (y.1 c)), if_neg (fun c => h (z.1 c))]
include l2 m2 l3 m3
theorem pair_inv (h : pairE n0 d0 n1 d1 an ad bn bd = 0) : ∃ a0 e0 a1 e1 x y z t, n0 = lim a0 ∧ d0 = lim e0 ∧ n1 = lim a1 ∧ d1 = lim e1 ∧ an = lim x ∧ ad = lim y ∧ bn = lim z ∧ bd = lim t ∧ PrB a0 e0 ∧ PrB a1 e1 ∧ BdB x y ∧ BdB z t ∧ a0 * e1 < a1 * e0 := by
  have hv : vR n0 d0 = true ∧ vR n1 d1 = true ∧ vR an ad = true ∧ vR bn bd = true := by
    apply Classical.byContradiction
    intro c
    rw [pairE_1 c] at h
    cases h
  obtain ⟨v0, v1, v2, v3⟩ := hv
  have hc : pOk n0 d0 ∧ pOk n1 d1 ∧ bOk an ad ∧ bOk bn bd := by
    apply Classical.byContradiction
    intro c
    rw [pairE_7 v0 v1 v2 v3 c] at h
    cases h
  obtain ⟨c0, c1, c2, c3⟩ := hc
  rw [pairE_end v0 v1 v2 v3 c0 c1 c2 c3] at h
  obtain ⟨a, d, e1, e2, pa⟩ := pr_vals l0 m0 v0 c0
  obtain ⟨b, e, e3, e4, pb⟩ := pr_vals l1 m1 v1 c1
  obtain ⟨x, y, e5, e6, px⟩ := bd_vals l2 m2 v2 c2
  obtain ⟨z, t, e7, e8, pz⟩ := bd_vals l3 m3 v3 c3
  refine ⟨a, d, b, e, x, y, z, t, e1, e2, e3, e4, e5, e6, e7, e8, pa, pb, px, pz, ?_⟩
  rw [e1, e2, e3, e4] at h
  obtain ⟨-, -, k⟩ := pr_cmp pa pb
  apply Nat.lt_of_not_le
  intro c
  rw [if_pos (.inr (k.2 c))] at h
  cases h
end
end Go.Proofs.YtpoddmkimhkmoaaGreat
namespace Go.Proofs.YtpoddmkimhkmoaaGreat
open Go.RowKit Go.Sv
set_option maxHeartbeats 2000000 in
set_option maxRecDepth 100000 in
theorem xsame_t (w : World) (n d : List Int) (q r q2 r2 : LmP) (hn : RLm w w.heap.size n q) (hd : RLm w w.heap.size d r) (hn2 : RLm w w.heap.size n q2) (hd2 : RLm w w.heap.size d r2) :
    Calls Tryz.prog 20 #[ratV n q d r, ratV n q2 d r2] w (fun e w' => e = .returned (.bool true) ∧ Below w.heap.size w w') := by
  have S := Lib.hid (natArg (natArg (natArg (natArg (Fm.init w) hd2) hn2) hd) hn)
  have H1 := Lib.hid (fun q r w' (h1 : RLm w' w'.heap.size n q) (h2 : RLm w' w'.heap.size n r) => by
    have := same_any n n q r w' h1 h2
    rw [decide_eq_true rfl] at this
    exact this)
  have H2 := Lib.hid (fun q r w' (h1 : RLm w' w'.heap.size d q) (h2 : RLm w' w'.heap.size d r) => by
    have := same_any d d q r w' h1 h2
    rw [decide_eq_true rfl] at this
    exact this)
  obtain ⟨qa, qc⟩ := q
  obtain ⟨ra, rc⟩ := r
  obtain ⟨q2a, q2c⟩ := q2
  obtain ⟨r2a, r2c⟩ := r2
  replace S := Lib.hid (S.out.box 26 [.slice qa n.length qc, .slice ra d.length rc])
  replace S := Lib.hid (S.out.box' 26 [.slice q2a n.length q2c, .slice r2a d.length r2c] (K := w.heap.size + 1) (by simp))
  clear hn hd hn2 hd2
  go_enter Tryz.func20, Tryz.ntmps20
  go_wp2_with fail
  refine (H1.out _ _ _ S.out.r0 S.out.r2).mono ?_
  rintro e w1 ⟨rfl, hb⟩
  replace S := Lib.hid (S.out.call hb)
  clear hb
  obtain ⟨⟨z1, f1, y1, y1a, -⟩, ⟨z0, f0, y0, y0a, -⟩, -⟩ := S.out.facts
  go_wp2_with fail
  refine (H2.out _ _ _ S.out.r1 S.out.r3).mono ?_
  rintro e w2 ⟨rfl, hb⟩
  replace S := Lib.hid (S.out.call hb)
  clear hb z0 f0 y0 y0a z1 f1 y1 y1a
  obtain ⟨⟨z1, f1, y1, y1a, -⟩, ⟨z0, f0, y0, y0a, -⟩, -⟩ := S.out.facts
  go_wp2
  go_ret
  exact ⟨rfl, S.out.bel⟩
end Go.Proofs.YtpoddmkimhkmoaaGreat
