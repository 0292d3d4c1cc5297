/-
  CONTRACTS of sheaveref40.Small and sheaveref35.Matrix.
  Conditions: those that each theorem names.
-/
import Derived.Test.YtickckehhfdoeaaTopRf

namespace Go.Proofs.Ytickckehhfdoeaa
open Go.RowKit Go.Sv
/-- what Small hands back: the draft's problem -/
def SmR (w : World) (d : Dra) (v : Value) (w' : World) : Prop :=
  Below w.heap.size w w' ∧ ((d.vs.length ≤ 3 ∧ d.lk.length ≤ 4) ∧ (∃ q A n c b, v = .tuple #[probV (dProb d) q, .slice A n c, .bool b] ∧ RProb w' w'.heap.size (dProb d) q ∧ (q.a1 = none → (dProb d).now.length = 0 ∧ q.c1 = 0)) ∨
    ¬ (d.vs.length ≤ 3 ∧ d.lk.length ≤ 4) ∧ v = .tuple #[.agg #[.slice none 0 0, .slice none 0 0, .slice none 0 0, .slice none 0 0], .slice none 0 0, .bool false])
set_option maxHeartbeats 4000000 in
set_option maxRecDepth 100000 in
theorem small40_any (d : Dra) (q : ProbP) (w : World) (hd : RDra w w.heap.size d q) (hbd : DBd d) :
    Calls Try.prog 9 #[draV d q] w (Ret (SmR w d)) := by
  obtain ⟨qa0, qc0, qa1, qc1, qa2, qc2, qa3, qc3⟩ := q
  obtain ⟨W, hW, S⟩ : ∃ W, (w.alloc (.cells #[.slice qa0 d.vs.length qc0, .slice qa1 d.now.length qc1, .slice qa2 d.tgt.length qc2, .slice qa3 d.lk.length qc3] 32)).alloc (.cells #[.slice none 0 0, .slice none 0 0, .slice none 0 0, .slice none 0 0] 39) = W ∧ Fm w W [⟨w.heap.size + 1, 39, [.slice none 0 0, .slice none 0 0, .slice none 0 0, .slice none 0 0]⟩, ⟨w.heap.size, 32, [.slice qa0 d.vs.length qc0, .slice qa1 d.now.length qc1, .slice qa2 d.tgt.length qc2, .slice qa3 d.lk.length qc3]⟩] [] := ⟨_, rfl, ((Fm.init w).box 32 _).box' 39 _ (by simp)⟩
  have HO := Lib.hid (of35_any d ⟨qa0, qc0, qa1, qc1, qa2, qc2, qa3, qc3⟩ W ((hd.below S.bel).more S.bel.size) hbd)
  have hWs : W.heap.size = w.heap.size + 2 := by rw [← hW]; simp
  obtain ⟨⟨zr, fr, r0, r1, r2, r3, -⟩, ⟨zd, fd, d0, d1, d2, d3, -⟩, -⟩ := S.facts
  replace S := Lib.hid S
  replace hWs := Lib.hid hWs
  clear hd hbd
  go_enter Try.func9, Try.ntmps9
  go_wp2_with fail
  clear hW
  with_reducible refine HO.out.mono ?_
  rintro e' w1 ⟨_, rfl, hb1, hv⟩
  have S1 := Lib.hid (S.out.call hb1)
  clear zr fr r0 r1 r2 r3 zd fd d0 d1 d2 d3 HO
  by_cases hs : ¬ (d.vs.length ≤ 3 ∧ d.lk.length ≤ 4)
  · rw [if_neg hs] at hv
    subst hv
    clear hb1 S
    obtain ⟨⟨zr, fr, r0, r1, r2, r3, -⟩, ⟨zd, fd, d0, d1, d2, d3, -⟩, -⟩ := S1.out.facts
    go_upto_region 2 with fail
    obtain ⟨W2, hW2, S2, hb2⟩ := fm_boxE S1.out 39 [.slice none 0 0, .slice none 0 0, .slice none 0 0, .slice none 0 0]
    rw [hW2]
    have S3 := Lib.hid ((((S2.set 1 rfl 0 (.slice none 0 0)).set 1 rfl 1 (.slice none 0 0)).set 1 rfl 2 (.slice none 0 0)).set 1 rfl 3 (.slice none 0 0))
    clear hW2 hb2 zr fr r0 r1 r2 r3 zd fd d0 d1 d2 d3
    obtain ⟨⟨zp, fp, p0, p1, p2, p3, -⟩, ⟨zr, fr, r0, r1, r2, r3, -⟩, -⟩ := S2.facts
    clear S2
    go_wp2
    clear zp fp p0 p1 p2 p3 zr fr r0 r1 r2 r3
    obtain ⟨-, ⟨zr, fr, r0, r1, r2, r3, -⟩, -⟩ := S3.out.facts
    refine bodyPost_ret (v := .tuple #[.agg #[.slice none 0 0, .slice none 0 0, .slice none 0 0, .slice none 0 0], .slice none 0 0, .bool false]) (by simp [results, Try.results9, go_sem, r0, r1, r2, r3]) rfl ?_
    exact Ret.mk ⟨S3.out.bel, Or.inr ⟨hs, rfl⟩⟩
  rw [Classical.not_not] at hs
  rw [if_pos hs] at hv
  obtain ⟨⟨y0, v0, y1, v1, y2, v2, y3, v3⟩, F, rfl, hPO⟩ := hv
  have hp0 := dProb_ok hs.1 hs.2
  have hpb := dProb_bd hs.1 hs.2
  have hgoal : Hid (∀ (w' : World) (A : Option Addr) (n c : Nat) (b : Bool), Below w.heap.size w w' → RProb w' w'.heap.size (dProb d) ⟨y0, v0, y1, v1, y2, v2, y3, v3⟩ → (y1 = none → (dProb d).now.length = 0 ∧ v1 = 0) → SmR w d (.tuple #[probV (dProb d) ⟨y0, v0, y1, v1, y2, v2, y3, v3⟩, .slice A n c, .bool b]) w') :=
    Lib.hid (fun w' A n c b hb hr hn => ⟨hb, Or.inl ⟨hs, ⟨y0, v0, y1, v1, y2, v2, y3, v3⟩, A, n, c, b, rfl, hr, hn⟩⟩)
  obtain ⟨p, hpd⟩ : ∃ p, dProb d = p := ⟨_, rfl⟩
  rw [hpd] at hp0 hpb hPO hgoal ⊢
  have hPOf := Lib.hid hPO
  have hPr := hPO.prob
  have hn1 : y1 = none → p.now.length = 0 ∧ v1 = 0 := fun h => by
    have h2 := hPO.o1
    dsimp only at h2
    rw [h] at h2
    exact own_none h2
  obtain ⟨W2, (hW2 : w1.alloc (.cells #[.slice y0 p.vs.length v0, .slice y1 p.now.length v1, .slice y2 p.tgt.length v2, .slice y3 p.tabs.length v3] 39) = W2), S2, hB2⟩ := fm_boxE S1.out 39 [.slice y0 p.vs.length v0, .slice y1 p.now.length v1, .slice y2 p.tgt.length v2, .slice y3 p.tabs.length v3]
  have HR := Lib.hid (rregion_any p ⟨y0, v0, y1, v1, y2, v2, y3, v3⟩ W2 (hPr.to hB2) hpb hp0)
  have hw1 : W.heap.size ≤ w1.heap.size := hb1.size
  have hPO2 := Lib.hid (hPO.to hB2)
  obtain ⟨⟨zp, fp, p0, p1, p2, p3, -⟩, ⟨zr, fr, r0, r1, r2, r3, -⟩, -⟩ := S2.facts
  replace S2 := Lib.hid S2
  replace hn1 := Lib.hid hn1
  replace hpd := Lib.hid hpd
  clear hPr hB2 hs hpb hp0 hb1 hPO hPOf S S1
  go_wp2_with fail
  clear hW2
  with_reducible refine HR.out.mono ?_
  rintro e' w3 ⟨_, rfl, hb3, A, n, c, b, rfl⟩
  have S3 := S2.out.call hb3
  have hPO3 := hPO2.out.to hb3
  clear zp fp p0 p1 p2 p3 zr fr r0 r1 r2 r3 HR S2
  obtain ⟨⟨zp, fp, p0, p1, p2, p3, -⟩, ⟨zr, fr, r0, r1, r2, r3, -⟩, -⟩ := S3.facts
  have S4 := Lib.hid ((((S3.set 1 rfl 0 (.slice y0 p.vs.length v0)).set 1 rfl 1 (.slice y1 p.now.length v1)).set 1 rfl 2 (.slice y2 p.tgt.length v2)).set 1 rfl 3 (.slice y3 p.tabs.length v3))
  have hPO4 := hPO3.far4 (b := w.heap.size + 1) (by rw [hWs.out]; omega) (.slice y0 p.vs.length v0) (.slice y1 p.now.length v1) (.slice y2 p.tgt.length v2) (.slice y3 p.tabs.length v3)
  have hPr4 := Lib.hid hPO4.prob
  clear hPO4 hPO3 S3 hb3
  go_wp2
  clear zp fp p0 p1 p2 p3 zr fr r0 r1 r2 r3
  obtain ⟨-, ⟨zr, fr, r0, r1, r2, r3, -⟩, -⟩ := S4.out.facts
  refine bodyPost_ret (v := .tuple #[probV p ⟨y0, v0, y1, v1, y2, v2, y3, v3⟩, .slice A n c, .bool b]) (by simp [results, Try.results9, go_sem, r0, r1, r2, r3]) rfl ?_
  exact Ret.mk (hgoal.out _ A n c b S4.out.bel hPr4.out hn1.out)
end Go.Proofs.Ytickckehhfdoeaa

namespace Go.Proofs.Ytickckehhfdoeaa
open Go.RowKit Go.Sv
/-- the first n rows of a matrix of the call's own, and their blocks -/
structure OMp (W : World) (B : Nat) (m : List (List Bool)) (v : Value) (g c : Nat → Nat) (n : Nat) : Prop where
  o : W.ownsRow B 48 1 v n (rowM n fun k => .slice (some ⟨g k, 0, none⟩) (mlen m k) (c k))
  r : ∀ k, k < n → W.ownsRow B 4 1 (.slice (some ⟨g k, 0, none⟩) (mlen m k) (c k)) (mlen m k) (rowM (mlen m k) fun j => .bool (mat m k j))
  lt : ∀ k, k < n → B ≤ g k ∧ g k < W.heap.size
  up : ∀ i k, i < k → k < n → g i < g k
theorem OMp.to {W W' : World} {B : Nat} {m : List (List Bool)} {v : Value} {g c : Nat → Nat} {n : Nat} (h : OMp W B m v g c n) (hb : Below W.heap.size W W') : OMp W' B m v g c n :=
  ⟨own_to h.o hb, fun k hk => own_to (h.r k hk) hb, fun k hk => ⟨(h.lt k hk).1, Nat.lt_of_lt_of_le (h.lt k hk).2 hb.size⟩, h.up⟩
theorem OMp.base {W : World} {B B' : Nat} {m : List (List Bool)} {v : Value} {g c : Nat → Nat} {n : Nat} (h : OMp W B m v g c n) (hb : B' ≤ B) : OMp W B' m v g c n :=
  ⟨own_base h.o hb, fun k hk => own_base (h.r k hk) hb, fun k hk => ⟨Nat.le_trans hb (h.lt k hk).1, (h.lt k hk).2⟩, h.up⟩
theorem OMp.own {W : World} {B : Nat} {m : List (List Bool)} {v : Value} {g c : Nat → Nat} (h : OMp W B m v g c m.length) : OwnMt W B m v := ⟨fun k => (some ⟨g k, 0, none⟩, c k), h.o, h.r⟩
theorem own_some {w : World} {B s n : Nat} {e : TypeId} {v : Value} {xs : List Value} (h : w.ownsRow B e s v n xs) {g : Nat} (hg : v.ownBlock = some g) : ∃ c, v = .slice (some ⟨g, 0, none⟩) n c ∧ B ≤ g ∧ g < w.heap.size := by
  rcases h.2 with ⟨rfl, _⟩ | ⟨b, cap, cur, rfl, hb, hw, _⟩
  · cases hg
  · have e1 : b = g := by injection hg
    subst e1
    have hw' : Whole w b e cur := hw
    exact ⟨cap, rfl, hb, hw'.lt⟩
def updN (g : Nat → Nat) (i x k : Nat) : Nat := if k = i then x else g k
theorem updN_lt {g : Nat → Nat} {i x k : Nat} (h : k < i) : updN g i x k = g k := if_neg (by omega)
theorem updN_at {g : Nat → Nat} {i x : Nat} : updN g i x i = x := if_pos rfl
theorem OMp.snoc {w w2 w3 : World} {B i g0 c0 : Nat} {m : List (List Bool)} {v v3 : Value} {g c : Nat → Nat} {o : Obj} (h : OMp w B m v g c i) (h2 : Below w.heap.size w w2)
    (hr : w2.ownsRow w.heap.size 4 1 (.slice (some ⟨g0, 0, none⟩) (mlen m i) c0) (mlen m i) (rowM (mlen m i) fun j => .bool (mat m i j))) (hg0 : w.heap.size ≤ g0 ∧ g0 < w2.heap.size) (hB : B ≤ w.heap.size)
    (ho : w3.ownsRow B 48 1 v3 (i + 1) ((rowM i fun k => .slice (some ⟨g k, 0, none⟩) (mlen m k) (c k)) ++ [.slice (some ⟨g0, 0, none⟩) (mlen m i) c0])) (hg : (w2.alloc o).grownBy w3 v.ownBlock) (hs : w2.heap.size ≤ w3.heap.size) :
    OMp w3 B m v3 (updN g i g0) (updN c i c0) (i + 1) := by
  have ha : Below w2.heap.size w2 (w2.alloc o) := (Below.refl _ _).alloc (Nat.le_refl _) o
  have hu := own_to (own_to h.o h2) ha
  refine ⟨?_, fun k hk => ?_, fun k hk => ?_, fun a b hab hb => ?_⟩
  · have e : (rowM (i + 1) fun k => Value.slice (some ⟨updN g i g0 k, 0, none⟩) (mlen m k) (updN c i c0 k)) = (rowM i fun k => Value.slice (some ⟨g k, 0, none⟩) (mlen m k) (c k)) ++ [.slice (some ⟨g0, 0, none⟩) (mlen m i) c0] := by
      unfold rowM
      rw [List.range_succ, List.map_append]
      congr 1
      · apply List.map_congr_left
        intro k hk
        rw [updN_lt (List.mem_range.1 hk), updN_lt (List.mem_range.1 hk)]
      · simp [updN_at]
    rw [e]
    exact ho
  · by_cases cc : k < i
    · rw [updN_lt cc, updN_lt cc]
      exact ownO_other (own_to (own_to (h.r k cc) h2) ha) hu (by decide) hg
    · obtain rfl : k = i := by omega
      rw [updN_at, updN_at]
      exact own_base (ownO_other (own_to hr ha) hu (by decide) hg) hB
  · by_cases cc : k < i
    · rw [updN_lt cc]
      have := h.lt k cc
      have := h2.size
      omega
    · obtain rfl : k = i := by omega
      rw [updN_at]
      omega
  · by_cases cc : b < i
    · rw [updN_lt cc, updN_lt (by omega)]
      exact h.up a b hab cc
    · obtain rfl : b = i := by omega
      rw [updN_at, updN_lt hab]
      have := h.lt a hab
      omega
/-- what Matrix hands back -/
def MtR (w : World) (m : List (List Bool)) (v : Value) (w' : World) : Prop := Below w.heap.size w w' ∧ ∃ A c0 g c, v = .slice A m.length c0 ∧ OMp w' w.heap.size m v g c m.length
set_option maxHeartbeats 4000000 in
set_option maxRecDepth 100000 in
theorem rmatrix_any (m : List (List Bool)) (A : Option Addr) (cA : Nat) (w : World) (hm : RMat w w.heap.size A m) (hl : m.length ≤ 1000000) (hl2 : ∀ k, k < m.length → mlen m k ≤ 1000000) :
    Calls Try.prog 54 #[.slice A m.length cA] w (Ret (MtR w m)) := by
  obtain ⟨r, hm1, hm2⟩ := hm
  replace hm1 := Lib.hid hm1
  replace hm2 := Lib.hid hm2
  replace hl2 := Lib.hid hl2
  obtain ⟨n, hn⟩ : ∃ n, m.length = n := ⟨_, rfl⟩
  rw [hn] at hm1 hm2 hl hl2 ⊢
  replace hn := Lib.hid hn
  go_enter Try.func54, Try.ntmps54
  go_wp2_with fail
  go_loopw [3, 4] (fun s3 s4 wr => ∃ (i : Nat) (g c : Nat → Nat), s4 = .int .i64 (i : Int) ∧ i ≤ n ∧ Hid (OMp wr w.heap.size m s3 g c i) ∧ Below w.heap.size w wr) (fun _ s4 _ => n - (intOf s4).toNat)
  case atStart => exact ⟨0, fun _ => 0, fun _ => 0, rfl, Nat.zero_le _, Lib.hid ⟨World.ownsRow_nil _ _ _ _, (fun k hk => by omega), (fun k hk => by omega), (fun a b h1 h2 => by omega)⟩, Below.refl _ _⟩
  case round =>
    obtain ⟨i, g, c, rfl, hi, hO, hb⟩ := hrel
    have hz : w.heap.size ≤ wr.heap.size := hb.size
    by_cases hlt : i < n
    · obtain ⟨bA, oA, rfl, hbA, hcA⟩ := hm1.out (by omega)
      have d := (hb.cell (p := ⟨bA, oA + i, none⟩) hbA).trans (hcA i hlt)
      dsimp only at d
      have hrow := hm2.out i hlt
      have hlk := hl2.out i hlt
      obtain ⟨⟨ra, rc⟩, hr⟩ : ∃ z, r i = z := ⟨_, rfl⟩
      rw [hr] at d hrow
      dsimp only at d hrow
      obtain ⟨f, hf⟩ : ∃ f : Nat → Value, (fun j => Value.bool (mat m i j)) = f := ⟨_, rfl⟩
      have hone : Hid (∀ u ∈ rowM (mlen m i) f, u.oneCell' = true) := Lib.hid (fun u hu => by
        unfold rowM at hu
        obtain ⟨j, _, rfl⟩ := List.mem_map.1 hu
        rw [← hf]; rfl)
      rw [hf] at hrow
      obtain ⟨k, hk⟩ : ∃ k, mlen m i = k := ⟨_, rfl⟩
      rw [hk] at d hrow hlk hone
      have hnil : Hid (ra = none → k = 0) := Lib.hid (fun h => by
        rcases Nat.eq_zero_or_pos k with h0 | h0
        · exact h0
        · obtain ⟨b, o, e, _⟩ := hrow h0
          rw [h] at e; cases e)
      have hrow2 := Lib.hid (hrow.below hb)
      have ji : (i : Int) < (n : Int) := by omega
      have hbw : bA < wr.heap.size := by omega
      have hbh := Lib.hid hb
      clear hcA hrow hb hr
      go_wp2_with (at_builtin; refine append_arr elB rfl _ _ rfl wr.heap.size _ 0 [] (own_empty (Whole.new wr 4 #[]) (Nat.le_refl _)) rfl _ _ _ (rowM k f) rfl (by rw [rowM_len, Nat.mul_one]) hone.out ?c1 ?c2 (by omega) (by omega) (by simp) ?_)
      case c1 => exact hnil.out
      case c2 => exact arr_cells (hrow2.out.below ((Below.refl w.heap.size wr).alloc hz _))
      intro v' w2 hown2 hg2 hb2 hor2
      try simp only [Nat.zero_add, List.nil_append] at hown2
      have hob : ∃ g0, v'.ownBlock = some g0 := by
        rcases hor2 with e | e
        · exact ⟨wr.heap.size, e⟩
        · exact ⟨_, e⟩
      obtain ⟨g0, hob⟩ := hob
      obtain ⟨c0, rfl, hB0, hL0⟩ := own_some hown2 hob
      have hb02 : Below wr.heap.size wr w2 := ((Below.refl _ _).alloc (Nat.le_refl _) _).trans hb2
      have hz2 : w.heap.size ≤ w2.heap.size := by have := hb02.size; omega
      have O2 := Lib.hid (own_to hO.out.o hb02)
      clear hg2 hb2 hor2 hob d
      go_wp2_with (at_builtin; refine push_own elR rfl _ _ rfl w.heap.size _ i _ O2.out rfl [.slice (some ⟨g0, 0, none⟩) k c0] rfl rfl rfl (by omega) (by omega) hz2 ?_)
      intro v3 w3 hown3 hg3 hb3 hs3 _
      have hO3 := Lib.hid (hO.out.snoc (c0 := c0) (g0 := g0) hb02 (by rw [hk, hf]; exact hown2) ⟨hB0, hL0⟩ hz (by rw [hk]; exact hown3) hg3 (by omega))
      have hb4 := hbh.out.trans ((hb02.mono hz).trans hb3)
      clear hown2 hown3 hg3 hb3 hs3 hb02
      go_wp2
      go_roundw
      case rel => exact ⟨i + 1, _, _, by go_num, by omega, hO3, hb4⟩
      case measure => simp [intOf]; omega
    · obtain rfl : n = i := by omega
      clear hlt
      obtain ⟨A0, c0, rfl, _⟩ := own_form hO.out.o
      have hR : Hid (MtR w m (.slice A0 n c0) wr) := Lib.hid ⟨hb, A0, c0, g, c, by rw [hn.out], by rw [hn.out]; exact hO.out⟩
      clear hb hO
      go_wp2
      go_ret
      exact Ret.mk hR.out
end Go.Proofs.Ytickckehhfdoeaa

namespace Go.Proofs.Ytickckehhfdoeaa
open Go.RowKit Go.Sv
theorem OMp.far {W : World} {B b : Nat} {m : List (List Bool)} {v : Value} {g c : Nat → Nat} {n : Nat} (h : OMp W B m v g c n) (hb : b < B) (i : Nat) (u : Value) : OMp (W.setCell ⟨b, i, none⟩ u) B m v g c n :=
  ⟨own_far h.o hb _ _, fun k hk => own_far (h.r k hk) hb _ _, fun k hk => ⟨(h.lt k hk).1, by have := (h.lt k hk).2; simpa using this⟩, h.up⟩
theorem OMp.far6 {W : World} {B b : Nat} {m : List (List Bool)} {v : Value} {g c : Nat → Nat} {n : Nat} (h : OMp W B m v g c n) (hb : b < B) (u0 u1 u2 u3 u4 u5 : Value) : OMp ((((((W.setCell ⟨b, 0, none⟩ u0).setCell ⟨b, 1, none⟩ u1).setCell ⟨b, 2, none⟩ u2).setCell ⟨b, 3, none⟩ u3).setCell ⟨b, 4, none⟩ u4).setCell ⟨b, 5, none⟩ u5) B m v g c n :=
  (((((h.far hb _ _).far hb _ _).far hb _ _).far hb _ _).far hb _ _).far hb _ _
/-- what copied hands back -/
def CpR (w : World) (t : Tab) (v : Value) (w' : World) : Prop := Below w.heap.size w w' ∧ ∃ (F : TabP) (g c h d : Nat → Nat), v = tabV t F ∧ OMp w' w.heap.size t.ok (.slice F.okA t.ok.length F.okC) g c t.ok.length ∧ OMp w' w.heap.size t.rw (.slice F.rwA t.rw.length F.rwC) h d t.rw.length ∧
  ∀ u x, u < t.ok.length → x < t.rw.length → g u ≠ h x
set_option maxHeartbeats 4000000 in
set_option maxRecDepth 100000 in
theorem rcopied35_any (t : Tab) (q : TabP) (w : World) (hm : RTab w w.heap.size t q) (h1 : t.ok.length ≤ 1000000) (h2 : ∀ k, k < t.ok.length → mlen t.ok k ≤ 1000000) (h3 : t.rw.length ≤ 1000000) (h4 : ∀ k, k < t.rw.length → mlen t.rw k ≤ 1000000) :
    Calls Try.prog 26 #[tabV t q, .int .i64 t.src, .int .i64 t.dst] w (Ret (CpR w t)) := by
  obtain ⟨qa, qc, ra, rc⟩ := q
  obtain ⟨W, hW, S⟩ : ∃ W, (w.alloc (.cells #[.int .i64 t.kind, .int .i64 t.src, .int .i64 t.dst, .bool t.aware, .slice qa t.ok.length qc, .slice ra t.rw.length rc] 47)).alloc (.cells #[.int .i64 0, .int .i64 0, .int .i64 0, .bool false, .slice none 0 0, .slice none 0 0] 47) = W ∧
      Fm w W [⟨w.heap.size + 1, 47, [.int .i64 0, .int .i64 0, .int .i64 0, .bool false, .slice none 0 0, .slice none 0 0]⟩, ⟨w.heap.size, 47, [.int .i64 t.kind, .int .i64 t.src, .int .i64 t.dst, .bool t.aware, .slice qa t.ok.length qc, .slice ra t.rw.length rc]⟩] [] := ⟨_, rfl, ((Fm.init w).box 47 _).box' 47 _ (by simp)⟩
  have hWs : W.heap.size = w.heap.size + 2 := by rw [← hW]; simp
  have HM1 := Lib.hid (fun (W2 : World) (h : Below W.heap.size W W2) => rmatrix_any t.ok qa qc W2 (RMat.more (RMat.below hm.1 (S.bel.trans (h.mono S.size))) (Nat.le_trans S.size h.size)) h1 h2)
  have HM2 := Lib.hid (fun (W2 : World) (h : Below W.heap.size W W2) => rmatrix_any t.rw ra rc W2 (RMat.more (RMat.below hm.2 (S.bel.trans (h.mono S.size))) (Nat.le_trans S.size h.size)) h3 h4)
  have hdr : Hid (Below W.heap.size W W.drew) := Lib.hid ((Drawn.refl W).drew).below
  have Sd := Lib.hid (Fm.drew S)
  obtain ⟨⟨zr, fr, r0, r1, r2, r3, r4, r5, -⟩, ⟨zd, fd, d0, d1, d2, d3, d4, d5, -⟩, -⟩ := S.facts
  obtain ⟨kd, sr, ds, aw, ok, rw_⟩ := t
  dsimp only at *
  replace hWs := Lib.hid hWs
  clear S hm h1 h2 h3 h4
  go_enter Try.func26, Try.ntmps26
  go_wp2_with fail
  clear hW
  have i1 : ¬ w.heap.size = w.heap.size + 1 := by omega
  have i2 : ¬ w.heap.size + 1 = w.heap.size := by omega
  go_region_held3 (fun w' => w'.cell? ⟨w.heap.size, 0, none⟩ = some (.int .i64 kd) ∧ w'.cell? ⟨w.heap.size, 3, none⟩ = some (.bool aw) ∧ w'.cell? ⟨w.heap.size, 4, none⟩ = some (.slice qa ok.length qc) ∧ w'.cell? ⟨w.heap.size, 5, none⟩ = some (.slice ra rw_.length rc)) (go_keep)
    (first
      | ((with_reducible refine (HM1.out W.drew hdr.out).mono ?_)
         rintro e v1 ⟨_, rfl, hb1, A1, c1, g1, k1, rfl, hO1⟩
         have T1 := Lib.hid (Sd.out.call hb1)
         have hbv1 := Lib.hid (hdr.out.trans hb1)
         replace hO1 := Lib.hid hO1
         clear zr fr r0 r1 r2 r3 r4 r5 zd fd d0 d1 d2 d3 d4 d5 hb1
         obtain ⟨⟨zr, fr, r0, r1, r2, r3, r4, r5, -⟩, ⟨zd, fd, d0, d1, d2, d3, d4, d5, -⟩, -⟩ := T1.out.facts)
      | ((with_reducible refine (HM2.out W.drew hdr.out).mono ?_)
         rintro e x1 ⟨_, rfl, hb1, A2, c2, g2, k2, rfl, hO2⟩
         have T1 := Lib.hid (Sd.out.call hb1)
         have hbx1 := Lib.hid (hdr.out.trans hb1)
         replace hO2 := Lib.hid hO2
         clear zr fr r0 r1 r2 r3 r4 r5 zd fd d0 d1 d2 d3 d4 d5 hb1
         obtain ⟨⟨zr, fr, r0, r1, r2, r3, r4, r5, -⟩, ⟨zd, fd, d0, d1, d2, d3, d4, d5, -⟩, -⟩ := T1.out.facts)
      | ((with_reducible refine (HM2.out v1 hbv1.out).mono ?_)
         rintro e v2 ⟨_, rfl, hb2, A2, c2, g2, k2, rfl, hO2⟩
         have T2 := Lib.hid (T1.out.call hb2)
         have hne : Hid (∀ u x, u < ok.length → x < rw_.length → g1 u ≠ g2 x) := Lib.hid (fun u x hu hx => by
           have a := (hO1.out.lt u hu).2
           have b := (hO2.lt x hx).1
           omega)
         have P1 := Lib.hid ((hO1.out.to hb2).base (B' := W.heap.size) (Nat.le_refl _))
         have P2 := Lib.hid (hO2.base (B' := W.heap.size) hbv1.out.size)
         clear zr fr r0 r1 r2 r3 r4 r5 zd fd d0 d1 d2 d3 d4 d5 hb2
         obtain ⟨⟨zr, fr, r0, r1, r2, r3, r4, r5, -⟩, ⟨zd, fd, d0, d1, d2, d3, d4, d5, -⟩, -⟩ := T2.out.facts)
      | ((with_reducible refine (HM1.out x1 hbx1.out).mono ?_)
         rintro e v2 ⟨_, rfl, hb2, A1, c1, g1, k1, rfl, hO1⟩
         have T2 := Lib.hid (T1.out.call hb2)
         have hne : Hid (∀ u x, u < ok.length → x < rw_.length → g1 u ≠ g2 x) := Lib.hid (fun u x hu hx => by
           have a := (hO2.out.lt x hx).2
           have b := (hO1.lt u hu).1
           omega)
         have P1 := Lib.hid (hO1.base (B' := W.heap.size) hbx1.out.size)
         have P2 := Lib.hid ((hO2.out.to hb2).base (B' := W.heap.size) (Nat.le_refl _))
         clear zr fr r0 r1 r2 r3 r4 r5 zd fd d0 d1 d2 d3 d4 d5 hb2
         obtain ⟨⟨zr, fr, r0, r1, r2, r3, r4, r5, -⟩, ⟨zd, fd, d0, d1, d2, d3, d4, d5, -⟩, -⟩ := T2.out.facts))
  all_goals
    have S4 := Lib.hid ((((((T2.out.set 0 rfl 0 (.int .i64 kd)).set 0 rfl 1 (.int .i64 sr)).set 0 rfl 2 (.int .i64 ds)).set 0 rfl 3 (.bool aw)).set 0 rfl 4 (.slice A1 ok.length c1)).set 0 rfl 5 (.slice A2 rw_.length c2))
    have Q1 := Lib.hid ((P1.out.far6 (b := w.heap.size + 1) (by rw [hWs.out]; omega) (.int .i64 kd) (.int .i64 sr) (.int .i64 ds) (.bool aw) (.slice A1 ok.length c1) (.slice A2 rw_.length c2)).base (B' := w.heap.size) (by rw [hWs.out]; omega))
    have Q2 := Lib.hid ((P2.out.far6 (b := w.heap.size + 1) (by rw [hWs.out]; omega) (.int .i64 kd) (.int .i64 sr) (.int .i64 ds) (.bool aw) (.slice A1 ok.length c1) (.slice A2 rw_.length c2)).base (B' := w.heap.size) (by rw [hWs.out]; omega))
    clear P1 P2 T2
    go_wp2
    clear zr fr r0 r1 r2 r3 r4 r5 zd fd d0 d1 d2 d3 d4 d5
    obtain ⟨⟨zr, fr, r0, r1, r2, r3, r4, r5, -⟩, -⟩ := S4.out.facts
    refine bodyPost_ret (v := tabV ⟨kd, sr, ds, aw, ok, rw_⟩ ⟨A1, c1, A2, c2⟩) (by simp [results, Try.results26, go_sem, r0, r1, r2, r3, r4, r5]) rfl ?_
    exact Ret.mk ⟨S4.out.bel, ⟨A1, c1, A2, c2⟩, g1, k1, g2, k2, rfl, Q1.out, Q2.out, hne.out⟩
end Go.Proofs.Ytickckehhfdoeaa

namespace Go.Proofs.Ytickckehhfdoeaa
open Go.RowKit Go.Sv
/-- the matrices of the first n tables, in levels -/
structure MxN (W : World) (B : Nat) (ts : List Tab) (F : Nat → TabP) (G C H D : Nat → Nat → Nat) (L : Nat → Nat) (n : Nat) : Prop where
  mt : ∀ k, k < n → OMp W B (tab ts k).ok (.slice (F k).okA (tab ts k).ok.length (F k).okC) (G k) (C k) (tab ts k).ok.length ∧ OMp W B (tab ts k).rw (.slice (F k).rwA (tab ts k).rw.length (F k).rwC) (H k) (D k) (tab ts k).rw.length
  gh : ∀ k, k < n → ∀ u x, u < (tab ts k).ok.length → x < (tab ts k).rw.length → G k u ≠ H k x
  lg : ∀ k, k < n → ∀ u, u < (tab ts k).ok.length → L k ≤ G k u ∧ G k u < L (k + 1)
  lh : ∀ k, k < n → ∀ u, u < (tab ts k).rw.length → L k ≤ H k u ∧ H k u < L (k + 1)
  mo : ∀ j k, j ≤ k → k ≤ n → L j ≤ L k
  tp : L n ≤ W.heap.size
theorem OMp.other {W W' : World} {B B' s k : Nat} {e : TypeId} {m : List (List Bool)} {v u : Value} {g c : Nat → Nat} {n : Nat} {ys : List Value} (h : OMp W B m v g c n) (hu : W.ownsRow B' e s u k ys) (h1 : 48 ≠ e) (h2 : 4 ≠ e) (hg : W.grownBy W' u.ownBlock) (hz : W.heap.size ≤ W'.heap.size) : OMp W' B m v g c n :=
  ⟨ownO_other h.o hu h1 hg, fun k hk => ownO_other (h.r k hk) hu h2 hg, fun k hk => ⟨(h.lt k hk).1, Nat.lt_of_lt_of_le (h.lt k hk).2 hz⟩, h.up⟩
section
variable {W W' : World} {B : Nat} {ts : List Tab} {F : Nat → TabP} {G C H D : Nat → Nat → Nat} {L : Nat → Nat} {n : Nat}
theorem MxN.to (h : MxN W B ts F G C H D L n) (hb : Below W.heap.size W W') : MxN W' B ts F G C H D L n :=
  ⟨fun k hk => ⟨(h.mt k hk).1.to hb, (h.mt k hk).2.to hb⟩, h.gh, h.lg, h.lh, h.mo, Nat.le_trans h.tp hb.size⟩
theorem MxN.base {B' : Nat} (h : MxN W B ts F G C H D L n) (hb : B' ≤ B) : MxN W B' ts F G C H D L n :=
  ⟨fun k hk => ⟨(h.mt k hk).1.base hb, (h.mt k hk).2.base hb⟩, h.gh, h.lg, h.lh, h.mo, h.tp⟩
theorem MxN.far {b : Nat} (h : MxN W B ts F G C H D L n) (hb : b < B) (i : Nat) (u : Value) : MxN (W.setCell ⟨b, i, none⟩ u) B ts F G C H D L n :=
  ⟨fun k hk => ⟨(h.mt k hk).1.far hb _ _, (h.mt k hk).2.far hb _ _⟩, h.gh, h.lg, h.lh, h.mo, by have := h.tp; simpa using this⟩
theorem MxN.other {B' s k : Nat} {e : TypeId} {u : Value} {ys : List Value} (h : MxN W B ts F G C H D L n) (hu : W.ownsRow B' e s u k ys) (h1 : 48 ≠ e) (h2 : 4 ≠ e) (hg : W.grownBy W' u.ownBlock) (hz : W.heap.size ≤ W'.heap.size) : MxN W' B ts F G C H D L n :=
  ⟨fun k hk => ⟨(h.mt k hk).1.other hu h1 h2 hg hz, (h.mt k hk).2.other hu h1 h2 hg hz⟩, h.gh, h.lg, h.lh, h.mo, Nat.le_trans h.tp hz⟩
def updF {α : Type} (g : Nat → α) (i : Nat) (x : α) (k : Nat) : α := if k = i then x else g k
theorem updF_lt {α : Type} {g : Nat → α} {i k : Nat} {x : α} (h : k < i) : updF g i x k = g k := if_neg (by omega)
theorem updF_at {α : Type} {g : Nat → α} {i : Nat} {x : α} : updF g i x i = x := if_pos rfl
/-- one more table's matrices -/
theorem MxN.snoc {w2 : World} {f : TabP} {g c h2 d : Nat → Nat} (h : MxN W B ts F G C H D L n) (hb : Below W.heap.size W w2) (hB : B ≤ W.heap.size)
    (m1 : OMp w2 W.heap.size (tab ts n).ok (.slice f.okA (tab ts n).ok.length f.okC) g c (tab ts n).ok.length) (m2 : OMp w2 W.heap.size (tab ts n).rw (.slice f.rwA (tab ts n).rw.length f.rwC) h2 d (tab ts n).rw.length)
    (hne : ∀ u x, u < (tab ts n).ok.length → x < (tab ts n).rw.length → g u ≠ h2 x) :
    MxN w2 B ts (Fs n F f) (updF G n g) (updF C n c) (updF H n h2) (updF D n d) (updF (updF L n W.heap.size) (n + 1) w2.heap.size) (n + 1) := by
  have hl : ∀ k, k < n → updF (updF L n W.heap.size) (n + 1) w2.heap.size k = L k := fun k hk => by rw [updF_lt (by omega), updF_lt hk]
  have hn : updF (updF L n W.heap.size) (n + 1) w2.heap.size n = W.heap.size := by rw [updF_lt (by omega), updF_at]
  have hn1 : updF (updF L n W.heap.size) (n + 1) w2.heap.size (n + 1) = w2.heap.size := updF_at
  have hup : ∀ k, k < n → L (k + 1) ≤ updF (updF L n W.heap.size) (n + 1) w2.heap.size (k + 1) := fun k hk => by
    by_cases c2 : k + 1 < n
    · rw [hl _ c2]; exact Nat.le_refl _
    · have e : k + 1 = n := by omega
      rw [e, hn]; exact h.tp
  refine ⟨fun k hk => ?_, fun k hk => ?_, fun k hk u hu => ?_, fun k hk u hu => ?_, fun j k hjk hk => ?_, by rw [hn1]; exact Nat.le_refl _⟩
  · by_cases cc : k < n
    · rw [updF_lt cc, updF_lt cc, updF_lt cc, updF_lt cc, Fs_lt cc]
      exact ⟨(h.mt k cc).1.to hb, (h.mt k cc).2.to hb⟩
    · obtain rfl : k = n := by omega
      rw [updF_at, updF_at, updF_at, updF_at, Fs_at]
      exact ⟨m1.base hB, m2.base hB⟩
  · by_cases cc : k < n
    · rw [updF_lt cc, updF_lt cc]; exact h.gh k cc
    · obtain rfl : k = n := by omega
      rw [updF_at, updF_at]; exact hne
  · by_cases cc : k < n
    · rw [updF_lt cc, hl k cc]
      exact ⟨(h.lg k cc u hu).1, Nat.lt_of_lt_of_le (h.lg k cc u hu).2 (hup k cc)⟩
    · obtain rfl : k = n := by omega
      rw [updF_at, hn, hn1]; exact m1.lt u hu
  · by_cases cc : k < n
    · rw [updF_lt cc, hl k cc]
      exact ⟨(h.lh k cc u hu).1, Nat.lt_of_lt_of_le (h.lh k cc u hu).2 (hup k cc)⟩
    · obtain rfl : k = n := by omega
      rw [updF_at, hn, hn1]; exact m2.lt u hu
  · rcases Nat.lt_or_ge k n with c1 | c1
    · rw [hl k c1, hl j (by omega)]; exact h.mo j k hjk (by omega)
    · by_cases c2 : k = n
      · subst c2
        rw [hn]
        by_cases c3 : j = k
        · rw [c3, hn]; exact Nat.le_refl _
        · rw [hl j (by omega)]; exact Nat.le_trans (h.mo j k hjk (Nat.le_refl _)) h.tp
      · obtain rfl : k = n + 1 := by omega
        rw [hn1]
        by_cases c3 : j = n + 1
        · rw [c3, hn1]; exact Nat.le_refl _
        · by_cases c4 : j = n
          · rw [c4, hn]; exact hb.size
          · rw [hl j (by omega)]; exact Nat.le_trans (h.mo j n (by omega) (Nat.le_refl _)) (Nat.le_trans h.tp hb.size)
theorem MxN.nil : MxN W B ts F G C H D (fun _ => 0) 0 := ⟨(fun k hk => by omega), (fun k hk => by omega), (fun k hk => by omega), (fun k hk => by omega), (fun _ _ _ _ => Nat.le_refl _), Nat.zero_le _⟩
end
/-- a problem of the call's own -/
structure PX (W : World) (B : Nat) (p : Prob) (q : ProbP) (F : Nat → TabP) (G C H D : Nat → Nat → Nat) (L : Nat → Nat) : Prop where
  o0 : W.ownsRow B 3 1 (.slice q.a0 p.vs.length q.c0) p.vs.length (rowM p.vs.length (iv p.vs))
  o1 : W.ownsRow B 3 1 (.slice q.a1 p.now.length q.c1) p.now.length (rowM p.now.length (iv p.now))
  o2 : W.ownsRow B 3 1 (.slice q.a2 p.tgt.length q.c2) p.tgt.length (rowM p.tgt.length (iv p.tgt))
  o3 : W.ownsRow B 47 6 (.slice q.a3 p.tabs.length q.c3) p.tabs.length (tbRow p.tabs F)
  mm : MxN W B p.tabs F G C H D L p.tabs.length
section
variable {W W' : World} {B : Nat} {p : Prob} {q : ProbP} {F : Nat → TabP} {G C H D : Nat → Nat → Nat} {L : Nat → Nat}
theorem PX.po (h : PX W B p q F G C H D L) : PO W B p q F := ⟨h.o0, h.o1, h.o2, h.o3, fun k hk => ⟨(h.mm.mt k hk).1.own, (h.mm.mt k hk).2.own⟩⟩
theorem PX.to (h : PX W B p q F G C H D L) (hb : Below W.heap.size W W') : PX W' B p q F G C H D L := ⟨own_to h.o0 hb, own_to h.o1 hb, own_to h.o2 hb, own_to h.o3 hb, h.mm.to hb⟩
theorem PX.base {B' : Nat} (h : PX W B p q F G C H D L) (hb : B' ≤ B) : PX W B' p q F G C H D L := ⟨own_base h.o0 hb, own_base h.o1 hb, own_base h.o2 hb, own_base h.o3 hb, h.mm.base hb⟩
theorem PX.far {b : Nat} (h : PX W B p q F G C H D L) (hb : b < B) (i : Nat) (u : Value) : PX (W.setCell ⟨b, i, none⟩ u) B p q F G C H D L := ⟨own_far h.o0 hb _ _, own_far h.o1 hb _ _, own_far h.o2 hb _ _, own_far h.o3 hb _ _, h.mm.far hb _ _⟩
end
end Go.Proofs.Ytickckehhfdoeaa
