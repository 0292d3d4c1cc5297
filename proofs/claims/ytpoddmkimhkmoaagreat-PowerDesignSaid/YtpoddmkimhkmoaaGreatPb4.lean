/-
  CONTRACTS of power.add, sub, mul, pow.
  Conditions: those that each theorem names.
-/
import Derived.Test.YtpoddmkimhkmoaaGreatNt9
import Derived.Test.YtpoddmkimhkmoaaGreatNt3
import Derived.Test.YtpoddmkimhkmoaaGreatFm
import Derived.Test.YtpoddmkimhkmoaaGreatPb1
namespace Go.Proofs.YtpoddmkimhkmoaaGreat
open Go.RowKit Go.Sv
/-- what a call leaves that hands back a number, perhaps an old one -/
def NRes3v (w : World) (l : List Int) (v : Value) (w' : World) : Prop := ∃ q : LmP, v = natV l q ∧ RLm w' w'.heap.size l q ∧ Below w.heap.size w w'
theorem fm_nres3v {w W : World} {bs : List Bx} {rs : List Rd} {l : List Int} {q : LmP} (S : Fm w W bs rs) (hr : rowRd l q ∈ rs) : NRes3v w l (natV l q) W := ⟨q, rfl, natOld S hr, S.bel⟩
theorem fm_nres {w W : World} {bs : List Bx} {rs : List Rd} {l : List Int} {q : LmP} (S : Fm w W bs rs) (hr : rowRd l q ∈ rs) (hf : Fr w.heap.size q) : NRes w l (natV l q) W := ⟨q, rfl, natOld S hr, hf, S.bel⟩
set_option maxHeartbeats 2000000 in
set_option maxRecDepth 100000 in
theorem padd_any (w : World) (a : List Int) (qa : LmP) (ha : RLm w w.heap.size a qa) (la : Lim a) (b : List Int) (qb : LmP) (hb : RLm w w.heap.size b qb) (lb : Lim b) :
    Calls Tryz.prog 26 #[natV a qa, natV b qb] w (Ret (NRes w (sumV a b))) := by
  have S := Lib.hid (natArg (natArg (Fm.init w) hb) ha)
  have HA := Lib.hid (fun q0 q1 w' (h0 : RLm w' w'.heap.size (a) q0) (h1 : RLm w' w'.heap.size (b) q1) => by
    have := add_any (a) (b) q0 q1 w' h0 h1 (la) (lb)
    exact this)
  obtain ⟨V, hV⟩ : ∃ V, sumV a b = V := ⟨_, rfl⟩
  obtain ⟨E, hE⟩ : ∃ E, sumE a b = E := ⟨_, rfl⟩
  rw [hV, hE] at HA
  rw [hV]
  clear hV hE la lb
  obtain ⟨qaa, qac⟩ := qa
  obtain ⟨qba, qbc⟩ := qb
  replace S := Lib.hid (S.out.box 24 [.slice qaa a.length qac])
  replace S := Lib.hid (S.out.box' 24 [.slice qba b.length qbc] (K := w.heap.size + 1) (by simp))
  replace S := Lib.hid (S.out.box' 24 [.slice none 0 0] (K := w.heap.size + 1 + 1) (by simp))
  clear ha hb
  go_enter Tryz.func26, Tryz.ntmps26
  go_wp2_with fail
  refine (HA.out _ _ _ S.out.r0 S.out.r1).mono ?_
  rintro e w1 ⟨_, rfl, q1, rfl, hr, hf, hb⟩
  have fr1 := Lib.hid (hf.le S.out.size)
  replace S := Lib.hid (natRes S.out hr hf hb)
  clear hr hf hb
  obtain ⟨⟨z2, f2, y2, -⟩, ⟨z1, f1, y1, -⟩, ⟨z0, f0, y0, -⟩, -⟩ := S.out.facts
  replace S := Lib.hid (S.out.set 0 rfl 0 (.slice q1.a V.length q1.c))
  replace S := Lib.hid (S.out.box' 24 [.slice q1.a (V).length q1.c] (K := w1.heap.size) (by simp))
  go_wp2
  refine bodyPost_ret (v := natV V q1) (by simp [results, Tryz.results26, go_sem, y2, z2]) rfl ?_
  exact Ret.mk (fm_nres S.out (by simp) fr1.out)
set_option maxHeartbeats 2000000 in
set_option maxRecDepth 100000 in
theorem psub_any (w : World) (a : List Int) (qa : LmP) (ha : RLm w w.heap.size a qa) (la : Lim a) (b : List Int) (qb : LmP) (hb : RLm w w.heap.size b qb) (lb : Lim b) :
    Calls Tryz.prog 25 #[natV a qa, natV b qb] w (Ret (NRes w (difV a b))) := by
  have S := Lib.hid (natArg (natArg (Fm.init w) hb) ha)
  have HA := Lib.hid (fun q0 q1 w' (h0 : RLm w' w'.heap.size (a) q0) (h1 : RLm w' w'.heap.size (b) q1) => by
    have := sub_any (a) (b) q0 q1 w' h0 h1 (la) (lb)
    exact this)
  obtain ⟨V, hV⟩ : ∃ V, difV a b = V := ⟨_, rfl⟩
  obtain ⟨E, hE⟩ : ∃ E, difE a b = E := ⟨_, rfl⟩
  rw [hV, hE] at HA
  rw [hV]
  clear hV hE la lb
  obtain ⟨qaa, qac⟩ := qa
  obtain ⟨qba, qbc⟩ := qb
  replace S := Lib.hid (S.out.box 24 [.slice qaa a.length qac])
  replace S := Lib.hid (S.out.box' 24 [.slice qba b.length qbc] (K := w.heap.size + 1) (by simp))
  replace S := Lib.hid (S.out.box' 24 [.slice none 0 0] (K := w.heap.size + 1 + 1) (by simp))
  clear ha hb
  go_enter Tryz.func25, Tryz.ntmps25
  go_wp2_with fail
  refine (HA.out _ _ _ S.out.r0 S.out.r1).mono ?_
  rintro e w1 ⟨_, rfl, q1, rfl, hr, hf, hb⟩
  have fr1 := Lib.hid (hf.le S.out.size)
  replace S := Lib.hid (natRes S.out hr hf hb)
  clear hr hf hb
  obtain ⟨⟨z2, f2, y2, -⟩, ⟨z1, f1, y1, -⟩, ⟨z0, f0, y0, -⟩, -⟩ := S.out.facts
  replace S := Lib.hid (S.out.set 0 rfl 0 (.slice q1.a V.length q1.c))
  replace S := Lib.hid (S.out.box' 24 [.slice q1.a (V).length q1.c] (K := w1.heap.size) (by simp))
  go_wp2
  refine bodyPost_ret (v := natV V q1) (by simp [results, Tryz.results25, go_sem, y2, z2]) rfl ?_
  exact Ret.mk (fm_nres S.out (by simp) fr1.out)
set_option maxHeartbeats 2000000 in
set_option maxRecDepth 100000 in
theorem pmul_any (w : World) (a : List Int) (qa : LmP) (ha : RLm w w.heap.size a qa) (la : Lim a) (b : List Int) (qb : LmP) (hb : RLm w w.heap.size b qb) (lb : Lim b) :
    Calls Tryz.prog 47 #[natV a qa, natV b qb] w (Ret (NRes w (mulV a b))) := by
  have S := Lib.hid (natArg (natArg (Fm.init w) hb) ha)
  have HA := Lib.hid (fun q0 q1 w' (h0 : RLm w' w'.heap.size (a) q0) (h1 : RLm w' w'.heap.size (b) q1) => by
    have := mul_any (a) (b) q0 q1 w' h0 h1 (la) (lb)
    exact this)
  obtain ⟨V, hV⟩ : ∃ V, mulV a b = V := ⟨_, rfl⟩
  obtain ⟨E, hE⟩ : ∃ E, mulE a b = E := ⟨_, rfl⟩
  rw [hV, hE] at HA
  rw [hV]
  clear hV hE la lb
  obtain ⟨qaa, qac⟩ := qa
  obtain ⟨qba, qbc⟩ := qb
  replace S := Lib.hid (S.out.box 24 [.slice qaa a.length qac])
  replace S := Lib.hid (S.out.box' 24 [.slice qba b.length qbc] (K := w.heap.size + 1) (by simp))
  replace S := Lib.hid (S.out.box' 24 [.slice none 0 0] (K := w.heap.size + 1 + 1) (by simp))
  clear ha hb
  go_enter Tryz.func47, Tryz.ntmps47
  go_wp2_with fail
  refine (HA.out _ _ _ S.out.r0 S.out.r1).mono ?_
  rintro e w1 ⟨_, rfl, q1, rfl, hr, hf, hb⟩
  have fr1 := Lib.hid (hf.le S.out.size)
  replace S := Lib.hid (natRes S.out hr hf hb)
  clear hr hf hb
  obtain ⟨⟨z2, f2, y2, -⟩, ⟨z1, f1, y1, -⟩, ⟨z0, f0, y0, -⟩, -⟩ := S.out.facts
  replace S := Lib.hid (S.out.set 0 rfl 0 (.slice q1.a V.length q1.c))
  replace S := Lib.hid (S.out.box' 24 [.slice q1.a (V).length q1.c] (K := w1.heap.size) (by simp))
  go_wp2
  refine bodyPost_ret (v := natV V q1) (by simp [results, Tryz.results47, go_sem, y2, z2]) rfl ?_
  exact Ret.mk (fm_nres S.out (by simp) fr1.out)
set_option maxHeartbeats 2000000 in
set_option maxRecDepth 100000 in
theorem ppow_any (w : World) (a : List Int) (qa : LmP) (ha : RLm w w.heap.size a qa) (la : Lim a) (n : Int) :
    Calls Tryz.prog 24 #[natV a qa, .int .i64 n] w (Ret (NRes3v w (powV a n))) := by
  have S := Lib.hid (natArg (Fm.init w) ha)
  have HA := Lib.hid (fun q0 w' (h0 : RLm w' w'.heap.size a q0) => pow_any a q0 n w' h0 la)
  obtain ⟨V, hV⟩ : ∃ V, powV a n = V := ⟨_, rfl⟩
  obtain ⟨E, hE⟩ : ∃ E, powE a n = E := ⟨_, rfl⟩
  rw [hV, hE] at HA
  rw [hV]
  clear hV hE la
  obtain ⟨qaa, qac⟩ := qa
  replace S := Lib.hid (S.out.box 24 [.slice qaa a.length qac])
  replace S := Lib.hid (S.out.box' 24 [.slice none 0 0] (K := w.heap.size + 1) (by simp))
  clear ha
  go_enter Tryz.func24, Tryz.ntmps24
  go_wp2_with fail
  refine (HA.out _ _ S.out.r0).mono ?_
  rintro e w1 ⟨_, rfl, q1, rfl, hr, hb⟩
  replace S := Lib.hid (natOf S.out hr hb (by simp))
  clear hr hb
  obtain ⟨⟨z1, f1, y1, -⟩, ⟨z0, f0, y0, -⟩, -⟩ := S.out.facts
  replace S := Lib.hid (S.out.set 0 rfl 0 (.slice q1.a V.length q1.c))
  replace S := Lib.hid (S.out.box' 24 [.slice q1.a (V).length q1.c] (K := w1.heap.size) (by simp))
  go_wp2
  refine bodyPost_ret (v := natV V q1) (by simp [results, Tryz.results24, go_sem, y1, z1]) rfl ?_
  exact Ret.mk (fm_nres3v S.out (by simp))
end Go.Proofs.YtpoddmkimhkmoaaGreat
namespace Go.Proofs.YtpoddmkimhkmoaaGreat
open Go.RowKit Go.Sv
theorem pmul_v {a b : List Int} (va : vN a = true) (vb : vN b = true) : mulE a b = cutE (vl a * vl b) ∧ mulV a b = cutV (vl a * vl b) := by
  unfold mulE mulV
  rw [va, vb, Bool.and_self, if_pos rfl, if_pos rfl]
  exact ⟨rfl, rfl⟩
theorem psum_v {a b : List Int} (va : vN a = true) (vb : vN b = true) : sumE a b = cutE (vl a + vl b) ∧ sumV a b = cutV (vl a + vl b) := by
  unfold sumE sumV
  rw [va, vb, Bool.and_self, if_pos rfl, if_pos rfl]
  exact ⟨rfl, rfl⟩
end Go.Proofs.YtpoddmkimhkmoaaGreat
namespace Go.Proofs.YtpoddmkimhkmoaaGreat
open Go.RowKit Go.Sv
/-- small enough -/
def sm (N : Nat) : Prop := (lim N).length ≤ 128
theorem sm_of {N : Nat} (h : N < 2 ^ 250) : sm N := lim_len_le.2 (by
  have h2 := Bp_mono (show 8 ≤ 128 by omega)
  have e : Bp 8 = 115792089237316195423570985008687907853269984665640564039457584007913129639936 := by decide
  have h1 : N < 1809251394333065553493296640760748560207343510400633813116524750123642650624 := h
  omega)
theorem sm_s {N : Nat} (h : N < 18446744073709551616) : sm N := sm_of (Nat.lt_trans h (by decide))
theorem mul_lim {a b : Nat} (ha : sm a) (hb : sm b) (h : sm (a * b)) : mulE (lim a) (lim b) = 0 ∧ mulV (lim a) (lim b) = lim (a * b) := by
  obtain ⟨e1, e2⟩ := pmul_v (vN_lim ha) (vN_lim hb)
  rw [e1, e2, vl_lim, vl_lim]
  exact ⟨if_neg (Nat.not_lt.2 h), if_neg (Nat.not_lt.2 h)⟩
theorem sum_lim {a b : Nat} (ha : sm a) (hb : sm b) (h : sm (a + b)) : sumE (lim a) (lim b) = 0 ∧ sumV (lim a) (lim b) = lim (a + b) := by
  obtain ⟨e1, e2⟩ := psum_v (vN_lim ha) (vN_lim hb)
  rw [e1, e2, vl_lim, vl_lim]
  exact ⟨if_neg (Nat.not_lt.2 h), if_neg (Nat.not_lt.2 h)⟩
theorem dif_lim {a b : Nat} (ha : sm a) (hb : sm b) (h : b ≤ a) : difE (lim a) (lim b) = 0 ∧ difV (lim a) (lim b) = lim (a - b) := by
  unfold difE difV
  rw [vN_lim ha, vN_lim hb, vl_lim, vl_lim, Bool.and_self, if_pos rfl, if_pos h, if_pos ⟨rfl, h⟩]
  exact ⟨rfl, rfl⟩
theorem dif_neg {a b : Nat} (ha : sm a) (hb : sm b) (h : a < b) : difE (lim a) (lim b) = 7 := by
  unfold difE
  rw [vN_lim ha, vN_lim hb, vl_lim, vl_lim, Bool.and_self, if_pos rfl, if_neg (Nat.not_le.2 h)]
theorem sm_mono {a b : Nat} (h : a ≤ b) (hb : sm b) : sm a := by
  have := lim_len_le.1 hb
  exact lim_len_le.2 (by omega)
theorem Bp_pow (k : Nat) : Bp k = ((2 ^ (32 * k) : Nat) : Int) := by
  induction k with
  | zero => rfl
  | succ k ih =>
    rw [Bp_succ, ih, show 32 * (k + 1) = 32 * k + 32 by omega, Nat.pow_add]
    rfl
theorem sm_big {N : Nat} (h : N < 2 ^ (32 * 128)) : sm N := lim_len_le.2 (by
  rw [Bp_pow]
  exact Int.ofNat_lt.2 h)
end Go.Proofs.YtpoddmkimhkmoaaGreat
namespace Go.Proofs.YtpoddmkimhkmoaaGreat
open Go.RowKit Go.Sv
/-- one-cell elements in a block between lo and hi -/
def ArrI (w : World) (lo hi : Nat) (A : Option Addr) (n : Nat) (f : Nat → Value) : Prop :=
  0 < n → ∃ b off, A = some ⟨b, off, none⟩ ∧ lo ≤ b ∧ b < hi ∧ ∀ k, k < n → w.cell? ⟨b, off + k, none⟩ = some (f k)
section
variable {w w' : World} {lo hi lo' hi' n : Nat} {A : Option Addr} {f f' : Nat → Value}
theorem ArrI.arr (h : ArrI w lo hi A n f) : Arr w hi A n f := fun hn => by
  obtain ⟨b, off, e, _, h2, h3⟩ := h hn
  exact ⟨b, off, e, h2, h3⟩
theorem ArrI.keep (h : ArrI w lo hi A n f) (hk : ∀ p : Addr, lo ≤ p.block ∧ p.block < hi → w'.cell? p = w.cell? p) : ArrI w' lo hi A n f := fun hn => by
  obtain ⟨b, off, e, h1, h2, h3⟩ := h hn
  exact ⟨b, off, e, h1, h2, fun k hkn => (hk ⟨b, off + k, none⟩ ⟨h1, h2⟩).trans (h3 k hkn)⟩
theorem ArrI.wide (h : ArrI w lo hi A n f) (h1 : lo' ≤ lo) (h2 : hi ≤ hi') : ArrI w lo' hi' A n f := fun hn => by
  obtain ⟨b, off, e, h3, h4, h5⟩ := h hn
  exact ⟨b, off, e, by omega, by omega, h5⟩
theorem ArrI.congr (h : ArrI w lo hi A n f) (hf : ∀ k, k < n → f k = f' k) : ArrI w lo hi A n f' := fun hn => by
  obtain ⟨b, off, e, h3, h4, h5⟩ := h hn
  exact ⟨b, off, e, h3, h4, fun k hk => by rw [← hf k hk]; exact h5 k hk⟩
end
/-- the cell of a number -/
def numC (l : List Int) (q : LmP) : Value := .slice q.a l.length q.c
theorem RLm.keepI {w w' : World} {lo hi : Nat} {l : List Int} {q : LmP} (h : RLm w hi l q) (hf : Fr lo q) (hk : ∀ p : Addr, lo ≤ p.block ∧ p.block < hi → w'.cell? p = w.cell? p) : RLm w' hi l q := by
  refine ⟨fun hn => ?_, h.nil, h.cap, h.cmx⟩
  obtain ⟨b, off, e, h2, h3⟩ := h.arr hn
  exact ⟨b, off, e, h2, fun k hkn => (hk ⟨b, off + k, none⟩ ⟨hf ⟨b, off, none⟩ e, h2⟩).trans (h3 k hkn)⟩
/-- a row of numbers -/
structure NRow (w : World) (lo hi : Nat) (A : Option Addr) (n : Nat) (L : Nat → List Int) (Q : Nat → LmP) : Prop where
  arr : ArrI w lo hi A n (fun k => numC (L k) (Q k))
  num : ∀ k, k < n → RLm w hi (L k) (Q k)
  fr : ∀ k, k < n → Fr lo (Q k)
section
variable {w w' : World} {lo hi lo' hi' n : Nat} {A : Option Addr} {L L' : Nat → List Int} {Q : Nat → LmP}
theorem NRow.keep (h : NRow w lo hi A n L Q) (hk : ∀ p : Addr, lo ≤ p.block ∧ p.block < hi → w'.cell? p = w.cell? p) : NRow w' lo hi A n L Q :=
  ⟨h.arr.keep hk, fun k hkn => (h.num k hkn).keepI (h.fr k hkn) hk, h.fr⟩
theorem NRow.wide (h : NRow w lo hi A n L Q) (h1 : lo' ≤ lo) (h2 : hi ≤ hi') : NRow w lo' hi' A n L Q :=
  ⟨h.arr.wide h1 h2, fun k hkn => (h.num k hkn).more h2, fun k hkn => (h.fr k hkn).le h1⟩
theorem NRow.congr (h : NRow w lo hi A n L Q) (hf : ∀ k, k < n → L k = L' k) : NRow w lo hi A n L' Q :=
  ⟨h.arr.congr fun k hk => by rw [hf k hk], fun k hk => by rw [← hf k hk]; exact h.num k hk, h.fr⟩
def nrowRd (lo hi : Nat) (A : Option Addr) (n : Nat) (L : Nat → List Int) (Q : Nat → LmP) : Rd where
  R := fun W => NRow W lo hi A n L Q
  D := fun g => lo ≤ g ∧ g < hi
  st := fun h hc _ => h.keep fun p hp => hc p hp
end
/-- a table: row k has k + 1 numbers -/
structure NTab (w : World) (lo hi : Nat) (A : Option Addr) (n : Nat) (L : Nat → Nat → List Int) (R : Nat → Option Addr) (K : Nat → Nat) (Q : Nat → Nat → LmP) : Prop where
  arr : ArrI w lo hi A n (fun k => .slice (R k) (k + 1) (K k))
  row : ∀ k, k < n → NRow w lo hi (R k) (k + 1) (L k) (Q k)
section
variable {w w' : World} {lo hi lo' hi' n : Nat} {A : Option Addr} {L L' : Nat → Nat → List Int} {R : Nat → Option Addr} {K : Nat → Nat} {Q : Nat → Nat → LmP}
theorem NTab.keep (h : NTab w lo hi A n L R K Q) (hk : ∀ p : Addr, lo ≤ p.block ∧ p.block < hi → w'.cell? p = w.cell? p) : NTab w' lo hi A n L R K Q :=
  ⟨h.arr.keep hk, fun k hkn => (h.row k hkn).keep hk⟩
theorem NTab.wide (h : NTab w lo hi A n L R K Q) (h1 : lo' ≤ lo) (h2 : hi ≤ hi') : NTab w lo' hi' A n L R K Q :=
  ⟨h.arr.wide h1 h2, fun k hkn => (h.row k hkn).wide h1 h2⟩
theorem NTab.congr (h : NTab w lo hi A n L R K Q) (hf : ∀ k, k < n → ∀ f, f ≤ k → L k f = L' k f) : NTab w lo hi A n L' R K Q :=
  ⟨h.arr, fun k hk => (h.row k hk).congr fun f hf' => hf k hk f (by omega)⟩
def tabRd (lo hi : Nat) (A : Option Addr) (n : Nat) (L : Nat → Nat → List Int) (R : Nat → Option Addr) (K : Nat → Nat) (Q : Nat → Nat → LmP) : Rd where
  R := fun W => NTab W lo hi A n L R K Q
  D := fun g => lo ≤ g ∧ g < hi
  st := fun h hc _ => h.keep fun p hp => hc p hp
end
/-- what a call leaves that hands back a table -/
def TabR (w : World) (n : Nat) (L : Nat → Nat → List Int) (v : Value) (w' : World) : Prop :=
  ∃ A c R K Q, v = .slice A n c ∧ NTab w' w.heap.size w'.heap.size A n L R K Q ∧ Below w.heap.size w w'
/-- a cell of limbs is no cell of a block of numbers -/
theorem rlm_ne_blk {w : World} {B g n : Nat} {e : TypeId} {f : Nat → Value} {l : List Int} {q : LmP} (h : RLm w B l q) (hb : Blk w g e n f) (hf : ∀ k, k < n → ∀ z, f k ≠ .int .u32 z) (hn : 0 < l.length) : ∀ a, q.a = some a → a.block ≠ g := by
  obtain ⟨b, off, e1, _, hc⟩ := h.arr hn
  intro a ha hg
  rw [e1] at ha
  injection ha with ha
  subst ha
  have hg : b = g := hg
  subst hg
  have c0 := hc 0 hn
  obtain ⟨cs, hw, hs, hcs⟩ := hb
  have c1 := hw.cell (off + 0)
  rw [c1] at c0
  by_cases hk : off + 0 < n
  · rw [hcs _ hk] at c0
    injection c0 with c0
    exact hf _ hk _ c0
  · rw [Array.getElem?_eq_none (by omega)] at c0
    cases c0
/-- a store into such a block leaves the numbers -/
theorem rlm_far {w : World} {B g i : Nat} {l : List Int} {q : LmP} {u : Value} (h : RLm w B l q) (hn : 0 < l.length → ∀ a, q.a = some a → a.block ≠ g) : RLm (w.setCell ⟨g, i, none⟩ u) B l q := by
  refine ⟨fun hl => ?_, h.nil, h.cap, h.cmx⟩
  obtain ⟨b, off, e1, h2, hc⟩ := h.arr hl
  refine ⟨b, off, e1, h2, fun k hk => ?_⟩
  rw [← hc k hk]
  exact World.cell?_setCell_other _ _ _ _ fun e => hn hl _ e1 (by injection e with e; exact e.symm)
theorem numC_no (l : List Int) (q : LmP) (z : Int) : numC l q ≠ .int .u32 z := by intro h; cases h
end Go.Proofs.YtpoddmkimhkmoaaGreat
namespace Go.Proofs.YtpoddmkimhkmoaaGreat
open Go.RowKit Go.Sv Go.Pw
theorem pow_lim {a n : Nat} (ha : sm a) (h : sm (a ^ n)) : powV (lim a) (n : Int) = lim (a ^ n) := by
  unfold powV
  rw [if_pos ⟨vN_lim ha, by omega⟩, vl_lim, Int.toNat_natCast]
  exact if_neg (by unfold sm at h; omega)
section
variable (x y : Nat) (q r : LmP) (w : World)
theorem padd_lim (hx : sm x) (hy : sm y) (h : sm (x + y)) (h1 : RLm w w.heap.size (lim x) q) (h2 : RLm w w.heap.size (lim y) r) :
    Calls Tryz.prog 26 #[natV (lim x) q, natV (lim y) r] w (Ret (NRes w (lim (x + y)))) := by
  have := padd_any w (lim x) q h1 (lim_lim x) (lim y) r h2 (lim_lim y)
  rw [(sum_lim hx hy h).2] at this
  exact this
theorem psub_lim (hx : sm x) (hy : sm y) (h : y ≤ x) (h1 : RLm w w.heap.size (lim x) q) (h2 : RLm w w.heap.size (lim y) r) :
    Calls Tryz.prog 25 #[natV (lim x) q, natV (lim y) r] w (Ret (NRes w (lim (x - y)))) := by
  have := psub_any w (lim x) q h1 (lim_lim x) (lim y) r h2 (lim_lim y)
  rw [(dif_lim hx hy h).2] at this
  exact this
theorem pmul_lim (hx : sm x) (hy : sm y) (h : sm (x * y)) (h1 : RLm w w.heap.size (lim x) q) (h2 : RLm w w.heap.size (lim y) r) :
    Calls Tryz.prog 47 #[natV (lim x) q, natV (lim y) r] w (Ret (NRes w (lim (x * y)))) := by
  have := pmul_any w (lim x) q h1 (lim_lim x) (lim y) r h2 (lim_lim y)
  rw [(mul_lim hx hy h).2] at this
  exact this
theorem ppow_lim (n : Nat) (hx : sm x) (h : sm (x ^ n)) (h1 : RLm w w.heap.size (lim x) q) :
    Calls Tryz.prog 24 #[natV (lim x) q, .int .i64 (n : Int)] w (Ret (NRes3v w (lim (x ^ n)))) := by
  have := ppow_any w (lim x) q h1 (lim_lim x) (n : Int)
  rw [pow_lim hx h] at this
  exact this
theorem nof_lim (n : Nat) (h : n < 18446744073709551616) : Calls Tryz.prog 46 #[.int .u64 (n : Int)] w (Ret (NRes w (lim n))) := by
  have := of_any (n : Int) w (by omega) (by omega)
  rw [Int.toNat_natCast] at this
  exact this
theorem ncmp_lim (h1 : RLm w w.heap.size (lim x) q) (h2 : RLm w w.heap.size (lim y) r) :
    Calls Tryz.prog 52 #[natV (lim x) q, natV (lim y) r] w fun e w' => e = .returned (.int .i64 (cmpL (lim x) (lim y))) ∧ Below w.heap.size w w' :=
  cmp_any (lim x) (lim y) q r w h1 h2 (lim_lim x) (lim_lim y) (lim_can x) (lim_can y)
theorem cmp_le : (cmpL (lim x) (lim y) ≤ 0) ↔ x ≤ y := by
  have := cmpL_le (lim_lim x) (lim_lim y)
  rw [vl_lim, vl_lim] at this
  exact decide_eq_decide.1 this
end
set_option maxRecDepth 100000 in
theorem pverd_any (t : Tst) (q : TstP) (n f : Nat) (w : World) (h : RTst w w.heap.size t q) (hbd : TBd t) (hv : validE t = 0) (h1 : 1 ≤ n) (h2 : n ≤ t.acc.length) (h3 : f ≤ n) :
    Calls Tryz.prog 39 #[tstV t q, .int .i64 (n : Int), .int .i64 (f : Int)] w fun e w' => e = .returned (.int .i64 (VT t n f)) ∧ Below w.heap.size w w' := by
  obtain ⟨qa, qc, qb, qd⟩ := q
  have hbx : Hid (∀ o : Obj, Below w.heap.size w (w.alloc o)) := Lib.hid fun o => (Below.refl _ _).alloc (Nat.le_refl _) o
  have H := Lib.hid (fun (o : Obj) => by
    have := verdict_any t ⟨qa, qc, qb, qd⟩ (n : Int) (f : Int) (w.alloc o) (h.to (hbx.out o)) hbd
    have e0 : verdE t (n : Int) (f : Int) = 0 := verdE_0 hv (by omega)
    rw [e0, verdV_ok e0] at this
    exact this)
  obtain ⟨V, hV⟩ : ∃ V, VT t n f = V := ⟨_, rfl⟩
  rw [show atV t n (f : Int) = V from hV] at H
  rw [hV]
  clear hV hv h1 h2 h3 h hbd
  go_enter Tryz.func39, Tryz.ntmps39
  go_wp2_with fail
  refine (H.out _).mono ?_
  rintro e w1 ⟨rfl, hb1⟩
  have hfin := Lib.hid (below_of (hbx.out _) (hbx.out _).size hb1)
  clear hb1
  go_wp2
  go_ret
  exact ⟨rfl, hfin.out⟩
end Go.Proofs.YtpoddmkimhkmoaaGreat
