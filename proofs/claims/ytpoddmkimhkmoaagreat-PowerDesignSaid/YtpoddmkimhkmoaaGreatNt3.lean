/-
  CONTRACTS of Bits, of both texts, and of natural.valid.
  Conditions: those that each theorem names.
-/
import Derived.Test.YtpoddmkimhkmoaaGreatNt2
import Derived.Test.YtpoddmkimhkmoaaGreatShelfN
import Derived.Laws.BitsAllLaws
import Derived.Lib.ItoaNum
import Derived.Test.YtpoddmkimhkmoaaGreatBlk
import Derived.Test.YtpoddmkimhkmoaaGreatTab
namespace Go.Sv
open Go.RowKit
theorem bitLen_is {N : Nat} (h : N < 2 ^ 64) : Lib.bitLen N = nbits N := by
  by_cases c : N = 0
  · subst c; rfl
  · obtain ⟨h1, h2, h3⟩ := Lib.bitLenAux_bounds 64 N h c
    have h3 := nbits_le.2 h3
    unfold Lib.bitLen
    rcases Nat.lt_or_ge (nbits N) (Lib.bitLenAux 64 N) with d | d
    · exfalso
      have := nbits_le.1 (show nbits N ≤ Lib.bitLenAux 64 N - 1 by omega)
      omega
    · omega
theorem and_one {x : Int} (h0 : 0 ≤ x) (h1 : x < 18446744073709551616) : bits .and .u64 x 1 = x % 2 := by
  rw [u64_and x 1 h0 h1 (by decide) (by decide)]
  have : (1 : Int).toNat = 1 := rfl
  rw [this, nat_mask1]
  omega
theorem shr_bd {x : Int} (h0 : 0 ≤ x) (h1 : x < 4294967296) (k : Nat) : 0 ≤ x / 2 ^ k ∧ x / 2 ^ k < 4294967296 := by
  have hp : (0 : Int) < 2 ^ k := Int.pow_pos (by decide)
  refine ⟨Int.ediv_nonneg h0 (by omega), ?_⟩
  have := Int.ediv_le_self (2 ^ k) h0
  omega
end Go.Sv
namespace Go.Proofs.YtpoddmkimhkmoaaGreat
open Go.RowKit Go.Sv

set_option maxRecDepth 100000 in
theorem bits_any (l : List Int) (q : LmP) (w : World) (h : RLm w w.heap.size l q) (hl : Lim l) (hc : Sv.Can l) (hn : l.length ≤ 1000000) : Calls Tryz.prog 62 #[natV l q] w fun e w' => e = .returned (.int .i64 (nbits (vl l))) ∧ Below w.heap.size w w' := by
  obtain ⟨A, c⟩ := q
  have hbx : Hid (∀ o : Obj, Below w.heap.size w (w.alloc o)) := Lib.hid fun o => (Below.refl _ _).alloc (Nat.le_refl _) o
  have ha : Hid (Arr w w.heap.size A l.length (u32v l)) := Lib.hid h.arr
  clear h
  by_cases g : l.length = 0
  · have d : ((l.length : Int) == 0) = true := beq_iff_eq.2 (by omega)
    have E : Hid (nbits (vl l) = 0) := Lib.hid (by have : l = [] := List.eq_nil_of_length_eq_zero g; subst this; rfl)
    clear g ha hc hl
    go_enter Tryz.func62, Tryz.ntmps62
    go_wp2
    go_ret
    exact ⟨ret_i (by rw [E.out]; rfl), hbx.out _⟩
  · have d : ((l.length : Int) == 0) = false := beq_eq_false_iff_ne.2 (by omega)
    obtain ⟨b, o, rfl, hb, hc'⟩ := ha.out (by omega)
    have dd := (hbx.out (.cells #[.slice (some ⟨b, o, none⟩) l.length c] 24)).cell (p := ⟨b, o + (l.length - 1), none⟩) hb |>.trans (hc' (l.length - 1) (by omega))
    unfold u32v at dd
    have i1 : ((l.length : Int) - 1).toNat = l.length - 1 := by omega
    have i2 : (1 : Int) ≤ (l.length : Int) := by omega
    have i3 : ¬ ((l.length : Int) - 1 < 0) := by omega
    have i4 : 0 < l.length := by omega
    have x := hl.at (l.length - 1)
    have hg : gi l (l.length - 1) ≠ 0 := by
      rcases hc with e | e
      · exact absurd e g
      · exact e
    have E : Hid (nbits (vl l) = 32 * (l.length - 1) + nbits (gi l (l.length - 1)).toNat) := Lib.hid (by
      refine nbits_limb hl (k := l.length - 1) (t := (gi l (l.length - 1)).toNat) ?_ (by omega) (by omega)
      rw [show l.length - 1 + 1 = l.length by omega]
      exact vl_vt hl)
    have HL : Hid (∀ w, Calls Tryz.prog 88 #[.int .u32 (gi l (l.length - 1))] w fun e w' => e = .returned (.int .i64 (nbits (gi l (l.length - 1)).toNat)) ∧ w = w') := Lib.hid fun w => by
      have := Tryz.bits_Len32 (gi l (l.length - 1)) w x.1 (by omega)
      rw [bitLen_is (Nat.lt_of_lt_of_le (show (gi l (l.length - 1)).toNat < 2 ^ 32 by rw [two32]; omega) (Nat.pow_le_pow_right (by decide) (by decide)))] at this
      exact this.mono fun _ _ ⟨h1, h2⟩ => ⟨h1, h2.symm⟩
    have hb32 : nbits (gi l (l.length - 1)).toNat ≤ 32 := nbits_le.2 (by rw [two32]; omega)
    obtain ⟨t, ht⟩ : ∃ t, nbits (gi l (l.length - 1)).toNat = t := ⟨_, rfl⟩
    rw [ht] at E HL hb32
    clear ht hg g ha hc hc' hl x
    go_enter Tryz.func62, Tryz.ntmps62
    go_wp2_with (go_at_call 88; refine (HL.out _).mono ?_; rintro e w' ⟨rfl, rfl⟩)
    go_ret
    exact ⟨ret_i (by rw [E.out]; omega), hbx.out _⟩

set_option maxRecDepth 100000 in
theorem rbit_any (l : List Int) (q : LmP) (i : Nat) (w : World) (h : RLm w w.heap.size l q) (hl : Lim l) (hi : i ≤ 1000000) :
    Calls Tryz.prog 99 #[natV l q, .int .i64 i] w fun e w' => e = .returned (.bool (decide (vl l / 2 ^ i % 2 = 1))) ∧ Below w.heap.size w w' := by
  obtain ⟨A, c⟩ := q
  have hbx : Hid (∀ o : Obj, Below w.heap.size w (w.alloc o)) := Lib.hid fun o => (Below.refl _ _).alloc (Nat.le_refl _) o
  have HL := Lib.hid (fun o => limb_any l ⟨A, c⟩ ((i : Int) / 32) (w.alloc o) (h.to (hbx.out o)) hl (by omega))
  have e2 : ((i : Int) / 32).toNat = i / 32 := by omega
  rw [e2] at HL
  have x := hl.at (i / 32)
  have y := shr_bd x.1 x.2 (i % 32)
  have E : Hid (decide (vl l / 2 ^ i % 2 = 1) = ((gi l (i / 32) / 2 ^ (i % 32) % 2) == 1)) := Lib.hid (by
    rcases Nat.lt_or_ge i (32 * l.length) with c | c
    · rw [bit_div hl (vl_vt hl) c, Bool.eq_iff_iff, decide_eq_true_iff, beq_iff_eq]
      omega
    · rw [bit_out hl (vl_vt hl) c, gi_out (by omega)]
      simp)
  have EA : Hid (bits .and .u64 (gi l (i / 32) / 2 ^ (i % 32)) 1 = gi l (i / 32) / 2 ^ (i % 32) % 2) := Lib.hid (Sv.and_one y.1 (by omega))
  clear h hl e2
  have i0 : (0 : Int) ≤ i := by omega
  go_enter Tryz.func99, Tryz.ntmps99
  go_wp2_with fail
  refine (HL.out _).mono ?_
  rintro e w1 ⟨rfl, hb1⟩
  have hb := Lib.hid (below_of (hbx.out (.cells #[.slice A l.length c] 24)) (hbx.out _).size hb1)
  clear hb1
  go_wp2
  go_ret
  exact ⟨ret_b (by rw [EA.out, E.out]), hb.out⟩


set_option maxRecDepth 100000 in
theorem valid2_any (a b : List Int) (q r : LmP) (w : World) (h : RLm w w.heap.size a q) (h' : RLm w w.heap.size b r) :
    Calls Tryz.prog 70 #[natV a q, natV b r] w fun e w' => e = .returned (.bool (vN a && vN b)) ∧ Below w.heap.size w w' := by
  have hbx : Hid (∀ o o' : Obj, Below w.heap.size w ((w.alloc o).alloc o')) := Lib.hid fun o o' => ((Below.refl _ _).alloc (Nat.le_refl _) o).alloc (by simp) o'
  have HA := Lib.hid (fun w' (hw : Below w.heap.size w w') => valid_any a q w' (h.to hw))
  have HB := Lib.hid (fun w' (hw : Below w.heap.size w w') => valid_any b r w' (h'.to hw))
  obtain ⟨qa, qc⟩ := q
  obtain ⟨ra, rc⟩ := r
  have hB2 : Hid (Box1 ((w.alloc (.cells #[.slice qa a.length qc] 24)).alloc (.cells #[.slice ra b.length rc] 24)) (w.heap.size + 1) (.slice ra b.length rc)) := Lib.hid (by have := Box1.new (w := w.alloc (.cells #[.slice qa a.length qc] 24)) (e := 24) (v := .slice ra b.length rc); simpa using this)
  clear h h'
  cases gv : vN a
  · rw [gv] at HA
    clear gv
    go_enter Tryz.func70, Tryz.ntmps70
    go_wp2_with fail
    refine (HA.out _ (hbx.out _ _)).mono ?_
    rintro e w1 ⟨rfl, hb1⟩
    have hb := Lib.hid (below_of (hbx.out (.cells #[.slice qa a.length qc] 24) (.cells #[.slice ra b.length rc] 24)) (hbx.out _ _).size hb1)
    clear hb1
    go_wp2
    go_ret
    exact ⟨rfl, hb.out⟩
  · rw [gv] at HA
    clear gv
    go_enter Tryz.func70, Tryz.ntmps70
    go_wp2_with fail
    refine (HA.out _ (hbx.out _ _)).mono ?_
    rintro e w1 ⟨rfl, hb1⟩
    have hb := Lib.hid (below_of (hbx.out (.cells #[.slice qa a.length qc] 24) (.cells #[.slice ra b.length rc] 24)) (hbx.out _ _).size hb1)
    obtain ⟨z1, y1⟩ := hB2.out.to hb1
    clear hb1
    go_wp2_with fail
    refine (HB.out _ hb.out).mono ?_
    rintro e w2 ⟨rfl, hb2⟩
    have hb' := Lib.hid (below_of hb.out hb.out.size hb2)
    clear hb2 z1 y1
    go_wp2
    go_ret
    exact ⟨rfl, hb'.out⟩
end Go.Proofs.YtpoddmkimhkmoaaGreat

namespace Go.Proofs.YtpoddmkimhkmoaaGreat
open Go.RowKit Go.Sv

/-- the result's block -/
structure ResB (W : World) (b : Nat) (v : Value) : Prop where
  z : b < W.heap.size
  y : W.cell? ⟨b, 0, none⟩ = some v
  f : W.frozen? ⟨b, 0, none⟩ = false
theorem ResB.to {W W' : World} {b : Nat} {v : Value} (h : ResB W b v) (hb : Below W.heap.size W W') : ResB W' b v := ⟨Nat.lt_of_lt_of_le h.z hb.size, (hb.cell h.z).trans h.y, (hb.frozen h.z).trans h.f⟩
theorem ResB.drawn {W W' : World} {b : Nat} {v : Value} (h : ResB W b v) (hd : Drawn W W') : ResB W' b v := h.to hd.below
theorem ResB.new {w : World} {e : TypeId} {v : Value} : ResB (w.alloc (.cells #[v] e)) w.heap.size v := ⟨by simp, by rw [World.cell?_alloc_new]; rfl, (Whole.new w e #[v]).frozen 0⟩
theorem ResB.new' {w : World} {e : TypeId} {v : Value} {b : Nat} (hb : w.heap.size = b) : ResB (w.alloc (.cells #[v] e)) b v := by subst hb; exact ResB.new
/-- a call's number laid into the result's block -/
theorem nres2_put {w w3 w' : World} {b : Nat} {l : List Int} {q : LmP} {E : Int} (h3 : Below w.heap.size w w3) (hs : w.heap.size ≤ b) (hb : b < w3.heap.size) (hr : RLm w' w'.heap.size l q) (hf : Fr w3.heap.size q) (hbel : Below w3.heap.size w3 w') :
    NRes2 w l E (.tuple #[natV l q, .int .i64 E]) (w'.setCell ⟨b, 0, none⟩ (rowV l q)) :=
  ⟨q, rfl, rlm_put hr (hf.le hb) _, hf.le h3.size, (below_of h3 h3.size hbel).setCell hs _⟩
theorem nres_put' {w w3 w' : World} {b : Nat} {l : List Int} {q : LmP} (h3 : Below w.heap.size w w3) (hs : w.heap.size ≤ b) (hb : b < w3.heap.size) (hr : RLm w' w'.heap.size l q) (hf : Fr w3.heap.size q) (hbel : Below w3.heap.size w3 w') :
    NRes w l (natV l q) (w'.setCell ⟨b, 0, none⟩ (rowV l q)) :=
  ⟨q, rfl, rlm_put hr (hf.le hb) _, hf.le h3.size, (below_of h3 h3.size hbel).setCell hs _⟩

/-- block g holds just the limbs l -/
def LBlk (w : World) (g : Nat) (l : List Int) : Prop := Blk w g 69 l.length (u32v l)
theorem LBlk.lt {w : World} {g : Nat} {l : List Int} (h : LBlk w g l) : g < w.heap.size := Blk.lt h
theorem LBlk.cell {w : World} {g : Nat} {l : List Int} (h : LBlk w g l) {k : Nat} (hk : k < l.length) : w.cell? ⟨g, k, none⟩ = some (.int .u32 (gi l k)) := Blk.cell h hk
theorem LBlk.frozen {w : World} {g : Nat} {l : List Int} (h : LBlk w g l) (k : Nat) : w.frozen? ⟨g, k, none⟩ = false := Blk.frozen h k
theorem LBlk.to {w w' : World} {g : Nat} {l : List Int} (h : LBlk w g l) (hb : Below w.heap.size w w') : LBlk w' g l := Blk.to h hb
theorem LBlk.drawn {w w' : World} {g : Nat} {l : List Int} (h : LBlk w g l) (hd : Drawn w w') : LBlk w' g l := Blk.drawn h hd
theorem LBlk.set {w : World} {g : Nat} {l : List Int} (h : LBlk w g l) {k : Nat} (hk : k < l.length) (x : Int) : LBlk (w.setCell ⟨g, k, none⟩ (.int .u32 x)) g (l.set k x) := by
  have h2 := Blk.set h k (.int .u32 x)
  unfold LBlk
  rw [List.length_set]
  refine Blk.congr h2 fun j hj => ?_
  unfold u32v
  by_cases e : j = k
  · subst e; rw [if_pos rfl, gi_set hk]
  · rw [if_neg e, gi_set_ne (fun h => e h.symm)]
theorem LBlk.far {w : World} {g : Nat} {l : List Int} (h : LBlk w g l) {p : Addr} (hp : g ≠ p.block) (u : Value) : LBlk (w.setCell p u) g l := Blk.far h hp u
theorem LBlk.rlm {w : World} {g n : Nat} {l : List Int} (h : LBlk w g l) (hn : l.length ≤ 1000000) (e : l.length = n) : RLm w w.heap.size l ⟨some ⟨g, 0, none⟩, n⟩ := by
  subst e
  exact ⟨Blk.arr h h.lt, (fun h => by cases h), Nat.le_refl _, by show l.length ≤ maxLen; unfold maxLen; omega⟩
/-- the first n limbs of a block -/
theorem LBlk.rlm_take {w : World} {g n c : Nat} {l : List Int} (h : LBlk w g l) (hc : c ≤ 1000000) (hn : n ≤ l.length) (hnc : n ≤ c) : RLm w w.heap.size (l.take n) ⟨some ⟨g, 0, none⟩, c⟩ := by
  have e : (l.take n).length = n := by rw [List.length_take]; omega
  refine ⟨?_, (fun h => by cases h), by rw [e]; exact hnc, by show c ≤ maxLen; unfold maxLen; omega⟩
  rw [e]
  exact ((Blk.arr h h.lt).fewer hn).congr fun k hk => by unfold u32v; rw [gi_take hk]
def zer (n : Nat) : List Int := List.replicate n 0
theorem zer_len (n : Nat) : (zer n).length = n := by simp [zer]
theorem gi_zer (n k : Nat) : gi (zer n) k = 0 := by
  by_cases h : k < n
  · simp [gi, zer, h]
  · exact gi_out (by rw [zer_len]; omega)
theorem zer_lim (n : Nat) : Lim (zer n) := fun i _ => by rw [gi_zer]; omega
theorem vt_zer (n : Nat) : ∀ k, vt (zer n) k = 0
  | 0 => rfl
  | k + 1 => by rw [vt_succ, vt_zer n k, gi_zer, Int.zero_mul]; rfl
theorem mk_row (n : Nat) (hn : n ≤ 1000) {x : Int} (hx : x = n) : ∃ O : Obj, (∀ w : World, (Instr.makeSlice 22 (.int .i64 x) (.int .i64 x)).run Tryz.prog w = .ok (.slice (some ⟨w.heap.size, 0, none⟩) n n) (w.alloc O)) ∧ ∀ w : World, LBlk (w.alloc O) w.heap.size (zer n) := by
  subst hx
  refine ⟨.cells (madeCells #[.int .u32 0] n) 69, fun w => ?_, fun w => ?_⟩
  · obtain ⟨i, hi, e1, e2, e3⟩ := info_parts elU32.hi
    have := run_make (P := Tryz.prog) w _ _ i _ elU32.ht hi e1 .i64 .i64 n n (by omega) (Int.le_refl _) (by rw [e3]; omega) (by omega)
    rw [e2, Nat.mul_one, Int.toNat_natCast] at this
    exact this
  · unfold LBlk
    rw [zer_len]
    refine Blk.congr (Blk.made _ _ _ _) fun k hk => ?_
    unfold u32v
    rw [gi_zer]

/-! ### bits.Add32 -/
theorem add32_any (x y c : Int) (w : World) (x0 : 0 ≤ x) (x1 : x < 4294967296) (y0 : 0 ≤ y) (y1 : y < 4294967296) (c0 : 0 ≤ c) (c1 : c ≤ 1) :
    Calls Tryz.prog 75 #[.int .u32 x, .int .u32 y, .int .u32 c] w fun e w' => e = .returned (.tuple #[.int .u32 ((x + y + c) % 4294967296), .int .u32 ((x + y + c) / 4294967296)]) ∧ w = w' := by
  have a0 : 0 ≤ (x + y + c) / 4294967296 := by omega
  have a1 : (x + y + c) / 4294967296 < 4294967296 := by omega
  go_enter Tryz.func75, Tryz.ntmps75
  go_wp2
  go_ret2
  exact ⟨rfl, rfl⟩

/-! ### sums -/
def cutV (N : Nat) : List Int := if 128 < (lim N).length then [] else lim N
def cutE (N : Nat) : Int := if 128 < (lim N).length then 3 else 0
theorem chk_cut {l : List Int} {N : Nat} (h : norm l = lim N) : chkV l = cutV N ∧ chkE l = cutE N := by unfold chkV chkE cutV cutE; rw [h]; exact ⟨rfl, rfl⟩
structure AddI (x y : List Int) (n g : Nat) (w2 : World) (k : Nat) (o : List Int) (c : Int) (wr : World) : Prop where
  kn : k ≤ n
  c0 : 0 ≤ c
  c1 : c ≤ 1
  len : o.length = n + 1
  lo : Lim o
  eq : vt o k + c * Bp k = vt x k + vt y k
  blk : LBlk wr g o
  bel : Below g w2 wr
theorem AddI.start {x y : List Int} {n : Nat} {w2 : World} {O : Obj} (h : LBlk (w2.alloc O) w2.heap.size (zer (n + 1))) : AddI x y n w2.heap.size w2 0 (zer (n + 1)) 0 (w2.alloc O) :=
  ⟨Nat.zero_le _, Int.le_refl _, by decide, zer_len _, zer_lim _, by simp [vt], h, (Below.refl _ _).alloc (Nat.le_refl _) _⟩
theorem AddI.step {x y o : List Int} {n g k : Nat} {w2 wr : World} {c : Int} (h : AddI x y n g w2 k o c wr) (hx : Lim x) (hy : Lim y) (hk : k < n) :
    AddI x y n g w2 (k + 1) (o.set k ((gi x k + gi y k + c) % 4294967296)) ((gi x k + gi y k + c) / 4294967296) (wr.setCell ⟨g, k, none⟩ (.int .u32 ((gi x k + gi y k + c) % 4294967296))) := by
  have a := hx.at k
  have b := hy.at k
  have c0 := h.c0
  have c1 := h.c1
  have hl := h.len
  exact ⟨hk, by omega, by omega, by rw [List.length_set]; exact h.len, h.lo.set (by omega) (by omega), add_set (by omega) h.eq, h.blk.set (by omega) _, h.bel.setCell (Nat.le_refl _) _⟩
theorem AddI.fin {x y o : List Int} {n g : Nat} {w2 wr : World} {c : Int} (h : AddI x y n g w2 n o c wr) (hx : Lim x) (hy : Lim y) (hn : x.length = n) (hyn : y.length ≤ n) :
    LBlk (wr.setCell ⟨g, n, none⟩ (.int .u32 c)) g (o.set n c) ∧ (o.set n c).length = n + 1 ∧ norm (o.set n c) = lim (vl x + vl y) ∧ Below g w2 (wr.setCell ⟨g, n, none⟩ (.int .u32 c)) := by
  have hl := h.len
  have c0 := h.c0
  have c1 := h.c1
  refine ⟨h.blk.set (by omega) _, by rw [List.length_set]; exact hl, norm_lim (h.lo.set c0 (by omega)) ?_, h.bel.setCell (Nat.le_refl _) _⟩
  rw [List.length_set, hl, vt_succ, vt_set_le (Nat.le_refl _), gi_set (by omega), h.eq, ← hn, vl_vt hx, vt_more (by omega : y.length ≤ x.length), vl_vt hy, Int.natCast_add]

set_option maxHeartbeats 1000000 in
set_option maxRecDepth 100000 in
theorem add_ok (a b : List Int) (q r : LmP) (w : World) (h : RLm w w.heap.size a q) (h' : RLm w w.heap.size b r) (ha : Lim a) (hb : Lim b) (va : vN a = true) (vb : vN b = true) :
    Calls Tryz.prog 51 #[natV a q, natV b r] w (Ret (NRes2 w (cutV (vl a + vl b)) (cutE (vl a + vl b)))) := by
  obtain ⟨na, ca⟩ := vN_can va
  obtain ⟨nb, cb⟩ := vN_can vb
  have hbx : Hid (∀ o1 o2 o3 : Obj, Below w.heap.size w (((w.alloc o1).alloc o2).alloc o3)) := Lib.hid fun o1 o2 o3 => (((Below.refl _ _).alloc (Nat.le_refl _) o1).alloc (by simp) o2).alloc (by simp; omega) o3
  have HV := Lib.hid (fun w' (hw : Below w.heap.size w w') => valid2_any a b q r w' (h.to hw) (h'.to hw))
  rw [va, vb] at HV
  have Ha := Lib.hid (fun w' (hw : Below w.heap.size w w') => h.to hw)
  have Hb := Lib.hid (fun w' (hw : Below w.heap.size w w') => h'.to hw)
  obtain ⟨qa, qc⟩ := q
  obtain ⟨ra, rc⟩ := r
  have hB1 : Hid (Box1 (((w.alloc (.cells #[.slice qa a.length qc] 24)).alloc (.cells #[.slice ra b.length rc] 24)).alloc (.cells #[.slice none 0 0] 24)) w.heap.size (.slice qa a.length qc)) :=
    Lib.hid ((Box1.new.to ((Below.refl _ _).alloc (Nat.le_refl _) _)).to ((Below.refl _ _).alloc (Nat.le_refl _) _))
  have hB2 : Hid (Box1 (((w.alloc (.cells #[.slice qa a.length qc] 24)).alloc (.cells #[.slice ra b.length rc] 24)).alloc (.cells #[.slice none 0 0] 24)) (w.heap.size + 1) (.slice ra b.length rc)) :=
    Lib.hid (by have := Box1.new (w := w.alloc (.cells #[.slice qa a.length qc] 24)) (e := 24) (v := .slice ra b.length rc); rw [World.size_alloc] at this; exact this.to ((Below.refl _ _).alloc (Nat.le_refl _) _))
  have hRB : Hid (ResB (((w.alloc (.cells #[.slice qa a.length qc] 24)).alloc (.cells #[.slice ra b.length rc] 24)).alloc (.cells #[.slice none 0 0] 24)) (w.heap.size + 1 + 1) (.slice none 0 0)) :=
    Lib.hid (ResB.new' (by simp))
  clear h h' va vb ca cb
  have t0 : 0 < 1 := by decide
  by_cases hlt : a.length < b.length
  · have d1 : decide ((a.length : Int) < (b.length : Int)) = true := decide_eq_true (by omega)
    have d1' : decide (a.length < b.length) = true := decide_eq_true hlt
    have hyn : a.length ≤ b.length := by omega
    obtain ⟨O, mk, BL⟩ := mk_row (b.length + 1) (by omega) (x := (b.length : Int) + 1) (by omega)
    replace BL := Lib.hid BL
    go_enter Tryz.func51, Tryz.ntmps51
    go_wp2_with fail
    refine (HV.out _ (hbx.out _ _ _)).mono ?_
    rintro e w1 ⟨rfl, hb1⟩
    obtain ⟨z0, y0⟩ := hB1.out.to hb1
    obtain ⟨z1, y1⟩ := hB2.out.to hb1
    have RR := Lib.hid (hRB.out.to hb1)
    have hbw := Lib.hid (below_of (hbx.out _ _ _) (hbx.out _ _ _).size hb1)
    clear hb1
    go_wp2_with fail
    refine wp_region_quiet_lit (by kernel_rfl) (by kernel_rfl) ?_
    repeat (go_big_quiet_step (fail))
    refine wpQuiet_nil ?_
    intro w2 hw2
    have hd2 : Drawn w1 w2 := hw2
    clear hw2
    have hbw2 := Lib.hid (hbw.out.drawn hd2)
    have RB2 := Lib.hid (RR.out.drawn hd2)
    clear hd2 z0 y0 z1 y1
    go_wp2
    go_loopw [9, 10, 11, 34] (fun s9 _ _ s34 wr => ∃ (k : Nat) (o : List Int) (c : Int), s34 = .int .i64 k ∧ s9 = .int .u32 c ∧ AddI b a b.length w2.heap.size w2 k o c wr) (fun _ _ _ s34 _ => b.length - (intOf s34).toNat)
    case atStart => exact ⟨0, zer (b.length + 1), 0, rfl, rfl, AddI.start (BL.out _)⟩
    case round =>
      obtain ⟨k, o, c, rfl, rfl, I⟩ := hrel
      have hbr := Lib.hid (below_of hbw2.out hbw2.out.size I.bel)
      have hlo := I.len
      have c0 := I.c0
      have c1 := I.c1
      have hgl := I.blk.lt
      have hkn := I.kn
      clear mk
      by_cases hk : k < b.length
      · have S := I.step hb ha hk
        have y2 := I.blk.cell (k := k) (by omega)
        have f2 := I.blk.frozen k
        obtain ⟨bx, ox, rfl, _, hcx⟩ := (Hb.out wr hbr.out).arr (by omega)
        have dx := hcx k hk
        unfold u32v at dx
        clear hcx
        have x0 := hb.at k
        have y0 := ha.at k
        have i0 : (0 : Int) ≤ k := by omega
        have i1 : k < b.length + 1 := by omega
        have i2 : (k : Int) < (b.length : Int) + 1 := by omega
        have t1 : decide ((k : Int) < (b.length : Int)) = true := decide_eq_true (by omega)
        by_cases hky : k < a.length
        · have H32 := Lib.hid (fun w => add32_any (gi b k) (gi a k) c w x0.1 x0.2 y0.1 y0.2 c0 c1)
          have t2 : decide ((k : Int) < (a.length : Int)) = true := decide_eq_true (by omega)
          have t2' : decide (k < a.length) = true := decide_eq_true hky
          obtain ⟨by', oy, rfl, _, hcy⟩ := (Ha.out wr hbr.out).arr (by omega)
          have dy := hcy k hky
          unfold u32v at dy
          clear hcy
          obtain ⟨d, hd⟩ : ∃ d, (gi b k + gi a k + c) % 4294967296 = d := ⟨_, rfl⟩
          obtain ⟨f, hf⟩ : ∃ f, (gi b k + gi a k + c) / 4294967296 = f := ⟨_, rfl⟩
          rw [hd, hf] at H32 S
          replace S := Lib.hid S
          clear hd hf hbr hgl I hlo x0 y0
          go_wp2_with fail
          refine (H32.out _).mono ?_
          rintro e w' ⟨rfl, rfl⟩
          go_wp2
          go_roundw
          case rel => exact ⟨k + 1, _, _, by go_num, rfl, S.out⟩
          case measure => simp [intOf]; omega
        · have ey : gi a k = 0 := gi_out (by omega)
          have H32 := Lib.hid (fun w => add32_any (gi b k) (gi a k) c w x0.1 x0.2 y0.1 y0.2 c0 c1)
          have t2 : decide ((k : Int) < (a.length : Int)) = false := by rw [decide_eq_false_iff_not]; omega
          have t2' : decide (k < a.length) = false := by rw [decide_eq_false_iff_not]; exact hky
          obtain ⟨d, hd⟩ : ∃ d, (gi b k + gi a k + c) % 4294967296 = d := ⟨_, rfl⟩
          obtain ⟨f, hf⟩ : ∃ f, (gi b k + gi a k + c) / 4294967296 = f := ⟨_, rfl⟩
          rw [hd, hf] at H32 S
          rw [ey] at H32
          replace S := Lib.hid S
          clear hd hf hbr hgl I hlo x0 y0 ey hky
          go_wp2_with fail
          refine (H32.out _).mono ?_
          rintro e w' ⟨rfl, rfl⟩
          go_wp2
          go_roundw
          case rel => exact ⟨k + 1, _, _, by go_num, rfl, S.out⟩
          case measure => simp [intOf]; omega
      · obtain rfl : k = b.length := by omega
        obtain ⟨f1, f2, f3, f4⟩ := I.fin hb ha rfl hyn
        have y2 := I.blk.cell (k := b.length) (by omega)
        have g2 := I.blk.frozen b.length
        have t1 : decide ((b.length : Int) < (b.length : Int)) = false := by rw [decide_eq_false_iff_not]; omega
        have i1 : b.length < b.length + 1 := by omega
        have i2 : (b.length : Int) < (b.length : Int) + 1 := by omega
        have HK := checked_any (o.set b.length c) ⟨some ⟨w2.heap.size, 0, none⟩, b.length + 1⟩ (wr.setCell ⟨w2.heap.size, b.length, none⟩ (.int .u32 c)) (f1.rlm (by omega) f2) (by omega)
        obtain ⟨e1, e2⟩ := chk_cut f3
        rw [f2, e1, e2, Nat.add_comm (vl b) (vl a)] at HK
        dsimp only at HK
        obtain ⟨m, hm⟩ : ∃ m, cutV (vl a + vl b) = m := ⟨_, rfl⟩
        obtain ⟨E, hE⟩ : ∃ E, cutE (vl a + vl b) = E := ⟨_, rfl⟩
        rw [hm, hE] at HK
        replace hm := Lib.hid hm
        replace hE := Lib.hid hE
        replace HK := Lib.hid HK
        have hb3 := Lib.hid (below_of hbw2.out hbw2.out.size f4)
        have RB3 := Lib.hid (RB2.out.to f4)
        clear f1 f2 f3 f4 e1 e2 I hbr hlo
        go_wp2_with fail
        refine HK.out.mono ?_
        rintro e w4 ⟨_, rfl, q4, rfl, hr4, hf4, hb4⟩
        obtain ⟨s0, s1, s2⟩ := RB3.out.to hb4
        have hR := Lib.hid (nres2_put (E := E) hb3.out (by omega) RB3.out.z hr4 hf4 hb4)
        clear hr4 hf4 hb4 y2 g2
        go_wp2
        refine bodyPost_ret (v := .tuple #[natV m q4, .int .i64 E]) (by simp [results, Tryz.results51, go_sem, s1]) rfl ?_
        rw [hm.out, hE.out]
        exact Ret.mk hR.out
  · have d1 : decide ((a.length : Int) < (b.length : Int)) = false := by rw [decide_eq_false_iff_not]; omega
    have d1' : decide (a.length < b.length) = false := by rw [decide_eq_false_iff_not]; exact hlt
    have hyn : b.length ≤ a.length := by omega
    obtain ⟨O, mk, BL⟩ := mk_row (a.length + 1) (by omega) (x := (a.length : Int) + 1) (by omega)
    replace BL := Lib.hid BL
    go_enter Tryz.func51, Tryz.ntmps51
    go_wp2_with fail
    refine (HV.out _ (hbx.out _ _ _)).mono ?_
    rintro e w1 ⟨rfl, hb1⟩
    obtain ⟨z0, y0⟩ := hB1.out.to hb1
    obtain ⟨z1, y1⟩ := hB2.out.to hb1
    have RR := Lib.hid (hRB.out.to hb1)
    have hbw := Lib.hid (below_of (hbx.out _ _ _) (hbx.out _ _ _).size hb1)
    clear hb1
    go_wp2_with fail
    refine wp_region_quiet_lit (by kernel_rfl) (by kernel_rfl) ?_
    repeat (go_big_quiet_step (fail))
    refine wpQuiet_nil ?_
    intro w2 hw2
    have hd2 : Drawn w1 w2 := hw2
    clear hw2
    have hbw2 := Lib.hid (hbw.out.drawn hd2)
    have RB2 := Lib.hid (RR.out.drawn hd2)
    clear hd2 z0 y0 z1 y1
    go_wp2
    go_loopw [9, 10, 11, 34] (fun s9 _ _ s34 wr => ∃ (k : Nat) (o : List Int) (c : Int), s34 = .int .i64 k ∧ s9 = .int .u32 c ∧ AddI a b a.length w2.heap.size w2 k o c wr) (fun _ _ _ s34 _ => a.length - (intOf s34).toNat)
    case atStart => exact ⟨0, zer (a.length + 1), 0, rfl, rfl, AddI.start (BL.out _)⟩
    case round =>
      obtain ⟨k, o, c, rfl, rfl, I⟩ := hrel
      have hbr := Lib.hid (below_of hbw2.out hbw2.out.size I.bel)
      have hlo := I.len
      have c0 := I.c0
      have c1 := I.c1
      have hgl := I.blk.lt
      have hkn := I.kn
      clear mk
      by_cases hk : k < a.length
      · have S := I.step ha hb hk
        have y2 := I.blk.cell (k := k) (by omega)
        have f2 := I.blk.frozen k
        obtain ⟨bx, ox, rfl, _, hcx⟩ := (Ha.out wr hbr.out).arr (by omega)
        have dx := hcx k hk
        unfold u32v at dx
        clear hcx
        have x0 := ha.at k
        have y0 := hb.at k
        have i0 : (0 : Int) ≤ k := by omega
        have i1 : k < a.length + 1 := by omega
        have i2 : (k : Int) < (a.length : Int) + 1 := by omega
        have t1 : decide ((k : Int) < (a.length : Int)) = true := decide_eq_true (by omega)
        by_cases hky : k < b.length
        · have H32 := Lib.hid (fun w => add32_any (gi a k) (gi b k) c w x0.1 x0.2 y0.1 y0.2 c0 c1)
          have t2 : decide ((k : Int) < (b.length : Int)) = true := decide_eq_true (by omega)
          have t2' : decide (k < b.length) = true := decide_eq_true hky
          obtain ⟨by', oy, rfl, _, hcy⟩ := (Hb.out wr hbr.out).arr (by omega)
          have dy := hcy k hky
          unfold u32v at dy
          clear hcy
          obtain ⟨d, hd⟩ : ∃ d, (gi a k + gi b k + c) % 4294967296 = d := ⟨_, rfl⟩
          obtain ⟨f, hf⟩ : ∃ f, (gi a k + gi b k + c) / 4294967296 = f := ⟨_, rfl⟩
          rw [hd, hf] at H32 S
          replace S := Lib.hid S
          clear hd hf hbr hgl I hlo x0 y0
          go_wp2_with fail
          refine (H32.out _).mono ?_
          rintro e w' ⟨rfl, rfl⟩
          go_wp2
          go_roundw
          case rel => exact ⟨k + 1, _, _, by go_num, rfl, S.out⟩
          case measure => simp [intOf]; omega
        · have ey : gi b k = 0 := gi_out (by omega)
          have H32 := Lib.hid (fun w => add32_any (gi a k) (gi b k) c w x0.1 x0.2 y0.1 y0.2 c0 c1)
          have t2 : decide ((k : Int) < (b.length : Int)) = false := by rw [decide_eq_false_iff_not]; omega
          have t2' : decide (k < b.length) = false := by rw [decide_eq_false_iff_not]; exact hky
          obtain ⟨d, hd⟩ : ∃ d, (gi a k + gi b k + c) % 4294967296 = d := ⟨_, rfl⟩
          obtain ⟨f, hf⟩ : ∃ f, (gi a k + gi b k + c) / 4294967296 = f := ⟨_, rfl⟩
          rw [hd, hf] at H32 S
          rw [ey] at H32
          replace S := Lib.hid S
          clear hd hf hbr hgl I hlo x0 y0 ey hky
          go_wp2_with fail
          refine (H32.out _).mono ?_
          rintro e w' ⟨rfl, rfl⟩
          go_wp2
          go_roundw
          case rel => exact ⟨k + 1, _, _, by go_num, rfl, S.out⟩
          case measure => simp [intOf]; omega
      · obtain rfl : k = a.length := by omega
        obtain ⟨f1, f2, f3, f4⟩ := I.fin ha hb rfl hyn
        have y2 := I.blk.cell (k := a.length) (by omega)
        have g2 := I.blk.frozen a.length
        have t1 : decide ((a.length : Int) < (a.length : Int)) = false := by rw [decide_eq_false_iff_not]; omega
        have i1 : a.length < a.length + 1 := by omega
        have i2 : (a.length : Int) < (a.length : Int) + 1 := by omega
        have HK := checked_any (o.set a.length c) ⟨some ⟨w2.heap.size, 0, none⟩, a.length + 1⟩ (wr.setCell ⟨w2.heap.size, a.length, none⟩ (.int .u32 c)) (f1.rlm (by omega) f2) (by omega)
        obtain ⟨e1, e2⟩ := chk_cut f3
        rw [f2, e1, e2] at HK
        dsimp only at HK
        obtain ⟨m, hm⟩ : ∃ m, cutV (vl a + vl b) = m := ⟨_, rfl⟩
        obtain ⟨E, hE⟩ : ∃ E, cutE (vl a + vl b) = E := ⟨_, rfl⟩
        rw [hm, hE] at HK
        replace hm := Lib.hid hm
        replace hE := Lib.hid hE
        replace HK := Lib.hid HK
        have hb3 := Lib.hid (below_of hbw2.out hbw2.out.size f4)
        have RB3 := Lib.hid (RB2.out.to f4)
        clear f1 f2 f3 f4 e1 e2 I hbr hlo
        go_wp2_with fail
        refine HK.out.mono ?_
        rintro e w4 ⟨_, rfl, q4, rfl, hr4, hf4, hb4⟩
        obtain ⟨s0, s1, s2⟩ := RB3.out.to hb4
        have hR := Lib.hid (nres2_put (E := E) hb3.out (by omega) RB3.out.z hr4 hf4 hb4)
        clear hr4 hf4 hb4 y2 g2
        go_wp2
        refine bodyPost_ret (v := .tuple #[natV m q4, .int .i64 E]) (by simp [results, Tryz.results51, go_sem, s1]) rfl ?_
        rw [hm.out, hE.out]
        exact Ret.mk hR.out
end Go.Proofs.YtpoddmkimhkmoaaGreat

namespace Go.Sv
open Go.RowKit
theorem ite_and_t {α : Type} {a b : Bool} {x y : α} (ha : a = true) (hb : b = true) : (if (a && b) = true then x else y) = x := by rw [ha, hb]; rfl
theorem ite_and_f {α : Type} {a b : Bool} {x y : α} (h : (a && b) = false) : (if (a && b) = true then x else y) = y := by rw [h]; rfl
end Go.Sv
namespace Go.Proofs.YtpoddmkimhkmoaaGreat
open Go.RowKit Go.Sv

def sumV (a b : List Int) : List Int := if (vN a && vN b) = true then cutV (vl a + vl b) else []
def sumE (a b : List Int) : Int := if (vN a && vN b) = true then cutE (vl a + vl b) else 1

set_option maxRecDepth 100000 in
theorem add_no (a b : List Int) (q r : LmP) (w : World) (h : RLm w w.heap.size a q) (h' : RLm w w.heap.size b r) (hv : (vN a && vN b) = false) :
    Calls Tryz.prog 51 #[natV a q, natV b r] w (Ret (NRes2 w [] 1)) := by
  have hbx : Hid (∀ o1 o2 o3 : Obj, Below w.heap.size w (((w.alloc o1).alloc o2).alloc o3)) := Lib.hid fun o1 o2 o3 => (((Below.refl _ _).alloc (Nat.le_refl _) o1).alloc (by simp) o2).alloc (by simp; omega) o3
  have HV := Lib.hid (fun w' (hw : Below w.heap.size w w') => valid2_any a b q r w' (h.to hw) (h'.to hw))
  rw [hv] at HV
  obtain ⟨qa, qc⟩ := q
  obtain ⟨ra, rc⟩ := r
  have hRB : Hid (ResB (((w.alloc (.cells #[.slice qa a.length qc] 24)).alloc (.cells #[.slice ra b.length rc] 24)).alloc (.cells #[.slice none 0 0] 24)) (w.heap.size + 1 + 1) (.slice none 0 0)) :=
    Lib.hid (ResB.new' (by simp))
  clear h h' hv
  go_enter Tryz.func51, Tryz.ntmps51
  go_wp2_with fail
  refine (HV.out _ (hbx.out _ _ _)).mono ?_
  rintro e w1 ⟨rfl, hb1⟩
  obtain ⟨s0, s1, s2⟩ := hRB.out.to hb1
  have hb := Lib.hid ((below_of (hbx.out _ _ _) (hbx.out _ _ _).size hb1).setCell (p := ⟨w.heap.size + 1 + 1, 0, none⟩) (by show w.heap.size ≤ w.heap.size + 1 + 1; omega) (.slice none 0 0))
  clear hb1
  go_wp2
  refine bodyPost_ret (v := .tuple #[.agg #[.slice none 0 0], .int .i64 1]) (by simp [results, Tryz.results51, go_sem, s1]) rfl ?_
  exact Ret.mk (NRes2.none_ hb.out)
theorem add_any (a b : List Int) (q r : LmP) (w : World) (h : RLm w w.heap.size a q) (h' : RLm w w.heap.size b r) (ha : Lim a) (hb : Lim b) :
    Calls Tryz.prog 51 #[natV a q, natV b r] w (Ret (NRes2 w (sumV a b) (sumE a b))) := by
  unfold sumV sumE
  by_cases hv : (vN a && vN b) = true
  · rw [if_pos hv, if_pos hv]
    obtain ⟨va, vb⟩ := (Bool.and_eq_true _ _).mp hv
    exact add_ok a b q r w h h' ha hb va vb
  · rw [if_neg hv, if_neg hv]
    exact add_no a b q r w h h' (by simpa using hv)

/-! ### the reference -/
structure RAddI (a b : List Int) (n : Nat) (w1 : World) (k : Nat) (o : List Int) (v : Value) (c : Int) (wr : World) : Prop where
  kn : k ≤ n + 1
  c0 : 0 ≤ c
  c1 : c ≤ 1
  len : o.length = k
  lo : Lim o
  eq : vt o k + c * Bp k = vt a k + vt b k
  own : wr.ownsRow w1.heap.size 69 1 v k (uRow o)
  bel : Below w1.heap.size w1 wr
theorem radd_dig {a b o : List Int} {k : Nat} {c : Int} (ha : Lim a) (hb : Lim b) (c0 : 0 ≤ c) (c1 : c ≤ 1) (lo : Lim o) (hlen : o.length = k) (h : vt o k + c * Bp k = vt a k + vt b k) :
    0 ≤ (c + gi a k + gi b k) / 4294967296 ∧ (c + gi a k + gi b k) / 4294967296 ≤ 1 ∧ Lim (o ++ [(c + gi a k + gi b k) % 4294967296]) ∧
    vt (o ++ [(c + gi a k + gi b k) % 4294967296]) (k + 1) + (c + gi a k + gi b k) / 4294967296 * Bp (k + 1) = vt a (k + 1) + vt b (k + 1) := by
  have x := ha.at k
  have y := hb.at k
  have e : c + gi a k + gi b k = gi a k + gi b k + c := by omega
  rw [e]
  exact ⟨by omega, by omega, lo.snoc (by omega) (by omega), add_step hlen h⟩
theorem radd_end {a b o : List Int} {n : Nat} {c : Int} (ha : Lim a) (hb : Lim b) (hna : a.length ≤ n) (hnb : b.length ≤ n) (c0 : 0 ≤ c) (lo : Lim o) (hlen : o.length = n + 1) (h : vt o (n + 1) + c * Bp (n + 1) = vt a (n + 1) + vt b (n + 1)) : norm o = lim (vl a + vl b) := by
  have e1 := vt_more (l := a) (k := n + 1) (by omega)
  have e2 := vt_more (l := b) (k := n + 1) (by omega)
  rw [e1, e2, vl_vt ha, vl_vt hb] at h
  refine norm_lim lo ?_
  rw [hlen, Int.natCast_add]
  have b1 := (vt_bd ha n).2
  have b2 := (vt_bd hb n).2
  rw [vt_more hna, vl_vt ha] at b1
  rw [vt_more hnb, vl_vt hb] at b2
  have b3 := vt_bd lo (n + 1)
  have hp := Bp_pos n
  rw [Bp_succ] at h b3
  rcases (by omega : c = 0 ∨ 1 ≤ c) with e | e
  · subst e; rw [Int.zero_mul] at h; omega
  · exfalso
    have : 1 * (Bp n * 4294967296) ≤ c * (Bp n * 4294967296) := Int.mul_le_mul_of_nonneg_right e (by omega)
    omega

set_option maxHeartbeats 1000000 in
set_option maxRecDepth 100000 in
theorem radd_ok (a b : List Int) (q r : LmP) (w : World) (h : RLm w w.heap.size a q) (h' : RLm w w.heap.size b r) (ha : Lim a) (hb : Lim b) (va : vN a = true) (vb : vN b = true) :
    Calls Tryz.prog 103 #[natV a q, natV b r] w (Ret (NRes2 w (cutV (vl a + vl b)) (cutE (vl a + vl b)))) := by
  have na := (vN_can va).1
  have nb := (vN_can vb).1
  have hbx : Hid (∀ o1 o2 o3 : Obj, Below w.heap.size w (((w.alloc o1).alloc o2).alloc o3)) := Lib.hid fun o1 o2 o3 => (((Below.refl _ _).alloc (Nat.le_refl _) o1).alloc (by simp) o2).alloc (by simp; omega) o3
  have HVa := Lib.hid (fun w' (hw : Below w.heap.size w w') => rvalid_any a q w' (h.to hw))
  have HVb := Lib.hid (fun w' (hw : Below w.heap.size w w') => rvalid_any b r w' (h'.to hw))
  rw [va] at HVa
  rw [vb] at HVb
  have HA := Lib.hid (fun w' (k : Nat) (hw : Below w.heap.size w w') => limb_any a q k w' (h.to hw) ha (by omega))
  have HB := Lib.hid (fun w' (k : Nat) (hw : Below w.heap.size w w') => limb_any b r k w' (h'.to hw) hb (by omega))
  simp only [Int.toNat_natCast] at HA HB
  obtain ⟨qa, qc⟩ := q
  obtain ⟨ra, rc⟩ := r
  have hB1 : Hid (Box1 (((w.alloc (.cells #[.slice qa a.length qc] 24)).alloc (.cells #[.slice ra b.length rc] 24)).alloc (.cells #[.slice none 0 0] 24)) w.heap.size (.slice qa a.length qc)) :=
    Lib.hid ((Box1.new.to ((Below.refl _ _).alloc (Nat.le_refl _) _)).to ((Below.refl _ _).alloc (Nat.le_refl _) _))
  have hB2 : Hid (Box1 (((w.alloc (.cells #[.slice qa a.length qc] 24)).alloc (.cells #[.slice ra b.length rc] 24)).alloc (.cells #[.slice none 0 0] 24)) (w.heap.size + 1) (.slice ra b.length rc)) :=
    Lib.hid (by have := Box1.new (w := w.alloc (.cells #[.slice qa a.length qc] 24)) (e := 24) (v := .slice ra b.length rc); rw [World.size_alloc] at this; exact this.to ((Below.refl _ _).alloc (Nat.le_refl _) _))
  have hRB : Hid (ResB (((w.alloc (.cells #[.slice qa a.length qc] 24)).alloc (.cells #[.slice ra b.length rc] 24)).alloc (.cells #[.slice none 0 0] 24)) (w.heap.size + 1 + 1) (.slice none 0 0)) :=
    Lib.hid (ResB.new' (by simp))
  obtain ⟨n, hn⟩ : ∃ n, max a.length b.length = n := ⟨_, rfl⟩
  have hna : a.length ≤ n := by omega
  have hnb : b.length ≤ n := by omega
  have hn128 : n ≤ 128 := by omega
  replace hn := Lib.hid hn
  clear h h' va vb na nb
  go_enter Tryz.func103, Tryz.ntmps103
  go_wp2_with fail
  refine (HVa.out _ (hbx.out _ _ _)).mono ?_
  rintro e w0 ⟨rfl, hb0⟩
  have X1 := Lib.hid (hB1.out.to hb0)
  have X2 := Lib.hid (hB2.out.to hb0)
  have XR := Lib.hid (hRB.out.to hb0)
  have hbw0 := Lib.hid (below_of (hbx.out _ _ _) (hbx.out _ _ _).size hb0)
  clear hb0
  obtain ⟨z1, y1⟩ := X2.out
  go_wp2_with fail
  refine (HVb.out _ hbw0.out).mono ?_
  rintro e w1 ⟨rfl, hb1⟩
  have Y1 := Lib.hid (X1.out.to hb1)
  have Y2 := Lib.hid (X2.out.to hb1)
  have YR := Lib.hid (XR.out.to hb1)
  have hbw := Lib.hid (below_of hbw0.out hbw0.out.size hb1)
  clear hb1 z1 y1 X1 X2 XR
  go_wp2
  go_loopw [6, 7, 8] (fun s6 s7 s8 wr => ∃ (k : Nat) (o : List Int) (c : Int), s8 = .int .i64 k ∧ s7 = .int .u64 c ∧ RAddI a b n w1 k o s6 c wr) (fun _ _ s8 _ => n + 1 - (intOf s8).toNat)
  case atStart => exact ⟨0, [], 0, rfl, rfl, ⟨Nat.zero_le _, Int.le_refl _, by decide, rfl, Lim.nil, by simp [vt], World.ownsRow_nil _ _ _ _, Below.refl _ _⟩⟩
  case round =>
    obtain ⟨k, o, c, rfl, rfl, I⟩ := hrel
    obtain ⟨z0, y0⟩ := Y1.out.to I.bel
    obtain ⟨z1, y1⟩ := Y2.out.to I.bel
    have hbr := Lib.hid (below_of hbw.out hbw.out.size I.bel)
    have hkn := I.kn
    go_upto_region 6 with fail
    go_cut [27] (fun s27 wx => s27 = .bool (decide (k < n + 1)) ∧ wr = wx)
    case first =>
      go_wp2_with fail
      all_goals
        go_meet
        refine ⟨?_, rfl⟩
        congr 1
        rw [Bool.eq_iff_iff, decide_eq_true_iff, decide_eq_true_iff]
        have := hn.out
        omega
    case rest =>
      obtain ⟨rfl, rfl⟩ := hcut
      by_cases hlt : k < n + 1
      · have t1 : decide (k < n + 1) = true := decide_eq_true hlt
        have c0 := I.c0
        have c1 := I.c1
        obtain ⟨d1, d2, d3, d4⟩ := radd_dig ha hb c0 c1 I.lo I.len I.eq
        have xa := ha.at k
        have xb := hb.at k
        have hG : Hid (∀ x : GrowX wr, Below w.heap.size w (grow wr x)) := Lib.hid fun x => below_of hbr.out hbr.out.size (grow_is wr x)
        have wr1 : IntKind.u64.wrap (c + gi a k) = c + gi a k := by simp [IntKind.wrap, IntKind.bits, IntKind.signed]; omega
        have wr2 : IntKind.u64.wrap (c + gi a k + gi b k) = c + gi a k + gi b k := by simp [IntKind.wrap, IntKind.bits, IntKind.signed]; omega
        go_wp2_with fail
        refine wp_region_calm (by kernel_rfl) (by kernel_rfl) ?_
        repeat (go_big_quiet_step (((go_at_call 79; first | (with_reducible exact calm_b (HA.out _ _ (hG.out _))) | (with_reducible exact calm_b (HB.out _ _ (hG.out _)))))))
        refine wpQuiet_nil ?_
        intro w2 hw2
        have hg := grow_below hw2
        clear hw2
        have hown := Lib.hid (own_to I.own hg)
        have hbel2 := Lib.hid (I.bel.trans (hg.mono I.bel.size))
        have hsz := hbel2.out.size
        have kc : Hid (k + 1 = (o ++ [(c + gi a k + gi b k) % 4294967296]).length) := Lib.hid (by rw [List.length_append, I.len]; rfl)
        have uR : Hid (uRow (o ++ [(c + gi a k + gi b k) % 4294967296]) = uRow o ++ [.int .u32 ((c + gi a k + gi b k) % 4294967296)]) := Lib.hid (uRow_snoc _ _)
        clear I hg hG z0 y0 z1 y1 c0 c1
        replace d4 := Lib.hid d4
        obtain ⟨d, hd⟩ : ∃ d, (c + gi a k + gi b k) % 4294967296 = d := ⟨_, rfl⟩
        obtain ⟨f, hf⟩ : ∃ f, (c + gi a k + gi b k) / 4294967296 = f := ⟨_, rfl⟩
        rw [hd] at kc uR d3
        rw [hd, hf] at d4
        rw [hf] at d1 d2
        replace d3 := Lib.hid d3
        replace hd := Lib.hid hd
        replace hf := Lib.hid hf
        go_wp2_with (at_builtin; refine push_own elU32 rfl _ _ rfl w1.heap.size _ k (uRow o) hown.out rfl _ rfl rfl rfl (by omega) (by omega) hsz ?_)
        intro v' w3 hown3 hgr hb3 hs3 _
        rw [hd.out] at hown3
        have S : Hid (RAddI a b n w1 (k + 1) (o ++ [d]) v' f w3) := Lib.hid ⟨by omega, d1, d2, kc.out.symm, d3.out, d4.out, by rw [uR.out]; exact hown3, hbel2.out.trans hb3⟩
        clear hown3 hgr hb3 hs3 d1 d2 hd
        go_wp2
        go_roundw
        case rel => exact ⟨k + 1, _, _, by go_num, by rw [← hf.out], S.out⟩
        case measure => simp [intOf]; omega
      · obtain rfl : k = n + 1 := by omega
        have t1 : decide (n + 1 < n + 1) = false := by rw [decide_eq_false_iff_not]; omega
        have hl := I.len
        have hN := radd_end ha hb hna hnb I.c0 I.lo I.len I.eq
        obtain ⟨q6, rfl, hr6, _⟩ := own_rlm I.own I.len.symm
        have HT := rtrim_any o q6 wr hr6 (by omega)
        rw [hN] at HT
        have hlen : (lim (vl a + vl b)).length ≤ 1000000 := by
          rw [← hN, norm_len]; have := nzl_le o o.length; omega
        have hcV : Hid (cutV (vl a + vl b) = if 128 < (lim (vl a + vl b)).length then [] else lim (vl a + vl b)) := Lib.hid rfl
        have hcE : Hid (cutE (vl a + vl b) = if 128 < (lim (vl a + vl b)).length then 3 else 0) := Lib.hid rfl
        obtain ⟨m, hm⟩ : ∃ m, lim (vl a + vl b) = m := ⟨_, rfl⟩
        rw [hm] at HT hlen hcV hcE
        replace HT := Lib.hid HT
        have YR' := Lib.hid (YR.out.to I.bel)
        clear hN I hr6 hl hm z0 y0 z1 y1
        go_wp2_with fail
        refine HT.out.mono ?_
        rintro e w2 ⟨_, rfl, q7, rfl, hr7, hf7, hb7⟩
        have HLg := Lib.hid (large_any m q7 w2 hlen)
        have YR2 := Lib.hid (YR'.out.to hb7)
        by_cases g : 128 < m.length
        · have eL : lrgV m q7 = .tuple #[.agg #[.slice none 0 0], .int .i64 3] := if_pos g
          rw [eL] at HLg
          rw [if_pos g] at hcV hcE
          have hb8 := Lib.hid (below_of hbr.out hbr.out.size hb7)
          clear eL g hr7 hf7 hb7
          go_wp2_with fail
          refine HLg.out.mono ?_
          rintro e w4 ⟨rfl, hb4⟩
          obtain ⟨s0, s1, s2⟩ := YR2.out.to hb4
          have hb := Lib.hid ((below_of hb8.out hb8.out.size hb4).setCell (p := ⟨w.heap.size + 1 + 1, 0, none⟩) (by show w.heap.size ≤ w.heap.size + 1 + 1; omega) (.slice none 0 0))
          clear hb4
          go_wp2
          refine bodyPost_ret (v := .tuple #[.agg #[.slice none 0 0], .int .i64 3]) (by simp [results, Tryz.results103, go_sem, s1]) rfl ?_
          rw [hcV.out, hcE.out]
          exact Ret.mk (NRes2.none_ hb.out)
        · have eL : lrgV m q7 = .tuple #[natV m q7, .int .i64 0] := if_neg g
          rw [eL] at HLg
          rw [if_neg g] at hcV hcE
          have hR7 := Lib.hid (fun w4 (hb4 : Below w2.heap.size w2 w4) => nres2_put (E := 0) hbr.out (show w.heap.size ≤ w.heap.size + 1 + 1 by omega) YR'.out.z (hr7.to hb4) hf7 (below_of hb7 hb7.size hb4))
          clear eL g hr7 hf7 hb7
          go_wp2_with fail
          refine HLg.out.mono ?_
          rintro e w4 ⟨rfl, hb4⟩
          obtain ⟨s0, s1, s2⟩ := YR2.out.to hb4
          have hR := Lib.hid (hR7.out w4 hb4)
          clear hb4
          go_wp2
          refine bodyPost_ret (v := .tuple #[natV m q7, .int .i64 0]) (by simp [results, Tryz.results103, go_sem, s1]) rfl ?_
          rw [hcV.out, hcE.out]
          exact Ret.mk hR.out

set_option maxRecDepth 100000 in
theorem radd_no (a b : List Int) (q r : LmP) (w : World) (h : RLm w w.heap.size a q) (h' : RLm w w.heap.size b r) (hv : (vN a && vN b) = false) :
    Calls Tryz.prog 103 #[natV a q, natV b r] w (Ret (NRes2 w [] 1)) := by
  have hbx : Hid (∀ o1 o2 o3 : Obj, Below w.heap.size w (((w.alloc o1).alloc o2).alloc o3)) := Lib.hid fun o1 o2 o3 => (((Below.refl _ _).alloc (Nat.le_refl _) o1).alloc (by simp) o2).alloc (by simp; omega) o3
  have HVa := Lib.hid (fun w' (hw : Below w.heap.size w w') => rvalid_any a q w' (h.to hw))
  have HVb := Lib.hid (fun w' (hw : Below w.heap.size w w') => rvalid_any b r w' (h'.to hw))
  obtain ⟨qa, qc⟩ := q
  obtain ⟨ra, rc⟩ := r
  have hB2 : Hid (Box1 (((w.alloc (.cells #[.slice qa a.length qc] 24)).alloc (.cells #[.slice ra b.length rc] 24)).alloc (.cells #[.slice none 0 0] 24)) (w.heap.size + 1) (.slice ra b.length rc)) :=
    Lib.hid (by have := Box1.new (w := w.alloc (.cells #[.slice qa a.length qc] 24)) (e := 24) (v := .slice ra b.length rc); rw [World.size_alloc] at this; exact this.to ((Below.refl _ _).alloc (Nat.le_refl _) _))
  have hRB : Hid (ResB (((w.alloc (.cells #[.slice qa a.length qc] 24)).alloc (.cells #[.slice ra b.length rc] 24)).alloc (.cells #[.slice none 0 0] 24)) (w.heap.size + 1 + 1) (.slice none 0 0)) :=
    Lib.hid (ResB.new' (by simp))
  clear h h'
  cases va : vN a
  · rw [va] at HVa
    clear hv va
    go_enter Tryz.func103, Tryz.ntmps103
    go_wp2_with fail
    refine (HVa.out _ (hbx.out _ _ _)).mono ?_
    rintro e w1 ⟨rfl, hb1⟩
    obtain ⟨s0, s1, s2⟩ := hRB.out.to hb1
    have hb := Lib.hid ((below_of (hbx.out _ _ _) (hbx.out _ _ _).size hb1).setCell (p := ⟨w.heap.size + 1 + 1, 0, none⟩) (by show w.heap.size ≤ w.heap.size + 1 + 1; omega) (.slice none 0 0))
    clear hb1
    go_wp2
    refine bodyPost_ret (v := .tuple #[.agg #[.slice none 0 0], .int .i64 1]) (by simp [results, Tryz.results103, go_sem, s1]) rfl ?_
    exact Ret.mk (NRes2.none_ hb.out)
  · have vb : vN b = false := by rw [va] at hv; simpa using hv
    rw [va] at HVa
    rw [vb] at HVb
    clear hv va vb
    go_enter Tryz.func103, Tryz.ntmps103
    go_wp2_with fail
    refine (HVa.out _ (hbx.out _ _ _)).mono ?_
    rintro e w1 ⟨rfl, hb1⟩
    have XR := Lib.hid (hRB.out.to hb1)
    obtain ⟨z1, y1⟩ := hB2.out.to hb1
    have hbw := Lib.hid (below_of (hbx.out _ _ _) (hbx.out _ _ _).size hb1)
    clear hb1
    go_wp2_with fail
    refine (HVb.out _ hbw.out).mono ?_
    rintro e w2 ⟨rfl, hb2⟩
    obtain ⟨s0, s1, s2⟩ := XR.out.to hb2
    have hb := Lib.hid ((below_of hbw.out hbw.out.size hb2).setCell (p := ⟨w.heap.size + 1 + 1, 0, none⟩) (by show w.heap.size ≤ w.heap.size + 1 + 1; omega) (.slice none 0 0))
    clear hb2 z1 y1
    go_wp2
    refine bodyPost_ret (v := .tuple #[.agg #[.slice none 0 0], .int .i64 1]) (by simp [results, Tryz.results103, go_sem, s1]) rfl ?_
    exact Ret.mk (NRes2.none_ hb.out)
theorem radd_any (a b : List Int) (q r : LmP) (w : World) (h : RLm w w.heap.size a q) (h' : RLm w w.heap.size b r) (ha : Lim a) (hb : Lim b) :
    Calls Tryz.prog 103 #[natV a q, natV b r] w (Ret (NRes2 w (sumV a b) (sumE a b))) := by
  unfold sumV sumE
  by_cases hv : (vN a && vN b) = true
  · rw [if_pos hv, if_pos hv]
    obtain ⟨va, vb⟩ := (Bool.and_eq_true _ _).mp hv
    exact radd_ok a b q r w h h' ha hb va vb
  · rw [if_neg hv, if_neg hv]
    exact radd_no a b q r w h h' (by simpa using hv)
end Go.Proofs.YtpoddmkimhkmoaaGreat
