/-
  CONTRACTS of bits.Div32, natural.byLimb, shift, unshift.
  Conditions: those that each theorem names.
-/
import Derived.Test.YtpoddmkimhkmoaaGreatNt4
import Derived.Deep.RegionHeld3
import Derived.RegionTactic
import Derived.BigRegion
import Derived.Test.YtpoddmkimhkmoaaGreatNt1
import Derived.Test.YtpoddmkimhkmoaaGreatTwo
import Derived.Deep.CutBlock
import Derived.Deep.RegionLaw
namespace Go.Sv
open Go.RowKit
theorem or64 {X Y i : Nat} (hX : X < 18446744073709551616) (hi : X % 2 ^ i = 0) (hY : Y < 2 ^ i) (hY2 : Y < 18446744073709551616) : bits .or .u64 (X : Int) (Y : Int) = (X : Int) + (Y : Int) := by
  rw [u64_or_nat X Y hX hY2, nat_join i X Y hi hY, Int.natCast_add]
theorem or_hi {x y : Int} (x0 : 0 ≤ x) (x1 : x < 4294967296) (y0 : 0 ≤ y) (y1 : y < 4294967296) : bits .or .u64 (x * 4294967296) y = x * 4294967296 + y := by
  obtain ⟨X, rfl⟩ : ∃ X : Nat, x = X := ⟨x.toNat, by omega⟩
  obtain ⟨Y, rfl⟩ : ∃ Y : Nat, y = Y := ⟨y.toNat, by omega⟩
  have h := or64 (X := X * 4294967296) (Y := Y) (i := 32) (by omega) (by rw [two32]; omega) (by rw [two32]; omega) (by omega)
  rw [Int.natCast_mul] at h
  exact h
end Go.Sv
namespace Go.Proofs.YtpoddmkimhkmoaaGreat
open Go.RowKit Go.Sv
theorem div32_any (h l d : Int) (w : World) (l0 : 0 ≤ l) (l1 : l < 4294967296) (h0 : 0 ≤ h) (h1 : h < d) (d1 : d < 4294967296) :
    Calls Tryz.prog 104 #[.int .u32 h, .int .u32 l, .int .u32 d] w fun e w' => e = .returned (.tuple #[.int .u32 ((h * 4294967296 + l) / d), .int .u32 ((h * 4294967296 + l) % d)]) ∧ Drawn w w' := by
  have e1 : (d != 0) = true := by rw [bne_iff_ne]; omega
  have e2 : decide (d ≤ h) = false := by rw [decide_eq_false_iff_not]; omega
  have eo := or_hi h0 (by omega) l0 l1
  obtain ⟨q0, q1, r0, r1⟩ := div_dig (by omega) h0 h1 l0 l1
  go_enter Tryz.func104, Tryz.ntmps104
  go_wp2
  refine wp_region_quiet_lit (by kernel_rfl) (by kernel_rfl) ?_
  repeat (go_big_quiet_step (fail))
  refine wpQuiet_nil ?_
  intro w2 hw2
  have hd2 : Drawn w w2 := hw2
  clear hw2
  replace hd2 := Lib.hid hd2
  go_wp2
  go_ret2
  exact ⟨rfl, hd2.out⟩

/-- what a division by one limb leaves -/
def DivR (w : World) (n V d : Nat) (v : Value) (w' : World) : Prop :=
  ∃ (o : List Int) (q : LmP), v = .tuple #[rowV o q, .int .u32 ((V % d : Nat) : Int)] ∧ o.length = n ∧ Lim o ∧ norm o = lim (V / d) ∧ RLm w' w'.heap.size o q ∧ Fr w.heap.size q ∧ Below w.heap.size w w'
structure BylI (l : List Int) (d : Int) (g : Nat) (w : World) (k : Nat) (o : List Int) (r : Int) (wr : World) : Prop where
  kn : k ≤ l.length
  r0 : 0 ≤ r
  r1 : r < d
  len : o.length = l.length
  lo : Lim o
  eq : vu l l.length k = d * vu o l.length k + r * Bp k
  row : RowAt wr g o
  bel : Below g w wr
theorem BylI.step {l o : List Int} {d r : Int} {g k : Nat} {w wr wr' : World} (h : BylI l d g w (k + 1) o r wr) (hl : Lim l) (d0 : 0 < d) (hd : Drawn wr wr') :
    BylI l d g w k (o.set k ((r * 4294967296 + gi l k) / d)) ((r * 4294967296 + gi l k) % d) (wr'.setCell ⟨g, k, none⟩ (.int .u32 ((r * 4294967296 + gi l k) / d))) := by
  have x := hl.at k
  have hk := h.kn
  have hlen := h.len
  obtain ⟨q0, q1, r0, r1⟩ := div_dig d0 h.r0 h.r1 x.1 x.2
  exact ⟨by omega, r0, r1, by rw [List.length_set]; exact hlen, h.lo.set q0 q1, div_step (by omega) (by omega) d0 h.eq, (h.row.drawn hd).set (by omega) _, (h.bel.drawn hd).setCell (Nat.le_refl _) _⟩
theorem BylI.fin {l o : List Int} {d : Nat} {r : Int} {g : Nat} {w wr : World} (h : BylI l d g w 0 o r wr) (hl : Lim l) (d0 : 0 < d) : norm o = lim (vl l / d) ∧ r = ((vl l % d : Nat) : Int) := by
  obtain ⟨e1, e2⟩ := div_end (by omega) h.r0 h.r1 h.eq
  rw [vl_vt hl] at e1 e2
  exact ⟨norm_lim h.lo (by rw [h.len, e1]; rfl), e2⟩
set_option maxHeartbeats 400000 in
set_option maxRecDepth 100000 in
theorem byLimb_any (l : List Int) (q : LmP) (d : Nat) (w : World) (h : RLm w w.heap.size l q) (hl : Lim l) (hn : l.length ≤ 1000) (d0 : 0 < d) (d1 : d < 4294967296) :
    Calls Tryz.prog 90 #[rowV l q, .int .u32 d] w (Ret (DivR w l.length (vl l) d)) := by
  have Ha := Lib.hid (fun w' (hw : Below w.heap.size w w') => h.to hw)
  obtain ⟨qa, qc⟩ := q
  obtain ⟨O, mk, BL⟩ := mk_rowAt l.length hn (x := (l.length : Int)) rfl
  replace BL := Lib.hid BL
  clear h
  dsimp only [rowV]
  go_enter Tryz.func90, Tryz.ntmps90
  go_wp2
  go_loopw [7, 8] (fun s7 s8 wr => ∃ (k : Nat) (o : List Int) (r : Int), s8 = .int .i64 ((k : Int) - 1) ∧ s7 = .int .u32 r ∧ BylI l d w.heap.size w k o r wr) (fun _ s8 _ => (intOf s8 + 1).toNat)
  case atStart => exact ⟨l.length, zer l.length, 0, rfl, rfl, ⟨Nat.le_refl _, Int.le_refl _, by omega, zer_len _, zer_lim _, by rw [vu_end, vu_end, Int.mul_zero, Int.zero_mul]; rfl, BL.out w, (Below.refl _ _).alloc (Nat.le_refl _) _⟩⟩
  case round =>
    obtain ⟨k, o, r, rfl, rfl, I⟩ := hrel
    clear mk
    have hlo := I.len
    have hgl := I.row.lt
    have hkn := I.kn
    cases k with
    | zero =>
      obtain ⟨e1, e2⟩ := I.fin hl d0
      have hR : Hid (DivR w l.length (vl l) d (.tuple #[.slice (some ⟨w.heap.size, 0, none⟩) l.length l.length, .int .u32 r]) wr) :=
        Lib.hid ⟨o, ⟨some ⟨w.heap.size, 0, none⟩, l.length⟩, by rw [e2]; show _ = Value.tuple #[.slice (some ⟨w.heap.size, 0, none⟩) o.length l.length, _]; rw [hlo], hlo, I.lo, e1, I.row.rlm rfl (by omega) (by show l.length ≤ maxLen; unfold maxLen; omega), fun g hg => by injection hg with hg; subst hg; exact Nat.le_refl _, I.bel⟩
      clear I e1 e2 hlo
      go_wp2
      go_ret2
      exact Ret.mk hR.out
    | succ k =>
      have e1 : ((k + 1 : Nat) : Int) - 1 = (k : Int) := by omega
      rw [e1]
      clear e1
      obtain ⟨ba, oa, rfl, hba, hca⟩ := (Ha.out wr I.bel).arr (by omega)
      have da := hca k (by omega)
      unfold u32v at da
      clear hca
      have x := hl.at k
      have H32 := Lib.hid (fun w => div32_any r (gi l k) d w x.1 x.2 I.r0 I.r1 (by omega))
      have S := Lib.hid (fun wr' (hd : Drawn wr wr') => I.step hl (by omega) hd)
      have y2 := Lib.hid (fun wr' (hd : Drawn wr wr') => (I.row.drawn hd))
      have i0 : (0 : Int) ≤ k := by omega
      have ik : k < l.length := hkn
      have ik' : (k : Int) < (l.length : Int) := by omega
      have hok : k < o.length := by omega
      clear I hlo x
      go_wp2_with fail
      refine (H32.out _).mono ?_
      rintro e w3 ⟨rfl, hd3⟩
      obtain ⟨y3, y4, y5⟩ := y2.out w3 hd3
      have y4' := y4 k hok
      have y5' := y5 k
      have S' := Lib.hid (S.out w3 hd3)
      clear hd3 y4 y5
      go_wp2
      go_roundw
      case rel => exact ⟨k, _, _, rfl, rfl, S'.out⟩
      case measure => simp [intOf]

/-! ### shift -/
def ShR (w : World) (l : List Int) (n : Nat) (m : Int) (v : Value) (w' : World) : Prop :=
  ∃ (o : List Int) (g : Nat), v = .slice (some ⟨g, 0, none⟩) n n ∧ o.length = n ∧ Lim o ∧ vt o n = vt l l.length * m ∧ RowAt w' g o ∧ w.heap.size ≤ g ∧ Below w.heap.size w w'
structure ShI (l : List Int) (m : Int) (g : Nat) (w : World) (k : Nat) (o : List Int) (c : Int) (wr : World) : Prop where
  kn : k ≤ l.length
  c0 : 0 ≤ c
  c1 : c < m
  len : o.length = l.length + 1
  lo : Lim o
  eq : vt o k + c * Bp k = vt l k * m
  row : RowAt wr g o
  bel : Below g w wr
theorem sh_dig {x c m : Int} (m0 : 0 < m) (m1 : m ≤ 4294967296) (x0 : 0 ≤ x) (x1 : x < 4294967296) (c0 : 0 ≤ c) (c1 : c < m) : 0 ≤ x * m ∧ x * m ≤ 4294967295 * m ∧ 0 ≤ (x * m + c) / 4294967296 ∧ (x * m + c) / 4294967296 < m := by
  have h1 : 0 ≤ x * m := Int.mul_nonneg x0 (by omega)
  have h2 : x * m ≤ 4294967295 * m := Int.mul_le_mul_of_nonneg_right (by omega) (by omega)
  generalize x * m = p at *
  exact ⟨h1, h2, by omega, by omega⟩
theorem ShI.step {l o : List Int} {m c : Int} {g k : Nat} {w wr : World} (h : ShI l m g w k o c wr) (hl : Lim l) (m0 : 0 < m) (m1 : m ≤ 4294967296) (hk : k < l.length) :
    ShI l m g w (k + 1) (o.set k ((gi l k * m + c) % 4294967296)) ((gi l k * m + c) / 4294967296) (wr.setCell ⟨g, k, none⟩ (.int .u32 ((gi l k * m + c) % 4294967296))) := by
  have x := hl.at k
  have hlen := h.len
  obtain ⟨_, _, a, b⟩ := sh_dig m0 m1 x.1 x.2 h.c0 h.c1
  exact ⟨hk, a, b, by rw [List.length_set]; exact hlen, h.lo.set (by omega) (by omega), shl_step (by omega) h.eq, h.row.set (by omega) _, h.bel.setCell (Nat.le_refl _) _⟩
theorem ShI.fin {l o : List Int} {m c : Int} {g : Nat} {w wr : World} (h : ShI l m g w l.length o c wr) (m1 : m ≤ 4294967296) (hg : w.heap.size ≤ g) :
    ShR w l (l.length + 1) m (.slice (some ⟨g, 0, none⟩) (l.length + 1) (l.length + 1)) (wr.setCell ⟨g, l.length, none⟩ (.int .u32 c)) := by
  have hlen := h.len
  have c1 := h.c1
  refine ⟨o.set l.length c, g, rfl, by rw [List.length_set]; exact hlen, h.lo.set h.c0 (by omega), ?_, h.row.set (by omega) _, hg, ?_⟩
  · rw [vt_succ, vt_set_le (Nat.le_refl _), gi_set (by omega)]
    exact h.eq
  · exact (h.bel.mono hg).setCell hg _
theorem sh_or {x c : Int} {k : Nat} (hk : k < 32) (x0 : 0 ≤ x) (x1 : x < 4294967296) (c0 : 0 ≤ c) (c1 : c < ((2 ^ k : Nat) : Int)) : bits .or .u64 (x * ((2 ^ k : Nat) : Int)) c = x * ((2 ^ k : Nat) : Int) + c := by
  obtain ⟨X, rfl⟩ : ∃ X : Nat, x = X := ⟨x.toNat, by omega⟩
  obtain ⟨C, rfl⟩ : ∃ C : Nat, c = C := ⟨c.toNat, by omega⟩
  have hp : 2 ^ k ≤ 2 ^ 32 := Nat.pow_le_pow_right (by decide) (by omega)
  rw [two32] at hp
  have h1 : X * 2 ^ k ≤ 4294967295 * 4294967296 := Nat.mul_le_mul (by omega) hp
  have h := or64 (X := X * 2 ^ k) (Y := C) (i := k) (by omega) (Nat.mul_mod_left _ _) (by omega) (by omega)
  rw [Int.natCast_mul] at h
  exact h

set_option maxHeartbeats 400000 in
set_option maxRecDepth 100000 in
theorem shift_any (l : List Int) (q : LmP) (k : Nat) (w : World) (h : RLm w w.heap.size l q) (hl : Lim l) (hn : l.length ≤ 999) (hk : k < 32) :
    Calls Tryz.prog 92 #[rowV l q, .int .i64 k] w (Ret (ShR w l (l.length + 1) ((2 ^ k : Nat) : Int))) := by
  have Ha := Lib.hid (fun w' (hw : Below w.heap.size w w') => h.to hw)
  obtain ⟨qa, qc⟩ := q
  obtain ⟨O, mk, BL⟩ := mk_rowAt (l.length + 1) (by omega) (x := (l.length : Int) + 1) (by omega)
  replace BL := Lib.hid BL
  have hp : 2 ^ k ≤ 2 ^ 32 := Nat.pow_le_pow_right (by decide) (by omega)
  rw [two32] at hp
  have hp0 : 0 < 2 ^ k := Nat.pow_pos (by decide)
  have ho := Lib.hid (fun x c (x0 : 0 ≤ x) (x1 : x < 4294967296) (c0 : 0 ≤ c) c1 => sh_or (x := x) (c := c) hk x0 x1 c0 c1)
  obtain ⟨m, hm⟩ : ∃ m : Int, ((2 ^ k : Nat) : Int) = m := ⟨_, rfl⟩
  have m0 : 0 < m := by omega
  have m1 : m ≤ 4294967296 := by omega
  rw [hm] at ho ⊢
  have hm' : Hid ((2 : Int) ^ k = m) := Lib.hid (by rw [← hm, Int.natCast_pow]; rfl)
  clear h hp hp0 hm
  have k0 : (0 : Int) ≤ k := by omega
  dsimp only [rowV]
  go_enter Tryz.func92, Tryz.ntmps92
  go_wp2
  go_loopw [6, 7, 8, 9, 16] (fun s6 _ _ _ s16 wr => ∃ (j : Nat) (o : List Int) (c : Int), s16 = .int .i64 j ∧ s6 = .int .u64 c ∧ ShI l m w.heap.size w j o c wr) (fun _ _ _ _ s16 _ => l.length - (intOf s16).toNat)
  case atStart => exact ⟨0, zer (l.length + 1), 0, rfl, rfl, ⟨Nat.zero_le _, Int.le_refl _, m0, zer_len _, zer_lim _, by simp [vt], BL.out w, (Below.refl _ _).alloc (Nat.le_refl _) _⟩⟩
  case round =>
    obtain ⟨j, o, c, rfl, rfl, I⟩ := hrel
    clear mk
    have hlo := I.len
    have hgl := I.row.lt
    have hkn := I.kn
    have c0 := I.c0
    have c1 := I.c1
    by_cases hj : j < l.length
    · have t1 : decide ((j : Int) < (l.length : Int)) = true := decide_eq_true (by omega)
      obtain ⟨ba, oa, rfl, hba, hca⟩ := (Ha.out wr I.bel).arr (by omega)
      have da := hca j hj
      unfold u32v at da
      clear hca
      have x := hl.at j
      obtain ⟨p0, p1, p2, p3⟩ := sh_dig m0 m1 x.1 x.2 c0 c1
      have eo := ho.out _ _ x.1 x.2 c0 c1
      have y2 := I.row.cell j (by omega)
      have f2 := I.row.free j
      have i0 : (0 : Int) ≤ j := by omega
      have ij : j < l.length + 1 := by omega
      have ij' : (j : Int) < (l.length : Int) + 1 := by omega
      have S := Lib.hid (I.step hl m0 m1 hj)
      clear I hlo
      have ew : IntKind.u64.wrap (gi l j * 2 ^ k) = gi l j * m := by
        rw [hm'.out]
        generalize gi l j * m = p at *
        simp [IntKind.wrap, IntKind.bits, IntKind.signed]
        omega
      go_wp2
      go_roundw
      case rel => exact ⟨j + 1, _, _, by go_num, rfl, S.out⟩
      case measure => simp [intOf]; omega
    · obtain rfl : j = l.length := by omega
      have t1 : decide ((l.length : Int) < (l.length : Int)) = false := by rw [decide_eq_false_iff_not]; omega
      have y2 := I.row.cell l.length (by omega)
      have f2 := I.row.free l.length
      have ij : l.length < l.length + 1 := by omega
      have ij' : (l.length : Int) < (l.length : Int) + 1 := by omega
      have S := Lib.hid (I.fin m1 (Nat.le_refl _))
      have c2 : c < 4294967296 := by omega
      clear I hlo
      go_wp2
      go_ret
      exact Ret.mk S.out
end Go.Proofs.YtpoddmkimhkmoaaGreat

namespace Go.Sv
open Go.RowKit
theorem and_mask {t : Int} {k : Nat} (hk : k < 32) (t0 : 0 ≤ t) (t1 : t < 18446744073709551616) : bits .and .u64 t (((2 ^ k : Nat) : Int) - 1) = t % ((2 ^ k : Nat) : Int) := by
  obtain ⟨T, rfl⟩ : ∃ T : Nat, t = T := ⟨t.toNat, by omega⟩
  have hp : 2 ^ k ≤ 2 ^ 32 := Nat.pow_le_pow_right (by decide) (by omega)
  rw [two32] at hp
  have hp0 : 0 < 2 ^ k := Nat.pow_pos (by decide)
  have e : (((2 ^ k : Nat) : Int) - 1) = ((2 ^ k - 1 : Nat) : Int) := by omega
  rw [e, u64_and_nat _ _ (by omega) (by omega), Nat.and_two_pow_sub_one_eq_mod]
  rfl
end Go.Sv
namespace Go.Proofs.YtpoddmkimhkmoaaGreat
open Go.RowKit Go.Sv

def UnR (w : World) (n V m : Nat) (v : Value) (w' : World) : Prop :=
  ∃ (o : List Int) (q : LmP), v = .slice q.a n q.c ∧ o.length = n ∧ Lim o ∧ norm o = lim (V / m) ∧ RLm w' w'.heap.size o q ∧ Fr w.heap.size q ∧ Below w.heap.size w w'
set_option maxHeartbeats 1000000 in
set_option maxRecDepth 100000 in
theorem unshift_any (l : List Int) (q : LmP) (k : Nat) (w : World) (h : RLm w w.heap.size l q) (hl : Lim l) (hn : l.length ≤ 1000) (hk : k < 32) :
    Calls Tryz.prog 94 #[rowV l q, .int .i64 k] w (Ret (UnR w l.length (vl l) (2 ^ k))) := by
  have Ha := Lib.hid (fun w' (hw : Below w.heap.size w w') => h.to hw)
  obtain ⟨qa, qc⟩ := q
  obtain ⟨O, mk, BL⟩ := mk_rowAt l.length hn (x := (l.length : Int)) rfl
  replace BL := Lib.hid BL
  have hp : 2 ^ k ≤ 2 ^ 31 := Nat.pow_le_pow_right (by decide) (by omega)
  have e31 : (2 : Nat) ^ 31 = 2147483648 := by decide
  rw [e31] at hp
  have hp0 : 0 < 2 ^ k := Nat.pow_pos (by decide)
  have HA := Lib.hid (fun t (t0 : 0 ≤ t) (t1 : t < 18446744073709551616) => and_mask (t := t) hk t0 t1)
  obtain ⟨M, hM⟩ : ∃ M : Nat, 2 ^ k = M := ⟨_, rfl⟩
  rw [hM] at HA hp hp0 ⊢
  have hm' : Hid ((2 : Int) ^ k = M) := Lib.hid (by rw [← hM, Int.natCast_pow]; rfl)
  clear h hM e31
  have k0 : (0 : Int) ≤ k := by omega
  dsimp only [rowV]
  go_enter Tryz.func94, Tryz.ntmps94
  go_wp2
  go_loopw [6, 7, 8] (fun s6 s7 _ wr => ∃ (j : Nat) (o : List Int) (r : Int), s7 = .int .i64 ((j : Int) - 1) ∧ s6 = .int .u64 r ∧ BylI l M w.heap.size w j o r wr) (fun _ s7 _ _ => (intOf s7 + 1).toNat)
  case atStart => exact ⟨l.length, zer l.length, 0, rfl, rfl, ⟨Nat.le_refl _, Int.le_refl _, by omega, zer_len _, zer_lim _, by rw [vu_end, vu_end, Int.mul_zero, Int.zero_mul]; rfl, BL.out w, (Below.refl _ _).alloc (Nat.le_refl _) _⟩⟩
  case round =>
    obtain ⟨j, o, r, rfl, rfl, I⟩ := hrel
    clear mk
    have hlo := I.len
    have hgl := I.row.lt
    have hkn := I.kn
    cases j with
    | zero =>
      obtain ⟨e1, e2⟩ := I.fin hl hp0
      have hR : Hid (UnR w l.length (vl l) M (.slice (some ⟨w.heap.size, 0, none⟩) l.length l.length) wr) :=
        Lib.hid ⟨o, ⟨some ⟨w.heap.size, 0, none⟩, l.length⟩, rfl, hlo, I.lo, e1, I.row.rlm rfl (by omega) (by show l.length ≤ maxLen; unfold maxLen; omega), fun g hg => by injection hg with hg; subst hg; exact Nat.le_refl _, I.bel⟩
      clear I e1 e2 hlo
      go_wp2
      go_ret
      exact Ret.mk hR.out
    | succ j =>
      have e1 : ((j + 1 : Nat) : Int) - 1 = (j : Int) := by omega
      rw [e1]
      clear e1
      obtain ⟨ba, oa, rfl, hba, hca⟩ := (Ha.out wr I.bel).arr (by omega)
      have da := hca j (by omega)
      unfold u32v at da
      clear hca
      have x := hl.at j
      have r0 := I.r0
      have r1 := I.r1
      have eo := or_hi (x := r) r0 (by omega) x.1 x.2
      obtain ⟨q0, q1, q2, q3⟩ := div_dig (by omega) r0 r1 x.1 x.2
      have t0 : 0 ≤ r * 4294967296 + gi l j := by omega
      have t1 : r * 4294967296 + gi l j < 18446744073709551616 := by omega
      have ea := HA.out _ t0 t1
      have y2 := I.row.cell j (by omega)
      have f2 := I.row.free j
      have i0 : (0 : Int) ≤ j := by omega
      have ij : j < l.length := hkn
      have ij' : (j : Int) < (l.length : Int) := by omega
      have S := Lib.hid (fun wr' (hd : Drawn wr wr') => I.step hl (by omega) hd)
      obtain ⟨x0, x1⟩ := x
      have wA : IntKind.u64.wrap (M : Int) = (M : Int) := by simp [IntKind.wrap, IntKind.bits, IntKind.signed]; omega
      have wB : IntKind.u64.wrap ((M : Int) - 1) = (M : Int) - 1 := by simp [IntKind.wrap, IntKind.bits, IntKind.signed]; omega
      have wC : IntKind.u32.wrap ((r * 4294967296 + gi l j) / (M : Int)) = (r * 4294967296 + gi l j) / (M : Int) := by simp [IntKind.wrap, IntKind.bits, IntKind.signed]; omega
      have wE : IntKind.u64.wrap (gi l j) = gi l j := by simp [IntKind.wrap, IntKind.bits, IntKind.signed]; omega
      have wF := hm'.out
      clear I hlo
      go_wp2
      go_region_held3 (fun _ => True) (go_keep) (fail)
      all_goals
        go_wp2
        go_roundw
        case rel => exact ⟨j, _, _, rfl, rfl, (S.out _ (Drawn.of 1))⟩
        case measure => simp [intOf]
end Go.Proofs.YtpoddmkimhkmoaaGreat

namespace Go.Sv
open Go.RowKit

/-- but for block g (and draws) nothing has turned -/
structure OnlyAt (g : Nat) (w w' : World) : Prop where
  bel : Below g w w'
  size : w'.heap.size = w.heap.size
  blk : ∀ k, k ≠ g → w'.heap[k]? = w.heap[k]?
theorem OnlyAt.refl (g : Nat) (w : World) : OnlyAt g w w := ⟨Below.refl _ _, rfl, fun _ _ => rfl⟩
theorem OnlyAt.trans {g : Nat} {a b c : World} (h : OnlyAt g a b) (k : OnlyAt g b c) : OnlyAt g a c := ⟨h.bel.trans k.bel, k.size.trans h.size, fun j hj => (k.blk j hj).trans (h.blk j hj)⟩
theorem OnlyAt.setCell {g : Nat} {a b : World} (h : OnlyAt g a b) (i : Nat) (v : Value) : OnlyAt g a (b.setCell ⟨g, i, none⟩ v) :=
  ⟨h.bel.setCell (Nat.le_refl _) v, by rw [World.size_setCell]; exact h.size, fun j hj => (Below.heap_setCell _ _ _ _ hj).trans (h.blk j hj)⟩
theorem OnlyAt.drawn {g : Nat} {a b c : World} (h : OnlyAt g a b) (hd : Drawn b c) : OnlyAt g a c := by
  obtain ⟨n, rfl⟩ := hd
  exact ⟨below_drewN h.bel n, h.size, h.blk⟩
theorem OnlyAt.below {g B : Nat} {w w' : World} (h : OnlyAt g w w') (hB : B ≤ g) : Below B w w' := h.bel.mono hB
theorem cell_of_blk {w w' : World} {p : Addr} (h : w'.heap[p.block]? = w.heap[p.block]?) : w'.cell? p = w.cell? p := by
  unfold World.cell?; rw [h]
theorem frozen_of_blk {w w' : World} {p : Addr} (h : w'.heap[p.block]? = w.heap[p.block]?) : w'.frozen? p = w.frozen? p := by
  unfold World.frozen?; rw [h]
theorem OnlyAt.cell {g : Nat} {w w' : World} (h : OnlyAt g w w') {p : Addr} (hp : p.block ≠ g) : w'.cell? p = w.cell? p := cell_of_blk (h.blk _ hp)
theorem OnlyAt.frozen {g : Nat} {w w' : World} (h : OnlyAt g w w') {p : Addr} (hp : p.block ≠ g) : w'.frozen? p = w.frozen? p := frozen_of_blk (h.blk _ hp)

/-- the window of n + 1 limbs from j on -/
def win (u : List Int) (j n : Nat) : Int := vt (u.drop j) (n + 1)
theorem vt_tail {u : List Int} (h : Lim u) {k T : Nat} (hk : k ≤ T) (hv : vt u T < Bp k) : vt u T = vt u k ∧ ∀ i, k ≤ i → i < T → gi u i = 0 := by
  induction T with
  | zero =>
    have : k = 0 := by omega
    subst this
    exact ⟨rfl, fun i _ hi => absurd hi (Nat.not_lt_zero i)⟩
  | succ T ih =>
    rcases Nat.lt_or_ge T k with c | c
    · have : k = T + 1 := by omega
      subst this
      exact ⟨rfl, fun i h1 h2 => by omega⟩
    · rw [vt_succ] at hv ⊢
      have hb := vt_bd h T
      have hg := h.at T
      have hp := Bp_pos T
      have h0 : gi u T = 0 := by
        rcases (by omega : gi u T = 0 ∨ 1 ≤ gi u T) with e | e
        · exact e
        · exfalso
          have h1 : 1 * Bp T ≤ gi u T * Bp T := Int.mul_le_mul_of_nonneg_right e (by omega)
          have h2 := Bp_mono c
          omega
      rw [h0, Int.zero_mul, Int.add_zero] at hv ⊢
      obtain ⟨e1, e2⟩ := ih c hv
      refine ⟨e1, fun i h1 h2 => ?_⟩
      rcases Nat.lt_or_ge i T with d | d
      · exact e2 i h1 d
      · obtain rfl : i = T := by omega
        exact h0
/-- before a digit -/
theorem win_pre {u : List Int} (h : Lim u) {j n T : Nat} {V : Int} (hT : j + n + 1 ≤ T) (_ : 0 < V) (hVn : V ≤ Bp n) (hX : vt u T < V * Bp (j + 1)) :
    vt u T = vt u j + win u j n * Bp j ∧ win u j n < V * 4294967296 ∧ (∀ i, j + n + 1 ≤ i → i < T → gi u i = 0) := by
  have hp := Bp_pos (j + 1)
  have h1 : V * Bp (j + 1) ≤ Bp n * Bp (j + 1) := Int.mul_le_mul_of_nonneg_right hVn (by omega)
  have h2 : Bp n * Bp (j + 1) = Bp (j + n + 1) := by rw [← Bp_add]; congr 1; omega
  obtain ⟨e1, e2⟩ := vt_tail h (k := j + n + 1) hT (by omega)
  have e3 := vt_drop u j (n + 1)
  rw [← Nat.add_assoc] at e3
  refine ⟨by rw [e1, e3]; rfl, ?_, e2⟩
  have hb := (vt_bd h j).1
  have hq := Bp_pos j
  rw [e1, e3, Bp_succ] at hX
  have h4 : vt (u.drop j) (n + 1) * Bp j < V * 4294967296 * Bp j := by
    have : V * (Bp j * 4294967296) = V * 4294967296 * Bp j := by grind
    omega
  exact Int.lt_of_mul_lt_mul_right h4 (by omega)
/-- behind a digit -/
theorem win_post {u u' : List Int} (h : Lim u) {j n T : Nat} {V : Int} (hT : j + n + 1 ≤ T) (hV0 : 0 < V) (hpre : vt u T = vt u j + win u j n * Bp j) (hz : ∀ i, j + n + 1 ≤ i → i < T → gi u i = 0)
    (hlo : ∀ i, i < j → gi u' i = gi u i) (hhi : ∀ i, j + n + 1 ≤ i → gi u' i = gi u i) (hw : win u' j n = win u j n % V) :
    vt u' T = vt u T - win u j n / V * V * Bp j ∧ vt u' T < V * Bp j := by
  have e3 := vt_drop u' j (n + 1)
  rw [← Nat.add_assoc] at e3
  have e4 : vt u' j = vt u j := vt_congr hlo
  have e5 : vt u' T - vt u' (j + n + 1) = 0 := by
    have := vt_eq_z (u := u') (k := j + n + 1) (T := T) hT (fun i a b => by rw [hhi i a]; exact hz i a b)
    omega
  have e6 : vt u' T = vt u j + win u' j n * Bp j := by
    have : vt (u'.drop j) (n + 1) = win u' j n := rfl
    rw [this] at e3
    omega
  have hm := Int.mul_ediv_add_emod (win u j n) V
  have hr := Int.emod_lt_of_pos (win u j n) hV0
  have hb := vt_bd h j
  rw [hw] at e6
  rw [e6, hpre]
  generalize win u j n % V = r at *
  generalize win u j n / V = q at *
  generalize win u j n = x at *
  subst hm
  have hp := Bp_pos j
  have h1 : (r + 1) * Bp j ≤ V * Bp j := Int.mul_le_mul_of_nonneg_right (by omega) (by omega)
  constructor
  · grind
  · rw [Int.add_mul, Int.one_mul] at h1
    omega
where
  vt_eq_z {u : List Int} {k T : Nat} (hk : k ≤ T) (hz : ∀ i, k ≤ i → i < T → gi u i = 0) : vt u T = vt u k := by
    induction T with
    | zero => have : k = 0 := by omega
              subst this; rfl
    | succ T ih =>
      rcases Nat.lt_or_ge T k with c | c
      · have : k = T + 1 := by omega
        subst this; rfl
      · rw [vt_succ, hz T c (by omega), Int.zero_mul, Int.add_zero]
        exact ih c (fun i a b => hz i a (by omega))
end Go.Sv

namespace Go.Sv
open Go.RowKit
theorem top_two {l : List Int} (h : Lim l) {n : Nat} (hn : 2 ≤ n) : (gi l (n - 1) * 4294967296 + gi l (n - 2)) * Bp (n - 2) ≤ vt l n ∧ vt l n < (gi l (n - 1) * 4294967296 + gi l (n - 2) + 1) * Bp (n - 2) := by
  obtain ⟨m, rfl⟩ : ∃ m, n = m + 2 := ⟨n - 2, by omega⟩
  have e1 : m + 2 - 1 = m + 1 := by omega
  have e2 : m + 2 - 2 = m := by omega
  rw [e1, e2]
  have hb := vt_bd h m
  have e : vt l (m + 2) = vt l m + (gi l (m + 1) * 4294967296 + gi l m) * Bp m := by
    rw [vt_succ, vt_succ, Bp_succ]; grind
  rw [e, Int.add_mul _ 1, Int.one_mul]
  omega
theorem top_three {u : List Int} (h : Lim u) {j n : Nat} (hn : 2 ≤ n) : ((gi u (j + n) * 4294967296 + gi u (j + n - 1)) * 4294967296 + gi u (j + n - 2)) * Bp (n - 2) ≤ win u j n ∧ win u j n < ((gi u (j + n) * 4294967296 + gi u (j + n - 1)) * 4294967296 + gi u (j + n - 2) + 1) * Bp (n - 2) := by
  obtain ⟨m, rfl⟩ : ∃ m, n = m + 2 := ⟨n - 2, by omega⟩
  have e1 : j + (m + 2) - 1 = j + (m + 1) := by omega
  have e2 : j + (m + 2) - 2 = j + m := by omega
  have e3 : m + 2 - 2 = m := by omega
  rw [e1, e2, e3, ← gi_drop u j (m + 2), ← gi_drop u j (m + 1), ← gi_drop u j m]
  have hb := vt_bd (h.drop j) m
  unfold win
  generalize u.drop j = l at *
  have e : vt l (m + 2 + 1) = vt l m + ((gi l (m + 2) * 4294967296 + gi l (m + 1)) * 4294967296 + gi l m) * Bp m := by
    rw [vt_succ, vt_succ, vt_succ, show Bp (m + 2) = Bp m * 4294967296 * 4294967296 by rw [show m + 2 = m + 1 + 1 from rfl, Bp_succ, Bp_succ], Bp_succ]; grind
  rw [e, Int.add_mul _ 1, Int.one_mul]
  omega
/-- the estimate at the start -/
theorem est_start {u v : List Int} (hu : Lim u) (hv : Lim v) {j n : Nat} (hn : 2 ≤ n) (hnorm : 2147483648 ≤ gi v (n - 1)) (hUV : win u j n < vt v n * 4294967296) :
    Est (gi u (j + n)) (gi u (j + n - 1)) (gi u (j + n - 2)) (gi v (n - 1)) (gi v (n - 2)) (win u j n) (vt v n) (Bp (n - 2)) ((gi u (j + n) * 4294967296 + gi u (j + n - 1)) / gi v (n - 1)) ((gi u (j + n) * 4294967296 + gi u (j + n - 1)) % gi v (n - 1)) := by
  obtain ⟨a, b⟩ := top_two hv hn
  obtain ⟨c, d⟩ := top_three hu (j := j) hn
  have v1 := hv.at (n - 1)
  have v0 := hv.at (n - 2)
  have u2 := hu.at (j + n)
  have u1 := hu.at (j + n - 1)
  have u0 := hu.at (j + n - 2)
  exact Est.first (Bp_pos _) hnorm v1.2 v0.1 v0.2 u2.1 u1.1 u1.2 u0.1 u0.2 a b c d hUV rfl rfl
end Go.Sv
namespace Go.Proofs.YtpoddmkimhkmoaaGreat
open Go.RowKit Go.Sv

structure MsI (u v : List Int) (gu j n : Nat) (q : Int) (w : World) (i : Nat) (o : List Int) (c b : Int) (wr : World) : Prop where
  kn : i ≤ n
  c0 : 0 ≤ c
  c1 : c < 4294967296
  b0 : 0 ≤ b
  b1 : b ≤ 1
  len : o.length = u.length
  lo : Lim o
  eq : vt (o.drop j) i = vt (u.drop j) i - q * vt v i + (c + b) * Bp i
  same : ∀ k, (k < j ∨ j + i ≤ k) → gi o k = gi u k
  row : RowAt wr gu o
  bel : OnlyAt gu w wr
theorem ms_dig {q x c : Int} (q0 : 0 ≤ q) (q1 : q < 4294967296) (x0 : 0 ≤ x) (x1 : x < 4294967296) (c0 : 0 ≤ c) (c1 : c < 4294967296) :
    0 ≤ q * x ∧ q * x ≤ 18446744065119617025 ∧ 0 ≤ (q * x + c) / 4294967296 ∧ (q * x + c) / 4294967296 < 4294967296 ∧ IntKind.u64.wrap (q * x) = q * x ∧ IntKind.u64.wrap (q * x + c) = q * x + c := by
  have h1 : 0 ≤ q * x := Int.mul_nonneg q0 x0
  have h2 : q * x ≤ 4294967295 * 4294967295 := Int.mul_le_mul (by omega) (by omega) x0 (by omega)
  generalize q * x = p at *
  simp only [IntKind.wrap, IntKind.bits, IntKind.signed]
  refine ⟨h1, by omega, by omega, by omega, ?_, ?_⟩ <;> simp <;> omega
theorem MsI.step {u v o : List Int} {gu j n i : Nat} {q c b t d : Int} {w wr : World} (h : MsI u v gu j n q w i o c b wr) (hu : Lim u) (hv : Lim v) (q0 : 0 ≤ q) (q1 : q < 4294967296) (hi : i < n) (hj : j + n < u.length)
    (ht : q * gi v i + c = t) (hd : gi u (j + i) - t % 4294967296 - b = d) :
    MsI u v gu j n q w (i + 1) (o.set (j + i) (d % 4294967296)) (t / 4294967296) (bor d) (wr.setCell ⟨gu, j + i, none⟩ (.int .u32 (d % 4294967296))) := by
  have x := hv.at i
  have hl := h.len
  obtain ⟨_, _, a, b', _, _⟩ := ms_dig q0 q1 x.1 x.2 h.c0 h.c1
  rw [ht] at a b'
  have bb := bor_bd d
  refine ⟨hi, a, b', bb.1, bb.2, by rw [List.length_set]; exact hl, h.lo.set (by omega) (by omega), ?_, fun k hk => by rw [gi_set_ne (by omega)]; exact h.same k (by omega), h.row.set (by omega) _, h.bel.setCell _ _⟩
  rw [drop_set, ← hd, ← gi_drop, ← ht]
  exact ms_step (hu.drop j) h.b0 h.b1 (by rw [List.length_drop]; omega) (by rw [gi_drop, gi_drop]; exact h.same _ (by omega)) h.eq
/-- behind all limbs of the divisor -/
structure MsE (u v : List Int) (gu j n : Nat) (q : Int) (w : World) (o : List Int) (b : Int) (wr : World) : Prop where
  len : o.length = u.length
  lo : Lim o
  eq : win o j n = win u j n - q * vt v n + b * Bp (n + 1)
  lows : ∀ k, k < j → gi o k = gi u k
  highs : ∀ k, j + n + 1 ≤ k → gi o k = gi u k
  row : RowAt wr gu o
  bel : OnlyAt gu w wr
theorem MsI.fin {u v o : List Int} {gu j n : Nat} {q c b d : Int} {w wr : World} (h : MsI u v gu j n q w n o c b wr) (hu : Lim u) (hj : j + n < u.length) (hd : gi u (j + n) - c - b = d) :
    MsE u v gu j n q w (o.set (j + n) (d % 4294967296)) (bor d) (wr.setCell ⟨gu, j + n, none⟩ (.int .u32 (d % 4294967296))) := by
  have hl := h.len
  refine ⟨by rw [List.length_set]; exact hl, h.lo.set (by omega) (by omega), ?_, fun k hk => by rw [gi_set_ne (by omega)]; exact h.same k (by omega), fun k hk => by rw [gi_set_ne (by omega)]; exact h.same k (by omega), h.row.set (by omega) _, h.bel.setCell _ _⟩
  unfold win
  rw [drop_set, ← hd, ← gi_drop]
  exact ms_last (hu.drop j) h.b0 h.b1 h.c0 h.c1 (by rw [List.length_drop]; omega) (by rw [gi_drop, gi_drop]; exact h.same _ (by omega)) h.eq
/-- adding back -/
structure AbI (u v : List Int) (gu j n : Nat) (w : World) (i : Nat) (o : List Int) (c : Int) (wr : World) : Prop where
  kn : i ≤ n
  c0 : 0 ≤ c
  c1 : c ≤ 1
  len : o.length = u.length
  lo : Lim o
  eq : vt (o.drop j) i = vt (u.drop j) i + vt v i - c * Bp i
  same : ∀ k, (k < j ∨ j + i ≤ k) → gi o k = gi u k
  row : RowAt wr gu o
  bel : OnlyAt gu w wr
theorem AbI.step {u v o : List Int} {gu j n i : Nat} {c t : Int} {w wr : World} (h : AbI u v gu j n w i o c wr) (hu : Lim u) (hv : Lim v) (hi : i < n) (hj : j + n < u.length) (ht : gi u (j + i) + gi v i + c = t) :
    AbI u v gu j n w (i + 1) (o.set (j + i) (t % 4294967296)) (t / 4294967296) (wr.setCell ⟨gu, j + i, none⟩ (.int .u32 (t % 4294967296))) := by
  have x := hv.at i
  have y := hu.at (j + i)
  have hl := h.len
  have c0 := h.c0
  have c1 := h.c1
  refine ⟨hi, by omega, by omega, by rw [List.length_set]; exact hl, h.lo.set (by omega) (by omega), ?_, fun k hk => by rw [gi_set_ne (by omega)]; exact h.same k (by omega), h.row.set (by omega) _, h.bel.setCell _ _⟩
  rw [drop_set, ← ht, ← gi_drop]
  exact ab_step (by rw [List.length_drop]; omega) (by rw [gi_drop, gi_drop]; exact h.same _ (by omega)) h.eq
theorem AbI.fin {u v o : List Int} {gu j n : Nat} {c R : Int} {w wr : World} (h : AbI u v gu j n w n o c wr) (hv : Lim v) (hj : j + n < u.length) (R0 : 0 ≤ R) (R1 : R < vt v n) (hw : win u j n = R - vt v n + Bp (n + 1)) :
    win (o.set (j + n) ((gi u (j + n) + c) % 4294967296)) j n = R ∧ (o.set (j + n) ((gi u (j + n) + c) % 4294967296)).length = u.length ∧ Lim (o.set (j + n) ((gi u (j + n) + c) % 4294967296)) ∧
    (∀ k, k < j → gi (o.set (j + n) ((gi u (j + n) + c) % 4294967296)) k = gi u k) ∧ (∀ k, j + n + 1 ≤ k → gi (o.set (j + n) ((gi u (j + n) + c) % 4294967296)) k = gi u k) ∧
    RowAt (wr.setCell ⟨gu, j + n, none⟩ (.int .u32 ((gi u (j + n) + c) % 4294967296))) gu (o.set (j + n) ((gi u (j + n) + c) % 4294967296)) ∧ OnlyAt gu w (wr.setCell ⟨gu, j + n, none⟩ (.int .u32 ((gi u (j + n) + c) % 4294967296))) := by
  have hl := h.len
  refine ⟨?_, by rw [List.length_set]; exact hl, h.lo.set (by omega) (by omega), fun k hk => by rw [gi_set_ne (by omega)]; exact h.same k (by omega), fun k hk => by rw [gi_set_ne (by omega)]; exact h.same k (by omega), h.row.set (by omega) _, h.bel.setCell _ _⟩
  unfold win at hw ⊢
  rw [drop_set, ← gi_drop]
  exact ab_last (h.lo.drop j) h.c0 h.c1 (by rw [List.length_drop]; omega) (by rw [gi_drop, gi_drop]; exact h.same _ (by omega)) rfl R0 R1 (by have := (vt_bd hv n).2; omega) hw h.eq

def StR (u v : List Int) (gu j n : Nat) (w : World) (e : Ending) (w' : World) : Prop :=
  ∃ (x : Int) (u' : List Int), e = .returned (.int .u32 x) ∧ x = win u j n / vt v n ∧ 0 ≤ x ∧ x < 4294967296 ∧ u'.length = u.length ∧ Lim u' ∧ RowAt w' gu u' ∧ OnlyAt gu w w' ∧ (∀ i, i < j → gi u' i = gi u i) ∧ (∀ i, j + n + 1 ≤ i → gi u' i = gi u i) ∧ win u' j n = win u j n % vt v n

set_option maxHeartbeats 4000000 in
set_option maxRecDepth 100000 in
theorem step_any (u v : List Int) (gu cu j n cv : Nat) (A : Option Addr) (w : World) (hu : Lim u) (hv : Lim v) (h : RowAt w gu u) (hv' : Arr w w.heap.size A n (u32v v)) (hne : ∀ p, A = some p → p.block ≠ gu)
    (hn : 2 ≤ n) (hj : j + n < u.length) (hul : u.length ≤ 1000) (hnorm : 2147483648 ≤ gi v (n - 1)) (hUV : win u j n < vt v n * 4294967296) :
    Calls Tryz.prog 93 #[.slice (some ⟨gu, 0, none⟩) u.length cu, .slice A n cv, .int .i64 j] w (StR u v gu j n w) := by
  have HE := Lib.hid (est_start hu hv hn hnorm hUV)
  obtain ⟨b, o, rfl, hb, hc⟩ := hv' (by omega)
  have hbg : b ≠ gu := hne _ rfl
  have HV : Hid (∀ w' k, OnlyAt gu w w' → k < n → w'.cell? ⟨b, o + k, none⟩ = some (.int .u32 (gi v k))) := Lib.hid fun w' k hw hk => (hw.cell (p := ⟨b, o + k, none⟩) hbg).trans (hc k hk)
  have v1 := hv.at (n - 1)
  have v0 := hv.at (n - 2)
  have u2 := hu.at (j + n)
  have u1 := hu.at (j + n - 1)
  have u0 := hu.at (j + n - 2)
  have c2 := h.cell (j + n) (by omega)
  have c1 := h.cell (j + n - 1) (by omega)
  have c0 := h.cell (j + n - 2) (by omega)
  have d1 := HV.out w (n - 1) (OnlyAt.refl _ _) (by omega)
  have d0 := HV.out w (n - 2) (OnlyAt.refl _ _) (by omega)
  have n1 : ((n : Int) - 1).toNat = n - 1 := by omega
  have n2 : ((n : Int) - 2).toNat = n - 2 := by omega
  have n3 : ((j : Int) + (n : Int)).toNat = j + n := by omega
  have n4 : ((j : Int) + (n : Int) - 1).toNat = j + n - 1 := by omega
  have n5 : ((j : Int) + (n : Int) - 2).toNat = j + n - 2 := by omega
  have i1 : (0 : Int) ≤ (n : Int) - 1 := by omega
  have i1' : (n : Int) - 1 < (n : Int) := by omega
  have i2 : (0 : Int) ≤ (n : Int) - 2 := by omega
  have i2' : (n : Int) - 2 < (n : Int) := by omega
  have i3 : (0 : Int) ≤ (j : Int) + (n : Int) := by omega
  have i3' : (j : Int) + (n : Int) < (u.length : Int) := by omega
  have i4 : (0 : Int) ≤ (j : Int) + (n : Int) - 1 := by omega
  have i4' : (j : Int) + (n : Int) - 1 < (u.length : Int) := by omega
  have i5 : (0 : Int) ≤ (j : Int) + (n : Int) - 2 := by omega
  have i5' : (j : Int) + (n : Int) - 2 < (u.length : Int) := by omega
  have w1 : IntKind.i64.wrap ((j : Int) + (n : Int)) = (j : Int) + (n : Int) := IntWalk.i64_in _ (by omega)
  have w2 : IntKind.i64.wrap ((j : Int) + (n : Int) - 1) = (j : Int) + (n : Int) - 1 := IntWalk.i64_in _ (by omega)
  have w3 : IntKind.i64.wrap ((j : Int) + (n : Int) - 2) = (j : Int) + (n : Int) - 2 := IntWalk.i64_in _ (by omega)
  have w4 : IntKind.i64.wrap ((n : Int) - 1) = (n : Int) - 1 := IntWalk.i64_in _ (by omega)
  have w5 : IntKind.i64.wrap ((n : Int) - 2) = (n : Int) - 2 := IntWalk.i64_in _ (by omega)
  have eo := or_hi u2.1 u2.2 u1.1 u1.2
  go_enter Tryz.func93, Tryz.ntmps93
  go_wp2
  refine wp_region_quiet_lit (by kernel_rfl) (by kernel_rfl) ?_
  repeat (go_big_quiet_step (fail))
  refine wpQuiet_nil ?_
  intro wa hwa
  have Da : Drawn w wa := hwa
  clear hwa
  have d1a := (Da.cell _).trans d1
  have E0 := HE.out
  have hv1 : ((gi v (n - 1) : Int) != 0) = true := by rw [bne_iff_ne]; omega
  have q0 := E0.q0
  have q1 := E0.q1
  have r0 := E0.r0
  have r1 : (gi u (j + n) * 4294967296 + gi u (j + n - 1)) % gi v (n - 1) < 4294967296 := by
    have := Int.emod_lt_of_pos (gi u (j + n) * 4294967296 + gi u (j + n - 1)) (show 0 < gi v (n - 1) by omega)
    omega
  clear d1 d0 c1 c0 c2 E0
  go_wp2
  refine wp_region_quiet_lit (by kernel_rfl) (by kernel_rfl) ?_
  repeat (go_big_quiet_step (fail))
  refine wpQuiet_nil ?_
  intro wb hwb
  have Db : Drawn w wb := Da.trans hwb
  clear hwb d1a
  obtain ⟨q, hq⟩ : ∃ q, (gi u (j + n) * 4294967296 + gi u (j + n - 1)) / gi v (n - 1) = q := ⟨_, rfl⟩
  obtain ⟨r, hr⟩ : ∃ r, (gi u (j + n) * 4294967296 + gi u (j + n - 1)) % gi v (n - 1) = r := ⟨_, rfl⟩
  rw [hq] at q0 q1
  rw [hr] at r0 r1
  rw [hq, hr] at HE ⊢
  replace hq := Lib.hid hq
  replace hr := Lib.hid hr
  replace Db := Lib.hid Db
  clear Da eo
  go_upto_block 0 with fail
  go_cut [9, 10] (fun s9 _ wx => ∃ x : Int, s9 = .int .u64 x ∧ 0 ≤ x ∧ x < 4294967296 ∧ (x - 1) * vt v n ≤ win u j n ∧ win u j n < (x + 1) * vt v n ∧ Drawn w wx)
  case first =>
    go_wp2_with fail
    go_loopw [9, 10] (fun s9 s10 wr => ∃ q r : Int, s9 = .int .u64 q ∧ s10 = .int .u64 r ∧ r < 4294967296 ∧ Est (gi u (j + n)) (gi u (j + n - 1)) (gi u (j + n - 2)) (gi v (n - 1)) (gi v (n - 2)) (win u j n) (vt v n) (Bp (n - 2)) q r ∧ Drawn w wr) (fun s9 _ _ => (intOf s9).toNat)
    case atStart => exact ⟨_, _, rfl, rfl, r1, HE.out, Db.out⟩
    case round =>
      clear Db HE hq hr q0 q1 r0 r1
      obtain ⟨q, r, rfl, rfl, r1, E, D⟩ := hrel
      have q0 := E.q0
      have q1 := E.q1
      have r0 := E.r0
      have d1 := HV.out w (n - 1) (OnlyAt.refl _ _) (by omega)
      have d0 := (D.cell _).trans (HV.out w (n - 2) (OnlyAt.refl _ _) (by omega))
      have c0 := (D.cell _).trans (h.cell (j + n - 2) (by omega))
      have eo := or_hi r0 r1 u0.1 u0.2
      replace D := Lib.hid D
      by_cases g1 : 4294967296 ≤ q
      · have e1 : (q / 4294967296 != 0) = true := by rw [bne_iff_ne]; omega
        go_wp2_with fail
        refine wp_region_quiet_lit (by kernel_rfl) (by kernel_rfl) ?_
        repeat (go_big_quiet_step (fail))
        refine wpQuiet_nil ?_
        intro wc hwc
        have Dc := Lib.hid (D.out.trans hwc)
        clear hwc
        have d1c := (Dc.out.cell _).trans d1
        have N := E.next (Or.inl g1)
        have Nr := N.r0
        have Nq := N.q0
        replace N := Lib.hid N
        have wm : IntKind.u64.wrap (q - 1) = q - 1 := by simp [IntKind.wrap, IntKind.bits, IntKind.signed]; omega
        by_cases g3 : 4294967296 ≤ r + gi v (n - 1)
        · have e3 : ((r + gi v (n - 1)) / 4294967296 != 0) = true := by rw [bne_iff_ne]; omega
          have F := Lib.hid (N.out.fin (Or.inl g3))
          go_wp2
          go_meet
          exact ⟨_, rfl, Nq, F.out.1, F.out.2, N.out.up, Dc.out⟩
        · have e3 : ((r + gi v (n - 1)) / 4294967296 != 0) = false := by rw [bne_eq_false_iff_eq]; omega
          go_wp2
          go_roundw
          case rel => exact ⟨_, _, rfl, rfl, by omega, N.out, Dc.out⟩
          case measure => simp [intOf]; omega
      · have e1 : (q / 4294967296 != 0) = false := by rw [bne_eq_false_iff_eq]; omega
        have p1 : 0 ≤ q * gi v (n - 2) := Int.mul_nonneg q0 v0.1
        have p2 : q * gi v (n - 2) ≤ 4294967295 * 4294967295 := Int.mul_le_mul (by omega) (by omega) v0.1 (by omega)
        have wq : IntKind.u64.wrap (q * gi v (n - 2)) = q * gi v (n - 2) := by
          generalize q * gi v (n - 2) = p at *
          simp [IntKind.wrap, IntKind.bits, IntKind.signed]
          omega
        by_cases g2 : r * 4294967296 + gi u (j + n - 2) < q * gi v (n - 2)
        · have e2 : decide (r * 4294967296 + gi u (j + n - 2) < q * gi v (n - 2)) = true := decide_eq_true g2
          go_wp2_with fail
          refine wp_region_quiet_lit (by kernel_rfl) (by kernel_rfl) ?_
          repeat (go_big_quiet_step (fail))
          refine wpQuiet_nil ?_
          intro wc hwc
          have Dc := Lib.hid (D.out.trans hwc)
          clear hwc
          have d1c := (Dc.out.cell _).trans d1
          have N := E.next (Or.inr g2)
          have Nr := N.r0
          have Nq := N.q0
          replace N := Lib.hid N
          have wm : IntKind.u64.wrap (q - 1) = q - 1 := by simp [IntKind.wrap, IntKind.bits, IntKind.signed]; omega
          by_cases g3 : 4294967296 ≤ r + gi v (n - 1)
          · have e3 : ((r + gi v (n - 1)) / 4294967296 != 0) = true := by rw [bne_iff_ne]; omega
            have F := Lib.hid (N.out.fin (Or.inl g3))
            go_wp2
            go_meet
            exact ⟨_, rfl, Nq, F.out.1, F.out.2, N.out.up, Dc.out⟩
          · have e3 : ((r + gi v (n - 1)) / 4294967296 != 0) = false := by rw [bne_eq_false_iff_eq]; omega
            go_wp2
            go_roundw
            case rel => exact ⟨_, _, rfl, rfl, by omega, N.out, Dc.out⟩
            case measure => simp [intOf]; omega
        · have e2 : decide (r * 4294967296 + gi u (j + n - 2) < q * gi v (n - 2)) = false := by rw [decide_eq_false_iff_not]; exact g2
          have F := Lib.hid (E.fin (Or.inr ⟨by omega, by omega⟩))
          have Eu := Lib.hid E.up
          go_wp2_with fail
          refine wp_region_quiet_lit (by kernel_rfl) (by kernel_rfl) ?_
          repeat (go_big_quiet_step (fail))
          refine wpQuiet_nil ?_
          intro wc hwc
          have Dc := Lib.hid (D.out.trans hwc)
          clear hwc
          go_wp2
          go_meet
          exact ⟨_, rfl, q0, F.out.1, F.out.2, Eu.out, Dc.out⟩
  case rest =>
    obtain ⟨x, rfl, x0, x1, xlo, xhi, Dx⟩ := hcut
    clear HE hq hr q0 q1 r0 r1 Db
    have hV0 : Hid (0 < vt v n) := Lib.hid (by
      have := top_two hv hn
      have h1 : 0 < (gi v (n - 1) * 4294967296 + gi v (n - 2)) * Bp (n - 2) := Int.mul_pos (by omega) (Bp_pos _)
      omega)
    have Ox := Lib.hid ((OnlyAt.refl gu w).drawn Dx)
    have Rx := Lib.hid (h.drawn Dx)
    replace xlo := Lib.hid xlo
    replace xhi := Lib.hid xhi
    clear Dx h
    go_wp2
    go_loopw [11, 12, 13, 14, 91] (fun s11 s12 _ _ s91 wr => ∃ (i : Nat) (o : List Int) (c bb : Int), s91 = .int .i64 i ∧ s12 = .int .u64 c ∧ s11 = .int .u32 bb ∧ MsI u v gu j n x w i o c bb wr) (fun _ _ _ _ s91 _ => n - (intOf s91).toNat)
    case atStart => exact ⟨0, u, 0, 0, rfl, rfl, rfl, ⟨Nat.zero_le _, Int.le_refl _, by decide, Int.le_refl _, by decide, rfl, hu, by simp [vt], fun _ _ => rfl, Rx.out, Ox.out⟩⟩
    case round =>
      obtain ⟨i, o9, c, bb, rfl, rfl, rfl, I⟩ := hrel
      have hlo := I.len
      have hkn := I.kn
      have hgl := I.row.lt
      have c0 := I.c0
      have c1 := I.c1
      have b0 := I.b0
      have b1 := I.b1
      by_cases hi : i < n
      · have t1 : decide ((i : Int) < (n : Int)) = true := decide_eq_true (by omega)
        have dv := HV.out _ i I.bel hi
        have xv := hv.at i
        have xu := hu.at (j + i)
        have y2 := I.row.cell (j + i) (by omega)
        rw [I.same _ (Or.inr (Nat.le_refl _))] at y2
        have f2 := I.row.free (j + i)
        obtain ⟨p0, p1, p2, p3, wA, wB⟩ := ms_dig x0 x1 xv.1 xv.2 c0 c1
        have H32 := Lib.hid (fun w => sub32_any (gi u (j + i)) ((x * gi v i + c) % 4294967296) bb w xu.1 xu.2 (by omega) (by omega) b0 b1)
        have S := I.step hu hv x0 x1 hi hj rfl rfl
        have i0 : (0 : Int) ≤ i := by omega
        have m1 : ((j : Int) + (i : Int)).toNat = j + i := by omega
        have m2 : (0 : Int) ≤ (j : Int) + (i : Int) := by omega
        have m3 : (j : Int) + (i : Int) < (u.length : Int) := by omega
        have m4 : j + i < u.length := by omega
        obtain ⟨d, hd⟩ : ∃ d, (gi u (j + i) - (x * gi v i + c) % 4294967296 - bb) % 4294967296 = d := ⟨_, rfl⟩
        obtain ⟨f, hf⟩ : ∃ f, bor (gi u (j + i) - (x * gi v i + c) % 4294967296 - bb) = f := ⟨_, rfl⟩
        rw [hd, hf] at H32 S
        replace S := Lib.hid S
        clear hd hf I hlo
        go_wp2_with fail
        refine (H32.out _).mono ?_
        rintro e w' ⟨rfl, rfl⟩
        go_wp2
        go_roundw
        case rel => exact ⟨i + 1, _, _, _, by go_num, rfl, rfl, S.out⟩
        case measure => simp [intOf]; omega
      · obtain rfl : i = n := by omega
        have t1 : decide ((i : Int) < (i : Int)) = false := by rw [decide_eq_false_iff_not]; omega
        have xu := hu.at (j + i)
        have y2 := I.row.cell (j + i) (by omega)
        rw [I.same _ (Or.inr (Nat.le_refl _))] at y2
        have f2 := I.row.free (j + i)
        have H32 := Lib.hid (fun w => sub32_any (gi u (j + i)) c bb w xu.1 xu.2 c0 c1 b0 b1)
        have E := I.fin hu hj rfl
        have fb := bor_bd (gi u (j + i) - c - bb)
        have m4 : j + i < u.length := by omega
        obtain ⟨d, hd⟩ : ∃ d, (gi u (j + i) - c - bb) % 4294967296 = d := ⟨_, rfl⟩
        obtain ⟨f, hf⟩ : ∃ f, bor (gi u (j + i) - c - bb) = f := ⟨_, rfl⟩
        rw [hd, hf] at H32 E
        rw [hf] at fb
        obtain ⟨o1, ho1⟩ : ∃ o1, o9.set (j + i) d = o1 := ⟨_, rfl⟩
        rw [ho1] at E
        have sg := ms_sign (o := o1.drop j) (n := i) (U := win u j i) (V := vt v i) (q := x) (b := f) (E.lo.drop j) hV0.out (by have := (vt_bd hv i).2; omega) xhi.out xlo.out fb.1 fb.2 E.eq
        replace E := Lib.hid E
        clear hd hf I hlo ho1
        rcases sg with ⟨rfl, hq, hw⟩ | ⟨rfl, hq, hw⟩
        · have hR : Hid (StR u v gu j i w (.returned (.int .u32 x)) (wr.setCell ⟨gu, j + i, none⟩ (.int .u32 d))) := Lib.hid ⟨x, o1, rfl, hq, x0, x1, E.out.len, E.out.lo, E.out.row, E.out.bel, E.out.lows, E.out.highs, hw⟩
          clear hq hw E
          go_wp2_with fail
          refine (H32.out _).mono ?_
          rintro e w' ⟨rfl, rfl⟩
          go_wp2
          go_ret
          exact hR.out
        · have hR0 := Int.emod_nonneg (win u j i) (by have := hV0.out; omega : vt v i ≠ 0)
          have hR1 := Int.emod_lt_of_pos (win u j i) hV0.out
          have x2 : 1 ≤ x := by
            have hU : 0 ≤ win u j i := (vt_bd (hu.drop j) (i + 1)).1
            have := Int.ediv_nonneg hU (by have := hV0.out; omega : 0 ≤ vt v i)
            omega
          have wm : IntKind.u64.wrap (x - 1) = x - 1 := by simp [IntKind.wrap, IntKind.bits, IntKind.signed]; omega
          replace hq := Lib.hid hq
          replace hw := Lib.hid hw
          replace hR0 := Lib.hid hR0
          replace hR1 := Lib.hid hR1
          have hl1 : o1.length = u.length := E.out.len
          have hlo1 : Lim o1 := E.out.lo
          replace hl1 := Lib.hid hl1
          go_wp2_with fail
          refine (H32.out _).mono ?_
          rintro e w' ⟨rfl, rfl⟩
          go_wp2
          clear y2 f2
          go_loopw [15, 16, 147] (fun s15 _ s147 wr => ∃ (k : Nat) (o : List Int) (c : Int), s147 = .int .i64 k ∧ s15 = .int .u32 c ∧ AbI o1 v gu j i w k o c wr) (fun _ _ s147 _ => i - (intOf s147).toNat)
          case atStart => exact ⟨0, o1, 0, rfl, rfl, ⟨Nat.zero_le _, Int.le_refl _, by decide, rfl, E.out.lo, by simp [vt], fun _ _ => rfl, E.out.row, E.out.bel⟩⟩
          case round =>
            clear H32
            obtain ⟨k, o2, c2, rfl, rfl, J⟩ := hrel
            have hlo := J.len
            rw [hl1.out] at hlo
            have hkn := J.kn
            have hgl := J.row.lt
            have cc0 := J.c0
            have cc1 := J.c1
            have hjl : j + i < o1.length := by rw [hl1.out]; omega
            by_cases hk : k < i
            · have t1 : decide ((k : Int) < (i : Int)) = true := decide_eq_true (by omega)
              have dv := HV.out _ k J.bel hk
              have xv := hv.at k
              have xo := hlo1.at (j + k)
              have y2 := J.row.cell (j + k) (by omega)
              rw [J.same _ (Or.inr (Nat.le_refl _))] at y2
              have f2 := J.row.free (j + k)
              have HA := Lib.hid (fun w => add32_any (gi o1 (j + k)) (gi v k) c2 w xo.1 xo.2 xv.1 xv.2 cc0 cc1)
              have S := J.step hlo1 hv hk hjl rfl
              have i0 : (0 : Int) ≤ k := by omega
              have m1 : ((j : Int) + (k : Int)).toNat = j + k := by omega
              have m2 : (0 : Int) ≤ (j : Int) + (k : Int) := by omega
              have m3 : (j : Int) + (k : Int) < (u.length : Int) := by omega
              have m4 : j + k < u.length := by omega
              have m5 : IntKind.i64.wrap ((j : Int) + (k : Int)) = (j : Int) + (k : Int) := IntWalk.i64_in _ (by omega)
              have m6 : (k : Int) < (i : Int) := by omega
              obtain ⟨d, hd⟩ : ∃ d, (gi o1 (j + k) + gi v k + c2) % 4294967296 = d := ⟨_, rfl⟩
              obtain ⟨f, hf⟩ : ∃ f, (gi o1 (j + k) + gi v k + c2) / 4294967296 = f := ⟨_, rfl⟩
              rw [hd, hf] at HA S
              replace S := Lib.hid S
              clear hd hf J hlo
              go_wp2_with fail
              go_region_law ((go_simp; go_at_call 75; refine (HA.out _).mono ?_; rintro e w' ⟨rfl, rfl⟩))
              all_goals
                go_wp2
                go_roundw
                case rel => exact ⟨k + 1, _, _, by go_num, rfl, ⟨S.out.kn, S.out.c0, S.out.c1, S.out.len, S.out.lo, S.out.eq, S.out.same, S.out.row.drawn (Drawn.of 1), S.out.bel.drawn (Drawn.of 1)⟩⟩
                case measure => simp [intOf]; omega
            · obtain rfl : k = i := by omega
              have t1 : decide ((k : Int) < (k : Int)) = false := by rw [decide_eq_false_iff_not]; omega
              obtain ⟨r1, r2, r3, r4, r5, r6, r7⟩ := J.fin hv hjl hR0.out hR1.out hw.out
              have y2 := J.row.cell (j + k) (by omega)
              rw [J.same _ (Or.inr (Nat.le_refl _))] at y2
              have f2 := J.row.free (j + k)
              have xo := hlo1.at (j + k)
              have hR : Hid (StR u v gu j k w (.returned (.int .u32 (x - 1))) (wr.setCell ⟨gu, j + k, none⟩ (.int .u32 ((gi o1 (j + k) + c2) % 4294967296)))) :=
                Lib.hid ⟨x - 1, _, rfl, hq.out, by omega, by omega, by rw [r2, hl1.out], r3, r6, r7, fun i hi => by rw [r4 i hi]; exact E.out.lows i hi, fun i hi => by rw [r5 i hi]; exact E.out.highs i hi, r1⟩
              have m4 : j + k < u.length := by omega
              clear J hlo r1 r2 r3 r4 r5 r6 r7
              go_wp2
              go_ret
              exact hR.out
end Go.Proofs.YtpoddmkimhkmoaaGreat
