/-
  CONTRACTS of bits.Sub32, natural.subtract and Sub of both texts.
  Conditions: those that each theorem names.
-/
import Derived.Test.YtpoddmkimhkmoaaGreatNt3
namespace Go.Sv
open Go.RowKit
theorem top_bit {N : Nat} (h : N < 4294967296) : N / 2147483648 = (N.testBit 31).toNat ∧ (N.testBit 31 = true ↔ 2147483648 ≤ N) := by
  have e : N.testBit 31 = decide (N / 2 ^ 31 % 2 = 1) := Nat.testBit_eq_decide_div_mod_eq
  have e2 : (2 : Nat) ^ 31 = 2147483648 := by decide
  rw [e2] at e
  by_cases c : N / 2147483648 % 2 = 1
  · rw [e, decide_eq_true c]
    exact ⟨by show _ = 1; omega, ⟨fun _ => by omega, fun _ => rfl⟩⟩
  · rw [e, decide_eq_false c]
    exact ⟨by show _ = 0; omega, ⟨(fun h => by cases h), (fun h => by omega)⟩⟩
theorem bor_bits {x y c : Int} (x0 : 0 ≤ x) (x1 : x < 4294967296) (y0 : 0 ≤ y) (y1 : y < 4294967296) (c0 : 0 ≤ c) (c1 : c ≤ 1) :
    bits .or .u32 (bits .and .u32 (bits .xor .u32 4294967295 x) y) (bits .and .u32 (bits .xor .u32 4294967295 (bits .xor .u32 x y)) ((x - y - c) % 4294967296)) / 2147483648 = bor (x - y - c) := by
  obtain ⟨X, rfl⟩ : ∃ X : Nat, x = X := ⟨x.toNat, by omega⟩
  obtain ⟨Y, rfl⟩ : ∃ Y : Nat, y = Y := ⟨y.toNat, by omega⟩
  obtain ⟨D, hD⟩ : ∃ D : Nat, ((X : Int) - Y - c) % 4294967296 = D := ⟨(((X : Int) - Y - c) % 4294967296).toNat, by omega⟩
  have hX : X < 4294967296 := by omega
  have hY : Y < 4294967296 := by omega
  have hDb : D < 4294967296 := by omega
  have hM : (4294967295 : Nat) < 4294967296 := by decide
  have lx := Nat.xor_lt_two_pow (n := 32) (x := 4294967295) (y := X) (by decide) (by rw [two32]; exact hX)
  have lxy := Nat.xor_lt_two_pow (n := 32) (x := X) (y := Y) (by rw [two32]; exact hX) (by rw [two32]; exact hY)
  rw [two32] at lx lxy
  have lxy2 := Nat.xor_lt_two_pow (n := 32) (x := 4294967295) (y := X ^^^ Y) (by decide) (by rw [two32]; exact lxy)
  have la := Nat.and_lt_two_pow (n := 32) ((4294967295 : Nat) ^^^ X) (y := Y) (by rw [two32]; exact hY)
  have lb := Nat.and_lt_two_pow (n := 32) ((4294967295 : Nat) ^^^ (X ^^^ Y)) (y := D) (by rw [two32]; exact hDb)
  rw [two32] at lxy2 la lb
  have lo := Nat.or_lt_two_pow (n := 32) (by rw [two32]; exact la) (by rw [two32]; exact lb)
  rw [two32] at lo
  have eM : (4294967295 : Int) = ((4294967295 : Nat) : Int) := rfl
  rw [hD, eM, u32_xor_nat _ _ hM hX, u32_xor_nat _ _ hX hY, u32_xor_nat _ _ hM lxy, u32_and_nat _ _ lx hY, u32_and_nat _ _ lxy2 hDb, u32_or_nat _ _ la lb]
  have h1 := (top_bit lo).1
  have mb : Nat.testBit 4294967295 31 = true := by decide
  rw [Nat.testBit_or, Nat.testBit_and, Nat.testBit_and, Nat.testBit_xor, Nat.testBit_xor, Nat.testBit_xor, mb] at h1
  have e : (((4294967295 ^^^ X) &&& Y ||| (4294967295 ^^^ (X ^^^ Y)) &&& D : Nat) : Int) / 2147483648 = ((((4294967295 ^^^ X) &&& Y ||| (4294967295 ^^^ (X ^^^ Y)) &&& D) / 2147483648 : Nat) : Int) := rfl
  rw [e, h1]
  have bX := (top_bit hX).2
  have bY := (top_bit hY).2
  have bD := (top_bit hDb).2
  unfold bor
  cases tX : X.testBit 31 <;> cases tY : Y.testBit 31 <;> cases tD : D.testBit 31 <;> simp only [tX, tY, tD, Bool.false_eq_true, false_iff, true_iff] at bX bY bD <;> simp <;> omega
end Go.Sv
namespace Go.Proofs.YtpoddmkimhkmoaaGreat
open Go.RowKit Go.Sv
theorem sub32_any (x y c : Int) (w : World) (x0 : 0 ≤ x) (x1 : x < 4294967296) (y0 : 0 ≤ y) (y1 : y < 4294967296) (c0 : 0 ≤ c) (c1 : c ≤ 1) :
    Calls Tryz.prog 96 #[.int .u32 x, .int .u32 y, .int .u32 c] w fun e w' => e = .returned (.tuple #[.int .u32 ((x - y - c) % 4294967296), .int .u32 (bor (x - y - c))]) ∧ w = w' := by
  have E := Lib.hid (bor_bits x0 x1 y0 y1 c0 c1)
  have M : Hid (IntKind.u32.max = 4294967295) := Lib.hid rfl
  go_enter Tryz.func96, Tryz.ntmps96
  go_wp2
  all_goals
    go_ret2
    exact ⟨by rw [M.out, E.out]; rfl, rfl⟩

/-- a row of the call's own, in place: a - b -/
structure SubI (a b : List Int) (g : Nat) (w : World) (k : Nat) (o : List Int) (c : Int) (wr : World) : Prop where
  kn : k ≤ a.length
  c0 : 0 ≤ c
  c1 : c ≤ 1
  len : o.length = a.length
  lo : Lim o
  eq : vt o k - c * Bp k = vt a k - vt b k
  same : ∀ j, k ≤ j → gi o j = gi a j
  row : RowAt wr g o
  bel : Below g w wr
theorem SubI.step {a b o : List Int} {g k : Nat} {w wr : World} {c : Int} (h : SubI a b g w k o c wr) (ha : Lim a) (hb : Lim b) (hk : k < a.length) :
    SubI a b g w (k + 1) (o.set k ((gi a k - gi b k - c) % 4294967296)) (bor (gi a k - gi b k - c)) (wr.setCell ⟨g, k, none⟩ (.int .u32 ((gi a k - gi b k - c) % 4294967296))) := by
  have hl := h.len
  have bb := bor_bd (gi a k - gi b k - c)
  exact ⟨hk, bb.1, bb.2, by rw [List.length_set]; exact hl, h.lo.set (by omega) (by omega), sub_set ha hb h.c0 h.c1 (by omega) rfl h.eq,
    fun j hj => by rw [gi_set_ne (by omega)]; exact h.same j (by omega), h.row.set (by omega) _, h.bel.setCell (Nat.le_refl _) _⟩

set_option maxHeartbeats 400000 in
set_option maxRecDepth 100000 in
theorem subtract_any (a b : List Int) (g n c : Nat) (r : LmP) (w : World) (ha : Lim a) (hb : Lim b) (h : RowAt w g a) (h' : RLm w g b r) (hn : a.length = n) (hbn : b.length ≤ n) (hle : vt b n ≤ vt a n) (hmx : n ≤ 1000000) :
    Calls Tryz.prog 74 #[.slice (some ⟨g, 0, none⟩) n c, rowV b r] w fun e w' => e = .returned (.tuple #[]) ∧ ∃ o : List Int, o.length = n ∧ Lim o ∧ vt o n = vt a n - vt b n ∧ RowAt w' g o ∧ Below g w w' := by
  subst hn
  obtain ⟨ra, rc⟩ := r
  have b0 : b.length ≤ 9223372036854775807 := by omega
  have Hb : Hid (Arr w g ra b.length (u32v b)) := Lib.hid h'.arr
  replace h := Lib.hid h
  replace hle := Lib.hid hle
  clear h'
  dsimp only [rowV]
  go_enter Tryz.func74, Tryz.ntmps74
  go_wp2
  go_loopw [4, 5, 6, 9] (fun s4 _ _ s9 wr => ∃ (k : Nat) (o : List Int) (c : Int), s9 = .int .i64 k ∧ s4 = .int .u32 c ∧ SubI a b g w k o c wr) (fun _ _ _ s9 _ => a.length - (intOf s9).toNat)
  case atStart => exact ⟨0, a, 0, rfl, rfl, ⟨Nat.zero_le _, Int.le_refl _, by decide, rfl, ha, by simp [vt], fun _ _ => rfl, h.out, Below.refl _ _⟩⟩
  case round =>
    obtain ⟨k, o, c, rfl, rfl, I⟩ := hrel
    have hlo := I.len
    have c0 := I.c0
    have c1 := I.c1
    have hgl := I.row.lt
    have hkn := I.kn
    by_cases hk : k < a.length
    · have S := I.step ha hb hk
      have y2 := I.row.cell k (by omega)
      rw [I.same k (Nat.le_refl _)] at y2
      have f2 := I.row.free k
      have x0 := ha.at k
      have y0 := hb.at k
      have i0 : (0 : Int) ≤ k := by omega
      have t1 : decide ((k : Int) < (a.length : Int)) = true := decide_eq_true (by omega)
      by_cases hky : k < b.length
      · have H32 := Lib.hid (fun w => sub32_any (gi a k) (gi b k) c w x0.1 x0.2 y0.1 y0.2 c0 c1)
        have t2 : decide ((k : Int) < (b.length : Int)) = true := decide_eq_true (by omega)
        have t2' : decide (k < b.length) = true := decide_eq_true hky
        obtain ⟨by', oy, rfl, hyb, hcy⟩ := Hb.out (by omega)
        have dy := (I.bel.cell (p := ⟨by', oy + k, none⟩) hyb).trans (hcy k hky)
        unfold u32v at dy
        clear hcy
        obtain ⟨d, hd⟩ : ∃ d, (gi a k - gi b k - c) % 4294967296 = d := ⟨_, rfl⟩
        obtain ⟨f, hf⟩ : ∃ f, bor (gi a k - gi b k - c) = f := ⟨_, rfl⟩
        rw [hd, hf] at H32 S
        replace S := Lib.hid S
        clear hd hf I hlo x0 y0
        go_wp2_with fail
        refine (H32.out _).mono ?_
        rintro e w' ⟨rfl, rfl⟩
        go_wp2
        go_roundw
        case rel => exact ⟨k + 1, _, _, by go_num, rfl, S.out⟩
        case measure => simp [intOf]; omega
      · have ey : gi b k = 0 := gi_out (by omega)
        have H32 := Lib.hid (fun w => sub32_any (gi a k) (gi b k) c w x0.1 x0.2 y0.1 y0.2 c0 c1)
        have t2 : decide ((k : Int) < (b.length : Int)) = false := by rw [decide_eq_false_iff_not]; omega
        have t2' : decide (k < b.length) = false := by rw [decide_eq_false_iff_not]; exact hky
        obtain ⟨d, hd⟩ : ∃ d, (gi a k - gi b k - c) % 4294967296 = d := ⟨_, rfl⟩
        obtain ⟨f, hf⟩ : ∃ f, bor (gi a k - gi b k - c) = f := ⟨_, rfl⟩
        rw [hd, hf] at H32 S
        rw [ey] at H32
        replace S := Lib.hid S
        clear hd hf I hlo x0 y0 ey hky
        go_wp2_with fail
        refine (H32.out _).mono ?_
        rintro e w' ⟨rfl, rfl⟩
        go_wp2
        go_roundw
        case rel => exact ⟨k + 1, _, _, by go_num, rfl, S.out⟩
        case measure => simp [intOf]; omega
    · obtain rfl : k = a.length := by omega
      have t1 : decide ((a.length : Int) < (a.length : Int)) = false := by rw [decide_eq_false_iff_not]; omega
      obtain ⟨rfl, hv⟩ := sub_end I.lo hle.out c0 c1 I.eq
      have hR : Hid (∃ o : List Int, o.length = a.length ∧ Lim o ∧ vt o a.length = vt a a.length - vt b a.length ∧ RowAt wr g o ∧ Below g w wr) := Lib.hid ⟨o, hlo, I.lo, hv, I.row, I.bel⟩
      clear I hv hlo
      go_wp2
      go_end0
      exact ⟨rfl, hR.out⟩
theorem subtract_nil (b : List Int) (A : Option Addr) (c : Nat) (r : LmP) (w : World) : Calls Tryz.prog 74 #[.slice A 0 c, rowV b r] w fun e w' => e = .returned (.tuple #[]) ∧ w = w' := by
  go_enter Tryz.func74, Tryz.ntmps74
  go_wp2
  refine wp_loop_rounds 1 ?_
  rw [rounds_succ]
  go_wp2
  go_end0
  exact ⟨rfl, rfl⟩
end Go.Proofs.YtpoddmkimhkmoaaGreat

namespace Go.Proofs.YtpoddmkimhkmoaaGreat
open Go.RowKit Go.Sv

theorem Box1.low {W W' : World} {b B : Nat} {v : Value} (h : Box1 W b v) (hb : Below B W W') (hB : b < B) : Box1 W' b v := ⟨Nat.lt_of_lt_of_le h.z hb.size, (hb.cell hB).trans h.y⟩
theorem ResB.low {W W' : World} {b B : Nat} {v : Value} (h : ResB W b v) (hb : Below B W W') (hB : b < B) : ResB W' b v := ⟨Nat.lt_of_lt_of_le h.z hb.size, (hb.cell hB).trans h.y, (hb.frozen hB).trans h.f⟩
theorem cmpL_lt {a b : List Int} (ha : Lim a) (hb : Lim b) : decide (cmpL a b < 0) = decide (vl a < vl b) := by
  unfold cmpL
  rw [vl_vt ha, vl_vt hb, Bool.eq_iff_iff, decide_eq_true_iff, decide_eq_true_iff]
  unfold cmpV
  constructor
  · intro h
    split at h
    · omega
    · split at h <;> omega
  · intro h
    rw [if_pos (by omega)]; decide
def difV (a b : List Int) : List Int := if (vN a && vN b) = true ∧ vl b ≤ vl a then lim (vl a - vl b) else []
def difE (a b : List Int) : Int := if (vN a && vN b) = true then if vl b ≤ vl a then 0 else 7 else 1

set_option maxHeartbeats 400000 in
set_option maxRecDepth 100000 in
theorem sub_ok (a b : List Int) (q r : LmP) (w : World) (h : RLm w w.heap.size a q) (h' : RLm w w.heap.size b r) (ha : Lim a) (hb : Lim b) (va : vN a = true) (vb : vN b = true) (hle : vl b ≤ vl a) :
    Calls Tryz.prog 50 #[natV a q, natV b r] w (Ret (NRes2 w (lim (vl a - vl b)) 0)) := by
  obtain ⟨na, ca⟩ := vN_can va
  obtain ⟨nb, cb⟩ := vN_can vb
  have hbx : Hid (∀ o1 o2 o3 : Obj, Below w.heap.size w (((w.alloc o1).alloc o2).alloc o3)) := Lib.hid fun o1 o2 o3 => (((Below.refl _ _).alloc (Nat.le_refl _) o1).alloc (by simp) o2).alloc (by simp; omega) o3
  have HV := Lib.hid (fun w' (hw : Below w.heap.size w w') => valid2_any a b q r w' (h.to hw) (h'.to hw))
  rw [va, vb] at HV
  have HC := Lib.hid (fun w' (hw : Below w.heap.size w w') => cmp_any a b q r w' (h.to hw) (h'.to hw) ha hb ca cb)
  have ec : decide (cmpL a b < 0) = false := by rw [cmpL_lt ha hb, decide_eq_false_iff_not]; omega
  obtain ⟨cv, hcv⟩ : ∃ cv, cmpL a b = cv := ⟨_, rfl⟩
  rw [hcv] at HC ec
  have hlen : b.length ≤ a.length := by
    rcases Nat.lt_or_ge a.length b.length with c | c
    · exfalso
      have := vt_len_lt ha hb cb c
      rw [vl_vt ha, vl_vt hb] at this
      omega
    · exact c
  have hvt : vt b a.length ≤ vt a a.length := by rw [vt_more hlen, vl_vt ha, vl_vt hb]; omega
  have Hb := Lib.hid (fun w' g (hw : Below w.heap.size w w') (hg : w.heap.size ≤ g) => (h'.below hw).more hg)
  have Ha := Lib.hid (fun w' (hw : Below w.heap.size w w') => h.to hw)
  obtain ⟨qa, qc⟩ := q
  obtain ⟨ra, rc⟩ := r
  have HK := Lib.hid (fun w' (hw : Below w.heap.size w w') => clone_any a qa a.length qc w' (Ha.out w' hw).arr rfl (Ha.out w' hw).nil (by omega))
  have hB1 : Hid (Box1 (((w.alloc (.cells #[.slice qa a.length qc] 24)).alloc (.cells #[.slice ra b.length rc] 24)).alloc (.cells #[.slice none 0 0] 24)) w.heap.size (.slice qa a.length qc)) :=
    Lib.hid ((Box1.new.to ((Below.refl _ _).alloc (Nat.le_refl _) _)).to ((Below.refl _ _).alloc (Nat.le_refl _) _))
  have hB2 : Hid (Box1 (((w.alloc (.cells #[.slice qa a.length qc] 24)).alloc (.cells #[.slice ra b.length rc] 24)).alloc (.cells #[.slice none 0 0] 24)) (w.heap.size + 1) (.slice ra b.length rc)) :=
    Lib.hid (by have := Box1.new (w := w.alloc (.cells #[.slice qa a.length qc] 24)) (e := 24) (v := .slice ra b.length rc); rw [World.size_alloc] at this; exact this.to ((Below.refl _ _).alloc (Nat.le_refl _) _))
  have hRB : Hid (ResB (((w.alloc (.cells #[.slice qa a.length qc] 24)).alloc (.cells #[.slice ra b.length rc] 24)).alloc (.cells #[.slice none 0 0] 24)) (w.heap.size + 1 + 1) (.slice none 0 0)) :=
    Lib.hid (ResB.new' (by simp))
  have hN : Hid (∀ o : List Int, o.length = a.length → Lim o → vt o a.length = vt a a.length - vt b a.length → norm o = lim (vl a - vl b)) := Lib.hid fun o h1 h2 h3 => by
    refine norm_lim h2 ?_
    rw [h1, h3, vl_vt ha, vt_more hlen, vl_vt hb]
    omega
  obtain ⟨m, hm⟩ : ∃ m, lim (vl a - vl b) = m := ⟨_, rfl⟩
  rw [hm] at hN ⊢
  clear h h' va vb ca cb hle hm hcv
  go_enter Tryz.func50, Tryz.ntmps50
  go_wp2_with fail
  refine (HV.out _ (hbx.out _ _ _)).mono ?_
  rintro e w1 ⟨rfl, hb1⟩
  have X1 := Lib.hid (hB1.out.to hb1)
  have X2 := Lib.hid (hB2.out.to hb1)
  have XR := Lib.hid (hRB.out.to hb1)
  have hbw1 := Lib.hid (below_of (hbx.out _ _ _) (hbx.out _ _ _).size hb1)
  clear hb1
  obtain ⟨z0, y0⟩ := X1.out
  obtain ⟨z1, y1⟩ := X2.out
  go_wp2_with fail
  refine (HC.out _ hbw1.out).mono ?_
  rintro e w2 ⟨rfl, hb2⟩
  have Y1 := Lib.hid (X1.out.to hb2)
  have Y2 := Lib.hid (X2.out.to hb2)
  have YR := Lib.hid (XR.out.to hb2)
  have hbw2 := Lib.hid (below_of hbw1.out hbw1.out.size hb2)
  clear hb2 z0 y0 z1 y1 X1 X2 XR
  obtain ⟨z0, y0⟩ := Y1.out
  go_wp2_with fail
  refine (HK.out _ hbw2.out).mono ?_
  rintro e w3 ⟨_, rfl, q3, rfl, hr3, hf3, hb3, ho3⟩
  obtain ⟨qa3, qc3⟩ := q3
  have Z2 := Lib.hid (Y2.out.to hb3)
  have ZR := Lib.hid (YR.out.to hb3)
  have hbw3 := Lib.hid (below_of hbw2.out hbw2.out.size hb3)
  clear z0 y0
  obtain ⟨z1, y1⟩ := Z2.out
  by_cases hn : a.length = 0
  · have hn' : a = [] := List.eq_nil_of_length_eq_zero hn
    subst hn'
    have hNm := hN.out [] rfl Lim.nil (by have : b.length = 0 := by simpa using hlen
                                          have hb0 : b = [] := List.eq_nil_of_length_eq_zero this
                                          subst hb0; rfl)
    have hS := Lib.hid (fun w => subtract_nil b qa3 qc3 ⟨ra, rc⟩ w)
    have HT := trim_any [] ⟨qa3, qc3⟩ w3 hr3 (by simp)
    rw [hNm] at HT
    replace HT := Lib.hid HT
    clear hn hr3 hf3 hb3 ho3 hNm
    go_wp2_with fail
    refine (hS.out _).mono ?_
    rintro e w4 ⟨rfl, rfl⟩
    clear z1 y1
    go_wp2_with fail
    refine HT.out.mono ?_
    rintro e w5 ⟨_, rfl, q5, rfl, hr5, hf5, hb5⟩
    have hR := Lib.hid (nres2_put (E := 0) hbw3.out (show w.heap.size ≤ w.heap.size + 1 + 1 by omega) ZR.out.z hr5 hf5 hb5)
    obtain ⟨s0, s1, s2⟩ := ZR.out.to hb5
    clear hr5 hf5 hb5
    go_wp2
    refine bodyPost_ret (v := .tuple #[natV m q5, .int .i64 0]) (by simp [results, Tryz.results50, go_sem, s1]) rfl ?_
    exact Ret.mk hR.out
  · obtain ⟨g, hg, hrow⟩ := ho3 (by omega)
    dsimp only at hg
    subst hg
    have hg2 : w2.heap.size ≤ g := hf3 _ rfl
    have hz := YR.out.z
    have hcap : a.length ≤ qc3 := hr3.cap
    have hcmx : qc3 ≤ maxLen := hr3.cmx
    have hgl := hrow.lt
    have hS := Lib.hid (subtract_any a b g a.length qc3 ⟨ra, rc⟩ w3 ha hb hrow (Hb.out w3 g hbw3.out (by have := hbw2.out.size; omega)) rfl hlen hvt (by omega))
    have hg0 : w.heap.size + 1 + 1 < g := by omega
    clear hr3 hf3 hb3 ho3 hrow hn
    go_wp2_with fail
    refine hS.out.mono ?_
    rintro e w4 ⟨rfl, o, ho1, ho2, ho3, ho4, hb4⟩
    have HT := trim_any o ⟨some ⟨g, 0, none⟩, qc3⟩ w4 (ho4.rlm rfl (by omega) hcmx) (by omega)
    rw [ho1, hN.out o ho1 ho2 ho3] at HT
    dsimp only at HT
    replace HT := Lib.hid HT
    have ZR4 := Lib.hid (ZR.out.low hb4 hg0)
    have hbw4 := Lib.hid (hbw3.out.trans (hb4.mono (by omega)))
    clear ho1 ho2 ho3 ho4 hb4 z1 y1 hcap hcmx
    go_wp2_with fail
    refine HT.out.mono ?_
    rintro e w5 ⟨_, rfl, q5, rfl, hr5, hf5, hb5⟩
    have hR := Lib.hid (nres2_put (E := 0) hbw4.out (show w.heap.size ≤ w.heap.size + 1 + 1 by omega) ZR4.out.z hr5 hf5 hb5)
    obtain ⟨s0, s1, s2⟩ := ZR4.out.to hb5
    clear hr5 hf5 hb5
    go_wp2
    refine bodyPost_ret (v := .tuple #[natV m q5, .int .i64 0]) (by simp [results, Tryz.results50, go_sem, s1]) rfl ?_
    exact Ret.mk hR.out

set_option maxRecDepth 100000 in
theorem sub_low (a b : List Int) (q r : LmP) (w : World) (h : RLm w w.heap.size a q) (h' : RLm w w.heap.size b r) (ha : Lim a) (hb : Lim b) (va : vN a = true) (vb : vN b = true) (hlt : vl a < vl b) :
    Calls Tryz.prog 50 #[natV a q, natV b r] w (Ret (NRes2 w [] 7)) := by
  obtain ⟨na, ca⟩ := vN_can va
  obtain ⟨nb, cb⟩ := vN_can vb
  have hbx : Hid (∀ o1 o2 o3 : Obj, Below w.heap.size w (((w.alloc o1).alloc o2).alloc o3)) := Lib.hid fun o1 o2 o3 => (((Below.refl _ _).alloc (Nat.le_refl _) o1).alloc (by simp) o2).alloc (by simp; omega) o3
  have HV := Lib.hid (fun w' (hw : Below w.heap.size w w') => valid2_any a b q r w' (h.to hw) (h'.to hw))
  rw [va, vb] at HV
  have HC := Lib.hid (fun w' (hw : Below w.heap.size w w') => cmp_any a b q r w' (h.to hw) (h'.to hw) ha hb ca cb)
  have ec : decide (cmpL a b < 0) = true := by rw [cmpL_lt ha hb, decide_eq_true_iff]; omega
  obtain ⟨cv, hcv⟩ : ∃ cv, cmpL a b = cv := ⟨_, rfl⟩
  rw [hcv] at HC ec
  obtain ⟨qa, qc⟩ := q
  obtain ⟨ra, rc⟩ := r
  have hB1 : Hid (Box1 (((w.alloc (.cells #[.slice qa a.length qc] 24)).alloc (.cells #[.slice ra b.length rc] 24)).alloc (.cells #[.slice none 0 0] 24)) w.heap.size (.slice qa a.length qc)) :=
    Lib.hid ((Box1.new.to ((Below.refl _ _).alloc (Nat.le_refl _) _)).to ((Below.refl _ _).alloc (Nat.le_refl _) _))
  have hB2 : Hid (Box1 (((w.alloc (.cells #[.slice qa a.length qc] 24)).alloc (.cells #[.slice ra b.length rc] 24)).alloc (.cells #[.slice none 0 0] 24)) (w.heap.size + 1) (.slice ra b.length rc)) :=
    Lib.hid (by have := Box1.new (w := w.alloc (.cells #[.slice qa a.length qc] 24)) (e := 24) (v := .slice ra b.length rc); rw [World.size_alloc] at this; exact this.to ((Below.refl _ _).alloc (Nat.le_refl _) _))
  have hRB : Hid (ResB (((w.alloc (.cells #[.slice qa a.length qc] 24)).alloc (.cells #[.slice ra b.length rc] 24)).alloc (.cells #[.slice none 0 0] 24)) (w.heap.size + 1 + 1) (.slice none 0 0)) :=
    Lib.hid (ResB.new' (by simp))
  clear h h' va vb ca cb hlt hcv
  go_enter Tryz.func50, Tryz.ntmps50
  go_wp2_with fail
  refine (HV.out _ (hbx.out _ _ _)).mono ?_
  rintro e w1 ⟨rfl, hb1⟩
  have XR := Lib.hid (hRB.out.to hb1)
  have hbw1 := Lib.hid (below_of (hbx.out _ _ _) (hbx.out _ _ _).size hb1)
  obtain ⟨z0, y0⟩ := hB1.out.to hb1
  obtain ⟨z1, y1⟩ := hB2.out.to hb1
  clear hb1
  go_wp2_with fail
  refine (HC.out _ hbw1.out).mono ?_
  rintro e w2 ⟨rfl, hb2⟩
  obtain ⟨s0, s1, s2⟩ := XR.out.to hb2
  have hb := Lib.hid ((below_of hbw1.out hbw1.out.size hb2).setCell (p := ⟨w.heap.size + 1 + 1, 0, none⟩) (by show w.heap.size ≤ w.heap.size + 1 + 1; omega) (.slice none 0 0))
  clear hb2 z0 y0 z1 y1
  go_wp2
  refine bodyPost_ret (v := .tuple #[.agg #[.slice none 0 0], .int .i64 7]) (by simp [results, Tryz.results50, go_sem, s1]) rfl ?_
  exact Ret.mk (NRes2.none_ hb.out)

set_option maxRecDepth 100000 in
theorem sub_no (a b : List Int) (q r : LmP) (w : World) (h : RLm w w.heap.size a q) (h' : RLm w w.heap.size b r) (hv : (vN a && vN b) = false) :
    Calls Tryz.prog 50 #[natV a q, natV b r] w (Ret (NRes2 w [] 1)) := by
  have hbx : Hid (∀ o1 o2 o3 : Obj, Below w.heap.size w (((w.alloc o1).alloc o2).alloc o3)) := Lib.hid fun o1 o2 o3 => (((Below.refl _ _).alloc (Nat.le_refl _) o1).alloc (by simp) o2).alloc (by simp; omega) o3
  have HV := Lib.hid (fun w' (hw : Below w.heap.size w w') => valid2_any a b q r w' (h.to hw) (h'.to hw))
  rw [hv] at HV
  obtain ⟨qa, qc⟩ := q
  obtain ⟨ra, rc⟩ := r
  have hRB : Hid (ResB (((w.alloc (.cells #[.slice qa a.length qc] 24)).alloc (.cells #[.slice ra b.length rc] 24)).alloc (.cells #[.slice none 0 0] 24)) (w.heap.size + 1 + 1) (.slice none 0 0)) :=
    Lib.hid (ResB.new' (by simp))
  clear h h' hv
  go_enter Tryz.func50, Tryz.ntmps50
  go_wp2_with fail
  refine (HV.out _ (hbx.out _ _ _)).mono ?_
  rintro e w1 ⟨rfl, hb1⟩
  obtain ⟨s0, s1, s2⟩ := hRB.out.to hb1
  have hb := Lib.hid ((below_of (hbx.out _ _ _) (hbx.out _ _ _).size hb1).setCell (p := ⟨w.heap.size + 1 + 1, 0, none⟩) (by show w.heap.size ≤ w.heap.size + 1 + 1; omega) (.slice none 0 0))
  clear hb1
  go_wp2
  refine bodyPost_ret (v := .tuple #[.agg #[.slice none 0 0], .int .i64 1]) (by simp [results, Tryz.results50, go_sem, s1]) rfl ?_
  exact Ret.mk (NRes2.none_ hb.out)
theorem sub_any (a b : List Int) (q r : LmP) (w : World) (h : RLm w w.heap.size a q) (h' : RLm w w.heap.size b r) (ha : Lim a) (hb : Lim b) :
    Calls Tryz.prog 50 #[natV a q, natV b r] w (Ret (NRes2 w (difV a b) (difE a b))) := by
  unfold difV difE
  by_cases hv : (vN a && vN b) = true
  · obtain ⟨va, vb⟩ := (Bool.and_eq_true _ _).mp hv
    rw [if_pos hv]
    by_cases hle : vl b ≤ vl a
    · rw [if_pos ⟨hv, hle⟩, if_pos hle]
      exact sub_ok a b q r w h h' ha hb va vb hle
    · rw [if_neg (fun h => hle h.2), if_neg hle]
      exact sub_low a b q r w h h' ha hb va vb (by omega)
  · rw [if_neg (fun h => hv h.1), if_neg hv]
    exact sub_no a b q r w h h' (by simpa using hv)
end Go.Proofs.YtpoddmkimhkmoaaGreat

namespace Go.Proofs.YtpoddmkimhkmoaaGreat
open Go.RowKit Go.Sv

structure RSubI (a b : List Int) (w2 : World) (k : Nat) (o : List Int) (v : Value) (c : Int) (wr : World) : Prop where
  kn : k ≤ a.length
  c0 : 0 ≤ c
  c1 : c ≤ 1
  len : o.length = k
  lo : Lim o
  eq : vt o k - c * Bp k = vt a k - vt b k
  own : wr.ownsRow w2.heap.size 69 1 v k (uRow o)
  bel : Below w2.heap.size w2 wr

set_option maxHeartbeats 1000000 in
set_option maxRecDepth 100000 in
theorem rsub_ok (a b : List Int) (q r : LmP) (w : World) (h : RLm w w.heap.size a q) (h' : RLm w w.heap.size b r) (ha : Lim a) (hb : Lim b) (va : vN a = true) (vb : vN b = true) (hle : vl b ≤ vl a) :
    Calls Tryz.prog 108 #[natV a q, natV b r] w (Ret (NRes2 w (lim (vl a - vl b)) 0)) := by
  obtain ⟨na, ca⟩ := vN_can va
  obtain ⟨nb, cb⟩ := vN_can vb
  have hbx : Hid (∀ o1 o2 o3 : Obj, Below w.heap.size w (((w.alloc o1).alloc o2).alloc o3)) := Lib.hid fun o1 o2 o3 => (((Below.refl _ _).alloc (Nat.le_refl _) o1).alloc (by simp) o2).alloc (by simp; omega) o3
  have HVa := Lib.hid (fun w' (hw : Below w.heap.size w w') => rvalid_any a q w' (h.to hw))
  have HVb := Lib.hid (fun w' (hw : Below w.heap.size w w') => rvalid_any b r w' (h'.to hw))
  rw [va] at HVa
  rw [vb] at HVb
  have HC := Lib.hid (fun w' (hw : Below w.heap.size w w') => rcmp_any a b q r w' (h.to hw) (h'.to hw) ha hb)
  have ec : decide (cmpL a b < 0) = false := by rw [cmpL_lt ha hb, decide_eq_false_iff_not]; omega
  obtain ⟨cv, hcv⟩ : ∃ cv, cmpL a b = cv := ⟨_, rfl⟩
  rw [hcv] at HC ec
  have hlen : b.length ≤ a.length := by
    rcases Nat.lt_or_ge a.length b.length with c | c
    · exfalso
      have := vt_len_lt ha hb cb c
      rw [vl_vt ha, vl_vt hb] at this
      omega
    · exact c
  have hvt : Hid (vt b a.length ≤ vt a a.length) := Lib.hid (by rw [vt_more hlen, vl_vt ha, vl_vt hb]; omega)
  have HA := Lib.hid (fun w' (k : Nat) (hw : Below w.heap.size w w') => limb_any a q k w' (h.to hw) ha (by omega))
  have HB := Lib.hid (fun w' (k : Nat) (hw : Below w.heap.size w w') => limb_any b r k w' (h'.to hw) hb (by omega))
  simp only [Int.toNat_natCast] at HA HB
  obtain ⟨qa, qc⟩ := q
  obtain ⟨ra, rc⟩ := r
  have hB1 : Hid (Box1 (((w.alloc (.cells #[.slice qa a.length qc] 24)).alloc (.cells #[.slice ra b.length rc] 24)).alloc (.cells #[.slice none 0 0] 24)) w.heap.size (.slice qa a.length qc)) :=
    Lib.hid ((Box1.new.to ((Below.refl _ _).alloc (Nat.le_refl _) _)).to ((Below.refl _ _).alloc (Nat.le_refl _) _))
  have hB2 : Hid (Box1 (((w.alloc (.cells #[.slice qa a.length qc] 24)).alloc (.cells #[.slice ra b.length rc] 24)).alloc (.cells #[.slice none 0 0] 24)) (w.heap.size + 1) (.slice ra b.length rc)) :=
    Lib.hid (by have := Box1.new (w := w.alloc (.cells #[.slice qa a.length qc] 24)) (e := 24) (v := .slice ra b.length rc); rw [World.size_alloc] at this; exact this.to ((Below.refl _ _).alloc (Nat.le_refl _) _))
  have hRB : Hid (ResB (((w.alloc (.cells #[.slice qa a.length qc] 24)).alloc (.cells #[.slice ra b.length rc] 24)).alloc (.cells #[.slice none 0 0] 24)) (w.heap.size + 1 + 1) (.slice none 0 0)) :=
    Lib.hid (ResB.new' (by simp))
  have hN : Hid (∀ o : List Int, o.length = a.length → Lim o → vt o a.length = vt a a.length - vt b a.length → norm o = lim (vl a - vl b)) := Lib.hid fun o h1 h2 h3 => by
    refine norm_lim h2 ?_
    rw [h1, h3, vl_vt ha, vt_more hlen, vl_vt hb]
    omega
  obtain ⟨m, hm⟩ : ∃ m, lim (vl a - vl b) = m := ⟨_, rfl⟩
  rw [hm] at hN ⊢
  clear h h' va vb ca cb hle hm hcv
  go_enter Tryz.func108, Tryz.ntmps108
  go_wp2_with fail
  refine (HVa.out _ (hbx.out _ _ _)).mono ?_
  rintro e w0 ⟨rfl, hb0⟩
  have X1 := Lib.hid (hB1.out.to hb0)
  have X2 := Lib.hid (hB2.out.to hb0)
  have XR := Lib.hid (hRB.out.to hb0)
  have hbw0 := Lib.hid (below_of (hbx.out _ _ _) (hbx.out _ _ _).size hb0)
  clear hb0
  obtain ⟨z1, y1⟩ := X2.out
  go_wp2_with fail
  refine (HVb.out _ hbw0.out).mono ?_
  rintro e w1 ⟨rfl, hb1⟩
  have Y1 := Lib.hid (X1.out.to hb1)
  have Y2 := Lib.hid (X2.out.to hb1)
  have YR := Lib.hid (XR.out.to hb1)
  have hbw1 := Lib.hid (below_of hbw0.out hbw0.out.size hb1)
  clear hb1 z1 y1 X1 X2 XR
  obtain ⟨z0, y0⟩ := Y1.out
  obtain ⟨z1, y1⟩ := Y2.out
  go_wp2_with fail
  refine (HC.out _ hbw1.out).mono ?_
  rintro e w2 ⟨rfl, hb2⟩
  have Z1 := Lib.hid (Y1.out.to hb2)
  have Z2 := Lib.hid (Y2.out.to hb2)
  have ZR := Lib.hid (YR.out.to hb2)
  have hbw := Lib.hid (below_of hbw1.out hbw1.out.size hb2)
  clear hb2 z0 y0 z1 y1 Y1 Y2 YR
  go_wp2
  go_loopw [6, 7, 8, 9] (fun s6 s7 s8 _ wr => ∃ (k : Nat) (o : List Int) (c : Int), s8 = .int .i64 k ∧ s7 = .int .i64 c ∧ RSubI a b w2 k o s6 c wr) (fun _ _ s8 _ _ => a.length - (intOf s8).toNat)
  case atStart => exact ⟨0, [], 0, rfl, rfl, ⟨Nat.zero_le _, Int.le_refl _, by decide, rfl, Lim.nil, by simp [vt], World.ownsRow_nil _ _ _ _, Below.refl _ _⟩⟩
  case round =>
    obtain ⟨k, o, c, rfl, rfl, I⟩ := hrel
    obtain ⟨z0, y0⟩ := Z1.out.to I.bel
    obtain ⟨z1, y1⟩ := Z2.out.to I.bel
    have hbr := Lib.hid (below_of hbw.out hbw.out.size I.bel)
    have hkn := I.kn
    by_cases hlt : k < a.length
    · have t1 : decide ((k : Int) < (a.length : Int)) = true := decide_eq_true (by omega)
      have t1' : decide (k < a.length) = true := decide_eq_true hlt
      have c0 := I.c0
      have c1 := I.c1
      have xa := ha.at k
      have xb := hb.at k
      have d4 := Lib.hid (sub_step ha hb c0 c1 I.len I.eq)
      have d3 : Hid (Lim (o ++ [(gi a k - gi b k - c) % 4294967296])) := Lib.hid (I.lo.snoc (by omega) (by omega))
      have hG : Hid (∀ x : GrowX wr, Below w.heap.size w (grow wr x)) := Lib.hid fun x => below_of hbr.out hbr.out.size (grow_is wr x)
      have wr1 : IntKind.i64.wrap (gi a k) = gi a k := IntWalk.i64_in _ (by omega)
      have wr2 : IntKind.i64.wrap (gi b k) = gi b k := IntWalk.i64_in _ (by omega)
      have wr3 : IntKind.i64.wrap (gi a k - gi b k) = gi a k - gi b k := IntWalk.i64_in _ (by omega)
      have wr4 : IntKind.i64.wrap (gi a k - gi b k - c) = gi a k - gi b k - c := IntWalk.i64_in _ (by omega)
      by_cases gd : gi a k - gi b k - c < 0
      · have d5 : decide (gi a k - gi b k - c < 0) = true := by first | (rw [decide_eq_false_iff_not]; omega) | (rw [decide_eq_true_iff]; omega)
        have uR : Hid (uRow (o ++ [(gi a k - gi b k - c) % 4294967296]) = uRow o ++ [.int .u32 ((gi a k - gi b k - c) % 4294967296)]) := Lib.hid (uRow_snoc _ _)
        have cE : Hid (bor (gi a k - gi b k - c) = 1) := Lib.hid (by unfold bor; rw [if_pos (by omega)])
        clear gd
        go_wp2_with fail
        refine wp_region_calm (by kernel_rfl) (by kernel_rfl) ?_
        repeat (go_big_quiet_step (((go_at_call 79; first | (with_reducible exact calm_b (HA.out _ _ (hG.out _))) | (with_reducible exact calm_b (HB.out _ _ (hG.out _)))))))
        refine wpQuiet_nil ?_
        intro w3 hw3
        have hg := grow_below hw3
        clear hw3
        have hown := Lib.hid (own_to I.own hg)
        have hbel2 := Lib.hid (I.bel.trans (hg.mono I.bel.size))
        have hsz := hbel2.out.size
        have kc : Hid (k + 1 = (o ++ [(gi a k - gi b k - c) % 4294967296]).length) := Lib.hid (by rw [List.length_append, I.len]; rfl)
        clear I hg hG z0 y0 z1 y1 wr1 wr2 wr3 wr4
        go_wp2_with (at_builtin; refine push_own elU32 rfl _ _ rfl w2.heap.size _ k (uRow o) hown.out rfl _ rfl rfl rfl (by omega) (by omega) hsz ?_)
        intro v' w4 hown3 hgr hb3 hs3 _
        have S : Hid (RSubI a b w2 (k + 1) (o ++ [(gi a k - gi b k - c) % 4294967296]) v' (1) w4) := Lib.hid ⟨by omega, by decide, by decide, kc.out.symm, d3.out, by rw [← cE.out]; exact d4.out, by rw [uR.out]; exact hown3, hbel2.out.trans hb3⟩
        clear hown3 hgr hb3 hs3
        go_wp2
        go_roundw
        case rel => exact ⟨k + 1, _, _, by go_num, rfl, S.out⟩
        case measure => simp [intOf]; omega
      · have d5 : decide (gi a k - gi b k - c < 0) = false := by first | (rw [decide_eq_false_iff_not]; omega) | (rw [decide_eq_true_iff]; omega)
        have uR : Hid (uRow (o ++ [(gi a k - gi b k - c) % 4294967296]) = uRow o ++ [.int .u32 ((gi a k - gi b k - c) % 4294967296)]) := Lib.hid (uRow_snoc _ _)
        have cE : Hid (bor (gi a k - gi b k - c) = 0) := Lib.hid (by unfold bor; rw [if_neg (by omega)])
        clear gd
        go_wp2_with fail
        refine wp_region_calm (by kernel_rfl) (by kernel_rfl) ?_
        repeat (go_big_quiet_step (((go_at_call 79; first | (with_reducible exact calm_b (HA.out _ _ (hG.out _))) | (with_reducible exact calm_b (HB.out _ _ (hG.out _)))))))
        refine wpQuiet_nil ?_
        intro w3 hw3
        have hg := grow_below hw3
        clear hw3
        have hown := Lib.hid (own_to I.own hg)
        have hbel2 := Lib.hid (I.bel.trans (hg.mono I.bel.size))
        have hsz := hbel2.out.size
        have kc : Hid (k + 1 = (o ++ [(gi a k - gi b k - c) % 4294967296]).length) := Lib.hid (by rw [List.length_append, I.len]; rfl)
        clear I hg hG z0 y0 z1 y1 wr1 wr2 wr3 wr4
        go_wp2_with (at_builtin; refine push_own elU32 rfl _ _ rfl w2.heap.size _ k (uRow o) hown.out rfl _ rfl rfl rfl (by omega) (by omega) hsz ?_)
        intro v' w4 hown3 hgr hb3 hs3 _
        have S : Hid (RSubI a b w2 (k + 1) (o ++ [(gi a k - gi b k - c) % 4294967296]) v' (0) w4) := Lib.hid ⟨by omega, by decide, by decide, kc.out.symm, d3.out, by rw [← cE.out]; exact d4.out, by rw [uR.out]; exact hown3, hbel2.out.trans hb3⟩
        clear hown3 hgr hb3 hs3
        go_wp2
        go_roundw
        case rel => exact ⟨k + 1, _, _, by go_num, rfl, S.out⟩
        case measure => simp [intOf]; omega
    · obtain rfl : k = a.length := by omega
      have t1 : decide ((a.length : Int) < (a.length : Int)) = false := by rw [decide_eq_false_iff_not]; omega
      have hl := I.len
      obtain ⟨rfl, hv⟩ := sub_end I.lo hvt.out I.c0 I.c1 I.eq
      obtain ⟨q6, rfl, hr6, _⟩ := own_rlm I.own I.len.symm
      have HT := rtrim_any o q6 wr hr6 (by omega)
      rw [hN.out o hl I.lo hv] at HT
      replace HT := Lib.hid HT
      have ZR' := Lib.hid (ZR.out.to I.bel)
      clear I hr6 hl hv
      go_wp2_with fail
      refine HT.out.mono ?_
      rintro e w3 ⟨_, rfl, q5, rfl, hr5, hf5, hb5⟩
      have hR := Lib.hid (nres2_put (E := 0) hbr.out (show w.heap.size ≤ w.heap.size + 1 + 1 by omega) ZR'.out.z hr5 hf5 hb5)
      obtain ⟨s0, s1, s2⟩ := ZR'.out.to hb5
      clear hr5 hf5 hb5
      go_wp2
      refine bodyPost_ret (v := .tuple #[natV m q5, .int .i64 0]) (by simp [results, Tryz.results108, go_sem, s1]) rfl ?_
      exact Ret.mk hR.out

set_option maxRecDepth 100000 in
theorem rsub_low (a b : List Int) (q r : LmP) (w : World) (h : RLm w w.heap.size a q) (h' : RLm w w.heap.size b r) (ha : Lim a) (hb : Lim b) (va : vN a = true) (vb : vN b = true) (hlt : vl a < vl b) :
    Calls Tryz.prog 108 #[natV a q, natV b r] w (Ret (NRes2 w [] 7)) := by
  have hbx : Hid (∀ o1 o2 o3 : Obj, Below w.heap.size w (((w.alloc o1).alloc o2).alloc o3)) := Lib.hid fun o1 o2 o3 => (((Below.refl _ _).alloc (Nat.le_refl _) o1).alloc (by simp) o2).alloc (by simp; omega) o3
  have HVa := Lib.hid (fun w' (hw : Below w.heap.size w w') => rvalid_any a q w' (h.to hw))
  have HVb := Lib.hid (fun w' (hw : Below w.heap.size w w') => rvalid_any b r w' (h'.to hw))
  rw [va] at HVa
  rw [vb] at HVb
  have HC := Lib.hid (fun w' (hw : Below w.heap.size w w') => rcmp_any a b q r w' (h.to hw) (h'.to hw) ha hb)
  have ec : decide (cmpL a b < 0) = true := by rw [cmpL_lt ha hb, decide_eq_true_iff]; omega
  obtain ⟨cv, hcv⟩ : ∃ cv, cmpL a b = cv := ⟨_, rfl⟩
  rw [hcv] at HC ec
  obtain ⟨qa, qc⟩ := q
  obtain ⟨ra, rc⟩ := r
  have hB1 : Hid (Box1 (((w.alloc (.cells #[.slice qa a.length qc] 24)).alloc (.cells #[.slice ra b.length rc] 24)).alloc (.cells #[.slice none 0 0] 24)) w.heap.size (.slice qa a.length qc)) :=
    Lib.hid ((Box1.new.to ((Below.refl _ _).alloc (Nat.le_refl _) _)).to ((Below.refl _ _).alloc (Nat.le_refl _) _))
  have hB2 : Hid (Box1 (((w.alloc (.cells #[.slice qa a.length qc] 24)).alloc (.cells #[.slice ra b.length rc] 24)).alloc (.cells #[.slice none 0 0] 24)) (w.heap.size + 1) (.slice ra b.length rc)) :=
    Lib.hid (by have := Box1.new (w := w.alloc (.cells #[.slice qa a.length qc] 24)) (e := 24) (v := .slice ra b.length rc); rw [World.size_alloc] at this; exact this.to ((Below.refl _ _).alloc (Nat.le_refl _) _))
  have hRB : Hid (ResB (((w.alloc (.cells #[.slice qa a.length qc] 24)).alloc (.cells #[.slice ra b.length rc] 24)).alloc (.cells #[.slice none 0 0] 24)) (w.heap.size + 1 + 1) (.slice none 0 0)) :=
    Lib.hid (ResB.new' (by simp))
  clear h h' va vb hlt hcv
  go_enter Tryz.func108, Tryz.ntmps108
  go_wp2_with fail
  refine (HVa.out _ (hbx.out _ _ _)).mono ?_
  rintro e w0 ⟨rfl, hb0⟩
  have X1 := Lib.hid (hB1.out.to hb0)
  have X2 := Lib.hid (hB2.out.to hb0)
  have XR := Lib.hid (hRB.out.to hb0)
  have hbw0 := Lib.hid (below_of (hbx.out _ _ _) (hbx.out _ _ _).size hb0)
  clear hb0
  obtain ⟨z1, y1⟩ := X2.out
  go_wp2_with fail
  refine (HVb.out _ hbw0.out).mono ?_
  rintro e w1 ⟨rfl, hb1⟩
  have Y1 := Lib.hid (X1.out.to hb1)
  have Y2 := Lib.hid (X2.out.to hb1)
  have YR := Lib.hid (XR.out.to hb1)
  have hbw1 := Lib.hid (below_of hbw0.out hbw0.out.size hb1)
  clear hb1 z1 y1 X1 X2 XR
  obtain ⟨z0, y0⟩ := Y1.out
  obtain ⟨z1, y1⟩ := Y2.out
  go_wp2_with fail
  refine (HC.out _ hbw1.out).mono ?_
  rintro e w2 ⟨rfl, hb2⟩
  have Z1 := Lib.hid (Y1.out.to hb2)
  have Z2 := Lib.hid (Y2.out.to hb2)
  have ZR := Lib.hid (YR.out.to hb2)
  have hbw := Lib.hid (below_of hbw1.out hbw1.out.size hb2)
  clear hb2 z0 y0 z1 y1 Y1 Y2 YR
  obtain ⟨s0, s1, s2⟩ := ZR.out
  have hb := Lib.hid (hbw.out.setCell (p := ⟨w.heap.size + 1 + 1, 0, none⟩) (by show w.heap.size ≤ w.heap.size + 1 + 1; omega) (.slice none 0 0))
  go_wp2
  refine bodyPost_ret (v := .tuple #[.agg #[.slice none 0 0], .int .i64 7]) (by simp [results, Tryz.results108, go_sem, s1]) rfl ?_
  exact Ret.mk (NRes2.none_ hb.out)

set_option maxRecDepth 100000 in
theorem rsub_no (a b : List Int) (q r : LmP) (w : World) (h : RLm w w.heap.size a q) (h' : RLm w w.heap.size b r) (hv : (vN a && vN b) = false) :
    Calls Tryz.prog 108 #[natV a q, natV b r] w (Ret (NRes2 w [] 1)) := by
  have hbx : Hid (∀ o1 o2 o3 : Obj, Below w.heap.size w (((w.alloc o1).alloc o2).alloc o3)) := Lib.hid fun o1 o2 o3 => (((Below.refl _ _).alloc (Nat.le_refl _) o1).alloc (by simp) o2).alloc (by simp; omega) o3
  have HVa := Lib.hid (fun w' (hw : Below w.heap.size w w') => rvalid_any a q w' (h.to hw))
  have HVb := Lib.hid (fun w' (hw : Below w.heap.size w w') => rvalid_any b r w' (h'.to hw))
  obtain ⟨qa, qc⟩ := q
  obtain ⟨ra, rc⟩ := r
  have hB2 : Hid (Box1 (((w.alloc (.cells #[.slice qa a.length qc] 24)).alloc (.cells #[.slice ra b.length rc] 24)).alloc (.cells #[.slice none 0 0] 24)) (w.heap.size + 1) (.slice ra b.length rc)) :=
    Lib.hid (by have := Box1.new (w := w.alloc (.cells #[.slice qa a.length qc] 24)) (e := 24) (v := .slice ra b.length rc); rw [World.size_alloc] at this; exact this.to ((Below.refl _ _).alloc (Nat.le_refl _) _))
  have hRB : Hid (ResB (((w.alloc (.cells #[.slice qa a.length qc] 24)).alloc (.cells #[.slice ra b.length rc] 24)).alloc (.cells #[.slice none 0 0] 24)) (w.heap.size + 1 + 1) (.slice none 0 0)) :=
    Lib.hid (ResB.new' (by simp))
  clear h h'
  cases va : vN a
  · rw [va] at HVa
    clear hv va
    go_enter Tryz.func108, Tryz.ntmps108
    go_wp2_with fail
    refine (HVa.out _ (hbx.out _ _ _)).mono ?_
    rintro e w1 ⟨rfl, hb1⟩
    obtain ⟨s0, s1, s2⟩ := hRB.out.to hb1
    have hb := Lib.hid ((below_of (hbx.out _ _ _) (hbx.out _ _ _).size hb1).setCell (p := ⟨w.heap.size + 1 + 1, 0, none⟩) (by show w.heap.size ≤ w.heap.size + 1 + 1; omega) (.slice none 0 0))
    clear hb1
    go_wp2
    refine bodyPost_ret (v := .tuple #[.agg #[.slice none 0 0], .int .i64 1]) (by simp [results, Tryz.results108, go_sem, s1]) rfl ?_
    exact Ret.mk (NRes2.none_ hb.out)
  · have vb : vN b = false := by rw [va] at hv; simpa using hv
    rw [va] at HVa
    rw [vb] at HVb
    clear hv va vb
    go_enter Tryz.func108, Tryz.ntmps108
    go_wp2_with fail
    refine (HVa.out _ (hbx.out _ _ _)).mono ?_
    rintro e w1 ⟨rfl, hb1⟩
    have XR := Lib.hid (hRB.out.to hb1)
    obtain ⟨z1, y1⟩ := hB2.out.to hb1
    have hbw := Lib.hid (below_of (hbx.out _ _ _) (hbx.out _ _ _).size hb1)
    clear hb1
    go_wp2_with fail
    refine (HVb.out _ hbw.out).mono ?_
    rintro e w2 ⟨rfl, hb2⟩
    obtain ⟨s0, s1, s2⟩ := XR.out.to hb2
    have hb := Lib.hid ((below_of hbw.out hbw.out.size hb2).setCell (p := ⟨w.heap.size + 1 + 1, 0, none⟩) (by show w.heap.size ≤ w.heap.size + 1 + 1; omega) (.slice none 0 0))
    clear hb2 z1 y1
    go_wp2
    refine bodyPost_ret (v := .tuple #[.agg #[.slice none 0 0], .int .i64 1]) (by simp [results, Tryz.results108, go_sem, s1]) rfl ?_
    exact Ret.mk (NRes2.none_ hb.out)
theorem rsub_any (a b : List Int) (q r : LmP) (w : World) (h : RLm w w.heap.size a q) (h' : RLm w w.heap.size b r) (ha : Lim a) (hb : Lim b) :
    Calls Tryz.prog 108 #[natV a q, natV b r] w (Ret (NRes2 w (difV a b) (difE a b))) := by
  unfold difV difE
  by_cases hv : (vN a && vN b) = true
  · obtain ⟨va, vb⟩ := (Bool.and_eq_true _ _).mp hv
    rw [if_pos hv]
    by_cases hle : vl b ≤ vl a
    · rw [if_pos ⟨hv, hle⟩, if_pos hle]
      exact rsub_ok a b q r w h h' ha hb va vb hle
    · rw [if_neg (fun h => hle h.2), if_neg hle]
      exact rsub_low a b q r w h h' ha hb va vb (by omega)
  · rw [if_neg (fun h => hv h.1), if_neg hv]
    exact rsub_no a b q r w h h' (by simpa using hv)
end Go.Proofs.YtpoddmkimhkmoaaGreat

namespace Go.Proofs.YtpoddmkimhkmoaaGreat
open Go.RowKit Go.Sv

theorem LBlk.rowAt {w : World} {g : Nat} {l : List Int} (h : LBlk w g l) : RowAt w g l := ⟨h.lt, fun _ hk => h.cell hk, fun k => h.frozen k⟩
theorem mk_rowAt (n : Nat) (hn : n ≤ 1000) {x : Int} (hx : x = n) : ∃ O : Obj, (∀ w : World, (Instr.makeSlice 22 (.int .i64 x) (.int .i64 x)).run Tryz.prog w = .ok (.slice (some ⟨w.heap.size, 0, none⟩) n n) (w.alloc O)) ∧ ∀ w : World, RowAt (w.alloc O) w.heap.size (zer n) := by
  obtain ⟨O, h1, h2⟩ := mk_row n hn hx
  exact ⟨O, h1, fun w => (h2 w).rowAt⟩
def mulV (a b : List Int) : List Int := if (vN a && vN b) = true then cutV (vl a * vl b) else []
def mulE (a b : List Int) : Int := if (vN a && vN b) = true then cutE (vl a * vl b) else 1
/-- behind i rows -/
structure MulO (a b : List Int) (g : Nat) (w1 : World) (i : Nat) (o : List Int) (wr : World) : Prop where
  kn : i ≤ a.length
  len : o.length = a.length + b.length
  lo : Lim o
  ze : ∀ j, i + b.length ≤ j → gi o j = 0
  eq : vt o (a.length + b.length) = vt a i * vt b b.length
  row : RowAt wr g o
  bel : Below g w1 wr
/-- within row i, behind k limbs -/
structure MulI (a b : List Int) (g : Nat) (w1 : World) (i k : Nat) (o : List Int) (c : Int) (wr : World) : Prop where
  ki : i < a.length
  kn : k ≤ b.length
  c0 : 0 ≤ c
  c1 : c < 4294967296
  len : o.length = a.length + b.length
  lo : Lim o
  ze : ∀ j, i + b.length ≤ j → gi o j = 0
  eq : vt o (a.length + b.length) + c * Bp (i + k) = vt a i * vt b b.length + gi a i * vt b k * Bp i
  row : RowAt wr g o
  bel : Below g w1 wr
theorem MulO.start {a b : List Int} {w1 : World} {O : Obj} (h : RowAt (w1.alloc O) w1.heap.size (zer (a.length + b.length))) : MulO a b w1.heap.size w1 0 (zer (a.length + b.length)) (w1.alloc O) :=
  ⟨Nat.zero_le _, zer_len _, zer_lim _, fun j _ => gi_zer _ _, by rw [vt_zer]; simp [vt], h, (Below.refl _ _).alloc (Nat.le_refl _) _⟩
theorem MulO.enter {a b o : List Int} {g i : Nat} {w1 wr : World} (h : MulO a b g w1 i o wr) (hi : i < a.length) : MulI a b g w1 i 0 o 0 wr :=
  ⟨hi, Nat.zero_le _, Int.le_refl _, by decide, h.len, h.lo, h.ze, by rw [h.eq]; simp [vt], h.row, h.bel⟩
theorem MulI.to {a b o : List Int} {g i k : Nat} {c : Int} {w1 wr wr' : World} (h : MulI a b g w1 i k o c wr) (hb : Below wr.heap.size wr wr') : MulI a b g w1 i k o c wr' :=
  ⟨h.ki, h.kn, h.c0, h.c1, h.len, h.lo, h.ze, h.eq, h.row.to hb, h.bel.trans (hb.mono (Nat.le_of_lt h.row.lt))⟩
theorem MulI.step {a b o : List Int} {g i k : Nat} {c t : Int} {w1 wr : World} (h : MulI a b g w1 i k o c wr) (ha : Lim a) (hb : Lim b) (hk : k < b.length) (ht : gi a i * gi b k + gi o (i + k) + c = t) :
    MulI a b g w1 i (k + 1) (o.set (i + k) (t % 4294967296)) (t / 4294967296) (wr.setCell ⟨g, i + k, none⟩ (.int .u32 (t % 4294967296))) := by
  subst ht
  have x := ha.at i
  have y := hb.at k
  have z := h.lo.at (i + k)
  have hl := h.len
  have hi := h.ki
  obtain ⟨p0, p1, p2⟩ := mul_dig x.1 x.2 y.1 y.2 z.1 z.2 h.c0 h.c1
  have c0 := h.c0
  exact ⟨hi, hk, by omega, by omega, by rw [List.length_set]; exact hl, h.lo.set (by omega) (by omega), fun j hj => by rw [gi_set_ne (by omega)]; exact h.ze j hj,
    mul_step (by omega) hl.symm h.eq, h.row.set (by omega) _, h.bel.setCell (Nat.le_refl _) _⟩
theorem MulI.leave {a b o : List Int} {g i : Nat} {c : Int} {w1 wr : World} (h : MulI a b g w1 i b.length o c wr) :
    MulO a b g w1 (i + 1) (o.set (i + b.length) c) (wr.setCell ⟨g, i + b.length, none⟩ (.int .u32 c)) := by
  have hl := h.len
  have hi := h.ki
  exact ⟨hi, by rw [List.length_set]; exact hl, h.lo.set h.c0 h.c1, fun j hj => by rw [gi_set_ne (by omega)]; exact h.ze j (by omega),
    by rw [mul_row (by omega) hl.symm (h.ze _ (Nat.le_refl _)) h.eq, mul_next], h.row.set (by omega) _, h.bel.setCell (Nat.le_refl _) _⟩
theorem MulO.fin {a b o : List Int} {g : Nat} {w1 wr : World} (h : MulO a b g w1 a.length o wr) (ha : Lim a) (hb : Lim b) : norm o = lim (vl a * vl b) := by
  refine norm_lim h.lo ?_
  rw [h.len, h.eq, vl_vt ha, vl_vt hb, Int.natCast_mul]
theorem mul_wr {x y o c : Int} (x0 : 0 ≤ x ∧ x < 4294967296) (y0 : 0 ≤ y ∧ y < 4294967296) (o0 : 0 ≤ o ∧ o < 4294967296) (c0 : 0 ≤ c) (c1 : c < 4294967296) :
    IntKind.u64.wrap (x * y) = x * y ∧ IntKind.u64.wrap (x * y + o) = x * y + o ∧ IntKind.u64.wrap (x * y + o + c) = x * y + o + c ∧ IntKind.u64.wrap (c + o) = c + o ∧ IntKind.u64.wrap (c + o + x * y) = c + o + x * y := by
  obtain ⟨p0, p1, p2⟩ := mul_dig x0.1 x0.2 y0.1 y0.2 o0.1 o0.2 c0 c1
  generalize x * y = p at *
  simp only [IntKind.wrap, IntKind.bits, IntKind.signed]
  refine ⟨?_, ?_, ?_, ?_, ?_⟩ <;> simp <;> omega

set_option maxHeartbeats 1000000 in
set_option maxRecDepth 100000 in
theorem mul_ok (a b : List Int) (q r : LmP) (w : World) (h : RLm w w.heap.size a q) (h' : RLm w w.heap.size b r) (ha : Lim a) (hb : Lim b) (va : vN a = true) (vb : vN b = true) :
    Calls Tryz.prog 69 #[natV a q, natV b r] w (Ret (NRes2 w (cutV (vl a * vl b)) (cutE (vl a * vl b)))) := by
  obtain ⟨na, _⟩ := vN_can va
  obtain ⟨nb, _⟩ := vN_can vb
  have hbx : Hid (∀ o1 o2 o3 : Obj, Below w.heap.size w (((w.alloc o1).alloc o2).alloc o3)) := Lib.hid fun o1 o2 o3 => (((Below.refl _ _).alloc (Nat.le_refl _) o1).alloc (by simp) o2).alloc (by simp; omega) o3
  have HV := Lib.hid (fun w' (hw : Below w.heap.size w w') => valid2_any a b q r w' (h.to hw) (h'.to hw))
  rw [va, vb] at HV
  have Ha := Lib.hid (fun w' (hw : Below w.heap.size w w') => h.to hw)
  have Hb := Lib.hid (fun w' (hw : Below w.heap.size w w') => h'.to hw)
  obtain ⟨qa, qc⟩ := q
  obtain ⟨ra, rc⟩ := r
  have hB1 : Hid (Box1 (((w.alloc (.cells #[.slice qa a.length qc] 24)).alloc (.cells #[.slice ra b.length rc] 24)).alloc (.cells #[.slice none 0 0] 24)) w.heap.size (.slice qa a.length qc)) :=
    Lib.hid ((Box1.new.to ((Below.refl _ _).alloc (Nat.le_refl _) _)).to ((Below.refl _ _).alloc (Nat.le_refl _) _))
  have hB2 : Hid (Box1 (((w.alloc (.cells #[.slice qa a.length qc] 24)).alloc (.cells #[.slice ra b.length rc] 24)).alloc (.cells #[.slice none 0 0] 24)) (w.heap.size + 1) (.slice ra b.length rc)) :=
    Lib.hid (by have := Box1.new (w := w.alloc (.cells #[.slice qa a.length qc] 24)) (e := 24) (v := .slice ra b.length rc); rw [World.size_alloc] at this; exact this.to ((Below.refl _ _).alloc (Nat.le_refl _) _))
  have hRB : Hid (ResB (((w.alloc (.cells #[.slice qa a.length qc] 24)).alloc (.cells #[.slice ra b.length rc] 24)).alloc (.cells #[.slice none 0 0] 24)) (w.heap.size + 1 + 1) (.slice none 0 0)) :=
    Lib.hid (ResB.new' (by simp))
  obtain ⟨O, mk, BL⟩ := mk_rowAt (a.length + b.length) (by omega) (x := (a.length : Int) + (b.length : Int)) (by omega)
  replace BL := Lib.hid BL
  clear h h' va vb
  go_enter Tryz.func69, Tryz.ntmps69
  go_wp2_with fail
  refine (HV.out _ (hbx.out _ _ _)).mono ?_
  rintro e w1 ⟨rfl, hb1⟩
  have X1 := Lib.hid (hB1.out.to hb1)
  have X2 := Lib.hid (hB2.out.to hb1)
  have XR := Lib.hid (hRB.out.to hb1)
  have hbw := Lib.hid (below_of (hbx.out _ _ _) (hbx.out _ _ _).size hb1)
  have hz := XR.out.z
  clear hb1
  obtain ⟨z0, y0⟩ := X1.out
  obtain ⟨z1, y1⟩ := X2.out
  go_wp2
  go_loopw [7, 8, 9, 10, 11, 12, 29, 37] (fun _ _ _ _ _ _ s29 _ wr => ∃ (i : Nat) (o : List Int), s29 = .int .i64 i ∧ MulO a b w1.heap.size w1 i o wr) (fun _ _ _ _ _ _ s29 _ _ => a.length - (intOf s29).toNat)
  case atStart => exact ⟨0, zer (a.length + b.length), rfl, MulO.start (BL.out _)⟩
  case round =>
    obtain ⟨i, o, rfl, I⟩ := hrel
    clear mk z0 y0 z1 y1
    have hbr := Lib.hid (below_of hbw.out hbw.out.size I.bel)
    have hlo := I.len
    have hgl := I.row.lt
    have hkn := I.kn
    by_cases hi : i < a.length
    · have t1 : decide ((i : Int) < (a.length : Int)) = true := decide_eq_true (by omega)
      have t1' : decide (i < a.length) = true := decide_eq_true hi
      obtain ⟨ba, oa, rfl, hba, hca⟩ := (Ha.out wr hbr.out).arr (by omega)
      have da := hca i hi
      unfold u32v at da
      clear hca
      have xa := ha.at i
      obtain ⟨z1, y1⟩ := X2.out.to I.bel
      have i0 : (0 : Int) ≤ i := by omega
      have E := Lib.hid (I.enter hi)
      clear I hlo
      rename World => wo
      go_wp2
      go_loopw [9, 10, 11, 12, 37] (fun s9 _ _ _ s37 wi => ∃ (k : Nat) (o : List Int) (c : Int), s37 = .int .i64 k ∧ s9 = .int .u64 c ∧ MulI a b w1.heap.size w1 i k o c wi) (fun _ _ _ _ s37 _ => b.length - (intOf s37).toNat)
      case atStart => exact ⟨0, o, 0, rfl, rfl, E.out⟩
      case round =>
        clear E z1 y1 da hgl hbr
        obtain ⟨k, o, c, rfl, rfl, J⟩ := hrel
        have hbi := Lib.hid (below_of hbw.out hbw.out.size J.bel)
        have hlo := J.len
        have c0 := J.c0
        have c1 := J.c1
        have hgl := J.row.lt
        have hkb := J.kn
        by_cases hk : k < b.length
        · have t2 : decide ((k : Int) < (b.length : Int)) = true := decide_eq_true (by omega)
          have t2' : decide (k < b.length) = true := decide_eq_true hk
          obtain ⟨bb, ob, rfl, hbb, hcb⟩ := (Hb.out wr hbi.out).arr (by omega)
          have db := hcb k hk
          unfold u32v at db
          clear hcb
          have xb := hb.at k
          have xo := J.lo.at (i + k)
          have y2 := J.row.cell (i + k) (by omega)
          have f2 := J.row.free (i + k)
          obtain ⟨wr1, wr2, wr3, _, _⟩ := mul_wr xa xb xo c0 c1
          obtain ⟨p0, p1, p2⟩ := mul_dig xa.1 xa.2 xb.1 xb.2 xo.1 xo.2 c0 c1
          have k0 : (0 : Int) ≤ k := by omega
          have ik : i + k < a.length + b.length := by omega
          have ik' : (i : Int) + (k : Int) < (a.length : Int) + (b.length : Int) := by omega
          have S := Lib.hid (J.step ha hb hk rfl)
          clear J hlo hbi
          go_wp2
          go_roundw
          case rel => exact ⟨k + 1, _, _, by go_num, rfl, S.out⟩
          case measure => simp [intOf]; omega
        · obtain rfl : k = b.length := by omega
          have t2 : decide ((b.length : Int) < (b.length : Int)) = false := by rw [decide_eq_false_iff_not]; omega
          have y2 := J.row.cell (i + b.length) (by omega)
          have f2 := J.row.free (i + b.length)
          have ik : i + b.length < a.length + b.length := by omega
          have ik' : (i : Int) + (b.length : Int) < (a.length : Int) + (b.length : Int) := by omega
          obtain ⟨z1, y1⟩ := X2.out.to J.bel
          have S := Lib.hid J.leave
          clear J hlo hbi
          go_wp2
          go_roundw
          case rel => exact ⟨i + 1, _, by go_num, S.out⟩
          case measure => simp [intOf]; omega
    · obtain rfl : i = a.length := by omega
      have t1 : decide ((a.length : Int) < (a.length : Int)) = false := by rw [decide_eq_false_iff_not]; omega
      have hN := I.fin ha hb
      have HK := checked_any o ⟨some ⟨w1.heap.size, 0, none⟩, a.length + b.length⟩ wr (I.row.rlm hlo (Nat.le_refl _) (by unfold maxLen; omega)) (by omega)
      obtain ⟨e1, e2⟩ := chk_cut hN
      rw [hlo, e1, e2] at HK
      dsimp only at HK
      obtain ⟨m, hm⟩ : ∃ m, cutV (vl a * vl b) = m := ⟨_, rfl⟩
      obtain ⟨E, hE⟩ : ∃ E, cutE (vl a * vl b) = E := ⟨_, rfl⟩
      rw [hm, hE] at HK
      replace hm := Lib.hid hm
      replace hE := Lib.hid hE
      replace HK := Lib.hid HK
      have RB3 := Lib.hid (XR.out.to I.bel)
      clear e1 e2 I hlo hN
      go_wp2_with fail
      refine HK.out.mono ?_
      rintro e w4 ⟨_, rfl, q4, rfl, hr4, hf4, hb4⟩
      obtain ⟨s0, s1, s2⟩ := RB3.out.to hb4
      have hR := Lib.hid (nres2_put (E := E) hbr.out (show w.heap.size ≤ w.heap.size + 1 + 1 by omega) RB3.out.z hr4 hf4 hb4)
      clear hr4 hf4 hb4
      go_wp2
      refine bodyPost_ret (v := .tuple #[natV m q4, .int .i64 E]) (by simp [results, Tryz.results69, go_sem, s1]) rfl ?_
      rw [hm.out, hE.out]
      exact Ret.mk hR.out

set_option maxRecDepth 100000 in
theorem mul_no (a b : List Int) (q r : LmP) (w : World) (h : RLm w w.heap.size a q) (h' : RLm w w.heap.size b r) (hv : (vN a && vN b) = false) :
    Calls Tryz.prog 69 #[natV a q, natV b r] w (Ret (NRes2 w [] 1)) := by
  have hbx : Hid (∀ o1 o2 o3 : Obj, Below w.heap.size w (((w.alloc o1).alloc o2).alloc o3)) := Lib.hid fun o1 o2 o3 => (((Below.refl _ _).alloc (Nat.le_refl _) o1).alloc (by simp) o2).alloc (by simp; omega) o3
  have HV := Lib.hid (fun w' (hw : Below w.heap.size w w') => valid2_any a b q r w' (h.to hw) (h'.to hw))
  rw [hv] at HV
  obtain ⟨qa, qc⟩ := q
  obtain ⟨ra, rc⟩ := r
  have hRB : Hid (ResB (((w.alloc (.cells #[.slice qa a.length qc] 24)).alloc (.cells #[.slice ra b.length rc] 24)).alloc (.cells #[.slice none 0 0] 24)) (w.heap.size + 1 + 1) (.slice none 0 0)) :=
    Lib.hid (ResB.new' (by simp))
  clear h h' hv
  go_enter Tryz.func69, Tryz.ntmps69
  go_wp2_with fail
  refine (HV.out _ (hbx.out _ _ _)).mono ?_
  rintro e w1 ⟨rfl, hb1⟩
  obtain ⟨s0, s1, s2⟩ := hRB.out.to hb1
  have hb := Lib.hid ((below_of (hbx.out _ _ _) (hbx.out _ _ _).size hb1).setCell (p := ⟨w.heap.size + 1 + 1, 0, none⟩) (by show w.heap.size ≤ w.heap.size + 1 + 1; omega) (.slice none 0 0))
  clear hb1
  go_wp2
  refine bodyPost_ret (v := .tuple #[.agg #[.slice none 0 0], .int .i64 1]) (by simp [results, Tryz.results69, go_sem, s1]) rfl ?_
  exact Ret.mk (NRes2.none_ hb.out)
theorem mul_any (a b : List Int) (q r : LmP) (w : World) (h : RLm w w.heap.size a q) (h' : RLm w w.heap.size b r) (ha : Lim a) (hb : Lim b) :
    Calls Tryz.prog 69 #[natV a q, natV b r] w (Ret (NRes2 w (mulV a b) (mulE a b))) := by
  unfold mulV mulE
  by_cases hv : (vN a && vN b) = true
  · rw [if_pos hv, if_pos hv]
    obtain ⟨va, vb⟩ := (Bool.and_eq_true _ _).mp hv
    exact mul_ok a b q r w h h' ha hb va vb
  · rw [if_neg hv, if_neg hv]
    exact mul_no a b q r w h h' (by simpa using hv)

set_option maxHeartbeats 1000000 in
set_option maxRecDepth 100000 in
theorem rmul_ok (a b : List Int) (q r : LmP) (w : World) (h : RLm w w.heap.size a q) (h' : RLm w w.heap.size b r) (ha : Lim a) (hb : Lim b) (va : vN a = true) (vb : vN b = true) :
    Calls Tryz.prog 100 #[natV a q, natV b r] w (Ret (NRes2 w (cutV (vl a * vl b)) (cutE (vl a * vl b)))) := by
  obtain ⟨na, _⟩ := vN_can va
  obtain ⟨nb, _⟩ := vN_can vb
  have hbx : Hid (∀ o1 o2 o3 : Obj, Below w.heap.size w (((w.alloc o1).alloc o2).alloc o3)) := Lib.hid fun o1 o2 o3 => (((Below.refl _ _).alloc (Nat.le_refl _) o1).alloc (by simp) o2).alloc (by simp; omega) o3
  have HVa := Lib.hid (fun w' (hw : Below w.heap.size w w') => rvalid_any a q w' (h.to hw))
  have HVb := Lib.hid (fun w' (hw : Below w.heap.size w w') => rvalid_any b r w' (h'.to hw))
  rw [va] at HVa
  rw [vb] at HVb
  have HA := Lib.hid (fun w' (k : Nat) (hw : Below w.heap.size w w') => limb_any a q k w' (h.to hw) ha (by omega))
  have HB := Lib.hid (fun w' (k : Nat) (hw : Below w.heap.size w w') => limb_any b r k w' (h'.to hw) hb (by omega))
  simp only [Int.toNat_natCast] at HA HB
  obtain ⟨qa, qc⟩ := q
  obtain ⟨ra, rc⟩ := r
  have hB1 : Hid (Box1 (((w.alloc (.cells #[.slice qa a.length qc] 24)).alloc (.cells #[.slice ra b.length rc] 24)).alloc (.cells #[.slice none 0 0] 24)) w.heap.size (.slice qa a.length qc)) :=
    Lib.hid ((Box1.new.to ((Below.refl _ _).alloc (Nat.le_refl _) _)).to ((Below.refl _ _).alloc (Nat.le_refl _) _))
  have hB2 : Hid (Box1 (((w.alloc (.cells #[.slice qa a.length qc] 24)).alloc (.cells #[.slice ra b.length rc] 24)).alloc (.cells #[.slice none 0 0] 24)) (w.heap.size + 1) (.slice ra b.length rc)) :=
    Lib.hid (by have := Box1.new (w := w.alloc (.cells #[.slice qa a.length qc] 24)) (e := 24) (v := .slice ra b.length rc); rw [World.size_alloc] at this; exact this.to ((Below.refl _ _).alloc (Nat.le_refl _) _))
  have hRB : Hid (ResB (((w.alloc (.cells #[.slice qa a.length qc] 24)).alloc (.cells #[.slice ra b.length rc] 24)).alloc (.cells #[.slice none 0 0] 24)) (w.heap.size + 1 + 1) (.slice none 0 0)) :=
    Lib.hid (ResB.new' (by simp))
  obtain ⟨O, mk, BL⟩ := mk_rowAt (a.length + b.length) (by omega) (x := (a.length : Int) + (b.length : Int)) (by omega)
  replace BL := Lib.hid BL
  clear h h' va vb
  go_enter Tryz.func100, Tryz.ntmps100
  go_wp2_with fail
  refine (HVa.out _ (hbx.out _ _ _)).mono ?_
  rintro e w0 ⟨rfl, hb0⟩
  have W1 := Lib.hid (hB1.out.to hb0)
  have W2 := Lib.hid (hB2.out.to hb0)
  have WR := Lib.hid (hRB.out.to hb0)
  have hbw0 := Lib.hid (below_of (hbx.out _ _ _) (hbx.out _ _ _).size hb0)
  clear hb0
  obtain ⟨z1, y1⟩ := W2.out
  go_wp2_with fail
  refine (HVb.out _ hbw0.out).mono ?_
  rintro e w1 ⟨rfl, hb1⟩
  have X1 := Lib.hid (W1.out.to hb1)
  have X2 := Lib.hid (W2.out.to hb1)
  have XR := Lib.hid (WR.out.to hb1)
  have hbw := Lib.hid (below_of hbw0.out hbw0.out.size hb1)
  have hz := XR.out.z
  clear hb1 z1 y1 W1 W2 WR
  obtain ⟨z0, y0⟩ := X1.out
  obtain ⟨z1, y1⟩ := X2.out
  go_wp2
  go_loopw [7, 8, 9] (fun s7 _ _ wr => ∃ (i : Nat) (o : List Int), s7 = .int .i64 i ∧ MulO a b w1.heap.size w1 i o wr) (fun s7 _ _ _ => a.length - (intOf s7).toNat)
  case atStart => exact ⟨0, zer (a.length + b.length), rfl, MulO.start (BL.out _)⟩
  case round =>
    obtain ⟨i, o, rfl, I⟩ := hrel
    clear mk z0 y0 z1 y1
    have hbr := Lib.hid (below_of hbw.out hbw.out.size I.bel)
    have hlo := I.len
    have hgl := I.row.lt
    have hkn := I.kn
    obtain ⟨z0, y0⟩ := X1.out.low I.bel (by omega)
    by_cases hi : i < a.length
    · have t1 : decide ((i : Int) < (a.length : Int)) = true := decide_eq_true (by omega)
      have t1' : decide (i < a.length) = true := decide_eq_true hi
      have xa := ha.at i
      have i0 : (0 : Int) ≤ i := by omega
      have E := Lib.hid (I.enter hi)
      clear I hlo
      rename World => wo
      go_wp2
      go_loopw [8, 9] (fun s8 s9 wi => ∃ (k : Nat) (o : List Int) (c : Int), s9 = .int .i64 k ∧ s8 = .int .u64 c ∧ MulI a b w1.heap.size w1 i k o c wi) (fun _ s9 _ => b.length - (intOf s9).toNat)
      case atStart => exact ⟨0, o, 0, rfl, rfl, E.out⟩
      case round =>
        clear E z0 y0 hgl hbr
        obtain ⟨k, o, c, rfl, rfl, J⟩ := hrel
        have hbi := Lib.hid (below_of hbw.out hbw.out.size J.bel)
        have hlo := J.len
        have c0 := J.c0
        have c1 := J.c1
        have hgl := J.row.lt
        have hkb := J.kn
        have X1i := Lib.hid (X1.out.low J.bel (by omega))
        have X2i := Lib.hid (X2.out.low J.bel (by omega))
        obtain ⟨z0, y0⟩ := X1i.out
        obtain ⟨z1, y1⟩ := X2i.out
        by_cases hk : k < b.length
        · have t2 : decide ((k : Int) < (b.length : Int)) = true := decide_eq_true (by omega)
          have t2' : decide (k < b.length) = true := decide_eq_true hk
          have xb := hb.at k
          have xo := J.lo.at (i + k)
          have y2 := J.row.cell (i + k) (by omega)
          obtain ⟨wr1, _, _, wr4, wr5⟩ := mul_wr xa xb xo c0 c1
          have wr6 : IntKind.i64.wrap ((i : Int) + (k : Int)) = (i : Int) + (k : Int) := IntWalk.i64_in _ (by omega)
          have wr7 : IntKind.u64.wrap (gi o (i + k)) = gi o (i + k) := by simp [IntKind.wrap, IntKind.bits, IntKind.signed]; omega
          have tn : ((i : Int) + (k : Int)).toNat = i + k := by omega
          have k0 : (0 : Int) ≤ k := by omega
          have ik : i + k < a.length + b.length := by omega
          have ik0 : (0 : Int) ≤ (i : Int) + (k : Int) := by omega
          have ik' : (i : Int) + (k : Int) < (a.length : Int) + (b.length : Int) := by omega
          have hG : Hid (∀ x : GrowX wr, Below w.heap.size w (grow wr x)) := Lib.hid fun x => below_of hbi.out hbi.out.size (grow_is wr x)
          go_wp2_with fail
          refine wp_region_calm (by kernel_rfl) (by kernel_rfl) ?_
          repeat (go_big_quiet_step (((go_at_call 79; first | (with_reducible exact calm_b (HA.out _ _ (hG.out _))) | (with_reducible exact calm_b (HB.out _ _ (hG.out _)))))))
          refine wpQuiet_nil ?_
          intro w3 hw3
          have hg := grow_below hw3
          clear hw3
          have J3 := J.to hg
          have y3 := J3.row.cell (i + k) (by omega)
          have f3 := J3.row.free (i + k)
          have hgl3 := J3.row.lt
          have S := Lib.hid (J3.step ha hb hk (t := c + gi o (i + k) + gi a i * gi b k) (by omega))
          clear J J3 hlo hbi hg hG z0 y0 z1 y1 y2 wr1 wr4 wr5 wr6 wr7
          go_wp2
          go_roundw
          case rel => exact ⟨k + 1, _, _, by go_num, rfl, S.out⟩
          case measure => simp [intOf]; omega
        · obtain rfl : k = b.length := by omega
          have t2 : decide ((b.length : Int) < (b.length : Int)) = false := by rw [decide_eq_false_iff_not]; omega
          have y2 := J.row.cell (i + b.length) (by omega)
          have f2 := J.row.free (i + b.length)
          have ik : i + b.length < a.length + b.length := by omega
          have ik' : (i : Int) + (b.length : Int) < (a.length : Int) + (b.length : Int) := by omega
          have S := Lib.hid J.leave
          clear J hlo hbi
          go_wp2
          go_roundw
          case rel => exact ⟨i + 1, _, by go_num, S.out⟩
          case measure => simp [intOf]; omega
    · obtain rfl : i = a.length := by omega
      have t1 : decide ((a.length : Int) < (a.length : Int)) = false := by rw [decide_eq_false_iff_not]; omega
      have hN := I.fin ha hb
      have HT := rtrim_any o ⟨some ⟨w1.heap.size, 0, none⟩, a.length + b.length⟩ wr (I.row.rlm hlo (Nat.le_refl _) (by unfold maxLen; omega)) (by omega)
      rw [hN, hlo] at HT
      dsimp only at HT
      have hlen : (lim (vl a * vl b)).length ≤ 1000000 := by
        rw [← hN, norm_len]
        have := nzl_le o o.length
        omega
      have hcV : Hid (cutV (vl a * vl b) = if 128 < (lim (vl a * vl b)).length then [] else lim (vl a * vl b)) := Lib.hid rfl
      have hcE : Hid (cutE (vl a * vl b) = if 128 < (lim (vl a * vl b)).length then 3 else 0) := Lib.hid rfl
      obtain ⟨m, hm⟩ : ∃ m, lim (vl a * vl b) = m := ⟨_, rfl⟩
      rw [hm] at HT hlen hcV hcE
      replace HT := Lib.hid HT
      have YR' := Lib.hid (XR.out.to I.bel)
      clear hN I hlo
      go_wp2_with fail
      refine HT.out.mono ?_
      rintro e w2 ⟨_, rfl, q7, rfl, hr7, hf7, hb7⟩
      have HLg := Lib.hid (large_any m q7 w2 hlen)
      have YR2 := Lib.hid (YR'.out.to hb7)
      by_cases g : 128 < m.length
      · have eL : lrgV m q7 = .tuple #[.agg #[.slice none 0 0], .int .i64 3] := if_pos g
        rw [eL] at HLg
        rw [if_pos g] at hcV hcE
        have hb8 := Lib.hid (below_of hbr.out hbr.out.size hb7)
        clear eL g hr7 hf7 hb7
        go_wp2_with fail
        refine HLg.out.mono ?_
        rintro e w4 ⟨rfl, hb4⟩
        obtain ⟨s0, s1, s2⟩ := YR2.out.to hb4
        have hb := Lib.hid ((below_of hb8.out hb8.out.size hb4).setCell (p := ⟨w.heap.size + 1 + 1, 0, none⟩) (by show w.heap.size ≤ w.heap.size + 1 + 1; omega) (.slice none 0 0))
        clear hb4
        go_wp2
        refine bodyPost_ret (v := .tuple #[.agg #[.slice none 0 0], .int .i64 3]) (by simp [results, Tryz.results100, go_sem, s1]) rfl ?_
        rw [hcV.out, hcE.out]
        exact Ret.mk (NRes2.none_ hb.out)
      · have eL : lrgV m q7 = .tuple #[natV m q7, .int .i64 0] := if_neg g
        rw [eL] at HLg
        rw [if_neg g] at hcV hcE
        have hR7 := Lib.hid (fun w4 (hb4 : Below w2.heap.size w2 w4) => nres2_put (E := 0) hbr.out (show w.heap.size ≤ w.heap.size + 1 + 1 by omega) YR'.out.z (hr7.to hb4) hf7 (below_of hb7 hb7.size hb4))
        clear eL g hr7 hf7 hb7
        go_wp2_with fail
        refine HLg.out.mono ?_
        rintro e w4 ⟨rfl, hb4⟩
        obtain ⟨s0, s1, s2⟩ := YR2.out.to hb4
        have hR := Lib.hid (hR7.out w4 hb4)
        clear hb4
        go_wp2
        refine bodyPost_ret (v := .tuple #[natV m q7, .int .i64 0]) (by simp [results, Tryz.results100, go_sem, s1]) rfl ?_
        rw [hcV.out, hcE.out]
        exact Ret.mk hR.out


set_option maxRecDepth 100000 in
theorem rmul_no (a b : List Int) (q r : LmP) (w : World) (h : RLm w w.heap.size a q) (h' : RLm w w.heap.size b r) (hv : (vN a && vN b) = false) :
    Calls Tryz.prog 100 #[natV a q, natV b r] w (Ret (NRes2 w [] 1)) := by
  have hbx : Hid (∀ o1 o2 o3 : Obj, Below w.heap.size w (((w.alloc o1).alloc o2).alloc o3)) := Lib.hid fun o1 o2 o3 => (((Below.refl _ _).alloc (Nat.le_refl _) o1).alloc (by simp) o2).alloc (by simp; omega) o3
  have HVa := Lib.hid (fun w' (hw : Below w.heap.size w w') => rvalid_any a q w' (h.to hw))
  have HVb := Lib.hid (fun w' (hw : Below w.heap.size w w') => rvalid_any b r w' (h'.to hw))
  obtain ⟨qa, qc⟩ := q
  obtain ⟨ra, rc⟩ := r
  have hB2 : Hid (Box1 (((w.alloc (.cells #[.slice qa a.length qc] 24)).alloc (.cells #[.slice ra b.length rc] 24)).alloc (.cells #[.slice none 0 0] 24)) (w.heap.size + 1) (.slice ra b.length rc)) :=
    Lib.hid (by have := Box1.new (w := w.alloc (.cells #[.slice qa a.length qc] 24)) (e := 24) (v := .slice ra b.length rc); rw [World.size_alloc] at this; exact this.to ((Below.refl _ _).alloc (Nat.le_refl _) _))
  have hRB : Hid (ResB (((w.alloc (.cells #[.slice qa a.length qc] 24)).alloc (.cells #[.slice ra b.length rc] 24)).alloc (.cells #[.slice none 0 0] 24)) (w.heap.size + 1 + 1) (.slice none 0 0)) :=
    Lib.hid (ResB.new' (by simp))
  clear h h'
  cases va : vN a
  · rw [va] at HVa
    clear hv va
    go_enter Tryz.func100, Tryz.ntmps100
    go_wp2_with fail
    refine (HVa.out _ (hbx.out _ _ _)).mono ?_
    rintro e w1 ⟨rfl, hb1⟩
    obtain ⟨s0, s1, s2⟩ := hRB.out.to hb1
    have hb := Lib.hid ((below_of (hbx.out _ _ _) (hbx.out _ _ _).size hb1).setCell (p := ⟨w.heap.size + 1 + 1, 0, none⟩) (by show w.heap.size ≤ w.heap.size + 1 + 1; omega) (.slice none 0 0))
    clear hb1
    go_wp2
    refine bodyPost_ret (v := .tuple #[.agg #[.slice none 0 0], .int .i64 1]) (by simp [results, Tryz.results100, go_sem, s1]) rfl ?_
    exact Ret.mk (NRes2.none_ hb.out)
  · have vb : vN b = false := by rw [va] at hv; simpa using hv
    rw [va] at HVa
    rw [vb] at HVb
    clear hv va vb
    go_enter Tryz.func100, Tryz.ntmps100
    go_wp2_with fail
    refine (HVa.out _ (hbx.out _ _ _)).mono ?_
    rintro e w1 ⟨rfl, hb1⟩
    have XR := Lib.hid (hRB.out.to hb1)
    obtain ⟨z1, y1⟩ := hB2.out.to hb1
    have hbw := Lib.hid (below_of (hbx.out _ _ _) (hbx.out _ _ _).size hb1)
    clear hb1
    go_wp2_with fail
    refine (HVb.out _ hbw.out).mono ?_
    rintro e w2 ⟨rfl, hb2⟩
    obtain ⟨s0, s1, s2⟩ := XR.out.to hb2
    have hb := Lib.hid ((below_of hbw.out hbw.out.size hb2).setCell (p := ⟨w.heap.size + 1 + 1, 0, none⟩) (by show w.heap.size ≤ w.heap.size + 1 + 1; omega) (.slice none 0 0))
    clear hb2 z1 y1
    go_wp2
    refine bodyPost_ret (v := .tuple #[.agg #[.slice none 0 0], .int .i64 1]) (by simp [results, Tryz.results100, go_sem, s1]) rfl ?_
    exact Ret.mk (NRes2.none_ hb.out)
theorem rmul_any (a b : List Int) (q r : LmP) (w : World) (h : RLm w w.heap.size a q) (h' : RLm w w.heap.size b r) (ha : Lim a) (hb : Lim b) :
    Calls Tryz.prog 100 #[natV a q, natV b r] w (Ret (NRes2 w (mulV a b) (mulE a b))) := by
  unfold mulV mulE
  by_cases hv : (vN a && vN b) = true
  · rw [if_pos hv, if_pos hv]
    obtain ⟨va, vb⟩ := (Bool.and_eq_true _ _).mp hv
    exact rmul_ok a b q r w h h' ha hb va vb
  · rw [if_neg hv, if_neg hv]
    exact rmul_no a b q r w h h' (by simpa using hv)
end Go.Proofs.YtpoddmkimhkmoaaGreat
