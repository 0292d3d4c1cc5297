/-
  CONTRACTS of power.within, fractions, check.
  Conditions: those that each theorem names.
-/
import Derived.Test.YtpoddmkimhkmoaaGreatPwC
import Derived.Test.YtpoddmkimhkmoaaGreatPb2
import Derived.Test.YtpoddmkimhkmoaaGreatPb4
import Derived.Deep.RegionHeld3
namespace Go.Proofs.YtpoddmkimhkmoaaGreat
open Go.RowKit Go.Sv Go.Pw
/-- numbers that are as they are written -/
structure Nm (l : List Int) : Prop where
  li : Lim l
  ca : Sv.Can l
theorem vR_nm {n d : List Int} (ln : Lim n) (ld : Lim d) (h : vR n d = true) : Nm n ∧ Nm d :=
  ⟨⟨ln, (vN_can (vR_pos h).1).2⟩, ⟨ld, (vN_can (vR_pos h).2.1).2⟩⟩
set_option maxHeartbeats 2000000 in
set_option maxRecDepth 100000 in
theorem within_any (w : World) (n d : List Int) (q r : LmP) (hn : RLm w w.heap.size n q) (hd : RLm w w.heap.size d r) (nn : Nm n) (nd : Nm d) :
    Calls Tryz.prog 66 #[ratV n q d r] w (fun e w' => e = .returned (.bool (decide (cmpL n d ≤ 0))) ∧ Below w.heap.size w w') := by
  have S := Lib.hid (natArg (natArg (Fm.init w) hd) hn)
  have HC := Lib.hid (fun q r w' (h1 : RLm w' w'.heap.size n q) (h2 : RLm w' w'.heap.size d r) => cmp_any n d q r w' h1 h2 nn.li nd.li nn.ca nd.ca)
  obtain ⟨V, hV⟩ : ∃ V, cmpL n d = V := ⟨_, rfl⟩
  rw [hV] at HC
  rw [hV]
  clear hV nn nd
  obtain ⟨qa, qc⟩ := q
  obtain ⟨ra, rc⟩ := r
  replace S := Lib.hid (S.out.box 26 [.slice qa n.length qc, .slice ra d.length rc])
  clear hn hd
  go_enter Tryz.func66, Tryz.ntmps66
  go_wp2_with fail
  refine (HC.out ⟨qa, qc⟩ ⟨ra, rc⟩ _ S.out.r0 S.out.r1).mono ?_
  rintro e w1 ⟨rfl, hb⟩
  replace S := Lib.hid (S.out.call hb)
  clear hb
  go_wp2
  go_ret
  exact ⟨rfl, S.out.bel⟩
/-- fractions in a row -/
structure RFr (w : World) (B : Nat) (A : Option Addr) (n : Nat) (fn fd : Nat → List Int) (Q R : Nat → LmP) : Prop where
  arr : ArrN w B 2 A n (fun k i => if i = 0 then numC (fn k) (Q k) else numC (fd k) (R k))
  num : ∀ k, k < n → RLm w B (fn k) (Q k)
  den : ∀ k, k < n → RLm w B (fd k) (R k)
theorem RFr.to {w w' : World} {A : Option Addr} {n : Nat} {fn fd : Nat → List Int} {Q R : Nat → LmP} (h : RFr w w.heap.size A n fn fd Q R) (hb : Below w.heap.size w w') : RFr w' w'.heap.size A n fn fd Q R :=
  ⟨(h.arr.below hb).more hb.size, fun k hk => (h.num k hk).to hb, fun k hk => (h.den k hk).to hb⟩
def pOk (n d : List Int) : Prop := cmpL n d ≤ 0 ∧ cmpL d (lim 1000) ≤ 0
def bOk (n d : List Int) : Prop := cmpL n d ≤ 0 ∧ nbits (vl d) ≤ 32
open Classical in
noncomputable def frE (n m : Nat) (fn fd gn gd : Nat → List Int) : Int :=
  if (∃ k, k < n ∧ vR (fn k) (fd k) = false) ∨ (∃ k, k < m ∧ vR (gn k) (gd k) = false) then 1
  else if (∃ k, k < n ∧ ¬ pOk (fn k) (fd k)) ∨ (∃ k, k < m ∧ ¬ bOk (gn k) (gd k)) then 7 else 0
section
variable {n m k : Nat} {fn fd gn gd : Nat → List Int}
theorem frE_1a (hk : k < n) (h : vR (fn k) (fd k) = false) : frE n m fn fd gn gd = 1 := if_pos (.inl ⟨k, hk, h⟩)
theorem frE_1b (hk : k < m) (h : vR (gn k) (gd k) = false) : frE n m fn fd gn gd = 1 := if_pos (.inr ⟨k, hk, h⟩)
theorem fr_no (h1 : ∀ k, k < n → vR (fn k) (fd k) = true) (h2 : ∀ k, k < m → vR (gn k) (gd k) = true) : ¬ ((∃ k, k < n ∧ vR (fn k) (fd k) = false) ∨ (∃ k, k < m ∧ vR (gn k) (gd k) = false)) := by
  rintro (⟨k, hk, h⟩ | ⟨k, hk, h⟩)
  · rw [h1 k hk] at h; cases h
  · rw [h2 k hk] at h; cases h
theorem frE_7a (h1 : ∀ k, k < n → vR (fn k) (fd k) = true) (h2 : ∀ k, k < m → vR (gn k) (gd k) = true) (hk : k < n) (h : ¬ pOk (fn k) (fd k)) : frE n m fn fd gn gd = 7 := by
  unfold frE; rw [if_neg (fr_no h1 h2), if_pos (.inl ⟨k, hk, h⟩)]
theorem frE_7b (h1 : ∀ k, k < n → vR (fn k) (fd k) = true) (h2 : ∀ k, k < m → vR (gn k) (gd k) = true) (hk : k < m) (h : ¬ bOk (gn k) (gd k)) : frE n m fn fd gn gd = 7 := by
  unfold frE; rw [if_neg (fr_no h1 h2), if_pos (.inr ⟨k, hk, h⟩)]
theorem frE_0 (h1 : ∀ k, k < n → vR (fn k) (fd k) = true) (h2 : ∀ k, k < m → vR (gn k) (gd k) = true) (h3 : ∀ k, k < n → pOk (fn k) (fd k)) (h4 : ∀ k, k < m → bOk (gn k) (gd k)) : frE n m fn fd gn gd = 0 := by
  unfold frE
  rw [if_neg (fr_no h1 h2), if_neg]
  rintro (⟨k, hk, h⟩ | ⟨k, hk, h⟩)
  · exact h (h3 k hk)
  · exact h (h4 k hk)
end
set_option maxHeartbeats 4000000 in
set_option maxRecDepth 100000 in
theorem fractions_two (w : World) (ba oa c n : Nat) (fn fd : Nat → List Int) (Q R : Nat → LmP) (bb ob d m : Nat) (gn gd : Nat → List Int) (P T : Nat → LmP)
    (h : RFr w w.heap.size (some ⟨ba, oa, none⟩) n fn fd Q R) (h' : RFr w w.heap.size (some ⟨bb, ob, none⟩) m gn gd P T) (lf : ∀ k, k < n → Lim (fn k) ∧ Lim (fd k)) (lg : ∀ k, k < m → Lim (gn k) ∧ Lim (gd k)) (hn : n ≤ 1000) (hm : m ≤ 1000) :
    Calls Tryz.prog 44 #[.slice (some ⟨ba, oa, none⟩) n c, .slice (some ⟨bb, ob, none⟩) m d] w (fun e w' => e = .returned (.int .i64 (frE n m fn fd gn gd)) ∧ Below w.heap.size w w') := by
  have hb0 := Lib.hid ((Below.refl w.heap.size w).alloc (Nat.le_refl _) (.cells #[.slice (some ⟨ba, oa, none⟩) n c, .slice (some ⟨bb, ob, none⟩) m d] 73))
  have hw0 := Lib.hid (Whole.new w 73 #[.slice (some ⟨ba, oa, none⟩) n c, .slice (some ⟨bb, ob, none⟩) m d])
  have h0 := Lib.hid h
  have h1 := Lib.hid h'
  replace lf := Lib.hid lf
  replace lg := Lib.hid lg
  clear h h'
  go_enter Tryz.func44, Tryz.ntmps44
  go_wp2_with fail
  generalize w.alloc (.cells #[.slice (some ⟨ba, oa, none⟩) n c, .slice (some ⟨bb, ob, none⟩) m d] 73) = w0 at hb0 hw0 ⊢
  have h2 := Lib.hid (h0.out.to hb0.out)
  have h3 := Lib.hid (h1.out.to hb0.out)
  clear h0 h1
  go_loopw [17] (fun i wr => ∃ k : Int, (k = 0 ∨ k = 1 ∨ k = 2) ∧ i = .int .i64 k ∧ Hid (1 ≤ k → ∀ j, j < n → vR (fn j) (fd j) = true) ∧ Hid (2 ≤ k → ∀ j, j < m → vR (gn j) (gd j) = true) ∧ Hid (Below w0.heap.size w0 wr)) (fun i _ => 2 - (intOf i).toNat)
  case atStart => exact ⟨0, .inl rfl, rfl, Lib.hid (fun h => by omega), Lib.hid (fun h => by omega), Lib.hid (Below.refl _ _)⟩
  case round =>
    rename World => wo
    obtain ⟨k, hk, rfl, hA, hB, hbel⟩ := hrel
    have z := hw0.out.lt
    have y0 : wo.cell? ⟨w.heap.size, 0, none⟩ = some (.slice (some ⟨ba, oa, none⟩) n c) := (hbel.out.cell (p := ⟨w.heap.size, 0, none⟩) z).trans (hw0.out.cell 0)
    have y1 : wo.cell? ⟨w.heap.size, 1, none⟩ = some (.slice (some ⟨bb, ob, none⟩) m d) := (hbel.out.cell (p := ⟨w.heap.size, 1, none⟩) z).trans (hw0.out.cell 1)
    replace z := Nat.lt_of_lt_of_le z hbel.out.size
    rcases hk with rfl | rfl | rfl
    · skip
      have q0 := Lib.hid (h2.out.to hbel.out)
      have hbw := Lib.hid (hb0.out.trans (hbel.out.mono hb0.out.size))
      go_wp2_with fail
      go_loopw [23] (fun i wr => ∃ k : Nat, k ≤ n ∧ i = .int .i64 (k : Int) ∧ Hid (∀ j, j < k → vR (fn j) (fd j) = true) ∧ Hid (Below wo.heap.size wo wr)) (fun i _ => n - (intOf i).toNat)
      case atStart => exact ⟨0, Nat.zero_le _, rfl, Lib.hid (fun j hj => by omega), Lib.hid (Below.refl _ _)⟩
      case round =>
        clear y0 y1 z
        obtain ⟨k, hk, rfl, hall, hbl⟩ := hrel
        by_cases hlt : k < n
        · have hd : decide ((k : Int) < (n : Int)) = true := decide_eq_true (by omega)
          have q1 := Lib.hid (q0.out.to hbl.out)
          obtain ⟨bb, oo, hAe, hlb, hc⟩ := q1.out.arr (by omega)
          injection hAe with hAe
          injection hAe with hAe1 hAe2
          subst hAe1 hAe2
          have d0 := hc k hlt 0 (by omega)
          have d1 := hc k hlt 1 (by omega)
          simp only [numC, if_pos, Nat.add_zero, Nat.one_ne_zero, if_neg, not_false_eq_true] at d0 d1
          have n0 := q1.out.num k hlt
          have n1 := q1.out.den k hlt
          have HV := Lib.hid (fun q r w' (h1 : RLm w' w'.heap.size (fn k) q) (h2 : RLm w' w'.heap.size (fd k) r) => validR_any w' (fn k) q h1 (lf.out k hlt).1 (fd k) r h2 (lf.out k hlt).2)
          obtain ⟨⟨qa, qc⟩, hQ⟩ : ∃ p, Q k = p := ⟨_, rfl⟩
          obtain ⟨⟨ra, rc⟩, hR⟩ : ∃ p, R k = p := ⟨_, rfl⟩
          rw [hQ] at d0 n0
          rw [hR] at d1 n1
          obtain ⟨bv, hbv⟩ : ∃ v, vR (fn k) (fd k) = v := ⟨_, rfl⟩
          rw [hbv] at HV
          have E1 : Hid (bv = false → frE n m fn fd gn gd = 1) := Lib.hid (fun e => frE_1a hlt (hbv.trans e))
          replace hbv := Lib.hid hbv
          obtain ⟨N, hN⟩ : ∃ v, fn k = v := ⟨_, rfl⟩
          obtain ⟨D, hD⟩ : ∃ v, fd k = v := ⟨_, rfl⟩
          rw [hN] at d0 n0 HV
          rw [hD] at d1 n1 HV
          clear hQ hR hN hD hc
          have b2 := Lib.hid ((Below.refl wr.heap.size wr).alloc (Nat.le_refl _) (.cells #[.slice qa N.length qc, .slice ra D.length rc] 26))
          replace n0 := Lib.hid (n0.to b2.out)
          replace n1 := Lib.hid (n1.to b2.out)
          go_wp2_with fail
          refine (HV.out ⟨qa, qc⟩ ⟨ra, rc⟩ _ n0.out n1.out).mono ?_
          rintro e w5 ⟨rfl, hb5⟩
          have b5 := Lib.hid ((hbl.out.trans (b2.out.mono hbl.out.size)).trans (hb5.mono (Nat.le_trans hbl.out.size b2.out.size)))
          clear hb5 n0 n1 d0 d1 HV hlb b2
          cases hbb : bv with
          | false =>
            have E2 := Lib.hid (E1.out hbb)
            have hF := Lib.hid (hbw.out.trans (b5.out.mono hbw.out.size))
            clear hbb
            go_wp2
            go_ret
            exact ⟨by rw [E2.out]; rfl, hF.out⟩
          | true =>
            rw [hbb] at hbv
            clear hbb E1
            go_wp2
            go_roundw
            case rel => exact ⟨k + 1, by omega, by go_num, Lib.hid (fun j hj => by rcases Nat.lt_succ_iff_lt_or_eq.1 hj with h | h; exact hall.out j h; rw [h]; exact hbv.out), b5⟩
            case measure => simp [intOf]; omega
        · have hd : decide ((k : Int) < (n : Int)) = false := by rw [decide_eq_false_iff_not]; omega
          obtain rfl : n = k := by omega
          have hF := Lib.hid (hbel.out.trans (hbl.out.mono hbel.out.size))
          have hall2 := Lib.hid hall.out
          clear hall q0
          go_wp2
          go_roundw
          case rel => exact ⟨1, .inr (.inl rfl), rfl, Lib.hid (fun _ => hall2.out), Lib.hid (fun h => by omega), hF⟩
          case measure => simp [intOf]
    · skip
      have q0 := Lib.hid (h3.out.to hbel.out)
      have hbw := Lib.hid (hb0.out.trans (hbel.out.mono hb0.out.size))
      go_wp2_with fail
      go_loopw [23] (fun i wr => ∃ k : Nat, k ≤ m ∧ i = .int .i64 (k : Int) ∧ Hid (∀ j, j < k → vR (gn j) (gd j) = true) ∧ Hid (Below wo.heap.size wo wr)) (fun i _ => m - (intOf i).toNat)
      case atStart => exact ⟨0, Nat.zero_le _, rfl, Lib.hid (fun j hj => by omega), Lib.hid (Below.refl _ _)⟩
      case round =>
        clear y0 y1 z
        obtain ⟨k, hk, rfl, hall, hbl⟩ := hrel
        by_cases hlt : k < m
        · have hd : decide ((k : Int) < (m : Int)) = true := decide_eq_true (by omega)
          have q1 := Lib.hid (q0.out.to hbl.out)
          obtain ⟨bb, oo, hAe, hlb, hc⟩ := q1.out.arr (by omega)
          injection hAe with hAe
          injection hAe with hAe1 hAe2
          subst hAe1 hAe2
          have d0 := hc k hlt 0 (by omega)
          have d1 := hc k hlt 1 (by omega)
          simp only [numC, if_pos, Nat.add_zero, Nat.one_ne_zero, if_neg, not_false_eq_true] at d0 d1
          have n0 := q1.out.num k hlt
          have n1 := q1.out.den k hlt
          have HV := Lib.hid (fun q r w' (h1 : RLm w' w'.heap.size (gn k) q) (h2 : RLm w' w'.heap.size (gd k) r) => validR_any w' (gn k) q h1 (lg.out k hlt).1 (gd k) r h2 (lg.out k hlt).2)
          obtain ⟨⟨qa, qc⟩, hQ⟩ : ∃ p, P k = p := ⟨_, rfl⟩
          obtain ⟨⟨ra, rc⟩, hR⟩ : ∃ p, T k = p := ⟨_, rfl⟩
          rw [hQ] at d0 n0
          rw [hR] at d1 n1
          obtain ⟨bv, hbv⟩ : ∃ v, vR (gn k) (gd k) = v := ⟨_, rfl⟩
          rw [hbv] at HV
          have E1 : Hid (bv = false → frE n m fn fd gn gd = 1) := Lib.hid (fun e => frE_1b hlt (hbv.trans e))
          replace hbv := Lib.hid hbv
          obtain ⟨N, hN⟩ : ∃ v, gn k = v := ⟨_, rfl⟩
          obtain ⟨D, hD⟩ : ∃ v, gd k = v := ⟨_, rfl⟩
          rw [hN] at d0 n0 HV
          rw [hD] at d1 n1 HV
          clear hQ hR hN hD hc
          have b2 := Lib.hid ((Below.refl wr.heap.size wr).alloc (Nat.le_refl _) (.cells #[.slice qa N.length qc, .slice ra D.length rc] 26))
          replace n0 := Lib.hid (n0.to b2.out)
          replace n1 := Lib.hid (n1.to b2.out)
          go_wp2_with fail
          refine (HV.out ⟨qa, qc⟩ ⟨ra, rc⟩ _ n0.out n1.out).mono ?_
          rintro e w5 ⟨rfl, hb5⟩
          have b5 := Lib.hid ((hbl.out.trans (b2.out.mono hbl.out.size)).trans (hb5.mono (Nat.le_trans hbl.out.size b2.out.size)))
          clear hb5 n0 n1 d0 d1 HV hlb b2
          cases hbb : bv with
          | false =>
            have E2 := Lib.hid (E1.out hbb)
            have hF := Lib.hid (hbw.out.trans (b5.out.mono hbw.out.size))
            clear hbb
            go_wp2
            go_ret
            exact ⟨by rw [E2.out]; rfl, hF.out⟩
          | true =>
            rw [hbb] at hbv
            clear hbb E1
            go_wp2
            go_roundw
            case rel => exact ⟨k + 1, by omega, by go_num, Lib.hid (fun j hj => by rcases Nat.lt_succ_iff_lt_or_eq.1 hj with h | h; exact hall.out j h; rw [h]; exact hbv.out), b5⟩
            case measure => simp [intOf]; omega
        · have hd : decide ((k : Int) < (m : Int)) = false := by rw [decide_eq_false_iff_not]; omega
          obtain rfl : m = k := by omega
          have hF := Lib.hid (hbel.out.trans (hbl.out.mono hbel.out.size))
          have hall2 := Lib.hid hall.out
          clear hall q0
          go_wp2
          go_roundw
          case rel => exact ⟨2, .inr (.inr rfl), rfl, Lib.hid (fun _ => hA.out (by omega)), Lib.hid (fun _ => hall2.out), hF⟩
          case measure => simp [intOf]
    · skip
      have v1 := Lib.hid (hA.out (by omega))
      have v2 := Lib.hid (hB.out (by omega))
      have hF := Lib.hid (frE_0 (n := n) (m := m) (fn := fn) (fd := fd) (gn := gn) (gd := gd) v1.out v2.out)
      have h4 := Lib.hid (h2.out.to hbel.out)
      have h5 := Lib.hid (h3.out.to hbel.out)
      have hbw := Lib.hid (hb0.out.trans (hbel.out.mono hb0.out.size))
      clear z y0 y1 h2 h3 hA hB hw0 hb0 hbel
      go_wp2_with fail
      go_loopw [34] (fun i wr => ∃ k : Nat, k ≤ n ∧ i = .int .i64 (k : Int) ∧ Hid (∀ j, j < k → pOk (fn j) (fd j)) ∧ Hid (Below wo.heap.size wo wr)) (fun i _ => n - (intOf i).toNat)
      case atStart => exact ⟨0, Nat.zero_le _, rfl, Lib.hid (fun j hj => by omega), Lib.hid (Below.refl _ _)⟩
      case round =>
        obtain ⟨k, hk, rfl, hall, hbl⟩ := hrel
        by_cases hlt : k < n
        · have hd : decide ((k : Int) < (n : Int)) = true := decide_eq_true (by omega)
          have q1 := Lib.hid (h4.out.to hbl.out)
          obtain ⟨bx, ox, hAe, hlb, hc⟩ := q1.out.arr (by omega)
          injection hAe with hAe
          injection hAe with hAe1 hAe2
          subst hAe1 hAe2
          have d0 := hc k hlt 0 (by omega)
          have d1 := hc k hlt 1 (by omega)
          simp only [numC, if_pos, Nat.add_zero, Nat.one_ne_zero, if_neg, not_false_eq_true] at d0 d1
          have n0 := q1.out.num k hlt
          have n1 := q1.out.den k hlt
          obtain ⟨m0, m1⟩ := vR_nm (lf.out k hlt).1 (lf.out k hlt).2 (v1.out k hlt)
          have vd := (vR_pos (v1.out k hlt)).2.1
          have E7 : Hid (¬ pOk (fn k) (fd k) → frE n m fn fd gn gd = 7) := Lib.hid (fun e => frE_7a v1.out v2.out hlt e)
          have eK : pOk (fn k) (fd k) ↔ pOk (fn k) (fd k) := Iff.rfl
          unfold pOk at E7
          rw [show pOk (fn k) (fd k) = (cmpL (fn k) (fd k) ≤ 0 ∧ cmpL (fd k) (lim 1000) ≤ 0) from rfl] at eK
          obtain ⟨⟨qa, qc⟩, hQ⟩ : ∃ p, Q k = p := ⟨_, rfl⟩
          obtain ⟨⟨ra, rc⟩, hR⟩ : ∃ p, R k = p := ⟨_, rfl⟩
          rw [hQ] at d0 n0
          rw [hR] at d1 n1
          have hnx : Hid ((cmpL (fn k) (fd k) ≤ 0 ∧ cmpL (fd k) (lim 1000) ≤ 0) → ∀ j, j < k + 1 → pOk (fn j) (fd j)) := Lib.hid (fun e j hj => by
            rcases Nat.lt_succ_iff_lt_or_eq.1 hj with h | h
            · exact hall.out j h
            · rw [h]; exact e)
          obtain ⟨N, hN⟩ : ∃ v, fn k = v := ⟨_, rfl⟩
          obtain ⟨D, hD⟩ : ∃ v, fd k = v := ⟨_, rfl⟩
          rw [hN] at d0 n0 m0
          rw [hD] at d1 n1 m1 vd
          rw [hN, hD] at hnx E7
          clear hQ hR hN hD hc eK
          have S := Lib.hid (natArg (natArg (Fm.init wr) n1) n0)
          replace S := Lib.hid (S.out.box 26 [.slice qa N.length qc, .slice ra D.length rc])
          have HW := Lib.hid (fun q r w' (h1 : RLm w' w'.heap.size N q) (h2 : RLm w' w'.heap.size D r) => within_any w' N D q r h1 h2 m0 m1)
          have HO := Lib.hid (fun w' => of_any 1000 w' (by omega) (by omega))
          rw [show (1000 : Int).toNat = 1000 from rfl] at HO
          have HC := Lib.hid (fun q r w' (h1 : RLm w' w'.heap.size D q) (h2 : RLm w' w'.heap.size (lim 1000) r) => cmp_any D (lim 1000) q r w' h1 h2 m1.li (lim_lim _) m1.ca (lim_can _))
          obtain ⟨cv, hcv⟩ : ∃ v, cmpL D (lim 1000) = v := ⟨_, rfl⟩
          rw [hcv] at HC hnx E7
          clear hcv
          obtain ⟨K, hK⟩ : ∃ v, lim 1000 = v := ⟨_, rfl⟩
          rw [hK] at HO HC
          clear hK
          obtain ⟨wv, hwv⟩ : ∃ v, cmpL N D = v := ⟨_, rfl⟩
          rw [hwv] at HW hnx E7
          clear n0 n1 hwv m0 m1 vd
          go_wp2_with fail
          generalize wr.alloc (.cells #[.slice qa N.length qc, .slice ra D.length rc] 26) = W3 at S ⊢
          obtain ⟨⟨z0, f0, y0, y0a, -⟩, -⟩ := S.out.facts
          have hX := Lib.hid (fun x : GrowX W3 => calm_b (HW.out ⟨qa, qc⟩ ⟨ra, rc⟩ _ (S.out.r0.to (grow_is W3 x)) (S.out.r1.to (grow_is W3 x))))
          by_cases c1 : wv ≤ 0
          · rw [decide_eq_true c1] at HW hX
            by_cases c2 : cv ≤ 0
            · have e2 := (show decide (0 < cv) = false by rw [decide_eq_false_iff_not]; omega)
              clear hX z0 f0 y0 y0a
              replace S := Lib.hid S.out.drew
              obtain ⟨⟨z0, f0, y0, y0a, -⟩, -⟩ := S.out.facts
              go_region_held3 (fun w' => w'.cell? ⟨wr.heap.size, 0, none⟩ = some (.slice qa N.length qc) ∧ w'.cell? ⟨wr.heap.size, 1, none⟩ = some (.slice ra D.length rc)) (go_keep)
                (first
                  | ((with_reducible refine (HW.out ⟨qa, qc⟩ ⟨ra, rc⟩ _ (natOld S.out (by simp)) (natOld S.out (by simp))).mono ?_); rintro e wx ⟨rfl, hb⟩; replace S := Lib.hid (S.out.call hb); clear hb z0 f0 y0 y0a; obtain ⟨⟨z0, f0, y0, y0a, -⟩, -⟩ := S.out.facts)
                  | ((with_reducible refine (HO.out _).mono ?_); rintro e wx ⟨_, rfl, qx, rfl, hr, hf, hb⟩; replace S := Lib.hid (natRes S.out hr hf hb); clear hr hf hb z0 f0 y0 y0a; obtain ⟨⟨z0, f0, y0, y0a, -⟩, -⟩ := S.out.facts)
                  | ((with_reducible refine (HC.out ⟨ra, rc⟩ _ _ (natOld S.out (by simp)) (natOld S.out (by simp))).mono ?_); rintro e wx ⟨rfl, hb⟩; replace S := Lib.hid (S.out.call hb); clear hb z0 f0 y0 y0a; obtain ⟨⟨z0, f0, y0, y0a, -⟩, -⟩ := S.out.facts))
              all_goals
                have hG := Lib.hid (hnx.out ⟨by omega, by omega⟩)
                have hF := Lib.hid (hbl.out.trans (S.out.bel.mono hbl.out.size))
                clear c1 c2 E7 hnx
                go_wp2
                go_roundw
                case rel => exact ⟨k + 1, by omega, by go_num, hG, hF⟩
                case measure => simp [intOf]; omega
            · have e2 := decide_eq_true (show 0 < cv by omega)
              clear hX z0 f0 y0 y0a
              replace S := Lib.hid S.out.drew
              obtain ⟨⟨z0, f0, y0, y0a, -⟩, -⟩ := S.out.facts
              go_region_held3 (fun w' => w'.cell? ⟨wr.heap.size, 0, none⟩ = some (.slice qa N.length qc) ∧ w'.cell? ⟨wr.heap.size, 1, none⟩ = some (.slice ra D.length rc)) (go_keep)
                (first
                  | ((with_reducible refine (HW.out ⟨qa, qc⟩ ⟨ra, rc⟩ _ (natOld S.out (by simp)) (natOld S.out (by simp))).mono ?_); rintro e wx ⟨rfl, hb⟩; replace S := Lib.hid (S.out.call hb); clear hb z0 f0 y0 y0a; obtain ⟨⟨z0, f0, y0, y0a, -⟩, -⟩ := S.out.facts)
                  | ((with_reducible refine (HO.out _).mono ?_); rintro e wx ⟨_, rfl, qx, rfl, hr, hf, hb⟩; replace S := Lib.hid (natRes S.out hr hf hb); clear hr hf hb z0 f0 y0 y0a; obtain ⟨⟨z0, f0, y0, y0a, -⟩, -⟩ := S.out.facts)
                  | ((with_reducible refine (HC.out ⟨ra, rc⟩ _ _ (natOld S.out (by simp)) (natOld S.out (by simp))).mono ?_); rintro e wx ⟨rfl, hb⟩; replace S := Lib.hid (S.out.call hb); clear hb z0 f0 y0 y0a; obtain ⟨⟨z0, f0, y0, y0a, -⟩, -⟩ := S.out.facts))
              all_goals
                have hG := Lib.hid (E7.out (fun h => by have := h.2; omega))
                have hF := Lib.hid (hbw.out.trans ((hbl.out.trans (S.out.bel.mono hbl.out.size)).mono hbw.out.size))
                clear c1 c2 E7 hnx
                go_wp2
                go_ret
                exact ⟨by rw [hG.out]; rfl, hF.out⟩
          · rw [decide_eq_false c1] at HW hX
            have hG := Lib.hid (E7.out (fun h => c1 h.1))
            clear c1
            refine wp_region_calm (by kernel_rfl) (by kernel_rfl) ?_
            repeat (go_big_quiet_step (first | (go_at_call 66; with_reducible exact hX.out _)))
            refine wpQuiet_nil ?_
            intro w4 hw4
            have hb4 := grow_below hw4
            clear hw4 hX z0 f0 y0 y0a
            replace S := Lib.hid (S.out.call hb4)
            clear hb4
            have hF := Lib.hid (hbw.out.trans ((hbl.out.trans (S.out.bel.mono hbl.out.size)).mono hbw.out.size))
            clear E7 hnx
            go_wp2
            go_ret
            exact ⟨by rw [hG.out]; rfl, hF.out⟩
        · have hd : decide ((k : Int) < (n : Int)) = false := by rw [decide_eq_false_iff_not]; omega
          obtain rfl : n = k := by omega
          have hall2 := Lib.hid hall.out
          have hF2 := Lib.hid (hF.out hall2.out)
          have hbw2 := Lib.hid (hbw.out.trans (hbl.out.mono hbw.out.size))
          clear hall hF
          rename World => wo2
          have h6 := Lib.hid (h5.out.to hbl.out)
          clear h5 hbl hbw
          have hbw := hbw2
          clear hbw2
          go_wp2_with fail
          go_loopw [51] (fun i wr => ∃ k : Nat, k ≤ m ∧ i = .int .i64 (k : Int) ∧ Hid (∀ j, j < k → bOk (gn j) (gd j)) ∧ Hid (Below wo2.heap.size wo2 wr)) (fun i _ => m - (intOf i).toNat)
          case atStart => exact ⟨0, Nat.zero_le _, rfl, Lib.hid (fun j hj => by omega), Lib.hid (Below.refl _ _)⟩
          case round =>
            obtain ⟨k, hk, rfl, hall, hbl⟩ := hrel
            by_cases hlt : k < m
            · have hd : decide ((k : Int) < (m : Int)) = true := decide_eq_true (by omega)
              have q1 := Lib.hid (h6.out.to hbl.out)
              obtain ⟨bx, ox, hAe, hlb, hc⟩ := q1.out.arr (by omega)
              injection hAe with hAe
              injection hAe with hAe1 hAe2
              subst hAe1 hAe2
              have d0 := hc k hlt 0 (by omega)
              have d1 := hc k hlt 1 (by omega)
              simp only [numC, if_pos, Nat.add_zero, Nat.one_ne_zero, if_neg, not_false_eq_true] at d0 d1
              have n0 := q1.out.num k hlt
              have n1 := q1.out.den k hlt
              obtain ⟨m0, m1⟩ := vR_nm (lg.out k hlt).1 (lg.out k hlt).2 (v2.out k hlt)
              have vd := (vR_pos (v2.out k hlt)).2.1
              have E7 : Hid (¬ bOk (gn k) (gd k) → frE n m fn fd gn gd = 7) := Lib.hid (fun e => frE_7b v1.out v2.out hlt e)
              have eK : bOk (gn k) (gd k) ↔ bOk (gn k) (gd k) := Iff.rfl
              unfold bOk at E7
              rw [show bOk (gn k) (gd k) = (cmpL (gn k) (gd k) ≤ 0 ∧ nbits (vl (gd k)) ≤ 32) from rfl] at eK
              obtain ⟨⟨qa, qc⟩, hQ⟩ : ∃ p, P k = p := ⟨_, rfl⟩
              obtain ⟨⟨ra, rc⟩, hR⟩ : ∃ p, T k = p := ⟨_, rfl⟩
              rw [hQ] at d0 n0
              rw [hR] at d1 n1
              have hnx : Hid ((cmpL (gn k) (gd k) ≤ 0 ∧ nbits (vl (gd k)) ≤ 32) → ∀ j, j < k + 1 → bOk (gn j) (gd j)) := Lib.hid (fun e j hj => by
                rcases Nat.lt_succ_iff_lt_or_eq.1 hj with h | h
                · exact hall.out j h
                · rw [h]; exact e)
              obtain ⟨N, hN⟩ : ∃ v, gn k = v := ⟨_, rfl⟩
              obtain ⟨D, hD⟩ : ∃ v, gd k = v := ⟨_, rfl⟩
              rw [hN] at d0 n0 m0
              rw [hD] at d1 n1 m1 vd
              rw [hN, hD] at hnx E7
              clear hQ hR hN hD hc eK
              have S := Lib.hid (natArg (natArg (Fm.init wr) n1) n0)
              replace S := Lib.hid (S.out.box 26 [.slice qa N.length qc, .slice ra D.length rc])
              have HW := Lib.hid (fun q r w' (h1 : RLm w' w'.heap.size N q) (h2 : RLm w' w'.heap.size D r) => within_any w' N D q r h1 h2 m0 m1)
              have HC := Lib.hid (fun q w' (h1 : RLm w' w'.heap.size D q) => bits_any D q w' h1 m1.li m1.ca (by have := (vN_can vd).1; omega))
              obtain ⟨cv, hcv⟩ : ∃ v, nbits (vl D) = v := ⟨_, rfl⟩
              rw [hcv] at HC hnx E7
              clear hcv
              obtain ⟨wv, hwv⟩ : ∃ v, cmpL N D = v := ⟨_, rfl⟩
              rw [hwv] at HW hnx E7
              clear n0 n1 hwv m0 m1 vd
              go_wp2_with fail
              generalize wr.alloc (.cells #[.slice qa N.length qc, .slice ra D.length rc] 26) = W3 at S ⊢
              obtain ⟨⟨z0, f0, y0, y0a, -⟩, -⟩ := S.out.facts
              have hX := Lib.hid (fun x : GrowX W3 => calm_b (HW.out ⟨qa, qc⟩ ⟨ra, rc⟩ _ (S.out.r0.to (grow_is W3 x)) (S.out.r1.to (grow_is W3 x))))
              by_cases c1 : wv ≤ 0
              · rw [decide_eq_true c1] at HW hX
                by_cases c2 : cv ≤ 32
                · have e2 := (show decide (32 < (cv : Int)) = false by rw [decide_eq_false_iff_not]; omega)
                  refine (HW.out ⟨qa, qc⟩ ⟨ra, rc⟩ _ S.out.r0 S.out.r1).mono ?_
                  rintro e wx ⟨rfl, hb⟩
                  replace S := Lib.hid (S.out.call hb)
                  clear hb hX z0 f0 y0 y0a
                  obtain ⟨⟨z0, f0, y0, y0a, -⟩, -⟩ := S.out.facts
                  go_wp2_with fail
                  refine (HC.out ⟨ra, rc⟩ _ S.out.r1).mono ?_
                  rintro e wy ⟨rfl, hb⟩
                  replace S := Lib.hid (S.out.call hb)
                  clear hb z0 f0 y0 y0a
                  all_goals
                    have hG := Lib.hid (hnx.out ⟨by omega, by omega⟩)
                    have hF := Lib.hid (hbl.out.trans (S.out.bel.mono hbl.out.size))
                    clear c1 c2 E7 hnx
                    go_wp2
                    go_roundw
                    case rel => exact ⟨k + 1, by omega, by go_num, hG, hF⟩
                    case measure => simp [intOf]; omega
                · have e2 := decide_eq_true (show 32 < (cv : Int) by omega)
                  refine (HW.out ⟨qa, qc⟩ ⟨ra, rc⟩ _ S.out.r0 S.out.r1).mono ?_
                  rintro e wx ⟨rfl, hb⟩
                  replace S := Lib.hid (S.out.call hb)
                  clear hb hX z0 f0 y0 y0a
                  obtain ⟨⟨z0, f0, y0, y0a, -⟩, -⟩ := S.out.facts
                  go_wp2_with fail
                  refine (HC.out ⟨ra, rc⟩ _ S.out.r1).mono ?_
                  rintro e wy ⟨rfl, hb⟩
                  replace S := Lib.hid (S.out.call hb)
                  clear hb z0 f0 y0 y0a
                  all_goals
                    have hG := Lib.hid (E7.out (fun h => by have := h.2; omega))
                    have hF := Lib.hid (hbw.out.trans ((hbl.out.trans (S.out.bel.mono hbl.out.size)).mono hbw.out.size))
                    clear c1 c2 E7 hnx
                    go_wp2
                    go_ret
                    exact ⟨by rw [hG.out]; rfl, hF.out⟩
              · rw [decide_eq_false c1] at HW hX
                have hG := Lib.hid (E7.out (fun h => c1 h.1))
                clear c1
                refine (HW.out ⟨qa, qc⟩ ⟨ra, rc⟩ _ S.out.r0 S.out.r1).mono ?_
                rintro e wx ⟨rfl, hb⟩
                replace S := Lib.hid (S.out.call hb)
                clear hb hX z0 f0 y0 y0a
                obtain ⟨⟨z0, f0, y0, y0a, -⟩, -⟩ := S.out.facts
                have hF := Lib.hid (hbw.out.trans ((hbl.out.trans (S.out.bel.mono hbl.out.size)).mono hbw.out.size))
                clear E7 hnx
                go_wp2
                go_ret
                exact ⟨by rw [hG.out]; rfl, hF.out⟩
            · have hd : decide ((k : Int) < (m : Int)) = false := by rw [decide_eq_false_iff_not]; omega
              obtain rfl : m = k := by omega
              have hG := Lib.hid (hF2.out hall.out)
              have hF := Lib.hid (hbw.out.trans (hbl.out.mono hbw.out.size))
              clear hall
              go_wp2
              go_ret
              exact ⟨by rw [hG.out]; rfl, hF.out⟩
set_option maxHeartbeats 4000000 in
set_option maxRecDepth 100000 in
theorem fractions_one (w : World) (ba oa c n : Nat) (fn fd : Nat → List Int) (Q R : Nat → LmP) 
    (h : RFr w w.heap.size (some ⟨ba, oa, none⟩) n fn fd Q R) (lf : ∀ k, k < n → Lim (fn k) ∧ Lim (fd k)) (hn : n ≤ 1000) :
    Calls Tryz.prog 44 #[.slice (some ⟨ba, oa, none⟩) n c, .slice none 0 0] w (fun e w' => e = .returned (.int .i64 (frE n 0 fn fd fn fd)) ∧ Below w.heap.size w w') := by
  have hb0 := Lib.hid ((Below.refl w.heap.size w).alloc (Nat.le_refl _) (.cells #[.slice (some ⟨ba, oa, none⟩) n c, .slice none 0 0] 73))
  have hw0 := Lib.hid (Whole.new w 73 #[.slice (some ⟨ba, oa, none⟩) n c, .slice none 0 0])
  have h0 := Lib.hid h
  replace lf := Lib.hid lf
  clear h
  go_enter Tryz.func44, Tryz.ntmps44
  go_wp2_with fail
  generalize w.alloc (.cells #[.slice (some ⟨ba, oa, none⟩) n c, .slice none 0 0] 73) = w0 at hb0 hw0 ⊢
  have h2 := Lib.hid (h0.out.to hb0.out)
  clear h0
  go_loopw [17] (fun i wr => ∃ k : Int, (k = 0 ∨ k = 1 ∨ k = 2) ∧ i = .int .i64 k ∧ Hid (1 ≤ k → ∀ j, j < n → vR (fn j) (fd j) = true) ∧ Hid (2 ≤ k → ∀ j, j < 0 → vR (fn j) (fd j) = true) ∧ Hid (Below w0.heap.size w0 wr)) (fun i _ => 2 - (intOf i).toNat)
  case atStart => exact ⟨0, .inl rfl, rfl, Lib.hid (fun h => by omega), Lib.hid (fun h => by omega), Lib.hid (Below.refl _ _)⟩
  case round =>
    rename World => wo
    obtain ⟨k, hk, rfl, hA, hB, hbel⟩ := hrel
    have z := hw0.out.lt
    have y0 : wo.cell? ⟨w.heap.size, 0, none⟩ = some (.slice (some ⟨ba, oa, none⟩) n c) := (hbel.out.cell (p := ⟨w.heap.size, 0, none⟩) z).trans (hw0.out.cell 0)
    have y1 : wo.cell? ⟨w.heap.size, 1, none⟩ = some (.slice none 0 0) := (hbel.out.cell (p := ⟨w.heap.size, 1, none⟩) z).trans (hw0.out.cell 1)
    replace z := Nat.lt_of_lt_of_le z hbel.out.size
    rcases hk with rfl | rfl | rfl
    · skip
      have q0 := Lib.hid (h2.out.to hbel.out)
      have hbw := Lib.hid (hb0.out.trans (hbel.out.mono hb0.out.size))
      go_wp2_with fail
      go_loopw [23] (fun i wr => ∃ k : Nat, k ≤ n ∧ i = .int .i64 (k : Int) ∧ Hid (∀ j, j < k → vR (fn j) (fd j) = true) ∧ Hid (Below wo.heap.size wo wr)) (fun i _ => n - (intOf i).toNat)
      case atStart => exact ⟨0, Nat.zero_le _, rfl, Lib.hid (fun j hj => by omega), Lib.hid (Below.refl _ _)⟩
      case round =>
        clear y0 y1 z
        obtain ⟨k, hk, rfl, hall, hbl⟩ := hrel
        by_cases hlt : k < n
        · have hd : decide ((k : Int) < (n : Int)) = true := decide_eq_true (by omega)
          have q1 := Lib.hid (q0.out.to hbl.out)
          obtain ⟨bb, oo, hAe, hlb, hc⟩ := q1.out.arr (by omega)
          injection hAe with hAe
          injection hAe with hAe1 hAe2
          subst hAe1 hAe2
          have d0 := hc k hlt 0 (by omega)
          have d1 := hc k hlt 1 (by omega)
          simp only [numC, if_pos, Nat.add_zero, Nat.one_ne_zero, if_neg, not_false_eq_true] at d0 d1
          have n0 := q1.out.num k hlt
          have n1 := q1.out.den k hlt
          have HV := Lib.hid (fun q r w' (h1 : RLm w' w'.heap.size (fn k) q) (h2 : RLm w' w'.heap.size (fd k) r) => validR_any w' (fn k) q h1 (lf.out k hlt).1 (fd k) r h2 (lf.out k hlt).2)
          obtain ⟨⟨qa, qc⟩, hQ⟩ : ∃ p, Q k = p := ⟨_, rfl⟩
          obtain ⟨⟨ra, rc⟩, hR⟩ : ∃ p, R k = p := ⟨_, rfl⟩
          rw [hQ] at d0 n0
          rw [hR] at d1 n1
          obtain ⟨bv, hbv⟩ : ∃ v, vR (fn k) (fd k) = v := ⟨_, rfl⟩
          rw [hbv] at HV
          have E1 : Hid (bv = false → frE n 0 fn fd fn fd = 1) := Lib.hid (fun e => frE_1a hlt (hbv.trans e))
          replace hbv := Lib.hid hbv
          obtain ⟨N, hN⟩ : ∃ v, fn k = v := ⟨_, rfl⟩
          obtain ⟨D, hD⟩ : ∃ v, fd k = v := ⟨_, rfl⟩
          rw [hN] at d0 n0 HV
          rw [hD] at d1 n1 HV
          clear hQ hR hN hD hc
          have b2 := Lib.hid ((Below.refl wr.heap.size wr).alloc (Nat.le_refl _) (.cells #[.slice qa N.length qc, .slice ra D.length rc] 26))
          replace n0 := Lib.hid (n0.to b2.out)
          replace n1 := Lib.hid (n1.to b2.out)
          go_wp2_with fail
          refine (HV.out ⟨qa, qc⟩ ⟨ra, rc⟩ _ n0.out n1.out).mono ?_
          rintro e w5 ⟨rfl, hb5⟩
          have b5 := Lib.hid ((hbl.out.trans (b2.out.mono hbl.out.size)).trans (hb5.mono (Nat.le_trans hbl.out.size b2.out.size)))
          clear hb5 n0 n1 d0 d1 HV hlb b2
          cases hbb : bv with
          | false =>
            have E2 := Lib.hid (E1.out hbb)
            have hF := Lib.hid (hbw.out.trans (b5.out.mono hbw.out.size))
            clear hbb
            go_wp2
            go_ret
            exact ⟨by rw [E2.out]; rfl, hF.out⟩
          | true =>
            rw [hbb] at hbv
            clear hbb E1
            go_wp2
            go_roundw
            case rel => exact ⟨k + 1, by omega, by go_num, Lib.hid (fun j hj => by rcases Nat.lt_succ_iff_lt_or_eq.1 hj with h | h; exact hall.out j h; rw [h]; exact hbv.out), b5⟩
            case measure => simp [intOf]; omega
        · have hd : decide ((k : Int) < (n : Int)) = false := by rw [decide_eq_false_iff_not]; omega
          obtain rfl : n = k := by omega
          have hF := Lib.hid (hbel.out.trans (hbl.out.mono hbel.out.size))
          have hall2 := Lib.hid hall.out
          clear hall q0
          go_wp2
          go_roundw
          case rel => exact ⟨1, .inr (.inl rfl), rfl, Lib.hid (fun _ => hall2.out), Lib.hid (fun h => by omega), hF⟩
          case measure => simp [intOf]
    · skip
      have hbw := Lib.hid (hb0.out.trans (hbel.out.mono hb0.out.size))
      go_wp2_with fail
      go_loopw [23] (fun i wr => i = .int .i64 0 ∧ Hid (Below wo.heap.size wo wr)) (fun i _ => 0)
      case atStart => exact ⟨rfl, Lib.hid (Below.refl _ _)⟩
      case round =>
        clear y0 y1 z
        obtain ⟨rfl, hbl⟩ := hrel
        have hF := Lib.hid (hbel.out.trans (hbl.out.mono hbel.out.size))
        go_wp2
        go_roundw
        case rel => exact ⟨2, .inr (.inr rfl), rfl, Lib.hid (fun _ => hA.out (by omega)), Lib.hid (fun _ j hj => by omega), hF⟩
        case measure => simp [intOf]
    · skip
      have v1 := Lib.hid (hA.out (by omega))
      have v2 := Lib.hid (hB.out (by omega))
      have hF := Lib.hid (frE_0 (n := n) (m := 0) (fn := fn) (fd := fd) (gn := fn) (gd := fd) v1.out v2.out)
      have h4 := Lib.hid (h2.out.to hbel.out)
      have hbw := Lib.hid (hb0.out.trans (hbel.out.mono hb0.out.size))
      clear z y0 y1 h2 hA hB hw0 hb0 hbel
      go_wp2_with fail
      go_loopw [34] (fun i wr => ∃ k : Nat, k ≤ n ∧ i = .int .i64 (k : Int) ∧ Hid (∀ j, j < k → pOk (fn j) (fd j)) ∧ Hid (Below wo.heap.size wo wr)) (fun i _ => n - (intOf i).toNat)
      case atStart => exact ⟨0, Nat.zero_le _, rfl, Lib.hid (fun j hj => by omega), Lib.hid (Below.refl _ _)⟩
      case round =>
        obtain ⟨k, hk, rfl, hall, hbl⟩ := hrel
        by_cases hlt : k < n
        · have hd : decide ((k : Int) < (n : Int)) = true := decide_eq_true (by omega)
          have q1 := Lib.hid (h4.out.to hbl.out)
          obtain ⟨bx, ox, hAe, hlb, hc⟩ := q1.out.arr (by omega)
          injection hAe with hAe
          injection hAe with hAe1 hAe2
          subst hAe1 hAe2
          have d0 := hc k hlt 0 (by omega)
          have d1 := hc k hlt 1 (by omega)
          simp only [numC, if_pos, Nat.add_zero, Nat.one_ne_zero, if_neg, not_false_eq_true] at d0 d1
          have n0 := q1.out.num k hlt
          have n1 := q1.out.den k hlt
          obtain ⟨m0, m1⟩ := vR_nm (lf.out k hlt).1 (lf.out k hlt).2 (v1.out k hlt)
          have vd := (vR_pos (v1.out k hlt)).2.1
          have E7 : Hid (¬ pOk (fn k) (fd k) → frE n 0 fn fd fn fd = 7) := Lib.hid (fun e => frE_7a v1.out v2.out hlt e)
          have eK : pOk (fn k) (fd k) ↔ pOk (fn k) (fd k) := Iff.rfl
          unfold pOk at E7
          rw [show pOk (fn k) (fd k) = (cmpL (fn k) (fd k) ≤ 0 ∧ cmpL (fd k) (lim 1000) ≤ 0) from rfl] at eK
          obtain ⟨⟨qa, qc⟩, hQ⟩ : ∃ p, Q k = p := ⟨_, rfl⟩
          obtain ⟨⟨ra, rc⟩, hR⟩ : ∃ p, R k = p := ⟨_, rfl⟩
          rw [hQ] at d0 n0
          rw [hR] at d1 n1
          have hnx : Hid ((cmpL (fn k) (fd k) ≤ 0 ∧ cmpL (fd k) (lim 1000) ≤ 0) → ∀ j, j < k + 1 → pOk (fn j) (fd j)) := Lib.hid (fun e j hj => by
            rcases Nat.lt_succ_iff_lt_or_eq.1 hj with h | h
            · exact hall.out j h
            · rw [h]; exact e)
          obtain ⟨N, hN⟩ : ∃ v, fn k = v := ⟨_, rfl⟩
          obtain ⟨D, hD⟩ : ∃ v, fd k = v := ⟨_, rfl⟩
          rw [hN] at d0 n0 m0
          rw [hD] at d1 n1 m1 vd
          rw [hN, hD] at hnx E7
          clear hQ hR hN hD hc eK
          have S := Lib.hid (natArg (natArg (Fm.init wr) n1) n0)
          replace S := Lib.hid (S.out.box 26 [.slice qa N.length qc, .slice ra D.length rc])
          have HW := Lib.hid (fun q r w' (h1 : RLm w' w'.heap.size N q) (h2 : RLm w' w'.heap.size D r) => within_any w' N D q r h1 h2 m0 m1)
          have HO := Lib.hid (fun w' => of_any 1000 w' (by omega) (by omega))
          rw [show (1000 : Int).toNat = 1000 from rfl] at HO
          have HC := Lib.hid (fun q r w' (h1 : RLm w' w'.heap.size D q) (h2 : RLm w' w'.heap.size (lim 1000) r) => cmp_any D (lim 1000) q r w' h1 h2 m1.li (lim_lim _) m1.ca (lim_can _))
          obtain ⟨cv, hcv⟩ : ∃ v, cmpL D (lim 1000) = v := ⟨_, rfl⟩
          rw [hcv] at HC hnx E7
          clear hcv
          obtain ⟨K, hK⟩ : ∃ v, lim 1000 = v := ⟨_, rfl⟩
          rw [hK] at HO HC
          clear hK
          obtain ⟨wv, hwv⟩ : ∃ v, cmpL N D = v := ⟨_, rfl⟩
          rw [hwv] at HW hnx E7
          clear n0 n1 hwv m0 m1 vd
          go_wp2_with fail
          generalize wr.alloc (.cells #[.slice qa N.length qc, .slice ra D.length rc] 26) = W3 at S ⊢
          obtain ⟨⟨z0, f0, y0, y0a, -⟩, -⟩ := S.out.facts
          have hX := Lib.hid (fun x : GrowX W3 => calm_b (HW.out ⟨qa, qc⟩ ⟨ra, rc⟩ _ (S.out.r0.to (grow_is W3 x)) (S.out.r1.to (grow_is W3 x))))
          by_cases c1 : wv ≤ 0
          · rw [decide_eq_true c1] at HW hX
            by_cases c2 : cv ≤ 0
            · have e2 := (show decide (0 < cv) = false by rw [decide_eq_false_iff_not]; omega)
              clear hX z0 f0 y0 y0a
              replace S := Lib.hid S.out.drew
              obtain ⟨⟨z0, f0, y0, y0a, -⟩, -⟩ := S.out.facts
              go_region_held3 (fun w' => w'.cell? ⟨wr.heap.size, 0, none⟩ = some (.slice qa N.length qc) ∧ w'.cell? ⟨wr.heap.size, 1, none⟩ = some (.slice ra D.length rc)) (go_keep)
                (first
                  | ((with_reducible refine (HW.out ⟨qa, qc⟩ ⟨ra, rc⟩ _ (natOld S.out (by simp)) (natOld S.out (by simp))).mono ?_); rintro e wx ⟨rfl, hb⟩; replace S := Lib.hid (S.out.call hb); clear hb z0 f0 y0 y0a; obtain ⟨⟨z0, f0, y0, y0a, -⟩, -⟩ := S.out.facts)
                  | ((with_reducible refine (HO.out _).mono ?_); rintro e wx ⟨_, rfl, qx, rfl, hr, hf, hb⟩; replace S := Lib.hid (natRes S.out hr hf hb); clear hr hf hb z0 f0 y0 y0a; obtain ⟨⟨z0, f0, y0, y0a, -⟩, -⟩ := S.out.facts)
                  | ((with_reducible refine (HC.out ⟨ra, rc⟩ _ _ (natOld S.out (by simp)) (natOld S.out (by simp))).mono ?_); rintro e wx ⟨rfl, hb⟩; replace S := Lib.hid (S.out.call hb); clear hb z0 f0 y0 y0a; obtain ⟨⟨z0, f0, y0, y0a, -⟩, -⟩ := S.out.facts))
              all_goals
                have hG := Lib.hid (hnx.out ⟨by omega, by omega⟩)
                have hF := Lib.hid (hbl.out.trans (S.out.bel.mono hbl.out.size))
                clear c1 c2 E7 hnx
                go_wp2
                go_roundw
                case rel => exact ⟨k + 1, by omega, by go_num, hG, hF⟩
                case measure => simp [intOf]; omega
            · have e2 := decide_eq_true (show 0 < cv by omega)
              clear hX z0 f0 y0 y0a
              replace S := Lib.hid S.out.drew
              obtain ⟨⟨z0, f0, y0, y0a, -⟩, -⟩ := S.out.facts
              go_region_held3 (fun w' => w'.cell? ⟨wr.heap.size, 0, none⟩ = some (.slice qa N.length qc) ∧ w'.cell? ⟨wr.heap.size, 1, none⟩ = some (.slice ra D.length rc)) (go_keep)
                (first
                  | ((with_reducible refine (HW.out ⟨qa, qc⟩ ⟨ra, rc⟩ _ (natOld S.out (by simp)) (natOld S.out (by simp))).mono ?_); rintro e wx ⟨rfl, hb⟩; replace S := Lib.hid (S.out.call hb); clear hb z0 f0 y0 y0a; obtain ⟨⟨z0, f0, y0, y0a, -⟩, -⟩ := S.out.facts)
                  | ((with_reducible refine (HO.out _).mono ?_); rintro e wx ⟨_, rfl, qx, rfl, hr, hf, hb⟩; replace S := Lib.hid (natRes S.out hr hf hb); clear hr hf hb z0 f0 y0 y0a; obtain ⟨⟨z0, f0, y0, y0a, -⟩, -⟩ := S.out.facts)
                  | ((with_reducible refine (HC.out ⟨ra, rc⟩ _ _ (natOld S.out (by simp)) (natOld S.out (by simp))).mono ?_); rintro e wx ⟨rfl, hb⟩; replace S := Lib.hid (S.out.call hb); clear hb z0 f0 y0 y0a; obtain ⟨⟨z0, f0, y0, y0a, -⟩, -⟩ := S.out.facts))
              all_goals
                have hG := Lib.hid (E7.out (fun h => by have := h.2; omega))
                have hF := Lib.hid (hbw.out.trans ((hbl.out.trans (S.out.bel.mono hbl.out.size)).mono hbw.out.size))
                clear c1 c2 E7 hnx
                go_wp2
                go_ret
                exact ⟨by rw [hG.out]; rfl, hF.out⟩
          · rw [decide_eq_false c1] at HW hX
            have hG := Lib.hid (E7.out (fun h => c1 h.1))
            clear c1
            refine wp_region_calm (by kernel_rfl) (by kernel_rfl) ?_
            repeat (go_big_quiet_step (first | (go_at_call 66; with_reducible exact hX.out _)))
            refine wpQuiet_nil ?_
            intro w4 hw4
            have hb4 := grow_below hw4
            clear hw4 hX z0 f0 y0 y0a
            replace S := Lib.hid (S.out.call hb4)
            clear hb4
            have hF := Lib.hid (hbw.out.trans ((hbl.out.trans (S.out.bel.mono hbl.out.size)).mono hbw.out.size))
            clear E7 hnx
            go_wp2
            go_ret
            exact ⟨by rw [hG.out]; rfl, hF.out⟩
        · have hd : decide ((k : Int) < (n : Int)) = false := by rw [decide_eq_false_iff_not]; omega
          obtain rfl : n = k := by omega
          have hall2 := Lib.hid hall.out
          have hF2 := Lib.hid (hF.out hall2.out)
          have hbw2 := Lib.hid (hbw.out.trans (hbl.out.mono hbw.out.size))
          clear hall hF
          rename World => wo2
          go_wp2_with fail
          go_loopw [51] (fun i wr => i = .int .i64 0 ∧ Hid (Below wo2.heap.size wo2 wr)) (fun i _ => 0)
          case atStart => exact ⟨rfl, Lib.hid (Below.refl _ _)⟩
          case round =>
            obtain ⟨rfl, hbl2⟩ := hrel
            have hG := Lib.hid (hF2.out (fun j hj => by omega))
            have hFF := Lib.hid (hbw2.out.trans (hbl2.out.mono hbw2.out.size))
            go_wp2
            go_ret
            exact ⟨by rw [hG.out]; rfl, hFF.out⟩
end Go.Proofs.YtpoddmkimhkmoaaGreat
