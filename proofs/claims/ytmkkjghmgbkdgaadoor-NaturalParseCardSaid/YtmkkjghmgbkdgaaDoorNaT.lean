/-
  CONTRACTS of few and awake.
  Conditions: those that each theorem names.
-/
import Derived.Test.YtmkkjghmgbkdgaaDoorNaS
import Derived.Deep.RegionHeld3
namespace Go.Proofs.YtmkkjghmgbkdgaaDoor
open Go.RowKit Go.Sv
/-- a number with its place -/
abbrev LQ := List Int × LmP
set_option maxRecDepth 100000 in
theorem few_any (most : Int) (ns : List LQ) (b c : Nat) (w : World) (hb : b < w.heap.size) (hc : ∀ k (h : k < ns.length), w.cell? ⟨b, k, none⟩ = some (rowV ns[k].1 ns[k].2)) (hn : ns.length ≤ 100) :
    Calls Tryd.prog 20 #[.int .i64 most, .slice (some ⟨b, 0, none⟩) ns.length c] w fun e w' => e = .returned (.bool (ns.all fun x => decide ((x.1.length : Int) ≤ most))) ∧ Below w.heap.size w w' := by
  replace hc := Lib.hid hc
  go_enter Tryd.func20, Tryd.ntmps20
  go_wp2
  go_loopw [6, 9] (fun _ s9 wr => ∃ k : Nat, s9 = .int .i64 k ∧ k ≤ ns.length ∧ (∀ i (h : i < ns.length), i < k → (ns[i].1.length : Int) ≤ most) ∧ Below w.heap.size w wr) (fun _ s9 _ => ns.length - (intOf s9).toNat)
  case atStart => exact ⟨0, rfl, Nat.zero_le _, fun i h hi => absurd hi (Nat.not_lt_zero _), Below.refl _ _⟩
  case round =>
    obtain ⟨k, rfl, hk, hd, hbel⟩ := hrel
    replace hd := Lib.hid hd
    by_cases hlt : k < ns.length
    · have y := (hbel.cell (p := ⟨b, k, none⟩) hb).trans (hc.out k hlt)
      have hlt' : (k : Int) < (ns.length : Int) := by omega
      by_cases hm : (ns[k].1.length : Int) ≤ most
      · have hd' : Hid (∀ i (h : i < ns.length), i < k + 1 → (ns[i].1.length : Int) ≤ most) := Lib.hid fun i h hi => by
          rcases Nat.lt_or_ge i k with c | c
          · exact hd.out i h c
          · obtain rfl : i = k := by omega
            exact hm
        have t1 : decide (most < (ns[k].1.length : Int)) = false := decide_eq_false (by omega)
        obtain ⟨⟨l, q⟩, he⟩ : ∃ x, ns[k] = x := ⟨_, rfl⟩
        rw [he] at y t1
        dsimp only at y t1
        have hbx := Lib.hid (hbel.alloc hbel.size (.cells #[.slice q.a l.length q.c] 26))
        clear hm hd he
        dsimp only [rowV] at y
        go_wp2
        go_roundw
        case rel => exact ⟨k + 1, by go_num, hlt, hd'.out, hbx.out⟩
        case measure => simp [intOf]; omega
      · have hF : Hid ((ns.all fun x => decide ((x.1.length : Int) ≤ most)) = false) := Lib.hid (by
          rw [List.all_eq_false]
          exact ⟨ns[k], List.getElem_mem hlt, by simp; omega⟩)
        have t1 : decide (most < (ns[k].1.length : Int)) = true := decide_eq_true (by omega)
        obtain ⟨⟨l, q⟩, he⟩ : ∃ x, ns[k] = x := ⟨_, rfl⟩
        rw [he] at y t1
        dsimp only at y t1
        have hbx := Lib.hid (hbel.alloc hbel.size (.cells #[.slice q.a l.length q.c] 26))
        clear hm hd he
        dsimp only [rowV] at y
        go_wp2
        go_ret
        rw [hF.out]
        exact ⟨rfl, hbx.out⟩
    · obtain rfl : k = ns.length := by omega
      have hF : Hid ((ns.all fun x => decide ((x.1.length : Int) ≤ most)) = true) := Lib.hid (by
        rw [List.all_eq_true]
        intro x hx
        obtain ⟨i, hi, rfl⟩ := List.mem_iff_getElem.1 hx
        exact decide_eq_true (hd.out i hi hi))
      clear hd hlt
      replace hbel := Lib.hid hbel
      go_wp2
      go_ret
      rw [hF.out]
      exact ⟨rfl, hbel.out⟩

theorem vN_small {N : Nat} (h : N < 18446744073709551616) : vN (lim N) = true := vN_lim (lim_len_le.2 (by
  have := Bp_mono (show 2 ≤ 128 by omega)
  have e : Bp 2 = 18446744073709551616 := by decide
  omega))
theorem awake_pow : powV (lim 2) 4096 = [] ∧ powE (lim 2) 4096 = 3 := by
  have h : 128 < (lim (2 ^ (4096 : Int).toNat)).length := by
    rcases Nat.lt_or_ge 128 (lim (2 ^ (4096 : Int).toNat)).length with c | c
    · exact c
    · exfalso
      have := lim_len_le.1 c
      rw [Bp_two] at this
      exact pow_gt (x := 2) (M := 32 * 128) (Nat.le_refl _) (by decide) (Int.ofNat_lt.1 this)
  unfold powV powE
  rw [vN_small (by decide), if_pos ⟨rfl, by decide⟩, if_pos rfl, if_pos (by decide), vl_lim]
  exact ⟨if_pos h, if_pos h⟩
set_option maxHeartbeats 4000000 in
set_option maxRecDepth 100000 in
theorem awake_any (w : World) (ht : Tab w) : Calls Tryd.prog 12 #[] w fun e w' => e = .returned (.bool true) ∧ Below w.heap.size w w' := by
  have HOf : ∀ (z : Int) (n : Nat), z = n → n < 18446744073709551616 → Hid (∀ w', Calls Tryd.prog 16 #[.int .u64 z] w' (Ret (NRes w' (lim n)))) := fun z n hz hn => Lib.hid fun w' => by subst hz; have := rof_any n w' (by omega) (by omega); rw [Int.toNat_natCast] at this; exact this
  have O100 := HOf 100 100 rfl (by decide)
  have O7 := HOf 7 7 rfl (by decide)
  have O12 := HOf 12 12 rfl (by decide)
  have O18 := HOf 18 18 rfl (by decide)
  have O2 := HOf 2 2 rfl (by decide)
  have O14 := HOf 14 14 rfl (by decide)
  have O6 := HOf 6 6 rfl (by decide)
  have OB := HOf 4294967296 4294967296 rfl (by decide)
  clear HOf
  have NB : Hid (∀ w', Calls Tryd.prog 13 #[.int .u64 4294967296] w' (Ret (NRes w' (lim 4294967296)))) := Lib.hid fun w' => of_any 4294967296 w' (by decide) (by decide)
  have HD := Lib.hid (fun q r w' (h1 : RLm w' w'.heap.size (lim 100) q) (h2 : RLm w' w'.heap.size (lim 7) r) => by
    have := div_ok (lim 100) (lim 7) q r w' h1 h2 (lim_lim _) (lim_lim _) (by rw [vN_small (by decide), vN_small (by decide)]; rfl) (by rw [vl_lim]; decide)
    rw [vl_lim, vl_lim] at this
    exact this)
  have HG := Lib.hid (fun q r w' (h1 : RLm w' w'.heap.size (lim 12) q) (h2 : RLm w' w'.heap.size (lim 18) r) => by
    have := gcd_ok (lim 12) (lim 18) q r w' h1 h2 (lim_lim _) (lim_lim _) (by rw [vN_small (by decide), vN_small (by decide)]; rfl)
    rw [vl_lim, vl_lim, show Nat.gcd 12 18 = 6 from by decide] at this
    exact this)
  have HF := Lib.hid (fun q w' (h1 : RLm w' w'.heap.size (lim 4294967296) q) (ht : Tab w') => by
    have := format_any (lim 4294967296) q w' h1 (lim_lim _) ht
    unfold fmtV fmtE at this
    rw [vN_small (by decide), if_pos rfl, if_pos rfl, vl_lim, show decS 4294967296 = ⟨#[52, 50, 57, 52, 57, 54, 55, 50, 57, 54]⟩ from by decide +kernel] at this
    exact this)
  have HP : Hid (∀ w', Calls Tryd.prog 29 #[.string ⟨#[48, 48, 55]⟩] w' (Ret (NRes2 w' [] 2))) := Lib.hid fun w' => by
    have := parse_any [48, 48, 55] w' (by decide)
    rw [show prsV [48, 48, 55] = [] from by decide +kernel, show prsE [48, 48, 55] = 2 from by decide +kernel] at this
    exact this
  have HW := Lib.hid (fun q w' (h1 : RLm w' w'.heap.size (lim 2) q) => by
    have := pow_any (lim 2) q 4096 w' h1 (lim_lim _)
    rw [awake_pow.1, awake_pow.2] at this
    exact this)
  have HS := Lib.hid (fun (N : Nat) q r w' (h1 : RLm w' w'.heap.size (lim N) q) (h2 : RLm w' w'.heap.size (lim N) r) => by
    have := same_any (lim N) (lim N) q r w' h1 h2
    rw [decide_eq_true rfl] at this
    exact this)
  have HB := Lib.hid (fun q w' (h1 : RLm w' w'.heap.size (lim 4294967296) q) => by
    have := bits_any (lim 4294967296) q w' h1 (lim_lim _) (lim_can _) (Nat.le_trans (vN_can (vN_small (N := 4294967296) (by decide))).1 (by decide))
    rw [vl_lim, show nbits 4294967296 = 33 from by decide +kernel] at this
    exact this)
  have ht' := Lib.hid (fun w' (hb : Below w.heap.size w w') => ht.to hb)
  have S := Lib.hid (Fm.init w)
  clear ht
  go_enter Tryd.func12, Tryd.ntmps12
  go_wp2_with fail
  refine (O100.out _).mono ?_
  rintro e w1 ⟨_, rfl, q1, rfl, hr, hf, hb⟩
  replace S := Lib.hid (natRes S.out hr hf hb)
  clear hr hf hb
  go_wp2_with fail
  refine (O7.out _).mono ?_
  rintro e w2 ⟨_, rfl, q2, rfl, hr, hf, hb⟩
  replace S := Lib.hid (natRes S.out hr hf hb)
  clear hr hf hb
  go_wp2_with fail
  refine (HD.out _ _ _ S.out.r1 S.out.r0).mono ?_
  rintro e w3 ⟨_, rfl, q3, q4, rfl, hr, hr2, hf, hf2, hb⟩
  replace S := Lib.hid (natRes2 S.out hr hr2 hf hf2 hb)
  clear hr hr2 hf hf2 hb
  replace S := Lib.hid (S.out.box 26 [.slice q3.a (lim 14).length q3.c])
  replace S := Lib.hid (S.out.box' 26 [.slice q4.a (lim 2).length q4.c] (K := w3.heap.size + 1) (by simp))
  go_wp2_with fail
  refine (O12.out _).mono ?_
  rintro e w4 ⟨_, rfl, q5, rfl, hr, hf, hb⟩
  replace S := Lib.hid (natRes S.out hr hf hb)
  clear hr hf hb
  obtain ⟨⟨z1, f1, y1, -⟩, ⟨z0, f0, y0, -⟩, -⟩ := S.out.facts
  go_wp2_with fail
  refine (O18.out _).mono ?_
  rintro e w5 ⟨_, rfl, q6, rfl, hr, hf, hb⟩
  replace S := Lib.hid (natRes S.out hr hf hb)
  clear hr hf hb z0 f0 y0 z1 f1 y1
  obtain ⟨⟨z1, f1, y1, -⟩, ⟨z0, f0, y0, -⟩, -⟩ := S.out.facts
  go_wp2_with fail
  refine (HG.out _ _ _ S.out.r1 S.out.r0).mono ?_
  rintro e w6 ⟨_, rfl, q7, rfl, hr, hf, hb⟩
  replace S := Lib.hid (natRes S.out hr hf hb)
  clear hr hf hb z0 f0 y0 z1 f1 y1
  obtain ⟨⟨z1, f1, y1, -⟩, ⟨z0, f0, y0, -⟩, -⟩ := S.out.facts
  replace S := Lib.hid (S.out.box 26 [.slice q7.a (lim 6).length q7.c])
  go_wp2_with fail
  refine (NB.out _).mono ?_
  rintro e w7 ⟨_, rfl, q8, rfl, hr, hf, hb⟩
  replace S := Lib.hid (natRes S.out hr hf hb)
  clear hr hf hb
  obtain ⟨⟨z2, f2, y2, -⟩, ⟨z1, f1, y1, -⟩, ⟨z0, f0, y0, -⟩, -⟩ := S.out.facts
  go_wp2_with fail
  refine (HF.out _ _ S.out.r0 (ht'.out _ S.out.bel)).mono ?_
  rintro e w8 ⟨rfl, hb⟩
  replace S := Lib.hid (S.out.call hb)
  clear hb z0 f0 y0 z1 f1 y1 z2 f2 y2
  obtain ⟨⟨z2, f2, y2, -⟩, ⟨z1, f1, y1, -⟩, ⟨z0, f0, y0, -⟩, -⟩ := S.out.facts
  go_wp2_with fail
  refine (HP.out _).mono ?_
  rintro e w9 ⟨_, rfl, q9, rfl, hr, hf, hb⟩
  replace S := Lib.hid (S.out.call hb)
  clear hr hf hb z0 f0 y0 z1 f1 y1 z2 f2 y2
  obtain ⟨⟨z2, f2, y2, -⟩, ⟨z1, f1, y1, -⟩, ⟨z0, f0, y0, -⟩, -⟩ := S.out.facts
  replace S := Lib.hid (S.out.box 26 [.slice q9.a 0 q9.c])
  go_wp2_with fail
  refine (O2.out _).mono ?_
  rintro e w10 ⟨_, rfl, q10, rfl, hr, hf, hb⟩
  replace S := Lib.hid (natRes S.out hr hf hb)
  clear hr hf hb
  obtain ⟨⟨z3, f3, y3, -⟩, ⟨z2, f2, y2, -⟩, ⟨z1, f1, y1, -⟩, ⟨z0, f0, y0, -⟩, -⟩ := S.out.facts
  go_wp2_with fail
  refine (HW.out _ _ S.out.r0).mono ?_
  rintro e w11 ⟨_, rfl, q11, rfl, hr, hb⟩
  replace S := Lib.hid (S.out.call hb)
  clear hr hb z0 f0 y0 z1 f1 y1 z2 f2 y2 z3 f3 y3
  obtain ⟨⟨z3, f3, y3, -⟩, ⟨z2, f2, y2, -⟩, ⟨z1, f1, y1, -⟩, ⟨z0, f0, y0, -⟩, -⟩ := S.out.facts
  replace S := Lib.hid (S.out.box 26 [.slice q11.a 0 q11.c])
  go_wp2_with fail
  have hc0 : w11.cell? ⟨w3.heap.size, 0, none⟩ = some (.slice q3.a (lim 14).length q3.c) := y0
  replace S := Lib.hid S.out.drew
  clear z0 f0 z1 f1 z2 f2 z3 f3 y3 hc0
  go_region_held3 (fun w' => w'.cell? ⟨w3.heap.size, 0, none⟩ = some (.slice q3.a (lim 14).length q3.c) ∧ w'.cell? ⟨w3.heap.size + 1, 0, none⟩ = some (.slice q4.a (lim 2).length q4.c) ∧ w'.cell? ⟨w6.heap.size, 0, none⟩ = some (.slice q7.a (lim 6).length q7.c)) (go_keep)
    (first
      | ((with_reducible refine (O14.out _).mono ?_); rintro e wx ⟨_, rfl, qx, rfl, hr, hf, hb⟩; replace S := Lib.hid (natRes S.out hr hf hb); clear hr hf hb; clear y0 y1 y2; obtain ⟨-, -, ⟨-, -, y2, -⟩, ⟨-, -, y1, -⟩, ⟨-, -, y0, -⟩, -⟩ := S.out.facts)
      | ((with_reducible refine (O2.out _).mono ?_); rintro e wx ⟨_, rfl, qx, rfl, hr, hf, hb⟩; replace S := Lib.hid (natRes S.out hr hf hb); clear hr hf hb; clear y0 y1 y2; obtain ⟨-, -, ⟨-, -, y2, -⟩, ⟨-, -, y1, -⟩, ⟨-, -, y0, -⟩, -⟩ := S.out.facts)
      | ((with_reducible refine (O6.out _).mono ?_); rintro e wx ⟨_, rfl, qx, rfl, hr, hf, hb⟩; replace S := Lib.hid (natRes S.out hr hf hb); clear hr hf hb; clear y0 y1 y2; obtain ⟨-, -, ⟨-, -, y2, -⟩, ⟨-, -, y1, -⟩, ⟨-, -, y0, -⟩, -⟩ := S.out.facts)
      | ((with_reducible refine (OB.out _).mono ?_); rintro e wx ⟨_, rfl, qx, rfl, hr, hf, hb⟩; replace S := Lib.hid (natRes S.out hr hf hb); clear hr hf hb; clear y0 y1 y2; obtain ⟨-, -, ⟨-, -, y2, -⟩, ⟨-, -, y1, -⟩, ⟨-, -, y0, -⟩, -⟩ := S.out.facts)
      | ((with_reducible refine (HS.out 14 _ _ _ (natOld S.out (by simp)) (natOld S.out (by simp))).mono ?_); rintro e wx ⟨rfl, hb⟩; replace S := Lib.hid (S.out.call hb); clear hb; clear y0 y1 y2; obtain ⟨-, -, ⟨-, -, y2, -⟩, ⟨-, -, y1, -⟩, ⟨-, -, y0, -⟩, -⟩ := S.out.facts)
      | ((with_reducible refine (HS.out 2 _ _ _ (natOld S.out (by simp)) (natOld S.out (by simp))).mono ?_); rintro e wx ⟨rfl, hb⟩; replace S := Lib.hid (S.out.call hb); clear hb; clear y0 y1 y2; obtain ⟨-, -, ⟨-, -, y2, -⟩, ⟨-, -, y1, -⟩, ⟨-, -, y0, -⟩, -⟩ := S.out.facts)
      | ((with_reducible refine (HS.out 6 _ _ _ (natOld S.out (by simp)) (natOld S.out (by simp))).mono ?_); rintro e wx ⟨rfl, hb⟩; replace S := Lib.hid (S.out.call hb); clear hb; clear y0 y1 y2; obtain ⟨-, -, ⟨-, -, y2, -⟩, ⟨-, -, y1, -⟩, ⟨-, -, y0, -⟩, -⟩ := S.out.facts)
      | ((with_reducible refine (HB.out _ _ (natOld S.out (by simp))).mono ?_); rintro e wx ⟨rfl, hb⟩; replace S := Lib.hid (S.out.call hb); clear hb; clear y0 y1 y2; obtain ⟨-, -, ⟨-, -, y2, -⟩, ⟨-, -, y1, -⟩, ⟨-, -, y0, -⟩, -⟩ := S.out.facts))
  all_goals
    go_wp2
    go_ret
    exact ⟨rfl, S.out.bel⟩
end Go.Proofs.YtmkkjghmgbkdgaaDoor
