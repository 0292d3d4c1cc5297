/-
  THE WALK of the law SplitStages: it returns true and changes nothing that was there.
  Conditions: the slice's length is within the form's own reach.
-/
import Derived.Test.YtcdckemablkniaaJ
namespace Go.Proofs.Ytcdckemablkniaa
open Go.RowKit Go.Sv

theorem own_keep {w w' : World} {base : Nat} {e : TypeId} {size : Nat} {v : Value} {n : Nat} {xs : List Value} (h : w.ownsRow base e size v n xs) (hb : Below w.heap.size w w') : w'.ownsRow base e size v n xs := by
  have hlt := h.lt
  have h0 := h
  obtain ⟨h1, h2⟩ := h
  refine ⟨h1, ?_⟩
  rcases h2 with h2 | ⟨g, cap, cur, hv, hg, hh, r⟩
  · exact Or.inl h2
  · refine Or.inr ⟨g, cap, cur, hv, hg, ?_, r⟩
    have : g < w.heap.size := (hlt g (by rw [hv]; rfl)).2
    rw [hb.block g this]; exact hh

set_option maxHeartbeats 4000000 in
theorem law_stages (A : Option Addr) (c : Nat) (l : Stg) (w : World) (hl : Stages w w.heap.size A l) (hA : A = none → l.length = 0 ∧ c = 0) (hm : l.length ≤ 5864062014805) :
    Calls Try.prog 6 #[.slice A l.length c] w fun e w' => e = .returned (.bool true) ∧ Below w.heap.size w w' := by
  replace hA := Lib.hid hA
  go_enter Try.func6, Try.ntmps6
  go_wp2
  go_loopw [3, 17] (fun t i wr => ∃ k : Nat, k ≤ l.length ∧ i = .int .i64 k ∧ t = .int .i64 (pre l k : Nat) ∧ pre l k ≤ 300 * k ∧ (∀ j, j < k → 1 ≤ sR l j ∧ sR l j ≤ 300) ∧ Below w.heap.size w wr) (fun _ i _ => l.length - (intOf i).toNat)
  case atStart => exact ⟨0, Nat.zero_le _, rfl, rfl, Nat.zero_le _, fun j hj => by omega, Below.refl _ _⟩
  case round =>
    obtain ⟨k, hk, rfl, rfl, hpre, hall, hbel⟩ := hrel
    replace hall := Lib.hid hall
    have hsz := hbel.size
    by_cases hlt : k < l.length
    · obtain ⟨b, off, rfl, hb, hc⟩ := id (hl (by omega))
      obtain ⟨c1, c2, c3⟩ := hc k hlt
      have d1 := (hbel.cell (p := ⟨b, off + k * 3, none⟩) hb).trans c1
      have d2 := (hbel.cell (p := ⟨b, off + k * 3 + 1, none⟩) hb).trans c2
      have d3 := (hbel.cell (p := ⟨b, off + k * 3 + 2, none⟩) hb).trans c3
      clear c1 c2 c3
      replace hl := Lib.hid hl
      replace hc := Lib.hid hc
      by_cases g1 : sR l k < 1
      · go_wp2_with fail
        refine (awake_any _).mono ?_
        rintro e w1 ⟨rfl, hb1⟩
        go_wp2
        go_ret
        exact ⟨rfl, below_of (hbel.alloc hsz _) (by simp; omega) hb1⟩
      by_cases g2 : 300 < sR l k
      · go_wp2_with fail
        refine (awake_any _).mono ?_
        rintro e w1 ⟨rfl, hb1⟩
        go_wp2
        go_ret
        exact ⟨rfl, below_of (hbel.alloc hsz _) (by simp; omega) hb1⟩
      have hp : Hid (pre l (k + 1) = pre l k + (sR l k).toNat) := Lib.hid rfl
      go_wp2
      go_roundw
      case rel => exact ⟨k + 1, by omega, by go_num, by (apply val_i; rw [hp.out]; omega), by rw [hp.out]; omega, fun j hj => by (rcases Nat.lt_succ_iff_lt_or_eq.1 hj with h | h; exact hall.out j h; rw [h]; omega), hbel.alloc hsz _⟩
      case measure => simp [intOf]; omega
    · obtain rfl : k = l.length := by omega
      replace hl := Lib.hid hl
      have hl0 : Hid (Stages wr wr.heap.size A l) := Lib.hid ((hl.out.below hbel).more hsz)
      go_wp2_with fail
      refine (awake_any _).mono ?_
      rintro e w1 ⟨rfl, hb1⟩
      have hb01 := below_of hbel hsz hb1
      have hs01 := hb01.size
      have hl1 : Hid (Stages w1 w1.heap.size A l) := Lib.hid ((hl0.out.below hb1).more hb1.size)
      clear hbel hb1 hl0 hsz
      by_cases g1 : 20 < l.length
      · go_wp2_with fail
        refine (awake_any _).mono ?_
        rintro e w2 ⟨rfl, hb2⟩
        go_wp2
        go_ret
        exact ⟨rfl, below_of hb01 hs01 hb2⟩
      by_cases g2 : 300 < pre l l.length
      · go_wp2_with fail
        refine (awake_any _).mono ?_
        rintro e w2 ⟨rfl, hb2⟩
        go_wp2
        go_ret
        exact ⟨rfl, below_of hb01 hs01 hb2⟩
      go_wp2_with fail
      refine (rramp_any _ _ _ _ hl1.out).mono ?_
      rintro e w2 ⟨rfl, hd2⟩
      have hb02 := hb01.drawn hd2
      have hs02 := hb02.size
      have hl2 : Hid (Stages w2 w2.heap.size A l) := Lib.hid (by rw [hd2.size]; exact (hl1.out.below hd2.below))
      clear hb01 hd2 hl1 hs01
      by_cases hE : rampE l = 0
      · obtain ⟨n1, n2, hok⟩ := rampE_all hE
        replace hok := Lib.hid hok
        rw [hE]
        replace hE := Lib.hid hE
        obtain ⟨i0, hi, hz0, hz1, hz2⟩ := info_parts elInt.hi
        go_wp2_with (at_make; refine wpList_make_full _ rfl _ _ 36 rfl w.heap.size 2 i0 (.int .i64 0) 1 Try.underlying36 hi hz0 hz1 .i64 .i64 _ _ l.length rfl rfl rfl rfl (by rw [hz2]; omega) (by unfold maxLen; omega) hs02 ?_)
        intro w3 hown3 hg3
        have hb03 := hb02.grown hg3 hs02 (fun k h => by cases h)
        have hs03 := hb03.size
        have hl3 : Hid (Stages w3 w3.heap.size A l) := Lib.hid ((hl2.out.below (⟨hg3.os, hg3.tape, hg3.output, hg3.size, fun k hk => hg3.block k hk (by simp)⟩)).more hg3.size)
        have hown3 : Hid (w3.ownsRow w.heap.size 2 1 (.slice (some ⟨w2.heap.size, 0, none⟩) l.length l.length) l.length (wRow l 0)) := Lib.hid (by rw [wRow_0]; simpa using hown3)
        have hgw : w2.heap.size < w3.heap.size := by
          have := (hown3.out.lt w2.heap.size rfl).2
          exact this
        clear hg3 hl2 hb02 hi hz0 hz1 hz2
        obtain ⟨g, hgd⟩ : ∃ g, g = w2.heap.size := ⟨_, rfl⟩
        rw [← hgd] at hown3 hgw ⊢
        have hgB : w.heap.size ≤ g := by omega
        clear hgd
        go_wp2
        go_loopw [56] (fun i wr => ∃ k : Nat, k ≤ pre l l.length ∧ i = .int .i64 k ∧ wr.ownsRow w.heap.size 2 1 (.slice (some ⟨g, 0, none⟩) l.length l.length) l.length (wRow l k) ∧ Below w.heap.size w wr) (fun i _ => pre l l.length - (intOf i).toNat)
        case atStart => exact ⟨0, Nat.zero_le _, rfl, hown3.out, hb03⟩
        case round =>
          obtain ⟨k, hk, rfl, hown, hbel⟩ := hrel
          have hsz := hbel.size
          have hlr : Hid (Stages wr wr.heap.size A l) := Lib.hid ((hl.out.below hbel).more hsz)
          have hgl := (hown.lt g rfl).2
          replace hown := Lib.hid hown
          by_cases hlt : k < pre l l.length
          · obtain ⟨j, j2, j3, j4, hat⟩ := atV_in hE.out hlt (by omega)
            have hat' := Lib.hid hat
            clear hat
            have hbd := wAt_bd l k j
            cases hgo : goes (sN l j) (sD l j) ((k : Int) - pre l j)
            · have HW : Hid (wRow l k = wRow l (k + 1)) := Lib.hid (wRow_miss j3 j4 hgo)
              rw [hgo] at hat'
              replace hgo := Lib.hid hgo
              go_wp2_with fail
              refine (pat_any _ _ _ _ _ hlr.out).mono ?_
              rintro e w4 ⟨rfl, hb4⟩
              rw [hat'.out]
              have hown4 := Lib.hid (own_keep hown.out hb4)
              have hb04 := below_of hbel hsz hb4
              clear hb4
              go_wp2
              go_roundw
              case rel => exact ⟨k + 1, by omega, by go_num, by rw [← HW.out]; exact hown4.out, hb04⟩
              case measure => simp [intOf]; omega
            · have HW : Hid ((wRow l k).set j (.int .i64 (wAt l k j + 1)) = wRow l (k + 1)) := Lib.hid (wRow_hit j2 j3 j4 hgo)
              rw [hgo] at hat'
              replace hgo := Lib.hid hgo
              go_wp2_with fail
              refine (pat_any _ _ _ _ _ hlr.out).mono ?_
              rintro e w4 ⟨rfl, hb4⟩
              rw [hat'.out]
              have hown4 := Lib.hid (own_keep hown.out hb4)
              have hb04 := below_of hbel hsz hb4
              have hc4 : w4.cell? ⟨g, j, none⟩ = some (.int .i64 (wAt l k j)) := by rw [hown4.out.cellAt j (by omega)]; exact wRow_get j2
              have hf4 : w4.frozen? ⟨g, j, none⟩ = false := hown4.out.frozenAt j
              clear hb4
              go_wp2
              go_roundw
              case rel => exact ⟨k + 1, by omega, by go_num, by rw [← HW.out]; exact (hown4.out.stored j _).1, hb04.setCell hgB _⟩
              case measure => simp [intOf]; omega
          · obtain rfl : k = pre l l.length := by omega
            obtain ⟨wo, rfl⟩ : ∃ wo : World, wo = wr := ⟨_, rfl⟩
            go_wp2
            go_loopw [88] (fun i wr => ∃ k : Nat, k ≤ l.length ∧ i = .int .i64 k ∧ Below wo.heap.size wo wr) (fun i _ => l.length - (intOf i).toNat)
            case atStart => exact ⟨0, Nat.zero_le _, rfl, Below.refl _ _⟩
            case round =>
              obtain ⟨k, hk, rfl, hbq⟩ := hrel
              have hsq := hbq.size
              by_cases hlt2 : k < l.length
              · obtain ⟨⟨a1, a2, a3, a4⟩, a5, a6⟩ := hok.out k hlt2
                obtain ⟨b, off, rfl, hb, hc⟩ := hlr.out n1
                obtain ⟨c1, c2, c3⟩ := hc k hlt2
                have d1 := (hbq.cell (p := ⟨b, off + k * 3, none⟩) hb).trans c1
                have d2 := (hbq.cell (p := ⟨b, off + k * 3 + 1, none⟩) hb).trans c2
                have d3 := (hbq.cell (p := ⟨b, off + k * 3 + 2, none⟩) hb).trans c3
                have hn : Hid (okN (sN l k) (sD l k) (sR l k)) := Lib.hid ⟨⟨a1, a2, a3, a4⟩, by omega, a6⟩
                have hcw : wr.cell? ⟨g, k, none⟩ = some (.int .i64 (sR l k * sN l k / sD l k)) := by
                  rw [hbq.cell (p := ⟨g, k, none⟩) hgl, hown.out.cellAt k (by omega), wRow_get hlt2, wAt_end hlt2 a1 a2 a3 a5]
                have hgq : g < wr.heap.size := by omega
                clear c1 c2 c3 hc
                go_wp2_with fail
                refine (pcount_ok _ _ _ _ (by exact hn.out)).mono ?_
                rintro e w5 ⟨rfl, rfl⟩
                go_wp2
                go_roundw
                case rel => exact ⟨k + 1, by omega, by go_num, hbq.alloc hsq _⟩
                case measure => simp [intOf]; omega
              · obtain rfl : k = l.length := by omega
                go_wp2
                go_ret
                exact ⟨rfl, below_of hbel hsz hbq⟩
      · have hE : (rampE l != 0) = true := by simpa using hE
        go_wp2_with fail
        refine (awake_any _).mono ?_
        rintro e w3 ⟨rfl, hb3⟩
        go_wp2
        go_ret
        exact ⟨rfl, below_of hb02 hs02 hb3⟩
end Go.Proofs.Ytcdckemablkniaa
