/-
  CONTRACT of sheaveref37.number.
  Conditions: those that each theorem names.
-/
import Derived.Test.YtfcimilimojfoaaDoorStT1
import Derived.Test.YtfcimilimojfoaaDoorTxt
namespace Go.Proofs.YtfcimilimojfoaaDoor
open Go.RowKit Go.Sv Go.Lx
/-- a number and whether it is one -/
def NumP (l : Bs) (w : World) (e : Ending) (w' : World) : Prop := ∃ n : Int, e = .returned (.tuple #[.int .i64 n, .bool (numR l).isSome]) ∧ (∀ k : Nat, numR l = some k → n = (k : Int)) ∧ w' = w
set_option maxHeartbeats 4000000 in
set_option maxRecDepth 100000 in
theorem number_any (l : Bs) (hl : l.length ≤ 100000) (w : World) : Calls Tryd.prog 68 #[.string (bS l)] w (NumP l w) := by
  have hsz := bS_size l
  replace hsz := Lib.hid hsz
  have hs2 : (bS l).size = l.length := hsz.out
  have hB : (bS l).size ≤ 100000 := by omega
  go_enter Tryd.func68, Tryd.ntmps68
  go_wp2
  go_loop [4, 5] (fun s4 s5 => ∃ k n : Nat, s5 = .int .i64 k ∧ s4 = .int .i64 n ∧ k ≤ l.length ∧ n ≤ 9223372036854775807 ∧ nR 0 l = nR n (l.drop k)) (fun _ s5 => l.length - (intOf s5).toNat)
  case atStart => exact ⟨0, 0, rfl, rfl, Nat.zero_le _, by omega, rfl⟩
  case round =>
    obtain ⟨k, n, rfl, rfl, hk, hn, hR⟩ := hrel
    by_cases hlt : k < l.length
    · have gk' : k < (bS l).size := by rw [hsz.out]; exact hlt
      have hdr : l.drop k = l[k] :: l.drop (k + 1) := List.drop_eq_getElem_cons hlt
      rw [hdr, nR] at hR
      have hcx : (bS l)[k]'gk' = l[k] := rfl
      obtain ⟨c, hc⟩ : ∃ c, l[k] = c := ⟨_, rfl⟩
      rw [hc] at hR hcx
      have hx : c.toNat < 256 := c.toNat_lt
      obtain ⟨x, hxx⟩ : ∃ x, c.toNat = x := ⟨_, rfl⟩
      rw [hxx] at hR hx
      replace hR := Lib.hid hR
      replace hdr := Lib.hid hdr
      replace hc := Lib.hid hc
      have hno : Hid ((x < 48 ∨ 57 < x ∨ (9223372036854775807 - (x - 48)) / 10 < n) → numR l = none) := Lib.hid fun h => by
        unfold numR; rw [hR.out, if_pos h]
      have hyes : Hid (¬ (x < 48 ∨ 57 < x ∨ (9223372036854775807 - (x - 48)) / 10 < n) → nR 0 l = nR (10 * n + (x - 48)) (l.drop (k + 1))) := Lib.hid fun h => by rw [hR.out, if_neg h]
      have jk : (k : Int) < ((bS l).size : Int) := by omega
      have hbad : ∀ (e : numR l = none) (n : Int), (Ending.returned (.tuple #[.int .i64 0, .bool false]) = Ending.returned (.tuple #[.int .i64 0, .bool (numR l).isSome])) ∧ (∀ k : Nat, numR l = some k → (0 : Int) = (k : Int)) := fun e _ => ⟨by rw [e]; rfl, fun k h => by rw [e] at h; cases h⟩
      replace hbad := Lib.hid hbad
      by_cases g1 : (x : Int) < 48
      · have h := Lib.hid (hno.out (Or.inl (by omega)))
        clear hno hyes
        go_wp2
        refine bodyPost_ret (v := .tuple #[.int .i64 0, .bool false]) (by simp [results, Tryd.results68, go_sem]) rfl ?_
        exact ⟨0, (hbad.out h.out 0).1, (hbad.out h.out 0).2, rfl⟩
      · by_cases g2 : (57 : Int) < (x : Int)
        · have h := Lib.hid (hno.out (Or.inr (Or.inl (by omega))))
          clear hno hyes
          go_wp2
          refine bodyPost_ret (v := .tuple #[.int .i64 0, .bool false]) (by simp [results, Tryd.results68, go_sem]) rfl ?_
          exact ⟨0, (hbad.out h.out 0).1, (hbad.out h.out 0).2, rfl⟩
        · obtain ⟨y, rfl⟩ : ∃ y : Nat, x = 48 + y := ⟨x - 48, by omega⟩
          have hy : y ≤ 9 := by omega
          have e1 : ((48 + y : Nat) : Int) - 48 = (y : Int) := by omega
          have hq : ((9223372036854775807 : Int) - (y : Int)).tdiv 10 = (((9223372036854775807 - y) / 10 : Nat) : Int) := by
            rw [Int.tdiv_eq_ediv_of_nonneg (by omega)]; omega
          obtain ⟨q, hqq⟩ : ∃ q, (9223372036854775807 - y) / 10 = q := ⟨_, rfl⟩
          have e2 : 48 + y - 48 = y := by omega
          rw [e2, hqq] at hno hyes
          rw [hqq] at hq
          have hq2 : ((9223372036854775807 : Int) - (48 + (y : Int) - 48)).tdiv 10 = (q : Int) := by rw [show (48 + (y : Int) - 48) = (y : Int) by omega]; exact hq
          have hq1 : q ≤ 922337203685477580 := by omega
          have hq10 : 10 * q + y ≤ 9223372036854775807 := by omega
          replace hqq := Lib.hid hqq
          by_cases g3 : (q : Int) < (n : Int)
          · have h := Lib.hid (hno.out (Or.inr (Or.inr (by omega))))
            clear hno hyes
            go_wp2
            refine bodyPost_ret (v := .tuple #[.int .i64 0, .bool false]) (by simp [results, Tryd.results68, go_sem]) rfl ?_
            exact ⟨0, (hbad.out h.out 0).1, (hbad.out h.out 0).2, rfl⟩
          · have h := Lib.hid (hyes.out (by omega))
            have hn2 : 10 * n + y ≤ 9223372036854775807 := by omega
            clear hno hyes
            go_wp2
            go_round
            case rel => exact ⟨k + 1, 10 * n + y, by go_num, by go_num, hlt, hn2, h.out⟩
            case measure => simp [intOf]; omega
    · obtain rfl : k = l.length := by omega
      rw [List.drop_length, nR] at hR
      have hD := Lib.hid (digits_any n hn w)
      have hlen := dec_20 hn
      obtain ⟨d, hd⟩ : ∃ d, Lib.decDigits n = d := ⟨_, rfl⟩
      rw [hd] at hD hlen
      have hN : numR l = if l ≠ [] ∧ d = l then some n else none := by unfold numR; rw [hR]; dsimp only; rw [hd]
      replace hR := Lib.hid hR
      replace hd := Lib.hid hd
      have hNh := Lib.hid hN
      clear hN
      cases l with
      | nil =>
        have hi : Hid (numR [] = none) := Lib.hid (by rw [hNh.out, if_neg (by simp)])
        go_wp2
        refine bodyPost_ret (v := .tuple #[.int .i64 n, .bool false]) (by simp [results, Tryd.results68, go_sem]) rfl ?_
        exact ⟨n, by rw [hi.out]; rfl, (fun k h => by rw [hi.out] at h; cases h), rfl⟩
      | cons a r =>
        go_wp2_with fail
        with_reducible refine hD.out.mono ?_
        rintro e' w' ⟨rfl, rfl⟩
        by_cases hde : d = a :: r
        · have hi : Hid (numR (a :: r) = some n) := Lib.hid (by rw [hNh.out, if_pos ⟨by simp, hde⟩])
          go_wp2
          refine bodyPost_ret (v := .tuple #[.int .i64 n, .bool true]) (by simp [results, Tryd.results68, go_sem]) rfl ?_
          exact ⟨n, by rw [hi.out]; rfl, (fun k h => by rw [hi.out] at h; injection h with h; rw [h]), rfl⟩
        · have hi : Hid (numR (a :: r) = none) := Lib.hid (by rw [hNh.out, if_neg (fun h => hde h.2)])
          go_wp2
          refine bodyPost_ret (v := .tuple #[.int .i64 n, .bool false]) (by simp [results, Tryd.results68, go_sem, hde]) rfl ?_
          exact ⟨n, by rw [hi.out]; rfl, (fun k h => by rw [hi.out] at h; cases h), rfl⟩
end Go.Proofs.YtfcimilimojfoaaDoor
