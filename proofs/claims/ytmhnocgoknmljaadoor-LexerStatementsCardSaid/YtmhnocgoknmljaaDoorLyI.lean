/-
  CONTRACTS of the laws' awake and few.
  Conditions: those that each theorem names.
-/
import Derived.Test.YtmhnocgoknmljaaDoorLyH
namespace Go.Proofs.YtmhnocgoknmljaaDoor
open Go.RowKit Go.Sv Go.Lx
abbrev m1 : List Tok := [⟨1, [105, 110, 116], 0, [], 1⟩, ⟨4, [40], 0, [], 1⟩, ⟨2, [], -10, [], 1⟩, ⟨4, [46, 46], 0, [], 1⟩, ⟨2, [], 10, [], 1⟩, ⟨4, [41], 0, [], 1⟩]
abbrev m3 : List Tok := [⟨1, [97], 0, [], 1⟩, ⟨2, [], 1, [], 1⟩, ⟨2, [], -1, [], 1⟩, ⟨4, [46], 0, [], 1⟩, ⟨4, [46, 46], 0, [], 1⟩, ⟨4, [59], 0, [], 1⟩]
theorem ex6 : joinV rd0 (m3.filter validT) = [97, 32, 49, 45, 49, 46, 32, 46, 46, 59] := by decide +kernel
theorem m3_fw : ∀ t ∈ m3, Fw t := by
  intro t h
  simp only [m3, List.mem_cons, List.not_mem_nil, or_false] at h
  rcases h with rfl | rfl | rfl | rfl | rfl | rfl <;> exact ⟨by decide, by decide, ⟨by decide, by decide⟩⟩
theorem tsr_ok {l : Bs} {w w' : World} {e : Ending} {m : List Tok} (h : TsR l w e w') (hk : tk 1 l = .ok m) : ∃ v, e = .returned (.tuple #[v, .int .i64 0, .int .i64 0]) ∧ w'.ownsRow w.heap.size 25 5 v m.length (tkRow m) ∧ Below w.heap.size w w' := by
  unfold TsR at h; rw [hk] at h; exact h
theorem tsr_err {l : Bs} {w w' : World} {e : Ending} {n : Int} (h : TsR l w e w') (hk : tk 1 l = .error n) : e = .returned (.tuple #[.slice none 0 0, .int .i64 n, .int .i64 2]) ∧ Below w.heap.size w w' := by
  unfold TsR at h; rw [hk] at h; exact h
set_option maxHeartbeats 1000000 in
set_option maxRecDepth 100000 in
theorem awake_any (w : World) (ht : Tb w) :
    Calls Tryd.prog 11 #[] w fun e w' => e = .returned (.bool true) ∧ Below w.heap.size w w' := by
  have H1 := Lib.hid (tokens_any [105, 110, 116, 40, 45, 49, 48, 46, 46, 49, 48, 41] w ht (by decide))
  have H2 := Lib.hid (fun W hT => tokens_any [97, 10, 48, 49] W hT (by decide))
  have H3 := Lib.hid (fun W hT => tokens_any [97, 32, 49, 32, 45, 49, 32, 46, 32, 46, 46, 32, 59] W hT (by decide))
  have HQ := Lib.hid (fun W => quote_any [10, 200] W (by decide))
  go_enter Tryd.func11, Tryd.ntmps11
  go_wp2_with fail
  refine H1.out.mono ?_
  rintro e w1 h1
  obtain ⟨v1, rfl, hown1, hb1⟩ := tsr_ok h1 ex1
  obtain ⟨A1, c1, rfl, -, hr1⟩ := own_tks hown1
  obtain ⟨b, off, rfl, hb, hcl⟩ := hr1 (by decide)
  have x2 := (tk_cells (w := w1) (fun i hi => hcl 2 (by decide) i hi)).2.2.1
  have x3 := (tk_cells (w := w1) (fun i hi => hcl 3 (by decide) i hi)).2.1
  have hT1 := Lib.hid (ht.to hb1)
  replace hb1 := Lib.hid hb1
  clear h1 hown1 hr1 hcl H1
  go_wp2_with fail
  refine (H2.out w1 hT1.out).mono ?_
  rintro e w2 h2
  obtain ⟨rfl, hb2⟩ := tsr_err h2 ex2
  have y2 : w2.cell? ⟨b, off + 2 * 5 + 2, none⟩ = some (.int .i64 (-10)) := (hb2.cell (p := ⟨b, off + 2 * 5 + 2, none⟩) hb).trans x2
  have y3 : w2.cell? ⟨b, off + 3 * 5 + 1, none⟩ = some (.string (bS [46, 46])) := (hb2.cell (p := ⟨b, off + 3 * 5 + 1, none⟩) hb).trans x3
  have hT2 := Lib.hid (hT1.out.to hb2)
  have hb12 := Lib.hid (hb1.out.trans (hb2.mono hb1.out.size))
  clear h2 hb2 x2 x3 H2 hb
  go_wp2_with fail
  refine (H3.out w2 hT2.out).mono ?_
  rintro e w3 h3
  obtain ⟨v3, rfl, hown3, hb3⟩ := tsr_ok h3 ex3
  obtain ⟨A3, c3, rfl, -, hr3⟩ := own_tks hown3
  have hT3 := Lib.hid (hT2.out.to hb3)
  have hb13 := Lib.hid (hb12.out.trans (hb3.mono hb12.out.size))
  have HJ := join_any A3 c3 m3 w3 hT3.out hr3 m3_fw (by decide)
  rw [ex6] at HJ
  replace HJ := Lib.hid HJ
  clear h3 hown3 hb3 y2 y3 H3 hr3
  go_wp2_with fail
  refine HJ.out.mono ?_
  rintro e w4 ⟨rfl, hb4⟩
  have hb14 := Lib.hid (hb13.out.trans (hb4.mono hb13.out.size))
  have HQ4 := HQ.out w4
  rw [ex4] at HQ4
  replace HQ4 := Lib.hid HQ4
  clear hb4 HJ
  go_wp2_with fail
  refine HQ4.out.mono ?_
  rintro e w5 ⟨rfl, hb5⟩
  have hF := Lib.hid (hb14.out.trans (hb5.mono hb14.out.size))
  clear hb5
  go_wp2
  go_ret
  exact ⟨rfl, hF.out⟩
def fewB (l : List Tok) : Bool := decide (l.length ≤ 30) && l.all fun t => decide (t.text.length ≤ 100) && decide (t.str.length ≤ 100)
theorem few_at {l : List Tok} (h : fewB l = true) : l.length ≤ 30 ∧ ∀ t ∈ l, t.text.length ≤ 100 ∧ t.str.length ≤ 100 := by
  unfold fewB at h
  simp only [Bool.and_eq_true, decide_eq_true_eq, List.all_eq_true] at h
  exact h
theorem few_long {l : List Tok} (h : 30 < l.length) : fewB l = false := by unfold fewB; rw [decide_eq_false (by omega)]; rfl
theorem few_bad {l : List Tok} {k : Nat} (h : k < l.length) (e : ¬ ((tkAt l k).text.length ≤ 100 ∧ (tkAt l k).str.length ≤ 100)) : fewB l = false := by
  rw [Bool.eq_false_iff]
  intro hf
  rw [tkAt_get h] at e
  exact e ((few_at hf).2 _ (List.getElem_mem h))
theorem few_ok {l : List Tok} (h : l.length ≤ 30) (e : ∀ k, k < l.length → (tkAt l k).text.length ≤ 100 ∧ (tkAt l k).str.length ≤ 100) : fewB l = true := by
  unfold fewB
  simp only [Bool.and_eq_true, decide_eq_true_eq, List.all_eq_true]
  refine ⟨h, fun t hm => ?_⟩
  obtain ⟨k, hk, rfl⟩ := List.mem_iff_getElem.1 hm
  have := e k hk
  rwa [tkAt_get hk] at this
set_option maxHeartbeats 1000000 in
set_option maxRecDepth 100000 in
theorem few_any (A : Option Addr) (c : Nat) (l : List Tok) (w : World) (ha : RTks w w.heap.size A l) (hn : l.length ≤ 9223372036854775807) :
    Calls Tryd.prog 16 #[.slice A l.length c] w fun e w' => e = .returned (.bool (fewB l)) ∧ Below w.heap.size w w' := by
  by_cases h30 : 30 < l.length
  · have i1 : decide ((30 : Int) < (l.length : Int)) = true := decide_eq_true (by omega)
    have i2 : decide (30 < l.length) = true := decide_eq_true h30
    have hR := Lib.hid (few_long h30)
    clear h30
    go_enter Tryd.func16, Tryd.ntmps16
    go_wp2
    go_ret
    exact ⟨ret_b hR.out.symm, Below.refl _ _⟩
  have i1 : decide ((30 : Int) < (l.length : Int)) = false := decide_eq_false (by omega)
  have i2 : decide (30 < l.length) = false := decide_eq_false h30
  have hbad := Lib.hid (fun k (h : k < l.length) e => few_bad h e)
  have hok := Lib.hid (few_ok (l := l) (by omega))
  go_enter Tryd.func16, Tryd.ntmps16
  go_wp2
  clear i1 i2
  go_loopw [10] (fun s10 wr => ∃ k : Nat, s10 = .int .i64 k ∧ k ≤ l.length ∧ (∀ j, j < k → (tkAt l j).text.length ≤ 100 ∧ (tkAt l j).str.length ≤ 100) ∧ Below w.heap.size w wr) (fun s10 _ => l.length - (intOf s10).toNat)
  case atStart => exact ⟨0, rfl, Nat.zero_le _, fun j h => absurd h (Nat.not_lt_zero _), Below.refl _ _⟩
  case round =>
    obtain ⟨k, rfl, hk, hall, hbel⟩ := hrel
    replace hall := Lib.hid hall
    by_cases hlt : k < l.length
    · obtain ⟨b, off, rfl, hb, hcl⟩ := ha (by omega)
      obtain ⟨c0, c1, c2, c3, c4⟩ := tk_cells (w := wr) (fun i hi => (hbel.cell (p := ⟨b, off + k * 5 + i, none⟩) hb).trans (hcl k hlt i hi))
      have hB := hbel.size
      have hbw : b < wr.heap.size := by omega
      have j1 : (k : Int) < (l.length : Int) := by omega
      have hbad1 := Lib.hid (hbad.out k hlt)
      have hS : Hid ((tkAt l k).text.length ≤ 100 ∧ (tkAt l k).str.length ≤ 100 → ∀ j, j < k + 1 → (tkAt l j).text.length ≤ 100 ∧ (tkAt l j).str.length ≤ 100) := Lib.hid fun h j hj => by
        rcases Nat.lt_succ_iff_lt_or_eq.1 hj with h' | h'
        · exact hall.out j h'
        · rw [h']; exact h
      obtain ⟨t, htt⟩ : ∃ t, tkAt l k = t := ⟨_, rfl⟩
      rw [htt] at c0 c1 c2 c3 c4 hbad1 hS
      have hF := Lib.hid (hbel.alloc hB (.cells #[.int .i64 t.kind, .string (bS t.text), .int .i64 t.int, .string (bS t.str), .int .i64 t.line] 25))
      have z1 := Lib.hid (bS_size t.text)
      have z2 := Lib.hid (bS_size t.str)
      replace ha := Lib.hid ha
      replace hbel := Lib.hid hbel
      clear hcl htt
      by_cases d1 : 100 < t.text.length
      · have k1 : decide ((100 : Int) < (t.text.length : Int)) = true := decide_eq_true (by omega)
        have k2 : decide (100 < t.text.length) = true := decide_eq_true d1
        have hR := Lib.hid (hbad1.out (fun h => by omega))
        clear d1 hS hbad1
        go_wp2
        go_ret
        exact ⟨ret_b hR.out.symm, hF.out⟩
      have k1 : decide ((100 : Int) < (t.text.length : Int)) = false := decide_eq_false (by omega)
      have k2 : decide (100 < t.text.length) = false := decide_eq_false d1
      by_cases d2 : 100 < t.str.length
      · have k3 : decide ((100 : Int) < (t.str.length : Int)) = true := decide_eq_true (by omega)
        have k4 : decide (100 < t.str.length) = true := decide_eq_true d2
        have hR := Lib.hid (hbad1.out (fun h => by omega))
        clear d1 d2 hS hbad1
        go_wp2
        go_ret
        exact ⟨ret_b hR.out.symm, hF.out⟩
      · have k3 : decide ((100 : Int) < (t.str.length : Int)) = false := decide_eq_false (by omega)
        have k4 : decide (100 < t.str.length) = false := decide_eq_false d2
        have hS' := Lib.hid (hS.out ⟨by omega, by omega⟩)
        clear d1 d2 hS hbad1
        go_wp2
        go_roundw
        case rel => exact ⟨k + 1, by go_num, hlt, hS'.out, hF.out⟩
        case measure => simp [intOf]; omega
    · obtain rfl : k = l.length := by omega
      have hR := Lib.hid (hok.out hall.out)
      clear hlt hall
      go_wp2
      go_ret
      exact ⟨ret_b hR.out.symm, hbel⟩
end Go.Proofs.YtmhnocgoknmljaaDoor
