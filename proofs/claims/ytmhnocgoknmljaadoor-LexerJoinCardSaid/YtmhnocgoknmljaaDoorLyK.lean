/-
  CONTRACT of the law Join.
  Conditions: those that the theorem names.
-/
import Derived.Test.YtmhnocgoknmljaaDoorLyI
namespace Go.Proofs.YtmhnocgoknmljaaDoor
open Go.RowKit Go.Sv Go.Lx
theorem word_le4 {t : Tok} (h : Fw t) : (word t).length ≤ 402 := by
  unfold word
  split
  · have := Lib.itoa_length_le t.int h.i64.1 h.i64.2
    omega
  · split
    · have := flat_le t.str
      have := h.st
      unfold qform
      simp only [List.length_cons, List.length_append, List.length_nil]
      omega
    · have := h.tx
      omega
theorem joinV_le4 : ∀ (l : List Tok) (a : Tok), (∀ t ∈ l, Fw t) → (joinV a l).length ≤ 403 * l.length
  | [], _, _ => by simp [joinV]
  | t :: l, a, h => by
    have ih := joinV_le4 l t (fun x hx => h x (List.mem_cons_of_mem _ hx))
    have hw := word_le4 (h t (List.mem_cons_self ..))
    have h1 : (if apartB a t = true then ([32] : Bs) else []).length ≤ 1 := by split <;> simp
    unfold joinV
    rw [List.length_append, List.length_append, List.length_cons, Nat.mul_add]
    omega
def atL (n : Int) (t : Tok) : Tok := { t with line := n }
theorem tk_joined {vs : List Tok} (h : ∀ t ∈ vs, validT t = true ∧ I64 t) : tk 1 (joinV rd0 vs) = .ok (vs.map (atL 1)) := by
  cases vs with
  | nil => exact tk_nil 1
  | cons a r =>
    have e : joinV rd0 (a :: r) = word a ++ joinV a r := by
      rw [joinV, ap_zero]; rfl
    rw [e]
    exact tk_join 1 r a (h a (List.mem_cons_self ..)).1 (h a (List.mem_cons_self ..)).2 (fun t ht => h t (List.mem_cons_of_mem _ ht))
theorem bare_at (vs : List Tok) (n : Int) : (vs.map (atL n)).map bare = vs.map bare := by
  rw [List.map_map]; rfl
set_option maxHeartbeats 2000000 in
set_option maxRecDepth 100000 in
theorem law_join (A : Option Addr) (c : Nat) (l : List Tok) (w : World) (ht : Tb w) (ha : RTks w w.heap.size A l) (hA : A = none → l.length = 0 ∧ c = 0) (hi : ∀ t ∈ l, I64 t) (hn : l.length ≤ 9223372036854775807) :
    Calls Tryd.prog 6 #[.slice A l.length c] w fun e w' => e = .returned (.bool true) ∧ Below w.heap.size w w' := by
  have HA := Lib.hid (fun W hT => awake_any W hT)
  have HF := Lib.hid (fun W h => few_any A c l W h hn)
  replace ha := Lib.hid ha
  cases hf : fewB l with
  | false =>
    rw [hf] at HF
    clear hf
    go_enter Tryd.func6, Tryd.ntmps6
    go_wp2_with fail
    refine (HA.out w ht).mono ?_
    rintro e w1 ⟨rfl, hb1⟩
    have hT1 := Lib.hid (ht.to hb1)
    have hr1 := Lib.hid (ha.out.to hb1)
    replace hb1 := Lib.hid hb1
    go_wp2_with fail
    refine (HF.out w1 hr1.out).mono ?_
    rintro e w2 ⟨rfl, hb2⟩
    have hT2 := Lib.hid (hT1.out.to hb2)
    have hb12 := Lib.hid (hb1.out.trans (hb2.mono hb1.out.size))
    clear hb2
    go_wp2_with fail
    refine (HA.out w2 hT2.out).mono ?_
    rintro e w3 ⟨rfl, hb3⟩
    have hF := Lib.hid (hb12.out.trans (hb3.mono hb12.out.size))
    clear hb3
    go_wp2
    go_ret
    exact ⟨rfl, hF.out⟩
  | true =>
    rw [hf] at HF
    obtain ⟨h30, hfw⟩ := few_at hf
    have hfw' : ∀ t ∈ l, Fw t := fun t h => ⟨(hfw t h).1, (hfw t h).2, hi t h⟩
    have HC := Lib.hid (fun W h => cloneT_any A c l W h hA (by omega))
    have HJ := Lib.hid (fun A c W hT h => join_any A c l W hT h hfw' (by omega))
    have HR := Lib.hid (fun W hT h => rJoin_any A c l W hT h hfw' (by omega))
    have HV := Lib.hid (fun W hT h => valids_any A c l W hT h (fun t h => by have := (hfw' t h).tx; omega) (by omega))
    obtain ⟨vs, hvs⟩ : ∃ vs, l.filter validT = vs := ⟨_, rfl⟩
    have hvf : ∀ t ∈ vs, Fw t ∧ validT t = true := fun t h => by
      rw [← hvs] at h
      have := List.mem_filter.1 h
      exact ⟨hfw' t this.1, this.2⟩
    have hvn : vs.length ≤ 30 := by rw [← hvs]; exact Nat.le_trans (List.length_filter_le _ _) h30
    have hk := tk_joined (vs := vs) (fun t h => ⟨(hvf t h).2, (hvf t h).1.i64⟩)
    have hsl := joinV_le4 vs rd0 (fun t h => (hvf t h).1)
    rw [hvs] at HJ HR HV
    obtain ⟨s, hs⟩ : ∃ s, joinV rd0 vs = s := ⟨_, rfl⟩
    rw [hs] at HJ HR hk hsl
    have hs6 : s.length ≤ 65536 := by omega
    have HT := Lib.hid (fun W hT => tokens_any s W hT hs6)
    obtain ⟨m, hm⟩ : ∃ m, vs.map (atL 1) = m := ⟨_, rfl⟩
    have hmv : Hid (decide (m.map bare = vs.map bare) = true) := Lib.hid (decide_eq_true (by rw [← hm]; exact bare_at vs 1))
    have hml : m.length = vs.length := by rw [← hm]; simp
    have hln : Hid (∀ k, k < m.length → (tkAt m k).line = 1) := Lib.hid fun k hk => by
      rw [tkAt_get hk]
      subst hm
      simp [atL]
    rw [hm] at hk
    replace hk := Lib.hid hk
    have hm30 : m.length ≤ 30 := by omega
    replace hml := Lib.hid hml
    clear hf hfw hfw' hvf hvs hs hm hsl hs6 hi
    go_enter Tryd.func6, Tryd.ntmps6
    go_wp2_with fail
    refine (HA.out w ht).mono ?_
    rintro e w1 ⟨rfl, hb1⟩
    have hT1 := Lib.hid (ht.to hb1)
    have hr1 := Lib.hid (ha.out.to hb1)
    replace hb1 := Lib.hid hb1
    go_wp2_with fail
    refine (HF.out w1 hr1.out).mono ?_
    rintro e w2 ⟨rfl, hb2⟩
    have hT2 := Lib.hid (hT1.out.to hb2)
    have hr2 := Lib.hid (hr1.out.to hb2)
    have hb12 := Lib.hid (hb1.out.trans (hb2.mono hb1.out.size))
    clear hb2
    go_wp2_with fail
    refine (HC.out w2 hr2.out).mono ?_
    rintro e w3 ⟨v, rfl, hown3, hb3⟩
    obtain ⟨A3, c3, rfl, -, hr3c⟩ := own_tks hown3
    have hT3 := Lib.hid (hT2.out.to hb3)
    have hr3 := Lib.hid (hr2.out.to hb3)
    have hb13 := Lib.hid (hb12.out.trans (hb3.mono hb12.out.size))
    have HJ3 := Lib.hid (HJ.out A3 c3 w3 hT3.out hr3c)
    clear hb3 hown3 hr3c
    go_wp2_with fail
    refine HJ3.out.mono ?_
    rintro e w4 ⟨rfl, hb4⟩
    have hT4 := Lib.hid (hT3.out.to hb4)
    have hr4 := Lib.hid (hr3.out.to hb4)
    have hb14 := Lib.hid (hb13.out.trans (hb4.mono hb13.out.size))
    clear hb4 HJ3
    go_wp2_with fail
    refine (HT.out w4 hT4.out).mono ?_
    rintro e w5 h5
    obtain ⟨v5, rfl, hown5, hb5⟩ := tsr_ok h5 hk.out
    obtain ⟨A5, c5, rfl, -, hr5m⟩ := own_tks hown5
    have hT5 := Lib.hid (hT4.out.to hb5)
    have hr5 := Lib.hid (hr4.out.to hb5)
    have hb15 := Lib.hid (hb14.out.trans (hb5.mono hb14.out.size))
    replace hr5m := Lib.hid hr5m
    clear hb5 hown5 h5
    go_wp2
    go_loopw [28] (fun s28 wr => ∃ k : Nat, s28 = .int .i64 k ∧ k ≤ m.length ∧ Below w5.heap.size w5 wr) (fun s28 _ => m.length - (intOf s28).toNat)
    case atStart => exact ⟨0, rfl, Nat.zero_le _, Below.refl _ _⟩
    case round =>
      obtain ⟨k, rfl, hk', hbel⟩ := hrel
      have hB := hbel.size
      by_cases hlt : k < m.length
      · obtain ⟨b, off, rfl, hb, hcl⟩ := hr5m.out (by omega)
        obtain ⟨c0, c1, c2, c3', c4⟩ := tk_cells (w := wr) (fun i hi => (hbel.cell (p := ⟨b, off + k * 5 + i, none⟩) hb).trans (hcl k hlt i hi))
        have hbw : b < wr.heap.size := by omega
        have j1 : (k : Int) < (m.length : Int) := by omega
        have hl1 := hln.out k hlt
        obtain ⟨t, htt⟩ : ∃ t, tkAt m k = t := ⟨_, rfl⟩
        rw [htt] at c0 c1 c2 c3' c4 hl1
        rw [hl1] at c4
        have hF := Lib.hid (hbel.alloc hB (.cells #[.int .i64 t.kind, .string (bS t.text), .int .i64 t.int, .string (bS t.str), .int .i64 1] 25))
        replace hbel := Lib.hid hbel
        clear hcl htt hl1
        go_wp2
        go_roundw
        case rel => exact ⟨k + 1, by go_num, hlt, hF.out⟩
        case measure => simp [intOf]; omega
      · obtain rfl : k = m.length := by omega
        have hTr := Lib.hid (hT5.out.to hbel)
        have hrr := Lib.hid (hr5.out.to hbel)
        have hrm := Lib.hid (hr5m.out.to hbel)
        have hbr := Lib.hid (hb15.out.trans (hbel.mono hb15.out.size))
        clear hlt hbel
        go_wp2_with fail
        refine (HR.out wr hTr.out hrr.out).mono ?_
        rintro e w6 ⟨rfl, hb6⟩
        have hT6 := Lib.hid (hTr.out.to hb6)
        have hr6 := Lib.hid (hrr.out.to hb6)
        have hrm6 := Lib.hid (hrm.out.to hb6)
        have hb16 := Lib.hid (hbr.out.trans (hb6.mono hbr.out.size))
        clear hb6
        go_wp2_with fail
        refine (HV.out w6 hT6.out hr6.out).mono ?_
        rintro e w7 ⟨v7, rfl, hown7, hb7⟩
        obtain ⟨A7, c7, rfl, -, hr7⟩ := own_tks hown7
        have hrm7 := Lib.hid (hrm6.out.to hb7)
        have hb17 := Lib.hid (hb16.out.trans (hb7.mono hb16.out.size))
        have HS := sameT_any A5 A7 c5 c7 m vs w7 hrm7.out hr7 (by omega) (by omega)
        rw [hmv.out] at HS
        replace HS := Lib.hid HS
        clear hb7 hown7 hr7
        go_wp2_with fail
        refine HS.out.mono ?_
        rintro e w8 ⟨rfl, hb8⟩
        have hF := Lib.hid (hb17.out.trans (hb8.mono hb17.out.size))
        clear hb8
        go_wp2
        go_ret
        exact ⟨rfl, hF.out⟩
end Go.Proofs.YtmhnocgoknmljaaDoor
