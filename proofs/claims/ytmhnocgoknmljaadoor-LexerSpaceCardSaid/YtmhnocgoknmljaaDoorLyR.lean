/-
  CONTRACT of the law Space.
  Conditions: those that the theorem names.
-/
import Derived.Test.YtmhnocgoknmljaaDoorLyQ
namespace Go.Proofs.YtmhnocgoknmljaaDoor
open Go.RowKit Go.Sv Go.Lx
theorem elInt : ElemT Tryd.prog 30 3 (.int .i64 0) 1 8 := ⟨Tryd.underlying30, by kernel_rfl, rfl, by decide⟩
theorem i64_small {x : Int} (h : 0 ≤ x) (h2 : x ≤ 1000000) : IntKind.i64.wrap x = x := by
  simp [IntKind.wrap, IntKind.bits, IntKind.signed]; omega
theorem chK_cases (l : List Int) (h : ∀ i, i < l.length → 0 ≤ gi l i ∧ gi l i < 256) (k : Nat) :
    (k < l.length ∧ ((gi l k).tmod 5 = 0 ∧ chK l k = 0 ∨ (gi l k).tmod 5 = 1 ∧ chK l k = 1 ∨ (gi l k).tmod 5 = 2 ∧ chK l k = 2 ∨ (gi l k).tmod 5 = 3 ∧ chK l k = 3 ∨ (gi l k).tmod 5 = 4 ∧ chK l k = 4)) ∨ (¬ k < l.length ∧ chK l k = 0) := by
  by_cases hk : k < l.length
  · left
    refine ⟨hk, ?_⟩
    obtain ⟨h0, h1⟩ := h k hk
    unfold chK
    rw [if_pos hk, Int.tmod_eq_emod_of_nonneg h0]
    omega
  · right
    exact ⟨hk, by unfold chK; rw [if_neg hk]⟩
set_option maxHeartbeats 4000000 in
set_option maxRecDepth 100000 in
theorem law_space (A : Option Addr) (c : Nat) (l : List Tok) (A1 : Option Addr) (c1 : Nat) (sp : List Int) (w : World) (ht : Tb w) (ha : RTks w w.heap.size A l) (hA : A = none → l.length = 0 ∧ c = 0) (hi : ∀ t ∈ l, I64 t) (hn : l.length ≤ 9223372036854775807)
    (hs : Arr w w.heap.size A1 sp.length (u8w sp)) (hsn : sp.length ≤ 9223372036854775807) (h8 : ∀ i, i < sp.length → 0 ≤ gi sp i ∧ gi sp i < 256) :
    Calls Tryd.prog 5 #[.slice A l.length c, .slice A1 sp.length c1] w fun e w' => e = .returned (.bool true) ∧ Below w.heap.size w w' := by
  have HA := Lib.hid (fun W hT => awake_any W hT)
  have HF := Lib.hid (fun W h => few_any A c l W h hn)
  replace ha := Lib.hid ha
  replace hs := Lib.hid hs
  have hch := Lib.hid (chK_cases sp h8)
  clear h8
  by_cases h20 : 20 < l.length
  · have i1 : decide ((20 : Int) < (l.length : Int)) = true := decide_eq_true (by omega)
    have i2 : decide (20 < l.length) = true := decide_eq_true h20
    clear h20 hch
    go_enter Tryd.func5, Tryd.ntmps5
    go_wp2_with fail
    refine (HA.out w ht).mono ?_
    rintro e w1 ⟨rfl, hb1⟩
    have hT1 := Lib.hid (ht.to hb1)
    replace hb1 := Lib.hid hb1
    go_wp2_with fail
    refine (HA.out w1 hT1.out).mono ?_
    rintro e w2 ⟨rfl, hb2⟩
    have hF := Lib.hid (hb1.out.trans (hb2.mono hb1.out.size))
    clear hb2
    go_wp2
    go_ret
    exact ⟨rfl, hF.out⟩
  have i1 : decide ((20 : Int) < (l.length : Int)) = false := decide_eq_false (by omega)
  have i2 : decide (20 < l.length) = false := decide_eq_false h20
  cases hf : fewB l with
  | false =>
    rw [hf] at HF
    clear hf hch h20
    go_enter Tryd.func5, Tryd.ntmps5
    go_wp2_with fail
    refine (HA.out w ht).mono ?_
    rintro e w1 ⟨rfl, hb1⟩
    have hT1 := Lib.hid (ht.to hb1)
    have hr1 := Lib.hid (ha.out.to hb1)
    replace hb1 := Lib.hid hb1
    go_wp2_with fail
    refine (HF.out w1 hr1.out).mono ?_
    rintro e w2 ⟨rfl, hb2⟩
    have hT2 := Lib.hid (hT1.out.to hb2)
    have hb12 := Lib.hid (hb1.out.trans (hb2.mono hb1.out.size))
    clear hb2
    go_wp2_with fail
    refine (HA.out w2 hT2.out).mono ?_
    rintro e w3 ⟨rfl, hb3⟩
    have hF := Lib.hid (hb12.out.trans (hb3.mono hb12.out.size))
    clear hb3
    go_wp2
    go_ret
    exact ⟨rfl, hF.out⟩
  | true =>
    rw [hf] at HF
    obtain ⟨h30, hfw⟩ := few_at hf
    have hfw' : ∀ t ∈ l, Fw t := fun t h => ⟨(hfw t h).1, (hfw t h).2, hi t h⟩
    have HV := Lib.hid (fun W hT h => valids_any A c l W hT h (fun t h => by have := (hfw' t h).tx; omega) (by omega))
    have HW := Lib.hid (fun t W hT (h : Fw t) => rWord_any t W hT h.i64 (by have := h.st; omega))
    obtain ⟨vs, hvs⟩ : ∃ vs, l.filter validT = vs := ⟨_, rfl⟩
    have hvf : ∀ t ∈ vs, Fw t ∧ validT t = true := fun t h => by
      rw [← hvs] at h
      have := List.mem_filter.1 h
      exact ⟨hfw' t this.1, this.2⟩
    have hvn : vs.length ≤ 20 := by rw [← hvs]; exact Nat.le_trans (List.length_filter_le _ _) (by omega)
    have hk := Lib.hid (tk_strK (vs := vs) (K := chK sp) (fun t h => ⟨(hvf t h).2, (hvf t h).1.i64⟩))
    have hff := Lib.hid (fun k (h : k < vs.length) => (show Fw (tkAt vs k) from by rw [tkAt_get h]; exact (hvf _ (List.getElem_mem h)).1))
    have hsl := Lib.hid (fun n h => strK_le (vs := vs) (K := chK sp) (fun k hk => word_leS (hff.out k hk)) n h)
    rw [hvs] at HV
    have HT := Lib.hid (fun s W hT (h : s.length ≤ 65536) => tokens_any s W hT h)
    have HS := Lib.hid (fun A A' c c' w h1 h2 => sameT_any A A' c c' (outK vs (chK sp) vs.length) vs w h1 h2 (by rw [outK_len]; omega) (by omega))
    rw [decide_eq_true (outK_bare vs (chK sp))] at HS
    have hml : Hid ((outK vs (chK sp) vs.length).length = vs.length) := Lib.hid (outK_len _ _ _)
    have hol := Lib.hid (fun k (h : k < vs.length) => outK_at vs (chK sp) (n := vs.length) h)
    clear hf hfw hfw' hvf hvs hi h30 h20
    go_enter Tryd.func5, Tryd.ntmps5
    go_wp2_with fail
    refine (HA.out w ht).mono ?_
    rintro e w1 ⟨rfl, hb1⟩
    have hT1 := Lib.hid (ht.to hb1)
    have hr1 := Lib.hid (ha.out.to hb1)
    replace hb1 := Lib.hid hb1
    go_wp2_with fail
    refine (HF.out w1 hr1.out).mono ?_
    rintro e w2 ⟨rfl, hb2⟩
    have hT2 := Lib.hid (hT1.out.to hb2)
    have hr2 := Lib.hid (hr1.out.to hb2)
    have hb12 := Lib.hid (hb1.out.trans (hb2.mono hb1.out.size))
    clear hb2
    go_wp2_with fail
    refine (HV.out w2 hT2.out hr2.out).mono ?_
    rintro e w3 ⟨v, rfl, hown3, hb3⟩
    obtain ⟨A3, c3, rfl, -, hr3v⟩ := own_tks hown3
    have hT3 := Lib.hid (hT2.out.to hb3)
    have hr3 := Lib.hid (hr2.out.to hb3)
    have hb13 := Lib.hid (hb12.out.trans (hb3.mono hb12.out.size))
    have hs3 := Lib.hid ((hs.out.below hb13.out).more hb13.out.size)
    replace hr3v := Lib.hid hr3v
    clear hb3 hown3 hb12 hb1 hr1 hr2 hT1 hT2
    go_wp2
    go_loopw [5, 6, 7, 32] (fun s5 s6 s7 s32 wr => ∃ k : Nat, s32 = .int .i64 k ∧ s5 = .string (bS (strK vs (chK sp) k)) ∧ s6 = .int .i64 (linK (chK sp) k) ∧ k ≤ vs.length ∧ wr.ownsRow w3.heap.size 3 1 s7 k (rowK (chK sp) k) ∧ Below w3.heap.size w3 wr) (fun _ _ _ s32 _ => vs.length - (intOf s32).toNat)
    case atStart => exact ⟨0, rfl, rfl, rfl, Nat.zero_le _, World.ownsRow_nil _ _ _ _, Below.refl _ _⟩
    case round =>
      obtain ⟨k, rfl, rfl, rfl, hk', hown, hbel⟩ := hrel
      have hB := hbel.size
      by_cases hlt : k < vs.length
      · obtain ⟨b, off, rfl, hb, hcl⟩ := hr3v.out (by omega)
        obtain ⟨c0, c1', c2, c3', c4⟩ := tk_cells (w := wr) (fun i hi => (hbel.cell (p := ⟨b, off + k * 5 + i, none⟩) hb).trans (hcl k hlt i hi))
        have hbw : b < wr.heap.size := by omega
        have j1 : (k : Int) < (vs.length : Int) := by omega
        have hft := hff.out k hlt
        have hwl := word_leS hft
        have hst := hsl.out k hk'
        have hst1 := spc_le (chK sp k)
        have hli := linK_le (chK sp) k
        have hSt : Hid (strK vs (chK sp) (k + 1) = (strK vs (chK sp) k ++ spc (chK sp k)) ++ word (tkAt vs k)) := Lib.hid rfl
        have hLi : Hid (linK (chK sp) (k + 1) = linK (chK sp) k + spl (chK sp k)) := Lib.hid rfl
        have hRo := Lib.hid (rowK_succ (chK sp) k)
        obtain ⟨t, htt⟩ : ∃ t, tkAt vs k = t := ⟨_, rfl⟩
        rw [htt] at c0 c1' c2 c3' c4 hft hSt hwl
        obtain ⟨kk, x, n, st, ln⟩ := t
        dsimp only at c0 c1' c2 c3' c4
        obtain ⟨W, hW, F⟩ : ∃ W, wr.alloc (.cells #[.int .i64 kk, .string (bS x), .int .i64 n, .string (bS st), .int .i64 ln] 25) = W ∧ Fm wr W [⟨wr.heap.size, 25, [.int .i64 kk, .string (bS x), .int .i64 n, .string (bS st), .int .i64 ln]⟩] [] :=
          ⟨_, rfl, (Fm.init wr).box 25 _⟩
        have hTW := hT3.out.to (hbel.trans (F.bel.mono hB))
        obtain ⟨⟨z1, f1, y10, y11, y12, y13, y14, -⟩, -⟩ := F.facts
        have hTx := Lib.hid (fun o1 o2 => (hTW.to ((Below.refl _ _).alloc (Nat.le_refl _) o1)).to ((Below.refl _ _).alloc (Nat.le_refl _) o2))
        have hBx : Hid (∀ o1 o2 w2, Below ((W.alloc o1).alloc o2).heap.size ((W.alloc o1).alloc o2) w2 → Below wr.heap.size wr w2) := Lib.hid fun o1 o2 w2 h =>
          have h1 : Below wr.heap.size wr ((W.alloc o1).alloc o2) := (F.bel.alloc F.bel.size o1).alloc (F.bel.alloc F.bel.size o1).size o2
          h1.trans (h.mono h1.size)
        have hX := HW.out ⟨kk, x, n, st, ln⟩
        dsimp only [tokV] at hX
        obtain ⟨q, hq⟩ : ∃ q, word ⟨kk, x, n, st, ln⟩ = q := ⟨_, rfl⟩
        rw [hq] at hX hSt hwl
        replace hX := Lib.hid (fun W hT => hX W hT hft)
        obtain ⟨sk, hsk⟩ : ∃ sk, strK vs (chK sp) k = sk := ⟨_, rfl⟩
        obtain ⟨nk, hnk⟩ : ∃ nk, linK (chK sp) k = nk := ⟨_, rfl⟩
        rw [hsk] at hst hSt
        rw [hnk] at hli hLi
        rw [hsk, hnk]
        have key := hch.out k
        rcases key with ⟨hks, key⟩ | ⟨hks, key⟩
        · obtain ⟨b1, off1, rfl, hb1, hcl1⟩ := hs3.out (by omega)
          have hy := (hbel.cell (p := ⟨b1, off1 + k, none⟩) hb1).trans (hcl1 k hks)
          unfold u8w at hy
          obtain ⟨g, hg⟩ : ∃ g, gi sp k = g := ⟨_, rfl⟩
          rw [hg] at hy key
          have hy2 := F.bel.cell (p := ⟨b1, off1 + k, none⟩) (by show b1 < _; omega)
          rw [hy] at hy2
          clear hy hg hcl1
          have hb1w : b1 < W.heap.size := by have := F.bel.size; omega
          have u1 : decide ((k : Int) < (sp.length : Int)) = true := decide_eq_true (by omega)
          have u2 : decide (k < sp.length) = true := decide_eq_true hks
          have u3 : (k : Int) < (sp.length : Int) := by omega
          rcases key with ⟨hm, key⟩ | ⟨hm, key⟩ | ⟨hm, key⟩ | ⟨hm, key⟩ | ⟨hm, key⟩
          · have hsp : spc (chK sp k) = [32] := by rw [key]; rfl
            have hpl : spl (chK sp k) = 0 := by rw [key]; rfl
            rw [hsp] at hSt
            rw [hpl, Int.add_zero] at hLi
            have add1 := fun w => cat_any sk [32] (by simp; omega) w
            have w1 : IntKind.i64.wrap nk = nk := i64_small (by omega) (by omega)
            clear hsp hpl hks key htt hq hnk hsk hcl hst1
            have add2 := fun w => cat_any (sk ++ [32]) q (by simp; omega) w
            go_wp2_with fail
            refine (hX.out _ (hTx.out _ _)).mono ?_
            rintro e w2 ⟨rfl, hb2⟩
            have hb2' := hBx.out _ _ w2 hb2
            have hO := Lib.hid (own_to hown hb2')
            have hF := Lib.hid (hbel.trans (hb2'.mono hB))
            have hB2 := hF.out.size
            clear hb2 hb2' hown hbel F hW y10 y11 y12 y13 y14
            go_wp2_with (at_builtin; refine push_own elInt rfl _ _ rfl w3.heap.size _ k (rowK (chK sp) k) hO.out rfl [.int .i64 nk] rfl rfl rfl (by omega) (by omega) hB2 ?_)
            intro v' w5 hown5 hg5 hb5 hs5 _
            have hO5 : Hid (w5.ownsRow w3.heap.size 3 1 v' (k + 1) (rowK (chK sp) (k + 1))) := Lib.hid (by rw [hRo.out, hLi.out]; exact hown5)
            have hF5 := Lib.hid (hF.out.trans hb5)
            clear hown5 hg5 hb5
            go_wp2
            go_roundw
            case rel => exact ⟨k + 1, by go_num, by rw [hSt.out]; simp only [List.append_assoc, List.cons_append, List.nil_append], by rw [hLi.out], hlt, hO5.out, hF5.out⟩
            case measure => simp [intOf]; omega
          · have hsp : spc (chK sp k) = [9, 32] := by rw [key]; rfl
            have hpl : spl (chK sp k) = 0 := by rw [key]; rfl
            rw [hsp] at hSt
            rw [hpl, Int.add_zero] at hLi
            have add1 := fun w => cat_any sk [9, 32] (by simp; omega) w
            have w1 : IntKind.i64.wrap nk = nk := i64_small (by omega) (by omega)
            clear hsp hpl hks key htt hq hnk hsk hcl hst1
            have add2 := fun w => cat_any (sk ++ [9, 32]) q (by simp; omega) w
            go_wp2_with fail
            refine (hX.out _ (hTx.out _ _)).mono ?_
            rintro e w2 ⟨rfl, hb2⟩
            have hb2' := hBx.out _ _ w2 hb2
            have hO := Lib.hid (own_to hown hb2')
            have hF := Lib.hid (hbel.trans (hb2'.mono hB))
            have hB2 := hF.out.size
            clear hb2 hb2' hown hbel F hW y10 y11 y12 y13 y14
            go_wp2_with (at_builtin; refine push_own elInt rfl _ _ rfl w3.heap.size _ k (rowK (chK sp) k) hO.out rfl [.int .i64 nk] rfl rfl rfl (by omega) (by omega) hB2 ?_)
            intro v' w5 hown5 hg5 hb5 hs5 _
            have hO5 : Hid (w5.ownsRow w3.heap.size 3 1 v' (k + 1) (rowK (chK sp) (k + 1))) := Lib.hid (by rw [hRo.out, hLi.out]; exact hown5)
            have hF5 := Lib.hid (hF.out.trans hb5)
            clear hown5 hg5 hb5
            go_wp2
            go_roundw
            case rel => exact ⟨k + 1, by go_num, by rw [hSt.out]; simp only [List.append_assoc, List.cons_append, List.nil_append], by rw [hLi.out], hlt, hO5.out, hF5.out⟩
            case measure => simp [intOf]; omega
          · have hsp : spc (chK sp k) = [10] := by rw [key]; rfl
            have hpl : spl (chK sp k) = 1 := by rw [key]; rfl
            rw [hsp] at hSt
            rw [hpl] at hLi
            have add1 := fun w => cat_any sk [10] (by simp; omega) w
            have w1 : IntKind.i64.wrap (nk + 1) = (nk + 1) := i64_small (by omega) (by omega)
            clear hsp hpl hks key htt hq hnk hsk hcl hst1
            have add2 := fun w => cat_any (sk ++ [10]) q (by simp; omega) w
            go_wp2_with fail
            refine (hX.out _ (hTx.out _ _)).mono ?_
            rintro e w2 ⟨rfl, hb2⟩
            have hb2' := hBx.out _ _ w2 hb2
            have hO := Lib.hid (own_to hown hb2')
            have hF := Lib.hid (hbel.trans (hb2'.mono hB))
            have hB2 := hF.out.size
            clear hb2 hb2' hown hbel F hW y10 y11 y12 y13 y14
            go_wp2_with (at_builtin; refine push_own elInt rfl _ _ rfl w3.heap.size _ k (rowK (chK sp) k) hO.out rfl [.int .i64 (nk + 1)] rfl rfl rfl (by omega) (by omega) hB2 ?_)
            intro v' w5 hown5 hg5 hb5 hs5 _
            have hO5 : Hid (w5.ownsRow w3.heap.size 3 1 v' (k + 1) (rowK (chK sp) (k + 1))) := Lib.hid (by rw [hRo.out, hLi.out]; exact hown5)
            have hF5 := Lib.hid (hF.out.trans hb5)
            clear hown5 hg5 hb5
            go_wp2
            go_roundw
            case rel => exact ⟨k + 1, by go_num, by rw [hSt.out]; simp only [List.append_assoc, List.cons_append, List.nil_append], by rw [hLi.out], hlt, hO5.out, hF5.out⟩
            case measure => simp [intOf]; omega
          · have hsp : spc (chK sp k) = [47, 47, 32, 97, 59, 32, 34, 98, 10] := by rw [key]; rfl
            have hpl : spl (chK sp k) = 1 := by rw [key]; rfl
            rw [hsp] at hSt
            rw [hpl] at hLi
            have add1 := fun w => cat_any sk [47, 47, 32, 97, 59, 32, 34, 98, 10] (by simp; omega) w
            have w1 : IntKind.i64.wrap (nk + 1) = (nk + 1) := i64_small (by omega) (by omega)
            clear hsp hpl hks key htt hq hnk hsk hcl hst1
            have add2 := fun w => cat_any (sk ++ [47, 47, 32, 97, 59, 32, 34, 98, 10]) q (by simp; omega) w
            go_wp2_with fail
            refine (hX.out _ (hTx.out _ _)).mono ?_
            rintro e w2 ⟨rfl, hb2⟩
            have hb2' := hBx.out _ _ w2 hb2
            have hO := Lib.hid (own_to hown hb2')
            have hF := Lib.hid (hbel.trans (hb2'.mono hB))
            have hB2 := hF.out.size
            clear hb2 hb2' hown hbel F hW y10 y11 y12 y13 y14
            go_wp2_with (at_builtin; refine push_own elInt rfl _ _ rfl w3.heap.size _ k (rowK (chK sp) k) hO.out rfl [.int .i64 (nk + 1)] rfl rfl rfl (by omega) (by omega) hB2 ?_)
            intro v' w5 hown5 hg5 hb5 hs5 _
            have hO5 : Hid (w5.ownsRow w3.heap.size 3 1 v' (k + 1) (rowK (chK sp) (k + 1))) := Lib.hid (by rw [hRo.out, hLi.out]; exact hown5)
            have hF5 := Lib.hid (hF.out.trans hb5)
            clear hown5 hg5 hb5
            go_wp2
            go_roundw
            case rel => exact ⟨k + 1, by go_num, by rw [hSt.out]; simp only [List.append_assoc, List.cons_append, List.nil_append], by rw [hLi.out], hlt, hO5.out, hF5.out⟩
            case measure => simp [intOf]; omega
          · have hsp : spc (chK sp k) = [32, 32, 47, 47, 10, 10] := by rw [key]; rfl
            have hpl : spl (chK sp k) = 2 := by rw [key]; rfl
            rw [hsp] at hSt
            rw [hpl] at hLi
            have add1 := fun w => cat_any sk [32, 32, 47, 47, 10, 10] (by simp; omega) w
            have w1 : IntKind.i64.wrap (nk + 2) = (nk + 2) := i64_small (by omega) (by omega)
            clear hsp hpl hks key htt hq hnk hsk hcl hst1
            have add2 := fun w => cat_any (sk ++ [32, 32, 47, 47, 10, 10]) q (by simp; omega) w
            go_wp2_with fail
            refine (hX.out _ (hTx.out _ _)).mono ?_
            rintro e w2 ⟨rfl, hb2⟩
            have hb2' := hBx.out _ _ w2 hb2
            have hO := Lib.hid (own_to hown hb2')
            have hF := Lib.hid (hbel.trans (hb2'.mono hB))
            have hB2 := hF.out.size
            clear hb2 hb2' hown hbel F hW y10 y11 y12 y13 y14
            go_wp2_with (at_builtin; refine push_own elInt rfl _ _ rfl w3.heap.size _ k (rowK (chK sp) k) hO.out rfl [.int .i64 (nk + 2)] rfl rfl rfl (by omega) (by omega) hB2 ?_)
            intro v' w5 hown5 hg5 hb5 hs5 _
            have hO5 : Hid (w5.ownsRow w3.heap.size 3 1 v' (k + 1) (rowK (chK sp) (k + 1))) := Lib.hid (by rw [hRo.out, hLi.out]; exact hown5)
            have hF5 := Lib.hid (hF.out.trans hb5)
            clear hown5 hg5 hb5
            go_wp2
            go_roundw
            case rel => exact ⟨k + 1, by go_num, by rw [hSt.out]; simp only [List.append_assoc, List.cons_append, List.nil_append], by rw [hLi.out], hlt, hO5.out, hF5.out⟩
            case measure => simp [intOf]; omega
        · have u1 : decide ((k : Int) < (sp.length : Int)) = false := decide_eq_false (by omega)
          have u2 : decide (k < sp.length) = false := decide_eq_false hks
          have hsp : spc (chK sp k) = [32] := by rw [key]; rfl
          have hpl : spl (chK sp k) = 0 := by rw [key]; rfl
          rw [hsp] at hSt
          rw [hpl, Int.add_zero] at hLi
          have add1 := fun w => cat_any sk [32] (by simp; omega) w
          have w1 : IntKind.i64.wrap nk = nk := i64_small (by omega) (by omega)
          clear hsp hpl hks key htt hq hnk hsk hcl hst1
          have add2 := fun w => cat_any (sk ++ [32]) q (by simp; omega) w
          go_wp2_with fail
          refine (hX.out _ (hTx.out _ _)).mono ?_
          rintro e w2 ⟨rfl, hb2⟩
          have hb2' := hBx.out _ _ w2 hb2
          have hO := Lib.hid (own_to hown hb2')
          have hF := Lib.hid (hbel.trans (hb2'.mono hB))
          have hB2 := hF.out.size
          clear hb2 hb2' hown hbel F hW y10 y11 y12 y13 y14
          go_wp2_with (at_builtin; refine push_own elInt rfl _ _ rfl w3.heap.size _ k (rowK (chK sp) k) hO.out rfl [.int .i64 nk] rfl rfl rfl (by omega) (by omega) hB2 ?_)
          intro v' w5 hown5 hg5 hb5 hs5 _
          have hO5 : Hid (w5.ownsRow w3.heap.size 3 1 v' (k + 1) (rowK (chK sp) (k + 1))) := Lib.hid (by rw [hRo.out, hLi.out]; exact hown5)
          have hF5 := Lib.hid (hF.out.trans hb5)
          clear hown5 hg5 hb5
          go_wp2
          go_roundw
          case rel => exact ⟨k + 1, by go_num, by rw [hSt.out]; simp only [List.append_assoc, List.cons_append, List.nil_append], by rw [hLi.out], hlt, hO5.out, hF5.out⟩
          case measure => simp [intOf]; omega
      · obtain rfl : k = vs.length := by omega
        have hTr := Lib.hid (hT3.out.to hbel)
        have hrr := Lib.hid (hr3.out.to hbel)
        have hbr := Lib.hid (hb13.out.trans (hbel.mono hb13.out.size))
        have hsl1 := hsl.out vs.length (Nat.le_refl _)
        obtain ⟨A7, c7, rfl, -, -, hln⟩ := own_arr (f := fun k => .int .i64 (linK (chK sp) (k + 1))) hown (fun j hj => rowK_at _ hj)
        obtain ⟨SK, hSK⟩ : ∃ SK, strK vs (chK sp) vs.length = SK := ⟨_, rfl⟩
        obtain ⟨m, hm⟩ : ∃ m, outK vs (chK sp) vs.length = m := ⟨_, rfl⟩
        rw [hSK] at hk hsl1
        rw [hm] at hk hml hol HS
        rw [hSK]
        have hk1 : Hid (tk 1 (SK ++ [32, 47, 47, 32, 101, 110, 100]) = .ok m) := Lib.hid hk.out
        have add1 := fun w => cat_any SK [32, 47, 47, 32, 101, 110, 100] (by simp; omega) w
        have hz6 : (SK ++ [32, 47, 47, 32, 101, 110, 100]).length ≤ 65536 := by simp; omega
        obtain ⟨Z, hZ⟩ : ∃ Z, SK ++ [32, 47, 47, 32, 101, 110, 100] = Z := ⟨_, rfl⟩
        rw [hZ] at hk1 hz6 add1
        have HT1 := Lib.hid (HT.out Z wr hTr.out hz6)
        clear hZ hz6
        replace hln := Lib.hid hln
        clear hsl1 hsl hff HF hlt hbel hown hSK hk hm HW HT hr3 hr3v hs3 hch hs ha
        go_wp2_with fail
        refine HT1.out.mono ?_
        rintro e w4 h4
        obtain ⟨v4, rfl, hown4, hb4⟩ := tsr_ok h4 hk1.out
        obtain ⟨A4, c4, rfl, -, hr4m⟩ := own_tks hown4
        have hT4 := Lib.hid (hTr.out.to hb4)
        have hr4 := Lib.hid (hrr.out.to hb4)
        have hln4 := Lib.hid ((hln.out.below hb4).more hb4.size)
        have hb14 := Lib.hid (hbr.out.trans (hb4.mono hbr.out.size))
        replace hr4m := Lib.hid hr4m
        clear hb4 hown4 h4 hk1 HT1 hTr hrr hln hbr
        go_wp2_with fail
        refine (HV.out w4 hT4.out hr4.out).mono ?_
        rintro e w5 ⟨v5, rfl, hown5, hb5⟩
        obtain ⟨A5, c5, rfl, -, hr5⟩ := own_tks hown5
        have hr5m := Lib.hid (hr4m.out.to hb5)
        have hln5 := Lib.hid ((hln4.out.below hb5).more hb5.size)
        have hb15 := Lib.hid (hb14.out.trans (hb5.mono hb14.out.size))
        have HS1 := Lib.hid (HS.out A4 A5 c4 c5 w5 hr5m.out hr5)
        clear hb5 hown5 hr5 HV HS hr4 hr4m hln4 hb14 hT4
        go_wp2_with fail
        refine HS1.out.mono ?_
        rintro e w6 ⟨rfl, hb6⟩
        have hr6m := Lib.hid (hr5m.out.to hb6)
        have hln6 := Lib.hid ((hln5.out.below hb6).more hb6.size)
        have hb16 := Lib.hid (hb15.out.trans (hb6.mono hb15.out.size))
        clear hb6 HS1 hr5m hln5 hb15
        go_wp2
        go_loopw [89] (fun s89 wr => ∃ k : Nat, s89 = .int .i64 k ∧ k ≤ m.length ∧ Below w6.heap.size w6 wr) (fun s89 _ => m.length - (intOf s89).toNat)
        case atStart => exact ⟨0, rfl, Nat.zero_le _, Below.refl _ _⟩
        case round =>
          obtain ⟨k, rfl, hk', hbel⟩ := hrel
          have hB := hbel.size
          by_cases hlt : k < m.length
          · obtain ⟨b, off, rfl, hb, hcl⟩ := hr6m.out (by omega)
            obtain ⟨c0, c1', c2, c3', c4⟩ := tk_cells (w := wr) (fun i hi => (hbel.cell (p := ⟨b, off + k * 5 + i, none⟩) hb).trans (hcl k hlt i hi))
            have j3 : k < vs.length := by have := hml.out; omega
            obtain ⟨b2, off2, rfl, hb2, hcl2⟩ := hln6.out (by omega)
            have d0 := (hbel.cell (p := ⟨b2, off2 + k, none⟩) hb2).trans (hcl2 k j3)
            have hbw : b < wr.heap.size := by omega
            have hbw2 : b2 < wr.heap.size := by omega
            have j1 : (k : Int) < (m.length : Int) := by omega
            have j2 : (k : Int) < (vs.length : Int) := by omega
            have hl1 := hol.out k j3
            obtain ⟨t, htt⟩ : ∃ t, tkAt m k = t := ⟨_, rfl⟩
            rw [htt] at c0 c1' c2 c3' c4 hl1
            obtain ⟨kk, x, n, st, ln⟩ := t
            dsimp only at c0 c1' c2 c3' c4 hl1 d0
            rw [← hl1] at d0
            obtain ⟨W, hW, F⟩ : ∃ W, wr.alloc (.cells #[.int .i64 kk, .string (bS x), .int .i64 n, .string (bS st), .int .i64 ln] 25) = W ∧ Fm wr W [⟨wr.heap.size, 25, [.int .i64 kk, .string (bS x), .int .i64 n, .string (bS st), .int .i64 ln]⟩] [] :=
              ⟨_, rfl, (Fm.init wr).box 25 _⟩
            obtain ⟨⟨z1, f1, y10, y11, y12, y13, y14, -⟩, -⟩ := F.facts
            have e0 := (F.bel.cell (p := ⟨b2, off2 + k, none⟩) hbw2).trans d0
            have hF := Lib.hid (hbel.trans (F.bel.mono hB))
            replace hr6m := Lib.hid hr6m
            clear hcl hcl2 htt hl1 F
            go_wp2_with fail
            go_big_quiet (fail)
            go_wp2
            go_roundw
            case rel => exact ⟨k + 1, by go_num, hlt, hF.out.drawn ((Drawn.refl _).drewN _)⟩
            case measure => simp [intOf]; omega
          · have hF := Lib.hid (hb16.out.trans (hbel.mono hb16.out.size))
            obtain rfl : k = m.length := by omega
            clear hlt hbel
            go_wp2
            go_ret
            exact ⟨rfl, hF.out⟩
end Go.Proofs.YtmhnocgoknmljaaDoor
