/-
  CONTRACT of sheaveref37.Format.
  Conditions: those that each theorem names.
-/
import Derived.Test.YtfcimilimojfoaaDoorStT1
import Derived.Deep.RegionLaw
namespace Go.Proofs.YtfcimilimojfoaaDoor
open Go.RowKit Go.Sv Go.Lx
theorem digB (n : Nat) (h : n ≤ 9223372036854775807) (w : World) : Calls Tryd.prog 65 #[.int .i64 (n : Int)] w fun e w' => e = .returned (.string (bS (Lib.decDigits n))) ∧ Below w.heap.size w w' :=
  (digits_any n h w).mono fun _ _ ⟨h1, h2⟩ => ⟨h1, h2 ▸ Below.refl _ _⟩
set_option maxHeartbeats 4000000 in
set_option maxRecDepth 100000 in
theorem rFormat_any (s : Sp) (w : World) (hi : s.ix ≤ 9223372036854775807) (hv : s.ver ≤ 9223372036854775807) : Calls Tryd.prog 37 #[stepV s] w (Ret (StrR w (foT s) (foE s))) := by
  obtain ⟨W, (hW : w.alloc (.cells #[.int .i64 s.kind, .int .i64 s.ix, .int .i64 s.ver] 52) = W), S, hB⟩ := fm_boxE (Fm.init w) 52 [.int .i64 s.kind, .int .i64 s.ix, .int .i64 s.ver]
  have HV := Lib.hid (rsvalid_any s W)
  have SW := Lib.hid S
  unfold foT foE
  cases hs : spB s with
  | false =>
    rw [hs] at HV
    obtain ⟨kd, ix, v⟩ := s
    obtain ⟨⟨r1, f1, r10, r11, r12, -⟩, -⟩ := S.facts
    clear hB S hs
    go_enter Tryd.func37, Tryd.ntmps37
    go_wp2_with fail
    clear hW
    with_reducible refine HV.out.mono ?_
    rintro e w1 ⟨rfl, hb1⟩
    have S1 := Lib.hid (SW.out.call hb1)
    clear r1 f1 r10 r11 r12 hb1
    go_wp2
    refine bodyPost_ret (v := .tuple #[.string ⟨#[]⟩, .int .i64 1]) (by simp [results, Tryd.results37, go_sem]) rfl ?_
    exact Ret.mk ⟨S1.out.bel, rfl⟩
  | true =>
    rw [hs] at HV
    have hkk : (1 ≤ s.kind ∧ s.kind ≤ 4) ∧ 0 ≤ s.ix ∧ 0 ≤ s.ver := by unfold spB at hs; have := of_decide_eq_true hs; omega
    obtain ⟨kd, ix, v⟩ := s
    dsimp only at hkk HV hi hv hW S SW ⊢
    obtain ⟨n, rfl⟩ : ∃ n : Nat, ix = (n : Int) := ⟨ix.toNat, by omega⟩
    obtain ⟨m, rfl⟩ : ∃ m : Nat, v = (m : Int) := ⟨v.toNat, by omega⟩
    have hT : Hid (∀ t, Go.Sv.stepT ⟨kd, n, m⟩ = t → kindW kd ++ [32] ++ Lib.decDigits n ++ (if kd = 1 then [32] ++ Lib.decDigits m else []) = t) := Lib.hid fun t h => by rw [← h]; unfold Go.Sv.stepT; split <;> simp
    obtain ⟨T, hTT⟩ : ∃ T, Go.Sv.stepT ⟨kd, n, m⟩ = T := ⟨_, rfl⟩
    replace hT := Lib.hid (hT.out T hTT)
    rw [if_pos rfl, if_pos rfl, hTT]
    have H1 := Lib.hid (fun W2 => digB n (by omega) W2)
    have H2 := Lib.hid (fun W2 => digB m (by omega) W2)
    have H3 := Lib.hid (fun W2 => digits_any n (by omega) W2)
    have l1 := dec_20 (n := n) (by omega)
    have l2 := dec_20 (n := m) (by omega)
    obtain ⟨b, hb⟩ : ∃ b, Lib.decDigits n = b := ⟨_, rfl⟩
    obtain ⟨c, hc⟩ : ∃ c, Lib.decDigits m = c := ⟨_, rfl⟩
    rw [hb] at H1 H3 hT l1
    rw [hc] at H2 hT l2
    obtain ⟨⟨r1, f1, r10, r11, r12, -⟩, -⟩ := S.facts
    clear hB S hs hTT hb hc
    go_enter Tryd.func37, Tryd.ntmps37
    go_wp2_with fail
    clear hW
    with_reducible refine HV.out.mono ?_
    rintro e w1 ⟨rfl, hb1⟩
    have S1 := Lib.hid (SW.out.call hb1)
    clear r1 f1 r10 r11 r12 hb1
    obtain ⟨⟨r1, f1, r10, r11, r12, -⟩, -⟩ := S1.out.facts
    by_cases hk1 : kd = 1
    · subst hk1
      have hE : Hid (bS [115, 116, 97, 114, 116, 32] ++ bS b ++ ⟨#[32]⟩ ++ bS c = bS T) := Lib.hid (by
        have := hT.out
        rw [if_pos rfl] at this
        rw [← this, show (⟨#[32]⟩ : ByteArray) = bS [32] from rfl, bS_app, bS_app, bS_app]
        congr 1
        simp [kindW])
      have hX := Lib.hid (fun x : GrowX w1 => calm_b (H1.out (grow w1 x)))
      have hY := Lib.hid (fun x : GrowX w1 => calm_b (H2.out (grow w1 x)))
      have s1 := bS_size b
      have s2 := bS_size c
      have s3 : (bS [115, 116, 97, 114, 116, 32] ++ bS b).size = 6 + b.length := by rw [ByteArray.size_append, s1]; rfl
      have s4 : (bS [115, 116, 97, 114, 116, 32] ++ bS b ++ ⟨#[32]⟩).size = 6 + b.length + 1 := by rw [ByteArray.size_append, s3]; rfl
      have add1 := fun w => run_string_add_sum (P := Tryd.prog) w (bS [115, 116, 97, 114, 116, 32]) (bS b) (by rw [s1]; show 6 + b.length ≤ _; omega)
      have add2 := fun w => run_string_add_sum (P := Tryd.prog) w (bS [115, 116, 97, 114, 116, 32] ++ bS b) ⟨#[32]⟩ (by rw [s3]; show 6 + b.length + 1 ≤ _; omega)
      have add3 := fun w => run_string_add_sum (P := Tryd.prog) w (bS [115, 116, 97, 114, 116, 32] ++ bS b ++ ⟨#[32]⟩) (bS c) (by rw [s4, s2]; omega)
      clear s1 s2 s3 s4
      go_wp2_with fail
      refine wp_region_calm (by kernel_rfl) (by kernel_rfl) ?_
      repeat (go_big_quiet_step (first | (go_at_call 65; with_reducible exact hX.out _) | (go_at_call 65; with_reducible exact hY.out _)))
      refine wpQuiet_nil ?_
      intro w2 hw2
      have S2 := Lib.hid (S1.out.call (grow_below hw2))
      clear hw2 hX hY add1 add2 add3 r1 f1 r10 r11 r12
      go_wp2
      refine bodyPost_ret (v := .tuple #[.string (bS [115, 116, 97, 114, 116, 32] ++ bS b ++ ⟨#[32]⟩ ++ bS c), .int .i64 0]) (by simp [results, Tryd.results37, go_sem]) rfl ?_
      exact Ret.mk ⟨S2.out.bel, by rw [hE.out]⟩
    · rcases (show kd = 2 ∨ kd = 3 ∨ kd = 4 by omega) with hk | hk | hk
      · subst hk
        have hE : Hid (bS [102, 105, 110, 105, 115, 104, 32] ++ bS b = bS T) := Lib.hid (by
          have := hT.out
          rw [if_neg (by decide), List.append_nil] at this
          rw [← this, bS_app]
          congr 1 <;> simp [kindW])
        have s1 := bS_size b
        have add1 := fun w => run_string_add_sum (P := Tryd.prog) w (bS [102, 105, 110, 105, 115, 104, 32]) (bS b) (by rw [s1]; show 7 + b.length ≤ _; omega)
        clear s1 hk1
        have hw0 : IntKind.i64.wrap 0 = 0 := by decide
        go_wp2_with fail
        go_region_law ((go_simp; go_at_call 65; refine (H3.out _).mono ?_; rintro e' w' ⟨rfl, rfl⟩))
        all_goals
          clear add1 hw0
          go_wp2
          refine bodyPost_ret (v := .tuple #[.string (bS [102, 105, 110, 105, 115, 104, 32] ++ bS b), .int .i64 0]) (by simp [results, Tryd.results37, go_sem]) rfl ?_
          exact Ret.mk ⟨(S1.out.bel.alloc S1.out.bel.size _).drew, by rw [hE.out]⟩
      · subst hk
        have hE : Hid (bS [99, 108, 101, 97, 114, 32] ++ bS b = bS T) := Lib.hid (by
          have := hT.out
          rw [if_neg (by decide), List.append_nil] at this
          rw [← this, bS_app]
          congr 1 <;> simp [kindW])
        have s1 := bS_size b
        have add1 := fun w => run_string_add_sum (P := Tryd.prog) w (bS [99, 108, 101, 97, 114, 32]) (bS b) (by rw [s1]; show 6 + b.length ≤ _; omega)
        clear s1 hk1
        have hw0 : IntKind.i64.wrap 1 = 1 := by decide
        go_wp2_with fail
        go_region_law ((go_simp; go_at_call 65; refine (H3.out _).mono ?_; rintro e' w' ⟨rfl, rfl⟩))
        all_goals
          clear add1 hw0
          go_wp2
          refine bodyPost_ret (v := .tuple #[.string (bS [99, 108, 101, 97, 114, 32] ++ bS b), .int .i64 0]) (by simp [results, Tryd.results37, go_sem]) rfl ?_
          exact Ret.mk ⟨(S1.out.bel.alloc S1.out.bel.size _).drew, by rw [hE.out]⟩
      · subst hk
        have hE : Hid (bS [97, 98, 111, 114, 116, 32] ++ bS b = bS T) := Lib.hid (by
          have := hT.out
          rw [if_neg (by decide), List.append_nil] at this
          rw [← this, bS_app]
          congr 1 <;> simp [kindW])
        have s1 := bS_size b
        have add1 := fun w => run_string_add_sum (P := Tryd.prog) w (bS [97, 98, 111, 114, 116, 32]) (bS b) (by rw [s1]; show 6 + b.length ≤ _; omega)
        clear s1 hk1
        have hw0 : IntKind.i64.wrap 2 = 2 := by decide
        go_wp2_with fail
        go_region_law ((go_simp; go_at_call 65; refine (H3.out _).mono ?_; rintro e' w' ⟨rfl, rfl⟩))
        all_goals
          clear add1 hw0
          go_wp2
          refine bodyPost_ret (v := .tuple #[.string (bS [97, 98, 111, 114, 116, 32] ++ bS b), .int .i64 0]) (by simp [results, Tryd.results37, go_sem]) rfl ?_
          exact Ret.mk ⟨(S1.out.bel.alloc S1.out.bel.size _).drew, by rw [hE.out]⟩
end Go.Proofs.YtfcimilimojfoaaDoor
