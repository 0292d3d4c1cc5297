/-
  LAWS StepText, StepParse.
  Conditions: those that each theorem names.
-/
import Derived.Test.YtfcimilimojfoaaDoorStT7
import Derived.Test.YtfcimilimojfoaaDoorStT2
import Derived.Test.YtfcimilimojfoaaDoorStAw
namespace Go.Proofs.YtfcimilimojfoaaDoor
open Go.RowKit Go.Sv Go.Lx
set_option maxHeartbeats 4000000 in
set_option maxRecDepth 100000 in
theorem law_parse (l : Bs) (w : World) (ht : Tb w) (hl : l.length ≤ 9223372036854775807) : Calls Tryd.prog 11 #[.string (bS l)] w fun e w' => e = .returned (.bool true) ∧ Below w.heap.size w w' := by
  have hsz := bS_size l
  have HA := Lib.hid (fun W => awake_any W)
  have S := Lib.hid (Fm.init w)
  go_enter Tryd.func11, Tryd.ntmps11
  go_wp2_with fail
  with_reducible refine (HA.out _).mono ?_
  rintro e w1 ⟨rfl, hb1⟩
  have S1 := Lib.hid (S.out.call hb1)
  have ht1 := Lib.hid (ht.to hb1)
  clear hb1
  by_cases h : l.length ≤ 100
  · have jh : ¬ (100 : Int) < (l.length : Int) := by omega
    have HP := Lib.hid (parse_any l (by omega) w1 ht1.out)
    have HR := Lib.hid (fun W => rparse_any l h W)
    obtain ⟨o, ho⟩ : ∃ o, parR l = o := ⟨_, rfl⟩
    rw [ho] at HP HR
    clear ho
    unfold ParR at HP HR
    obtain ⟨⟨kd, ix, v⟩, hs⟩ : ∃ s : Sp, o.getD ⟨0, 0, 0⟩ = s := ⟨_, rfl⟩
    obtain ⟨er, he⟩ : ∃ er : Int, (if o.isSome then 0 else 2 : Int) = er := ⟨_, rfl⟩
    rw [hs, he] at HP HR
    clear hs he
    go_wp2_with fail
    with_reducible refine HP.out.mono ?_
    rintro e w2 ⟨_, rfl, hb2, rfl⟩
    have S2 := Lib.hid (S1.out.call hb2)
    obtain ⟨W3, (hW3 : w2.alloc (.cells #[.int .i64 kd, .int .i64 ix, .int .i64 v] 52) = W3), S3, hB3⟩ := fm_boxE S2.out 52 [.int .i64 kd, .int .i64 ix, .int .i64 v]
    replace S3 := Lib.hid S3
    clear S S1 S2 hB3 hb2
    obtain ⟨⟨r1, f1, r10, r11, r12, -⟩, -⟩ := S3.out.facts
    go_wp2_with fail
    clear hW3
    with_reducible refine (HR.out _).mono ?_
    rintro e w4 ⟨_, rfl, hb4, rfl⟩
    have S4 := Lib.hid (S3.out.call hb4)
    obtain ⟨W5, (hW5 : w4.alloc (.cells #[.int .i64 kd, .int .i64 ix, .int .i64 v] 52) = W5), S5, hB5⟩ := fm_boxE S4.out 52 [.int .i64 kd, .int .i64 ix, .int .i64 v]
    replace S5 := Lib.hid S5
    clear S3 S4 hB5 hb4 r1 f1 r10 r11 r12
    obtain ⟨⟨q1, g1, q10, q11, q12, -⟩, ⟨r1, f1, r10, r11, r12, -⟩, -⟩ := S5.out.facts
    go_wp2
    go_ret
    exact ⟨rfl, S5.out.bel⟩
  · have jh : (100 : Int) < (l.length : Int) := by omega
    go_wp2_with fail
    with_reducible refine (HA.out _).mono ?_
    rintro e w2 ⟨rfl, hb2⟩
    have S2 := Lib.hid (S1.out.call hb2)
    clear hb2
    go_wp2
    go_ret
    exact ⟨rfl, S2.out.bel⟩
set_option maxHeartbeats 4000000 in
set_option maxRecDepth 100000 in
theorem law_text (s : Sp) (w : World) (ht : Tb w) (hi : s.ix ≤ 9223372036854775807) (hv : s.ver ≤ 9223372036854775807) : Calls Tryd.prog 10 #[stepV s] w fun e w' => e = .returned (.bool true) ∧ Below w.heap.size w w' := by
  have HA := Lib.hid (fun W => awake_any W)
  obtain ⟨W, (hW : w.alloc (.cells #[.int .i64 s.kind, .int .i64 s.ix, .int .i64 s.ver] 52) = W), S, hB⟩ := fm_boxE (Fm.init w) 52 [.int .i64 s.kind, .int .i64 s.ix, .int .i64 s.ver]
  have HF := Lib.hid (fun w' (hb : Below w.heap.size w w') => fmt_any s w' (ht.to hb) hi hv)
  have HR := Lib.hid (fun w' => rFormat_any s w' hi hv)
  have HP : Hid (foE s = 0 → ∀ w', Below w.heap.size w w' → Calls Tryd.prog 38 #[.string (bS (foT s))] w' (Ret (ParR w' (some s)))) := Lib.hid fun h w' hb => by
    have hs : spB s = true := by
      unfold foE at h
      split at h
      · assumption
      · cases h
    have hT : foT s = Go.Sv.stepT s := by unfold foT; rw [if_pos hs]
    have hl : (Go.Sv.stepT s).length ≤ 100000 := by
      have h0 := spB_0 hs
      have l1 := dec_20 (n := s.ix.toNat) (by omega)
      have l2 := dec_20 (n := s.ver.toNat) (by omega)
      have l3 := kindW_len s.kind
      unfold Go.Sv.stepT
      split <;> simp only [List.length_append, List.length_cons, List.length_nil] <;> omega
    rw [hT, ← parR_step ⟨hs, hi, hv⟩]
    exact parse_any _ hl w' (ht.to hb)
  unfold ParR at HP
  obtain ⟨kd, ix, v⟩ := s
  obtain ⟨T, hT⟩ : ∃ T, foT ⟨kd, ix, v⟩ = T := ⟨_, rfl⟩
  obtain ⟨E, hE⟩ : ∃ E, foE ⟨kd, ix, v⟩ = E := ⟨_, rfl⟩
  rw [hT, hE] at HF HR HP
  dsimp only [Option.getD_some, Option.isSome_some] at HP
  rw [if_pos rfl] at HP
  clear hT hE hB hi hv ht
  have SW := Lib.hid S
  obtain ⟨⟨r1, f1, r10, r11, r12, -⟩, -⟩ := S.facts
  clear S
  go_enter Tryd.func10, Tryd.ntmps10
  go_wp2_with fail
  clear hW
  with_reducible refine (HA.out _).mono ?_
  rintro e w1 ⟨rfl, hb1⟩
  have S1 := Lib.hid (SW.out.call hb1)
  clear hb1 SW r1 f1 r10 r11 r12
  obtain ⟨⟨r1, f1, r10, r11, r12, -⟩, -⟩ := S1.out.facts
  go_wp2_with fail
  with_reducible refine (HF.out _ S1.out.bel).mono ?_
  rintro e w2 ⟨_, rfl, hb2, rfl⟩
  have S2 := Lib.hid (S1.out.call hb2)
  clear hb2 S1 HF r1 f1 r10 r11 r12
  obtain ⟨⟨r1, f1, r10, r11, r12, -⟩, -⟩ := S2.out.facts
  go_wp2_with fail
  with_reducible refine (HR.out _).mono ?_
  rintro e w3 ⟨_, rfl, hb3, rfl⟩
  have S3 := Lib.hid (S2.out.call hb3)
  clear hb3 S2 HR r1 f1 r10 r11 r12
  obtain ⟨⟨r1, f1, r10, r11, r12, -⟩, -⟩ := S3.out.facts
  cases hE : (E == 0) with
  | false =>
    have hE2 : (E != 0) = true := by rw [bne, hE]; rfl
    go_wp2
    go_ret
    exact ⟨rfl, S3.out.bel⟩
  | true =>
    have HP2 := Lib.hid (HP.out (beq_iff_eq.1 hE) _ S3.out.bel)
    obtain rfl : E = 0 := beq_iff_eq.1 hE
    clear HP hE
    go_wp2_with fail
    with_reducible refine HP2.out.mono ?_
    rintro e w4 ⟨_, rfl, hb4, rfl⟩
    have S4 := Lib.hid (S3.out.call hb4)
    obtain ⟨W5, (hW5 : w4.alloc (.cells #[.int .i64 kd, .int .i64 ix, .int .i64 v] 52) = W5), S5, hB5⟩ := fm_boxE S4.out 52 [.int .i64 kd, .int .i64 ix, .int .i64 v]
    replace S5 := Lib.hid S5
    clear S3 S4 hB5 hb4 r1 f1 r10 r11 r12 HP2
    obtain ⟨⟨q1, g1, q10, q11, q12, -⟩, ⟨r1, f1, r10, r11, r12, -⟩, -⟩ := S5.out.facts
    go_wp2
    go_ret
    exact ⟨rfl, S5.out.bel⟩
end Go.Proofs.YtfcimilimojfoaaDoor
