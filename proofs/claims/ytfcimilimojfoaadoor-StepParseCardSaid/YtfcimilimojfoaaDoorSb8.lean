/-
  PLAIN: texts as bytes.
  Conditions: none.
-/
import Derived.Test.YtfcimilimojfoaaDoorStpV
import Derived.Lib.Index
import Derived.Test.YtfcimilimojfoaaDoorStA
import Derived.Test.YtfcimilimojfoaaDoorShelfI

namespace Go.Lx
open Go
abbrev bS (l : Bs) : ByteArray := ⟨l.toArray⟩
theorem bS_size (l : Bs) : (bS l).size = l.length := by simp [ByteArray.size]
theorem bS_get (l : Bs) (k : Nat) (_h : k < (bS l).size) (h' : k < l.length) : (bS l)[k] = l[k] := rfl
theorem bS_ext (l : Bs) (a b : Nat) : (bS l).extract a b = bS ((l.drop a).take (b - a)) := by
  apply ByteArray.ext
  rw [ByteArray.data_extract]
  simp [List.extract_eq_take_drop]
theorem bS_app (a b : Bs) : bS a ++ bS b = bS (a ++ b) := by
  apply ByteArray.ext
  rw [ByteArray.data_append]
  simp
theorem bS_inj {a b : Bs} (h : bS a = bS b) : a = b := by
  have := congrArg (fun x : ByteArray => x.data.toList) h
  simpa using this
theorem bS_from (l : Bs) (a : Nat) : (bS l).extract a (bS l).size = bS (l.drop a) := by
  rw [bS_ext, bS_size, List.take_of_length_le (by simp)]
theorem bS_to (l : Bs) (b : Nat) : (bS l).extract 0 b = bS (l.take b) := by rw [bS_ext]; simp
theorem bS_of (s : ByteArray) : s = bS s.data.toList := by
  apply ByteArray.ext
  simp
end Go.Lx

namespace Go.Proofs.YtfcimilimojfoaaDoor
open Go.RowKit Go.Sv Go.Lx
theorem itoaS_any (n : Nat) (h : n < 100) (w : World) : Calls Tryd.prog 64 #[.int .i64 (n : Int)] w fun e w' => e = .returned (.string (bS (Lib.decDigits n))) ∧ Below w.heap.size w w' :=
  (Tryd.strconv_Itoa_small n h w).mono fun e w' ⟨he, hw⟩ => ⟨he, by rw [hw]; exact Below.refl _ _⟩
theorem word_any (k : Int) (h1 : 1 ≤ k) (h2 : k ≤ 4) (w : World) : Calls Tryd.prog 63 #[.int .i64 k] w fun e w' => e = .returned (.string (bS (kindW k))) ∧ Below w.heap.size w w' := by
  have hk : k = 1 ∨ k = 2 ∨ k = 3 ∨ k = 4 := by omega
  have hb := Lib.hid ((Below.refl w.heap.size w).alloc (Nat.le_refl _) (.cells #[.string ⟨#[]⟩, .string ⟨#[115, 116, 97, 114, 116]⟩, .string ⟨#[102, 105, 110, 105, 115, 104]⟩, .string ⟨#[99, 108, 101, 97, 114]⟩, .string ⟨#[97, 98, 111, 114, 116]⟩] 9))
  rcases hk with rfl | rfl | rfl | rfl
  · go_enter Tryd.func63, Tryd.ntmps63
    go_wp2
    go_ret
    exact ⟨rfl, hb.out⟩
  · go_enter Tryd.func63, Tryd.ntmps63
    go_wp2
    go_ret
    exact ⟨rfl, hb.out⟩
  · go_enter Tryd.func63, Tryd.ntmps63
    go_wp2
    go_ret
    exact ⟨rfl, hb.out⟩
  · go_enter Tryd.func63, Tryd.ntmps63
    go_wp2
    go_ret
    exact ⟨rfl, hb.out⟩
/-- the answer of Format -/
def foE (s : Sp) : Int := if spB s = true then 0 else 1
def foT (s : Sp) : Bs := if spB s = true then Go.Sv.stepT s else []
def StrR (w : World) (t : Bs) (e : Int) (v : Value) (w' : World) : Prop := Below w.heap.size w w' ∧ v = .tuple #[.string (bS t), .int .i64 e]
theorem kindW_len (k : Int) : (kindW k).length ≤ 6 := by
  unfold kindW
  repeat' split
  all_goals decide
theorem dec_len (n : Nat) : (Lib.decDigits n).length ≤ n + 1 := by
  rw [Lib.decDigits_length]
  induction n using Nat.strongRecOn with
  | _ u ih =>
    rw [Lib.nDigits]
    split
    · omega
    · have := ih (u / 10) (by omega)
      omega
set_option maxHeartbeats 2000000 in
set_option maxRecDepth 100000 in
theorem Format_any (s : Sp) (w : World) (hlen : spB s = true → (Lib.decDigits s.ix.toNat).length ≤ 1000 ∧ (Lib.decDigits s.ver.toNat).length ≤ 1000)
    (H1 : spB s = true → ∀ W, Below w.heap.size w W → Calls Tryd.prog 64 #[.int .i64 s.ix] W fun e w' => e = .returned (.string (bS (Lib.decDigits s.ix.toNat))) ∧ Below W.heap.size W w')
    (H2 : spB s = true → ∀ W, Below w.heap.size w W → Calls Tryd.prog 64 #[.int .i64 s.ver] W fun e w' => e = .returned (.string (bS (Lib.decDigits s.ver.toNat))) ∧ Below W.heap.size W w') :
    Calls Tryd.prog 36 #[stepV s] w (Ret (StrR w (foT s) (foE s))) := by
  obtain ⟨W, (hW : w.alloc (.cells #[.int .i64 s.kind, .int .i64 s.ix, .int .i64 s.ver] 52) = W), S, hB⟩ := fm_boxE (Fm.init w) 52 [.int .i64 s.kind, .int .i64 s.ix, .int .i64 s.ver]
  have HV := Lib.hid (svalid_any s W)
  have SW := Lib.hid S
  unfold foT foE
  cases hs : spB s with
  | false =>
    rw [hs] at HV
    obtain ⟨kd, ix, v⟩ := s
    obtain ⟨⟨r1, f1, r10, r11, r12, -⟩, -⟩ := S.facts
    clear hlen H1 H2 hB S hs
    go_enter Tryd.func36, Tryd.ntmps36
    go_wp2_with fail
    clear hW
    with_reducible refine HV.out.mono ?_
    rintro e w1 ⟨rfl, hb1⟩
    have S1 := Lib.hid (SW.out.call hb1)
    clear r1 f1 r10 r11 r12 hb1
    go_wp2
    refine bodyPost_ret (v := .tuple #[.string ⟨#[]⟩, .int .i64 1]) (by simp [results, Tryd.results36, go_sem]) rfl ?_
    exact Ret.mk ⟨S1.out.bel, rfl⟩
  | true =>
    rw [hs] at HV
    replace H1 := Lib.hid (fun W2 (h : Below W.heap.size W W2) => H1 hs W2 (hB.trans (h.mono hB.size)))
    replace H2 := Lib.hid (fun W2 (h : Below W.heap.size W W2) => H2 hs W2 (hB.trans (h.mono hB.size)))
    obtain ⟨l1, l2⟩ := hlen hs
    have hkk : 1 ≤ s.kind ∧ s.kind ≤ 4 := by unfold spB at hs; have := of_decide_eq_true hs; omega
    have HWd := Lib.hid (fun W2 => word_any s.kind hkk.1 hkk.2 W2)
    have lk := kindW_len s.kind
    obtain ⟨kd, ix, v⟩ := s
    dsimp only at l1 l2 hkk HWd H1 H2 lk ⊢
    have hT : Hid (∀ t, Go.Sv.stepT ⟨kd, ix, v⟩ = t → kindW kd ++ [32] ++ Lib.decDigits ix.toNat ++ (if kd = 1 then [32] ++ Lib.decDigits v.toNat else []) = t) := Lib.hid fun t h => by rw [← h]; unfold Go.Sv.stepT; simp
    obtain ⟨T, hTT⟩ : ∃ T, Go.Sv.stepT ⟨kd, ix, v⟩ = T := ⟨_, rfl⟩
    replace hT := Lib.hid (hT.out T hTT)
    rw [if_pos rfl, if_pos rfl, hTT]
    obtain ⟨a, ha⟩ : ∃ a, kindW kd = a := ⟨_, rfl⟩
    obtain ⟨b, hb⟩ : ∃ b, Lib.decDigits ix.toNat = b := ⟨_, rfl⟩
    obtain ⟨c, hc⟩ : ∃ c, Lib.decDigits v.toNat = c := ⟨_, rfl⟩
    rw [ha] at HWd hT lk
    rw [hb] at H1 hT l1
    rw [hc] at H2 hT l2
    obtain ⟨⟨r1, f1, r10, r11, r12, -⟩, -⟩ := S.facts
    clear hlen hB S hs hTT ha hb hc
    go_enter Tryd.func36, Tryd.ntmps36
    go_wp2_with fail
    clear hW
    with_reducible refine HV.out.mono ?_
    rintro e w1 ⟨rfl, hb1⟩
    have S1 := Lib.hid (SW.out.call hb1)
    replace hb1 := Lib.hid hb1
    clear r1 f1 r10 r11 r12
    obtain ⟨⟨r1, f1, r10, r11, r12, -⟩, -⟩ := S1.out.facts
    have hX := Lib.hid (fun x : GrowX w1 => calm_b (HWd.out (grow w1 x)))
    have hY := Lib.hid (fun x : GrowX w1 => calm_b (H1.out (grow w1 x) (hb1.out.trans ((grow_is w1 x).mono hb1.out.size))))
    have s1 := bS_size a
    have s2 := bS_size b
    have s3 : (bS a ++ ⟨#[32]⟩).size = a.length + 1 := by rw [ByteArray.size_append, s1]; rfl
    have add1 := fun w => run_string_add_sum (P := Tryd.prog) w (bS a) ⟨#[32]⟩ (by rw [s1]; show a.length + 1 ≤ _; omega)
    have add2 := fun w => run_string_add_sum (P := Tryd.prog) w (bS a ++ ⟨#[32]⟩) (bS b) (by rw [s3, s2]; omega)
    clear s1 s2 s3
    go_wp2_with fail
    refine wp_region_calm (by kernel_rfl) (by kernel_rfl) ?_
    repeat (go_big_quiet_step (first | (go_at_call 63; with_reducible exact hX.out _) | (go_at_call 64; with_reducible exact hY.out _)))
    refine wpQuiet_nil ?_
    intro w2 hw2
    have hb2 := grow_below hw2
    have S2 := Lib.hid (S1.out.call hb2)
    replace hb2 := Lib.hid (hb1.out.trans (hb2.mono hb1.out.size))
    clear hw2 hX hY add1 add2 r1 f1 r10 r11 r12
    obtain ⟨⟨r1, f1, r10, r11, r12, -⟩, -⟩ := S2.out.facts
    cases hk1 : (kd == 1) with
    | false =>
      have hE : Hid (bS a ++ ⟨#[32]⟩ ++ bS b = bS T) := Lib.hid (by
        have := hT.out
        rw [if_neg (fun h => by rw [h] at hk1; simp at hk1), List.append_nil] at this
        rw [← this, ← bS_app, ← bS_app])
      go_wp2
      refine bodyPost_ret (v := .tuple #[.string (bS a ++ ⟨#[32]⟩ ++ bS b), .int .i64 0]) (by simp [results, Tryd.results36, go_sem]) rfl ?_
      exact Ret.mk ⟨S2.out.bel, by rw [hE.out]⟩
    | true =>
      have hE : Hid (bS a ++ ⟨#[32]⟩ ++ bS b ++ (⟨#[32]⟩ ++ bS c) = bS T) := Lib.hid (by
        have := hT.out
        rw [if_pos (beq_iff_eq.1 hk1)] at this
        rw [← this, ← bS_app, ← bS_app, ← bS_app, ← bS_app])
      have s1 := bS_size a
      have s2 := bS_size b
      have s3 := bS_size c
      have s4 : (bS a ++ ⟨#[32]⟩ ++ bS b).size = a.length + 1 + b.length := by rw [ByteArray.size_append, ByteArray.size_append, s1, s2]; rfl
      have s5 : ((⟨#[32]⟩ : ByteArray) ++ bS c).size = 1 + c.length := by rw [ByteArray.size_append, s3]; rfl
      have add1 := fun w => run_string_add_sum (P := Tryd.prog) w ⟨#[32]⟩ (bS c) (by rw [s3]; show 1 + c.length ≤ _; omega)
      have add2 := fun w => run_string_add_sum (P := Tryd.prog) w (bS a ++ ⟨#[32]⟩ ++ bS b) (⟨#[32]⟩ ++ bS c) (by rw [s4, s5]; omega)
      clear s1 s2 s3 s4 s5
      go_wp2_with fail
      with_reducible refine (H2.out w2 hb2.out).mono ?_
      rintro e w3 ⟨rfl, hb3⟩
      have S3 := Lib.hid (S2.out.call hb3)
      clear hb3 r1 f1 r10 r11 r12
      go_wp2
      refine bodyPost_ret (v := .tuple #[.string (bS a ++ ⟨#[32]⟩ ++ bS b ++ (⟨#[32]⟩ ++ bS c)), .int .i64 0]) (by simp [results, Tryd.results36, go_sem]) rfl ?_
      exact Ret.mk ⟨S3.out.bel, by rw [hE.out]⟩
end Go.Proofs.YtfcimilimojfoaaDoor
