/-
  CONTRACTS of the reference's quoted, Quote, part, first and Unquote.
  Conditions: those that each theorem names.
-/
import Derived.Test.YtmhnocgoknmljaaDoorLxG
import Derived.Laws.Concat
namespace Go.Proofs.YtmhnocgoknmljaaDoor
open Go.RowKit Go.Sv Go.Lx
theorem enc_ascii {b : UInt8} (h : b.toNat < 128) : Utf8.encode (b.toNat : Int) = bS [b] := by
  have hv : Utf8.valid (b.toNat : Int) = true := by unfold Utf8.valid; simp; omega
  unfold Utf8.encode
  simp only [hv, if_true]
  rw [if_pos (by omega)]
  simp
theorem cat_any (a b : Bs) (h : a.length + b.length ≤ 1000000000) (w : World) : (Op.stringOp .add (bS a) (bS b)).run Tryd.prog w = .ok (.string (bS (a ++ b))) w := by
  rw [run_string_add_sum w (bS a) (bS b) (by rw [bS_size, bS_size]; omega), bS_app]
set_option maxRecDepth 100000 in
theorem rquoted_any (b : UInt8) (w : World) :
    Calls Tryd.prog 49 #[.int .u8 (b.toNat : Int)] w fun e w' => e = .returned (.string (bS (esc b))) ∧ Drawn w w' := by
  have hcl := b.toNat_lt
  have add1 := fun w => cat_any [92] [b] (by simp) w
  by_cases c92 : (b.toNat : Int) = 92
  · have t1 : ((b.toNat : Int) == 92) = true := by simp [c92]
    have hE := Lib.hid (esc_a (b := b) (by omega))
    have hU := enc_ascii (b := b) (by omega)
    have w1 : IntKind.i32.wrap (b.toNat : Int) = (b.toNat : Int) := by simp [IntKind.wrap, IntKind.bits, IntKind.signed]; omega
    clear c92
    go_enter Tryd.func49, Tryd.ntmps49
    go_wp2
    go_ret
    rw [hE.out]
    exact ⟨rfl, Drawn.refl _⟩
  have t1 : ((b.toNat : Int) == 92) = false := by simp [c92]
  by_cases c34 : (b.toNat : Int) = 34
  · have t2 : ((b.toNat : Int) == 34) = true := by simp [c34]
    have hE := Lib.hid (esc_a (b := b) (by omega))
    have hU := enc_ascii (b := b) (by omega)
    have w1 : IntKind.i32.wrap (b.toNat : Int) = (b.toNat : Int) := by simp [IntKind.wrap, IntKind.bits, IntKind.signed]; omega
    clear c92 c34
    go_enter Tryd.func49, Tryd.ntmps49
    go_wp2
    go_ret
    rw [hE.out]
    exact ⟨rfl, Drawn.refl _⟩
  have t2 : ((b.toNat : Int) == 34) = false := by simp [c34]
  by_cases c10 : (b.toNat : Int) = 10
  · have t3 : ((b.toNat : Int) == 10) = true := by simp [c10]
    have hE := Lib.hid (esc_b (b := b) (by omega))
    clear c92 c34 c10
    go_enter Tryd.func49, Tryd.ntmps49
    go_wp2
    go_ret
    rw [hE.out]
    exact ⟨rfl, Drawn.refl _⟩
  have t3 : ((b.toNat : Int) == 10) = false := by simp [c10]
  by_cases cp : 32 ≤ (b.toNat : Int) ∧ (b.toNat : Int) ≤ 126
  · have t4 : decide (32 ≤ (b.toNat : Int)) = true := decide_eq_true cp.1
    have t5 : decide ((b.toNat : Int) ≤ 126) = true := decide_eq_true cp.2
    have hE := Lib.hid (esc_d (b := b) (by omega) (by omega) (by omega))
    have hU := enc_ascii (b := b) (by omega)
    have w1 : IntKind.i32.wrap (b.toNat : Int) = (b.toNat : Int) := by simp [IntKind.wrap, IntKind.bits, IntKind.signed]; omega
    clear c92 c34 c10 cp
    go_enter Tryd.func49, Tryd.ntmps49
    go_wp2
    go_ret
    rw [hE.out]
    exact ⟨rfl, Drawn.refl _⟩
  have hE := Lib.hid (esc_c (b := b) (by omega) (by omega))
  have t45 : decide (32 ≤ (b.toNat : Int)) = false ∨ (decide (32 ≤ (b.toNat : Int)) = true ∧ decide ((b.toNat : Int) ≤ 126) = false) := by
    by_cases h : 32 ≤ (b.toNat : Int)
    · exact Or.inr ⟨decide_eq_true h, decide_eq_false (by omega)⟩
    · exact Or.inl (decide_eq_false h)
  obtain ⟨x, hx⟩ : ∃ x, b.toNat / 16 = x := ⟨_, rfl⟩
  obtain ⟨y, hy⟩ : ∃ y, b.toNat % 16 = y := ⟨_, rfl⟩
  have hx16 : x < 16 := by omega
  have hy16 : y < 16 := by omega
  have q1 : (b.toNat : Int) / 16 = (x : Int) := by omega
  have q2 : (b.toNat : Int) % 16 = (y : Int) := by omega
  rw [hx, hy] at hE
  have w1 : IntKind.u8.wrap ((x : Int) + 1) = (x : Int) + 1 := by simp [IntKind.wrap, IntKind.bits, IntKind.signed]; omega
  have w2 : IntKind.u8.wrap ((y : Int) + 1) = (y : Int) + 1 := by simp [IntKind.wrap, IntKind.bits, IntKind.signed]; omega
  have hxs : ∀ n, n < 16 → hexS.extract n (n + 1) = bS [hexd n] := by
    intro n hn
    rw [show hexS = bS hexL from rfl, bS_ext, Nat.add_sub_cancel_left, List.drop_eq_getElem_cons (show n < hexL.length from hn)]
    show bS [hexL[n]'hn] = _
    rw [hexL_get n hn]
  have hx1 := hxs x hx16
  have hx2 := hxs y hy16
  unfold hexS at hx1 hx2
  have add2 := fun w => cat_any [92, 120] [hexd x] (by simp) w
  have add3 := fun w => cat_any [92, 120, hexd x] [hexd y] (by simp) w
  clear c92 c34 c10 cp hcl hxs hx hy add1
  rcases t45 with t4 | ⟨t4, t5⟩
  · go_enter Tryd.func49, Tryd.ntmps49
    go_wp2_with fail
    refine wp_region_quiet_lit (by kernel_rfl) (by kernel_rfl) ?_
    repeat (go_big_quiet_step (fail))
    refine wpQuiet_nil ?_
    intro w2 hw2
    have hd : Drawn w w2 := hw2
    clear hw2
    go_wp2
    go_ret
    rw [hE.out]
    exact ⟨rfl, hd⟩
  · go_enter Tryd.func49, Tryd.ntmps49
    go_wp2_with fail
    refine wp_region_quiet_lit (by kernel_rfl) (by kernel_rfl) ?_
    repeat (go_big_quiet_step (fail))
    refine wpQuiet_nil ?_
    intro w2 hw2
    have hd : Drawn w w2 := hw2
    clear hw2
    go_wp2
    go_ret
    rw [hE.out]
    exact ⟨rfl, hd⟩
end Go.Proofs.YtmhnocgoknmljaaDoor
