/-
  CONTRACTS of the program's escaped, quoted and Unquote.
  Conditions: those that each theorem names.
-/
import Derived.Test.YtmhnocgoknmljaaDoorLxW
import Derived.Deep.RegionHeld3
namespace Go.Proofs.YtmhnocgoknmljaaDoor
open Go.RowKit Go.Sv Go.Lx
/-- what escaped hands back: the flag, and the byte and the length behind it -/
def EscR (l : Bs) (w : World) (e : Ending) (w' : World) : Prop :=
  ∃ (x : UInt8) (n : Nat) (o : Bool), e = .returned (.tuple #[.int .u8 (x.toNat : Int), .int .i64 n, .bool o]) ∧ n ≤ 3 ∧ (o = false → escD l = none) ∧ (o = true → escD l = some (x, n)) ∧ Drawn w w'
theorem ixb_any (c : UInt8) (w : World) : Calls Tryd.prog 41 #[.string ⟨#[48, 49, 50, 51, 52, 53, 54, 55, 56, 57, 97, 98, 99, 100, 101, 102]⟩, .int .u8 (c.toNat : Int)] w fun e w' => e = .returned (.int .i64 (ixO (hexv c))) ∧ w = w' := by
  have h := Tryd.strings_IndexByte (bS hexL) (c.toNat : Int) w
  rw [show (bS hexL).data.toList = hexL from rfl, show ((c.toNat : Int).toNat.toUInt8) = c from by simp, ix_hex] at h
  exact h.mono fun _ _ ⟨h1, h2⟩ => ⟨h1, h2.symm⟩
theorem escD_c {l : Bs} (h : 0 < l.length) : escD l = if l[0].toNat = 34 ∨ l[0].toNat = 92 then some (l[0], 1) else if l[0].toNat = 110 then some (10, 1) else if l[0].toNat = 120 then (match l.drop 1 with
    | a :: b :: _ => escX a b
    | _ => none) else none := by
  cases l with
  | nil => simp at h
  | cons c r => rfl
theorem escD_x {l : Bs} (h : 2 < l.length) (e : l[0].toNat = 120) : escD l = escX l[1] l[2] := by
  rw [escD_c (by omega), if_neg (by omega), if_neg (by omega), if_pos e, List.drop_eq_getElem_cons (by omega), List.drop_eq_getElem_cons (by omega)]
theorem escD_xs {l : Bs} (h0 : 0 < l.length) (h : l.length < 3) (e : l[0].toNat = 120) : escD l = none := by
  rw [escD_c h0, if_neg (by omega), if_neg (by omega), if_pos e]
  match l, h with
  | [_], _ => rfl
  | [_, _], _ => rfl
theorem hexv_lt {c : UInt8} {n : Nat} (h : hexv c = some n) : n < 16 := (hexd_hexv h).1
theorem escX_bad {a b : UInt8} (h : ixO (hexv a) < 0 ∨ ixO (hexv b) < 0) : escX a b = none := by
  unfold escX
  cases ha : hexv a with
  | none => rfl
  | some x =>
    cases hb : hexv b with
    | none => rfl
    | some y =>
      rw [ha, hb] at h
      have h : (x : Int) < 0 ∨ (y : Int) < 0 := h
      omega
theorem escX_ok {a b : UInt8} (h1 : ¬ ixO (hexv a) < 0) (h2 : ¬ ixO (hexv b) < 0) : ∃ x y : Nat, ixO (hexv a) = x ∧ ixO (hexv b) = y ∧ x < 16 ∧ y < 16 ∧ escX a b = if (16 * x + y < 32 ∨ 126 < 16 * x + y) ∧ 16 * x + y ≠ 10 then some (UInt8.ofNat (16 * x + y), 3) else none := by
  cases ha : hexv a with
  | none => rw [ha] at h1; exact absurd (by decide) h1
  | some x =>
    cases hb : hexv b with
    | none => rw [hb] at h2; exact absurd (by decide) h2
    | some y =>
      refine ⟨x, y, rfl, rfl, hexv_lt ha, hexv_lt hb, ?_⟩
      unfold escX
      rw [ha, hb]
set_option maxRecDepth 100000 in
theorem escaped_any (l : Bs) (w : World) (hn : l.length ≤ 1000000) :
    Calls Tryd.prog 63 #[.string (bS l)] w (EscR l w) := by
  have hsz := Lib.hid (bS_size l)
  by_cases h0 : l = []
  · subst h0
    go_enter Tryd.func63, Tryd.ntmps63
    go_wp2
    refine bodyPost_ret (v := .tuple #[.int .u8 0, .int .i64 0, .bool false]) (by simp [results, Tryd.results63, go_sem]) rfl ?_
    exact ⟨0, 0, false, rfl, by omega, fun _ => rfl, fun h => (by cases h), Drawn.refl _⟩
  have hl0 := len_pos h0
  have e1 := isE_false h0
  clear h0
  have hD := Lib.hid (escD_c hl0)
  obtain ⟨c, hc⟩ : ∃ c, l[0] = c := ⟨_, rfl⟩
  have g0 : ∀ h : 0 < (bS l).size, ((bS l)[0]'h) = c := fun h => hc
  have g0 := g0 (by rw [hsz.out]; exact hl0)
  by_cases c34 : (c.toNat : Int) = 34
  · have t1 : ((c.toNat : Int) == 34) = true := by simp [c34]
    have hE : Hid (escD l = some (c, 1)) := Lib.hid (by rw [hD.out, hc, if_pos (by omega)])
    clear c34
    go_enter Tryd.func63, Tryd.ntmps63
    go_wp2
    refine bodyPost_ret (v := .tuple #[.int .u8 (c.toNat : Int), .int .i64 1, .bool true]) (by simp [results, Tryd.results63, go_sem]) rfl ?_
    exact ⟨c, 1, true, rfl, by omega, fun h => (by cases h), fun _ => hE.out, Drawn.refl _⟩
  have t1 : ((c.toNat : Int) == 34) = false := by simp [c34]
  by_cases c92 : (c.toNat : Int) = 92
  · have t2 : ((c.toNat : Int) == 92) = true := by simp [c92]
    have hE : Hid (escD l = some (c, 1)) := Lib.hid (by rw [hD.out, hc, if_pos (by omega)])
    clear c34 c92
    go_enter Tryd.func63, Tryd.ntmps63
    go_wp2
    refine bodyPost_ret (v := .tuple #[.int .u8 (c.toNat : Int), .int .i64 1, .bool true]) (by simp [results, Tryd.results63, go_sem]) rfl ?_
    exact ⟨c, 1, true, rfl, by omega, fun h => (by cases h), fun _ => hE.out, Drawn.refl _⟩
  have t2 : ((c.toNat : Int) == 92) = false := by simp [c92]
  by_cases c110 : (c.toNat : Int) = 110
  · have t3 : ((c.toNat : Int) == 110) = true := by simp [c110]
    have hE : Hid (escD l = some (10, 1)) := Lib.hid (by rw [hD.out, hc, if_neg (by omega), if_pos (by omega)])
    clear c34 c92 c110
    go_enter Tryd.func63, Tryd.ntmps63
    go_wp2
    refine bodyPost_ret (v := .tuple #[.int .u8 10, .int .i64 1, .bool true]) (by simp [results, Tryd.results63, go_sem]) rfl ?_
    exact ⟨10, 1, true, rfl, by omega, fun h => (by cases h), fun _ => hE.out, Drawn.refl _⟩
  have t3 : ((c.toNat : Int) == 110) = false := by simp [c110]
  by_cases c120 : (c.toNat : Int) = 120
  · have t4 : ((c.toNat : Int) == 120) = true := by simp [c120]
    by_cases h3 : l.length < 3
    · have hE : Hid (escD l = none) := Lib.hid (escD_xs hl0 h3 (by rw [hc]; omega))
      have t5 : decide ((l.length : Int) < 3) = true := decide_eq_true (by omega)
      clear c34 c92 c110 c120 h3
      go_enter Tryd.func63, Tryd.ntmps63
      go_wp2
      refine bodyPost_ret (v := .tuple #[.int .u8 0, .int .i64 0, .bool false]) (by simp [results, Tryd.results63, go_sem]) rfl ?_
      exact ⟨0, 0, false, rfl, by omega, fun _ => hE.out, fun h => (by cases h), Drawn.refl _⟩
    have t5 : decide ((l.length : Int) < 3) = false := decide_eq_false (by omega)
    have hl2 : 2 < l.length := by omega
    clear h3
    have hE := Lib.hid (escD_x hl2 (by rw [hc]; omega))
    obtain ⟨a, ha⟩ : ∃ a, l[1]'(Nat.lt_of_succ_lt hl2) = a := ⟨_, rfl⟩
    obtain ⟨b, hb⟩ : ∃ b, l[2]'hl2 = b := ⟨_, rfl⟩
    have g1 : ∀ h : 1 < (bS l).size, ((bS l)[1]'h) = a := fun h => ha
    have g1 := g1 (by rw [hsz.out]; exact Nat.lt_of_succ_lt hl2)
    have g2 : ∀ h : 2 < (bS l).size, ((bS l)[2]'h) = b := fun h => hb
    have g2 := g2 (by rw [hsz.out]; exact hl2)
    rw [ha, hb] at hE
    have hX := Lib.hid (fun h => escX_bad (a := a) (b := b) h)
    have hY := Lib.hid (fun h h' => escX_ok (a := a) (b := b) h h')
    have HA := Lib.hid (fun w => ixb_any a w)
    have HB := Lib.hid (fun w => ixb_any b w)
    obtain ⟨p, hp⟩ : ∃ p, ixO (hexv a) = p := ⟨_, rfl⟩
    obtain ⟨q, hq⟩ : ∃ q, ixO (hexv b) = q := ⟨_, rfl⟩
    rw [hp, hq] at hX hY
    rw [hp] at HA
    rw [hq] at HB
    clear c34 c92 c110 c120 ha hb hD hc hp hq
    go_enter Tryd.func63, Tryd.ntmps63
    go_wp2_with fail
    refine wp_region_quiet_lit (by kernel_rfl) (by kernel_rfl) ?_
    repeat (go_big_quiet_step ((go_at_call 41; first | (with_reducible exact quiet_l (HA.out _)) | (with_reducible exact quiet_l (HB.out _)))))
    refine wpQuiet_nil ?_
    intro w2 hw2
    have hd : Drawn w w2 := hw2
    clear hw2
    replace hd := Lib.hid hd
    by_cases c1 : p < 0
    · have hE' : Hid (escD l = none) := Lib.hid (by rw [hE.out, hX.out (Or.inl c1)])
      have t6 : decide (p < 0) = true := decide_eq_true c1
      clear c1
      go_wp2
      refine bodyPost_ret (v := .tuple #[.int .u8 0, .int .i64 0, .bool false]) (by simp [results, Tryd.results63, go_sem]) rfl ?_
      exact ⟨0, 0, false, rfl, by omega, fun _ => hE'.out, fun h => (by cases h), hd.out⟩
    have t6 : decide (p < 0) = false := decide_eq_false c1
    by_cases c2 : q < 0
    · have hE' : Hid (escD l = none) := Lib.hid (by rw [hE.out, hX.out (Or.inr c2)])
      have t7 : decide (q < 0) = true := decide_eq_true c2
      clear c1 c2
      go_wp2
      refine bodyPost_ret (v := .tuple #[.int .u8 0, .int .i64 0, .bool false]) (by simp [results, Tryd.results63, go_sem]) rfl ?_
      exact ⟨0, 0, false, rfl, by omega, fun _ => hE'.out, fun h => (by cases h), hd.out⟩
    have t7 : decide (q < 0) = false := decide_eq_false c2
    obtain ⟨x, y, rfl, rfl, hx, hy, hE2⟩ := hY.out (by omega) (by omega)
    obtain ⟨z, hz⟩ : ∃ z, 16 * x + y = z := ⟨_, rfl⟩
    rw [hz] at hE2
    have hz256 : z < 256 := by omega
    have w1 : IntKind.i64.wrap (16 * (x : Int)) = 16 * (x : Int) := by simp [IntKind.wrap, IntKind.bits, IntKind.signed]; omega
    have w2' : IntKind.i64.wrap (16 * (x : Int) + (y : Int)) = (z : Int) := by simp [IntKind.wrap, IntKind.bits, IntKind.signed]; omega
    have w3 : IntKind.u8.wrap (z : Int) = (z : Int) := by simp [IntKind.wrap, IntKind.bits, IntKind.signed]; omega
    have zU : Hid (((UInt8.ofNat z).toNat : Int) = (z : Int)) := Lib.hid (by simp; omega)
    have hE3 : Hid (escD l = if (z < 32 ∨ 126 < z) ∧ z ≠ 10 then some (UInt8.ofNat z, 3) else none) := Lib.hid (hE.out.trans hE2)
    clear hE2 hx hy hz c1 c2 hX hY hz256
    by_cases c3 : z < 32
    · have t8 : decide ((z : Int) < 32) = true := decide_eq_true (by omega)
      by_cases c5 : z = 10
      · subst c5
        have hE4 : Hid (escD l = none) := Lib.hid (by rw [hE3.out, if_neg (by omega)])
        go_wp2
        refine bodyPost_ret (v := .tuple #[.int .u8 10, .int .i64 3, .bool false]) (by simp [results, Tryd.results63, go_sem]) rfl ?_
        exact ⟨10, 3, false, rfl, by omega, fun _ => hE4.out, fun h => (by cases h), hd.out⟩
      · have hne := Lib.hid (show ¬ (z : Int) = 10 from by omega)
        have t9 : (!((z : Int) == 10)) = true := by simp; omega
        have t10 : ((z : Int) == 10) = false := by simp; omega
        have hE4 : Hid (escD l = some (UInt8.ofNat z, 3)) := Lib.hid (by rw [hE3.out, if_pos (by omega)])
        clear c3 c5
        go_wp2
        refine bodyPost_ret (v := .tuple #[.int .u8 ((UInt8.ofNat z).toNat : Int), .int .i64 3, .bool true]) (by rw [zU.out]; simp [results, Tryd.results63, go_sem, hne.out]) rfl ?_
        exact ⟨UInt8.ofNat z, 3, true, rfl, by omega, fun h => (by cases h), fun _ => hE4.out, hd.out⟩
    have t8 : decide ((z : Int) < 32) = false := decide_eq_false (by omega)
    by_cases c4 : 126 < z
    · have t11 : decide (126 < (z : Int)) = true := decide_eq_true (by omega)
      have hne := Lib.hid (show ¬ (z : Int) = 10 from by omega)
      have t9 : (!((z : Int) == 10)) = true := by simp; omega
      have t10 : ((z : Int) == 10) = false := by simp; omega
      have hE4 : Hid (escD l = some (UInt8.ofNat z, 3)) := Lib.hid (by rw [hE3.out, if_pos (by omega)])
      clear c3 c4
      go_wp2
      refine bodyPost_ret (v := .tuple #[.int .u8 ((UInt8.ofNat z).toNat : Int), .int .i64 3, .bool true]) (by rw [zU.out]; simp [results, Tryd.results63, go_sem, hne.out]) rfl ?_
      exact ⟨UInt8.ofNat z, 3, true, rfl, by omega, fun h => (by cases h), fun _ => hE4.out, hd.out⟩
    · have t11 : decide (126 < (z : Int)) = false := decide_eq_false (by omega)
      have hE4 : Hid (escD l = none) := Lib.hid (by rw [hE3.out, if_neg (by omega)])
      clear c3 c4
      go_wp2
      refine bodyPost_ret (v := .tuple #[.int .u8 ((UInt8.ofNat z).toNat : Int), .int .i64 3, .bool false]) (by rw [zU.out]; simp [results, Tryd.results63, go_sem]) rfl ?_
      exact ⟨UInt8.ofNat z, 3, false, rfl, by omega, fun _ => hE4.out, fun h => (by cases h), hd.out⟩
  have t4 : ((c.toNat : Int) == 120) = false := by simp [c120]
  have hE : Hid (escD l = none) := Lib.hid (by rw [hD.out, hc, if_neg (by omega), if_neg (by omega), if_neg (by omega)])
  clear c34 c92 c110 c120
  go_enter Tryd.func63, Tryd.ntmps63
  go_wp2
  refine bodyPost_ret (v := .tuple #[.int .u8 0, .int .i64 0, .bool false]) (by simp [results, Tryd.results63, go_sem]) rfl ?_
  exact ⟨0, 0, false, rfl, by omega, fun _ => hE.out, fun h => (by cases h), Drawn.refl _⟩
end Go.Proofs.YtmhnocgoknmljaaDoor
