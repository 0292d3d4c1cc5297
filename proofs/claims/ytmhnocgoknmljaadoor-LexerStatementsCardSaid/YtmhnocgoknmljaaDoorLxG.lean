/-
  CONTRACT of the program's Quote.
  Conditions: those that each theorem names.
-/
import Derived.Test.YtmhnocgoknmljaaDoorLxF
namespace Go.Proofs.YtmhnocgoknmljaaDoor
open Go.RowKit Go.Sv Go.Lx
def qAcc (l : Bs) (k : Nat) : Bs := 34 :: (l.take k).flatMap esc
theorem esc_le (b : UInt8) : (esc b).length ≤ 4 := by unfold esc; split <;> (try split) <;> (try split) <;> simp
theorem qAcc_succ {l : Bs} {k : Nat} (h : k < l.length) : qAcc l (k + 1) = qAcc l k ++ esc l[k] := by
  unfold qAcc
  rw [List.take_succ_eq_append_getElem h, List.flatMap_append]
  simp
theorem qAcc_le (l : Bs) : ∀ k, (qAcc l k).length ≤ 1 + 4 * k
  | 0 => by simp [qAcc]
  | k + 1 => by
    have ih := qAcc_le l k
    by_cases h : k < l.length
    · rw [qAcc_succ h, List.length_append]
      have := esc_le l[k]
      omega
    · unfold qAcc at ih ⊢
      rw [List.take_of_length_le (by omega)] at ih ⊢
      omega
theorem qAcc_end (l : Bs) : qAcc l l.length ++ [34] = qform l := by unfold qAcc qform; rw [List.take_length]; rfl
theorem esc_a {b : UInt8} (h : b.toNat = 34 ∨ b.toNat = 92) : esc b = [92, b] := by unfold esc; rw [if_pos h]
theorem esc_b {b : UInt8} (h : b.toNat = 10) : esc b = [92, 110] := by unfold esc; rw [if_neg (by omega), if_pos h]
theorem esc_c {b : UInt8} (h : b.toNat < 32 ∨ 126 < b.toNat) (h10 : ¬ b.toNat = 10) : esc b = [92, 120, hexd (b.toNat / 16), hexd (b.toNat % 16)] := by unfold esc; rw [if_neg (by omega), if_neg h10, if_pos h]
theorem esc_d {b : UInt8} (h : ¬ (b.toNat < 32 ∨ 126 < b.toNat)) (h34 : ¬ b.toNat = 34) (h92 : ¬ b.toNat = 92) : esc b = [b] := by unfold esc; rw [if_neg (by omega), if_neg (by omega), if_neg h]
abbrev hexS : ByteArray := ⟨#[48, 49, 50, 51, 52, 53, 54, 55, 56, 57, 97, 98, 99, 100, 101, 102]⟩
theorem hexS_get {n : Nat} (h : n < 16) (h' : n < hexS.size) : hexS[n]'h' = hexd n := hexL_get n h
/-- between the call's start and a world stands a builder with a text -/
def Bq (w : World) (acc : Bs) (wr : World) : Prop := BldF w.heap.size w.heap.size acc wr ∧ Below w.heap.size w wr
theorem Bq.byte {w wr : World} {acc : Bs} (h : Bq w acc wr) (c : UInt8) (hl : acc.length ≤ 100000000) :
    Calls Tryd.prog 44 #[.pointer (some ⟨w.heap.size, 0, none⟩), .int .u8 (c.toNat : Int)] wr fun e w' => e = .returned .nilIface ∧ Bq w (acc ++ [c]) w' :=
  (wbyte_any w.heap.size w.heap.size acc c wr h.1 hl h.2.size).mono fun _ _ ⟨h1, h2, h3⟩ => ⟨h1, h2, h.2.trans h3⟩
theorem Bq.str {w wr : World} {acc : Bs} (h : Bq w acc wr) (t : Bs) (hl : acc.length ≤ 100000000) (ht : t.length ≤ 100000000) :
    Calls Tryd.prog 45 #[.pointer (some ⟨w.heap.size, 0, none⟩), .string (bS t)] wr fun e w' => e = .returned (.tuple #[.int .i64 t.length, .nilIface]) ∧ Bq w (acc ++ t) w' :=
  (wstr_any w.heap.size w.heap.size acc t wr h.1 hl ht h.2.size).mono fun _ _ ⟨h1, h2, h3⟩ => ⟨h1, h2, h.2.trans h3⟩
theorem Bq.fin {w wr : World} {acc : Bs} (h : Bq w acc wr) :
    Calls Tryd.prog 47 #[.pointer (some ⟨w.heap.size, 0, none⟩)] wr fun e w' => e = .returned (.string (bS acc)) ∧ Below w.heap.size w w' :=
  (bstr_any w.heap.size w.heap.size acc wr h.1 h.2.size).mono fun _ _ ⟨h1, h2⟩ => ⟨h1, h.2.trans h2⟩
theorem Bq.new (w : World) : Bq w [] (w.alloc (.cells #[.pointer none, .slice none 0 0] 56)) :=
  ⟨Lib.IsBuilderF.of (Lib.fresh_isBuilder 56 5 w), (Below.refl _ w).alloc (Nat.le_refl _) _⟩
set_option maxHeartbeats 1000000 in
set_option maxRecDepth 100000 in
theorem quote_any (l : Bs) (w : World) (hn : l.length ≤ 1000000) :
    Calls Tryd.prog 24 #[.string (bS l)] w fun e w' => e = .returned (.string (bS (qform l))) ∧ Below w.heap.size w w' := by
  have hsz := Lib.hid (bS_size l)
  have S0 := Lib.hid ((Bq.new w).byte 34 (by simp))
  have hEnd := Lib.hid (qAcc_end l)
  go_enter Tryd.func24, Tryd.ntmps24
  go_wp2_with fail
  refine S0.out.mono ?_
  rintro e w1 ⟨rfl, S⟩
  replace S := Lib.hid S
  clear S0
  go_wp2
  go_loopw [9] (fun s9 wr => ∃ k : Nat, s9 = .int .i64 k ∧ k ≤ l.length ∧ Bq w (qAcc l k) wr) (fun s9 _ => l.length - (intOf s9).toNat)
  case atStart => exact ⟨0, rfl, Nat.zero_le _, S.out⟩
  case round =>
    clear S
    obtain ⟨k, rfl, hk, S⟩ := hrel
    have hle := qAcc_le l k
    obtain ⟨acc, hacc⟩ : ∃ acc, qAcc l k = acc := ⟨_, rfl⟩
    rw [hacc] at S hle
    by_cases hlt : k < l.length
    · have hs := qAcc_succ hlt
      rw [hacc] at hs
      obtain ⟨c, hc⟩ : ∃ c, l[k] = c := ⟨_, rfl⟩
      rw [hc] at hs
      replace hs := Lib.hid hs
      have g0 : ∀ h : k < (bS l).size, ((bS l)[k]'h) = c := fun h => hc
      have g0 := g0 (by rw [hsz.out]; exact hlt)
      have hcl := c.toNat_lt
      clear hc hacc
      by_cases c34 : (c.toNat : Int) = 34
      · have t1 : ((c.toNat : Int) == 34) = true := by simp [c34]
        have hs2 : Hid (qAcc l (k + 1) = acc ++ [92] ++ [c]) := Lib.hid (by rw [hs.out, esc_a (by omega)]; simp)
        clear c34 hs hcl
        have H1 := Lib.hid (S.byte 92 (by omega))
        clear S
        go_wp2_with fail
        refine H1.out.mono ?_
        rintro e w2 ⟨rfl, S⟩
        have H2 := Lib.hid (S.byte c (by simp; omega))
        clear S H1
        go_wp2_with fail
        refine H2.out.mono ?_
        rintro e w3 ⟨rfl, S⟩
        rw [← hs2.out] at S
        replace S := Lib.hid S
        clear H2
        go_wp2
        go_roundw
        case rel => exact ⟨k + 1, by go_num, hlt, S.out⟩
        case measure => simp [intOf]; omega
      have t1 : ((c.toNat : Int) == 34) = false := by simp [c34]
      by_cases c92 : (c.toNat : Int) = 92
      · have t2 : ((c.toNat : Int) == 92) = true := by simp [c92]
        have hs2 : Hid (qAcc l (k + 1) = acc ++ [92] ++ [c]) := Lib.hid (by rw [hs.out, esc_a (by omega)]; simp)
        clear c34 c92 hs hcl
        have H1 := Lib.hid (S.byte 92 (by omega))
        clear S
        go_wp2_with fail
        refine H1.out.mono ?_
        rintro e w2 ⟨rfl, S⟩
        have H2 := Lib.hid (S.byte c (by simp; omega))
        clear S H1
        go_wp2_with fail
        refine H2.out.mono ?_
        rintro e w3 ⟨rfl, S⟩
        rw [← hs2.out] at S
        replace S := Lib.hid S
        clear H2
        go_wp2
        go_roundw
        case rel => exact ⟨k + 1, by go_num, hlt, S.out⟩
        case measure => simp [intOf]; omega
      have t2 : ((c.toNat : Int) == 92) = false := by simp [c92]
      by_cases c10 : (c.toNat : Int) = 10
      · have t3 : ((c.toNat : Int) == 10) = true := by simp [c10]
        have hs2 : Hid (qAcc l (k + 1) = acc ++ [92, 110]) := Lib.hid (by rw [hs.out, esc_b (by omega)])
        clear c34 c92 c10 hs hcl
        have H1 := Lib.hid (S.str [92, 110] (by omega) (by simp))
        clear S
        go_wp2_with fail
        refine H1.out.mono ?_
        rintro e w2 ⟨rfl, S⟩
        rw [← hs2.out] at S
        replace S := Lib.hid S
        clear H1
        go_wp2
        go_roundw
        case rel => exact ⟨k + 1, by go_num, hlt, S.out⟩
        case measure => simp [intOf]; omega
      have t3 : ((c.toNat : Int) == 10) = false := by simp [c10]
      by_cases c32 : (c.toNat : Int) < 32
      · have t4 : decide ((c.toNat : Int) < 32) = true := decide_eq_true c32
        have hs2 : Hid (qAcc l (k + 1) = acc ++ [92, 120] ++ [hexd (c.toNat / 16)] ++ [hexd (c.toNat % 16)]) := Lib.hid (by rw [hs.out, esc_c (by omega) (by omega)]; simp)
        clear c34 c92 c10 c32 hs
        have H1 := Lib.hid (S.str [92, 120] (by omega) (by simp))
        clear S
        go_wp2_with fail
        refine H1.out.mono ?_
        rintro e w2 ⟨rfl, S⟩
        have H2 := Lib.hid (S.byte (hexd (c.toNat / 16)) (by simp; omega))
        have hx1 : (⟨#[48, 49, 50, 51, 52, 53, 54, 55, 56, 57, 97, 98, 99, 100, 101, 102]⟩ : ByteArray)[c.toNat / 16]'(show c.toNat / 16 < 16 by omega) = hexd (c.toNat / 16) := hexS_get (by omega) _
        clear S H1
        go_wp2_with fail
        refine H2.out.mono ?_
        rintro e w3 ⟨rfl, S⟩
        have H3 := Lib.hid (S.byte (hexd (c.toNat % 16)) (by simp; omega))
        have hx2 : (⟨#[48, 49, 50, 51, 52, 53, 54, 55, 56, 57, 97, 98, 99, 100, 101, 102]⟩ : ByteArray)[c.toNat % 16]'(show c.toNat % 16 < 16 by omega) = hexd (c.toNat % 16) := hexS_get (by omega) _
        clear S H2 hx1
        go_wp2_with fail
        refine H3.out.mono ?_
        rintro e w4 ⟨rfl, S⟩
        rw [← hs2.out] at S
        replace S := Lib.hid S
        clear H3 hx2
        go_wp2
        go_roundw
        case rel => exact ⟨k + 1, by go_num, hlt, S.out⟩
        case measure => simp [intOf]; omega
      have t4 : decide ((c.toNat : Int) < 32) = false := decide_eq_false c32
      by_cases c126 : 126 < (c.toNat : Int)
      · have t5 : decide (126 < (c.toNat : Int)) = true := decide_eq_true c126
        have hs2 : Hid (qAcc l (k + 1) = acc ++ [92, 120] ++ [hexd (c.toNat / 16)] ++ [hexd (c.toNat % 16)]) := Lib.hid (by rw [hs.out, esc_c (by omega) (by omega)]; simp)
        clear c34 c92 c10 c32 c126 hs
        have H1 := Lib.hid (S.str [92, 120] (by omega) (by simp))
        clear S
        go_wp2_with fail
        refine H1.out.mono ?_
        rintro e w2 ⟨rfl, S⟩
        have H2 := Lib.hid (S.byte (hexd (c.toNat / 16)) (by simp; omega))
        have hx1 : (⟨#[48, 49, 50, 51, 52, 53, 54, 55, 56, 57, 97, 98, 99, 100, 101, 102]⟩ : ByteArray)[c.toNat / 16]'(show c.toNat / 16 < 16 by omega) = hexd (c.toNat / 16) := hexS_get (by omega) _
        clear S H1
        go_wp2_with fail
        refine H2.out.mono ?_
        rintro e w3 ⟨rfl, S⟩
        have H3 := Lib.hid (S.byte (hexd (c.toNat % 16)) (by simp; omega))
        have hx2 : (⟨#[48, 49, 50, 51, 52, 53, 54, 55, 56, 57, 97, 98, 99, 100, 101, 102]⟩ : ByteArray)[c.toNat % 16]'(show c.toNat % 16 < 16 by omega) = hexd (c.toNat % 16) := hexS_get (by omega) _
        clear S H2 hx1
        go_wp2_with fail
        refine H3.out.mono ?_
        rintro e w4 ⟨rfl, S⟩
        rw [← hs2.out] at S
        replace S := Lib.hid S
        clear H3 hx2
        go_wp2
        go_roundw
        case rel => exact ⟨k + 1, by go_num, hlt, S.out⟩
        case measure => simp [intOf]; omega
      · have t5 : decide (126 < (c.toNat : Int)) = false := decide_eq_false c126
        have hs2 : Hid (qAcc l (k + 1) = acc ++ [c]) := Lib.hid (by rw [hs.out, esc_d (by omega) (by omega) (by omega)])
        clear c34 c92 c10 c32 c126 hs hcl
        have H1 := Lib.hid (S.byte c (by omega))
        clear S
        go_wp2_with fail
        refine H1.out.mono ?_
        rintro e w2 ⟨rfl, S⟩
        rw [← hs2.out] at S
        replace S := Lib.hid S
        clear H1
        go_wp2
        go_roundw
        case rel => exact ⟨k + 1, by go_num, hlt, S.out⟩
        case measure => simp [intOf]; omega
    · obtain rfl : k = l.length := by omega
      have H1 := Lib.hid (S.byte 34 (by omega))
      rw [hacc] at hEnd
      clear S hlt hacc
      go_wp2_with fail
      refine H1.out.mono ?_
      rintro e w2 ⟨rfl, S⟩
      rw [hEnd.out] at S
      have H2 := Lib.hid S.fin
      clear H1 S
      go_wp2_with fail
      refine H2.out.mono ?_
      rintro e w3 ⟨rfl, hb⟩
      replace hb := Lib.hid hb
      go_wp2
      go_ret
      exact ⟨rfl, hb.out⟩
end Go.Proofs.YtmhnocgoknmljaaDoor
