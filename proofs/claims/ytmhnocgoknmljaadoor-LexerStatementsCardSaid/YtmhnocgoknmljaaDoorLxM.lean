/-
  CONTRACTS of the search for a symbol (slices.IndexFunc with the program's closure); plain branches of the next token.
  Conditions: those that each theorem names.
-/
import Derived.Test.YtmhnocgoknmljaaDoorLxK
namespace Go.Proofs.YtmhnocgoknmljaaDoor
open Go.RowKit Go.Sv Go.Lx
def lN (l : Bs) : Nat := 1 + ((l.drop 1).takeWhile isLD).length
theorem lN_eq {l : Bs} {n : Nat} (h0 : 1 ≤ n) (hn : n ≤ l.length) (h1 : ∀ i (h : i < l.length), 1 ≤ i → i < n → isLD l[i] = true) (h2 : ∀ h : n < l.length, isLD l[n] = false) : lN l = n := by
  unfold lN
  rw [tw_drop h0 hn h1 h2, List.length_take, List.length_drop]
  omega
theorem cons_tw (p : UInt8 → Bool) (c : UInt8) (r : Bs) : c :: r.takeWhile p = (c :: r).take (1 + (r.takeWhile p).length) := by
  rw [Nat.add_comm, List.take_succ_cons]
  congr 1
  exact (List.prefix_iff_eq_take.1 (List.takeWhile_prefix p))
theorem nextT_L {l : Bs} (h : 0 < l.length) (hL : isL l[0] = true) : nextT l = if lN l ≤ 24 then some (⟨1, l.take (lN l), 0, [], 0⟩, lN l) else none := by
  cases l with
  | nil => simp at h
  | cons c r =>
    have hL : isL c = true := hL
    unfold nextT lN
    simp only [hL, if_true, List.drop_succ_cons, List.drop_zero]
    rw [cons_tw isLD]
def dCase (l : Bs) : Prop := ∃ h : 0 < l.length, isD l[0] = true ∨ (l[0].toNat = 45 ∧ ∃ h : 1 < l.length, isD l[1] = true)
theorem nextT_D {l : Bs} (h : 0 < l.length) (hL : isL l[0] = false) (hD : dCase l) : nextT l = (match numV (l.take (dN l)) with
    | some v => some (⟨2, [], v, [], 0⟩, dN l)
    | none => none) := by
  cases l with
  | nil => simp at h
  | cons c r =>
    have hL : isL c = false := hL
    unfold nextT dN
    have hc : isD c = true ∨ (c.toNat = 45 ∧ ∃ d ∈ r.head?, isD d = true) := by
      obtain ⟨h0, hD⟩ := hD
      rcases hD with hD | ⟨h1, h2, h3⟩
      · exact Or.inl hD
      · refine Or.inr ⟨h1, ?_⟩
        cases r with
        | nil => simp at h2
        | cons d r => exact ⟨d, rfl, h3⟩
    simp only [hL, Bool.false_eq_true, if_false, if_pos hc, List.drop_succ_cons, List.drop_zero]
    rw [cons_tw isD]
    rfl
theorem not_d {l : Bs} {c : UInt8} {r : Bs} (e : l = c :: r) (hD : ¬ dCase l) : ¬ (isD c = true ∨ (c.toNat = 45 ∧ ∃ d ∈ r.head?, isD d = true)) := by
  subst e
  rintro (h | ⟨h1, d, h2, h3⟩)
  · exact hD ⟨by simp, Or.inl h⟩
  · refine hD ⟨by simp, Or.inr ⟨h1, ?_⟩⟩
    cases r with
    | nil => simp at h2
    | cons x r =>
      have : x = d := by simpa using h2
      subst this
      exact ⟨by simp, h3⟩
theorem nextT_Q {l : Bs} (h : 0 < l.length) (hL : isL l[0] = false) (hD : ¬ dCase l) (h34 : l[0].toNat = 34) : nextT l = (match rd (l.drop 1) with
    | some (t, n) => some (⟨3, [], 0, t, 0⟩, n + 1)
    | none => none) := by
  cases l with
  | nil => simp at h
  | cons c r =>
    have hL : isL c = false := hL
    have h34 : c.toNat = 34 := h34
    unfold nextT
    simp only [hL, Bool.false_eq_true, if_false, if_neg (not_d rfl hD), if_pos h34, List.drop_succ_cons, List.drop_zero]
    rfl
theorem nextT_S {l : Bs} (h : 0 < l.length) (hL : isL l[0] = false) (hD : ¬ dCase l) (h34 : ¬ l[0].toNat = 34) : nextT l = (match symAt l with
    | some x => some (⟨4, x, 0, [], 0⟩, x.length)
    | none => none) := by
  cases l with
  | nil => simp at h
  | cons c r =>
    have hL : isL c = false := hL
    have h34 : ¬ c.toNat = 34 := h34
    unfold nextT
    simp only [hL, Bool.false_eq_true, if_false, if_neg (not_d rfl hD), if_neg h34]
    rfl

/-! ### symbols -/
theorem syms_len : syms.length = 18 := rfl
theorem find_at {α : Type} {p : α → Bool} : ∀ {L : List α} {k : Nat} (h : k < L.length), (∀ j (h : j < L.length), j < k → p L[j] = false) → p L[k] = true → L.find? p = some L[k]
  | x :: L, 0, h, _, hp => by
    have hp : p x = true := hp
    simp [hp]
  | x :: L, k + 1, h, hj, hp => by
    have h0 : p x = false := hj 0 (by simp) (by omega)
    rw [List.find?_cons, h0]
    exact find_at (L := L) (k := k) (by simpa using h) (fun j hj' hk => hj (j + 1) (by simpa using hj') (by omega)) hp
theorem symAt_yes {l : Bs} {k : Nat} (h : k < syms.length) (hj : ∀ j (h : j < syms.length), j < k → (syms[j]'h).isPrefixOf l = false) (hp : (syms[k]'h).isPrefixOf l = true) : symAt l = some (syms[k]'h) :=
  find_at (p := fun x : Bs => x.isPrefixOf l) h hj hp
theorem symAt_no {l : Bs} (hj : ∀ j (h : j < syms.length), (syms[j]'h).isPrefixOf l = false) : symAt l = none := by
  unfold symAt
  rw [List.find?_eq_none]
  intro x hx
  obtain ⟨j, h, rfl⟩ := List.mem_iff_getElem.1 hx
  rw [hj j h]
  decide
theorem pre_any (l p : Bs) (w : World) : Calls Tryd.prog 40 #[.string (bS l), .string (bS p)] w fun e w' => e = .returned (.bool (p.isPrefixOf l)) ∧ w = w' := by
  refine (Tryd.strings_HasPrefix (bS l) (bS p) w).mono fun e w' ⟨h1, h2⟩ => ⟨?_, h2.symm⟩
  rw [h1]
  exact ret_b rfl
theorem tok1_any (l p : Bs) (B : Nat) (w : World) (hc : w.cell? ⟨B, 0, none⟩ = some (.string (bS l))) :
    Calls Tryd.prog 61 #[.string (bS p), .pointer (some ⟨B, 0, none⟩)] w fun e w' => e = .returned (.bool (p.isPrefixOf l)) ∧ w = w' := by
  have HP := Lib.hid (pre_any l p w)
  go_enter Tryd.func61, Tryd.ntmps61
  go_wp2_with fail
  refine HP.out.mono ?_
  rintro e w' ⟨rfl, rfl⟩
  go_wp2
  go_ret
  exact ⟨rfl, rfl⟩
def IxR (l : Bs) (w : World) (e : Ending) (w' : World) : Prop :=
  ∃ z : Int, e = .returned (.int .i64 z) ∧ ((z = -1 ∧ symAt l = none) ∨ ∃ k, ∃ h : k < syms.length, z = (k : Int) ∧ symAt l = some (syms[k]'h)) ∧ w = w'
set_option maxRecDepth 100000 in
theorem isym_any (l : Bs) (B b o cp : Nat) (w : World) (hc : w.cell? ⟨B, 0, none⟩ = some (.string (bS l))) (hs : ∀ j (h : j < syms.length), w.cell? ⟨b, o + j, none⟩ = some (.string (bS (syms[j]'h)))) :
    Calls Tryd.prog 60 #[.slice (some ⟨b, o, none⟩) 18 cp, .func (.func 61) #[] #[.pointer (some ⟨B, 0, none⟩)]] w (IxR l w) := by
  have HT := Lib.hid (fun p => tok1_any l p B w hc)
  replace hs := Lib.hid hs
  have hY := Lib.hid (fun k h a b => symAt_yes (l := l) (k := k) h a b)
  have hN := Lib.hid (fun a => symAt_no (l := l) a)
  clear hc
  go_enter Tryd.func60, Tryd.ntmps60
  go_wp2
  go_loop [5, 8] (fun _ s8 => ∃ k : Nat, s8 = .int .i64 k ∧ k ≤ 18 ∧ (∀ j (h : j < syms.length), j < k → (syms[j]'h).isPrefixOf l = false)) (fun _ s8 => 18 - (intOf s8).toNat)
  case atStart => exact ⟨0, rfl, Nat.zero_le _, fun j h hj => absurd hj (Nat.not_lt_zero _)⟩
  case round =>
    obtain ⟨k, rfl, hk, hd⟩ := hrel
    replace hd := Lib.hid hd
    by_cases hlt : k < 18
    · have hks : k < syms.length := hlt
      have y := hs.out k hks
      have HT1 := Lib.hid (HT.out (syms[k]'hks))
      have hY1 := Lib.hid (hY.out k hks hd.out)
      have hS : Hid ((syms[k]'hks).isPrefixOf l = false → ∀ j (h : j < syms.length), j < k + 1 → (syms[j]'h).isPrefixOf l = false) := Lib.hid fun h0 j h h1 => by
        rcases Nat.lt_or_ge j k with h' | h'
        · exact hd.out j h h'
        · obtain rfl : j = k := by omega
          exact h0
      have i1 : decide ((k : Int) < 18) = true := decide_eq_true (by omega)
      obtain ⟨p, hp⟩ : ∃ p, syms[k]'hks = p := ⟨_, rfl⟩
      rw [hp] at y HT1 hY1 hS
      replace hp := Lib.hid hp
      clear hd
      cases hb : p.isPrefixOf l with
      | true =>
        have hF := Lib.hid (hY1.out hb)
        rw [hb] at HT1
        clear hb hS hY1
        go_wp2_with fail
        refine HT1.out.mono ?_
        rintro e w' ⟨rfl, rfl⟩
        go_wp2
        go_ret
        exact ⟨_, rfl, Or.inr ⟨k, hks, rfl, by rw [hp.out]; exact hF.out⟩, rfl⟩
      | false =>
        have hS' := Lib.hid (hS.out hb)
        rw [hb] at HT1
        clear hb hS hY1
        go_wp2_with fail
        refine HT1.out.mono ?_
        rintro e w' ⟨rfl, rfl⟩
        go_wp2
        go_round
        case rel => exact ⟨k + 1, by go_num, by omega, hS'.out⟩
        case measure => simp [intOf]; omega
    · obtain rfl : k = 18 := by omega
      have hF := Lib.hid (hN.out (fun j h => hd.out j h h))
      clear hd hlt
      go_wp2
      go_ret
      exact ⟨_, rfl, Or.inl ⟨rfl, hF.out⟩, rfl⟩
end Go.Proofs.YtmhnocgoknmljaaDoor
