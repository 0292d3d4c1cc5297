/-
  DECIMAL DIGITS as plain data: groups of digits, values of texts. No program in sight.
  Conditions: those that each theorem names.
-/
import Derived.Test.YtoiokopmpcogbaaGreatDoorNt1
import Derived.Lib.ItoaNum
import Derived.Lib.ParseIntB
import Derived.Lib.Repeat
import Derived.Lib.Join
import Derived.Test.YtoiokopmpcogbaaGreatDoorNt3
import Derived.Test.YtoiokopmpcogbaaGreatDoorShelfO
import Derived.Test.YtoiokopmpcogbaaGreatDoorTab
import Derived.Lib.ItoaMem
import Derived.Lib.Walk
import Derived.Test.YtoiokopmpcogbaaGreatDoorNt9
import Derived.Test.YtoiokopmpcogbaaGreatDoorNt5
import Derived.Deep.LoopGhost

namespace Go.Sv
open Go.RowKit

def dgt (n : Nat) : UInt8 := UInt8.ofNat (48 + n)
/-- k digits, zeros in front -/
def pk : Nat → Nat → List UInt8
  | 0, _ => []
  | k + 1, r => pk k (r / 10) ++ [dgt (r % 10)]
theorem dec_small {n : Nat} (h : n < 10) : Lib.decDigits n = [dgt n] := by rw [Lib.decDigits, dif_pos h]; rfl
theorem dec_big {n : Nat} (h : ¬ n < 10) : Lib.decDigits n = Lib.decDigits (n / 10) ++ [dgt (n % 10)] := by rw [Lib.decDigits, dif_neg h]; rfl
theorem dec_pk : ∀ (k q r : Nat), 0 < q → r < 10 ^ k → Lib.decDigits (q * 10 ^ k + r) = Lib.decDigits q ++ pk k r
  | 0, q, r, _, h => by
    have : r = 0 := by simpa using h
    subst this
    simp [pk]
  | k + 1, q, r, hq, h => by
    have hp : 0 < 10 ^ k := Nat.pow_pos (by decide)
    have h1 : 10 ^ (k + 1) = 10 * 10 ^ k := by rw [Nat.pow_succ, Nat.mul_comm]
    have h2 : q * (10 * 10 ^ k) = 10 * (q * 10 ^ k) := by rw [Nat.mul_left_comm]
    have h3 : 1 * 10 ^ k ≤ q * 10 ^ k := Nat.mul_le_mul_right _ hq
    rw [h1] at h ⊢
    rw [h2]
    rw [dec_big (by omega), show (10 * (q * 10 ^ k) + r) / 10 = q * 10 ^ k + r / 10 by omega, show (10 * (q * 10 ^ k) + r) % 10 = r % 10 by omega, dec_pk k q (r / 10) hq (by omega), pk, List.append_assoc]
theorem pk_zero : ∀ k, pk k 0 = List.replicate k 48
  | 0 => rfl
  | k + 1 => by
    rw [pk, Nat.zero_div, pk_zero k, List.replicate_succ']
    rfl
theorem pk_len : ∀ k r, (pk k r).length = k
  | 0, _ => rfl
  | k + 1, r => by rw [pk, List.length_append, pk_len k]; rfl
theorem pk_dec : ∀ k r, r < 10 ^ (k + 1) → (Lib.decDigits r).length ≤ k + 1 ∧ pk (k + 1) r = List.replicate (k + 1 - (Lib.decDigits r).length) 48 ++ Lib.decDigits r
  | 0, r, h => by
    have h : r < 10 := by simpa using h
    rw [dec_small h]
    refine ⟨Nat.le_refl _, ?_⟩
    simp [pk, Nat.mod_eq_of_lt h]
  | k + 1, r, h => by
    by_cases c : r < 10
    · rw [dec_small c]
      refine ⟨by simp, ?_⟩
      rw [pk, Nat.div_eq_of_lt c, pk_zero, Nat.mod_eq_of_lt c]
      rfl
    · have h1 : 10 ^ (k + 1 + 1) = 10 ^ (k + 1) * 10 := Nat.pow_succ ..
      obtain ⟨i1, i2⟩ := pk_dec k (r / 10) (by omega)
      rw [dec_big c]
      refine ⟨by simp; omega, ?_⟩
      rw [pk, i2, List.append_assoc]
      congr 2
      simp
theorem repeat_zero (n : Nat) : Lib.repeatL [48] n = List.replicate n 48 := by
  have := Lib.repeatL_replicate 48 1 n
  simpa using this

/-! ### groups of nine digits, as natural.Format makes them -/
def gtext (q r : Nat) : List UInt8 := if q = 0 then Lib.decDigits r else Lib.repeatL [48] (9 - (Lib.decDigits r).length) ++ Lib.decDigits r
theorem group_len {r : Nat} (h : r < 1000000000) : (Lib.decDigits r).length ≤ 9 := (pk_dec 8 r (by omega)).1
theorem gtext_len {q r : Nat} (h : r < 1000000000) : (gtext q r).length ≤ 9 := by
  have := group_len h
  unfold gtext
  split
  · exact this
  · rw [List.length_append, Lib.repeatL_length, List.length_singleton]; omega
theorem dec_group {q r : Nat} (hq : 0 < q) (h : r < 1000000000) : Lib.decDigits (q * 1000000000 + r) = Lib.decDigits q ++ gtext q r := by
  have h1 := dec_pk 9 q r hq (by omega)
  have h2 := (pk_dec 8 r (by omega)).2
  unfold gtext
  rw [if_neg (by omega), repeat_zero, ← h2, ← h1]
/-- the parts, the last group first -/
def parts (N : Nat) : Nat → List (List UInt8)
  | 0 => []
  | k + 1 => if N / 1000000000 ^ k = 0 then parts N k else parts N k ++ [gtext (N / 1000000000 ^ (k + 1)) (N / 1000000000 ^ k % 1000000000)]
theorem parts_text {N : Nat} : ∀ {k : Nat}, 0 < N / 1000000000 ^ k → Lib.decDigits N = Lib.decDigits (N / 1000000000 ^ k) ++ (parts N k).reverse.flatten
  | 0, _ => by simp [parts]
  | k + 1, h => by
    have e : N / 1000000000 ^ (k + 1) = N / 1000000000 ^ k / 1000000000 := by rw [Nat.pow_succ, Nat.div_div_eq_div_mul]
    have h0 : 0 < N / 1000000000 ^ k := by
      rcases Nat.eq_zero_or_pos (N / 1000000000 ^ k) with c | c
      · rw [e, c] at h; simp at h
      · exact c
    have h1 := dec_group (q := N / 1000000000 ^ (k + 1)) (r := N / 1000000000 ^ k % 1000000000) h (Nat.mod_lt _ (by decide))
    have h2 : N / 1000000000 ^ (k + 1) * 1000000000 + N / 1000000000 ^ k % 1000000000 = N / 1000000000 ^ k := by rw [e]; omega
    rw [h2] at h1
    rw [parts_text h0, parts, if_neg (by omega), h1]
    simp [List.append_assoc]
theorem parts_end {N k : Nat} (h : 0 < N / 1000000000 ^ k) (h' : N / 1000000000 ^ (k + 1) = 0) : (parts N (k + 1)).reverse.flatten = Lib.decDigits N := by
  have e : N / 1000000000 ^ (k + 1) = N / 1000000000 ^ k / 1000000000 := by rw [Nat.pow_succ, Nat.div_div_eq_div_mul]
  have h1 : N / 1000000000 ^ k % 1000000000 = N / 1000000000 ^ k := by
    rw [e] at h'; omega
  rw [parts_text h, parts, if_neg (by omega), h', h1]
  simp [gtext]
theorem join_flat (l : List (List UInt8)) : Lib.join l [] = l.flatten := by
  cases l with
  | nil => rfl
  | cons x r => rw [Lib.join_cons]; simp [Lib.joinTail]

/-! ### the values of texts -/
def isDg (c : UInt8) : Bool := decide (48 ≤ c.toNat) && decide (c.toNat ≤ 57)
def dvA (a : Nat) (l : List UInt8) : Nat := l.foldl (fun a c => a * 10 + (c.toNat - 48)) a
theorem dvA_nil (a : Nat) : dvA a [] = a := rfl
theorem dvA_cons (a : Nat) (c : UInt8) (r : List UInt8) : dvA a (c :: r) = dvA (a * 10 + (c.toNat - 48)) r := by unfold dvA; rw [List.foldl_cons]
def dval (l : List UInt8) : Nat := dvA 0 l
theorem dvA_is (l : List UInt8) : ∀ (a : Nat), dvA a l = a * 10 ^ l.length + dvA 0 l := by
  induction l with
  | nil => intro a; simp [dvA_nil]
  | cons c r ih =>
    intro a
    rw [dvA_cons, ih, dvA_cons, ih (0 * 10 + _), List.length_cons, Nat.pow_succ, Nat.add_mul, Nat.mul_assoc, Nat.mul_comm 10, Nat.zero_mul, Nat.zero_add]
    omega
theorem dvA_append (a : Nat) (l m : List UInt8) : dvA a (l ++ m) = dvA (dvA a l) m := List.foldl_append ..
theorem dval_append (l m : List UInt8) : dval (l ++ m) = dval l * 10 ^ m.length + dval m := by unfold dval; rw [dvA_append, dvA_is]
theorem dval_snoc (l : List UInt8) (c : UInt8) : dval (l ++ [c]) = dval l * 10 + (c.toNat - 48) := by rw [dval_append]; simp [dval, dvA_nil, dvA_cons]
theorem dgt_toNat {n : Nat} (h : n < 10) : (dgt n).toNat = 48 + n := by
  unfold dgt
  rw [UInt8.toNat_ofNat']
  omega
theorem dval_dec (n : Nat) : dval (Lib.decDigits n) = n := by
  induction n using Nat.strongRecOn with
  | ind n ih =>
    by_cases h : n < 10
    · rw [dec_small h]; simp [dval, dvA_nil, dvA_cons, dgt_toNat h]
    · rw [dec_big h, dval_snoc, ih (n / 10) (by omega), dgt_toNat (by omega)]; omega
theorem dec_dig (n : Nat) : ∀ c ∈ Lib.decDigits n, isDg c = true := by
  induction n using Nat.strongRecOn with
  | ind n ih =>
    intro c hc
    by_cases h : n < 10
    · rw [dec_small h] at hc
      obtain rfl := List.mem_singleton.1 hc
      simp [isDg, dgt_toNat h]; omega
    · rw [dec_big h] at hc
      rcases List.mem_append.1 hc with hc | hc
      · exact ih _ (by omega) c hc
      · obtain rfl := List.mem_singleton.1 hc
        have : n % 10 < 10 := by omega
        simp [isDg, dgt_toNat this]; omega
theorem dec_ne (n : Nat) : Lib.decDigits n ≠ [] := by
  by_cases h : n < 10
  · rw [dec_small h]; simp
  · rw [dec_big h]; simp
theorem dec_head (n : Nat) : n ≠ 0 → (Lib.decDigits n).head? ≠ some 48 := by
  induction n using Nat.strongRecOn with
  | ind n ih =>
    intro h0
    by_cases h : n < 10
    · rw [dec_small h]
      intro e
      have e := Option.some.inj e
      have := congrArg UInt8.toNat e
      rw [dgt_toNat h] at this
      simp at this
      omega
    · rw [dec_big h]
      cases e : Lib.decDigits (n / 10) with
      | nil => exact absurd e (dec_ne _)
      | cons x r =>
        have := ih (n / 10) (by omega) (by omega)
        rw [e] at this
        simpa using this
/-- a text of a number -/
def txtOk (s : List UInt8) : Bool := !s.isEmpty && s.all isDg && (decide (s.length ≤ 1) || !(s.head? == some 48))
theorem dec_txt (n : Nat) : txtOk (Lib.decDigits n) = true := by
  have h1 := dec_ne n
  have h2 := dec_dig n
  have h3 : (Lib.decDigits n).length ≤ 1 ∨ ¬ (Lib.decDigits n).head? = some 48 := by
    by_cases c : n = 0
    · subst c; left; rw [dec_small (by omega)]; simp
    · right; exact dec_head n c
  unfold txtOk
  simp only [Bool.and_eq_true, Bool.or_eq_true, List.all_eq_true, decide_eq_true_eq, Bool.not_eq_true', List.isEmpty_eq_false_iff, beq_eq_false_iff_ne]
  exact ⟨⟨h1, h2⟩, h3⟩
theorem isDg_is {c : UInt8} (h : isDg c = true) : 48 ≤ c.toNat ∧ c.toNat ≤ 57 := by simpa [isDg] using h
theorem dgt_of {c : UInt8} (h : isDg c = true) : dgt (c.toNat - 48) = c := by
  have := isDg_is h
  unfold dgt
  rw [show 48 + (c.toNat - 48) = c.toNat by omega]
  exact UInt8.ofNat_toNat
theorem dval_pos : ∀ {s : List UInt8}, s ≠ [] → (∀ c ∈ s, isDg c = true) → s.head? ≠ some 48 → 0 < dval s
  | [], h, _, _ => absurd rfl h
  | c :: r, _, hd, hh => by
    have h1 := isDg_is (hd c (by simp))
    have h2 : c.toNat ≠ 48 := fun e => hh (by
      have : c = 48 := UInt8.toNat_inj.1 e
      rw [this]; rfl)
    unfold dval
    rw [dvA_cons, dvA_is]
    have : 0 < 10 ^ r.length := Nat.pow_pos (by decide)
    have h3 : 1 * 10 ^ r.length ≤ (0 * 10 + (c.toNat - 48)) * 10 ^ r.length := Nat.mul_le_mul_right _ (by omega)
    omega
theorem dec_dval {s : List UInt8} (h : txtOk s = true) : Lib.decDigits (dval s) = s := by
  have h' : s ≠ [] ∧ (∀ c ∈ s, isDg c = true) ∧ (s.length ≤ 1 ∨ s.head? ≠ some 48) := by
    unfold txtOk at h
    simp only [Bool.and_eq_true, Bool.or_eq_true, List.all_eq_true, decide_eq_true_eq, Bool.not_eq_true', List.isEmpty_eq_false_iff, beq_eq_false_iff_ne] at h
    exact ⟨h.1.1, h.1.2, h.2⟩
  clear h
  obtain ⟨h1, h2, h3⟩ := h'
  rcases List.eq_nil_or_concat s with rfl | ⟨r, c, rfl⟩
  · exact absurd rfl h1
  · have key : ∀ n (r : List UInt8), r.length = n → r ≠ [] → (∀ c ∈ r, isDg c = true) → r.head? ≠ some 48 → Lib.decDigits (dval r) = r := by
      intro n
      induction n with
      | zero => intro r hr hn; exact absurd (List.eq_nil_of_length_eq_zero hr) hn
      | succ n ih =>
        intro r hr hn hd hh
        rcases List.eq_nil_or_concat r with rfl | ⟨t, c, rfl⟩
        · exact absurd rfl hn
        · have hc := isDg_is (hd c (by simp))
          rw [List.concat_eq_append] at *
          cases t with
          | nil =>
            simp only [List.nil_append, dval, dvA_cons, dvA_nil, Nat.zero_mul, Nat.zero_add]
            rw [dec_small (by omega), dgt_of (hd c (by simp))]
          | cons x t =>
            have i := ih (x :: t) (by simpa using hr) (by simp) (fun c hc => hd c (by simp at hc ⊢; rcases hc with hc | hc; exact Or.inl hc; exact Or.inr (Or.inl hc))) (by simpa using hh)
            have hp := dval_pos (s := x :: t) (by simp) (fun c hc => hd c (by simp at hc ⊢; rcases hc with hc | hc; exact Or.inl hc; exact Or.inr (Or.inl hc))) (by simpa using hh)
            rw [dval_snoc, dec_big (by omega), show (dval (x :: t) * 10 + (c.toNat - 48)) / 10 = dval (x :: t) by omega, show (dval (x :: t) * 10 + (c.toNat - 48)) % 10 = c.toNat - 48 by omega, i, dgt_of (hd c (by simp))]
    rcases h3 with h3 | h3
    · rw [List.concat_eq_append] at *
      have : r = [] := List.eq_nil_of_length_eq_zero (by simp at h3; simp [h3])
      subst this
      have hc := isDg_is (h2 c (by simp))
      simp only [List.nil_append, dval, dvA_cons, dvA_nil, Nat.zero_mul, Nat.zero_add]
      rw [dec_small (by omega), dgt_of (h2 c (by simp))]
    · exact key _ _ rfl h1 h2 h3
theorem dval_take_le (s : List UInt8) (i : Nat) : dval (s.take i) * 10 ^ (s.length - i) ≤ dval s := by
  have h := dval_append (s.take i) (s.drop i)
  rw [List.take_append_drop, List.length_drop] at h
  omega
theorem dval_take_step (s : List UInt8) (i k : Nat) (h : i + k ≤ s.length) : dval (s.take (i + k)) = dval (s.take i) * 10 ^ k + dval ((s.drop i).take k) := by
  rw [List.take_add, dval_append, List.length_take, List.length_drop, Nat.min_eq_left (by omega)]
theorem dval_lt : ∀ (s : List UInt8), (∀ c ∈ s, isDg c = true) → dval s < 10 ^ s.length := by
  intro s
  unfold dval
  suffices ∀ (s : List UInt8) a, (∀ c ∈ s, isDg c = true) → dvA a s < (a + 1) * 10 ^ s.length by
    intro h; simpa using this s 0 h
  intro s
  induction s with
  | nil => intro a _; simp [dvA_nil]
  | cons c r ih =>
    intro a h
    have hc := isDg_is (h c (by simp))
    have := ih (a * 10 + (c.toNat - 48)) (fun c hc => h c (by simp [hc]))
    rw [dvA_cons, List.length_cons, Nat.pow_succ]
    refine Nat.lt_of_lt_of_le this ?_
    rw [← Nat.mul_assoc, Nat.mul_right_comm]
    exact Nat.mul_le_mul_right _ (by omega)
theorem parseM_ok : ∀ (l : List UInt8) (acc : Nat), (∀ c ∈ l, isDg c = true) → (acc + 1) * 10 ^ l.length ≤ 1000000000000000000 → Lib.parseUintM (2 ^ 64 - 1) acc l = .ok (dvA acc l)
  | [], acc, _, _ => rfl
  | c :: r, acc, h, hb => by
    have hc := isDg_is (h c (by simp))
    rw [List.length_cons, Nat.pow_succ, Nat.mul_comm (10 ^ r.length), ← Nat.mul_assoc] at hb
    have hp : 1 ≤ 10 ^ r.length := Nat.pow_pos (by decide)
    have h2 : (acc + 1) * 10 * 1 ≤ (acc + 1) * 10 * 10 ^ r.length := Nat.mul_le_mul_left _ hp
    have h3 : (acc * 10 + (c.toNat - 48) + 1) * 10 ^ r.length ≤ (acc + 1) * 10 * 10 ^ r.length := Nat.mul_le_mul_right _ (by omega)
    rw [Lib.parseUintM, if_pos hc, if_neg (by omega), if_neg (by omega), dvA_cons]
    exact parseM_ok r _ (fun c hc => h c (by simp [hc])) (by omega)
theorem parseB_ok {l : List UInt8} (h0 : l ≠ []) (h : ∀ c ∈ l, isDg c = true) (hl : l.length ≤ 18) : Lib.parseUintB 64 l = .ok (dval l) := by
  unfold Lib.parseUintB
  rw [if_neg h0]
  refine parseM_ok l 0 h ?_
  have := Nat.pow_le_pow_right (n := 10) (by decide) hl
  omega
end Go.Sv

namespace Go.Proofs.YtoiokopmpcogbaaGreatDoor
open Go.RowKit Go.Sv

/-- the library's table of powers of ten -/
def Tab (w : World) : Prop := Lib.TabIs Tryz.prog w "internal/strconv.uint64pow10" .u64 Lib.pow10Tab
theorem Tab.to {w w' : World} (h : Tab w) (hb : Below w.heap.size w w') : Tab w' := tab_below h hb
abbrev decS (n : Nat) : ByteArray := ⟨(Lib.decDigits n).toArray⟩
theorem holds0 (w : World) (T : TypeId) (nd : Nat) (hs : nd ≤ 24) : Go.Sort.Holds (fun (b : UInt8) => Value.int .u8 (b.toNat : Int)) (w.alloc (.cells Lib.zeros24 T)) w.heap.size 0 (Array.replicate nd (0 : UInt8)) := fun j hj => by
  have hj' : j < nd := by simpa using hj
  refine ⟨?_, World.frozen?_alloc_new _ _ _ _⟩
  rw [World.cell?_alloc_new, Lib.zeros24_at _ (by omega), getElem!_pos _ j hj]
  simp
theorem fin0 (w : World) (o : Obj) (dk : Array UInt8) (k : Nat) : ∃ os, (Go.Sort.putRow (fun (b : UInt8) => Value.int .u8 (b.toNat : Int)) (w.alloc o) w.heap.size 0 dk).drewN k = Go.Sort.grow (w.drewN k) os := by
  rw [Go.Sort.alloc_eq_grow]
  obtain ⟨os', _, e⟩ := Go.Sort.putRow_grow_new (fun (b : UInt8) => Value.int .u8 (b.toNat : Int)) w #[o] w.heap.size 0 dk (Nat.le_refl _)
  exact ⟨os', by rw [e]; rfl⟩

set_option maxHeartbeats 2000000 in
set_option maxRecDepth 100000 in
theorem ifmtu_any (u : Nat) (hu : u < 18446744073709551616) (w : World) (ht : Tab w) :
    Calls Tryz.prog 108 #[.int .u64 u, .int .i64 10] w fun e w' => e = .returned (.string (decS u)) ∧ Below w.heap.size w w' := by
  by_cases hs : u < 100
  · have HS := Lib.hid (fun w' => Tryz.internal_strconv_small u hs w')
    have d0 : decide ((u : Int) < 100) = true := decide_eq_true (by omega)
    have d1 : decide (u < 100) = true := decide_eq_true hs
    go_enter Tryz.func108, Tryz.ntmps108
    go_wp2_with (go_at_call 120; refine (HS.out _).mono ?_; rintro e w' ⟨rfl, rfl⟩)
    go_ret
    exact ⟨rfl, Below.refl _ _⟩
  · have hu1 : 1 ≤ u := by omega
    have hnd20 : Lib.nDigits u ≤ 20 := by have := Lib.numDigits_eq u hu1 hu; split at this <;> omega
    have hb3 : Lib.nDigits u ≤ 24 := by omega
    have hal : Tryz.prog.arrayLen 128 = 24 := by kernel_rfl
    have hsl1 : ∀ W, (Instr.sliceAt 128 (.pointer (some ⟨w.heap.size, 0, none⟩)) none (some (.int .i64 (Lib.nDigits u : Int))) none).run Tryz.prog W = .ok (.slice (some ⟨w.heap.size, 0, none⟩) (Lib.nDigits u) 24) W := fun W => by
      rw [run_sliceAt_array_h W 128 ⟨w.heap.size, 0, none⟩ (by kernel_rfl) .i64 (Lib.nDigits u : Int) (by omega) (by rw [hal]; omega)]
      go_simp
    have hH0 := holds0 w 128 (Lib.nDigits u) (by omega)
    have hfmt := Tryz.internal_strconv_formatBase10 w.heap.size 0 24 u (Array.replicate (Lib.nDigits u) 0) (w.alloc (.cells Lib.zeros24 128)) hH0 (by rw [Array.size_replicate]; exact Lib.lt_pow_nDigits u) hu (by rw [Array.size_replicate]; omega)
    rw [Array.size_replicate] at hfmt
    replace hfmt := Lib.hid hfmt
    have HH0 := Lib.hid hH0
    have HN := Lib.hid (fun o => Tryz.internal_strconv_numDigits u hu1 hu (w.alloc o) (ht.to ((Below.refl _ _).alloc (Nat.le_refl _) o)))
    have d0 : decide ((u : Int) < 100) = false := decide_eq_false (by omega)
    have d1 : decide (u < 100) = false := decide_eq_false hs
    clear hH0 hal
    go_enter Tryz.func108, Tryz.ntmps108
    go_wp2_with (go_at_call 121; refine (HN.out _).mono ?_; rintro e w' ⟨rfl, rfl⟩)
    refine hfmt.out.mono ?_
    rintro e w' ⟨rfl, k, v', dk, rfl, hF⟩
    have hcv : (convert 98 9 (.slice (some ⟨w.heap.size, 0, none⟩) (Lib.nDigits u) 24)).run Tryz.prog ((Go.Sort.putRow (fun (b : UInt8) => Value.int .u8 (b.toNat : Int)) (w.alloc (.cells Lib.zeros24 128)) w.heap.size 0 dk).drewN k) = .ok (.string (decS u)) ((Go.Sort.putRow (fun (b : UInt8) => Value.int .u8 (b.toNat : Int)) (w.alloc (.cells Lib.zeros24 128)) w.heap.size 0 dk).drewN k) := by
      have h := run_convert_bytes_back (P := Tryz.prog) ((Go.Sort.putRow (fun (b : UInt8) => Value.int .u8 (b.toNat : Int)) (w.alloc (.cells Lib.zeros24 128)) w.heap.size 0 dk).drewN k) 98 9 5 ⟨w.heap.size, 0, none⟩ 24 (Lib.decDigits u) Tryz.underlying98 Tryz.underlying5 Tryz.underlying9 (fun j hj => by
        rw [Lib.row_is_numeral hF j hj, Lib.add_plain, World.cell?_drewN]
        exact Go.Sort.cell?_putRow (fun (b : UInt8) => Value.int .u8 (b.toNat : Int)) _ w.heap.size 0 _ dk HH0.out (by rw [hF.size, Array.size_replicate]) j (by rw [hF.size]; rw [Lib.decDigits_length] at hj; exact hj))
      rw [Lib.decDigits_length] at h
      exact h
    go_wp2
    go_ret
    obtain ⟨os, eo⟩ := fin0 w (.cells Lib.zeros24 128) dk k
    refine ⟨rfl, ?_⟩
    rw [eo]
    exact (Drawn.of k).below.trans ((below_grow (w.drewN k) os).mono (Nat.le_refl _))
theorem fmtu_any (u : Nat) (hu : u < 18446744073709551616) (w : World) (ht : Tab w) :
    Calls Tryz.prog 85 #[.int .u64 u, .int .i64 10] w fun e w' => e = .returned (.string (decS u)) ∧ Below w.heap.size w w' := by
  have H := Lib.hid (ifmtu_any u hu w ht)
  go_enter Tryz.func85, Tryz.ntmps85
  go_wp2_with fail
  refine H.out.mono ?_
  rintro e w' ⟨rfl, hb⟩
  replace hb := Lib.hid hb
  go_wp2
  go_ret
  exact ⟨rfl, hb.out⟩
end Go.Proofs.YtoiokopmpcogbaaGreatDoor

namespace Go.Proofs.YtoiokopmpcogbaaGreatDoor
open Go.RowKit Go.Sv

abbrev bS (l : List UInt8) : ByteArray := ⟨l.toArray⟩
def sR (l : List (List UInt8)) : List Value := l.map fun x => Value.string (bS x)
theorem bS_append (a b : List UInt8) : bS a ++ bS b = bS (a ++ b) := by
  apply ByteArray.ext
  rw [ByteArray.data_append]
  simp
theorem elStr : ElemT Tryz.prog 88 9 (.string ⟨#[]⟩) 1 16 := ⟨Tryz.underlying88, by kernel_rfl, rfl, by decide⟩
theorem rlm_grown {w w' : World} {row : Option Nat} {l : List Int} {q : LmP} (h : RLm w w.heap.size l q) (hg : w.grownBy w' row) (hn : 0 < l.length → ∀ a, q.a = some a → some a.block ≠ row) : RLm w' w'.heap.size l q := by
  refine ⟨fun h0 => ?_, h.nil, h.cap, h.cmx⟩
  obtain ⟨g, off, e, hlt, hc⟩ := h.arr h0
  exact ⟨g, off, e, Nat.lt_of_lt_of_le hlt hg.size, fun k hk => (hg.cell_far ⟨g, off + k, none⟩ hlt (hn h0 ⟨g, off, none⟩ e)).trans (hc k hk)⟩
theorem tab_grown {w w' : World} {B : Nat} (h : Tab w) (hB : w.heap.size ≤ B) (hb : Below B w w') : Tab w' := h.to (hb.mono hB)

/-- slices.Reverse at strings, of a row of the call's own -/
def RevR (B : Nat) (W : World) (gb : Nat) (zs : List (List UInt8)) (w' : World) : Prop :=
  Below B W w' ∧ gb < w'.heap.size ∧ ∀ (j : Nat) (x : ByteArray), (zs.reverse.map bS)[j]? = some x → w'.cell? ⟨gb, 0 + j, none⟩ = some (.string x)
theorem rev_any (gb cap B : Nat) (zs : List (List UInt8)) (W : World) (hlt : gb < W.heap.size) (hB : B ≤ gb) (hc : ∀ j, j < zs.length → W.cell? ⟨gb, j, none⟩ = (sR zs)[j]?) (hf : ∀ j, W.frozen? ⟨gb, j, none⟩ = false) (hz : zs.length ≤ 1000000) :
    Calls Tryz.prog 86 #[.slice (some ⟨gb, 0, none⟩) zs.length cap] W fun e w' => e = .returned (.tuple #[]) ∧ RevR B W gb zs w' := by
  have hH : Go.Sort.Holds encStr W gb 0 zs.toArray := fun j hj => by
    have hj' : j < zs.length := by simpa using hj
    rw [Nat.zero_add]
    refine ⟨?_, hf j⟩
    rw [hc j hj', getElem!_pos _ j hj]
    simp [sR, hj', encStr]
  refine (Tryz.slices_Reverse_string gb 0 cap zs W hH (by omega)).mono ?_
  rintro e w' ⟨rfl, n, rfl⟩
  refine ⟨rfl, ⟨rfl, rfl, rfl, by simp [Go.Sort.ahead], fun k hk => ?_⟩, by simpa [Go.Sort.ahead] using hlt, fun j x hx => ?_⟩
  · show (W.heap.modify gb _)[k]? = W.heap[k]?
    rw [Array.getElem?_modify]
    rw [if_neg (by omega)]
  · have hj : j < zs.reverse.toArray.size := by
      have := (List.getElem?_eq_some_iff.1 hx).1
      simpa using this
    have hH2 : Go.Sort.Holds encStr (Go.Sort.ahead W n) gb 0 zs.toArray := fun j hj => hH j hj
    rw [Go.Sort.cell?_putRow encStr (Go.Sort.ahead W n) gb 0 _ _ hH2 (by simp) j hj, getElem!_pos _ j hj]
    have := (List.getElem?_eq_some_iff.1 hx).2
    rw [← this]
    simp [encStr]

theorem fieldN (A : Option Addr) (n c : Nat) (w : World) : (Instr.field 24 (.agg #[.slice A n c]) 0).run Tryz.prog w = .ok (.slice A n c) w := by kernel_rfl
structure FmI (w : World) (N k : Nat) (v : Value) (l : List Int) (q : LmP) (wr : World) : Prop where
  own : wr.ownsRow w.heap.size 9 1 v (parts N k).length (sR (parts N k))
  is : l = lim (N / 1000000000 ^ k)
  rl : RLm wr wr.heap.size l q
  ne : 0 < l.length → ∀ a, q.a = some a → v.ownBlock ≠ some a.block
  fin : 0 < N / 1000000000 ^ k ∨ (parts N k).reverse.flatten = Lib.decDigits N
  bel : Below w.heap.size w wr
theorem parts_len (N : Nat) : ∀ k, (parts N k).length ≤ k
  | 0 => Nat.le_refl _
  | k + 1 => by
    have := parts_len N k
    rw [parts]
    split
    · omega
    · simp; omega
theorem FmI.push {w wr w1 w2 w5 : World} {N k : Nat} {v v' : Value} {l l' : List Int} {q q' : LmP} (h : FmI w N k v l q wr) (h0 : 0 < N / 1000000000 ^ k) (hl : l' = lim (N / 1000000000 ^ (k + 1)))
    (b1 : Below wr.heap.size wr w1) (hr : RLm w1 w1.heap.size l' q') (hf : Fr wr.heap.size q') (b2 : Below w1.heap.size w1 w2) {o : Obj}
    (hown : w5.ownsRow w.heap.size 9 1 v' ((parts N k).length + 1) (sR (parts N k) ++ [.string (bS (gtext (N / 1000000000 ^ (k + 1)) (N / 1000000000 ^ k % 1000000000)))]))
    (hg : (w2.alloc o).grownBy w5 v.ownBlock) (hbl : Below w.heap.size w2 w5) (hor : v'.ownBlock = v.ownBlock ∨ v'.ownBlock = some (w2.heap.size + 1)) : FmI w N (k + 1) v' l' q' w5 := by
  have e : N / 1000000000 ^ (k + 1) = N / 1000000000 ^ k / 1000000000 := by rw [Nat.pow_succ, Nat.div_div_eq_div_mul]
  have hp : parts N (k + 1) = parts N k ++ [gtext (N / 1000000000 ^ (k + 1)) (N / 1000000000 ^ k % 1000000000)] := by rw [parts, if_neg (by omega)]
  have h2 := hr.to b2
  have h3 : RLm (w2.alloc o) (w2.alloc o).heap.size l' q' := h2.to ((Below.refl _ _).alloc (Nat.le_refl _) o)
  have hv : ∀ a, q'.a = some a → some a.block ≠ v.ownBlock := fun a ha e => by
    have h4 := hf a ha
    have h5 := (h.own.lt _ e.symm).2
    omega
  refine ⟨?_, hl, rlm_grown h3 hg (fun _ => hv), fun c a ha => ?_, ?_, ?_⟩
  · rw [hp, List.length_append, List.length_singleton]
    simpa [sR] using hown
  · rcases hor with e | e
    · rw [e]; exact fun e2 => hv a ha e2.symm
    · rw [e]
      intro e2
      injection e2 with e2
      obtain ⟨g, off, e3, hlt, _⟩ := h2.arr c
      rw [ha] at e3
      injection e3 with e3
      subst e3
      dsimp only at e2 hlt
      omega
  · by_cases c : N / 1000000000 ^ (k + 1) = 0
    · exact Or.inr (parts_end h0 c)
    · exact Or.inl (by omega)
  · exact (h.bel.trans ((b1.trans (b2.mono b1.size)).mono h.bel.size)).trans hbl
def fmtV (l : List Int) : ByteArray := if vN l = true then decS (vl l) else ⟨#[]⟩
def fmtE (l : List Int) : Int := if vN l = true then 0 else 1
theorem join_bd {l : List (List UInt8)} (hx : ∀ x ∈ l, x.length ≤ 9) (hn : l.length ≤ 1000) : (Lib.join ((l.map bS).map (·.data.toList)) []).length ≤ 140737488355328 ∧ Lib.join ((l.map bS).map (·.data.toList)) [] = l.flatten := by
  have e : (l.map bS).map (·.data.toList) = l := by rw [List.map_map]; simp [Function.comp_def]
  rw [e, join_flat]
  refine ⟨?_, rfl⟩
  have : ∀ l : List (List UInt8), (∀ x ∈ l, x.length ≤ 9) → l.flatten.length ≤ 9 * l.length := by
    intro l
    induction l with
    | nil => intro _; simp
    | cons x r ih =>
      intro h
      have h1 := h x (by simp)
      have h2 := ih (fun y hy => h y (by simp [hy]))
      simp only [List.flatten_cons, List.length_append, List.length_cons]
      omega
  have := this l hx
  omega
theorem parts_nine (N : Nat) : ∀ k, ∀ x ∈ parts N k, x.length ≤ 9
  | 0, x, h => by cases h
  | k + 1, x, h => by
    rw [parts] at h
    split at h
    · exact parts_nine N k x h
    · rcases List.mem_append.1 h with h | h
      · exact parts_nine N k x h
      · rw [List.mem_singleton.1 h]
        exact gtext_len (Nat.mod_lt _ (by decide))
theorem N_bd {l : List Int} (ha : Lim l) (hv : vN l = true) : vl l / 1000000000 ^ 200 = 0 := by
  obtain ⟨na, ca⟩ := vN_can hv
  have h2 : (lim (vl l)).length = l.length := by rw [← lim_vl ha ca]
  have h3 := (lim_len_le (N := vl l) (k := 128)).1 (by omega)
  rw [Bp_two] at h3
  have h4 : vl l < 2 ^ (32 * 128) := by omega
  have h5 : (2 : Nat) ^ (32 * 128) ≤ 1000000000 ^ 200 := by decide +kernel
  exact Nat.div_eq_of_lt (Nat.lt_of_lt_of_le h4 h5)

set_option maxHeartbeats 1000000 in
set_option maxRecDepth 100000 in
theorem format_any (l : List Int) (q : LmP) (w : World) (h : RLm w w.heap.size l q) (hl : Lim l) (ht : Tab w) :
    Calls Tryz.prog 59 #[natV l q] w fun e w' => e = .returned (.tuple #[.string (fmtV l), .int .i64 (fmtE l)]) ∧ Below w.heap.size w w' := by
  have HV := Lib.hid (fun w' => valid_any l q w')
  have S0 := Lib.hid (natArg (Fm.init w) h)
  obtain ⟨qa, qc⟩ := q
  have S := Lib.hid (S0.out.box 24 [.slice qa l.length qc])
  cases hv : vN l with
  | false =>
    have E1 : Hid (fmtV l = ⟨#[]⟩) := Lib.hid (by unfold fmtV; rw [hv]; rfl)
    have E2 : Hid (fmtE l = 1) := Lib.hid (by unfold fmtE; rw [hv]; rfl)
    rw [hv] at HV
    clear hv h S0
    go_enter Tryz.func59, Tryz.ntmps59
    go_wp2_with fail
    refine (HV.out _ S.out.r0).mono ?_
    rintro e w1 ⟨rfl, hb⟩
    replace S := Lib.hid (S.out.call hb)
    clear hb
    go_wp2
    go_ret2
    rw [E1.out, E2.out]
    exact ⟨rfl, S.out.bel⟩
  | true =>
    obtain ⟨na, ca⟩ := vN_can hv
    have E1 : Hid (fmtV l = decS (vl l)) := Lib.hid (by unfold fmtV; rw [hv]; rfl)
    have E2 : Hid (fmtE l = 0) := Lib.hid (by unfold fmtE; rw [hv]; rfl)
    have hN0 := Lib.hid (N_bd hl hv)
    rw [hv] at HV
    by_cases c0 : l.length = 0
    · have d0 : ((l.length : Int) == 0) = true := beq_iff_eq.2 (by omega)
      have e0 : Hid (vl l = 0) := Lib.hid (by have : l = [] := List.eq_nil_of_length_eq_zero c0; subst this; rfl)
      clear c0 hv h S0 hN0 ca na
      go_enter Tryz.func59, Tryz.ntmps59
      go_wp2_with fail
      refine (HV.out _ S.out.r0).mono ?_
      rintro e w1 ⟨rfl, hb⟩
      replace S := Lib.hid (S.out.call hb)
      obtain ⟨⟨z0, f0, y0, -⟩, -⟩ := S.out.facts
      clear hb
      go_wp2
      go_ret2
      rw [E1.out, E2.out, e0.out]
      exact ⟨by rw [show decS 0 = ⟨#[48]⟩ from by unfold decS; rw [dec_small (by decide)]; rfl]; rfl, S.out.bel⟩
    · have d0 : ((l.length : Int) == 0) = false := beq_eq_false_iff_ne.2 (by omega)
      have hN : Hid (0 < vl l) := Lib.hid (by
        rcases Nat.eq_zero_or_pos (vl l) with e | e
        · exact absurd (by rw [lim_vl hl ca, e, lim_zero]; rfl) c0
        · exact e)
      have hlim := Lib.hid (lim_vl hl ca)
      have ht' := Lib.hid (fun w' hw => ht.to (w' := w') hw)
      clear c0 hv h S0 ca ht
      go_enter Tryz.func59, Tryz.ntmps59
      go_wp2_with fail
      refine (HV.out _ S.out.r0).mono ?_
      rintro e w1 ⟨rfl, hb⟩
      replace S := Lib.hid (S.out.call hb)
      obtain ⟨⟨z0, f0, y0, -⟩, -⟩ := S.out.facts
      clear hb
      have I0 : Hid (FmI w (vl l) 0 (.slice none 0 0) l ⟨qa, qc⟩ w1) := Lib.hid ⟨World.ownsRow_nil _ _ _ _, by rw [Nat.pow_zero, Nat.div_one]; exact hlim.out, S.out.r0, fun _ _ _ => by simp [Value.ownBlock], Or.inl (by rw [Nat.pow_zero, Nat.div_one]; exact hN.out), S.out.bel⟩
      have T0 := Lib.hid (ht'.out _ S.out.bel)
      go_wp2
      go_loopg [4, 5, 6, 7, 8] 200 (fun j s4 s5 _ _ _ wr => ∃ (k j' : Nat) (v : Value) (l' : List Int) (q' : LmP), s4 = v ∧ s5 = .slice q'.a l'.length q'.c ∧ j' = j ∧ k + j' = 200 ∧ FmI w (vl l) k v l' q' wr)
      case atStart => exact ⟨0, 200, _, l, ⟨qa, qc⟩, rfl, rfl, rfl, rfl, I0.out⟩
      case round =>
        clear I0 T0 S HV z0 f0 y0
        obtain ⟨k, j, v, l', ⟨q1, c1⟩, rfl, rfl, hjj, hkj, I⟩ := hrel
        replace hjj := Lib.hid hjj
        have hl' := I.is
        by_cases c : l'.length = 0
        · have hz : vl l / 1000000000 ^ k = 0 := lim_len_zero.1 (by rw [← hl']; exact c)
          have hfin : (parts (vl l) k).reverse.flatten = Lib.decDigits (vl l) := I.fin.resolve_left (by omega)
          have hlen := parts_len (vl l) k
          have h9 := parts_nine (vl l) k
          have hown := I.own
          obtain ⟨zs, hzs⟩ : ∃ zs, parts (vl l) k = zs := ⟨_, rfl⟩
          rw [hzs] at hfin hlen h9 hown
          have hn0 : 0 < zs.length := by
            cases zs with
            | nil => exact absurd hfin.symm (dec_ne _)
            | cons x r => simp
          obtain ⟨gb, cc, rfl, hB, hlt⟩ := hown.form hn0
          obtain ⟨A, c', hv2, hcc, _, hcell⟩ := own_form hown
          injection hv2 with e1 e2 e3
          subst e3
          obtain ⟨gb', e4, _, _, hcell⟩ := hcell hn0
          rw [← e1] at e4
          injection e4 with e4
          injection e4 with e4
          subst e4
          have HR := Lib.hid (rev_any gb cc w.heap.size zs wr hlt hB (fun j hj => hcell j (by omega)) (fun j => hown.frozenAt j) (by omega))
          have hbel := Lib.hid I.bel
          have HJ : Hid (∀ w5, RevR w.heap.size wr gb zs w5 → Calls Tryz.prog 87 #[.slice (some ⟨gb, 0, none⟩) zs.length cc, .string ⟨#[]⟩] w5 fun e w' => e = .returned (.string (decS (vl l))) ∧ Below w5.heap.size w5 w') := Lib.hid fun w5 hrev => by
            have e : (zs.reverse.map bS).length = zs.length := by simp
            obtain ⟨j1, j2⟩ := join_bd (l := zs.reverse) (fun x hx => h9 x (by simpa using hx)) (by rw [List.length_reverse]; omega)
            have := Tryz.strings_Join gb 0 cc (zs.reverse.map bS) ⟨#[]⟩ w5 hrev.2.2 hrev.2.1 (by rw [e]; omega) (by rw [e]; exact hcc) j1
            rw [e] at this
            refine this.mono ?_
            rintro e w' ⟨rfl, hb⟩
            exact ⟨by show Ending.returned (.string ⟨(Lib.join ((zs.reverse.map bS).map (·.data.toList)) []).toArray⟩) = _
                      rw [j2, hfin], hb⟩
          have d1 : decide ((0 : Int) < (l'.length : Int)) = false := decide_eq_false (by omega)
          have d2 : decide (0 < l'.length) = false := decide_eq_false (by omega)
          clear I hl' c hz hfin hlen h9 hown hzs hB hlt hcc hcell e1 e2 hn0 hkj
          go_wp2_with fail
          refine HR.out.mono ?_
          rintro e w5 ⟨rfl, hrev⟩
          have HJ1 := Lib.hid (HJ.out _ hrev)
          have hb5 := Lib.hid (hbel.out.trans hrev.1)
          clear hrev
          go_wp2_with fail
          refine HJ1.out.mono ?_
          rintro e w6 ⟨rfl, hb⟩
          have hb6 := Lib.hid (below_of hb5.out hb5.out.size hb)
          clear hb
          go_wp2
          go_ret2
          rw [E1.out, E2.out]
          exact ⟨rfl, hb6.out⟩
        · have hp : 0 < vl l / 1000000000 ^ k := by
            rcases Nat.eq_zero_or_pos (vl l / 1000000000 ^ k) with e | e
            · exact absurd (by rw [hl', e, lim_zero]; rfl) c
            · exact e
          have hj : 0 < j := by
            rcases Nat.eq_zero_or_pos j with e | e
            · subst e
              obtain rfl : k = 200 := by omega
              have := hN0.out
              omega
            · exact e
          have hvl : vl l' = vl l / 1000000000 ^ k := by rw [hl', vl_lim]
          have hL : Lim l' := by rw [hl']; exact lim_lim _
          have hl900 : l'.length ≤ 900 := by
            have h1 : vl l / 1000000000 ^ k ≤ vl l := Nat.div_le_self _ _
            have h2 := (lim_len_le (N := vl l) (k := 128)).1 (by rw [← hlim.out]; exact na)
            have h3 : l'.length ≤ 128 := by rw [hl']; exact lim_len_le.2 (by omega)
            omega
          have HY := byLimb_any l' ⟨q1, c1⟩ 1000000000 wr I.rl hL (by omega) (by decide) (by decide)
          rw [hvl, show ((1000000000 : Nat) : Int) = 1000000000 from rfl] at HY
          unfold DivR at HY
          rw [Nat.div_div_eq_div_mul, ← Nat.pow_succ] at HY
          have hr9 : vl l / 1000000000 ^ k % 1000000000 < 1000000000 := Nat.mod_lt _ (by decide)
          have hpush := Lib.hid (fun w1 w2 w5 v' l'' q' o => I.push (w1 := w1) (w2 := w2) (w5 := w5) (v' := v') (l' := l'') (q' := q') (o := o) hp)
          have hbel := Lib.hid I.bel
          have hown := Lib.hid I.own
          have hpl := parts_len (vl l) k
          have hsz := Lib.hid I.bel.size
          obtain ⟨zs, hzs⟩ : ∃ zs, parts (vl l) k = zs := ⟨_, rfl⟩
          rw [hzs] at hown hpush hpl
          obtain ⟨m, hm⟩ : ∃ m, lim (vl l / 1000000000 ^ (k + 1)) = m := ⟨_, rfl⟩
          have HT := Lib.hid (fun o q2 w2 hr (hn : norm o = lim (vl l / 1000000000 ^ (k + 1))) (hlen : o.length ≤ 1000000) => by have := trim_any o q2 w2 hr hlen; rw [hn] at this; exact this)
          rw [hm] at HT
          have hmz : m.length = 0 ↔ vl l / 1000000000 ^ (k + 1) = 0 := by rw [← hm]; exact lim_len_zero
          obtain ⟨r, hr⟩ : ∃ r, vl l / 1000000000 ^ k % 1000000000 = r := ⟨_, rfl⟩
          rw [hr] at HY hr9 hpush
          have HF := Lib.hid (fun w' (hw : Below w.heap.size w w') => fmtu_any r (by omega) w' (ht'.out _ hw))
          have h9 := group_len hr9
          have hgt : Hid (gtext (vl l / 1000000000 ^ (k + 1)) r = if m.length = 0 then Lib.decDigits r else Lib.repeatL [48] (9 - (Lib.decDigits r).length) ++ Lib.decDigits r) := Lib.hid (by unfold gtext; simp only [hmz])
          obtain ⟨ds, hds⟩ : ∃ ds, Lib.decDigits r = ds := ⟨_, rfl⟩
          rw [hds] at h9 hgt
          obtain ⟨s, hs⟩ : ∃ s, decS r = s := ⟨_, rfl⟩
          have hsd : s = bS ds := by rw [← hs, ← hds]
          have hsz2 : s.size = ds.length := by rw [hsd]; simp [ByteArray.size]
          rw [hs] at HF
          have HP : Hid (∀ w', Calls Tryz.prog 60 #[.string ⟨#[48]⟩, .int .i64 (9 - (s.size : Int))] w' fun e w'' => e = .returned (.string (bS (Lib.repeatL [48] (9 - ds.length)))) ∧ Below w'.heap.size w' w'') := Lib.hid fun w' => by
            have := Tryz.strings_Repeat ⟨#[48]⟩ (9 - ds.length) w' (by omega) (by show 1 * (9 - ds.length) ≤ _; omega)
            rw [show (((9 - ds.length : Nat)) : Int) = 9 - (s.size : Int) by rw [hsz2]; omega] at this
            exact this
          have hS9 : s.size ≤ 9 := by omega
          have hT9 : (bS (Lib.repeatL [48] (9 - ds.length))).size ≤ 9 := by
            have : (bS (Lib.repeatL [48] (9 - ds.length))).size = (Lib.repeatL [48] (9 - ds.length)).length := by simp [ByteArray.size]
            rw [this, Lib.repeatL_length, List.length_singleton]; omega
          have hcat : Hid (bS (Lib.repeatL [48] (9 - ds.length)) ++ s = bS (Lib.repeatL [48] (9 - ds.length) ++ ds)) := Lib.hid (by rw [hsd, bS_append])
          obtain ⟨t, hteq⟩ : ∃ t, bS (Lib.repeatL [48] (9 - ds.length)) = t := ⟨_, rfl⟩
          rw [hteq] at HP hT9 hcat
          have hsd' := Lib.hid hsd
          have d1 : decide ((0 : Int) < (l'.length : Int)) = true := decide_eq_true (by omega)
          have d2 : decide (0 < l'.length) = true := decide_eq_true (by omega)
          replace HY := Lib.hid HY
          have hm' := Lib.hid hm
          clear hsd hteq hsz2 hs hds hr hmz hm hzs I hl' hvl hL hp c
          go_wp2_with fail
          refine HY.out.mono ?_
          rintro e w1 ⟨_, rfl, o, q2, rfl, ho, hoL, hno, hr1, hf1, hb1⟩
          have HT1 := Lib.hid (HT.out o q2 _ hr1 (hno.trans hm'.out) (by omega))
          clear hr1 hf1 hoL hno ho
          go_wp2_with fail
          refine HT1.out.mono ?_
          rintro e w2 ⟨_, rfl, ⟨q3, c3⟩, rfl, hr2, hf2, hb2⟩
          have hb12 := Lib.hid (hb1.trans (hb2.mono hb1.size))
          have hR2 := Lib.hid hr2
          have hF2 := Lib.hid (hf2.le hb1.size)
          have hbw := Lib.hid (below_of hbel.out hbel.out.size hb12.out)
          have HF1 := Lib.hid (HF.out _ hbw.out)
          clear hb1 hb2 hr2 hf2
          dsimp only [natV, rowV]
          have hfd := fieldN
          go_wp2_with fail
          refine HF1.out.mono ?_
          rintro e w3 ⟨rfl, hb3⟩
          have hb23 := Lib.hid hb3
          have hbw3 := Lib.hid (below_of hbw.out hbw.out.size hb3)
          clear hb3
          by_cases c : m.length = 0
          · have eS : Hid (Value.string s = .string (bS (gtext (vl l / 1000000000 ^ (k + 1)) r))) := Lib.hid (by rw [hgt.out, if_pos c, hsd'.out])
            have d3 : decide ((0 : Int) < (m.length : Int)) = false := decide_eq_false (by omega)
            have d4 : decide (0 < m.length) = false := decide_eq_false (by omega)
            replace c := Lib.hid c
            have hown3 := Lib.hid (own_to hown.out (hb12.out.trans (hb23.out.mono hb12.out.size)))
            have hB3 : w.heap.size ≤ w3.heap.size := hbw3.out.size
            go_wp2_with (at_builtin; refine push_own elStr rfl _ _ rfl w.heap.size _ _ _ hown3.out rfl [.string s] rfl rfl rfl (by omega) (by omega) hB3 ?_)
            intro v' w5 hown5 hg5 hb5 _ hor5
            rw [eS.out] at hown5
            have hF := Lib.hid (hpush.out w2 w3 w5 v' m ⟨q3, c3⟩ _ hm'.out.symm hb12.out hR2.out hF2.out hb23.out hown5 hg5 hb5 hor5)
            clear hown5 hg5 hb5 hor5
            go_wp2
            go_roundg (j - 1)
            case measure => have := hjj.out; omega
            case rel => exact ⟨k + 1, j - 1, _, m, ⟨q3, c3⟩, rfl, rfl, rfl, by omega, hF.out⟩
          · have eS : Hid (Value.string (t ++ s) = .string (bS (gtext (vl l / 1000000000 ^ (k + 1)) r))) := Lib.hid (by rw [hgt.out, if_neg c, hcat.out])
            have d3 : decide ((0 : Int) < (m.length : Int)) = true := decide_eq_true (by omega)
            have d4 : decide (0 < m.length) = true := decide_eq_true (by omega)
            replace c := Lib.hid c
            have i1 : (s.size : Int) ≤ 9 := by omega
            go_wp2_with fail
            refine (HP.out _).mono ?_
            rintro e w4 ⟨rfl, hb4⟩
            have hb24 := Lib.hid (hb23.out.trans (hb4.mono hb23.out.size))
            have hbw4 := Lib.hid (below_of hbw3.out hbw3.out.size hb4)
            clear hb4
            have hown4 := Lib.hid (own_to hown.out (hb12.out.trans (hb24.out.mono hb12.out.size)))
            have hB4 : w.heap.size ≤ w4.heap.size := hbw4.out.size
            go_wp2_with (at_builtin; refine push_own elStr rfl _ _ rfl w.heap.size _ _ _ hown4.out rfl [.string (t ++ s)] rfl rfl rfl (by omega) (by omega) hB4 ?_)
            intro v' w5 hown5 hg5 hb5 _ hor5
            rw [eS.out] at hown5
            have hF := Lib.hid (hpush.out w2 w4 w5 v' m ⟨q3, c3⟩ _ hm'.out.symm hb12.out hR2.out hF2.out hb24.out hown5 hg5 hb5 hor5)
            clear hown5 hg5 hb5 hor5
            go_wp2
            go_roundg (j - 1)
            case measure => have := hjj.out; omega
            case rel => exact ⟨k + 1, j - 1, _, m, ⟨q3, c3⟩, rfl, rfl, rfl, by omega, hF.out⟩
end Go.Proofs.YtoiokopmpcogbaaGreatDoor

namespace Go.Proofs.YtoiokopmpcogbaaGreatDoor
open Go.RowKit Go.Sv
/-- a number whose row is new and may be written -/
def NResO (w : World) (l : List Int) (v : Value) (w' : World) : Prop := ∃ q : LmP, v = natV l q ∧ RLm w' w'.heap.size l q ∧ Fr w.heap.size q ∧ Below w.heap.size w w' ∧ (0 < l.length → ∃ g, q.a = some ⟨g, 0, none⟩ ∧ RowAt w' g l)

set_option maxRecDepth 100000 in
theorem rtrim_own (l : List Int) (q : LmP) (w : World) (h : RLm w w.heap.size l q) (hn : l.length ≤ 1000000) :
    Calls Tryz.prog 71 #[.slice q.a l.length q.c] w (Ret (NResO w (norm l))) := by
  obtain ⟨A, c⟩ := q
  have hbx : Hid (∀ o : Obj, Below w.heap.size w (w.alloc o)) := Lib.hid fun o => (Below.refl _ _).alloc (Nat.le_refl _) o
  have hcap : l.length ≤ c := h.cap
  have hcmx : c ≤ maxLen := h.cmx
  have hmx : c ≤ 9223372036854775807 := by unfold maxLen at hcmx; omega
  have ha : Hid (Arr w w.heap.size A l.length (u32v l)) := Lib.hid h.arr
  clear h hcmx
  go_enter Tryz.func71, Tryz.ntmps71
  go_wp2
  go_loop [0] (fun s => ∃ k : Nat, k ≤ l.length ∧ s = .slice A k c ∧ nzl l k = nzl l l.length) (fun s => lenOf s)
  case atStart => exact ⟨l.length, Nat.le_refl _, rfl, rfl⟩
  case round =>
    obtain ⟨k, hk, rfl, hz⟩ := hrel
    cases k with
    | zero =>
      have hN : Hid (norm l = []) := Lib.hid (by unfold norm; rw [← hz]; rfl)
      replace hz := Lib.hid hz
      go_wp2
      refine bodyPost_ret (v := .agg #[.slice none 0 0]) (by simp [results, Tryz.results71, go_sem]) rfl ?_
      rw [hN.out]
      exact Ret.mk ⟨⟨none, 0⟩, rfl, RLm.none_ _ _, Fr.none_ _, hbx.out _, fun h => by simp at h⟩
    | succ k =>
      obtain ⟨b, o, rfl, hb, hc⟩ := ha.out (by omega)
      have d := (hbx.out (.cells #[.slice none 0 0] 24)).cell (p := ⟨b, o + k, none⟩) hb |>.trans (hc k (by omega))
      unfold u32v at d
      clear hc
      have t1 : decide ((0 : Int) < (k : Int) + 1) = true := decide_eq_true (by omega)
      have i0 : (0 : Int) ≤ k := by omega
      have hkc : k ≤ c := by omega
      have hkc2 : (k : Int) ≤ (c : Int) := by omega
      by_cases g : gi l k = 0
      · have g' : (gi l k == 0) = true := beq_iff_eq.2 g
        have hz' : Hid (nzl l k = nzl l l.length) := Lib.hid (by rw [← hz, nzl, if_pos g])
        clear hz g
        go_wp2
        go_round
        case rel => exact ⟨k, by omega, rfl, hz'.out⟩
        case measure => simp [lenOf]
      · have g' : (gi l k == 0) = false := beq_eq_false_iff_ne.2 g
        have hN : Hid (norm l = l.take (k + 1)) := Lib.hid (by unfold norm; rw [← hz, nzl, if_neg g])
        have hL : (l.take (k + 1)).length = k + 1 := by rw [List.length_take]; omega
        have t2 : ((k : Int) + 1 == 0) = false := beq_eq_false_iff_ne.2 (by omega)
        have ha' := ((ha.out.below (hbx.out (.cells #[.slice none 0 0] 24))).more (hbx.out (.cells #[.slice none 0 0] 24)).size).fewer (m := k + 1) (by omega) |>.congr (g := u32v (l.take (k + 1))) fun j hj => by unfold u32v; rw [gi_take hj]
        clear hz g
        obtain ⟨m, hm⟩ : ∃ m, l.take (k + 1) = m := ⟨_, rfl⟩
        rw [hm] at hN ha' hL
        replace ha' := Lib.hid ha'
        have hmn : k + 1 ≤ 1000000 := by omega
        have hL' : Hid (m.length = k + 1) := Lib.hid hL
        clear hm hL
        go_wp2_with (at_builtin; refine copy_own rfl _ _ rfl (World.size_alloc _ _) hL'.out ha'.out (fun h => by cases h) hmn rfl rfl ?_)
        intro v' w1 hR hown
        have hRO := own_lresO (w := w.alloc (.cells #[.slice none 0 0] 24)) (by rw [World.size_alloc]; exact hown) (by obtain ⟨_, _, _, _, hb⟩ := hR; exact hb)
        clear hR hown
        obtain ⟨q, rfl, hr, hf, hb1, hat⟩ := hRO
        have hA : (0 < m.length → ∃ g, q.a = some ⟨g, 0, none⟩ ∧ RowAt (w1.setCell ⟨w.heap.size, 0, none⟩ (rowV m q)) g m) := fun h0 => by
          obtain ⟨g, hg, hrow⟩ := hat h0
          have := hf _ hg
          exact ⟨g, hg, by simpa using hrow.lt, fun k hk => (World.cell?_setCell_other _ _ _ _ (fun e => by
            injection e with e
            simp at this
            omega)).trans (hrow.cell k hk), fun k => by rw [World.frozen?_setCell]; exact hrow.free k⟩
        have hR : Hid (NResO w m (natV m q) (w1.setCell ⟨w.heap.size, 0, none⟩ (rowV m q))) := Lib.hid ⟨q, rfl, rlm_put hr (hf.le (by simp)) _, hf.le (by simp), (below1 hb1).setCell (Nat.le_refl _) _, hA⟩
        obtain ⟨s0, s1, s2⟩ := res_cell (below1' hb1)
        clear hr hf hb1 hat hA
        go_wp2
        refine bodyPost_ret (v := natV m q) (by simp [results, Tryz.results71, go_sem, s0]) rfl ?_
        rw [hN.out]
        exact Ret.mk hR.out
end Go.Proofs.YtoiokopmpcogbaaGreatDoor

namespace Go.Proofs.YtoiokopmpcogbaaGreatDoor
open Go.RowKit Go.Sv
theorem enc_dgt {r : Nat} (h : r < 10) : Utf8.encode (48 + (r : Int)) = bS [dgt r] := by
  have : ∀ r : Fin 10, Utf8.encode (48 + (r.val : Int)) = bS [dgt r.val] := by decide +kernel
  exact this ⟨r, h⟩
theorem dec_k {N k M : Nat} (h : 0 < N / 10 ^ k) (hN : N < 2 ^ M) : k < M := by
  rcases Nat.lt_or_ge k M with c | c
  · exact c
  · exfalso
    have h1 : 2 ^ k ≤ 10 ^ k := Nat.pow_le_pow_left (by decide) k
    have h2 : 2 ^ M ≤ 2 ^ k := Nat.pow_le_pow_right (by decide) c
    have := Nat.div_eq_of_lt (Nat.lt_of_lt_of_le hN (Nat.le_trans h2 h1))
    omega
theorem vN_k {l : List Int} (ha : Lim l) (hv : vN l = true) {k : Nat} (h : 0 < vl l / 10 ^ k) : k < 4096 := by
  obtain ⟨na, ca⟩ := vN_can hv
  have h2 : (lim (vl l)).length = l.length := by rw [← lim_vl ha ca]
  have h3 := (lim_len_le (N := vl l) (k := 128)).1 (by omega)
  rw [Bp_two] at h3
  have := dec_k (M := 32 * 128) h (Int.ofNat_lt.1 h3)
  omega
structure RfI (w : World) (N k : Nat) (l : List Int) (q : LmP) (out : List UInt8) (wr : World) : Prop where
  is : l = lim (N / 10 ^ k)
  rl : RLm wr wr.heap.size l q
  own : 0 < l.length → ∃ g, q.a = some ⟨g, 0, none⟩ ∧ w.heap.size ≤ g ∧ RowAt wr g l
  ta : 0 < N / 10 ^ k → Lib.decDigits N = Lib.decDigits (N / 10 ^ k) ++ out
  tb : N / 10 ^ k = 0 → 0 < k → Lib.decDigits N = out
  ol : out.length = k
  bel : Below w.heap.size w wr
theorem dec_ta {N k : Nat} {out : List UInt8} (h : 0 < N / 10 ^ k) (ta : Lib.decDigits N = Lib.decDigits (N / 10 ^ k) ++ out) :
    (0 < N / 10 ^ (k + 1) → Lib.decDigits N = Lib.decDigits (N / 10 ^ (k + 1)) ++ (dgt (N / 10 ^ k % 10) :: out)) ∧ (N / 10 ^ (k + 1) = 0 → 0 < k + 1 → Lib.decDigits N = dgt (N / 10 ^ k % 10) :: out) := by
  have e : N / 10 ^ (k + 1) = N / 10 ^ k / 10 := by rw [Nat.pow_succ, Nat.div_div_eq_div_mul]
  rw [e]
  constructor
  · intro h1
    rw [ta, dec_big (n := N / 10 ^ k) (by omega)]
    simp
  · intro h1 _
    rw [ta, dec_small (n := N / 10 ^ k) (by omega), Nat.mod_eq_of_lt (by omega)]
    rfl
/-- the inner loop: a row divided by 10 in place -/
structure DvT (l : List Int) (g : Nat) (w : World) (k : Nat) (o : List Int) (r : Int) (wr : World) : Prop where
  by' : BylI l 10 g w k o r wr
  low : ∀ i, i < k → gi o i = gi l i
theorem DvT.step {l o : List Int} {r : Int} {g k : Nat} {w wr : World} (h : DvT l g w (k + 1) o r wr) (hl : Lim l) :
    DvT l g w k (o.set k ((r * 4294967296 + gi l k) / 10)) ((r * 4294967296 + gi l k) % 10) (wr.setCell ⟨g, k, none⟩ (.int .u32 ((r * 4294967296 + gi l k) / 10))) := by
  refine ⟨h.by'.step hl (by decide) (Drawn.refl _), fun i hi => ?_⟩
  rw [gi_set_ne (by omega)]
  exact h.low i (by omega)

set_option maxHeartbeats 1000000 in
set_option maxRecDepth 100000 in
theorem rformat_any (l : List Int) (q : LmP) (w : World) (h : RLm w w.heap.size l q) (hl : Lim l) :
    Calls Tryz.prog 62 #[natV l q] w fun e w' => e = .returned (.tuple #[.string (fmtV l), .int .i64 (fmtE l)]) ∧ Below w.heap.size w w' := by
  have HV := Lib.hid (fun w' => rvalid_any l q w')
  have S0 := Lib.hid (natArg (Fm.init w) h)
  obtain ⟨qa, qc⟩ := q
  have S := Lib.hid (S0.out.box 24 [.slice qa l.length qc])
  cases hv : vN l with
  | false =>
    have E1 : Hid (fmtV l = ⟨#[]⟩) := Lib.hid (by unfold fmtV; rw [hv]; rfl)
    have E2 : Hid (fmtE l = 1) := Lib.hid (by unfold fmtE; rw [hv]; rfl)
    rw [hv] at HV
    clear hv h S0
    go_enter Tryz.func62, Tryz.ntmps62
    go_wp2_with fail
    refine (HV.out _ S.out.r0).mono ?_
    rintro e w1 ⟨rfl, hb⟩
    replace S := Lib.hid (S.out.call hb)
    clear hb
    go_wp2
    go_ret2
    rw [E1.out, E2.out]
    exact ⟨rfl, S.out.bel⟩
  | true =>
    obtain ⟨na, ca⟩ := vN_can hv
    have E1 : Hid (fmtV l = decS (vl l)) := Lib.hid (by unfold fmtV; rw [hv]; rfl)
    have E2 : Hid (fmtE l = 0) := Lib.hid (by unfold fmtE; rw [hv]; rfl)
    have hN := Lib.hid (fun k h => vN_k hl hv (k := k) h)
    have hlim := Lib.hid (lim_vl hl ca)
    rw [hv] at HV
    clear hv h S0 ca
    go_enter Tryz.func62, Tryz.ntmps62
    go_wp2_with fail
    refine (HV.out _ S.out.r0).mono ?_
    rintro e w1 ⟨rfl, hb⟩
    replace S := Lib.hid (S.out.call hb)
    obtain ⟨⟨z0, f0, y0, -⟩, -⟩ := S.out.facts
    clear hb
    have hA : Hid (Arr w1 w1.heap.size qa l.length (u32v l)) := Lib.hid (S.out.r0 : RLm w1 w1.heap.size l ⟨qa, qc⟩).arr
    have hAn : Hid (qa = none → l.length = 0) := Lib.hid fun e => ((S.out.r0 : RLm w1 w1.heap.size l ⟨qa, qc⟩).nil e).1
    go_wp2_with (at_builtin; refine copy_own rfl _ _ rfl rfl rfl hA.out hAn.out (by omega) rfl rfl ?_)
    intro v' w2 hR hown
    have hbR : Below w1.heap.size w1 w2 := by obtain ⟨_, _, _, _, hb⟩ := hR; exact hb
    have hRO := own_lresO hown hbR
    clear hR hown
    obtain ⟨⟨q2, c2⟩, rfl, hr2, hf2, _, hat2⟩ := hRO
    have I0 : Hid (RfI w (vl l) 0 l ⟨q2, c2⟩ [] w2) := Lib.hid
      ⟨by rw [Nat.pow_zero, Nat.div_one]; exact hlim.out, hr2, fun h0 => by obtain ⟨g, hg, hrow⟩ := hat2 h0; exact ⟨g, hg, Nat.le_trans S.out.size (hf2 _ hg), hrow⟩,
        fun _ => by rw [Nat.pow_zero, Nat.div_one]; simp, fun _ h => absurd h (by decide), rfl, below_of S.out.bel S.out.size hbR⟩
    clear hbR hr2 hf2 hat2 hA hAn S HV z0 f0 y0
    dsimp only [rowV]
    go_wp2
    go_loopg [4, 5, 6, 7] (vl l + 1) (fun n s4 s5 _ _ wr => ∃ (k n' : Nat) (l' : List Int) (q' : LmP) (out : List UInt8), s4 = .slice q'.a l'.length q'.c ∧ s5 = .string (bS out) ∧ n' = n ∧ n' = vl l / 10 ^ k + (if k = 0 then 1 else 0) ∧ RfI w (vl l) k l' q' out wr)
    case atStart => exact ⟨0, _, l, ⟨q2, c2⟩, [], rfl, rfl, rfl, by simp, I0.out⟩
    case round =>
      clear I0
      rename World => wo
      obtain ⟨k, n, l', ⟨q1, c1⟩, out, rfl, rfl, hnn, hn, I⟩ := hrel
      replace hnn := Lib.hid hnn
      have hl' := I.is
      by_cases c : l'.length = 0
      · have hz : vl l / 10 ^ k = 0 := lim_len_zero.1 (by rw [← hl']; exact c)
        have d1 : decide ((0 : Int) < (l'.length : Int)) = false := decide_eq_false (by omega)
        have d2 : decide (0 < l'.length) = false := decide_eq_false (by omega)
        by_cases k0 : k = 0
        · subst k0
          obtain rfl : l' = [] := List.eq_nil_of_length_eq_zero c
          obtain rfl : out = [] := List.eq_nil_of_length_eq_zero I.ol
          have hN0 : vl l = 0 := by rw [Nat.pow_zero, Nat.div_one] at hz; exact hz
          have eE : Utf8.encode 48 = bS [48] := by decide +kernel
          have hfin : Hid (∀ w' q', Below wo.heap.size wo w' → RLm w' w'.heap.size [] q' → RfI w (vl l) 1 [] q' [48] w') := Lib.hid fun w' q' hb hr =>
            ⟨by rw [hN0, Nat.zero_div, lim_zero], hr, fun h => by simp at h, fun h => by rw [hN0] at h; simp at h, fun _ _ => by rw [hN0, dec_small (by decide)]; rfl, rfl, below_of I.bel I.bel.size hb⟩
          have HT := Lib.hid (rtrim_own [] ⟨q1, c1⟩ wo I.rl (by simp))
          rw [show norm [] = [] from rfl] at HT
          clear I hl' c hz d1 d2
          replace hN0 := Lib.hid hN0
          replace hn := Lib.hid hn
          go_wp2
          go_loopw [6, 7] (fun s6 s7 wr => s6 = .int .u64 0 ∧ s7 = .int .i64 (-1) ∧ wo = wr) (fun _ _ _ => 0)
          case atStart => exact ⟨rfl, rfl, rfl⟩
          case round =>
            obtain ⟨rfl, rfl, rfl⟩ := hrel
            go_wp2_with fail
            refine HT.out.mono ?_
            rintro e w5 ⟨_, rfl, ⟨q5, c5⟩, rfl, hr5, hf5, hb5, _⟩
            have hF := Lib.hid (hfin.out _ _ hb5 hr5)
            clear hr5 hf5 hb5
            dsimp only [natV]
            have hfd := fieldN
            go_wp2
            go_roundg 0
            case measure => have h1 := hnn.out; have h2 := hn.out; simp at h2; omega
            case rel => exact ⟨1, 0, [], ⟨q5, c5⟩, [48], rfl, by rw [bS_append]; rfl, rfl, by rw [hN0.out]; rfl, hF.out⟩
        · have hout : Lib.decDigits (vl l) = out := I.tb hz (by omega)
          have hol := I.ol
          have hbel := Lib.hid I.bel
          have s1 : out.isEmpty = false := by
            cases out with
            | nil => simp at hol; omega
            | cons x r => rfl
          have hout' := Lib.hid hout
          clear I hl' c hz hn hol hout
          go_wp2
          go_ret2
          rw [E1.out, E2.out]
          exact ⟨by rw [show decS (vl l) = bS out from congrArg bS hout'.out]; rfl, hbel.out⟩
      · have hp : 0 < vl l / 10 ^ k := by
          rcases Nat.eq_zero_or_pos (vl l / 10 ^ k) with e | e
          · exact absurd (by rw [hl', e, lim_zero]; rfl) c
          · exact e
        have hvl : vl l' = vl l / 10 ^ k := by rw [hl', vl_lim]
        have hL : Lim l' := by rw [hl']; exact lim_lim _
        have hl128 : l'.length ≤ 128 := by
          have h1 : vl l / 10 ^ k ≤ vl l := Nat.div_le_self _ _
          have h2 := (lim_len_le (N := vl l) (k := 128)).1 (by rw [← hlim.out]; exact na)
          rw [hl']; exact lim_len_le.2 (by omega)
        have hk := hN.out k hp
        obtain ⟨g, rfl, hg, hrow⟩ := I.own (by omega)
        obtain ⟨t1, t2⟩ := dec_ta hp (I.ta hp)
        have hol := I.ol
        have hcap : l'.length ≤ c1 := I.rl.cap
        have hcmx : c1 ≤ maxLen := I.rl.cmx
        have hbel := Lib.hid I.bel
        have I2 : Hid (DvT l' g wo l'.length l' 0 wo) := Lib.hid ⟨⟨Nat.le_refl _, Int.le_refl _, by decide, rfl, hL, by rw [vu_end, Int.mul_zero, Int.zero_mul]; rfl, hrow, Below.refl _ _⟩, fun _ _ => rfl⟩
        have d1 : decide ((0 : Int) < (l'.length : Int)) = true := decide_eq_true (by omega)
        have d2 : decide (0 < l'.length) = true := decide_eq_true (by omega)
        have hfin : Hid (∀ w4 w5 o q' m, m = lim (vl l / 10 ^ (k + 1)) → Below g wo w4 → Below w4.heap.size w4 w5 → RLm w5 w5.heap.size m q' → Fr w4.heap.size q' → (0 < m.length → ∃ g, q'.a = some ⟨g, 0, none⟩ ∧ RowAt w5 g m) → o = dgt (vl l / 10 ^ k % 10) :: out → RfI w (vl l) (k + 1) m q' o w5) := Lib.hid fun w4 w5 o q' m hm h4 h5 hr hf hat ho => by
          have hb4 : Below w.heap.size w w4 := I.bel.trans (h4.mono hg)
          refine ⟨hm, hr, fun h0 => ?_, by rw [ho]; exact t1, by rw [ho]; exact t2, by rw [ho, List.length_cons, hol], below_of hb4 hb4.size h5⟩
          obtain ⟨g', hg', hr'⟩ := hat h0
          have := hf _ hg'
          have := hb4.size
          exact ⟨g', hg', by dsimp only at *; omega, hr'⟩
        have hn' : n = vl l / 10 ^ k + (if k = 0 then 1 else 0) := hn
        have hdiv : vl l / 10 ^ k / 10 = vl l / 10 ^ (k + 1) := by rw [Nat.pow_succ, Nat.div_div_eq_div_mul]
        have hlt : vl l / 10 ^ (k + 1) + (if k + 1 = 0 then 1 else 0) < n := by rw [if_neg (by omega), hn']; split <;> omega
        replace hlt := Lib.hid hlt
        clear hn hn' t1 t2 I hrow hp hl' c
        replace hdiv := Lib.hid hdiv
        replace hvl := Lib.hid hvl
        go_wp2
        go_loopw [6, 7] (fun s6 s7 wr => ∃ (j : Nat) (o : List Int) (r : Int), s7 = .int .i64 ((j : Int) - 1) ∧ s6 = .int .u64 r ∧ DvT l' g wo j o r wr) (fun _ s7 _ => (intOf s7 + 1).toNat)
        case atStart => exact ⟨l'.length, l', 0, rfl, rfl, I2.out⟩
        case round =>
          clear I2
          obtain ⟨j, o, r, rfl, rfl, I⟩ := hrel
          have hlo := I.by'.len
          have hkn := I.by'.kn
          cases j with
          | zero =>
            obtain ⟨e1, e2⟩ := I.by'.fin hL (by decide)
            rw [hvl.out, hdiv.out] at e1
            rw [hvl.out] at e2
            have hR := I.by'.row.rlm (c := c1) hlo hcap hcmx
            have hb4 := Lib.hid I.by'.bel
            have HT := rtrim_own o ⟨some ⟨g, 0, none⟩, c1⟩ wr hR (by omega)
            rw [e1, hlo] at HT
            obtain ⟨m, hm⟩ : ∃ m, lim (vl l / 10 ^ (k + 1)) = m := ⟨_, rfl⟩
            rw [hm] at HT
            replace HT := Lib.hid HT
            replace hm := Lib.hid hm
            obtain ⟨r', hr'⟩ : ∃ r', vl l / 10 ^ k % 10 = r' := ⟨_, rfl⟩
            have hr9 : r' < 10 := by omega
            rw [hr'] at e2 hfin
            subst e2
            have eE := enc_dgt hr9
            have hcat : Hid (bS [dgt r'] ++ bS out = bS (dgt r' :: out)) := Lib.hid (by rw [bS_append]; rfl)
            have w1' : IntKind.u64.wrap (48 + (r' : Int)) = 48 + (r' : Int) := by simp [IntKind.wrap, IntKind.bits, IntKind.signed]; omega
            have w2' : IntKind.i32.wrap (48 + (r' : Int)) = 48 + (r' : Int) := by simp [IntKind.wrap, IntKind.bits, IntKind.signed]; omega
            have sz1 : (bS [dgt r']).size = 1 := rfl
            have sz2 : (bS out).size ≤ 4096 := by
              have : (bS out).size = out.length := by simp [ByteArray.size]
              omega
            clear I hlo hR e1 hr'
            go_wp2_with fail
            refine HT.out.mono ?_
            rintro e w5 ⟨_, rfl, ⟨q5, c5⟩, rfl, hr5, hf5, hb5, hat5⟩
            have hF := Lib.hid (hfin.out wr w5 _ _ _ hm.out.symm hb4.out hb5 hr5 hf5 hat5 rfl)
            clear hr5 hf5 hb5 hat5
            dsimp only [natV]
            have hfd := fieldN
            go_wp2
            go_roundg (vl l / 10 ^ (k + 1) + (if k + 1 = 0 then 1 else 0))
            case measure => have h1 := hnn.out; have h2 := hlt.out; omega
            case rel => exact ⟨k + 1, _, m, ⟨q5, c5⟩, dgt r' :: out, rfl, by rw [hcat.out], rfl, rfl, hF.out⟩
          | succ j =>
            have e1 : ((j + 1 : Nat) : Int) - 1 = (j : Int) := by omega
            rw [e1]
            clear e1
            have x := hL.at j
            have r0 := I.by'.r0
            have r1 := I.by'.r1
            have eo := or_hi (x := r) r0 (by omega) x.1 x.2
            have y2 := I.by'.row.cell j (by omega)
            rw [I.low j (by omega)] at y2
            have f2 := I.by'.row.free j
            have ij : j < l'.length := by omega
            have ij' : (j : Int) < (l'.length : Int) := by omega
            have q0 : 0 ≤ (r * 4294967296 + gi l' j) / 10 := by omega
            have q1 : (r * 4294967296 + gi l' j) / 10 < 4294967296 := by omega
            have t0 : 0 ≤ r * 4294967296 + gi l' j := by omega
            have t1 : r * 4294967296 + gi l' j < 18446744073709551616 := by omega
            have wC : IntKind.u32.wrap ((r * 4294967296 + gi l' j) / 10) = (r * 4294967296 + gi l' j) / 10 := by simp [IntKind.wrap, IntKind.bits, IntKind.signed]; omega
            have S := Lib.hid (I.step hL)
            obtain ⟨x0, x1⟩ := x
            clear I hlo
            go_wp2
            go_roundw
            case rel => exact ⟨j, _, _, rfl, rfl, S.out⟩
            case measure => simp [intOf]
end Go.Proofs.YtoiokopmpcogbaaGreatDoor
