/-
  PLAIN: the lexer: what the walks ask: texts as bytes, the steps of the loops.
  Conditions: those that each theorem names.
-/
import Derived.Test.YtmhnocgoknmljaaDoorLexA
import Derived.Lib.Index
namespace Go.Lx
open Go
abbrev bS (l : Bs) : ByteArray := ⟨l.toArray⟩
theorem bS_size (l : Bs) : (bS l).size = l.length := by simp [ByteArray.size]
theorem bS_get (l : Bs) (k : Nat) (_h : k < (bS l).size) (h' : k < l.length) : (bS l)[k] = l[k] := rfl
theorem bS_ext (l : Bs) (a b : Nat) : (bS l).extract a b = bS ((l.drop a).take (b - a)) := by
  apply ByteArray.ext
  rw [ByteArray.data_extract]
  simp [List.extract_eq_take_drop]
theorem bS_app (a b : Bs) : bS a ++ bS b = bS (a ++ b) := by
  apply ByteArray.ext
  rw [ByteArray.data_append]
  simp
theorem bS_inj {a b : Bs} (h : bS a = bS b) : a = b := by
  have := congrArg (fun x : ByteArray => x.data.toList) h
  simpa using this
theorem bS_from (l : Bs) (a : Nat) : (bS l).extract a (bS l).size = bS (l.drop a) := by
  rw [bS_ext, bS_size, List.take_of_length_le (by simp)]
theorem bS_to (l : Bs) (b : Nat) : (bS l).extract 0 b = bS (l.take b) := by rw [bS_ext]; simp
theorem bS_of (s : ByteArray) : s = bS s.data.toList := by
  apply ByteArray.ext
  simp
theorem u8_eq {a : UInt8} {n : Nat} (h : a.toNat = n) : a = UInt8.ofNat n := by rw [← h]; simp

/-! ### hexadecimal digits -/
def hexL : Bs := [48, 49, 50, 51, 52, 53, 54, 55, 56, 57, 97, 98, 99, 100, 101, 102]
theorem hexL_get : ∀ n (h : n < 16), hexL[n]'h = hexd n := by decide
def ixO (o : Option Nat) : Int := match o with
  | some n => n
  | none => -1
theorem ix_hexn : ∀ n, n < 256 → Lib.indexByte hexL (UInt8.ofNat n) = ixO (hexv (UInt8.ofNat n)) := by decide +kernel
theorem ix_hex (c : UInt8) : Lib.indexByte hexL c = ixO (hexv c) := by
  have h := ix_hexn c.toNat c.toNat_lt
  rwa [ofNat_toNat] at h

/-! ### the loop of a quoted string -/
structure QI (l : Bs) (i : Nat) (acc : Bs) : Prop where
  pos : 1 ≤ i
  le : i ≤ l.length
  len : acc.length ≤ i
  eq : rd (l.drop 1) = (rd (l.drop i)).map (fun x => (acc ++ x.1, (i - 1) + x.2))
theorem QI.start {l : Bs} (h : 1 ≤ l.length) : QI l 1 [] := ⟨Nat.le_refl _, h, Nat.zero_le _, by cases rd (l.drop 1) <;> simp⟩
theorem QI.close {l : Bs} {i : Nat} {acc : Bs} (q : QI l i acc) (h : i < l.length) (h34 : l[i].toNat = 34) : rd (l.drop 1) = some (acc, i) := by
  have := q.pos
  rw [q.eq, List.drop_eq_getElem_cons h, rd_end h34]
  simp; omega
theorem head_ne {l : Bs} {i : Nat} (h : i < l.length) (h34 : ¬ l[i].toNat = 34) : (l.drop i).head? ≠ some 34 := by
  rw [List.drop_eq_getElem_cons h]
  intro e
  have e : l[i] = 34 := Option.some.inj e
  exact h34 (by rw [e]; rfl)
theorem QI.bad {l : Bs} {i : Nat} {acc : Bs} (q : QI l i acc) (h : i < l.length) (h34 : ¬ l[i].toNat = 34) (hu : un (l.drop i) = none) : rd (l.drop 1) = none := by
  rw [q.eq, rd_bad (head_ne h h34) hu]; rfl
theorem QI.nil {l : Bs} {acc : Bs} (q : QI l l.length acc) : rd (l.drop 1) = none := by
  rw [q.eq, List.drop_length, rd_nil]; rfl
theorem un_le {s : Bs} {b : UInt8} {k : Nat} (h : un s = some (b, k)) : k ≤ s.length := by
  cases s with
  | nil => cases h
  | cons c r =>
    unfold un at h
    simp only at h
    split at h
    · cases r with
      | nil => cases h
      | cons d r =>
        unfold escD at h
        simp only at h
        split at h
        · simp at h; simp; omega
        · split at h
          · simp at h; simp; omega
          · split at h
            · cases r with
              | nil => cases h
              | cons a r =>
                cases r with
                | nil => cases h
                | cons b r =>
                  simp only [escX] at h
                  split at h
                  · split at h
                    · simp at h; simp; omega
                    · cases h
                  · cases h
            · cases h
    · split at h
      · cases h
      · simp at h; simp; omega
theorem QI.step {l : Bs} {i : Nat} {acc : Bs} (q : QI l i acc) (h : i < l.length) (h34 : ¬ l[i].toNat = 34) {b : UInt8} {k : Nat} (hu : un (l.drop i) = some (b, k)) : QI l (i + k) (acc ++ [b]) := by
  have h1 := un_pos hu
  have h2 := un_le hu
  have h3 := q.pos
  have h4 := q.len
  rw [List.length_drop] at h2
  refine ⟨by omega, by omega, by rw [List.length_append, List.length_singleton]; omega, ?_⟩
  rw [q.eq, rd_step (head_ne h h34) hu, List.drop_drop]
  cases rd (l.drop (i + k)) with
  | none => rfl
  | some x => simp; omega
theorem un_92 {l : Bs} {i : Nat} (h : i < l.length) (e : l[i].toNat = 92) : un (l.drop i) = (escD (l.drop (i + 1))).map (fun x => (x.1, x.2 + 1)) := by
  rw [List.drop_eq_getElem_cons h, un, if_pos e]
theorem un_out {l : Bs} {i : Nat} (h : i < l.length) (e : ¬ l[i].toNat = 92) (e2 : l[i].toNat < 32 ∨ 126 < l[i].toNat) : un (l.drop i) = none := by
  rw [List.drop_eq_getElem_cons h, un, if_neg e, if_pos e2]
theorem un_one {l : Bs} {i : Nat} (h : i < l.length) (e : ¬ l[i].toNat = 92) (e2 : ¬ (l[i].toNat < 32 ∨ 126 < l[i].toNat)) : un (l.drop i) = some (l[i], 1) := by
  rw [List.drop_eq_getElem_cons h, un, if_neg e, if_neg e2]

/-! ### the reference's part -/
def partN (s : Bs) : Int := match un s with
  | some (b, _) => b.toNat
  | none => -1
theorem part_yes {s : Bs} {b : UInt8} (h : (esc b).isPrefixOf s = true) : partN s = b.toNat := by
  unfold partN
  rw [esc_prefix h]
theorem part_no {s : Bs} (h34 : s.head? ≠ some 34) (h : ∀ n, n < 256 → (esc (UInt8.ofNat n)).isPrefixOf s = false) : partN s = -1 := by
  unfold partN
  cases hu : un s with
  | none => rfl
  | some x =>
    obtain ⟨b, k⟩ := x
    have h1 := (un_prefix hu h34).1
    have h2 := h b.toNat b.toNat_lt
    rw [ofNat_toNat, h1] at h2
    cases h2

/-! ### runs of bytes -/
theorem tw_end {p : UInt8 → Bool} : ∀ {r : Bs} {m : Nat}, m ≤ r.length → (∀ i (h : i < r.length), i < m → p r[i] = true) → (∀ h : m < r.length, p r[m] = false) → r.takeWhile p = r.take m
  | [], m, h, _, _ => by simp
  | c :: r, 0, _, _, h2 => by
    have := h2 (by simp)
    simp at this
    simp [this]
  | c :: r, m + 1, h, h1, h2 => by
    have e := h1 0 (by simp) (by omega)
    simp at e
    rw [List.takeWhile_cons_of_pos e, List.take_succ_cons, tw_end (by simpa using h) (fun i hi hm => by
      have := h1 (i + 1) (by simpa using hi) (by omega)
      simpa using this) (fun hm => by
      have := h2 (by simpa using hm)
      simpa using this)]

/-! ### the loop over tokens -/
def prefT (out : List Tok) : Except Int (List Tok) → Except Int (List Tok)
  | .error e => .error e
  | .ok l => .ok (out ++ l)
theorem prefT_nil (x : Except Int (List Tok)) : prefT [] x = x := by cases x <;> rfl
theorem prefT_cons (out : List Tok) (t : Tok) (x : Except Int (List Tok)) : prefT out (consT t x) = prefT (out ++ [t]) x := by
  cases x with
  | error e => rfl
  | ok l => simp [prefT, consT]
theorem nextT_le {s : Bs} {t : Tok} {n : Nat} (h : nextT s = some (t, n)) : n ≤ s.length := by
  cases s with
  | nil => cases h
  | cons c r =>
    have d1 := dropW_le isLD r
    unfold nextT at h
    simp only at h
    split at h
    · split at h
      · simp at h
        obtain ⟨-, rfl⟩ := h
        have := (List.takeWhile_sublist isLD (l := r)).length_le
        simp; omega
      · cases h
    · split at h
      · split at h
        · simp at h
          obtain ⟨-, rfl⟩ := h
          have := (List.takeWhile_sublist isD (l := r)).length_le
          simp; omega
        · cases h
      · split at h
        · split at h
          · rename_i t n hr
            have := (rd_le hr).1
            simp at h
            obtain ⟨-, rfl⟩ := h
            simp; omega
          · cases h
        · split at h
          · rename_i x hx
            simp at h
            obtain ⟨-, rfl⟩ := h
            have h3 := List.find?_some hx
            exact (List.isPrefixOf_iff_prefix.1 h3).length_le
          · cases h
structure TI (l : Bs) (i : Nat) (line : Int) (out : List Tok) : Prop where
  le : i ≤ l.length
  lo : 1 ≤ line
  hi : line ≤ i + 1
  len : out.length ≤ i
  eq : tk 1 l = prefT out (tk line (l.drop i))
theorem TI.start (l : Bs) : TI l 0 1 [] := ⟨Nat.zero_le _, by omega, by omega, Nat.le_refl _, by rw [prefT_nil]; rfl⟩
theorem TI.nl {l : Bs} {i : Nat} {line : Int} {out : List Tok} (q : TI l i line out) (h : i < l.length) (e : l[i].toNat = 10) : TI l (i + 1) (line + 1) out := by
  have a := q.lo; have b := q.hi; have c := q.len
  refine ⟨h, by omega, by omega, by omega, ?_⟩
  rw [q.eq, List.drop_eq_getElem_cons h, u8_eq e]
  exact congrArg _ (tk_nl _ _)
theorem TI.sp {l : Bs} {i : Nat} {line : Int} {out : List Tok} (q : TI l i line out) (h : i < l.length) (e : l[i].toNat = 32 ∨ l[i].toNat = 9) : TI l (i + 1) line out := by
  have a := q.lo; have b := q.hi; have c := q.len
  refine ⟨h, by omega, by omega, by omega, ?_⟩
  rw [q.eq, List.drop_eq_getElem_cons h, tk_sp _ _ (e.imp u8_eq u8_eq)]
theorem TI.cm {l : Bs} {i j : Nat} {line : Int} {out : List Tok} (q : TI l i line out) (h : i + 1 < l.length) (e : l[i].toNat = 47) (e2 : l[i + 1].toNat = 47) (hij : i ≤ j) (hj : j ≤ l.length)
    (h1 : ∀ k (h : k < l.length), i ≤ k → k < j → ¬ l[k].toNat = 10) (h2 : ∀ h : j < l.length, l[j].toNat = 10) : TI l j line out := by
  have a := q.lo; have b := q.hi; have c := q.len
  refine ⟨hj, by omega, by omega, by omega, ?_⟩
  have key : (l.drop i).dropWhile (fun x => !(x.toNat == 10)) = l.drop j := by
    have t := tw_end (p := fun x : UInt8 => !(x.toNat == 10)) (r := l.drop i) (m := j - i) (by rw [List.length_drop]; omega) (fun k hk hm => by
      rw [List.length_drop] at hk
      have := h1 (i + k) (by omega) (by omega) (by omega)
      simpa using this) (fun hm => by
      rw [List.length_drop] at hm
      have := h2 (by omega)
      simp only [List.getElem_drop]
      simp only [show i + (j - i) = j by omega, this]
      rfl)
    have s := List.takeWhile_append_dropWhile (p := fun x : UInt8 => !(x.toNat == 10)) (l := l.drop i)
    rw [t] at s
    have s2 := List.take_append_drop (j - i) (l.drop i)
    rw [List.drop_drop, show i + (j - i) = j by omega] at s2
    exact List.append_cancel_left (s.trans s2.symm)
  have e3 : l.drop i = 47 :: 47 :: l.drop (i + 2) := by
    rw [List.drop_eq_getElem_cons (Nat.lt_of_succ_lt h), List.drop_eq_getElem_cons h, u8_eq e, u8_eq e2]; rfl
  rw [q.eq, ← key, e3, tk_cm]
  rfl
theorem TI.tok {l : Bs} {i : Nat} {line : Int} {out : List Tok} (q : TI l i line out) (ht : tokB (l.drop i) = true) {t : Tok} {n : Nat} (hn : nextT (l.drop i) = some (t, n)) : TI l (i + n) line (out ++ [{ t with line := line }]) := by
  have a := q.lo; have b := q.hi; have c := q.len; have d := q.le
  have h1 := nextT_pos hn
  have h2 := nextT_le hn
  rw [List.length_drop] at h2
  refine ⟨by omega, by omega, by omega, by rw [List.length_append, List.length_singleton]; omega, ?_⟩
  rw [q.eq, tk_tok _ ht, hn]
  simp only
  rw [prefT_cons, List.drop_drop]
theorem TI.bad {l : Bs} {i : Nat} {line : Int} {out : List Tok} (q : TI l i line out) (ht : tokB (l.drop i) = true) (hn : nextT (l.drop i) = none) : tk 1 l = .error line := by
  rw [q.eq, tk_tok _ ht, hn]; rfl
theorem TI.fin {l : Bs} {line : Int} {out : List Tok} (q : TI l l.length line out) : tk 1 l = .ok out := by
  rw [q.eq, List.drop_length, tk_nil]; simp [prefT]
theorem tokB_at {l : Bs} {i : Nat} (h : i < l.length) (h1 : ¬ l[i].toNat = 10) (h2 : ¬ l[i].toNat = 32) (h3 : ¬ l[i].toNat = 9) (h4 : ¬ (l[i].toNat = 47 ∧ ∃ h' : i + 1 < l.length, l[i + 1].toNat = 47)) : tokB (l.drop i) = true := by
  rw [List.drop_eq_getElem_cons h]
  unfold tokB
  have e : (l[i].toNat == 47 && (l.drop (i + 1)).head? == some 47) = false := by
    rw [Bool.eq_false_iff]
    intro e
    simp only [Bool.and_eq_true, beq_iff_eq] at e
    refine h4 ⟨e.1, ?_⟩
    rcases Nat.lt_or_ge (i + 1) l.length with c | c
    · refine ⟨c, ?_⟩
      have e2 := e.2
      rw [List.drop_eq_getElem_cons c] at e2
      have e2 : l[i + 1] = 47 := Option.some.inj e2
      rw [e2]; rfl
    · have e2 := e.2
      rw [List.drop_eq_nil_of_le c] at e2
      cases e2
  simp only [beq_eq_false_iff_ne.2 h1, beq_eq_false_iff_ne.2 h2, beq_eq_false_iff_ne.2 h3, e]
  rfl

/-! ### the reference's integer -/
structure RI (t : Bs) (i : Nat) (n sg : Int) : Prop where
  le : i ≤ t.length
  r1 : -9223372036854775808 ≤ n
  r2 : n ≤ 9223372036854775807
  eq : (i = 0 ∧ n = 0 ∧ sg = 1) ∨ (0 < i ∧ ((sg = 1 ∧ refInt t = fP n (t.drop i)) ∨ (sg = -1 ∧ refInt t = fN n (t.drop i))))
theorem RI.start (t : Bs) : RI t 0 0 1 := ⟨Nat.zero_le _, by omega, by omega, Or.inl ⟨rfl, rfl, rfl⟩⟩
theorem RI.minus {t : Bs} (h : 0 < t.length) (e : t[0].toNat = 45) : RI t 1 0 (-1) := by
  refine ⟨h, by omega, by omega, Or.inr ⟨by omega, Or.inr ⟨rfl, ?_⟩⟩⟩
  cases t with
  | nil => simp at h
  | cons c r =>
    have e : c = 45 := u8_eq e
    subst e
    exact refInt_neg r
theorem RI.dig {t : Bs} {i : Nat} {n sg : Int} (q : RI t i n sg) (h : i < t.length) (e : ¬ (i = 0 ∧ ∃ h : 0 < t.length, t[0].toNat = 45)) : RI t (i + 1) (W (10 * n + sg * ((t[i].toNat : Int) - 48))) sg := by
  have hr := W_range (10 * n + sg * ((t[i].toNat : Int) - 48))
  refine ⟨h, hr.1, hr.2, Or.inr ⟨by omega, ?_⟩⟩
  rcases q.eq with ⟨rfl, rfl, rfl⟩ | ⟨h0, ⟨rfl, he⟩ | ⟨rfl, he⟩⟩
  · refine Or.inl ⟨rfl, ?_⟩
    have h45 : ¬ t[0].toNat = 45 := fun e' => e ⟨rfl, h, e'⟩
    cases t with
    | nil => simp at h
    | cons c r =>
      have h45 : ¬ c.toNat = 45 := h45
      rw [refInt_pos h45, Int.one_mul]
      rfl
  · refine Or.inl ⟨rfl, ?_⟩
    rw [he, List.drop_eq_getElem_cons h, Int.one_mul]
    rfl
  · refine Or.inr ⟨rfl, ?_⟩
    rw [he, List.drop_eq_getElem_cons h]
    show fN (W (10 * n - ((t[i].toNat : Int) - 48))) _ = _
    congr 2
    omega
theorem RI.fin {t : Bs} {n sg : Int} (q : RI t t.length n sg) (h : 0 < t.length) : n = refInt t := by
  rcases q.eq with ⟨h0, -, -⟩ | ⟨h0, ⟨-, he⟩ | ⟨-, he⟩⟩
  · omega
  · rw [he, List.drop_length]; rfl
  · rw [he, List.drop_length]; rfl
theorem num_of_ok {t : Bs} {v : Int} (hp : Lib.parseIntB 64 t = .ok v) (h1 : -9223372036854775808 ≤ v) (h2 : v ≤ 9223372036854775807) : numV t = if Lib.itoa v = t then some v else none := by
  split
  · rename_i h
    rw [← h]; exact num_itoa h1 h2
  · rename_i h
    cases hn : numV t with
    | none => rfl
    | some u =>
      obtain ⟨e1, e2, -, -⟩ := num_ok hn
      rw [hp] at e2
      injection e2 with e2
      rw [← e2] at e1
      exact absurd e1 h
theorem num_of_err {t : Bs} (hp : ∀ v, Lib.parseIntB 64 t ≠ .ok v) : numV t = none := by
  cases hn : numV t with
  | none => rfl
  | some u => exact absurd (num_ok hn).2.1 (hp u)
end Go.Lx

namespace Go.Lx
open Go
/-! ### Statements -/
structure SI (l : List Tok) (i : Nat) (s : Sst) : Prop where
  le : i ≤ l.length
  ol : s.op.length ≤ i
  rl : s.out.length ≤ i
  bg : s.beg ≤ i
  co : ∀ o ∈ s.op, closeS o ≠ []
  rg : ∀ x ∈ s.out, x.1 ≤ x.2 ∧ x.2 ≤ i
  eq : stRun 0 l ⟨[], [], 0⟩ = stRun i (l.drop i) s
theorem SI.start (l : List Tok) : SI l 0 ⟨[], [], 0⟩ := ⟨Nat.zero_le _, Nat.le_refl _, Nat.le_refl _, Nat.le_refl _, fun _ h => (by simp at h), fun _ h => (by simp at h), rfl⟩
theorem SI.run {l : List Tok} {i : Nat} {s : Sst} (q : SI l i s) (h : i < l.length) : stRun 0 l ⟨[], [], 0⟩ = (match stStep i l[i] s with
    | .error e => .error e
    | .ok s' => stRun (i + 1) (l.drop (i + 1)) s') := by
  rw [q.eq, List.drop_eq_getElem_cons h]; rfl
theorem SI.skip {l : List Tok} {i : Nat} {s : Sst} (q : SI l i s) (h : i < l.length) (e : stStep i l[i] s = .ok s) : SI l (i + 1) s := by
  have a := q.ol; have b := q.rl; have c := q.bg
  exact ⟨h, by omega, by omega, by omega, q.co, fun x hx => ⟨(q.rg x hx).1, by have := (q.rg x hx).2; omega⟩, by rw [q.run h, e]⟩
theorem SI.opn {l : List Tok} {i : Nat} {s : Sst} (q : SI l i s) (h : i < l.length) (h4 : l[i].kind = 4) (ho : closeS l[i].text ≠ []) : SI l (i + 1) { s with op := s.op ++ [l[i].text] } := by
  have a := q.ol; have b := q.rl; have c := q.bg
  refine ⟨h, by simp; omega, by simp only; omega, by simp only; omega, fun o hm => ?_, fun x hx => ⟨(q.rg x hx).1, by have := (q.rg x hx).2; omega⟩, ?_⟩
  · rcases List.mem_append.1 hm with hm | hm
    · exact q.co o hm
    · rw [List.mem_singleton.1 hm]; exact ho
  · rw [q.run h, stStep, if_neg (by simp [h4]), if_pos ho]
theorem SI.cls {l : List Tok} {i : Nat} {s : Sst} (q : SI l i s) (h : i < l.length) (h4 : l[i].kind = 4) (ho : closeS l[i].text = []) (hc : openS l[i].text ≠ []) (e : s.op.getLast? = some (openS l[i].text)) : SI l (i + 1) { s with op := s.op.dropLast } := by
  have a := q.ol; have b := q.rl; have c := q.bg
  refine ⟨h, by simp; omega, by simp only; omega, by simp only; omega, fun o hm => q.co o (List.dropLast_subset _ hm), fun x hx => ⟨(q.rg x hx).1, by have := (q.rg x hx).2; omega⟩, ?_⟩
  rw [q.run h, stStep, if_neg (by simp [h4]), if_neg (by simp [ho]), if_pos hc, if_pos e]
theorem SI.bad {l : List Tok} {i : Nat} {s : Sst} (q : SI l i s) (h : i < l.length) (h4 : l[i].kind = 4) (ho : closeS l[i].text = []) (hc : openS l[i].text ≠ []) (e : s.op.getLast? ≠ some (openS l[i].text)) : stmts l = .error l[i].line := by
  unfold stmts
  rw [q.run h, stStep, if_neg (by simp [h4]), if_neg (by simp [ho]), if_pos hc, if_neg e]
theorem SI.semi {l : List Tok} {i : Nat} {s : Sst} (q : SI l i s) (h : i < l.length) (h4 : l[i].kind = 4) (e : l[i].text = [59]) (ho : s.op = []) : SI l (i + 1) { s with out := s.out ++ [(s.beg, i)], beg := i + 1 } := by
  have a := q.ol; have b := q.rl; have c := q.bg
  refine ⟨h, by simp only; omega, by simp; omega, by simp only; omega, q.co, fun x hx => ?_, ?_⟩
  · rcases List.mem_append.1 hx with hx | hx
    · exact ⟨(q.rg x hx).1, by have := (q.rg x hx).2; omega⟩
    · rw [List.mem_singleton.1 hx]; exact ⟨c, by simp⟩
  · rw [q.run h, stStep, if_neg (by simp [h4]), if_neg (by rw [e]; decide), if_neg (by rw [e]; decide), if_pos ⟨e, ho⟩]
theorem SI.end_ {l : List Tok} {s : Sst} (q : SI l l.length s) : stmts l = if s.beg < l.length then .error ((l.getLast?.map Tok.line).getD 0) else .ok s.out := by
  unfold stmts
  rw [q.eq, List.drop_length]; rfl
theorem step_kind {i : Nat} {t : Tok} {s : Sst} (h : ¬ t.kind = 4) : stStep i t s = .ok s := by unfold stStep; rw [if_pos h]
theorem step_other {i : Nat} {t : Tok} {s : Sst} (h1 : closeS t.text = []) (h2 : openS t.text = []) (h3 : ¬ (t.text = [59] ∧ s.op = [])) : stStep i t s = .ok s := by
  unfold stStep
  by_cases h : t.kind = 4
  · rw [if_neg (by simp [h]), if_neg (by simp [h1]), if_neg (by simp [h2]), if_neg h3]
  · rw [if_pos h]
end Go.Lx
