/-
  PLAIN: the lexer: Join, and white space between tokens.
  Conditions: those that each theorem names.
-/
import Derived.Test.YtmhnocgoknmljaaDoorLexJ
namespace Go.Lx
open Go
def apartB (a b : Tok) : Bool :=
  if a.kind = 1 then decide (b.kind = 1) || (decide (b.kind = 2) && decide (0 ≤ b.int))
  else if a.kind = 2 then decide (b.kind = 2) && decide (0 ≤ b.int)
  else if a.kind = 4 then decide (a.text = [46]) && decide (b.kind = 4) && decide (b.text.head? = some 46)
  else false
/-- the first byte of a valid token's text -/
theorem head_word {b : Tok} (hv : validT b = true) : ∃ c t, word b = c :: t ∧ (b.kind = 1 ∨ b.kind = 2 ∨ b.kind = 3 ∨ b.kind = 4) ∧ (b.kind = 1 → isL c = true) ∧ (b.kind = 2 → (b.int < 0 → c = 45) ∧ (0 ≤ b.int → isD c = true)) ∧ (b.kind = 3 → c = 34) ∧
    (b.kind = 4 → b.text = c :: t ∧ isLD c = false) := by
  obtain ⟨kind, text, int, str, line⟩ := b
  unfold validT at hv
  simp only at hv
  split at hv
  · rename_i hk
    subst hk
    cases text with
    | nil => simp [nameB] at hv
    | cons c t =>
      simp only [nameB, Bool.and_eq_true, decide_eq_true_eq] at hv
      exact ⟨c, t, rfl, Or.inl rfl, fun _ => hv.1.1.1.2, fun h => absurd h (by simp), fun h => absurd h (by simp), fun h => absurd h (by simp)⟩
  · split at hv
    · rename_i hk
      subst hk
      have hw : word ⟨2, text, int, str, line⟩ = Lib.itoa int := rfl
      rw [hw]
      by_cases hn : int < 0
      · rw [itoa_neg hn]
        exact ⟨45, _, rfl, Or.inr (Or.inl rfl), fun h => absurd h (by simp), fun _ => ⟨fun _ => rfl, fun h => absurd hn (Int.not_lt.2 h)⟩, fun h => absurd h (by simp), fun h => absurd h (by simp)⟩
      · rw [itoa_pos (by omega)]
        obtain ⟨d, t, e, d1, d2⟩ := dec_cons int.toNat
        exact ⟨d, t, e, Or.inr (Or.inl rfl), fun h => absurd h (by simp), fun _ => ⟨fun h => absurd h hn, fun _ => by unfold isD; simp; omega⟩, fun h => absurd h (by simp), fun h => absurd h (by simp)⟩
    · split at hv
      · rename_i hk
        subst hk
        exact ⟨34, _, rfl, Or.inr (Or.inr (Or.inl rfl)), fun h => absurd h (by simp), fun h => absurd h (by simp), fun _ => rfl, fun h => absurd h (by simp)⟩
      · split at hv
        · rename_i hk
          subst hk
          simp only [Bool.and_eq_true, List.contains_iff_mem] at hv
          have key : ∀ x ∈ syms, ∃ c t, x = c :: t ∧ isLD c = false := by
            have h : ∀ x ∈ syms, (match x with | [] => false | c :: _ => !isLD c) = true := by decide
            intro x hx
            have := h x hx
            cases x with
            | nil => cases this
            | cons c t => exact ⟨c, t, rfl, by simpa using this⟩
          obtain ⟨c, t, e, hc⟩ := key text hv.1.1
          exact ⟨c, t, e, Or.inr (Or.inr (Or.inr rfl)), fun h => absurd h (by simp), fun h => absurd h (by simp), fun h => absurd h (by simp), fun _ => ⟨e, hc⟩⟩
        · cases hv
theorem LD_or {c : UInt8} (h : isLD c = false) : isL c = false ∧ isD c = false := by
  unfold isLD at h
  simpa using h
theorem D_LD {c : UInt8} (h : isD c = true) : isLD c = true := by unfold isLD; rw [h]; simp
theorem L_notD {c : UInt8} (h : isL c = true) : isD c = false := by
  cases hd : isD c with
  | false => rfl
  | true =>
    unfold isD at hd
    simp only [Bool.and_eq_true, decide_eq_true_eq] at hd
    rw [not_L_of_D hd.1 hd.2] at h
    cases h
theorem fol_word {a b : Tok} (hb : validT b = true) (h : apartB a b = false) (r : Bs) : fol a (word b ++ r) := by
  obtain ⟨c, t, e, hk, k1, k2, k3, k4⟩ := head_word hb
  rw [e]
  refine ⟨fun ha x hx => ?_, fun ha x hx => ?_, fun ha ht hx => ?_⟩
  · simp at hx
    subst hx
    unfold apartB at h
    rw [if_pos ha] at h
    simp only [Bool.or_eq_false_iff, Bool.and_eq_false_iff, decide_eq_false_iff_not] at h
    rcases hk with hk | hk | hk | hk
    · exact absurd hk h.1
    · have : b.int < 0 := by
        rcases h.2 with h | h
        · exact absurd hk h
        · omega
      rw [(k2 hk).1 this]; decide
    · rw [k3 hk]; decide
    · exact (k4 hk).2
  · simp at hx
    subst hx
    unfold apartB at h
    rw [if_neg (by omega), if_pos ha] at h
    simp only [Bool.and_eq_false_iff, decide_eq_false_iff_not] at h
    rcases hk with hk | hk | hk | hk
    · exact L_notD (k1 hk)
    · have : b.int < 0 := by
        rcases h with h | h
        · exact absurd hk h
        · omega
      rw [(k2 hk).1 this]; decide
    · rw [k3 hk]; decide
    · exact (LD_or (k4 hk).2).2
  · simp at hx
    subst hx
    unfold apartB at h
    rw [if_neg (by omega), if_neg (by omega), if_pos ha, ht] at h
    simp only [decide_true, Bool.true_and, Bool.and_eq_false_iff, decide_eq_false_iff_not] at h
    rcases hk with hk | hk | hk | hk
    · have := k1 hk; revert this; decide
    · by_cases hn : b.int < 0
      · have := (k2 hk).1 hn; revert this; decide
      · have := (k2 hk).2 (by omega); revert this; decide
    · have := k3 hk; revert this; decide
    · rcases h with h | h
      · exact h hk
      · exact h (by rw [(k4 hk).1]; rfl)
/-- where a space is wanted, the tokens of the two texts are others -/
theorem joined_no {a b : Tok} (ha : validT a = true) (hb : validT b = true) (ia : I64 a) (_ib : I64 b) (h : apartB a b = true) {l : List Tok} (hl : tk 1 (word a ++ word b) = .ok l) : l.map bare ≠ [bare a, bare b] := by
  obtain ⟨c, t, e, hk, k1, k2, k3, k4⟩ := head_word hb
  -- the first token is another one
  have key : tokB (word a ++ word b) = true → (∀ x n, nextT (word a ++ word b) = some (x, n) → x ≠ bare a) → l.map bare ≠ [bare a, bare b] := by
    intro h1 h2 h3
    rw [tk_tok 1 h1] at hl
    cases hn : nextT (word a ++ word b) with
    | none => rw [hn] at hl; cases hl
    | some x =>
      obtain ⟨x, n⟩ := x
      rw [hn] at hl
      simp only at hl
      cases hr : tk 1 ((word a ++ word b).drop n) with
      | error e => rw [hr] at hl; cases hl
      | ok m =>
        rw [hr] at hl
        injection hl with hl
        subst hl
        simp only [List.map_cons, List.cons.injEq] at h3
        refine h2 x n hn ?_
        have := h3.1
        have hx : bare { x with line := 1 } = bare x := rfl
        rw [hx] at this
        -- nextT gives tokens of line 0
        have z : ∀ {s : Bs} {x : Tok} {n : Nat}, nextT s = some (x, n) → bare x = x := by
          intro s x n hs
          cases s with
          | nil => cases hs
          | cons c r =>
            unfold nextT at hs
            simp only at hs
            split at hs
            · split at hs
              · simp at hs; rw [← hs.1]; rfl
              · cases hs
            · split at hs
              · split at hs
                · simp at hs; rw [← hs.1]; rfl
                · cases hs
              · split at hs
                · split at hs
                  · simp at hs; rw [← hs.1]; rfl
                  · cases hs
                · split at hs
                  · simp at hs; rw [← hs.1]; rfl
                  · cases hs
        rw [← z hn]; exact this
  obtain ⟨kind, text, int, str, line⟩ := a
  unfold apartB at h
  simp only at h
  unfold validT at ha
  simp only at ha
  split at h
  · rename_i hk1
    subst hk1
    rw [if_pos rfl] at ha
    have hw : word ⟨1, text, int, str, line⟩ = text := rfl
    cases text with
    | nil => simp [nameB] at ha
    | cons d s =>
      simp only [nameB, Bool.and_eq_true, decide_eq_true_eq, List.all_cons] at ha
      have hcl : isLD c = true := by
        simp only [Bool.or_eq_true, Bool.and_eq_true, decide_eq_true_eq] at h
        rcases h with h | h
        · exact isLD_L (k1 h)
        · exact D_LD ((k2 h.1).2 h.2)
      have hd : isL d = true := ha.1.1.1.2
      refine key ?_ fun x n hn hx => ?_
      · rw [hw]
        show tokB (d :: (s ++ word b)) = true
        unfold tokB
        unfold isL at hd
        simp only [Bool.or_eq_true, Bool.and_eq_true, beq_iff_eq, decide_eq_true_eq] at hd
        simp only [Bool.and_eq_true, Bool.not_eq_true', beq_eq_false_iff_ne, ne_eq, Bool.and_eq_false_iff]
        omega
      · rw [hw, e] at hn
        have hn : nextT (d :: (s ++ c :: t)) = some (x, n) := hn
        unfold nextT at hn
        simp only at hn
        rw [if_pos hd] at hn
        split at hn
        · simp at hn
          obtain ⟨hn, -⟩ := hn
          rw [hx] at hn
          have : d :: (s ++ c :: t).takeWhile isLD = d :: s := congrArg Tok.text hn
          have e2 : (s ++ c :: t).takeWhile isLD = s ++ (c :: t).takeWhile isLD := List.takeWhile_append_of_pos (List.all_eq_true.1 ha.1.1.2.2)
          rw [e2, List.takeWhile_cons_of_pos hcl] at this
          simp at this
        · cases hn
  · split at h
    · rename_i hk1 hk2
      subst hk2
      rw [if_neg hk1, if_pos rfl] at ha
      simp only [Bool.and_eq_true, decide_eq_true_eq] at h
      have hcd := (k2 h.1).2 h.2
      have hw : word ⟨2, text, int, str, line⟩ = Lib.itoa int := rfl
      -- the digits go on
      have num : ∀ (p q : Bs), numV (p ++ q) = some int → Lib.itoa int = p → q ≠ [] → False := fun p q hp hi hq => by
        obtain ⟨e1, -⟩ := num_ok hp
        rw [hi] at e1
        have := congrArg List.length e1
        simp at this
        exact hq (by simpa using this)
      by_cases hneg : int < 0
      · have hit := itoa_neg hneg
        obtain ⟨d, s, ed, d1, d2⟩ := dec_cons int.natAbs
        have hall := dig_all int.natAbs
        refine key (by rw [hw, hit]; rfl) fun x n hn hx => ?_
        rw [hw, hit, e] at hn
        have hn : nextT (45 :: (Lib.decDigits int.natAbs ++ c :: t)) = some (x, n) := hn
        unfold nextT at hn
        simp only at hn
        rw [if_neg (by decide), if_pos (Or.inr ⟨rfl, d, by rw [ed]; rfl, by unfold isD; simp; omega⟩)] at hn
        have e2 : (Lib.decDigits int.natAbs ++ c :: t).takeWhile isD = Lib.decDigits int.natAbs ++ (c :: t).takeWhile isD := List.takeWhile_append_of_pos (List.all_eq_true.1 hall)
        rw [e2] at hn
        split at hn
        · rename_i v hv
          simp at hn
          obtain ⟨hn, -⟩ := hn
          rw [hx] at hn
          have hv2 : v = int := congrArg Tok.int hn
          rw [hv2] at hv
          exact num (45 :: Lib.decDigits int.natAbs) ((c :: t).takeWhile isD) hv hit (by rw [List.takeWhile_cons_of_pos hcd]; simp)
        · cases hn
      · have hit := itoa_pos (Int.not_lt.1 hneg)
        obtain ⟨d, s, ed, d1, d2⟩ := dec_cons int.toNat
        have hall := dig_all int.toNat
        rw [ed] at hit hall
        simp only [List.all_cons, Bool.and_eq_true] at hall
        refine key ?_ fun x n hn hx => ?_
        · rw [hw, hit]
          show tokB (d :: (s ++ word b)) = true
          unfold tokB
          simp only [Bool.and_eq_true, Bool.not_eq_true', beq_eq_false_iff_ne, ne_eq, Bool.and_eq_false_iff]
          omega
        · rw [hw, hit, e] at hn
          have hn : nextT (d :: (s ++ c :: t)) = some (x, n) := hn
          unfold nextT at hn
          simp only at hn
          rw [if_neg (by rw [not_L_of_D d1 d2]; decide), if_pos (Or.inl hall.1)] at hn
          have e2 : (s ++ c :: t).takeWhile isD = s ++ (c :: t).takeWhile isD := List.takeWhile_append_of_pos (List.all_eq_true.1 hall.2)
          rw [e2] at hn
          split at hn
          · rename_i v hv
            simp at hn
            obtain ⟨hn, -⟩ := hn
            rw [hx] at hn
            have hv2 : v = int := congrArg Tok.int hn
            rw [hv2] at hv
            exact num (d :: s) ((c :: t).takeWhile isD) hv hit (by rw [List.takeWhile_cons_of_pos hcd]; simp)
          · cases hn
    · split at h
      · rename_i hk1 hk2 hk4
        subst hk4
        simp only [Bool.and_eq_true, decide_eq_true_eq] at h
        obtain ⟨⟨rfl, hb4⟩, hh⟩ := h
        have ec : c = 46 := by
          rw [(k4 hb4).1] at hh
          simpa using hh
        subst ec
        have hw : word ⟨4, [46], int, str, line⟩ = [46] := rfl
        refine key (by rw [hw]; rfl) fun x n hn hx => ?_
        rw [hw, e] at hn
        have hn : nextT (46 :: 46 :: t) = some (x, n) := hn
        have hs : symAt (46 :: 46 :: t) = some [46, 46] := rfl
        unfold nextT at hn
        simp only at hn
        rw [if_neg (by decide), if_neg (by
          rintro (h | ⟨h, -⟩)
          · revert h; decide
          · revert h; decide), if_neg (by decide), hs] at hn
        simp at hn
        obtain ⟨hn, -⟩ := hn
        rw [hx] at hn
        have := congrArg Tok.text hn
        simp [bare] at this
      · cases h

/-! ### Join -/
/-- the joined text of valid tokens behind one -/
def joinV : Tok → List Tok → Bs
  | _, [] => []
  | last, t :: l => (if apartB last t = true then [32] else []) ++ (word t ++ joinV t l)
theorem fol_nil (a : Tok) : fol a [] := ⟨fun _ c h => (by cases h), fun _ c h => (by cases h), fun _ _ h => (by cases h)⟩
theorem fol_c {a : Tok} {c : UInt8} (r : Bs) (h1 : isLD c = false) (h2 : c ≠ 46) : fol a (c :: r) :=
  ⟨fun _ x h => by simp at h; subst h; exact h1, fun _ x h => by simp at h; subst h; exact (LD_or h1).2, fun _ _ h => h2 (by simpa using h)⟩
theorem tk_join (line : Int) : ∀ (l : List Tok) (a : Tok), validT a = true → I64 a → (∀ t ∈ l, validT t = true ∧ I64 t) → tk line (word a ++ joinV a l) = .ok ((a :: l).map fun t => { t with line := line })
  | [], a, ha, ia, _ => by
    show tk line (word a ++ []) = _
    rw [tk_word line ha ia (fol_nil a), tk_nil]
    rfl
  | t :: l, a, ha, ia, hl => by
    obtain ⟨ht, it⟩ := hl t (List.mem_cons_self ..)
    have ih := tk_join line l t ht it (fun x hx => hl x (List.mem_cons_of_mem _ hx))
    unfold joinV
    by_cases h : apartB a t = true
    · rw [if_pos h]
      show tk line (word a ++ (32 :: (word t ++ joinV t l))) = _
      rw [tk_word line ha ia (fol_c _ (by decide) (by decide)), tk_sp line _ (Or.inl rfl), ih]
      rfl
    · rw [if_neg h]
      show tk line (word a ++ (word t ++ joinV t l)) = _
      rw [tk_word line ha ia (fol_word ht (by simpa using h) _), ih]
      rfl
/-- the reference's test for a space -/
theorem apart_ref {a b : Tok} (ha : validT a = true) (hb : validT b = true) (ia : I64 a) (ib : I64 b) :
    (match tk 1 (word a ++ word b) with | .error _ => true | .ok l => !decide (l.map bare = [bare a, bare b])) = apartB a b := by
  cases h : apartB a b with
  | true =>
    cases hl : tk 1 (word a ++ word b) with
    | error e => rfl
    | ok l =>
      simp only
      rw [decide_eq_false (joined_no ha hb ia ib h hl)]; rfl
  | false =>
    have e := tk_word (r := word b) 1 ha ia (by have := fol_word hb h []; rwa [List.append_nil] at this)
    have e2 := tk_word (r := []) 1 hb ib (fol_nil b)
    rw [List.append_nil, tk_nil] at e2
    rw [e, e2]
    show (!decide ([bare a, bare b] = [bare a, bare b])) = false
    rw [decide_eq_true rfl]; rfl
end Go.Lx
