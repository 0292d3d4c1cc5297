/-
  CONTRACT of the reference's Join.
  Conditions: those that each theorem names.
-/
import Derived.Test.YtmhnocgoknmljaaDoorLyG
namespace Go.Proofs.YtmhnocgoknmljaaDoor
open Go.RowKit Go.Sv Go.Lx
theorem toksF_len : ∀ (f : Nat) (line : Int) (s : Bs) (m : List Tok), toksF f line s = .ok m → m.length ≤ s.length
  | 0, _, _, _, h => by cases h
  | f + 1, line, s, m, h => by
    cases s with
    | nil =>
      have h : Except.ok [] = Except.ok m := h
      injection h with h
      subst h; simp
    | cons c r =>
      unfold toksF at h
      simp only at h
      split at h
      · have := toksF_len f _ _ _ h; simp; omega
      · split at h
        · have := toksF_len f _ _ _ h; simp; omega
        · split at h
          · have h1 := toksF_len f _ _ _ h
            have h2 := dropW_le (fun x : UInt8 => !(x.toNat == 10)) (c :: r)
            omega
          · split at h
            · cases h
            · rename_i t n hn
              split at h
              · cases h
              · rename_i l hl
                injection h with h
                subst h
                have h1 := toksF_len f _ _ _ hl
                have h2 := nextT_pos hn
                rw [List.length_drop] at h1
                simp at h1 ⊢
                omega
theorem tk_len {line : Int} {s : Bs} {m : List Tok} (h : tk line s = .ok m) : m.length ≤ s.length := toksF_len _ _ _ _ h
theorem own_cap {w : World} {base : Nat} {e : TypeId} {size n c : Nat} {A : Option Addr} {xs : List Value} (h : w.ownsRow base e size (.slice A n c) n xs) : n ≤ c := by
  obtain ⟨A', c', hv, h1, _⟩ := own_form h
  injection hv with _ _ h3
  omega
/-- what Tokens hands back, in one form -/
theorem TsR.split {l : Bs} {w w' : World} {e : Ending} (h : TsR l w e w') : ∃ (v : Value) (ln er : Int), e = .returned (.tuple #[v, .int .i64 ln, .int .i64 er]) ∧ Below w.heap.size w w' ∧
    ((er = 2 ∧ v = .slice none 0 0 ∧ tk 1 l = .error ln) ∨ (er = 0 ∧ ln = 0 ∧ ∃ m, tk 1 l = .ok m ∧ w'.ownsRow w.heap.size 25 5 v m.length (tkRow m))) := by
  unfold TsR at h
  cases hk : tk 1 l with
  | ok m =>
    rw [hk] at h
    obtain ⟨v, he, ho, hb⟩ := h
    exact ⟨v, 0, 0, he, hb, Or.inr ⟨rfl, rfl, m, rfl, ho⟩⟩
  | error n =>
    rw [hk] at h
    exact ⟨_, n, 2, h.1, h.2, Or.inl ⟨rfl, rfl, rfl⟩⟩
theorem ap_err {s t : Tok} {n : Int} {b : Bool} (h : (match tk 1 (word s ++ word t) with | .error _ => true | .ok l => !decide (l.map bare = [bare s, bare t])) = b) (e : tk 1 (word s ++ word t) = .error n) : b = true := by
  rw [e] at h; exact h.symm
theorem ap_ok {s t : Tok} {m : List Tok} {b : Bool} (h : (match tk 1 (word s ++ word t) with | .error _ => true | .ok l => !decide (l.map bare = [bare s, bare t])) = b) (e : tk 1 (word s ++ word t) = .ok m) : decide (m.map bare = [s, t].map bare) = !b := by
  rw [e] at h
  rw [← h, Bool.not_not]; rfl
theorem joinV_le : ∀ (l : List Tok) (a : Tok), (∀ t ∈ l, Fw t) → (joinV a l).length ≤ 3001 * l.length
  | [], _, _ => by simp [joinV]
  | t :: l, a, h => by
    have ih := joinV_le l t (fun x hx => h x (List.mem_cons_of_mem _ hx))
    have hw := word_le (h t (List.mem_cons_self ..))
    have h1 : (if apartB a t = true then ([32] : Bs) else []).length ≤ 1 := by split <;> simp
    unfold joinV
    rw [List.length_append, List.length_append, List.length_cons, Nat.mul_add]
    omega
set_option maxHeartbeats 4000000 in
set_option maxRecDepth 100000 in
theorem rJoin_any (A : Option Addr) (c : Nat) (l : List Tok) (w : World) (ht : Tb w) (ha : RTks w w.heap.size A l) (hf : ∀ t ∈ l, Fw t) (hn : l.length ≤ 1000) :
    Calls Tryd.prog 23 #[.slice A l.length c] w fun e w' => e = .returned (.string (bS (joinV rd0 (l.filter validT)))) ∧ Below w.heap.size w w' := by
  have HV := Lib.hid (valids_any A c l w ht ha (fun t h => by have := (hf t h).tx; omega) (by omega))
  obtain ⟨vs, hvs⟩ : ∃ vs, l.filter validT = vs := ⟨_, rfl⟩
  have hvf : ∀ t ∈ vs, Fw t ∧ validT t = true := fun t h => by
    rw [← hvs] at h
    have := List.mem_filter.1 h
    exact ⟨hf t this.1, this.2⟩
  have hvn : vs.length ≤ 1000 := by rw [← hvs]; exact Nat.le_trans (List.length_filter_le _ _) hn
  have hff := Lib.hid (fun k (h : k < vs.length) => (show Fw (tkAt vs k) ∧ validT (tkAt vs k) = true from by rw [tkAt_get h]; exact hvf _ (List.getElem_mem h)))
  rw [hvs] at HV ⊢
  clear hvf hf hvs ha
  go_enter Tryd.func23, Tryd.ntmps23
  go_wp2_with fail
  refine HV.out.mono ?_
  rintro e w1 ⟨v, rfl, hown, hb1⟩
  obtain ⟨A', c', rfl, -, hrd⟩ := own_tks hown
  have hcap := own_cap hown
  have hT1 := ht.to hb1
  replace hb1 := Lib.hid hb1
  clear hown HV
  go_wp2
  go_loopw [4, 5] (fun s4 s5 wr => ∃ (i : Nat) (acc : Bs), s5 = .int .i64 i ∧ s4 = .string (bS acc) ∧ JR vs i acc ∧ Below w1.heap.size w1 wr) (fun _ s5 _ => vs.length - (intOf s5).toNat)
  case atStart => exact ⟨0, [], rfl, rfl, JR.start vs, Below.refl _ _⟩
  case round =>
    obtain ⟨i, acc, rfl, rfl, q, hbel⟩ := hrel
    have q1 := q.le
    have q2 := q.len
    have hB := hbel.size
    replace q := Lib.hid q
    by_cases hlt : i < vs.length
    · obtain ⟨b, off, rfl, hb, hcl⟩ := hrd (by omega)
      have hbw : b < wr.heap.size := by omega
      have hcw : ∀ j, j < vs.length → ∀ k, k < 5 → wr.cell? ⟨b, off + j * 5 + k, none⟩ = some (tkF vs j k) := fun j hj k hk => (hbel.cell (p := ⟨b, off + j * 5 + k, none⟩) hb).trans (hcl j hj k hk)
      obtain ⟨c5, c6, c7, c8, c9⟩ := tk_cells (w := wr) (fun k hk => hcw i hlt k hk)
      obtain ⟨hft, hvt⟩ := hff.out i hlt
      have htk := Lib.hid (q.out.take hlt (word_le hft))
      have hwt := word_le hft
      have j1 : (i : Int) < (vs.length : Int) := by omega
      have hHW := Lib.hid (fun s W (hT : Tb W) (h : Fw s) => rWord_any s W hT h.i64 (by have := h.st; omega))
      by_cases i0 : i = 0
      · subst i0
        obtain ⟨t, htt⟩ : ∃ t, tkAt vs 0 = t := ⟨_, rfl⟩
        rw [htt] at c5 c6 c7 c8 c9 hft hvt htk hwt
        have e0 : apartB (lastAt vs 0) t = false := ap_zero t
        rw [e0] at htk
        have htk' : Hid (JR vs (0 + 1) (acc ++ word t)) := Lib.hid (by have := htk.out; simpa using this)
        have HX := Lib.hid (hHW.out t wr (hT1.to hbel) hft)
        dsimp only [tokV] at HX
        have add1 := fun w => cat_any acc (word t) (by omega) w
        replace hrd := Lib.hid hrd
        simp only [Nat.zero_mul, Nat.add_zero] at c5 c6 c7 c8 c9
        clear hcl hcw htt e0 htk hvt hft
        go_wp2_with fail
        refine HX.out.mono ?_
        rintro e w2 ⟨rfl, hb2⟩
        have hF := Lib.hid (hbel.trans (hb2.mono hB))
        clear hbel hb2 HX
        go_wp2
        go_roundw
        case rel => exact ⟨1, acc ++ word t, rfl, rfl, htk'.out, hF.out⟩
        case measure => simp [intOf]; omega
      · have hi1 : i - 1 + 1 = i := by omega
        obtain ⟨c0, c1, c2, c3, c4⟩ := tk_cells (w := wr) (fun k hk => hcw (i - 1) (by omega) k hk)
        obtain ⟨hfs, hvs'⟩ := hff.out (i - 1) (by omega)
        have hws := word_le hfs
        have hR2 := tks_two (k := i - 1) hcw hbw (by omega)
        rw [hi1] at hR2
        have hap := apart_ref hvs' hvt hfs.i64 hft.i64
        have el : lastAt vs i = tkAt vs (i - 1) := if_neg i0
        rw [el] at htk
        obtain ⟨s, hss⟩ : ∃ s, tkAt vs (i - 1) = s := ⟨_, rfl⟩
        obtain ⟨t, htt⟩ : ∃ t, tkAt vs i = t := ⟨_, rfl⟩
        rw [htt] at c5 c6 c7 c8 c9 hft hvt htk hwt hR2 hap
        rw [hss] at c0 c1 c2 c3 c4 hfs hvs' htk hws hR2 hap
        have w1i : IntKind.i64.wrap ((i : Int) - 1) = (i : Int) - 1 := by simp [IntKind.wrap, IntKind.bits, IntKind.signed]; omega
        have w2i : IntKind.i64.wrap ((i : Int) + 1) = (i : Int) + 1 := by simp [IntKind.wrap, IntKind.bits, IntKind.signed]; omega
        have e1 : ((i : Int) - 1).toNat = i - 1 := by omega
        have k0 : (0 : Int) ≤ (i : Int) - 1 := by omega
        have k1 : (i : Int) - 1 < (vs.length : Int) := by omega
        have k2 : (1 : Int) ≤ (i : Int) := by omega
        have k3 : ¬ ((i : Int) - 1 < 0) := by omega
        have k4 : 0 < i := by omega
        have k6 : i + 1 - (i - 1) = 2 := by omega
        have k7 : (i : Int) + 1 ≤ (c' : Int) := by omega
        have k8 : i + 1 ≤ c' := by omega
        have k9 : (i : Int) - 1 ≤ (i : Int) + 1 := by omega
        have k5 : decide ((0 : Int) < (i : Int)) = true := decide_eq_true (by omega)
        have addw := fun w => cat_any (word s) (word t) (by omega) w
        have HT := Lib.hid (fun W (hT : Tb W) => rtokens_any (word s ++ word t) W hT (by rw [List.length_append]; omega))
        have hTw := Lib.hid (hT1.to hbel)
        have hft' := Lib.hid hft
        have hfs' := Lib.hid hfs
        have hap' := Lib.hid hap
        replace hrd := Lib.hid hrd
        replace hR2 := Lib.hid hR2
        clear hcl hcw htt hss el hvt hvs' hft hfs hap i0
        have H1 := Lib.hid (fun W hT => hHW.out s W hT hfs'.out)
        have H2 := Lib.hid (fun W hT => hHW.out t W hT hft'.out)
        dsimp only [tokV] at H1 H2
        go_wp2_with fail
        go_region_held3 (fun w' => w'.cell? ⟨b, off + (i - 1) * 5, none⟩ = some (.int .i64 s.kind) ∧ w'.cell? ⟨b, off + (i - 1) * 5 + 1, none⟩ = some (.string (bS s.text)) ∧ w'.cell? ⟨b, off + (i - 1) * 5 + 2, none⟩ = some (.int .i64 s.int) ∧ w'.cell? ⟨b, off + (i - 1) * 5 + 3, none⟩ = some (.string (bS s.str)) ∧ w'.cell? ⟨b, off + (i - 1) * 5 + 4, none⟩ = some (.int .i64 s.line) ∧ w'.cell? ⟨b, off + i * 5, none⟩ = some (.int .i64 t.kind) ∧ w'.cell? ⟨b, off + i * 5 + 1, none⟩ = some (.string (bS t.text)) ∧ w'.cell? ⟨b, off + i * 5 + 2, none⟩ = some (.int .i64 t.int) ∧ w'.cell? ⟨b, off + i * 5 + 3, none⟩ = some (.string (bS t.str)) ∧ w'.cell? ⟨b, off + i * 5 + 4, none⟩ = some (.int .i64 t.line))
          (go_keep)
          (first
            | ((with_reducible refine (H1.out wr.drew (hTw.out.to (Below.refl _ _).drew)).mono ?_)
               rintro e w3 ⟨rfl, hb3⟩
               have hb3' : Below wr.heap.size wr w3 := (Below.refl _ _).drew.trans hb3
               have d0 := (hb3'.cell (p := ⟨b, off + (i - 1) * 5, none⟩) hbw).trans c0
               have d1 := (hb3'.cell (p := ⟨b, off + (i - 1) * 5 + 1, none⟩) hbw).trans c1
               have d2 := (hb3'.cell (p := ⟨b, off + (i - 1) * 5 + 2, none⟩) hbw).trans c2
               have d3 := (hb3'.cell (p := ⟨b, off + (i - 1) * 5 + 3, none⟩) hbw).trans c3
               have d4 := (hb3'.cell (p := ⟨b, off + (i - 1) * 5 + 4, none⟩) hbw).trans c4
               have d5 := (hb3'.cell (p := ⟨b, off + i * 5, none⟩) hbw).trans c5
               have d6 := (hb3'.cell (p := ⟨b, off + i * 5 + 1, none⟩) hbw).trans c6
               have d7 := (hb3'.cell (p := ⟨b, off + i * 5 + 2, none⟩) hbw).trans c7
               have d8 := (hb3'.cell (p := ⟨b, off + i * 5 + 3, none⟩) hbw).trans c8
               have d9 := (hb3'.cell (p := ⟨b, off + i * 5 + 4, none⟩) hbw).trans c9
               clear c0 c1 c2 c3 c4 c5 c6 c7 c8 c9)
            | ((with_reducible refine (H2.out w3 (hTw.out.to hb3')).mono ?_)
               rintro e w4 ⟨rfl, hb4⟩
               have hb4' := below_of hb3' hb3'.size hb4
               have e0 := (hb4.cell (p := ⟨b, off + (i - 1) * 5, none⟩) (Nat.lt_of_lt_of_le hbw hb3'.size)).trans d0
               have e1 := (hb4.cell (p := ⟨b, off + (i - 1) * 5 + 1, none⟩) (Nat.lt_of_lt_of_le hbw hb3'.size)).trans d1
               have e2 := (hb4.cell (p := ⟨b, off + (i - 1) * 5 + 2, none⟩) (Nat.lt_of_lt_of_le hbw hb3'.size)).trans d2
               have e3 := (hb4.cell (p := ⟨b, off + (i - 1) * 5 + 3, none⟩) (Nat.lt_of_lt_of_le hbw hb3'.size)).trans d3
               have e4 := (hb4.cell (p := ⟨b, off + (i - 1) * 5 + 4, none⟩) (Nat.lt_of_lt_of_le hbw hb3'.size)).trans d4
               have e5 := (hb4.cell (p := ⟨b, off + i * 5, none⟩) (Nat.lt_of_lt_of_le hbw hb3'.size)).trans d5
               have e6 := (hb4.cell (p := ⟨b, off + i * 5 + 1, none⟩) (Nat.lt_of_lt_of_le hbw hb3'.size)).trans d6
               have e7 := (hb4.cell (p := ⟨b, off + i * 5 + 2, none⟩) (Nat.lt_of_lt_of_le hbw hb3'.size)).trans d7
               have e8 := (hb4.cell (p := ⟨b, off + i * 5 + 3, none⟩) (Nat.lt_of_lt_of_le hbw hb3'.size)).trans d8
               have e9 := (hb4.cell (p := ⟨b, off + i * 5 + 4, none⟩) (Nat.lt_of_lt_of_le hbw hb3'.size)).trans d9
               clear d0 d1 d2 d3 d4 d5 d6 d7 d8 d9)
            | ((with_reducible refine (HT.out w4 (hTw.out.to hb4')).mono ?_)
               rintro e w5 hts
               obtain ⟨v5, ln, er, rfl, hb5, hcase⟩ := hts.split
               have hb5' := below_of hb4' hb4'.size hb5
               have f0 := (hb5.cell (p := ⟨b, off + (i - 1) * 5, none⟩) (Nat.lt_of_lt_of_le hbw hb4'.size)).trans e0
               have f1 := (hb5.cell (p := ⟨b, off + (i - 1) * 5 + 1, none⟩) (Nat.lt_of_lt_of_le hbw hb4'.size)).trans e1
               have f2 := (hb5.cell (p := ⟨b, off + (i - 1) * 5 + 2, none⟩) (Nat.lt_of_lt_of_le hbw hb4'.size)).trans e2
               have f3 := (hb5.cell (p := ⟨b, off + (i - 1) * 5 + 3, none⟩) (Nat.lt_of_lt_of_le hbw hb4'.size)).trans e3
               have f4 := (hb5.cell (p := ⟨b, off + (i - 1) * 5 + 4, none⟩) (Nat.lt_of_lt_of_le hbw hb4'.size)).trans e4
               have f5 := (hb5.cell (p := ⟨b, off + i * 5, none⟩) (Nat.lt_of_lt_of_le hbw hb4'.size)).trans e5
               have f6 := (hb5.cell (p := ⟨b, off + i * 5 + 1, none⟩) (Nat.lt_of_lt_of_le hbw hb4'.size)).trans e6
               have f7 := (hb5.cell (p := ⟨b, off + i * 5 + 2, none⟩) (Nat.lt_of_lt_of_le hbw hb4'.size)).trans e7
               have f8 := (hb5.cell (p := ⟨b, off + i * 5 + 3, none⟩) (Nat.lt_of_lt_of_le hbw hb4'.size)).trans e8
               have f9 := (hb5.cell (p := ⟨b, off + i * 5 + 4, none⟩) (Nat.lt_of_lt_of_le hbw hb4'.size)).trans e9
               clear e0 e1 e2 e3 e4 e5 e6 e7 e8 e9))
        clear H1 HT hts
        have hb5w := Lib.hid hb5'
        have hln := Lib.hid hcase
        clear f0 f1 f2 f3 f4 hcase
        rcases hln.out with ⟨rfl, rfl, herr⟩ | ⟨rfl, rfl, m, hok, hown5⟩
        · have hA := ap_err hap'.out herr
          have htk' : Hid (JR vs (i + 1) (acc ++ 32 :: word t)) := Lib.hid (by have := htk.out; rw [hA] at this; simpa using this)
          have add0 := fun w => cat_any acc [32] (by simp; omega) w
          clear herr hA
          have HX := Lib.hid (H2.out w5 (hTw.out.to (hb5w.out)))
          have add1 := fun w => cat_any (acc ++ [32]) (word t) (by first | omega | (simp only [List.length_append, List.length_singleton]; omega)) w
          go_wp2_with fail
          refine HX.out.mono ?_
          rintro e w8 ⟨rfl, hb8⟩
          have hF := Lib.hid ((hbel.trans ((hb5w.out).mono hB)).trans (hb8.mono (Nat.le_trans hB (hb5w.out).size)))
          clear hb8 HX
          go_wp2
          go_roundw
          case rel => exact ⟨i + 1, _, by go_num, rfl, htk'.out, hF.out⟩
          case measure => simp [intOf]; omega
        · obtain ⟨A5, c5', rfl, -, hrd5⟩ := own_tks hown5
          have hdec := ap_ok hap'.out hok
          have hml : m.length ≤ 1000000 := by
            have h1 := tk_len hok
            rw [List.length_append] at h1
            omega
          have HS := sameT_any A5 (some ⟨b, off + (i - 1) * 5, none⟩) c5' (c' - (i - 1)) m [s, t] w5 hrd5 (RTks.to hR2.out hb5w.out) hml (by simp)
          rw [hdec] at HS
          replace HS := Lib.hid HS
          cases hab : apartB s t with
          | true =>
            rw [hab] at HS
            have htk' : Hid (JR vs (i + 1) (acc ++ 32 :: word t)) := Lib.hid (by have := htk.out; rw [hab] at this; simpa using this)
            have add0 := fun w => cat_any acc [32] (by simp; omega) w
            clear hok hown5 hdec hab
            go_wp2_with fail
            refine HS.out.mono ?_
            rintro e w7 ⟨rfl, hbs⟩
            have hb7 := Lib.hid (below_of hb5w.out hb5w.out.size hbs)
            clear HS
            have HX := Lib.hid (H2.out w7 (hTw.out.to (hb7.out)))
            have add1 := fun w => cat_any (acc ++ [32]) (word t) (by first | omega | (simp only [List.length_append, List.length_singleton]; omega)) w
            have g0 := (hbs.cell (p := ⟨b, off + i * 5, none⟩) (Nat.lt_of_lt_of_le hbw hb5w.out.size)).trans f5
            have g1 := (hbs.cell (p := ⟨b, off + i * 5 + 1, none⟩) (Nat.lt_of_lt_of_le hbw hb5w.out.size)).trans f6
            have g2 := (hbs.cell (p := ⟨b, off + i * 5 + 2, none⟩) (Nat.lt_of_lt_of_le hbw hb5w.out.size)).trans f7
            have g3 := (hbs.cell (p := ⟨b, off + i * 5 + 3, none⟩) (Nat.lt_of_lt_of_le hbw hb5w.out.size)).trans f8
            have g4 := (hbs.cell (p := ⟨b, off + i * 5 + 4, none⟩) (Nat.lt_of_lt_of_le hbw hb5w.out.size)).trans f9
            clear f5 f6 f7 f8 f9 hbs
            go_wp2_with fail
            refine HX.out.mono ?_
            rintro e w8 ⟨rfl, hb8⟩
            have hF := Lib.hid ((hbel.trans (hb7.out.mono hB)).trans (hb8.mono (Nat.le_trans hB hb7.out.size)))
            clear hb8 HX
            go_wp2
            go_roundw
            case rel => exact ⟨i + 1, _, by go_num, rfl, htk'.out, hF.out⟩
            case measure => simp [intOf]; omega
          | false =>
            rw [hab] at HS
            have htk' : Hid (JR vs (i + 1) (acc ++ word t)) := Lib.hid (by have := htk.out; rw [hab] at this; simpa using this)
            clear hok hown5 hdec hab
            go_wp2_with fail
            refine HS.out.mono ?_
            rintro e w7 ⟨rfl, hbs⟩
            have hb7 := Lib.hid (below_of hb5w.out hb5w.out.size hbs)
            clear HS
            have HX := Lib.hid (H2.out w7 (hTw.out.to (hb7.out)))
            have add1 := fun w => cat_any acc (word t) (by first | omega | (simp only [List.length_append, List.length_singleton, List.length_nil]; omega)) w
            have g0 := (hbs.cell (p := ⟨b, off + i * 5, none⟩) (Nat.lt_of_lt_of_le hbw hb5w.out.size)).trans f5
            have g1 := (hbs.cell (p := ⟨b, off + i * 5 + 1, none⟩) (Nat.lt_of_lt_of_le hbw hb5w.out.size)).trans f6
            have g2 := (hbs.cell (p := ⟨b, off + i * 5 + 2, none⟩) (Nat.lt_of_lt_of_le hbw hb5w.out.size)).trans f7
            have g3 := (hbs.cell (p := ⟨b, off + i * 5 + 3, none⟩) (Nat.lt_of_lt_of_le hbw hb5w.out.size)).trans f8
            have g4 := (hbs.cell (p := ⟨b, off + i * 5 + 4, none⟩) (Nat.lt_of_lt_of_le hbw hb5w.out.size)).trans f9
            clear f5 f6 f7 f8 f9 hbs
            go_wp2_with fail
            refine HX.out.mono ?_
            rintro e w8 ⟨rfl, hb8⟩
            have hF := Lib.hid ((hbel.trans (hb7.out.mono hB)).trans (hb8.mono (Nat.le_trans hB hb7.out.size)))
            clear hb8 HX
            go_wp2
            go_roundw
            case rel => exact ⟨i + 1, _, by go_num, rfl, htk'.out, hF.out⟩
            case measure => simp [intOf]; omega
    · obtain rfl : i = vs.length := by omega
      have hacc := Lib.hid q.out.fin
      clear hlt q
      have hF := Lib.hid (hb1.out.trans (hbel.mono hb1.out.size))
      go_wp2
      go_ret
      rw [← hacc.out]
      exact ⟨rfl, hF.out⟩
end Go.Proofs.YtmhnocgoknmljaaDoor
