/-
  CONTRACTS of the reference's integer, Symbols and isSymbol.
  Conditions: those that each theorem names.
-/
import Derived.Test.YtmhnocgoknmljaaDoorLxQ2
namespace Go.Proofs.YtmhnocgoknmljaaDoor
open Go.RowKit Go.Sv Go.Lx
/-- a token with a length, as the reference hands it back -/
def rdV (t : Tok) (n : Nat) : Value := .agg #[.int .i64 t.kind, .string (bS t.text), .int .i64 t.int, .string (bS t.str), .int .i64 t.line, .int .i64 n]
def rd0 : Tok := ⟨0, [], 0, [], 0⟩
theorem wrapW (z : Int) : IntKind.i64.wrap z = W z := by
  unfold W
  simp [IntKind.wrap, IntKind.bits, IntKind.signed]
  omega
theorem zcell6 : Tryd.prog.info? 72 = Tryd.prog.info? 72 := rfl
/-- what integer hands back -/
def IgR (t : Bs) (w : World) (e : Ending) (w' : World) : Prop :=
  (match numV t with
    | some v => e = .returned (rdV ⟨2, [], v, [], 0⟩ t.length)
    | none => e = .returned (rdV rd0 0)) ∧ Below w.heap.size w w'
theorem num_some {t : Bs} (h : Lib.itoa (refInt t) = t) : numV t = some (refInt t) := if_pos h
theorem num_none {t : Bs} (h : ¬ Lib.itoa (refInt t) = t) : numV t = none := if_neg h
set_option maxHeartbeats 1000000 in
set_option maxRecDepth 100000 in
theorem integer_any (t : Bs) (w : World) (ht : Tb w) (hl0 : 0 < t.length) (hn : t.length ≤ 1000000) :
    Calls Tryd.prog 65 #[.string (bS t)] w (IgR t w) := by
  have hsz := Lib.hid (bS_size t)
  obtain ⟨W0, hW, S⟩ : ∃ W0, w.alloc (.cells #[.int .i64 0, .string ⟨#[]⟩, .int .i64 0, .string ⟨#[]⟩, .int .i64 0, .int .i64 0] 72) = W0 ∧ Fm w W0 [⟨w.heap.size, 72, [.int .i64 0, .string ⟨#[]⟩, .int .i64 0, .string ⟨#[]⟩, .int .i64 0, .int .i64 0]⟩] [] :=
    ⟨_, rfl, (Fm.init w).box 72 _⟩
  have hT0 := Lib.hid (ht.to S.bel)
  obtain ⟨⟨z1, f1, y10, y11, y12, y13, y14, y15, -⟩, -⟩ := S.facts
  have HF := Lib.hid (fun n h0 h1 => fmt_any n h0 h1 W0 hT0.out)
  replace S := Lib.hid S
  go_enter Tryd.func65, Tryd.ntmps65
  go_wp2
  clear hW
  go_loop [3, 4, 5] (fun s3 s4 s5 => ∃ (i : Nat) (n sg : Int), s5 = .int .i64 i ∧ s3 = .int .i64 n ∧ s4 = .int .i64 sg ∧ RI t i n sg) (fun _ _ s5 => t.length - (intOf s5).toNat)
  case atStart => exact ⟨0, 0, 1, rfl, rfl, rfl, RI.start t⟩
  case round =>
    obtain ⟨i, n, sg, rfl, rfl, rfl, q⟩ := hrel
    have q2 := q.le
    have r1 := q.r1
    have r2 := q.r2
    replace q := Lib.hid q
    by_cases hlt : i < t.length
    · obtain ⟨c, hc⟩ : ∃ c, t[i] = c := ⟨_, rfl⟩
      have g0 : ∀ h : i < (bS t).size, ((bS t)[i]'h) = c := fun h => hc
      have g0 := g0 (by rw [hsz.out]; exact hlt)
      have hsg : Hid (sg = 1 ∨ sg = -1) := Lib.hid (by
        rcases q.out.eq with ⟨-, -, h⟩ | ⟨-, ⟨h, -⟩ | ⟨h, -⟩⟩
        · exact Or.inl h
        · exact Or.inl h
        · exact Or.inr h)
      by_cases i0 : i = 0
      · subst i0
        by_cases c45 : (c.toNat : Int) = 45
        · have t2 : ((c.toNat : Int) == 45) = true := by simp [c45]
          have hq := Lib.hid (RI.minus hl0 (by rw [hc]; omega))
          have hz : n = 0 ∧ sg = 1 := by
            rcases q.out.eq with ⟨-, h1, h2⟩ | ⟨h, -⟩
            · exact ⟨h1, h2⟩
            · omega
          obtain ⟨rfl, rfl⟩ := hz
          clear c45 hc q hsg
          go_wp2
          go_round
          case rel => exact ⟨1, 0, -1, rfl, rfl, rfl, hq.out⟩
          case measure => simp [intOf]; omega
        · have t2 : ((c.toNat : Int) == 45) = false := by simp [c45]
          have hno : ¬ ((0 : Nat) = 0 ∧ ∃ h : 0 < t.length, t[0].toNat = 45) := fun ⟨_, h, e⟩ => by rw [hc] at e; omega
          have hq := Lib.hid (q.out.dig hlt hno)
          rw [hc] at hq
          obtain ⟨d, hd⟩ : ∃ d, (c.toNat : Int) - 48 = d := ⟨_, rfl⟩
          have hcl := c.toNat_lt
          have w1 : IntKind.i64.wrap ((c.toNat : Int) - 48) = d := by rw [hd, wrapW]; unfold W; omega
          rw [hd] at hq
          obtain ⟨f, hf⟩ : ∃ f, sg * d = f := ⟨_, rfl⟩
          have hfb : -300 ≤ f ∧ f ≤ 300 := by
            rcases hsg.out with rfl | rfl <;> omega
          have w2 : IntKind.i64.wrap (sg * d) = f := by rw [hf, wrapW]; unfold W; omega
          have w2' : IntKind.i64.wrap f = f := by rw [wrapW]; unfold W; omega
          rw [hf] at hq
          have w3 : IntKind.i64.wrap (IntKind.i64.wrap (10 * n) + f) = W (10 * n + f) := by rw [wrapW, wrapW]; unfold W; omega
          obtain ⟨m, hm⟩ : ∃ m, W (10 * n + f) = m := ⟨_, rfl⟩
          rw [hm] at hq w3
          obtain ⟨u, hu⟩ : ∃ u, IntKind.i64.wrap (10 * n) = u := ⟨_, rfl⟩
          rw [hu] at w3
          clear c45 hno hc hd hf hfb hm q
          go_wp2
          go_round
          case rel => exact ⟨1, m, sg, rfl, rfl, rfl, hq.out⟩
          case measure => simp [intOf]; omega
      · have t2 : ((i : Int) == 0) = false := beq_eq_false_iff_ne.2 (by omega)
        have t2' : (i == 0) = false := beq_eq_false_iff_ne.2 i0
        have hno : ¬ (i = 0 ∧ ∃ h : 0 < t.length, t[0].toNat = 45) := fun ⟨h, _⟩ => i0 h
        have hq := Lib.hid (q.out.dig hlt hno)
        rw [hc] at hq
        obtain ⟨d, hd⟩ : ∃ d, (c.toNat : Int) - 48 = d := ⟨_, rfl⟩
        have hcl := c.toNat_lt
        have w1 : IntKind.i64.wrap ((c.toNat : Int) - 48) = d := by rw [hd, wrapW]; unfold W; omega
        rw [hd] at hq
        obtain ⟨f, hf⟩ : ∃ f, sg * d = f := ⟨_, rfl⟩
        have hfb : -300 ≤ f ∧ f ≤ 300 := by
          rcases hsg.out with rfl | rfl <;> omega
        have w2 : IntKind.i64.wrap (sg * d) = f := by rw [hf, wrapW]; unfold W; omega
        have w2' : IntKind.i64.wrap f = f := by rw [wrapW]; unfold W; omega
        rw [hf] at hq
        have w3 : IntKind.i64.wrap (IntKind.i64.wrap (10 * n) + f) = W (10 * n + f) := by rw [wrapW, wrapW]; unfold W; omega
        obtain ⟨m, hm⟩ : ∃ m, W (10 * n + f) = m := ⟨_, rfl⟩
        rw [hm] at hq w3
        obtain ⟨u, hu⟩ : ∃ u, IntKind.i64.wrap (10 * n) = u := ⟨_, rfl⟩
        rw [hu] at w3
        clear hno i0 hc hd hf hfb hm q
        go_wp2
        go_round
        case rel => exact ⟨i + 1, m, sg, by go_num, rfl, rfl, hq.out⟩
        case measure => simp [intOf]; omega
    · obtain rfl : i = t.length := by omega
      have hn' := q.out.fin hl0
      subst hn'
      have HF1 := Lib.hid (HF.out (refInt t) r1 r2)
      clear hlt q
      by_cases hit : Lib.itoa (refInt t) = t
      · have t1 : (Lib.itoa (refInt t) == t) = true := beq_iff_eq.2 hit
        have t1' : (Lib.itoa (refInt t) != t) = false := by rw [bne, t1]; rfl
        have hR := Lib.hid (num_some hit)
        obtain ⟨v, hv⟩ : ∃ v, refInt t = v := ⟨_, rfl⟩
        rw [hv] at t1 t1' hR HF1 ⊢
        clear hit hv r1 r2
        go_wp2_with fail
        refine HF1.out.mono ?_
        rintro e w2 ⟨rfl, hb2⟩
        replace S := Lib.hid (S.out.call hb2)
        clear y10 y11 y12 y13 y14 y15 z1 f1 hb2 HF1
        obtain ⟨⟨z1, f1, y10, y11, y12, y13, y14, y15, -⟩, -⟩ := S.out.facts
        have hF := Lib.hid ((((((S.out.set 0 rfl 0 (.int .i64 2)).set 0 rfl 1 (.string ⟨#[]⟩)).set 0 rfl 2 (.int .i64 v)).set 0 rfl 3 (.string ⟨#[]⟩)).set 0 rfl 4 (.int .i64 0)).set 0 rfl 5 (.int .i64 t.length))
        go_wp2
        refine bodyPost_ret (v := rdV ⟨2, [], v, [], 0⟩ t.length) (by simp [results, Tryd.results65, go_sem, rdV, y10, y11, y12, y13, y14, y15]) rfl ?_
        exact ⟨by rw [hR.out], hF.out.bel⟩
      · have t1 : (Lib.itoa (refInt t) == t) = false := beq_eq_false_iff_ne.2 hit
        have t1' : (Lib.itoa (refInt t) != t) = true := by rw [bne, t1]; rfl
        have hR := Lib.hid (num_none hit)
        obtain ⟨v, hv⟩ : ∃ v, refInt t = v := ⟨_, rfl⟩
        rw [hv] at t1 t1' HF1 ⊢
        clear hit hv r1 r2
        go_wp2_with fail
        refine HF1.out.mono ?_
        rintro e w2 ⟨rfl, hb2⟩
        replace S := Lib.hid (S.out.call hb2)
        clear y10 y11 y12 y13 y14 y15 z1 f1 hb2 HF1
        obtain ⟨⟨z1, f1, y10, y11, y12, y13, y14, y15, -⟩, -⟩ := S.out.facts
        have hF := Lib.hid ((((((S.out.set 0 rfl 0 (.int .i64 0)).set 0 rfl 1 (.string ⟨#[]⟩)).set 0 rfl 2 (.int .i64 0)).set 0 rfl 3 (.string ⟨#[]⟩)).set 0 rfl 4 (.int .i64 0)).set 0 rfl 5 (.int .i64 0))
        go_wp2
        refine bodyPost_ret (v := rdV rd0 0) (by simp [results, Tryd.results65, go_sem, rdV, rd0, y10, y11, y12, y13, y14, y15]) rfl ?_
        exact ⟨by rw [hR.out], hF.out.bel⟩

/-! ### symbols -/
def symArr : List Value := symsR.map fun x => Value.string (bS x)
theorem Symbols_any (w : World) : Calls Tryd.prog 55 #[] w fun e w' => e = .returned (.slice (some ⟨w.heap.size, 0, none⟩) 18 18) ∧ w' = w.alloc (.cells symArr.toArray 9) := by
  go_enter Tryd.func55, Tryd.ntmps55
  go_wp2
  go_ret
  exact ⟨rfl, rfl⟩
theorem symsR_len : symsR.length = 18 := rfl
set_option maxRecDepth 100000 in
theorem isSym_any (s : Bs) (w : World) :
    Calls Tryd.prog 38 #[.string (bS s)] w fun e w' => e = .returned (.bool (decide (s ∈ symsR))) ∧ Below w.heap.size w w' := by
  have HS := Lib.hid (Symbols_any w)
  have hb := Lib.hid ((Below.refl _ w).alloc (Nat.le_refl _) (.cells symArr.toArray 9))
  have hc := Lib.hid (fun k (h : k < symsR.length) => (show (w.alloc (.cells symArr.toArray 9)).cell? ⟨w.heap.size, k, none⟩ = some (.string (bS (symsR[k]'h))) from by
    rw [World.cell?_alloc_new]
    simp [symArr, h]))
  obtain ⟨W, hW⟩ : ∃ W, w.alloc (.cells symArr.toArray 9) = W := ⟨_, rfl⟩
  rw [hW] at HS hb hc
  clear hW
  have hY := Lib.hid (fun k (h : k < symsR.length) (e : symsR[k]'h = s) => (show s ∈ symsR from e ▸ List.getElem_mem h))
  have hN := Lib.hid (fun (h : ∀ k (h : k < symsR.length), ¬ symsR[k]'h = s) => (show ¬ s ∈ symsR from fun hm => by
    obtain ⟨k, hk, e⟩ := List.mem_iff_getElem.1 hm
    exact h k hk e))
  go_enter Tryd.func38, Tryd.ntmps38
  go_wp2_with fail
  refine HS.out.mono ?_
  rintro e w' ⟨rfl, rfl⟩
  go_wp2
  go_loop [4] (fun s4 => ∃ k : Nat, s4 = .int .i64 k ∧ k ≤ 18 ∧ (∀ j (h : j < symsR.length), j < k → ¬ symsR[j]'h = s)) (fun s4 => 18 - (intOf s4).toNat)
  case atStart => exact ⟨0, rfl, Nat.zero_le _, fun j h hj => absurd hj (Nat.not_lt_zero _)⟩
  case round =>
    obtain ⟨k, rfl, hk, hd⟩ := hrel
    replace hd := Lib.hid hd
    by_cases hlt : k < 18
    · have hks : k < symsR.length := hlt
      have y := hc.out k hks
      have hY1 := Lib.hid (hY.out k hks)
      have hS : Hid (¬ symsR[k]'hks = s → ∀ j (h : j < symsR.length), j < k + 1 → ¬ symsR[j]'h = s) := Lib.hid fun h0 j h h1 => by
        rcases Nat.lt_or_ge j k with h' | h'
        · exact hd.out j h h'
        · obtain rfl : j = k := by omega
          exact h0
      have i1 : decide ((k : Int) < 18) = true := decide_eq_true (by omega)
      have i2 : (k : Int) < 18 := by omega
      obtain ⟨p, hp⟩ : ∃ p, symsR[k]'hks = p := ⟨_, rfl⟩
      rw [hp] at y hY1 hS
      clear hd hp
      by_cases hb2 : p = s
      · have hF := Lib.hid (decide_eq_true (hY1.out hb2))
        have t1 : (p == s) = true := beq_iff_eq.2 hb2
        clear hb2 hS hY1
        go_wp2
        go_ret
        exact ⟨ret_b hF.out.symm, hb.out⟩
      · have hS' := Lib.hid (hS.out hb2)
        have t1 : (p == s) = false := beq_eq_false_iff_ne.2 hb2
        clear hb2 hS hY1
        go_wp2
        go_round
        case rel => exact ⟨k + 1, by go_num, by omega, hS'.out⟩
        case measure => simp [intOf]; omega
    · obtain rfl : k = 18 := by omega
      have hF := Lib.hid (decide_eq_false (hN.out (fun j h => hd.out j h h)))
      clear hd hlt
      go_wp2
      go_ret
      exact ⟨ret_b hF.out.symm, hb.out⟩
end Go.Proofs.YtmhnocgoknmljaaDoor
