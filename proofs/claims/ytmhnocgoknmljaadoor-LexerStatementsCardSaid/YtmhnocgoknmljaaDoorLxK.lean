/-
  CONTRACTS: the library's FormatInt and ParseInt at this dump, and the program's number.
  Conditions: those that each theorem names.
-/
import Derived.Test.YtmhnocgoknmljaaDoorLxJ
import Derived.Test.YtmhnocgoknmljaaDoorShelfB
import Derived.Test.YtmhnocgoknmljaaDoorShelfP
import Derived.Lib.ParseIntBTie
namespace Go.Proofs.YtmhnocgoknmljaaDoor
open Go.RowKit Go.Sv Go.Lx
theorem lt_of_cell {w : World} {p : Addr} {v : Value} (h : w.cell? p = some v) : p.block < w.heap.size := by
  rcases Nat.lt_or_ge p.block w.heap.size with c | c
  · exact c
  · simp [World.cell?, Array.getElem?_eq_none c] at h
/-- a variable of the library that holds an error -/
def ErrC (w : World) (g : Nat) : Prop := ∃ ev, w.cell? ⟨g, 0, none⟩ = some ev ∧ (ev = .nilIface ∨ ∃ te pe, ev = .iface te pe)
theorem ErrC.to {w w' : World} {g : Nat} (h : ErrC w g) (hb : Below w.heap.size w w') : ErrC w' g := by
  obtain ⟨ev, h1, h2⟩ := h
  exact ⟨ev, (hb.cell (p := ⟨g, 0, none⟩) (lt_of_cell h1)).trans h1, h2⟩
/-- the program's list of symbols -/
def SymC (w : World) : Prop := ∃ b o c, w.cell? ⟨0, 0, none⟩ = some (.slice (some ⟨b, o, none⟩) 18 c) ∧ b < w.heap.size ∧ ∀ j (h : j < syms.length), w.cell? ⟨b, o + j, none⟩ = some (.string (bS (syms[j]'h)))
theorem SymC.to {w w' : World} (h : SymC w) (hb : Below w.heap.size w w') : SymC w' := by
  obtain ⟨b, o, c, h1, h2, h3⟩ := h
  exact ⟨b, o, c, (hb.cell (p := ⟨0, 0, none⟩) (lt_of_cell h1)).trans h1, Nat.lt_of_lt_of_le h2 hb.size, fun j hj => (hb.cell (p := ⟨b, o + j, none⟩) h2).trans (h3 j hj)⟩
/-- the variables that the lexer reads -/
structure Tb (w : World) : Prop where
  pow : Lib.TabIs Tryd.prog w "internal/strconv.uint64pow10" .u64 Lib.pow10Tab
  syn : ErrC w 5
  ran : ErrC w 6
  sym : SymC w
theorem Tb.to {w w' : World} (h : Tb w) (hb : Below w.heap.size w w') : Tb w' := ⟨tab_below h.pow hb, h.syn.to hb, h.ran.to hb, h.sym.to hb⟩
theorem fmt_any (n : Int) (h0 : -9223372036854775808 ≤ n) (h1 : n ≤ 9223372036854775807) (w : World) (ht : Tb w) :
    Calls Tryd.prog 39 #[.int .i64 n, .int .i64 10] w fun e w' => e = .returned (.string (bS (Lib.itoa n))) ∧ Below w.heap.size w w' :=
  (Tryd.strconv_FormatInt_10 n h0 h1 w ht.pow).mono fun e w' ⟨he, k, os, hw⟩ => ⟨he, by
    rw [hw]
    exact (Drawn.of k).below.trans ((below_grow (w.drewN k) os).mono (Nat.le_refl _))⟩
/-- what ParseInt hands back -/
def PiR (t : Bs) (w : World) (e : Ending) (w' : World) : Prop :=
  ∃ (v : Int) (er : Value), e = .returned (.tuple #[.int .i64 v, er]) ∧ ((er = .nilIface ∧ Lib.parseIntB 64 t = .ok v) ∨ ((∃ N, er = .iface 106 (.pointer (some ⟨N, 0, none⟩))) ∧ ∀ u, Lib.parseIntB 64 t ≠ .ok u)) ∧ Below w.heap.size w w'
theorem below_bytes (w : World) (t : ByteArray) : Below w.heap.size w (Lib.bytesWorld w 5 t) :=
  ⟨rfl, rfl, rfl, by rw [Lib.bytesWorld_size]; omega, fun k hk => Lib.bytesWorld_at_old w _ _ k hk⟩
theorem parse_any (t : Bs) (w : World) (ht : Tb w) (hn : t.length ≤ 1000000) :
    Calls Tryd.prog 71 #[.string (bS t), .int .i64 10, .int .i64 64] w (PiR t w) := by
  have hsz := bS_size t
  cases hp : Lib.parseIntB 64 t with
  | ok v =>
    refine (Tryd.strconv_ParseInt_10_at64_ok (bS t) (by omega) v hp w).mono ?_
    rintro e w' ⟨he, hw⟩
    refine ⟨v, _, he, Or.inl ⟨rfl, hp⟩, ?_⟩
    rcases hw with rfl | ⟨u, rfl⟩
    · exact Below.refl _ _
    · exact below_bytes _ _
  | «syntax» =>
    obtain ⟨ev, h1, h2⟩ := ht.syn
    refine (Tryd.strconv_ParseInt_10_at64_syntax (bS t) (by omega) hp ev w h1 h2).mono ?_
    rintro e w' ⟨N, he, -, -, hb⟩
    exact ⟨_, _, he, Or.inr ⟨⟨N, rfl⟩, fun u h => by rw [hp] at h; cases h⟩, hb⟩
  | range =>
    obtain ⟨ev, h1, h2⟩ := ht.ran
    refine (Tryd.strconv_ParseInt_10_at64_range (bS t) (by omega) hp ev w h1 h2).mono ?_
    rintro e w' ⟨N, he, -, -, hb⟩
    exact ⟨_, _, he, Or.inr ⟨⟨N, rfl⟩, fun u h => by rw [hp] at h; cases h⟩, hb⟩
/-- digits behind the first byte -/
def dN (l : Bs) : Nat := 1 + ((l.drop 1).takeWhile isD).length
theorem dN_le {l : Bs} (h : 0 < l.length) : dN l ≤ l.length := by
  unfold dN
  have := (List.takeWhile_sublist isD (l := l.drop 1)).length_le
  rw [List.length_drop] at this
  omega
theorem tw_drop {p : UInt8 → Bool} {l : Bs} {n : Nat} (h0 : 1 ≤ n) (hn : n ≤ l.length) (h1 : ∀ i (h : i < l.length), 1 ≤ i → i < n → p l[i] = true) (h2 : ∀ h : n < l.length, p l[n] = false) : (l.drop 1).takeWhile p = (l.drop 1).take (n - 1) := by
  refine tw_end (by rw [List.length_drop]; omega) (fun i hi hm => ?_) (fun hm => ?_)
  · rw [List.length_drop] at hi
    rw [List.getElem_drop]
    exact h1 (1 + i) (by omega) (by omega) (by omega)
  · rw [List.length_drop] at hm
    rw [List.getElem_drop]
    have := h2 (by omega)
    simpa only [show 1 + (n - 1) = n by omega] using this
theorem dN_eq {l : Bs} {n : Nat} (h0 : 1 ≤ n) (hn : n ≤ l.length) (h1 : ∀ i (h : i < l.length), 1 ≤ i → i < n → isD l[i] = true) (h2 : ∀ h : n < l.length, isD l[n] = false) : dN l = n := by
  unfold dN
  rw [tw_drop h0 hn h1 h2, List.length_take, List.length_drop]
  omega
/-- what number hands back -/
def NumR (l : Bs) (w : World) (e : Ending) (w' : World) : Prop :=
  ∃ (v : Int) (o : Bool), e = .returned (.tuple #[.int .i64 v, .int .i64 (dN l), .bool o]) ∧ (o = false → numV (l.take (dN l)) = none) ∧ (o = true → numV (l.take (dN l)) = some v) ∧ Below w.heap.size w w'
set_option maxHeartbeats 1000000 in
set_option maxRecDepth 100000 in
theorem number_any (l : Bs) (w : World) (ht : Tb w) (hl0 : 0 < l.length) (hn : l.length ≤ 1000000) :
    Calls Tryd.prog 59 #[.string (bS l)] w (NumR l w) := by
  have hsz := Lib.hid (bS_size l)
  have HD := Lib.hid (fun b w => isDigit_any b w)
  have HP := Lib.hid (fun t h => parse_any t w ht h)
  have HF := Lib.hid (fun n w h0 h1 h => fmt_any n h0 h1 w h)
  go_enter Tryd.func59, Tryd.ntmps59
  go_wp2
  go_loop [5] (fun s5 => ∃ n : Nat, s5 = .int .i64 n ∧ 1 ≤ n ∧ n ≤ l.length ∧ (∀ i (h : i < l.length), 1 ≤ i → i < n → isD l[i] = true)) (fun s5 => l.length - (intOf s5).toNat)
  case atStart => exact ⟨1, rfl, Nat.le_refl _, hl0, fun i h h1 h2 => absurd h2 (by omega)⟩
  case round =>
    obtain ⟨n, rfl, n1, n2, hd⟩ := hrel
    replace hd := Lib.hid hd
    have key : (∃ h : n < l.length, isD (l[n]'h) = true) ∨ (dN l = n ∧ ((∃ h : n < l.length, isD (l[n]'h) = false) ∨ ¬ n < l.length)) := by
      by_cases h : n < l.length
      · cases hD : isD (l[n]'h) with
        | true => exact Or.inl ⟨h, hD⟩
        | false => exact Or.inr ⟨dN_eq n1 n2 hd.out fun _ => hD, Or.inl ⟨h, hD⟩⟩
      · exact Or.inr ⟨dN_eq n1 n2 hd.out fun h' => absurd h' h, Or.inr h⟩
    rcases key with ⟨hlt, hD⟩ | ⟨hdn, hend⟩
    · have hS : Hid (∀ i (h : i < l.length), 1 ≤ i → i < n + 1 → isD l[i] = true) := Lib.hid fun i h h1 h2 => by
        rcases Nat.lt_or_ge i n with h' | h'
        · exact hd.out i h h1 h'
        · obtain rfl : i = n := by omega
          exact hD
      have g1 : ∀ h : n < (bS l).size, isD ((bS l)[n]'h) = true := fun h => hD
      have g1 := g1 (by rw [hsz.out]; exact hlt)
      clear hd hD
      go_wp2_with fail
      refine (HD.out _ _).mono ?_
      rintro e w' ⟨rfl, rfl⟩
      go_wp2
      go_round
      case rel => exact ⟨n + 1, by go_num, by omega, hlt, hS.out⟩
      case measure => simp [intOf]; omega
    · have hx := bS_to l n
      obtain ⟨t, ht'⟩ : ∃ t, l.take n = t := ⟨_, rfl⟩
      rw [ht'] at hx
      have htl : t.length ≤ 1000000 := by rw [← ht', List.length_take]; omega
      have HP1 := Lib.hid (HP.out t htl)
      replace hdn := Lib.hid hdn
      replace ht' := Lib.hid ht'
      clear hd
      rcases hend with ⟨hlt, hD⟩ | hlt
      · have g1 : ∀ h : n < (bS l).size, isD ((bS l)[n]'h) = false := fun h => hD
        have g1 := g1 (by rw [hsz.out]; exact hlt)
        clear hD
        go_wp2_with fail
        refine (HD.out _ _).mono ?_
        rintro e w' ⟨rfl, rfl⟩
        go_wp2_with fail
        refine HP1.out.mono ?_
        rintro e w1 ⟨v, er, rfl, hv, hb1⟩
        have hT1 := Lib.hid (ht.to hb1)
        replace hb1 := Lib.hid hb1
        have hX : Hid (∀ x : GrowX w1, Tb (grow w1 x)) := Lib.hid fun x => hT1.out.to (grow_is w1 x)
        clear HP1 HP
        rcases hv with ⟨rfl, hok⟩ | ⟨⟨N, rfl⟩, hno⟩
        · have hbd := Lib.parseIntB_bounds hok
          have hnum := num_of_ok hok (by omega) (by omega)
          have HF1 := Lib.hid (fun w h => HF.out v w (by omega) (by omega) h)
          by_cases hit : Lib.itoa v = t
          · have t1 : (Lib.itoa v == t) = true := beq_iff_eq.2 hit
            rw [if_pos hit] at hnum
            replace hnum := Lib.hid hnum
            clear hok hbd hit HF
            go_wp2_with fail
            refine wp_region_calm (by kernel_rfl) (by kernel_rfl) ?_
            repeat (go_big_quiet_step ((go_at_call 39; with_reducible exact calm_b (HF1.out _ (hX.out _)))))
            refine wpQuiet_nil ?_
            intro w2 hw2
            have hb2 := Lib.hid (hb1.out.trans ((grow_below hw2).mono hb1.out.size))
            clear hw2 HF1
            go_wp2
            refine bodyPost_ret (v := .tuple #[.int .i64 v, .int .i64 n, .bool true]) (by simp [results, Tryd.results59, go_sem]) rfl ?_
            exact ⟨v, true, by rw [hdn.out], fun h => (by cases h), fun _ => by rw [hdn.out, ht'.out]; exact hnum.out, hb2.out⟩
          · have t1 : (Lib.itoa v == t) = false := beq_eq_false_iff_ne.2 hit
            rw [if_neg hit] at hnum
            replace hnum := Lib.hid hnum
            clear hok hbd hit HF
            go_wp2_with fail
            refine wp_region_calm (by kernel_rfl) (by kernel_rfl) ?_
            repeat (go_big_quiet_step ((go_at_call 39; with_reducible exact calm_b (HF1.out _ (hX.out _)))))
            refine wpQuiet_nil ?_
            intro w2 hw2
            have hb2 := Lib.hid (hb1.out.trans ((grow_below hw2).mono hb1.out.size))
            clear hw2 HF1
            go_wp2
            refine bodyPost_ret (v := .tuple #[.int .i64 v, .int .i64 n, .bool false]) (by simp [results, Tryd.results59, go_sem]) rfl ?_
            exact ⟨v, false, by rw [hdn.out], fun _ => by rw [hdn.out, ht'.out]; exact hnum.out, fun h => (by cases h), hb2.out⟩
        · have hnum := Lib.hid (num_of_err hno)
          clear hno HF
          go_wp2_with fail
          refine wp_region_calm (by kernel_rfl) (by kernel_rfl) ?_
          repeat (go_big_quiet_step (fail))
          refine wpQuiet_nil ?_
          intro w2 hw2
          have hb2 := Lib.hid (hb1.out.trans ((grow_below hw2).mono hb1.out.size))
          clear hw2
          go_wp2
          refine bodyPost_ret (v := .tuple #[.int .i64 v, .int .i64 n, .bool false]) (by simp [results, Tryd.results59, go_sem]) rfl ?_
          exact ⟨v, false, by rw [hdn.out], fun _ => by rw [hdn.out, ht'.out]; exact hnum.out, fun h => (by cases h), hb2.out⟩
      · have d1 : decide ((n : Int) < (l.length : Int)) = false := decide_eq_false (by omega)
        have d2 : decide (n < l.length) = false := decide_eq_false hlt
        clear hlt
        go_wp2_with fail
        refine HP1.out.mono ?_
        rintro e w1 ⟨v, er, rfl, hv, hb1⟩
        have hT1 := Lib.hid (ht.to hb1)
        replace hb1 := Lib.hid hb1
        have hX : Hid (∀ x : GrowX w1, Tb (grow w1 x)) := Lib.hid fun x => hT1.out.to (grow_is w1 x)
        clear HP1 HP
        rcases hv with ⟨rfl, hok⟩ | ⟨⟨N, rfl⟩, hno⟩
        · have hbd := Lib.parseIntB_bounds hok
          have hnum := num_of_ok hok (by omega) (by omega)
          have HF1 := Lib.hid (fun w h => HF.out v w (by omega) (by omega) h)
          by_cases hit : Lib.itoa v = t
          · have t1 : (Lib.itoa v == t) = true := beq_iff_eq.2 hit
            rw [if_pos hit] at hnum
            replace hnum := Lib.hid hnum
            clear hok hbd hit HF
            go_wp2_with fail
            refine wp_region_calm (by kernel_rfl) (by kernel_rfl) ?_
            repeat (go_big_quiet_step ((go_at_call 39; with_reducible exact calm_b (HF1.out _ (hX.out _)))))
            refine wpQuiet_nil ?_
            intro w2 hw2
            have hb2 := Lib.hid (hb1.out.trans ((grow_below hw2).mono hb1.out.size))
            clear hw2 HF1
            go_wp2
            refine bodyPost_ret (v := .tuple #[.int .i64 v, .int .i64 n, .bool true]) (by simp [results, Tryd.results59, go_sem]) rfl ?_
            exact ⟨v, true, by rw [hdn.out], fun h => (by cases h), fun _ => by rw [hdn.out, ht'.out]; exact hnum.out, hb2.out⟩
          · have t1 : (Lib.itoa v == t) = false := beq_eq_false_iff_ne.2 hit
            rw [if_neg hit] at hnum
            replace hnum := Lib.hid hnum
            clear hok hbd hit HF
            go_wp2_with fail
            refine wp_region_calm (by kernel_rfl) (by kernel_rfl) ?_
            repeat (go_big_quiet_step ((go_at_call 39; with_reducible exact calm_b (HF1.out _ (hX.out _)))))
            refine wpQuiet_nil ?_
            intro w2 hw2
            have hb2 := Lib.hid (hb1.out.trans ((grow_below hw2).mono hb1.out.size))
            clear hw2 HF1
            go_wp2
            refine bodyPost_ret (v := .tuple #[.int .i64 v, .int .i64 n, .bool false]) (by simp [results, Tryd.results59, go_sem]) rfl ?_
            exact ⟨v, false, by rw [hdn.out], fun _ => by rw [hdn.out, ht'.out]; exact hnum.out, fun h => (by cases h), hb2.out⟩
        · have hnum := Lib.hid (num_of_err hno)
          clear hno HF
          go_wp2_with fail
          refine wp_region_calm (by kernel_rfl) (by kernel_rfl) ?_
          repeat (go_big_quiet_step (fail))
          refine wpQuiet_nil ?_
          intro w2 hw2
          have hb2 := Lib.hid (hb1.out.trans ((grow_below hw2).mono hb1.out.size))
          clear hw2
          go_wp2
          refine bodyPost_ret (v := .tuple #[.int .i64 v, .int .i64 n, .bool false]) (by simp [results, Tryd.results59, go_sem]) rfl ?_
          exact ⟨v, false, by rw [hdn.out], fun _ => by rw [hdn.out, ht'.out]; exact hnum.out, fun h => (by cases h), hb2.out⟩
end Go.Proofs.YtmhnocgoknmljaaDoor
