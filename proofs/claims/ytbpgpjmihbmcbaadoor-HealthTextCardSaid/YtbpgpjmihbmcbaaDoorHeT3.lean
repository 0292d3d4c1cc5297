/-
  CONTRACTS of health.number and health.Parse at the text of a valid test.
  Conditions: those that each theorem names.
-/
import Derived.Test.YtbpgpjmihbmcbaaDoorHeT2
import Derived.Test.YtbpgpjmihbmcbaaDoorHeaD
namespace Go.Proofs.YtbpgpjmihbmcbaaDoor
open Go.RowKit Go.Sv Go.Lx
set_option maxHeartbeats 4000000 in
set_option maxRecDepth 100000 in
theorem number_any (v : Int) (h1 : -1 ≤ v) (h2 : v ≤ 99) (w : World) (ht : Tab w) : Calls Tryd.prog 42 #[.string (bS (Lib.itoa v))] w fun e w' => e = .returned (.tuple #[.int .i64 v, .bool true]) ∧ Below w.heap.size w w' := by
  have S := Lib.hid (Fm.init w)
  have hsz := bS_size (Lib.itoa v)
  have hl := itoa_short h1 h2
  have HA := Lib.hid (atoi_any v h1 h2 w)
  have HI := Lib.hid (fun w' (hb : Below w.heap.size w w') => itoa_any v (by omega) (by omega) w' (ht.to hb))
  have j9 : ¬ (9 : Int) < ((Lib.itoa v).length : Int) := by omega
  obtain ⟨s, hs⟩ : ∃ s, Lib.itoa v = s := ⟨_, rfl⟩
  rw [hs] at hsz HA HI j9 ⊢
  clear hl hs
  go_enter Tryd.func42, Tryd.ntmps42
  go_wp2_with fail
  with_reducible refine HA.out.mono ?_
  rintro e w1 ⟨rfl, hb1⟩
  have S1 := Lib.hid (S.out.call hb1)
  clear hb1 HA
  go_wp2_with fail
  with_reducible refine (HI.out _ S1.out.bel).mono ?_
  rintro e w2 ⟨rfl, hb2⟩
  have S2 := Lib.hid (S1.out.call hb2)
  clear hb2 HI
  go_wp2
  refine bodyPost_ret (v := .tuple #[.int .i64 v, .bool true]) (by simp [results, Tryd.results42, go_sem]) rfl ?_
  exact ⟨rfl, S2.out.bel⟩
theorem iRow_take {l : List Int} {k : Nat} (h : k < l.length) : iRow (l.take (k + 1)) = iRow (l.take k) ++ [.int .i64 (gi l k)] := by
  rw [← iRow_snoc]
  congr 1
  rw [List.take_add_one, List.getElem?_eq_getElem h]
  simp [gi, h]
def PaR (w : World) (t : Tst) (v : Value) (w' : World) : Prop := ∃ q : TstP, v = .tuple #[tstV t q, .int .i64 0] ∧ RTst w' w'.heap.size t q ∧ Below w.heap.size w w'
theorem drawnT {w0 : World} {B0 : Nat} {w w' : World} {b base : Nat} {tt e : TypeId} {c1 c2 v1 : Value} {n1 : Nat} {xs1 : List Value} {v2 : Value} {n2 : Nat} {xs2 : List Value} (h : Two w0 B0 w b base tt e c1 c2 v1 n1 xs1 v2 n2 xs2) (hd : Drawn w w') : Two w0 B0 w' b base tt e c1 c2 v1 n1 xs1 v2 n2 xs2 := h.to hd.below
set_option maxHeartbeats 4000000 in
set_option maxRecDepth 100000 in
theorem parse_any (t : Tst) (w : World) (g : validE t = 0) (ht : Tab w) (hm : MaxL w) : Calls Tryd.prog 31 #[.string (bS (txt t t.acc.length))] w (Ret (PaR w t)) := by
  have vl := validE_vld g
  have n0 := vl.n0
  have n1 := vl.n1
  have nl := vl.len
  have hbd : TBd t := ⟨by omega, by omega⟩
  obtain ⟨Wb, hWb⟩ : ∃ Wb, (w.alloc (.cells #[.slice none 0 0, .slice none 0 0] 26)).alloc (.cells #[.slice none 0 0, .slice none 0 0] 26) = Wb := ⟨_, rfl⟩
  have hbb : Below w.heap.size w Wb := by rw [← hWb]; exact ((Below.refl _ _).alloc (Nat.le_refl _) _).alloc (by simp) _
  have hzb : Wb.heap.size = w.heap.size + 2 := by rw [← hWb]; simp
  have hw1 : Whole Wb (w.heap.size + 1) 26 #[.slice none 0 0, .slice none 0 0] := by
    have := Whole.new (w.alloc (.cells #[.slice none 0 0, .slice none 0 0] 26)) 26 #[.slice none 0 0, .slice none 0 0]
    rw [hWb] at this
    simpa using this
  have hw0 : Whole Wb w.heap.size 26 #[.slice none 0 0, .slice none 0 0] := by
    have := (Whole.new w 26 #[.slice none 0 0, .slice none 0 0]).alloc (.cells #[.slice none 0 0, .slice none 0 0] 26)
    rwa [hWb] at this
  have HS := split_any (txt t t.acc.length) Wb (by have := txt_len vl (k := t.acc.length) (Nat.le_refl _); omega) (hm.to hbb)
  rw [spl_txt n0, wrds_len] at HS
  obtain ⟨row, hrow⟩ : ∃ row : List Value, (wrds t t.acc.length).map (fun x => Value.string (bS x)) = row := ⟨_, rfl⟩
  have hget : Hid (∀ k, k < t.acc.length → row[k]? = some (.string (bS (wordT (gi t.acc k) (gi t.rej k))))) := Lib.hid fun k hk => by
    rw [← hrow, List.getElem?_map, wrds_get hk]; rfl
  rw [hrow] at HS
  obtain ⟨W1, hW1⟩ : ∃ W1, Wb.alloc (.cells row.toArray 9) = W1 := ⟨_, rfl⟩
  have hrw : Whole W1 (w.heap.size + 2) 9 row.toArray := by
    have := Whole.new Wb 9 row.toArray
    rwa [hW1, hzb] at this
  have hz1 : W1.heap.size = w.heap.size + 3 := by rw [← hW1]; simp [hzb]
  have hb1 : Below w.heap.size w W1 := by rw [← hW1]; exact hbb.alloc (by omega) _
  have T0 : Two W1 (w.heap.size + 1) W1 (w.heap.size + 1) (w.heap.size + 3) 26 3 (.slice none 0 0) (.slice none 0 0) (.slice none 0 0) 0 [] (.slice none 0 0) 0 [] :=
    Two.start (by rw [← hW1]; exact hw1.alloc _) (by omega) (by omega) (Nat.le_refl _) (Below.refl _ _) (fun k hk hb => rfl)
  have hB0 : Whole W1 w.heap.size 26 #[.slice none 0 0, .slice none 0 0] := by rw [← hW1]; exact hw0.alloc _
  rw [hW1, hzb] at HS
  replace HS := Lib.hid HS
  replace T0 := Lib.hid T0
  replace hB0 := Lib.hid hB0
  replace hrw := Lib.hid hrw
  replace hb1 := Lib.hid hb1
  have hta := Lib.hid (show t.acc.take t.acc.length = t.acc from List.take_length)
  have htr := Lib.hid (show t.rej.take t.acc.length = t.rej by rw [← nl]; exact List.take_length)
  have hal := Lib.hid (fun k (hk : k < t.acc.length) => iRow_take hk)
  have hrl := Lib.hid (fun k (hk : k < t.acc.length) => iRow_take (l := t.rej) (k := k) (by omega))
  have hN := Lib.hid (fun k (hk : k < t.acc.length) => (show (-1 ≤ gi t.acc k ∧ gi t.acc k ≤ 99) ∧ (-1 ≤ gi t.rej k ∧ gi t.rej k ≤ 99) from by
    have a := vl.lo k hk
    have b := vl.ar k hk
    have c := vl.hi k hk
    omega))
  have hV := Lib.hid (fun q w' (h : RTst w' w'.heap.size t q) => valid_any t q w' h hbd)
  rw [g] at hV
  have hts := Lib.hid (fun w' (hb : Below w.heap.size w w') => ht.to hb)
  have hms := Lib.hid (fun w' (hb : Below w.heap.size w w') => hm.to hb)
  obtain ⟨n, hn⟩ : ∃ n, t.acc.length = n := ⟨_, rfl⟩
  rw [hn] at n0 n1 nl hta htr HS hal hrl hN hget
  replace nl := Lib.hid nl
  clear ht hm hbb hzb hw1 hw0 hrow hW1 hz1 vl g hbd
  go_enter Tryd.func31, Tryd.ntmps31
  go_wp2_with fail
  try rw [hn]
  clear hWb
  with_reducible refine HS.out.mono ?_
  rintro e w1 ⟨rfl, rfl⟩
  clear HS
  go_wp2
  go_loopw [18] (fun s18 wr => ∃ (k : Nat) (v1 v2 : Value), k ≤ n ∧ s18 = .int .i64 k ∧ Two w1 (w.heap.size + 1) wr (w.heap.size + 1) (w.heap.size + 3) 26 3 v1 v2 v1 k (iRow (t.acc.take k)) v2 k (iRow (t.rej.take k))) (fun s18 _ => n - (intOf s18).toNat)
  case atStart => exact ⟨0, _, _, Nat.zero_le _, rfl, T0.out⟩
  case round =>
    obtain ⟨k, v1, v2, hk, rfl, T⟩ := hrel
    replace T := Lib.hid T
    by_cases hlt : k < n
    · have jk : (k : Int) < (n : Int) := by omega
      have c0 : wr.cell? ⟨w.heap.size + 2, k, none⟩ = some (.string (bS (wordT (gi t.acc k) (gi t.rej k)))) := by
        have h : Whole wr (w.heap.size + 2) 9 row.toArray := (T.out.kb (w.heap.size + 2) (by omega) (by omega)).trans hrw.out
        rw [h.cell k, List.getElem?_toArray]
        exact hget.out k hlt
      obtain ⟨⟨a1, a2⟩, r1, r2⟩ := hN.out k hlt
      have ha := hal.out k hlt
      have hr := hrl.out k hlt
      obtain ⟨a, haa⟩ : ∃ a, gi t.acc k = a := ⟨_, rfl⟩
      obtain ⟨r, hrr⟩ : ∃ r, gi t.rej k = r := ⟨_, rfl⟩
      rw [haa] at a1 a2 ha c0
      rw [hrr] at r1 r2 hr c0
      have hbw := Lib.hid (hb1.out.trans (T.out.bel.mono (Nat.le_succ _)))
      have HC := Lib.hid (cutw_any a r wr (by
        have l1 := itoa_short a1 a2
        have l2 := itoa_short r1 r2
        unfold wordT
        simp only [List.length_append, List.length_cons]
        omega) (hms.out wr hbw.out))
      have HX := Lib.hid (fun w' (hb : Below w.heap.size w w') => number_any a a1 a2 w' (hts.out w' hb))
      have HY := Lib.hid (fun w' (hb : Below w.heap.size w w') => number_any r r1 r2 w' (hts.out w' hb))
      obtain ⟨wd, hwd⟩ : ∃ x, wordT a r = x := ⟨_, rfl⟩
      obtain ⟨x1, hx1⟩ : ∃ x, Lib.itoa a = x := ⟨_, rfl⟩
      obtain ⟨x2, hx2⟩ : ∃ x, Lib.itoa r = x := ⟨_, rfl⟩
      rw [hwd, hx1, hx2] at HC
      rw [hx1] at HX
      rw [hx2] at HY
      rw [hwd] at c0
      have zs := T.out.hs
      replace ha := Lib.hid ha
      replace hr := Lib.hid hr
      clear haa hrr hwd hx1 hx2
      go_wp2_with fail
      with_reducible refine HC.out.mono ?_
      rintro e w2 ⟨rfl, hd2⟩
      have T2 := Lib.hid (drawnT T.out hd2)
      have hb2 := Lib.hid (hbw.out.drawn hd2)
      clear HC c0 hd2 hbw T
      go_wp2_with fail
      with_reducible refine (HX.out w2 hb2.out).mono ?_
      rintro e w3 ⟨rfl, hb3⟩
      have T3 := Lib.hid (T2.out.to hb3)
      have hb3' := Lib.hid (below_of hb2.out hb2.out.size hb3)
      clear HX hb3 hb2 T2
      go_wp2_with fail
      with_reducible refine (HY.out w3 hb3'.out).mono ?_
      rintro e w4 ⟨rfl, hb4⟩
      have T4 := Lib.hid (T3.out.to hb4)
      clear HY hb4 hb3' T3
      have y0 : w4.cell? ⟨w.heap.size + 1, 0, none⟩ = some v1 := (T4.out.box.cell 0).trans rfl
      have y1 : w4.cell? ⟨w.heap.size + 1, 1, none⟩ = some v2 := (T4.out.box.cell 1).trans rfl
      go_wp2_with fail
      refine wp_region_any (by kernel_rfl) ?_
      change wpAny _ _ _ _ _ _ _ (World.drew _)
      refine wpAny_takeD (i := 0) (d := 49) (v := ?_) rfl rfl (by kernel_rfl) (by kernel_rfl) (by kernel_rfl) (fun _ _ _ h => h) (Or.inl ⟨by rfl, ?_⟩) ?_
      rotate_left
      · (intro w; go_simp; try with_reducible rfl)
      simp only [Act.put, List.setIfInBounds_toArray, List.set_cons_succ, List.set_cons_zero]
      refine wpAny_takeD (i := 2) (d := 51) (v := ?_) rfl rfl (by kernel_rfl) (by kernel_rfl) (by kernel_rfl) (fun _ _ _ h => h) (Or.inl ⟨by rfl, ?_⟩) ?_
      rotate_left
      · (intro w; go_simp; try with_reducible rfl)
      simp only [Act.put, List.setIfInBounds_toArray, List.set_cons_succ, List.set_cons_zero]
      refine wpAny_takeD (i := 5) (d := 54) (v := ?_) rfl rfl (by kernel_rfl) (by kernel_rfl) (by kernel_rfl) (fun _ _ _ h => h) (Or.inl ⟨by rfl, ?_⟩) ?_
      rotate_left
      · (intro w; go_simp; try with_reducible rfl)
      simp only [Act.put, List.setIfInBounds_toArray, List.set_cons_succ, List.set_cons_zero]
      refine wpAny_takeD (i := 7) (d := 56) (v := ?_) rfl rfl (by kernel_rfl) (by kernel_rfl) (by kernel_rfl) (fun _ _ _ h => h) (Or.inl ⟨by rfl, ?_⟩) ?_
      rotate_left
      · (intro w; go_simp; try with_reducible rfl)
      simp only [Act.put, List.setIfInBounds_toArray, List.set_cons_succ, List.set_cons_zero]
      change wpAny _ _ _ _ _ #[true, false, true, false, false, true, false, true, false, false, false, false, false, false] _ _
      refine two8_core (l0 := #[true, false, true, false, false, true, false, true, false, false, false, false, false, false]) (X := ⟨two_ 1 6, two_ 3 8, two_ 50 55, two_ 52 57, two_ 4 9, two_ 53 58, 10, 59⟩) (T := [11, 12, 13]) (lF := #[true, true, true, true, true, true, true, true, true, true, true, false, false, false]) elInt (by omega) (by omega) rfl rfl
        (two8_of (k := 11) (b := w.heap.size + 1) (k1 := .i64) (k2 := .i64) (n1 := a) (n2 := r) elInt (by kernel_rfl) (by kernel_rfl) 49 54 4 (.tmp 51) (.tmp 56) _ (by decide) ?q1hx (fun c => by cases c <;> rfl) (fun c => by cases c <;> rfl) (fun c => by cases c <;> rfl) (by rfl) Tryd.underlying26 rfl rfl rfl (by kernel_rfl) (by kernel_rfl) (by kernel_rfl) (by kernel_rfl) (by kernel_rfl) (by kernel_rfl))
        ?q1rest _ _ _ _ (by decide) (two8_start (by kernel_rfl) T4.out.drew (by kernel_rfl))
      case q1hx =>
        intro x hx j hj
        simp only [List.mem_cons, List.not_mem_nil, or_false] at hx
        rcases hx with rfl | rfl <;> cases hj <;> decide
      case q1rest =>
        intro f r1 r2 w5 T5 g1 g2 g3
        obtain ⟨x0, e0⟩ : ∃ x, f 50 = x := ⟨_, rfl⟩
        obtain ⟨x1, e1⟩ : ∃ x, f 52 = x := ⟨_, rfl⟩
        obtain ⟨x3, e3⟩ : ∃ x, f 55 = x := ⟨_, rfl⟩
        obtain ⟨x4, e4⟩ : ∃ x, f 57 = x := ⟨_, rfl⟩
        replace g1 : f 53 = r1 := g1
        replace g2 : f 58 = r2 := g2
        replace g3 : f 59 = _ := g3
        simp only [Pair2.D, two_, List.foldl_cons, List.foldl_nil, List.drop_succ_cons, List.drop_zero, g1, g2, g3, e0, e1, e3, e4]
        clear e0 e1 e3 e4 g1 g2 g3 f
        have z0 : w5.cell? ⟨w.heap.size + 1, 0, none⟩ = some v1 := (T5.box.cell 0).trans rfl
        have z1 : w5.cell? ⟨w.heap.size + 1, 1, none⟩ = some v2 := (T5.box.cell 1).trans rfl
        have z2 := T5.box.frozen 0
        have z3 := T5.box.frozen 1
        obtain ⟨A1, q1, rfl, _⟩ := own_form T5.o1
        obtain ⟨A2, q2, rfl, _⟩ := own_form T5.o2
        rw [← ha.out, ← hr.out] at T5
        have T6 := Lib.hid T5.put
        clear T5
        go_wp2
        go_roundw
        case rel => exact ⟨k + 1, _, _, by omega, by go_num, T6.out⟩
        case measure => simp [intOf]; omega
    · obtain rfl : k = n := by omega
      have jk : ¬ (k : Int) < (k : Int) := by omega
      rw [hta.out, htr.out] at T
      obtain ⟨A1, q1, rfl, -⟩ := own_form T.out.o1
      obtain ⟨A2, q2, rfl, -⟩ := own_form T.out.o2
      have hq : RTst wr wr.heap.size t ⟨A1, q1, A2, q2⟩ := ⟨own_iarr T.out.o1 hn, own_iarr T.out.o2 nl.out⟩
      have HV := hV.out ⟨A1, q1, A2, q2⟩ wr hq
      have y0 : wr.cell? ⟨w.heap.size + 1, 0, none⟩ = some (.slice A1 k q1) := (T.out.box.cell 0).trans rfl
      have y1 : wr.cell? ⟨w.heap.size + 1, 1, none⟩ = some (.slice A2 k q2) := (T.out.box.cell 1).trans rfl
      unfold tstV at HV
      rw [hn, nl.out] at HV
      replace HV := Lib.hid HV
      clear hq hal hrl hN hget hV hts hms T0
      go_wp2_with fail
      with_reducible refine HV.out.mono ?_
      rintro e w5 ⟨rfl, hb5⟩
      have T5 := Lib.hid (T.out.to hb5)
      clear y0 y1 HV hb5
      have y0 : w5.cell? ⟨w.heap.size + 1, 0, none⟩ = some (.slice A1 k q1) := (T5.out.box.cell 0).trans rfl
      have y1 : w5.cell? ⟨w.heap.size + 1, 1, none⟩ = some (.slice A2 k q2) := (T5.out.box.cell 1).trans rfl
      have hwz : Whole w5 w.heap.size 26 #[.slice none 0 0, .slice none 0 0] := (T5.out.bel.block w.heap.size (Nat.lt_succ_self _)).trans hB0.out
      have u0 : w5.cell? ⟨w.heap.size, 0, none⟩ = some (.slice none 0 0) := (hwz.cell 0).trans rfl
      have u1 : w5.cell? ⟨w.heap.size, 1, none⟩ = some (.slice none 0 0) := (hwz.cell 1).trans rfl
      have f0 := hwz.frozen 0
      have f1 := hwz.frozen 1
      have hs5 := T5.out.hs
      have R := Lib.hid (two_res (r := w.heap.size) (x := .slice A1 k q1) (y := .slice A2 k q2) (t := t) T5.out hn nl.out (by omega))
      have hbr := Lib.hid (((hb1.out.trans (T5.out.bel.mono (Nat.le_succ _))).setCell (p := ⟨w.heap.size, 0, none⟩) (Nat.le_refl _) (.slice A1 k q1)).setCell (p := ⟨w.heap.size, 1, none⟩) (Nat.le_refl _) (.slice A2 k q2))
      have hz0 : w.heap.size < w5.heap.size := by omega
      have W2 := Lib.hid ((hwz.set 0 (.slice A1 k q1)).set 1 (.slice A2 k q2))
      clear hwz T5
      go_wp2
      clear u0 u1 f0 f1 y0 y1
      have s0 : (((w5.setCell ⟨w.heap.size, 0, none⟩ (.slice A1 k q1)).setCell ⟨w.heap.size, 1, none⟩ (.slice A2 k q2))).cell? ⟨w.heap.size, 0, none⟩ = some (.slice A1 k q1) := (W2.out.cell 0).trans rfl
      have s1 : (((w5.setCell ⟨w.heap.size, 0, none⟩ (.slice A1 k q1)).setCell ⟨w.heap.size, 1, none⟩ (.slice A2 k q2))).cell? ⟨w.heap.size, 1, none⟩ = some (.slice A2 k q2) := (W2.out.cell 1).trans rfl
      refine bodyPost_ret (v := .tuple #[.agg #[.slice A1 k q1, .slice A2 k q2], .int .i64 0]) (by simp [results, Tryd.results31, go_sem, s0, s1]) rfl ?_
      exact Ret.mk ⟨⟨A1, q1, A2, q2⟩, by show _ = Value.tuple #[.agg #[.slice _ t.acc.length _, .slice _ t.rej.length _], _]; rw [hn, nl.out], R.out, hbr.out⟩
end Go.Proofs.YtbpgpjmihbmcbaaDoor
