/-
  CONTRACT of health.Curtail.
  Conditions: those that each theorem names.
-/
import Derived.Test.YtbpgpjmihbmcbaaDoorHeaI
import Derived.Test.YtbpgpjmihbmcbaaDoorBlk
import Derived.Deep.DeepCutAuto
namespace Go.Proofs.YtbpgpjmihbmcbaaDoor
open Go.RowKit Go.Sv

set_option maxHeartbeats 1000000 in
theorem curtail_no (t : Tst) (q : TstP) (w : World) (h : RTst w w.heap.size t q) (hbd : TBd t) (g : validE t ≠ 0) :
    Calls Tryd.prog 22 #[tstV t q] w (Ret (TRes w tst0 (validE t))) := by
  obtain ⟨qa, qc, qb, qd⟩ := q
  have hbx : Hid (∀ o o' : Obj, Below w.heap.size w ((w.alloc o).alloc o')) := Lib.hid fun o o' => ((Below.refl _ _).alloc (Nat.le_refl _) o).alloc (by simp) o'
  have hv : Hid (∀ o o' : Obj, Calls Tryd.prog 19 #[tstV t ⟨qa, qc, qb, qd⟩] ((w.alloc o).alloc o') fun e w' => e = .returned (.int .i64 (validE t)) ∧ Below ((w.alloc o).alloc o').heap.size ((w.alloc o).alloc o') w') :=
    Lib.hid fun o o' => valid_any t ⟨qa, qc, qb, qd⟩ _ (h.to (hbx.out o o')) hbd
  replace h := Lib.hid h
  have hx : (validE t != 0) = true := by rw [bne_iff_ne]; exact g
  clear g
  go_enter Tryd.func22, Tryd.ntmps22
  go_wp2_with fail
  refine (hv.out _ _).mono ?_
  rintro e w1 ⟨rfl, hb1⟩
  have hb2 := Lib.hid (below_of (hbx.out _ _) (hbx.out _ _).size hb1)
  obtain ⟨s0, s1, s2, s3, s4⟩ := res_cells' hb1 (Below.refl w1.heap.size w1) (by have := hb1.size; simp at this; omega)
  clear hb1
  go_wp2
  refine bodyPost_ret (v := .tuple #[.agg #[.slice none 0 0, .slice none 0 0], .int .i64 (validE t)]) (by simp [results, Tryd.results22, go_sem, s0, s1]) rfl (Ret.mk (TRes.none_ ?_))
  exact (hb2.out.setCell (by show w.heap.size ≤ w.heap.size + 1; omega) _).setCell (by show w.heap.size ≤ w.heap.size + 1; omega) _

noncomputable def curV (t : Tst) : Tst := if validE t = 0 then curT t else tst0
/-- the rows while the loop stands at k -/
def outA (t : Tst) (k i : Nat) : Value := .int .i64 (if k ≤ i then curA t (i + 1) else 0)
def outR (t : Tst) (k i : Nat) : Value := .int .i64 (if k ≤ i then curR t (i + 1) else 0)
def rowP (t : Tst) (n f j : Nat) : Value := .int .i64 (if j < f then cert t n j else 0)
theorem outA_end (t : Tst) {k : Nat} (h : k < t.acc.length) : outA t t.acc.length k = .int .i64 0 := by unfold outA; rw [if_neg (by omega)]
theorem outR_end (t : Tst) {k : Nat} (h : k < t.acc.length) : outR t t.acc.length k = .int .i64 0 := by unfold outR; rw [if_neg (by omega)]
theorem outA_step (t : Tst) (m k : Nat) : (if k = m then .int .i64 (curA t (m + 1)) else outA t (m + 1) k) = outA t m k := by
  unfold outA
  by_cases h : k = m
  · subst h; rw [if_pos rfl, if_pos (Nat.le_refl _)]
  · rw [if_neg h]
    by_cases h2 : m ≤ k
    · rw [if_pos h2, if_pos (by omega)]
    · rw [if_neg h2, if_neg (by omega)]
theorem outR_step (t : Tst) (m k : Nat) : (if k = m then .int .i64 (curR t (m + 1)) else outR t (m + 1) k) = outR t m k := by
  unfold outR
  by_cases h : k = m
  · subst h; rw [if_pos rfl, if_pos (Nat.le_refl _)]
  · rw [if_neg h]
    by_cases h2 : m ≤ k
    · rw [if_pos h2, if_pos (by omega)]
    · rw [if_neg h2, if_neg (by omega)]
theorem rowP_step (t : Tst) (n f k : Nat) : (if k = f then .int .i64 (cert t n f) else rowP t n f k) = rowP t n (f + 1) k := by
  unfold rowP
  by_cases h : k = f
  · subst h; rw [if_pos rfl, if_pos (by omega)]
  · rw [if_neg h]
    by_cases h2 : k < f
    · rw [if_pos h2, if_pos (by omega)]
    · rw [if_neg h2, if_neg (by omega)]

theorem tri_res {w1 w : World} {b g1 g2 r : Nat} {tt e : TypeId} {x y : Value} {t : Tst} (T : Tri w1 w1.heap.size w b g1 g2 tt e t.acc.length (outA t 0) (outR t 0)) (hr : r < w1.heap.size) :
    RTst ((w.setCell ⟨r, 0, none⟩ x).setCell ⟨r, 1, none⟩ y) ((w.setCell ⟨r, 0, none⟩ x).setCell ⟨r, 1, none⟩ y).heap.size (curT t) ⟨some ⟨g1, 0, none⟩, t.acc.length, some ⟨g2, 0, none⟩, t.acc.length⟩ := by
  have h1 := T.h1
  have h2 := T.h2
  have hs : ((w.setCell ⟨r, 0, none⟩ x).setCell ⟨r, 1, none⟩ y).heap.size = w.heap.size := by simp [World.setCell]
  obtain ⟨L1, L2⟩ := curT_len t
  have a1 := ((T.r1.far (p := ⟨r, 0, none⟩) (by show g1 ≠ r; omega) x).far (p := ⟨r, 1, none⟩) (by show g1 ≠ r; omega) y).arr (B := w.heap.size) T.r1.lt
  have a2 := ((T.r2.far (p := ⟨r, 0, none⟩) (by show g2 ≠ r; omega) x).far (p := ⟨r, 1, none⟩) (by show g2 ≠ r; omega) y).arr (B := w.heap.size) T.r2.lt
  rw [hs]
  refine ⟨?_, ?_⟩
  · show Arr _ _ _ (curT t).acc.length _
    rw [L1]
    exact a1.congr fun k hk => by simp [outA, iv, gi, curT, hk]
  · show Arr _ _ _ (curT t).rej.length _
    rw [L2]
    exact a2.congr fun k hk => by simp [outR, iv, gi, curT, hk]

set_option maxHeartbeats 2000000 in
set_option maxRecDepth 100000 in
theorem curtail_ok (t : Tst) (q : TstP) (w : World) (h : RTst w w.heap.size t q) (hbd : TBd t) (g : validE t = 0) :
    Calls Tryd.prog 22 #[tstV t q] w (Ret (TRes w (curT t) 0)) := by
  obtain ⟨qa, qc, qb, qd⟩ := q
  have hbx : Hid (∀ o o' : Obj, Below w.heap.size w ((w.alloc o).alloc o')) := Lib.hid fun o o' => ((Below.refl _ _).alloc (Nat.le_refl _) o).alloc (by simp) o'
  have hv : Hid (∀ o o' : Obj, Calls Tryd.prog 19 #[tstV t ⟨qa, qc, qb, qd⟩] ((w.alloc o).alloc o') fun e w' => e = .returned (.int .i64 (validE t)) ∧ Below ((w.alloc o).alloc o').heap.size ((w.alloc o).alloc o') w') :=
    Lib.hid fun o o' => valid_any t ⟨qa, qc, qb, qd⟩ _ (h.to (hbx.out o o')) hbd
  have vl := Lib.hid (validE_vld g)
  have G := Lib.hid g
  have hx : (validE t != 0) = false := by rw [bne_eq_false_iff_eq]; exact g
  have n1 := vl.out.n1
  have n0 := vl.out.n0
  have hmk : Hid (∀ (n : Nat) (w : World), n ≤ 1000 → (Instr.makeSlice 24 (.int .i64 n) (.int .i64 n)).run Tryd.prog w = .ok (.slice (some ⟨w.heap.size, 0, none⟩) n n) (w.alloc (.cells (madeCells #[.int .i64 0] n) 3))) := by
    refine Lib.hid fun n w hn => ?_
    obtain ⟨i, hi, e1, e2, e3⟩ := info_parts elInt.hi
    have := run_make (P := Tryd.prog) w _ _ i _ elInt.ht hi e1 .i64 .i64 n n (by omega) (Int.le_refl _) (by rw [e3]; omega) (by omega)
    rw [e2, Nat.mul_one, Int.toNat_natCast] at this
    exact this
  replace h := Lib.hid h
  clear g
  go_enter Tryd.func22, Tryd.ntmps22
  go_wp2_with fail
  refine (hv.out _ _).mono ?_
  rintro e w1 ⟨rfl, hb1⟩
  have hb2 := Lib.hid (below_of (hbx.out _ _) (hbx.out _ _).size hb1)
  have hs1 : w.heap.size + 1 < w1.heap.size := by have := hb1.size; simp at this; omega
  have hB := Lib.hid ((TBox.new (w := w) (e := 26) (q := ⟨qa, qc, qb, qd⟩)).to (((Below.refl _ _).alloc (Nat.le_refl _) (.cells #[.slice none 0 0, .slice none 0 0] 26)).trans (hb1.mono (by simp))))
  have hR := Lib.hid (fun (w' : World) (hw : Below w1.heap.size w1 w') => res_cells' hb1 hw hs1)
  clear hb1
  obtain ⟨z, y0, y1⟩ := hB.out
  dsimp only at y0 y1
  go_upto_region 5 with fail
  go_cut [6] (fun s6 wx => ∃ b g1 g2 : Nat, s6 = .pointer (some ⟨b, 0, none⟩) ∧ Tri w1 w1.heap.size wx b g1 g2 26 3 t.acc.length (outA t t.acc.length) (outR t t.acc.length))
  case first =>
    have mk := fun w => hmk.out t.acc.length w (by omega)
    clear hv hbx hR
    go_region_held3 (fun _ => True) (go_keep) (fail)
    all_goals (go_wp2_with fail; go_meet)
    all_goals
      first
        | exact ⟨_, _, _, rfl, Tri.make (below3 _ _ _ _) (heap3 _ _ _ _).2.2 (heap3 _ _ _ _).1 (heap3 _ _ _ _).2.1 (by omega) (by omega) (by omega) (by omega) (by omega) (by omega) (fun k hk => outA_end t hk) (fun k hk => outR_end t hk)⟩
        | exact ⟨_, _, _, rfl, Tri.make (below3 _ _ _ _) (heap3 _ _ _ _).2.2 (heap3 _ _ _ _).2.1 (heap3 _ _ _ _).1 (by omega) (by omega) (by omega) (by omega) (by omega) (by omega) (fun k hk => outA_end t hk) (fun k hk => outR_end t hk)⟩
        | exact ⟨_, _, _, rfl, Tri.make (below3 _ _ _ _) (heap3 _ _ _ _).2.1 (heap3 _ _ _ _).1 (heap3 _ _ _ _).2.2 (by omega) (by omega) (by omega) (by omega) (by omega) (by omega) (fun k hk => outA_end t hk) (fun k hk => outR_end t hk)⟩
        | exact ⟨_, _, _, rfl, Tri.make (below3 _ _ _ _) (heap3 _ _ _ _).2.1 (heap3 _ _ _ _).2.2 (heap3 _ _ _ _).1 (by omega) (by omega) (by omega) (by omega) (by omega) (by omega) (fun k hk => outA_end t hk) (fun k hk => outR_end t hk)⟩
        | exact ⟨_, _, _, rfl, Tri.make (below3 _ _ _ _) (heap3 _ _ _ _).1 (heap3 _ _ _ _).2.1 (heap3 _ _ _ _).2.2 (by omega) (by omega) (by omega) (by omega) (by omega) (by omega) (fun k hk => outA_end t hk) (fun k hk => outR_end t hk)⟩
        | exact ⟨_, _, _, rfl, Tri.make (below3 _ _ _ _) (heap3 _ _ _ _).1 (heap3 _ _ _ _).2.2 (heap3 _ _ _ _).2.1 (by omega) (by omega) (by omega) (by omega) (by omega) (by omega) (fun k hk => outA_end t hk) (fun k hk => outR_end t hk)⟩
  case rest =>
    obtain ⟨b, g1, g2, rfl, T⟩ := hcut
    replace T := Lib.hid T
    clear z y0 y1
    obtain ⟨z, y0, y1⟩ := hB.out.to T.out.bel
    dsimp only at y0 y1
    clear z y0 y1
    go_wp2
    go_loopw [7, 8, 9, 10, 35] (fun s7 s8 _ _ _ wr => ∃ (k : Nat) (A : Option Addr) (m c : Nat), k ≤ t.acc.length ∧ s8 = .int .i64 k ∧ s7 = .slice A m c ∧ (k < t.acc.length → m = k + 2 ∧ Arr wr wr.heap.size A (k + 2) (fun j => .int .i64 (cert t (k + 1) j))) ∧ Tri w1 w1.heap.size wr b g1 g2 26 3 t.acc.length (outA t k) (outR t k)) (fun _ s8 _ _ _ _ => (intOf s8).toNat)
    case atStart => exact ⟨t.acc.length, none, 0, 0, Nat.le_refl _, rfl, rfl, fun h => absurd h (Nat.lt_irrefl _), T.out⟩
    case round =>
      clear T
      obtain ⟨k, A, m, c, hk, rfl, rfl, hA, T⟩ := hrel
      replace T := Lib.hid T
      replace hA := Lib.hid hA
      have hbww := Lib.hid (hb2.out.trans (T.out.bel.mono hb2.out.size))
      obtain ⟨z, y0, y1⟩ := hB.out.to T.out.bel
      dsimp only at y0 y1
      cases k with
      | zero =>
        obtain ⟨s0, s1, s2, s3, s4⟩ := hR.out wr T.out.bel
        have x0 : wr.cell? ⟨b, 0, none⟩ = some (.slice (some ⟨g1, 0, none⟩) t.acc.length t.acc.length) := (T.out.box.cell 0).trans rfl
        have x1 : wr.cell? ⟨b, 1, none⟩ = some (.slice (some ⟨g2, 0, none⟩) t.acc.length t.acc.length) := (T.out.box.cell 1).trans rfl
        have hwb := Lib.hid (T.out.box.lt)
        obtain ⟨L1, L2⟩ := curT_len t
        have R := Lib.hid (tri_res (x := .slice (some ⟨g1, 0, none⟩) t.acc.length t.acc.length) (y := .slice (some ⟨g2, 0, none⟩) t.acc.length t.acc.length) T.out hs1)
        have hb := Lib.hid ((hbww.out.setCell (p := ⟨w.heap.size + 1, 0, none⟩) (by show w.heap.size ≤ w.heap.size + 1; omega) (.slice (some ⟨g1, 0, none⟩) t.acc.length t.acc.length)).setCell (p := ⟨w.heap.size + 1, 1, none⟩) (by show w.heap.size ≤ w.heap.size + 1; omega) (.slice (some ⟨g2, 0, none⟩) t.acc.length t.acc.length))
        replace L1 := Lib.hid L1
        replace L2 := Lib.hid L2
        clear T hA
        go_wp2
        refine bodyPost_ret (v := .tuple #[.agg #[.slice (some ⟨g1, 0, none⟩) t.acc.length t.acc.length, .slice (some ⟨g2, 0, none⟩) t.acc.length t.acc.length], .int .i64 0]) (by simp [results, Tryd.results22, go_sem, s0, s1]) rfl ?_
        exact Ret.mk ⟨⟨_, _, _, _⟩, by show _ = Value.tuple #[.agg #[.slice _ (curT t).acc.length _, .slice _ (curT t).rej.length _], _]; rw [L1.out, L2.out], R.out, hb.out⟩
      | succ k =>
        have hcast : ((k + 1 : Nat) : Int) = (k : Int) + 1 := by omega
        rw [hcast]
        clear hcast
        have hd : decide ((1 : Int) ≤ (k : Int) + 1) = true := decide_eq_true (by omega)
        have i0 : (0 : Int) ≤ k := by omega
        have hkn : k < t.acc.length := by omega
        clear hbx hv hR
        rename World => wo
        have hmk1 := hmk.out (k + 2) wo (by omega)
        have hcast : ((k + 2 : Nat) : Int) = (k : Int) + 1 + 1 := by omega
        rw [hcast] at hmk1
        clear hcast
        obtain ⟨O, mk, BL⟩ : ∃ O : Obj, (Instr.makeSlice 24 (.int .i64 ((k : Int) + 1 + 1)) (.int .i64 ((k : Int) + 1 + 1))).run Tryd.prog wo = .ok (.slice (some ⟨wo.heap.size, 0, none⟩) (k + 2) (k + 2)) (wo.alloc O) ∧ Blk (wo.alloc O) wo.heap.size 3 (k + 2) (rowP t (k + 1) 0) :=
          ⟨_, hmk1, Blk.made _ _ _ _⟩
        replace BL := Lib.hid BL
        clear hmk1
        go_wp2_with fail
        go_loopw [10, 35] (fun _ s35 wi => ∃ f : Nat, f ≤ k + 2 ∧ s35 = .int .i64 f ∧ Below wo.heap.size wo wi ∧ Blk wi wo.heap.size 3 (k + 2) (rowP t (k + 1) f)) (fun _ s35 _ => k + 2 - (intOf s35).toNat)
        case atStart => exact ⟨0, Nat.zero_le _, rfl, (Below.refl _ _).alloc (Nat.le_refl _) _, BL.out⟩
        case round =>
          clear BL z y0 y1
          obtain ⟨f, hf, rfl, hbi, BL⟩ := hrel
          replace hbi := Lib.hid hbi
          replace BL := Lib.hid BL
          have T1 := Lib.hid (T.out.to hbi.out)
          have hbwi := Lib.hid (below_of hbww.out hbww.out.size hbi.out)
          obtain ⟨z, y0, y1⟩ := hB.out.to T1.out.bel
          dsimp only at y0 y1
          by_cases hlt : f < k + 2
          · have hat : Hid (Calls Tryd.prog 32 #[tstV t ⟨qa, qc, qb, qd⟩, .int .i64 ((k + 1 : Nat) : Int), .int .i64 (f : Nat)] wr fun e w' => e = .returned (.int .i64 (atV t (k + 1) (f : Nat))) ∧ Below wr.heap.size wr w') :=
              Lib.hid (at_any t ⟨qa, qc, qb, qd⟩ (k + 1) f wr (h.out.to hbwi.out) hbd (by omega) (by omega) (by have := vl.out.len; omega))
            have hcast : ((k + 1 : Nat) : Int) = (k : Int) + 1 := by omega
            rw [hcast] at hat
            clear hcast
            go_wp2_with fail
            refine hat.out.mono ?_
            rintro e w3 ⟨rfl, hb3⟩
            have BL3 := Lib.hid (BL.out.to hb3)
            have hbi3 := Lib.hid (below_of hbi.out hbi.out.size hb3)
            clear hb3 hat z y0 y1
            have c0 := BL3.out.cell hlt
            have c1 := BL3.out.frozen f
            have BL4 := Lib.hid (BL3.out.set f (.int .i64 (atV t (k + 1) f)))
            have c2 := BL4.out.cell hlt
            rw [if_pos rfl] at c2
            have hbi4 := Lib.hid (hbi3.out.setCell (p := ⟨wo.heap.size, f, none⟩) (Nat.le_refl _) (.int .i64 (atV t (k + 1) f)))
            by_cases cz : atV t (k + 1) (f : Nat) = 0
            case neg =>
              have e0 : (atV t (k + 1) (f : Nat) == 0) = false := by rw [beq_eq_false_iff_ne]; exact cz
              have BL5 := Lib.hid (BL4.out.congr (f' := rowP t (k + 1) (f + 1)) fun j _ => by rw [← cert_at cz]; exact rowP_step t (k + 1) f j)
              clear cz
              go_wp2
              go_big_quiet (fail)
              go_wp2
              go_roundw
              case rel => exact ⟨f + 1, by omega, by go_num, hbi4.out.drawn (Drawn.of _), BL5.out.drawn (Drawn.of _)⟩
              case measure => simp [intOf]; omega
            have hk1 : k + 1 < t.acc.length := by
              rcases Nat.lt_or_ge (k + 1) t.acc.length with hh | hh
              · exact hh
              · exfalso
                have e : k + 1 = t.acc.length := by omega
                rw [e] at cz
                exact atV_last vl.out _ cz
            have E := Lib.hid (cert_step hk1 cz)
            obtain ⟨hm, hArr⟩ := hA.out hk1
            obtain ⟨b', off, hAe, hb', hcell⟩ := hArr (by omega)
            subst hm
            subst hAe
            have r0 : (w3.setCell ⟨wo.heap.size, f, none⟩ (.int .i64 0)).cell? ⟨b', off + f, none⟩ = some (.int .i64 (cert t (k + 1 + 1) f)) := by
              rw [← cz]
              exact (hbi4.out.cell (by exact hb')).trans (hcell f (by omega))
            have r1 : (w3.setCell ⟨wo.heap.size, f, none⟩ (.int .i64 0)).cell? ⟨b', off + (f + 1), none⟩ = some (.int .i64 (cert t (k + 1 + 1) ((f : Int) + 1))) := by
              rw [← cz]
              exact (hbi4.out.cell (by exact hb')).trans (hcell (f + 1) (by omega))
            rw [cz] at c2 BL4 hbi4 ⊢
            have wr1 : IntKind.i64.wrap ((f : Int) + 1) = (f : Int) + 1 := IntWalk.i64_in _ (by omega)
            clear cz hcell hArr
            by_cases ce : cert t (k + 1 + 1) (f : Nat) = cert t (k + 1 + 1) ((f : Int) + 1)
            · have e1 : (cert t (k + 1 + 1) (f : Nat) == cert t (k + 1 + 1) ((f : Int) + 1)) = true := by rw [beq_iff_eq]; exact ce
              have E' := Lib.hid (E.out.trans (if_pos ce))
              clear ce
              go_wp2
              go_big_quiet (fail)
              go_wp2
              go_roundw
              case rel => exact ⟨f + 1, by omega, by go_num, (hbi4.out.drawn (Drawn.of _)).setCell (p := ⟨wo.heap.size, f, none⟩) (Nat.le_refl _) _, ((BL4.out.drawn (Drawn.of _)).set f (.int .i64 (cert t (k + 1 + 1) f))).congr (f' := rowP t (k + 1) (f + 1)) fun j _ => by
                rw [← rowP_step t (k + 1) f j, E'.out]
                by_cases hj : j = f
                · rw [if_pos hj, if_pos hj]
                · rw [if_neg hj, if_neg hj, if_neg hj]⟩
              case measure => simp [intOf]; omega
            · have e1 : (cert t (k + 1 + 1) (f : Nat) == cert t (k + 1 + 1) ((f : Int) + 1)) = false := by rw [beq_eq_false_iff_ne]; exact ce
              have E' := Lib.hid (E.out.trans (if_neg ce))
              clear ce
              go_wp2
              go_big_quiet (fail)
              go_wp2
              go_roundw
              case rel => exact ⟨f + 1, by omega, by go_num, hbi4.out.drawn (Drawn.of _), (BL4.out.drawn (Drawn.of _)).congr (f' := rowP t (k + 1) (f + 1)) fun j _ => by
                rw [← rowP_step t (k + 1) f j, E'.out]⟩
              case measure => simp [intOf]; omega
          · obtain rfl : f = k + 2 := by omega
            have hcast : ((k + 2 : Nat) : Int) = (k : Int) + 2 := by omega
            have hArr : Arr wr wr.heap.size (some ⟨wo.heap.size, 0, none⟩) (rowC t (k + 1)).length (iv (rowC t (k + 1))) := by
              rw [rowC_len]
              exact (BL.out.arr BL.out.lt).congr fun j hj => by
                unfold iv rowP
                rw [rowC_get (by omega), if_pos hj]
            have hbn : Hid (Calls Tryd.prog 34 #[.slice (some ⟨wo.heap.size, 0, none⟩) (k + 2) (k + 2)] wr.drew fun e w' => e = .returned (.tuple #[.int .i64 (curA t (k + 1)), .int .i64 (curR t (k + 1))]) ∧ wr.drew = w') := by
              have := boundaries_any (some ⟨wo.heap.size, 0, none⟩) (rowC t (k + 1)) (k + 2) wr.drew hArr (by rw [rowC_len]; omega)
              rw [rowC_len] at this
              exact Lib.hid this
            have x0 : wr.cell? ⟨b, 0, none⟩ = some (.slice (some ⟨g1, 0, none⟩) t.acc.length t.acc.length) := (T1.out.box.cell 0).trans rfl
            have x1 : wr.cell? ⟨b, 1, none⟩ = some (.slice (some ⟨g2, 0, none⟩) t.acc.length t.acc.length) := (T1.out.box.cell 1).trans rfl
            have x2 := T1.out.r1.cell hkn
            have x3 := T1.out.r2.cell hkn
            have x4 := T1.out.r1.frozen k
            have x5 := T1.out.r2.frozen k
            have wr1 : IntKind.i64.wrap ((k : Int) + 1 - 1) = (k : Int) := by
              have e : (k : Int) + 1 - 1 = k := by omega
              rw [e]
              exact IntWalk.i64_in _ (by omega)
            have wr2 : IntKind.i64.wrap (k : Int) = (k : Int) := IntWalk.i64_in _ (by omega)
            have i1 : (k : Int) < (t.acc.length : Int) := by omega
            have q1 := T1.out.n1
            have q2 := T1.out.n2
            have q3 := T1.out.n3
            have q1' := q1.symm
            have q2' := q2.symm
            have q3' := q3.symm
            have T2 := Lib.hid ((T1.out.set k k (.int .i64 (curA t (k + 1))) (.int .i64 (curR t (k + 1)))).congr (f1' := outA t k) (f2' := outR t k) (fun j _ => outA_step t k j) (fun j _ => outR_step t k j))
            have T3 := Lib.hid (T2.out.drew)
            have l1 := T.out.r1.lt
            have l2 := T.out.r2.lt
            have BL6 : Hid (Arr ((wr.setCell ⟨g1, k, none⟩ (.int .i64 (curA t (k + 1)))).setCell ⟨g2, k, none⟩ (.int .i64 (curR t (k + 1)))).drew ((wr.setCell ⟨g1, k, none⟩ (.int .i64 (curA t (k + 1)))).setCell ⟨g2, k, none⟩ (.int .i64 (curR t (k + 1)))).drew.heap.size (some ⟨wo.heap.size, 0, none⟩) (k + 2) (fun j => .int .i64 (cert t (k + 1) j))) := by
              have a := (BL.out.far (p := ⟨g1, k, none⟩) (by show wo.heap.size ≠ g1; omega) (.int .i64 (curA t (k + 1)))).far (p := ⟨g2, k, none⟩) (by show wo.heap.size ≠ g2; omega) (.int .i64 (curR t (k + 1)))
              exact Lib.hid ((a.drew.arr a.drew.lt).congr fun j hj => by unfold rowP; rw [if_pos hj])
            replace hArr := Lib.hid hArr
            rw [hcast]
            clear hcast T hA
            go_wp2_with fail
            go_region_held3 (fun w' => w'.cell? ⟨b, 0, none⟩ = some (.slice (some ⟨g1, 0, none⟩) t.acc.length t.acc.length) ∧ w'.cell? ⟨b, 1, none⟩ = some (.slice (some ⟨g2, 0, none⟩) t.acc.length t.acc.length)) (go_keep)
              (first
                | ((with_reducible refine hbn.out.mono ?_)
                   rintro e w2 ⟨rfl, rfl⟩))
            all_goals
              clear wr1 wr2
              go_wp2
              go_roundw
              case rel => exact ⟨k, _, _, _, by omega, by go_num, rfl, fun _ => ⟨rfl, BL6.out⟩, T3.out⟩
              case measure => (simp [intOf]; try omega)

theorem curtail_any (t : Tst) (q : TstP) (w : World) (h : RTst w w.heap.size t q) (hbd : TBd t) :
    Calls Tryd.prog 22 #[tstV t q] w (Ret (TRes w (curV t) (validE t))) := by
  unfold curV
  by_cases g : validE t = 0
  · rw [if_pos g, g]; exact curtail_ok t q w h hbd g
  · rw [if_neg g]; exact curtail_no t q w h hbd g
theorem rcurtail_any (t : Tst) (q : TstP) (w : World) (h : RTst w w.heap.size t q) (hbd : TBd t) :
    Calls Tryd.prog 23 #[tstV t q] w (Ret (TRes w (curV t) (validE t))) := by
  unfold curV
  by_cases g : validE t = 0
  · rw [if_pos g, g]; exact rcurtail_ok t q w h hbd g
  · rw [if_neg g]; exact rcurtail_no t q w h hbd g
end Go.Proofs.YtbpgpjmihbmcbaaDoor
