/-
  CONTRACT of sheaveref46.Sum, and of Fail, Pass, Expected.
  Conditions: those that each theorem names.
-/
import Derived.Test.YtpoddmkimhkmoaaGreatPb6
import Derived.Test.YtpoddmkimhkmoaaGreatPwK
import Derived.Test.YtpoddmkimhkmoaaGreatPh2
namespace Go.Proofs.YtpoddmkimhkmoaaGreat
open Go.RowKit Go.Sv Go.Pw
/-- a cell of counters -/
def uv (F : Nat → Nat) (k : Nat) : Value := .int .u64 (F k : Nat)
theorem elU64 : ElemT Tryz.prog 104 50 (.int .u64 0) 1 8 := ⟨Tryz.underlying104, by kernel_rfl, rfl, by decide⟩
theorem mk_u64 (n : Nat) (hn : n ≤ 1000) {x : Int} (hx : x = n) : ∃ O : Obj, (∀ w : World, (Instr.makeSlice 104 (.int .i64 x) (.int .i64 x)).run Tryz.prog w = .ok (.slice (some ⟨w.heap.size, 0, none⟩) n n) (w.alloc O)) ∧ ∀ w : World, Blk (w.alloc O) w.heap.size 50 n (uv fun _ => 0) := by
  subst hx
  refine ⟨.cells (madeCells #[.int .u64 0] n) 50, fun w => ?_, fun w => (Blk.made _ _ _ _).congr fun k hk => rfl⟩
  obtain ⟨i, hi, e1, e2, e3⟩ := info_parts elU64.hi
  have := run_make (P := Tryz.prog) w _ _ i _ elU64.ht hi e1 .i64 .i64 n n (by omega) (Int.le_refl _) (by rw [e3]; omega) (by omega)
  rw [e2, Nat.mul_one, Int.toNat_natCast] at this
  exact this
theorem outc_bdg (x n : Nat) : outc (x : Int) n = bdg x n := by
  unfold outc bdg
  refine List.map_congr_left fun k _ => ?_
  unfold ob
  rw [bit_k (by omega), Int.toNat_natCast]
  rcases Nat.mod_two_eq_zero_or_one (x / 2 ^ k) with h | h <;> rw [h] <;> rfl
/-- the factor that the reference adds for a list -/
def kk (times : Bool) (v0 : Int) (v : Int) (n : Nat) : Nat := if times = true then n else if v = v0 then 1 else 0
/-- the counters behind k lists -/
def fcs (t : Tst) (times : Bool) (v0 : Int) (k : Nat) (f : Nat) : Nat := facK t t.acc.length k (kk times v0) f
theorem fcs_succ (t : Tst) (times : Bool) (v0 : Int) (k f : Nat) (hd : (decL (VT t) (bdg k t.acc.length)).1 ≠ 0) :
    fcs t times v0 (k + 1) f = fcs t times v0 k f + if fails (bdg k t.acc.length) = f then kk times v0 (decL (VT t) (bdg k t.acc.length)).1 (decL (VT t) (bdg k t.acc.length)).2 else 0 := by
  unfold fcs facK
  rw [upTo_succ]
  congr 1
  by_cases hf : fails (bdg k t.acc.length) = f
  · rw [if_pos hf, if_pos hf, if_neg hd]
  · rw [if_neg hf, if_neg hf]
/-- counters as a reading -/
def arrRd (g n : Nat) (f : Nat → Value) : Rd where
  R := fun W => ∀ k, k < n → W.cell? ⟨g, k, none⟩ = some (f k)
  D := fun b => b = g
  st := fun h hc _ k hk => (hc ⟨g, k, none⟩ rfl).trans (h k hk)
theorem blk_arr {w : World} {g n : Nat} {e : TypeId} {f : Nat → Value} (h : Blk w g e n f) : (arrRd g n f).R w := fun _ hk => h.cell hk
/-- the sum so far -/
def SN (F : Nat → Nat) (a b N m : Nat) : Nat := sumL (fun f => F f * (a ^ f * b ^ (N - f))) (List.range m)
theorem SN_zero (F : Nat → Nat) (a b N : Nat) : SN F a b N 0 = 0 := rfl
theorem SN_succ (F : Nat → Nat) (a b N m : Nat) : SN F a b N (m + 1) = SN F a b N m + F m * (a ^ m * b ^ (N - m)) := by
  unfold SN
  rw [List.range_succ, sumL_append, sumL_cons, sumL_nil]
  omega
theorem rd_one (F : Nat) : rdN F 1 = lim F ∧ rdD F 1 = lim 1 := rd_eq (by decide) (by decide) (Nat.gcd_one_right F) rfl
theorem arr_at {w W : World} {bs : List Bx} {rs : List Rd} {g n : Nat} {f : Nat → Value} (S : Fm w W bs rs) (hm : arrRd g n f ∈ rs) {k : Nat} (hk : k < n) {v : Value} (e : f k = v) : W.cell? ⟨g, k, none⟩ = some v := by
  have h : ∀ k, k < n → W.cell? ⟨g, k, none⟩ = some (f k) := allR_at S.rd _ hm
  rw [h k hk, e]
theorem arr_lt {w W : World} {bs : List Bx} {rs : List Rd} {g n : Nat} {f : Nat → Value} (S : Fm w W bs rs) (hm : arrRd g n f ∈ rs) : g < W.heap.size := (S.far _ hm g rfl).1
theorem sum_all (t : Tst) (times : Bool) (v0 : Int) (a b : Nat) : sumL (fun f => fcs t times v0 (2 ^ t.acc.length) f * (a ^ f * b ^ (t.acc.length - f))) (List.range (t.acc.length + 1)) = allS (VT t) a b t.acc.length (kk times v0) := by
  rw [← fac_sum]
  refine sumL_congr fun f _ => ?_
  unfold fcs
  rw [facK_all]
theorem w64 {N : Nat} (h : N ≤ 8) : wrap64 (2 ^ N) = ((2 ^ N : Nat) : Int) := by
  rcases (by omega : N = 0 ∨ N = 1 ∨ N = 2 ∨ N = 3 ∨ N = 4 ∨ N = 5 ∨ N = 6 ∨ N = 7 ∨ N = 8) with rfl | rfl | rfl | rfl | rfl | rfl | rfl | rfl | rfl <;> (unfold wrap64; omega)
theorem gr_cell (w : World) (g f : Nat) {u : Value} : w.grownBy (w.setCell ⟨g, f, none⟩ u) (some g) := by
  have hb : Below 0 w (w.setCell ⟨g, f, none⟩ u) := (Below.refl 0 w).setCell (Nat.zero_le _) u
  exact ⟨hb.os, hb.tape, hb.output, hb.size, fun b _ hne => Below.heap_setCell w ⟨g, f, none⟩ u b (fun e => hne (by rw [e]))⟩
theorem fcs_le (t : Tst) (times : Bool) (v0 : Int) (k f : Nat) (h8 : t.acc.length ≤ 8) (hk : k ≤ 2 ^ t.acc.length) : fcs t times v0 k f ≤ 256 * 8 := by
  have hP : 2 ^ t.acc.length ≤ 256 := Nat.pow_le_pow_right (by decide) h8
  have key : ∀ j, j ≤ 2 ^ t.acc.length → fcs t times v0 j f ≤ j * 8 := by
    intro j
    induction j with
    | zero => intro _; exact Nat.zero_le _
    | succ j ih =>
      intro hj
      have hj' : j < 2 ^ t.acc.length := hj
      have e := ih (Nat.le_of_lt hj')
      have hm : bdg j t.acc.length ∈ allL t.acc.length := by
        rw [← bdg_all]
        exact List.mem_map.2 ⟨j, List.mem_range.2 hj', rfl⟩
      have e2 : fcs t times v0 (j + 1) f ≤ fcs t times v0 j f + 8 := by
        unfold fcs facK
        rw [upTo_succ]
        refine Nat.add_le_add_left ?_ _
        split
        · split
          · omega
          · rename_i hd
            have := (dec_place (VT t) hm hd).2
            unfold kk
            split
            · omega
            · split <;> omega
        · omega
      rw [Nat.add_mul]
      omega
  have := key k hk
  omega
set_option maxHeartbeats 4000000 in
set_option maxRecDepth 100000 in
theorem sum_any (t : Tst) (q : TstP) (a d : Nat) (qn qd : LmP) (v0 : Int) (times : Bool) (w : World) (h : RTst w w.heap.size t q) (hbd : TBd t) (hv : validE t = 0) (hp : PrB a d) (hn : RLm w w.heap.size (lim a) qn) (hd : RLm w w.heap.size (lim d) qd) (h8 : t.acc.length ≤ 8) :
    Calls Tryz.prog 59 #[tstV t q, ratV (lim a) qn (lim d) qd, .int .i64 v0, .bool times] w (Ret (RRes w (rdN (allS (VT t) a (d - a) t.acc.length (kk times v0)) (d ^ t.acc.length)) (rdD (allS (VT t) a (d - a) t.acc.length (kk times v0)) (d ^ t.acc.length)))) := by
  have vl := validE_vld hv
  have n0 := vl.n0
  obtain ⟨ta, tc, tb, td⟩ := q
  obtain ⟨qna, qnc⟩ := qn
  obtain ⟨qda, qdc⟩ := qd
  have HO := Lib.hid (fun (k : Nat) w' => by
    have := outcomes_any t.acc.length (k : Int) (by omega) (by omega) w'
    rw [outc_bdg] at this
    exact this)
  have HD := Lib.hid (fun (k : Nat) A c w' (h' : RTst w' w'.heap.size t ⟨ta, tc, tb, td⟩) (hl : Arr w' w'.heap.size A (bdg k t.acc.length).length (bv (bdg k t.acc.length))) => by
    have := rdecide_any t ⟨ta, tc, tb, td⟩ A (bdg k t.acc.length) c w' h' hbd hl (by simp [bdg]; omega)
    rw [decR_decL hv, hv] at this
    exact this)
  have HF := Lib.hid (fun (k : Nat) A c w' (hl : Arr w' w'.heap.size A (bdg k t.acc.length).length (bv (bdg k t.acc.length))) => failures_any A (bdg k t.acc.length) c w' hl (by simp [bdg]; omega))
  have hdl : Hid (∀ k, (bdg k t.acc.length).length = t.acc.length) := Lib.hid (fun k => by simp [bdg])
  have hdec : Hid (∀ k, k < 2 ^ t.acc.length → (decL (VT t) (bdg k t.acc.length)).1 ≠ 0 ∧ (decL (VT t) (bdg k t.acc.length)).2 ≤ 8 ∧ fails (bdg k t.acc.length) ≤ t.acc.length) := Lib.hid fun k hk => by
    have hm : bdg k t.acc.length ∈ allL t.acc.length := by
      rw [← bdg_all]
      exact List.mem_map.2 ⟨k, List.mem_range.2 hk, rfl⟩
    have := VT_all vl _ hm
    exact ⟨this, Nat.le_trans (dec_place _ hm this).2 h8, fails_le hm⟩
  have S := Lib.hid ((natArg (natArg (Fm.init w) hd) hn).arg (tstRd w.heap.size t ⟨ta, tc, tb, td⟩) h (fun g hg => hg))
  have hold0 : Hid (∀ r ∈ [tstRd w.heap.size t ⟨ta, tc, tb, td⟩, rowRd (lim a) ⟨qna, qnc⟩, rowRd (lim d) ⟨qda, qdc⟩], ∀ g, r.D g → g < w.heap.size) := Lib.hid fun r hr g hg => (S.out.far r hr g hg).1
  clear h hbd hv hn hd vl
  obtain ⟨Av, hA⟩ : ∃ v, lim a = v := ⟨_, rfl⟩
  obtain ⟨Dv, hD⟩ : ∃ v, lim d = v := ⟨_, rfl⟩
  rw [hA, hD] at S hold0
  rw [hA, hD]
  replace hA := Lib.hid hA
  replace hD := Lib.hid hD
  replace S := Lib.hid (S.out.box 32 [.slice ta t.acc.length tc, .slice tb t.rej.length td])
  replace S := Lib.hid (S.out.box' 26 [.slice qna Av.length qnc, .slice qda Dv.length qdc] (K := w.heap.size + 1) (by simp))
  replace S := Lib.hid (S.out.box' 26 [.slice none 0 0, .slice none 0 0] (K := w.heap.size + 1 + 1) (by simp))
  obtain ⟨O, mk, BL⟩ := mk_u64 (t.acc.length + 1) (by omega) (x := (t.acc.length : Int) + 1) (by omega)
  replace BL := Lib.hid BL
  go_enter Tryz.func59, Tryz.ntmps59
  go_wp2_with fail
  have hg0 : Hid ((((w.alloc (.cells #[.slice ta t.acc.length tc, .slice tb t.rej.length td] 32)).alloc (.cells #[.slice qna Av.length qnc, .slice qda Dv.length qdc] 26)).alloc (.cells #[.slice none 0 0, .slice none 0 0] 26)).heap.size = w.heap.size + 1 + 1 + 1) := Lib.hid (by simp)
  generalize ((w.alloc (.cells #[.slice ta t.acc.length tc, .slice tb t.rej.length td] 32)).alloc (.cells #[.slice qna Av.length qnc, .slice qda Dv.length qdc] 26)).alloc (.cells #[.slice none 0 0, .slice none 0 0] 26) = W3 at S hg0 ⊢
  have hold : Hid (∀ r ∈ [tstRd w.heap.size t ⟨ta, tc, tb, td⟩, rowRd Av ⟨qna, qnc⟩, rowRd Dv ⟨qda, qdc⟩], ∀ g, r.D g → g < w.heap.size) := hold0
  have hB0 : Hid (Blk (W3.alloc O) (w.heap.size + 1 + 1 + 1) 50 (t.acc.length + 1) (uv (fcs t times v0 0))) := Lib.hid (by
    have := BL.out W3
    rw [hg0.out] at this
    exact this)
  replace S := Lib.hid (S.out.obj O)
  clear BL mk
  go_loopw [11] (fun i wr => ∃ k : Nat, k ≤ 2 ^ t.acc.length ∧ i = .int .i64 (k : Int) ∧ Hid (Blk wr (w.heap.size + 1 + 1 + 1) 50 (t.acc.length + 1) (uv (fcs t times v0 k))) ∧ Hid (Fm w wr [⟨w.heap.size + 1 + 1, 26, [.slice none 0 0, .slice none 0 0]⟩, ⟨w.heap.size + 1, 26, [.slice qna Av.length qnc, .slice qda Dv.length qdc]⟩, ⟨w.heap.size, 32, [.slice ta t.acc.length tc, .slice tb t.rej.length td]⟩] [tstRd w.heap.size t ⟨ta, tc, tb, td⟩, rowRd Av ⟨qna, qnc⟩, rowRd Dv ⟨qda, qdc⟩])) (fun i _ => 2 ^ t.acc.length - (intOf i).toNat)
  case atStart => exact ⟨0, Nat.zero_le _, rfl, hB0, S⟩
  case round =>
    clear hB0 S
    obtain ⟨k, hk, rfl, hB, S⟩ := hrel
    by_cases hlt : k < 2 ^ t.acc.length
    · have hd : decide ((k : Int) < wrap64 (2 ^ t.acc.length)) = true := by rw [w64 h8]; exact decide_eq_true (Int.ofNat_lt.2 hlt)
      have hsucc := Lib.hid (fun f => fcs_succ t times v0 k f (hdec.out k hlt).1)
      obtain ⟨hd1, hd2, hd3⟩ := hdec.out k hlt
      have hP : 2 ^ t.acc.length ≤ 256 := Nat.pow_le_pow_right (by decide) h8
      have hbd := Lib.hid (fun f => fcs_le t times v0 k f h8 (Nat.le_of_lt hlt))
      have hln := hdl.out k
      replace HO := Lib.hid (HO.out k)
      replace HD := Lib.hid (HD.out k)
      replace HF := Lib.hid (HF.out k)
      obtain ⟨l, hl⟩ : ∃ l, bdg k t.acc.length = l := ⟨_, rfl⟩
      rw [hl] at HO HD HF hsucc hd1 hd2 hd3 hln
      obtain ⟨V, hV⟩ : ∃ V, (decL (VT t) l).1 = V := ⟨_, rfl⟩
      obtain ⟨n2, hn2⟩ : ∃ V, (decL (VT t) l).2 = V := ⟨_, rfl⟩
      obtain ⟨f, hf⟩ : ∃ V, fails l = V := ⟨_, rfl⟩
      rw [hV, hn2] at HD hsucc
      rw [hV] at hd1
      rw [hn2] at hd2
      rw [hf] at HF hsucc hd3
      obtain ⟨x, hx⟩ : ∃ x, fcs t times v0 k f = x := ⟨_, rfl⟩
      have hxb := hbd.out f
      rw [hx] at hxb
      replace hln := Lib.hid hln
      clear hl hV hn2 hf hbd
      obtain ⟨⟨z2, f2, y2, y2a, -⟩, ⟨z1, f1, y1, y1a, -⟩, ⟨z0, f0, y0, y0a, -⟩, -⟩ := S.out.facts
      go_wp2_with fail
      refine (HO.out wr).mono ?_
      rintro e w4 ⟨_, rfl, A, c, rfl, -, hA, hb⟩
      replace S := Lib.hid (S.out.call hb)
      replace hB := Lib.hid (hB.out.to hb)
      clear hb z2 f2 y2 y2a z1 f1 y1 y1a z0 f0 y0 y0a
      obtain ⟨⟨z2, f2, y2, y2a, -⟩, ⟨z1, f1, y1, y1a, -⟩, ⟨z0, f0, y0, y0a, -⟩, -⟩ := S.out.facts
      go_wp2_with fail
      refine (HD.out A c _ (rtst_more S.out.r0 S.out.size) hA).mono ?_
      rintro e w5 ⟨rfl, hb⟩
      replace S := Lib.hid (S.out.call hb)
      replace hB := Lib.hid (hB.out.to hb)
      replace hA := (hA.below hb).more hb.size
      clear hb z2 f2 y2 y2a z1 f1 y1 y1a z0 f0 y0 y0a
      obtain ⟨⟨z2, f2, y2, y2a, -⟩, ⟨z1, f1, y1, y1a, -⟩, ⟨z0, f0, y0, y0a, -⟩, -⟩ := S.out.facts
      have hf1 : (f : Int) < (t.acc.length : Int) + 1 := by omega
      cases times with
      | true =>
          have r1 : IntKind.u64.wrap (n2 : Int) = (n2 : Int) := by simp [IntKind.wrap, IntKind.bits, IntKind.signed]; omega
          have r2 : IntKind.u64.wrap ((x : Int) + (n2 : Int)) = (x : Int) + (n2 : Int) := by simp [IntKind.wrap, IntKind.bits, IntKind.signed]; omega
          have hF2 := Lib.hid (HF.out A c _ hA)
          go_wp2_with fail
          refine hF2.out.mono ?_
          rintro e w6 ⟨rfl, hb⟩
          replace S := Lib.hid (S.out.call hb)
          replace hB := Lib.hid (hB.out.to hb)
          clear hb hA hF2 z2 f2 y2 y2a z1 f1 y1 y1a z0 f0 y0 y0a
          obtain ⟨⟨z2, f2, y2, y2a, -⟩, ⟨z1, f1, y1, y1a, -⟩, ⟨z0, f0, y0, y0a, -⟩, -⟩ := S.out.facts
          have yB := hB.out.cell (show f < t.acc.length + 1 by omega)
          have fB := hB.out.frozen
          have zB := hB.out.lt
          unfold uv at yB
          rw [hx] at yB
          have S6 := Lib.hid (fm_grown (W' := w6.setCell ⟨w.heap.size + 1 + 1 + 1, f, none⟩ (.int .u64 ((x : Int) + (n2 : Int)))) (row := some (w.heap.size + 1 + 1 + 1)) S.out (gr_cell _ _ _) (S.out.bel.setCell (show w.heap.size ≤ w.heap.size + 1 + 1 + 1 by omega) _) (fun y hy e => by
            injection e with e
            simp only [List.mem_cons, List.not_mem_nil, or_false] at hy
            rcases hy with rfl | rfl | rfl <;> simp only at e <;> omega) (fun r hr g hg e => by
            injection e with e
            have := hold.out r hr g hg
            omega))
          have hB6 : Hid (Blk (w6.setCell ⟨w.heap.size + 1 + 1 + 1, f, none⟩ (.int .u64 ((x : Int) + (n2 : Int)))) (w.heap.size + 1 + 1 + 1) 50 (t.acc.length + 1) (uv (fcs t true v0 (k + 1)))) := Lib.hid ((hB.out.set f (.int .u64 ((x : Int) + (n2 : Int)))).congr (fun j hj => by
            have e := hsucc.out j
            rw [show kk true v0 V n2 = n2 from rfl] at e
            by_cases c1 : j = f
            · subst c1
              rw [if_pos rfl] at e ⊢
              unfold uv
              rw [e, hx]
              rfl
            · rw [if_neg c1]
              rw [if_neg (fun c2 => c1 c2.symm)] at e
              unfold uv
              rw [e, Nat.add_zero]))
          clear S hB hsucc hx
          go_wp2
          go_roundw
          case rel => exact ⟨k + 1, hlt, by go_num, hB6, S6⟩
          case measure => simp [intOf]; omega
      | false =>
        by_cases c1 : V = v0
        · have hx1 : (V == v0) = true := by rw [beq_iff_eq]; exact c1
          have r2 : IntKind.u64.wrap ((x : Int) + 1) = (x : Int) + 1 := by simp [IntKind.wrap, IntKind.bits, IntKind.signed]; omega
          replace c1 := Lib.hid c1
          have hF2 := Lib.hid (HF.out A c _ hA)
          go_wp2_with fail
          refine hF2.out.mono ?_
          rintro e w6 ⟨rfl, hb⟩
          replace S := Lib.hid (S.out.call hb)
          replace hB := Lib.hid (hB.out.to hb)
          clear hb hA hF2 z2 f2 y2 y2a z1 f1 y1 y1a z0 f0 y0 y0a
          obtain ⟨⟨z2, f2, y2, y2a, -⟩, ⟨z1, f1, y1, y1a, -⟩, ⟨z0, f0, y0, y0a, -⟩, -⟩ := S.out.facts
          have yB := hB.out.cell (show f < t.acc.length + 1 by omega)
          have fB := hB.out.frozen
          have zB := hB.out.lt
          unfold uv at yB
          rw [hx] at yB
          have S6 := Lib.hid (fm_grown (W' := w6.setCell ⟨w.heap.size + 1 + 1 + 1, f, none⟩ (.int .u64 ((x : Int) + 1))) (row := some (w.heap.size + 1 + 1 + 1)) S.out (gr_cell _ _ _) (S.out.bel.setCell (show w.heap.size ≤ w.heap.size + 1 + 1 + 1 by omega) _) (fun y hy e => by
            injection e with e
            simp only [List.mem_cons, List.not_mem_nil, or_false] at hy
            rcases hy with rfl | rfl | rfl <;> simp only at e <;> omega) (fun r hr g hg e => by
            injection e with e
            have := hold.out r hr g hg
            omega))
          have hB6 : Hid (Blk (w6.setCell ⟨w.heap.size + 1 + 1 + 1, f, none⟩ (.int .u64 ((x : Int) + 1))) (w.heap.size + 1 + 1 + 1) 50 (t.acc.length + 1) (uv (fcs t false v0 (k + 1)))) := Lib.hid ((hB.out.set f (.int .u64 ((x : Int) + 1))).congr (fun j hj => by
            have e := hsucc.out j
            rw [show kk false v0 V n2 = 1 from by unfold kk; rw [if_neg (by decide), if_pos c1.out]] at e
            by_cases c1 : j = f
            · subst c1
              rw [if_pos rfl] at e ⊢
              unfold uv
              rw [e, hx]
              rfl
            · rw [if_neg c1]
              rw [if_neg (fun c2 => c1 c2.symm)] at e
              unfold uv
              rw [e, Nat.add_zero]))
          clear S hB hsucc hx
          go_wp2
          go_roundw
          case rel => exact ⟨k + 1, hlt, by go_num, hB6, S6⟩
          case measure => simp [intOf]; omega
        · have hx1 : (V == v0) = false := by rw [beq_eq_false_iff_ne]; exact c1
          have hB6 : Hid (Blk w5 (w.heap.size + 1 + 1 + 1) 50 (t.acc.length + 1) (uv (fcs t false v0 (k + 1)))) := Lib.hid (hB.out.congr (fun j hj => by
            have e := hsucc.out j
            rw [show kk false v0 V n2 = 0 from by unfold kk; rw [if_neg (by decide), if_neg c1], ite_self] at e
            unfold uv
            rw [e]
            rfl))
          clear hB hsucc hx hA c1 z2 f2 y2 y2a z1 f1 y1 y1a z0 f0 y0 y0a
          go_wp2
          go_roundw
          case rel => exact ⟨k + 1, hlt, by go_num, hB6, S⟩
          case measure => simp [intOf]; omega
    · have hd : decide ((k : Int) < wrap64 (2 ^ t.acc.length)) = false := by rw [w64 h8, decide_eq_false_iff_not]; intro e; exact hlt (Int.ofNat_lt.1 e)
      have hkk : k = 2 ^ t.acc.length := Nat.le_antisymm hk (Nat.le_of_not_lt hlt)
      rw [hkk] at hB
      clear hkk
      have hbd := Lib.hid (fun f => fcs_le t times v0 (2 ^ t.acc.length) f h8 (Nat.le_refl _))
      replace S := Lib.hid (S.out.also (arrRd (w.heap.size + 1 + 1 + 1) (t.acc.length + 1) (uv (fcs t times v0 (2 ^ t.acc.length)))) (blk_arr hB.out) (fun g e => by
        have e : g = w.heap.size + 1 + 1 + 1 := e
        subst e
        refine ⟨hB.out.lt, fun y hy e => ?_⟩
        simp only [List.mem_cons, List.not_mem_nil, or_false] at hy
        rcases hy with rfl | rfl | rfl <;> simp only at e <;> omega))
      have hfin := Lib.hid (sum_all t times v0 a (d - a))
      have hpd := hp.d2
      have had := hp.le
      have d0 : 0 < d := hp.d1
      obtain ⟨F, hF⟩ : ∃ F, fcs t times v0 (2 ^ t.acc.length) = F := ⟨_, rfl⟩
      rw [hF] at hbd S hfin
      clear hF hB HO HD HF hdl hdec hk hlt
      have HO1 := Lib.hid (fun w' => by
        have := rof_any 1 w' (by omega) (by omega)
        rw [show (1 : Int).toNat = 1 from rfl] at this
        exact this)
      have HOF := Lib.hid (fun (m : Nat) w' => by
        have := rof_any (F m : Int) w' (by omega) (by have := hbd.out m; omega)
        rw [Int.toNat_natCast] at this
        exact this)
      have pK : 0 < d ^ t.acc.length := Nat.pow_pos d0
      have bK : d ^ t.acc.length ≤ 1000 ^ 8 := Nat.le_trans (Nat.pow_le_pow_left hpd _) (Nat.pow_le_pow_right (by decide) h8)
      have bT : ∀ m, m ≤ t.acc.length → a ^ m * (d - a) ^ (t.acc.length - m) ≤ 1000 ^ 8 := fun m hm => by
        have := (pow_le (a := a) (b := d - a) (N := t.acc.length) hm (Nat.le_refl _)).1
        rw [show a + (d - a) = d by omega] at this
        exact Nat.le_trans this bK
      have bS : ∀ m, m ≤ t.acc.length + 1 → SN F a (d - a) t.acc.length m ≤ m * (256 * 8 * 1000 ^ 8) := fun m => by
        induction m with
        | zero => intro _; rw [SN_zero]; exact Nat.zero_le _
        | succ m ih =>
          intro hm
          rw [SN_succ, Nat.add_mul, Nat.one_mul]
          exact Nat.add_le_add (ih (by omega)) (Nat.mul_le_mul (hbd.out m) (bT m (by omega)))
      have smz : ∀ x : Nat, x ≤ 2 ^ 1000 → sm x := fun x hx => sm_big (Nat.lt_of_le_of_lt hx (by decide +kernel))
      have HL := Lib.hid (fun (m : Nat) (hm : m ≤ t.acc.length) w' (h1 : RLm w' w'.heap.size (lim a) ⟨qna, qnc⟩) (h2 : RLm w' w'.heap.size (lim d) ⟨qda, qdc⟩) => by
        have := list_any a d m (t.acc.length - m) ⟨qna, qnc⟩ ⟨qda, qdc⟩ w' h1 h2 hp (by omega) (by omega)
        rw [← Nat.pow_add, show m + (t.acc.length - m) = t.acc.length by omega, show ((t.acc.length - m : Nat) : Int) = (t.acc.length : Int) - (m : Int) by omega] at this
        exact this)
      have HM := Lib.hid (fun (m : Nat) (hm : m ≤ t.acc.length) q r q' r' w' (h1 : RLm w' w'.heap.size (lim (F m)) q) (h2 : RLm w' w'.heap.size (lim 1) r) (h3 : RLm w' w'.heap.size (rdN (a ^ m * (d - a) ^ (t.acc.length - m)) (d ^ t.acc.length)) q') (h4 : RLm w' w'.heap.size (rdD (a ^ m * (d - a) ^ (t.acc.length - m)) (d ^ t.acc.length)) r') => by
        have := rmulF w' (n := F m) (d := 1) (m := a ^ m * (d - a) ^ (t.acc.length - m)) (e := d ^ t.acc.length) q r q' r' (by rw [(rd_one (F m)).1]; exact h1) (by rw [(rd_one (F m)).2]; exact h2) h3 h4 (by decide) pK (smz _ (Nat.le_trans (hbd.out m) (by decide +kernel))) (smz _ (Nat.le_trans (bT m hm) (by decide +kernel))) (sm_s (by decide)) (smz _ (Nat.le_trans bK (by decide +kernel))) (smz _ (Nat.le_trans (Nat.mul_le_mul (hbd.out m) (bT m hm)) (by decide +kernel))) (smz _ (by rw [Nat.one_mul]; exact Nat.le_trans bK (by decide +kernel)))
        rw [(rd_one (F m)).1, (rd_one (F m)).2, Nat.one_mul] at this
        exact this)
      have HA := Lib.hid (fun (m : Nat) (hm : m ≤ t.acc.length) q r q' r' w' (h1 : RLm w' w'.heap.size (rdN (SN F a (d - a) t.acc.length m) (d ^ t.acc.length)) q) (h2 : RLm w' w'.heap.size (rdD (SN F a (d - a) t.acc.length m) (d ^ t.acc.length)) r) (h3 : RLm w' w'.heap.size (rdN (F m * (a ^ m * (d - a) ^ (t.acc.length - m))) (d ^ t.acc.length)) q') (h4 : RLm w' w'.heap.size (rdD (F m * (a ^ m * (d - a) ^ (t.acc.length - m))) (d ^ t.acc.length)) r') => by
        have b1 := bS m (by omega)
        have b1' : SN F a (d - a) t.acc.length m ≤ 9 * (256 * 8 * 1000 ^ 8) := Nat.le_trans b1 (Nat.mul_le_mul_right _ (by omega))
        have b2 := Nat.mul_le_mul (hbd.out m) (bT m hm)
        have := raddF w' (S := SN F a (d - a) t.acc.length m) (T := F m * (a ^ m * (d - a) ^ (t.acc.length - m))) (K := d ^ t.acc.length) q r q' r' h1 h2 h3 h4 pK (smz _ (Nat.le_trans b1' (by decide +kernel))) (smz _ (Nat.le_trans b2 (by decide +kernel))) (smz _ (Nat.le_trans bK (by decide +kernel))) (smz _ (Nat.le_trans (Nat.add_le_add (Nat.mul_le_mul b1' bK) (Nat.mul_le_mul b2 bK)) (by decide +kernel))) (smz _ (Nat.le_trans (Nat.mul_le_mul bK bK) (by decide +kernel)))
        rw [← SN_succ] at this
        exact this)
      obtain ⟨z1, z2⟩ := rd_zero (d ^ t.acc.length) pK
      rw [hA.out, hD.out] at HL
      have hS0 : Hid (lim 0 = rdN (SN F a (d - a) t.acc.length 0) (d ^ t.acc.length) ∧ lim 1 = rdD (SN F a (d - a) t.acc.length 0) (d ^ t.acc.length)) := Lib.hid (by rw [SN_zero]; exact ⟨z1.symm, z2.symm⟩)
      clear pK bK bT bS smz z1 z2 hpd had d0 hbd hp hA hD
      obtain ⟨K, hK⟩ : ∃ K, d ^ t.acc.length = K := ⟨_, rfl⟩
      rw [hK] at HL HM HA hS0
      replace hK := Lib.hid hK
      obtain ⟨O1, hO1⟩ : ∃ v, lim 1 = v := ⟨_, rfl⟩
      rw [hO1] at HO1 HM hS0
      replace hO1 := Lib.hid hO1
      go_wp2_with fail
      refine (HO1.out _).mono ?_
      rintro e w8 ⟨_, rfl, q8, rfl, hr, hf, hb⟩
      have fr2 := Lib.hid (hf.le S.out.size)
      replace S := Lib.hid (natRes S.out hr hf hb)
      clear hr hf hb
      replace S := Lib.hid (S.out.box 26 [.slice none 0 0, .slice q8.a O1.length q8.c])
      have S0 : Hid (Fm w _ [⟨w8.heap.size, 26, [.slice (⟨none, 0⟩ : LmP).a (rdN (SN F a (d - a) t.acc.length 0) K).length (⟨none, 0⟩ : LmP).c, .slice q8.a (rdD (SN F a (d - a) t.acc.length 0) K).length q8.c]⟩, ⟨w.heap.size + 1 + 1, 26, [.slice none 0 0, .slice none 0 0]⟩, ⟨w.heap.size + 1, 26, [.slice qna Av.length qnc, .slice qda Dv.length qdc]⟩, ⟨w.heap.size, 32, [.slice ta t.acc.length tc, .slice tb t.rej.length td]⟩] [rowRd (rdD (SN F a (d - a) t.acc.length 0) K) q8, rowRd (rdN (SN F a (d - a) t.acc.length 0) K) ⟨none, 0⟩, arrRd (w.heap.size + 1 + 1 + 1) (t.acc.length + 1) (uv F), tstRd w.heap.size t ⟨ta, tc, tb, td⟩, rowRd Av ⟨qna, qnc⟩, rowRd Dv ⟨qda, qdc⟩]) := Lib.hid (by
        rw [← hS0.out.1, ← hS0.out.2, lim_zero]
        exact fm_sel (S.out.also (rowRd [] ⟨none, 0⟩) (RLm.none_ _ _) (fun g ⟨h, _⟩ => absurd h (by simp))) _ _ (List.Sublist.refl _) (by simp))
      obtain ⟨⟨z3, f3, y3, y3a, -⟩, ⟨z2, f2, y2, y2a, -⟩, ⟨z1, f1, y1, y1a, -⟩, ⟨z0, f0, y0, y0a, -⟩, -⟩ := S.out.facts
      clear S
      go_wp2_with fail
      clear z3 f3 y3 y3a z2 f2 y2 y2a z1 f1 y1 y1a z0 f0 y0 y0a
      go_loopw [17] (fun i wr => ∃ (m : Nat) (qs rs : LmP), m ≤ t.acc.length + 1 ∧ i = .int .i64 (m : Int) ∧ Hid (Fm w wr [⟨w8.heap.size, 26, [.slice qs.a (rdN (SN F a (d - a) t.acc.length m) K).length qs.c, .slice rs.a (rdD (SN F a (d - a) t.acc.length m) K).length rs.c]⟩, ⟨w.heap.size + 1 + 1, 26, [.slice none 0 0, .slice none 0 0]⟩, ⟨w.heap.size + 1, 26, [.slice qna Av.length qnc, .slice qda Dv.length qdc]⟩, ⟨w.heap.size, 32, [.slice ta t.acc.length tc, .slice tb t.rej.length td]⟩] [rowRd (rdD (SN F a (d - a) t.acc.length m) K) rs, rowRd (rdN (SN F a (d - a) t.acc.length m) K) qs, arrRd (w.heap.size + 1 + 1 + 1) (t.acc.length + 1) (uv F), tstRd w.heap.size t ⟨ta, tc, tb, td⟩, rowRd Av ⟨qna, qnc⟩, rowRd Dv ⟨qda, qdc⟩]) ∧ Hid (Fr w.heap.size qs) ∧ Hid (Fr w.heap.size rs)) (fun i _ => t.acc.length + 1 - (intOf i).toNat)
      case atStart => exact ⟨0, ⟨none, 0⟩, q8, Nat.zero_le _, rfl, S0, Lib.hid (Fr.none_ _), fr2⟩
      case round =>
        clear S0 fr2
        obtain ⟨m, qs, rs, hm, rfl, S, fr1, fr2⟩ := hrel
        by_cases hlt : m ≤ t.acc.length
        · have hd : decide ((m : Int) ≤ (t.acc.length : Int)) = true := decide_eq_true (by omega)
          have LL := Lib.hid (HL.out m hlt)
          have LM := Lib.hid (HM.out m hlt)
          have LA := Lib.hid (HA.out m hlt)
          have LO := Lib.hid (HOF.out m)
          obtain ⟨fv, hfv⟩ : ∃ x, F m = x := ⟨_, rfl⟩
          have eU : uv F m = .int .u64 (fv : Int) := by unfold uv; rw [hfv]
          rw [hfv] at LM LO LA
          obtain ⟨Fv, hFv⟩ : ∃ v, lim fv = v := ⟨_, rfl⟩
          obtain ⟨Ln, hLn⟩ : ∃ v, rdN (a ^ m * (d - a) ^ (t.acc.length - m)) K = v := ⟨_, rfl⟩
          obtain ⟨Ld, hLd⟩ : ∃ v, rdD (a ^ m * (d - a) ^ (t.acc.length - m)) K = v := ⟨_, rfl⟩
          obtain ⟨Xn, hXn⟩ : ∃ v, rdN (fv * (a ^ m * (d - a) ^ (t.acc.length - m))) K = v := ⟨_, rfl⟩
          obtain ⟨Xd, hXd⟩ : ∃ v, rdD (fv * (a ^ m * (d - a) ^ (t.acc.length - m))) K = v := ⟨_, rfl⟩
          obtain ⟨Sn, hSn⟩ : ∃ v, rdN (SN F a (d - a) t.acc.length m) K = v := ⟨_, rfl⟩
          obtain ⟨Sd, hSd⟩ : ∃ v, rdD (SN F a (d - a) t.acc.length m) K = v := ⟨_, rfl⟩
          obtain ⟨Tn, hTn⟩ : ∃ v, rdN (SN F a (d - a) t.acc.length (m + 1)) K = v := ⟨_, rfl⟩
          obtain ⟨Td, hTd⟩ : ∃ v, rdD (SN F a (d - a) t.acc.length (m + 1)) K = v := ⟨_, rfl⟩
          rw [hLn, hLd] at LL LM
          rw [hFv] at LO LM
          rw [hXn, hXd] at LM LA
          rw [hSn, hSd] at LA S
          rw [hTn, hTd] at LA
          replace hTn := Lib.hid hTn
          replace hTd := Lib.hid hTd
          have r1 : IntKind.i64.wrap ((t.acc.length : Int) - (m : Int)) = (t.acc.length : Int) - (m : Int) := IntWalk.i64_in _ (by omega)
          have hm1 : (m : Int) < (t.acc.length : Int) + 1 := by omega
          have hmN : m < t.acc.length + 1 := by omega
          clear hfv hFv hLn hLd hXn hXd hSn hSd
          obtain ⟨⟨z3, f3, y3, y3a, -⟩, ⟨z2, f2, y2, y2a, -⟩, ⟨z1, f1, y1, y1a, -⟩, ⟨z0, f0, y0, y0a, -⟩, -⟩ := S.out.facts
          go_upto_region 16 with fail
          clear z3 f3 y3 y3a z2 f2 y2 y2a z1 f1 y1 y1a z0 f0 y0 y0a
          go_cut [18] (fun s18 wx => ∃ (B : Nat) (qb rb : LmP), s18 = .pointer (some ⟨B, 0, none⟩) ∧ Hid (Fm w wx [⟨B, 26, [.slice qb.a Xn.length qb.c, .slice rb.a Xd.length rb.c]⟩, ⟨w8.heap.size, 26, [.slice qs.a (Sn).length qs.c, .slice rs.a (Sd).length rs.c]⟩, ⟨w.heap.size + 1 + 1, 26, [.slice none 0 0, .slice none 0 0]⟩, ⟨w.heap.size + 1, 26, [.slice qna Av.length qnc, .slice qda Dv.length qdc]⟩, ⟨w.heap.size, 32, [.slice ta t.acc.length tc, .slice tb t.rej.length td]⟩] [rowRd Xd rb, rowRd Xn qb, rowRd Sd rs, rowRd Sn qs, arrRd (w.heap.size + 1 + 1 + 1) (t.acc.length + 1) (uv F), tstRd w.heap.size t ⟨ta, tc, tb, td⟩, rowRd Av ⟨qna, qnc⟩, rowRd Dv ⟨qda, qdc⟩]))
          case first =>
            generalize wr = W3 at S ⊢
            obtain ⟨⟨z3, f3, y3, y3a, -⟩, ⟨z2, f2, y2, y2a, -⟩, ⟨z1, f1, y1, y1a, -⟩, ⟨z0, f0, y0, y0a, -⟩, -⟩ := S.out.facts
            have nbl1 := Nat.ne_of_lt z1
            have nbg1 := Nat.ne_of_gt z1
            have zz1 := z1
            have zyk := arr_lt (g := w.heap.size + 1 + 1 + 1) (n := t.acc.length + 1) (f := uv F) S.out (by simp)
            have nblyk := Nat.ne_of_lt zyk
            have nbgyk := Nat.ne_of_gt zyk
            have zzyk := zyk
            clear z3 f3 y3 y3a z2 f2 y2 y2a z1 f1 y1 y1a z0 f0 y0 y0a zyk
            have S3 := S
            have hkA : (W3.alloc (.cells #[.slice none 0 0, .slice none 0 0] 26)).drew.cell? ⟨w.heap.size + 1, 0, none⟩ = some (.slice qna Av.length qnc) ∧ (W3.alloc (.cells #[.slice none 0 0, .slice none 0 0] 26)).drew.cell? ⟨w.heap.size + 1, 1, none⟩ = some (.slice qda Dv.length qdc) ∧ (W3.alloc (.cells #[.slice none 0 0, .slice none 0 0] 26)).drew.cell? ⟨w.heap.size + 1 + 1 + 1, m, none⟩ = some (.int .u64 (fv : Int)) := by
              obtain ⟨⟨z4, f4, y4, y4a, -⟩, ⟨z3, f3, y3, y3a, -⟩, ⟨z2, f2, y2, y2a, -⟩, ⟨z1, f1, y1, y1a, -⟩, ⟨z0, f0, y0, y0a, -⟩, -⟩ := (S3.out.box 26 [.slice none 0 0, .slice none 0 0]).drew.facts
              exact ⟨y1, y1a, (arr_at (g := w.heap.size + 1 + 1 + 1) (S3.out.box 26 [.slice none 0 0, .slice none 0 0]).drew (by simp) hmN eU)⟩
            replace S := Lib.hid S.out.drew
            obtain ⟨⟨z3, f3, y3, y3a, -⟩, ⟨z2, f2, y2, y2a, -⟩, ⟨z1, f1, y1, y1a, -⟩, ⟨z0, f0, y0, y0a, -⟩, -⟩ := S.out.facts
            have yk := arr_at (g := w.heap.size + 1 + 1 + 1) S.out (by simp) hmN eU
            have zyk := arr_lt (g := w.heap.size + 1 + 1 + 1) (n := t.acc.length + 1) (f := uv F) S.out (by simp)
            go_region_held3 (fun w' => w'.cell? ⟨w.heap.size + 1, 0, none⟩ = some (.slice qna Av.length qnc) ∧ w'.cell? ⟨w.heap.size + 1, 1, none⟩ = some (.slice qda Dv.length qdc) ∧ w'.cell? ⟨w.heap.size + 1 + 1 + 1, m, none⟩ = some (.int .u64 (fv : Int))) (first | with_reducible assumption | go_keep)
              (first
                | ((with_reducible refine (LO.out _).mono ?_); rintro e wx ⟨_, rfl, qx, rfl, hr, hf, hb⟩; replace S := Lib.hid (natRes ((S3.out.box 26 [.slice none 0 0, .slice none 0 0]).drew) hr hf hb); clear hr hf hb; clear z3 f3 y3 y3a z2 f2 y2 y2a z1 f1 y1 y1a z0 f0 y0 y0a yk zyk; obtain ⟨⟨z4, f4, y4, y4a, -⟩, ⟨z3, f3, y3, y3a, -⟩, ⟨z2, f2, y2, y2a, -⟩, ⟨z1, f1, y1, y1a, -⟩, ⟨z0, f0, y0, y0a, -⟩, -⟩ := S.out.facts; have yk := arr_at (g := w.heap.size + 1 + 1 + 1) S.out (by simp) hmN eU; have zyk := arr_lt (g := w.heap.size + 1 + 1 + 1) (n := t.acc.length + 1) (f := uv F) S.out (by simp))
                | ((with_reducible refine (LO.out _).mono ?_); rintro e wx ⟨_, rfl, qx, rfl, hr, hf, hb⟩; replace S := Lib.hid (natRes S.out hr hf hb); clear hr hf hb; clear z4 f4 y4 y4a z3 f3 y3 y3a z2 f2 y2 y2a z1 f1 y1 y1a z0 f0 y0 y0a yk zyk; obtain ⟨⟨z4, f4, y4, y4a, -⟩, ⟨z3, f3, y3, y3a, -⟩, ⟨z2, f2, y2, y2a, -⟩, ⟨z1, f1, y1, y1a, -⟩, ⟨z0, f0, y0, y0a, -⟩, -⟩ := S.out.facts; have yk := arr_at (g := w.heap.size + 1 + 1 + 1) S.out (by simp) hmN eU; have zyk := arr_lt (g := w.heap.size + 1 + 1 + 1) (n := t.acc.length + 1) (f := uv F) S.out (by simp))
                | ((with_reducible refine (HO1.out _).mono ?_); rintro e wx ⟨_, rfl, qx, rfl, hr, hf, hb⟩; replace S := Lib.hid (natRes S.out hr hf hb); clear hr hf hb; clear z4 f4 y4 y4a z3 f3 y3 y3a z2 f2 y2 y2a z1 f1 y1 y1a z0 f0 y0 y0a yk zyk; obtain ⟨⟨z4, f4, y4, y4a, -⟩, ⟨z3, f3, y3, y3a, -⟩, ⟨z2, f2, y2, y2a, -⟩, ⟨z1, f1, y1, y1a, -⟩, ⟨z0, f0, y0, y0a, -⟩, -⟩ := S.out.facts; have yk := arr_at (g := w.heap.size + 1 + 1 + 1) S.out (by simp) hmN eU; have zyk := arr_lt (g := w.heap.size + 1 + 1 + 1) (n := t.acc.length + 1) (f := uv F) S.out (by simp))
                | ((with_reducible refine (LL.out _ (natOld S.out (by simp)) (natOld S.out (by simp))).mono ?_); rintro e wx ⟨_, rfl, qx, qy, rfl, hr, hr2, hf, hf2, hb⟩; replace S := Lib.hid (natRes2 S.out hr hr2 hf hf2 hb); clear hr hr2 hf hf2 hb; clear z4 f4 y4 y4a z3 f3 y3 y3a z2 f2 y2 y2a z1 f1 y1 y1a z0 f0 y0 y0a yk zyk; obtain ⟨⟨z4, f4, y4, y4a, -⟩, ⟨z3, f3, y3, y3a, -⟩, ⟨z2, f2, y2, y2a, -⟩, ⟨z1, f1, y1, y1a, -⟩, ⟨z0, f0, y0, y0a, -⟩, -⟩ := S.out.facts; have yk := arr_at (g := w.heap.size + 1 + 1 + 1) S.out (by simp) hmN eU; have zyk := arr_lt (g := w.heap.size + 1 + 1 + 1) (n := t.acc.length + 1) (f := uv F) S.out (by simp))
                | ((with_reducible refine (LM.out _ _ _ _ _ (natOld S.out (by simp)) (natOld S.out (by simp)) (natOld S.out (by simp)) (natOld S.out (by simp))).mono ?_); rintro e wx ⟨_, rfl, qx, qy, rfl, hr, hr2, hf, hf2, hb⟩; replace S := Lib.hid (natRes2 S.out hr hr2 hf hf2 hb); clear hr hr2 hf hf2 hb; clear z4 f4 y4 y4a z3 f3 y3 y3a z2 f2 y2 y2a z1 f1 y1 y1a z0 f0 y0 y0a yk zyk; obtain ⟨⟨z4, f4, y4, y4a, -⟩, ⟨z3, f3, y3, y3a, -⟩, ⟨z2, f2, y2, y2a, -⟩, ⟨z1, f1, y1, y1a, -⟩, ⟨z0, f0, y0, y0a, -⟩, -⟩ := S.out.facts; have yk := arr_at (g := w.heap.size + 1 + 1 + 1) S.out (by simp) hmN eU; have zyk := arr_lt (g := w.heap.size + 1 + 1 + 1) (n := t.acc.length + 1) (f := uv F) S.out (by simp))
                | ((with_reducible refine (LO.out _).mono ?_); rintro e wx ⟨_, rfl, qx, rfl, hr, hf, hb⟩; replace S := Lib.hid (natRes S.out hr hf hb); clear hr hf hb; clear z3 f3 y3 y3a z2 f2 y2 y2a z1 f1 y1 y1a z0 f0 y0 y0a yk zyk; obtain ⟨⟨z3, f3, y3, y3a, -⟩, ⟨z2, f2, y2, y2a, -⟩, ⟨z1, f1, y1, y1a, -⟩, ⟨z0, f0, y0, y0a, -⟩, -⟩ := S.out.facts; have yk := arr_at (g := w.heap.size + 1 + 1 + 1) S.out (by simp) hmN eU; have zyk := arr_lt (g := w.heap.size + 1 + 1 + 1) (n := t.acc.length + 1) (f := uv F) S.out (by simp))
                | ((with_reducible refine (HO1.out _).mono ?_); rintro e wx ⟨_, rfl, qx, rfl, hr, hf, hb⟩; replace S := Lib.hid (natRes S.out hr hf hb); clear hr hf hb; clear z3 f3 y3 y3a z2 f2 y2 y2a z1 f1 y1 y1a z0 f0 y0 y0a yk zyk; obtain ⟨⟨z3, f3, y3, y3a, -⟩, ⟨z2, f2, y2, y2a, -⟩, ⟨z1, f1, y1, y1a, -⟩, ⟨z0, f0, y0, y0a, -⟩, -⟩ := S.out.facts; have yk := arr_at (g := w.heap.size + 1 + 1 + 1) S.out (by simp) hmN eU; have zyk := arr_lt (g := w.heap.size + 1 + 1 + 1) (n := t.acc.length + 1) (f := uv F) S.out (by simp))
                | ((with_reducible refine (LL.out _ (natOld S.out (by simp)) (natOld S.out (by simp))).mono ?_); rintro e wx ⟨_, rfl, qx, qy, rfl, hr, hr2, hf, hf2, hb⟩; replace S := Lib.hid (natRes2 S.out hr hr2 hf hf2 hb); clear hr hr2 hf hf2 hb; clear z3 f3 y3 y3a z2 f2 y2 y2a z1 f1 y1 y1a z0 f0 y0 y0a yk zyk; obtain ⟨⟨z3, f3, y3, y3a, -⟩, ⟨z2, f2, y2, y2a, -⟩, ⟨z1, f1, y1, y1a, -⟩, ⟨z0, f0, y0, y0a, -⟩, -⟩ := S.out.facts; have yk := arr_at (g := w.heap.size + 1 + 1 + 1) S.out (by simp) hmN eU; have zyk := arr_lt (g := w.heap.size + 1 + 1 + 1) (n := t.acc.length + 1) (f := uv F) S.out (by simp))
                | ((with_reducible refine (LM.out _ _ _ _ _ (natOld S.out (by simp)) (natOld S.out (by simp)) (natOld S.out (by simp)) (natOld S.out (by simp))).mono ?_); rintro e wx ⟨_, rfl, qx, qy, rfl, hr, hr2, hf, hf2, hb⟩; replace S := Lib.hid (natRes2 S.out hr hr2 hf hf2 hb); clear hr hr2 hf hf2 hb; clear z3 f3 y3 y3a z2 f2 y2 y2a z1 f1 y1 y1a z0 f0 y0 y0a yk zyk; obtain ⟨⟨z3, f3, y3, y3a, -⟩, ⟨z2, f2, y2, y2a, -⟩, ⟨z1, f1, y1, y1a, -⟩, ⟨z0, f0, y0, y0a, -⟩, -⟩ := S.out.facts; have yk := arr_at (g := w.heap.size + 1 + 1 + 1) S.out (by simp) hmN eU; have zyk := arr_lt (g := w.heap.size + 1 + 1 + 1) (n := t.acc.length + 1) (f := uv F) S.out (by simp))
                | ((with_reducible refine (LO.out _).mono ?_); rintro e wx ⟨_, rfl, qx, rfl, hr, hf, hb⟩; replace S := Lib.hid (natRes (S.out.box 26 [.slice none 0 0, .slice none 0 0]) hr hf hb); clear hr hf hb; have nbl1 := Nat.ne_of_lt z1; have nbg1 := Nat.ne_of_gt z1; have nblyk := Nat.ne_of_lt zyk; have nbgyk := Nat.ne_of_gt zyk; clear z3 f3 y3 y3a z2 f2 y2 y2a z1 f1 y1 y1a z0 f0 y0 y0a yk zyk; obtain ⟨⟨z4, f4, y4, y4a, -⟩, ⟨z3, f3, y3, y3a, -⟩, ⟨z2, f2, y2, y2a, -⟩, ⟨z1, f1, y1, y1a, -⟩, ⟨z0, f0, y0, y0a, -⟩, -⟩ := S.out.facts; have yk := arr_at (g := w.heap.size + 1 + 1 + 1) S.out (by simp) hmN eU; have zyk := arr_lt (g := w.heap.size + 1 + 1 + 1) (n := t.acc.length + 1) (f := uv F) S.out (by simp))
                | ((with_reducible refine (HO1.out _).mono ?_); rintro e wx ⟨_, rfl, qx, rfl, hr, hf, hb⟩; replace S := Lib.hid (natRes (S.out.box 26 [.slice none 0 0, .slice none 0 0]) hr hf hb); clear hr hf hb; have nbl1 := Nat.ne_of_lt z1; have nbg1 := Nat.ne_of_gt z1; have nblyk := Nat.ne_of_lt zyk; have nbgyk := Nat.ne_of_gt zyk; clear z3 f3 y3 y3a z2 f2 y2 y2a z1 f1 y1 y1a z0 f0 y0 y0a yk zyk; obtain ⟨⟨z4, f4, y4, y4a, -⟩, ⟨z3, f3, y3, y3a, -⟩, ⟨z2, f2, y2, y2a, -⟩, ⟨z1, f1, y1, y1a, -⟩, ⟨z0, f0, y0, y0a, -⟩, -⟩ := S.out.facts; have yk := arr_at (g := w.heap.size + 1 + 1 + 1) S.out (by simp) hmN eU; have zyk := arr_lt (g := w.heap.size + 1 + 1 + 1) (n := t.acc.length + 1) (f := uv F) S.out (by simp))
                | ((with_reducible refine (LL.out _ (natOld (S.out.box 26 [.slice none 0 0, .slice none 0 0]) (by simp)) (natOld (S.out.box 26 [.slice none 0 0, .slice none 0 0]) (by simp))).mono ?_); rintro e wx ⟨_, rfl, qx, qy, rfl, hr, hr2, hf, hf2, hb⟩; replace S := Lib.hid (natRes2 (S.out.box 26 [.slice none 0 0, .slice none 0 0]) hr hr2 hf hf2 hb); clear hr hr2 hf hf2 hb; have nbl1 := Nat.ne_of_lt z1; have nbg1 := Nat.ne_of_gt z1; have nblyk := Nat.ne_of_lt zyk; have nbgyk := Nat.ne_of_gt zyk; clear z3 f3 y3 y3a z2 f2 y2 y2a z1 f1 y1 y1a z0 f0 y0 y0a yk zyk; obtain ⟨⟨z4, f4, y4, y4a, -⟩, ⟨z3, f3, y3, y3a, -⟩, ⟨z2, f2, y2, y2a, -⟩, ⟨z1, f1, y1, y1a, -⟩, ⟨z0, f0, y0, y0a, -⟩, -⟩ := S.out.facts; have yk := arr_at (g := w.heap.size + 1 + 1 + 1) S.out (by simp) hmN eU; have zyk := arr_lt (g := w.heap.size + 1 + 1 + 1) (n := t.acc.length + 1) (f := uv F) S.out (by simp))
                | ((with_reducible refine (LM.out _ _ _ _ _ (natOld (S.out.box 26 [.slice none 0 0, .slice none 0 0]) (by simp)) (natOld (S.out.box 26 [.slice none 0 0, .slice none 0 0]) (by simp)) (natOld (S.out.box 26 [.slice none 0 0, .slice none 0 0]) (by simp)) (natOld (S.out.box 26 [.slice none 0 0, .slice none 0 0]) (by simp))).mono ?_); rintro e wx ⟨_, rfl, qx, qy, rfl, hr, hr2, hf, hf2, hb⟩; replace S := Lib.hid (natRes2 (S.out.box 26 [.slice none 0 0, .slice none 0 0]) hr hr2 hf hf2 hb); clear hr hr2 hf hf2 hb; have nbl1 := Nat.ne_of_lt z1; have nbg1 := Nat.ne_of_gt z1; have nblyk := Nat.ne_of_lt zyk; have nbgyk := Nat.ne_of_gt zyk; clear z3 f3 y3 y3a z2 f2 y2 y2a z1 f1 y1 y1a z0 f0 y0 y0a yk zyk; obtain ⟨⟨z4, f4, y4, y4a, -⟩, ⟨z3, f3, y3, y3a, -⟩, ⟨z2, f2, y2, y2a, -⟩, ⟨z1, f1, y1, y1a, -⟩, ⟨z0, f0, y0, y0a, -⟩, -⟩ := S.out.facts; have yk := arr_at (g := w.heap.size + 1 + 1 + 1) S.out (by simp) hmN eU; have zyk := arr_lt (g := w.heap.size + 1 + 1 + 1) (n := t.acc.length + 1) (f := uv F) S.out (by simp)))
            all_goals (go_wp2_with fail; go_meet)
            all_goals
              first
                | exact ⟨_, qx, qy, rfl, Lib.hid (fm_sel (S.out.box 26 [.slice qx.a Xn.length qx.c, .slice qy.a Xd.length qy.c]) _ _ (List.Sublist.refl _) (by simp))⟩
                | exact ⟨_, qx, qy, rfl, Lib.hid (fm_sel ((S.out.set 0 rfl 0 (.slice qx.a Xn.length qx.c)).set 0 rfl 1 (.slice qy.a Xd.length qy.c)) _ _ (List.Sublist.refl _) (by simp))⟩
          case rest =>
            clear S fr1 fr2
            obtain ⟨B, qb, rb, rfl, S⟩ := hcut
            obtain ⟨⟨z4, f4, y4, y4a, -⟩, ⟨z3, f3, y3, y3a, -⟩, ⟨z2, f2, y2, y2a, -⟩, ⟨z1, f1, y1, y1a, -⟩, ⟨z0, f0, y0, y0a, -⟩, -⟩ := S.out.facts
            go_wp2_with fail
            refine (LA.out qs rs qb rb _ S.out.r3 S.out.r2 S.out.r1 S.out.r0).mono ?_
            rintro e w9 ⟨_, rfl, q5, r5, rfl, hr, hr2, hf5, hf6, hb⟩
            have g1 := Lib.hid (hf5.le S.out.size)
            have g2 := Lib.hid (hf6.le S.out.size)
            replace S := Lib.hid (natRes2 S.out hr hr2 hf5 hf6 hb)
            clear hr hr2 hf5 hf6 hb z4 f4 y4 y4a z3 f3 y3 y3a z2 f2 y2 y2a z1 f1 y1 y1a z0 f0 y0 y0a
            obtain ⟨⟨z4, f4, y4, y4a, -⟩, ⟨z3, f3, y3, y3a, -⟩, ⟨z2, f2, y2, y2a, -⟩, ⟨z1, f1, y1, y1a, -⟩, ⟨z0, f0, y0, y0a, -⟩, -⟩ := S.out.facts
            have hF := Lib.hid (fm_sel ((S.out.set 1 rfl 0 (.slice q5.a Tn.length q5.c)).set 1 rfl 1 (.slice r5.a Td.length r5.c)) _ [rowRd Td r5, rowRd Tn q5, arrRd (w.heap.size + 1 + 1 + 1) (t.acc.length + 1) (uv F), tstRd w.heap.size t ⟨ta, tc, tb, td⟩, rowRd Av ⟨qna, qnc⟩, rowRd Dv ⟨qda, qdc⟩] (.cons _ (List.Sublist.refl _)) (by simp))
            clear S
            go_wp2
            go_roundw
            case rel => exact ⟨m + 1, q5, r5, by omega, by go_num, Lib.hid (by rw [hTn.out, hTd.out]; exact hF.out), g1, g2⟩
            case measure => simp [intOf]; omega
        · have hd : decide ((m : Int) ≤ (t.acc.length : Int)) = false := by rw [decide_eq_false_iff_not]; omega
          obtain rfl : m = t.acc.length + 1 := by omega
          have hfin2 : SN F a (d - a) t.acc.length (t.acc.length + 1) = allS (VT t) a (d - a) t.acc.length (kk times v0) := hfin.out
          rw [hfin2] at S
          have hret : Hid (∀ W v, RRes w (rdN (allS (VT t) a (d - a) t.acc.length (kk times v0)) K) (rdD (allS (VT t) a (d - a) t.acc.length (kk times v0)) K) v W → RRes w (rdN (allS (VT t) a (d - a) t.acc.length (kk times v0)) (d ^ t.acc.length)) (rdD (allS (VT t) a (d - a) t.acc.length (kk times v0)) (d ^ t.acc.length)) v W) := Lib.hid (by rw [hK.out]; exact fun _ _ h => h)
          obtain ⟨Xn, hX⟩ : ∃ v, rdN (allS (VT t) a (d - a) t.acc.length (kk times v0)) K = v := ⟨_, rfl⟩
          obtain ⟨Xd, hY⟩ : ∃ v, rdD (allS (VT t) a (d - a) t.acc.length (kk times v0)) K = v := ⟨_, rfl⟩
          rw [hX, hY] at S hret
          clear hX hY hfin2
          obtain ⟨⟨z3, f3, y3, y3a, -⟩, ⟨z2, f2, y2, y2a, -⟩, ⟨z1, f1, y1, y1a, -⟩, ⟨z0, f0, y0, y0a, -⟩, -⟩ := S.out.facts
          have S8 := Lib.hid ((S.out.set 1 rfl 0 (.slice qs.a Xn.length qs.c)).set 1 rfl 1 (.slice rs.a Xd.length rs.c))
          go_wp2
          refine bodyPost_ret (v := ratV Xn qs Xd rs) (by simp [results, Tryz.results59, go_sem, y2, y2a]) rfl ?_
          exact Ret.mk (hret.out _ _ (fm_rres S8.out (by simp) (by simp) fr1.out fr2.out))
end Go.Proofs.YtpoddmkimhkmoaaGreat
