/-
  CONTRACT of power.binomial.
  Conditions: n <= 40, a <= d, 1 <= d <= 1000.
-/
import Derived.Test.YtpoddmkimhkmoaaGreatPwS
namespace Go.Proofs.YtpoddmkimhkmoaaGreat
open Go.RowKit Go.Sv Go.Pw
section
variable {P : Program} {t e : TypeId} {z : Value} {bytes : Nat} {w : World}
/-- one append of one element in a region that draws its order; where the row lies then -/
theorem step_own1x (E : ElemT P t e z 1 bytes) {ops : Array Oper} {o : Oper} {a : Act} {K : Act → World → Prop} {Q : Exit → Act → World → Prop} {X : Prop} (hgd : o.guard = none) (s x : Operand)
    (ho : o.op = .call { callee := .builtin .append, args := #[s, x], argTypes := #[t, t] }) (base : Nat) (v : Value) (n : Nat) (xs : List Value) (hown : w.ownsRow base e 1 v n xs) (hs : a.eval s = v)
    (B : Nat) (hx : a.eval x = .slice (some ⟨B, 0, none⟩) 1 1) (u : Value) (hc : w.cell? ⟨B, 0, none⟩ = some u) (hu : u.oneCell' = true) (hn : n ≤ 1000000) (hby : bytes ≤ 4096) (hbase : base ≤ w.heap.size)
    (h : ∀ v' w', w'.ownsRow base e 1 v' (n + 1) (xs ++ [u]) → w.grownBy w' v.ownBlock → Below base w w' → (v'.ownBlock = v.ownBlock ∨ v'.ownBlock = some w.heap.size) → K (a.put o.dst v') w') :
    if Region.wanted o (yielded ops a.tmps) = true then Oper.wp P o a w K Q else X := by
  have hw : Region.wanted o (yielded ops a.tmps) = true := by simp [Region.wanted, hgd]
  rw [if_pos hw]
  obtain ⟨v', w', hr, h2, h3, h4⟩ := run_append_arr E w o.type base v n xs hown (some ⟨B, 0, none⟩) 1 1 [u] rfl (by simpa using hu) (fun h => by cases h) (fun ad had j y hy => by
    injection had with had
    subst had
    match j, hy with
    | 0, hy =>
      have : u = y := by simpa using hy
      subst this
      exact hc) (by omega) hby hbase
  unfold Oper.wp execOp
  simp only [ho, resolve, invoke, builtin, Sem.run_bind, Sem.run_pure, Result.andThen_ok, List.map_toArray, List.map_cons, List.map_nil, hs, hx, hr]
  exact h v' w' h2 h3 (own_below hown h3 hbase) h4
end
theorem fm_grown {w W W' : World} {bs : List Bx} {rs : List Rd} {row : Option Nat} (h : Fm w W bs rs) (hg : W.grownBy W' row) (hb : Below w.heap.size w W') (h1 : ∀ x ∈ bs, row ≠ some x.b) (h2 : ∀ r ∈ rs, ∀ g, r.D g → row ≠ some g) : Fm w W' bs rs :=
  ⟨hb, allB_of fun x hx => (hg.block x.b (h.b_lt hx) (fun e => h1 x hx e.symm)).trans (allB_at h.bx x hx),
    allR_of fun r hr => r.st (allR_at h.rd r hr) (fun p hp => World.cell?_of_block (hg.block p.block (h.far r hr _ hp).1 (fun e => h2 r hr _ hp e.symm))) hg.size, h.lo,
    fun r hr g hg' => ⟨Nat.lt_of_lt_of_le (h.far r hr g hg').1 hg.size, (h.far r hr g hg').2⟩, h.dis⟩
/-- the numbers of a row under way -/
def numsV (L : Nat → List Int) (Q : Nat → LmP) (k : Nat) : List Value := (List.range k).map fun i => numC (L i) (Q i)
theorem numsV_succ (L : Nat → List Int) (Q : Nat → LmP) (k : Nat) (q : LmP) : numsV L (upd Q k q) (k + 1) = numsV L Q k ++ [numC (L k) q] := by
  unfold numsV
  rw [List.range_succ, List.map_append]
  congr 1
  · refine List.map_congr_left fun i hi => ?_
    rw [upd_ne Q q (by have := List.mem_range.1 hi; omega)]
  · simp [upd_at]
theorem numsV_get {L : Nat → List Int} {Q : Nat → LmP} {k i : Nat} (h : i < k) : (numsV L Q k)[i]? = some (numC (L i) (Q i)) := by simp [numsV, h]
/-- a row of numbers of the call's own -/
structure NOwn (w : World) (base : Nat) (v : Value) (k : Nat) (L : Nat → List Int) (Q : Nat → LmP) : Prop where
  own : w.ownsRow base 24 1 v k (numsV L Q k)
  num : ∀ i, i < k → RLm w w.heap.size (L i) (Q i)
  fr : ∀ i, i < k → Fr base (Q i)
  ne : ∀ i, i < k → 0 < (L i).length → ∀ a, (Q i).a = some a → v.ownBlock ≠ some a.block
theorem NOwn.to {w w' : World} {base k : Nat} {v : Value} {L : Nat → List Int} {Q : Nat → LmP} (h : NOwn w base v k L Q) (hb : Below w.heap.size w w') : NOwn w' base v k L Q :=
  ⟨own_to h.own hb, fun i hi => (h.num i hi).to hb, h.fr, h.ne⟩
theorem rlm_blk {w : World} {B : Nat} {l : List Int} {q : LmP} (h : RLm w B l q) (hl : 0 < l.length) {a : Addr} (ha : q.a = some a) : a.block < B := by
  obtain ⟨b, off, e, h2, _⟩ := h.arr hl
  rw [e] at ha
  injection ha with ha
  subst ha
  exact h2
theorem rlm_grown2 {w w' : World} {row : Option Nat} {l : List Int} {q : LmP} (h : RLm w w.heap.size l q) (hg : w.grownBy w' row) (hn : 0 < l.length → ∀ a, q.a = some a → row ≠ some a.block) : RLm w' w'.heap.size l q := by
  refine ⟨fun hl => ?_, h.nil, h.cap, h.cmx⟩
  obtain ⟨b, off, e, h2, hc⟩ := h.arr hl
  exact ⟨b, off, e, Nat.lt_of_lt_of_le h2 hg.size, fun k hk => (World.cell?_of_block (w := w) (a := ⟨b, off + k, none⟩) (hg.block b h2 (fun e2 => hn hl _ e e2.symm))).trans (hc k hk)⟩
/-- a store into a box of numbers -/
theorem NOwn.set {w : World} {base k : Nat} {v : Value} {L : Nat → List Int} {Q : Nat → LmP} (h : NOwn w base v k L Q) {p : Addr} (hp : p.block < base) (u : Value) : NOwn (w.setCell p u) base v k L Q := by
  have hb : Below 0 w (w.setCell p u) := (Below.refl 0 w).setCell (Nat.zero_le _) u
  have gr : w.grownBy (w.setCell p u) (some p.block) := ⟨hb.os, hb.tape, hb.output, hb.size, fun b _ hne => Below.heap_setCell w p u b (fun e => hne (by rw [e]))⟩
  have vne : v.ownBlock ≠ some p.block := fun e => by have := (h.own.lt _ e).1; omega
  refine ⟨h.own.kept gr (.inr vne), fun i hi => rlm_grown2 (h.num i hi) gr (fun hl a ha e => ?_), h.fr, h.ne⟩
  injection e with e
  have := h.fr i hi a ha
  omega
/-- a number is appended -/
theorem NOwn.push {w w1 : World} {base k : Nat} {v v' : Value} {L : Nat → List Int} {Q : Nat → LmP} {q : LmP} (h : NOwn w base v k L Q) (hr : RLm w w.heap.size (L k) q) (hf : Fr base q) (hq : 0 < (L k).length → ∀ a, q.a = some a → v.ownBlock ≠ some a.block)
    (hown : w1.ownsRow base 24 1 v' (k + 1) (numsV L Q k ++ [numC (L k) q])) (hg : w.grownBy w1 v.ownBlock) (hor : v'.ownBlock = v.ownBlock ∨ v'.ownBlock = some w.heap.size) : NOwn w1 base v' (k + 1) L (upd Q k q) := by
  have new : ∀ {l : List Int} {r : LmP}, RLm w w.heap.size l r → (0 < l.length → ∀ a, r.a = some a → v.ownBlock ≠ some a.block) → (0 < l.length → ∀ a, r.a = some a → v'.ownBlock ≠ some a.block) := fun {l r} h1 h2 hl a ha => by
    rcases hor with e | e <;> rw [e]
    · exact h2 hl a ha
    · intro e2; injection e2 with e2; have := rlm_blk h1 hl ha; omega
  refine ⟨by rw [numsV_succ]; exact hown, fun i hi => ?_, fun i hi => ?_, fun i hi => ?_⟩
  · by_cases e : i = k
    · subst e; rw [upd_at]; exact rlm_grown2 hr hg hq
    · rw [upd_ne _ _ e]; exact rlm_grown2 (h.num i (by omega)) hg (h.ne i (by omega))
  · by_cases e : i = k
    · subst e; rw [upd_at]; exact hf
    · rw [upd_ne _ _ e]; exact h.fr i (by omega)
  · by_cases e : i = k
    · subst e; rw [upd_at]; exact new hr hq
    · rw [upd_ne _ _ e]; exact new (h.num i (by omega)) (h.ne i (by omega))
theorem NOwn.row {w : World} {base k : Nat} {v : Value} {L : Nat → List Int} {Q : Nat → LmP} (h : NOwn w base v k L Q) : ∃ A c, v = .slice A k c ∧ NRow w base w.heap.size A k L Q := by
  obtain ⟨A, c, e, _, _, hc⟩ := own_form h.own
  refine ⟨A, c, e, fun hk => ?_, h.num, h.fr⟩
  obtain ⟨b, e2, hb, hlt, hcell⟩ := hc hk
  exact ⟨b, 0, e2, hb, hlt, fun j hj => by rw [Nat.zero_add, hcell j (by omega), numsV_get hj]⟩
/-- what binomial leaves -/
def BinR (w : World) (n : Nat) (L : Nat → List Int) (v : Value) (w' : World) : Prop := ∃ A c Q, v = .slice A n c ∧ NRow w' w.heap.size w'.heap.size A n L Q ∧ Below w.heap.size w w'
theorem bin_le (n k : Nat) : bin n k ≤ 2 ^ n := by
  rw [← U_open (V := fun _ _ => 0) n (fun _ _ _ _ _ => rfl) k]
  exact U_le _ n k
set_option maxHeartbeats 8000000 in
set_option maxRecDepth 100000 in
theorem binom_any (n a d : Nat) (qn qd : LmP) (w : World) (hn : RLm w w.heap.size (lim a) qn) (hd : RLm w w.heap.size (lim d) qd) (had : a ≤ d) (hd2 : d ≤ 1000) (hn40 : n ≤ 40) :
    Calls Tryz.prog 23 #[.int .i64 (n : Int), ratV (lim a) qn (lim d) qd] w (Ret (BinR w (n + 1) (fun f => lim (gd a (d - a) n f)))) := by
  have hb2 : a + (d - a) = d := by omega
  have aS : sm a := sm_s (by omega)
  have dS : sm d := sm_s (by omega)
  have bS : sm (d - a) := sm_s (by omega)
  have p0 : ∀ x : Nat, x ≤ 1000 ^ 64 → sm x := fun x hx => sm_b (Nat.le_trans hx (Nat.le_mul_of_pos_left _ (by decide)))
  have bl : ∀ k, bin n k ≤ 2 ^ 40 := fun k => Nat.le_trans (bin_le n k) (Nat.pow_le_pow_right (by decide) hn40)
  have sS : Hid (∀ k, k ≤ n → sm (a ^ k) ∧ sm ((d - a) ^ (n - k)) ∧ sm (a ^ k * (d - a) ^ (n - k)) ∧ sm (bin n k) ∧ sm (gd a (d - a) n k) ∧ sm (bin n k * (n - k)) ∧ sm (n - k) ∧ sm (k + 1)) := Lib.hid fun k hk => by
    obtain ⟨q1, q2⟩ := pow_le (a := a) (b := d - a) (N := n) hk (Nat.le_refl n)
    rw [hb2] at q1
    have q4 := big_pow (x := d) (n := n) hd2 (by omega)
    have bk := bl k
    refine ⟨p0 _ (big_pow (by omega) (by omega)), p0 _ (big_pow (by omega) (by omega)), p0 _ (Nat.le_trans q1 q4), sm_s (by omega), sm_b ?_, sm_s ?_, sm_s (by omega), sm_s (by omega)⟩
    · exact Nat.mul_le_mul (Nat.le_trans bk (by decide)) (Nat.le_trans q1 q4)
    · have := Nat.mul_le_mul bk (show n - k ≤ 64 by omega)
      omega
  clear p0 bl
  obtain ⟨qna, qnc⟩ := qn
  obtain ⟨qda, qdc⟩ := qd
  have HS := Lib.hid (fun q r w' (h1 : RLm w' w'.heap.size (lim d) q) (h2 : RLm w' w'.heap.size (lim a) r) => psub_lim d a q r w' dS aS had h1 h2)
  have HO := Lib.hid (fun w' => by
    have := of_any 1 w' (by omega) (by omega)
    rw [show (1 : Int).toNat = 1 from rfl, ← bin_first n] at this
    exact this)
  have HP := Lib.hid (fun (x m : Nat) q w' (h0 : sm x) (h1 : sm (x ^ m)) (h2 : RLm w' w'.heap.size (lim x) q) => ppow_lim x q w' m h0 h1 h2)
  have HM := Lib.hid (fun (x y : Nat) q r w' (h0 : sm x) (h1 : sm y) (h2 : sm (x * y)) (h3 : RLm w' w'.heap.size (lim x) q) (h4 : RLm w' w'.heap.size (lim y) r) => pmul_lim x y q r w' h0 h1 h2 h3 h4)
  have S := Lib.hid (natArg (natArg (Fm.init w) hd) hn)
  clear hn hd dS
  replace aS := Lib.hid aS
  replace bS := Lib.hid bS
  replace hb2 := Lib.hid hb2
  obtain ⟨Av, hA⟩ : ∃ v, lim a = v := ⟨_, rfl⟩
  obtain ⟨Dv, hD⟩ : ∃ v, lim d = v := ⟨_, rfl⟩
  obtain ⟨Bv, hB⟩ : ∃ v, lim (d - a) = v := ⟨_, rfl⟩
  rw [hA, hD] at S
  rw [hA, hD, hB] at HS
  rw [hA, hD]
  replace hA := Lib.hid hA
  replace hB := Lib.hid hB
  clear hD
  replace S := Lib.hid (S.out.box 26 [.slice qna Av.length qnc, .slice qda Dv.length qdc])
  go_enter Tryz.func23, Tryz.ntmps23
  go_wp2_with fail
  refine (HS.out ⟨qda, qdc⟩ ⟨qna, qnc⟩ _ S.out.r1 S.out.r0).mono ?_
  rintro e w1 ⟨_, rfl, q9, rfl, hr, hf, hb⟩
  replace S := Lib.hid (natRes S.out hr hf hb)
  clear hr hf hb
  replace S := Lib.hid (S.out.box 24 [.slice q9.a Bv.length q9.c])
  go_wp2_with fail
  refine (HO.out _).mono ?_
  rintro e w3 ⟨_, rfl, q1, rfl, hr, hf, hb⟩
  replace S := Lib.hid (natRes S.out hr hf hb)
  clear hr hf hb
  replace S := Lib.hid (S.out.box 24 [.slice q1.a (lim (bin n 0)).length q1.c])
  obtain ⟨⟨z2, f2, y2, -⟩, ⟨z1, f1, y1, -⟩, ⟨z0, f0, y0, y0a, -⟩, -⟩ := S.out.facts
  go_wp2_with fail
  clear z2 f2 y2 z1 f1 y1 z0 f0 y0 y0a
  generalize w3.alloc (.cells #[.slice q1.a (lim (bin n 0)).length q1.c] 24) = w4 at S ⊢
  have hold : Hid (∀ r ∈ [rowRd Bv q9, rowRd Av ⟨qna, qnc⟩, rowRd Dv ⟨qda, qdc⟩], ∀ g, r.D g → g < w4.heap.size) := Lib.hid fun r hr g hg => (S.out.far r (List.mem_cons_of_mem _ hr) g hg).1
  have hc0 : Hid (∀ g, (rowRd (lim (bin n 0)) q1).D g → g < w4.heap.size) := Lib.hid fun g hg => (S.out.far _ (List.mem_cons_self ..) g hg).1
  obtain ⟨⟨z2, f2, y2, -⟩, ⟨z1, f1, y1, -⟩, ⟨z0, f0, y0, y0a, -⟩, -⟩ := S.out.facts
  have x2 := z2
  have x1 := z1
  have x0 := z0
  have hsw : Hid (w.heap.size ≤ w4.heap.size) := Lib.hid S.out.size
  clear z2 f2 y2 z1 f1 y1 z0 f0 y0 y0a
  go_loopw [7, 8] (fun out f wr => ∃ (k : Nat) (Q : Nat → LmP) (qC : LmP), k ≤ n + 1 ∧ f = .int .i64 (k : Int) ∧ Hid (NOwn wr w4.heap.size out k (fun i => lim (gd a (d - a) n i)) Q) ∧ Hid (Fm w wr [⟨w3.heap.size, 24, [.slice qC.a (lim (bin n k)).length qC.c]⟩, ⟨w1.heap.size, 24, [.slice q9.a Bv.length q9.c]⟩, ⟨w.heap.size, 26, [.slice qna Av.length qnc, .slice qda Dv.length qdc]⟩] [rowRd (lim (bin n k)) qC, rowRd Bv q9, rowRd Av ⟨qna, qnc⟩, rowRd Dv ⟨qda, qdc⟩]) ∧ Hid (∀ g, (rowRd (lim (bin n k)) qC).D g → out.ownBlock ≠ some g) ∧ Hid (w4.heap.size ≤ wr.heap.size)) (fun _ f _ => n + 1 - (intOf f).toNat)
  case atStart => exact ⟨0, fun _ => ⟨none, 0⟩, q1, Nat.zero_le _, rfl, Lib.hid ⟨World.ownsRow_nil _ _ _ _, fun i hi => by omega, fun i hi => by omega, fun i hi => by omega⟩, S, Lib.hid (fun g _ e => by cases e), Lib.hid (Nat.le_refl _)⟩
  case round =>
    clear S hc0
    obtain ⟨k, Q, qC, hk, rfl, hO, S, hq, hs⟩ := hrel
    by_cases hlt : k ≤ n
    · have hd : decide ((k : Int) ≤ (n : Int)) = true := decide_eq_true (by omega)
      obtain ⟨s1, s2, s3, s4, s5, s6, s7, s8⟩ := sS.out k hlt
      have P1 := Lib.hid (fun q w' h => HP.out a k q w' aS.out s1 h)
      have P2 := Lib.hid (fun q w' h => HP.out (d - a) (n - k) q w' bS.out s2 h)
      have M1 := Lib.hid (fun q r w' h1 h2 => HM.out (a ^ k) ((d - a) ^ (n - k)) q r w' s1 s2 s3 h1 h2)
      have M2 := Lib.hid (fun q r w' h1 h2 => HM.out (bin n k) (a ^ k * (d - a) ^ (n - k)) q r w' s4 s3 s5 h1 h2)
      have M3 := Lib.hid (fun q r w' h1 h2 => HM.out (bin n k) (n - k) q r w' s4 s7 s6 h1 h2)
      have O1 := Lib.hid (fun w' => nof_lim w' (n - k) (by omega))
      have O2 := Lib.hid (fun w' => nof_lim w' (k + 1) (by omega))
      have HD := Lib.hid (fun q r w' h1 h2 => by
        have := div_ok (lim (bin n k * (n - k))) (lim (k + 1)) q r w' h1 h2 (lim_lim _) (lim_lim _) (by rw [vN_lim s6, vN_lim s8]; rfl) (by rw [vl_lim]; omega)
        rw [vl_lim, vl_lim, bin_next] at this
        exact this)
      rw [show bin n k * (a ^ k * (d - a) ^ (n - k)) = gd a (d - a) n k from rfl] at M2
      rw [hA.out] at P1
      rw [hB.out, show ((n - k : Nat) : Int) = (n : Int) - (k : Int) by omega] at P2
      rw [show ((n - k : Nat) : Int) = (n : Int) - (k : Int) by omega] at O1
      rw [show ((k + 1 : Nat) : Int) = (k : Int) + 1 by omega] at O2
      clear s1 s2 s3 s4 s5 s6 s7 s8
      have hpush := Lib.hid (fun (W W1 : World) (v' : Value) (q : LmP) (h : NOwn W w4.heap.size u7 k (fun i => lim (gd a (d - a) n i)) Q) (hr : RLm W W.heap.size (lim (gd a (d - a) n k)) q) (hf : Fr w4.heap.size q) hq hown hg hor => NOwn.push (w1 := W1) (v' := v') h hr hf hq hown hg hor)
      obtain ⟨X1, hX1⟩ : ∃ v, lim (a ^ k) = v := ⟨_, rfl⟩
      obtain ⟨X2, hX2⟩ : ∃ v, lim ((d - a) ^ (n - k)) = v := ⟨_, rfl⟩
      obtain ⟨X3, hX3⟩ : ∃ v, lim (a ^ k * (d - a) ^ (n - k)) = v := ⟨_, rfl⟩
      obtain ⟨Gv, hG⟩ : ∃ v, lim (gd a (d - a) n k) = v := ⟨_, rfl⟩
      obtain ⟨Cv, hCv⟩ : ∃ v, lim (bin n k) = v := ⟨_, rfl⟩
      obtain ⟨Zv, hZ⟩ : ∃ v, lim (bin n k * (n - k)) = v := ⟨_, rfl⟩
      obtain ⟨Yv, hY⟩ : ∃ v, lim (n - k) = v := ⟨_, rfl⟩
      obtain ⟨Kv, hK⟩ : ∃ v, lim (k + 1) = v := ⟨_, rfl⟩
      rw [hX1] at P1 M1
      rw [hX2] at P2 M1
      rw [hX3] at M1 M2
      rw [hCv] at M2 M3 S hq
      rw [hG] at M2 hpush
      rw [hY] at O1 M3
      rw [hZ] at M3 HD
      rw [hK] at O2 HD
      clear hX1 hX2 hX3 hG hCv hZ hY hK
      have r1 : IntKind.i64.wrap ((n : Int) - (k : Int)) = (n : Int) - (k : Int) := IntWalk.i64_in _ (by omega)
      have r2 : IntKind.i64.wrap ((k : Int) + 1) = (k : Int) + 1 := IntWalk.i64_in _ (by omega)
      have r3 : IntKind.u64.wrap ((n : Int) - (k : Int)) = (n : Int) - (k : Int) := by simp [IntKind.wrap, IntKind.bits, IntKind.signed]; omega
      have r4 : IntKind.u64.wrap ((k : Int) + 1) = (k : Int) + 1 := by simp [IntKind.wrap, IntKind.bits, IntKind.signed]; omega
      obtain ⟨⟨z2, f2, y2, -⟩, ⟨z1, f1, y1, -⟩, ⟨z0, f0, y0, y0a, -⟩, -⟩ := S.out.facts
      go_wp2_with fail
      replace S := Lib.hid S.out.drew
      replace hO := Lib.hid (hO.out.to ((Below.refl _ _).drew))
      replace hs : Hid (w4.heap.size ≤ wr.drew.heap.size) := hs
      clear z2 f2 y2 z1 f1 y1 z0 f0 y0 y0a
      obtain ⟨⟨z2, f2, y2, -⟩, ⟨z1, f1, y1, -⟩, ⟨z0, f0, y0, y0a, -⟩, -⟩ := S.out.facts
      go_region_held3 (fun w' => w'.cell? ⟨w3.heap.size, 0, none⟩ = some (.slice qC.a Cv.length qC.c) ∧ w'.cell? ⟨w.heap.size, 0, none⟩ = some (.slice qna Av.length qnc) ∧ w'.cell? ⟨w1.heap.size, 0, none⟩ = some (.slice q9.a Bv.length q9.c)) (go_keep)
        (first
          | ((with_reducible refine (P1.out ⟨qna, qnc⟩ _ (natOld S.out (by simp))).mono ?_); rintro e wx ⟨_, rfl, qx, rfl, hr, hb⟩; replace S := Lib.hid (natOf S.out hr hb (by simp)); replace hO := Lib.hid (hO.out.to hb); replace hs := Lib.hid (Nat.le_trans hs.out hb.size); clear hr hb; clear z2 f2 y2 z1 f1 y1 z0 f0 y0 y0a; obtain ⟨⟨z2, f2, y2, -⟩, ⟨z1, f1, y1, -⟩, ⟨z0, f0, y0, y0a, -⟩, -⟩ := S.out.facts)
          | ((with_reducible refine (P2.out q9 _ (natOld S.out (by simp))).mono ?_); rintro e wx ⟨_, rfl, qx, rfl, hr, hb⟩; replace S := Lib.hid (natOf S.out hr hb (by simp)); replace hO := Lib.hid (hO.out.to hb); replace hs := Lib.hid (Nat.le_trans hs.out hb.size); clear hr hb; clear z2 f2 y2 z1 f1 y1 z0 f0 y0 y0a; obtain ⟨⟨z2, f2, y2, -⟩, ⟨z1, f1, y1, -⟩, ⟨z0, f0, y0, y0a, -⟩, -⟩ := S.out.facts)
          | ((with_reducible refine (M1.out _ _ _ (natOld S.out (by simp)) (natOld S.out (by simp))).mono ?_); rintro e wx ⟨_, rfl, qx, rfl, hr, hf, hb⟩; replace S := Lib.hid (natRes S.out hr hf hb); replace hO := Lib.hid (hO.out.to hb); replace hs := Lib.hid (Nat.le_trans hs.out hb.size); clear hr hf hb; clear z2 f2 y2 z1 f1 y1 z0 f0 y0 y0a; obtain ⟨⟨z2, f2, y2, -⟩, ⟨z1, f1, y1, -⟩, ⟨z0, f0, y0, y0a, -⟩, -⟩ := S.out.facts)
          | ((with_reducible refine (M2.out qC _ _ (natOld S.out (by simp)) (natOld S.out (by simp))).mono ?_); rintro e wx ⟨_, rfl, qx, rfl, hr, hf, hb⟩; replace S := Lib.hid (natRes S.out hr hf hb); have fG := Lib.hid (hf.le hs.out); have nG := Lib.hid (fun (b : Nat) (e : u7.ownBlock = some b) => (hO.out.own.lt _ e).2); have gG := Lib.hid hf; replace hO := Lib.hid (hO.out.to hb); replace hs := Lib.hid (Nat.le_trans hs.out hb.size); clear hr hf hb; clear z2 f2 y2 z1 f1 y1 z0 f0 y0 y0a; obtain ⟨⟨z2, f2, y2, -⟩, ⟨z1, f1, y1, -⟩, ⟨z0, f0, y0, y0a, -⟩, -⟩ := S.out.facts)
          | (refine step_own1x elNats (by rfl) _ _ (by rfl) w4.heap.size _ k (numsV (fun i => lim (gd a (d - a) n i)) Q k) (hO.out.own.alloc _) (by rfl) _ (by rfl) _ (World.cell?_alloc_new _ _ _ 0) (by rfl) (by omega) (by omega) (by have := hs.out; simp; omega) ?_
             intro v' w5 hown5 hg5 hb5 hor5
             have kC : w5.cell? ⟨w3.heap.size, 0, none⟩ = some (.slice qC.a Cv.length qC.c) := (hb5.cell (p := ⟨w3.heap.size, 0, none⟩) x2).trans ((World.cell?_alloc_old _ _ _ (Nat.ne_of_lt z2)).trans y2)
             have kA : w5.cell? ⟨w.heap.size, 0, none⟩ = some (.slice qna Av.length qnc) := (hb5.cell (p := ⟨w.heap.size, 0, none⟩) x0).trans ((World.cell?_alloc_old _ _ _ (Nat.ne_of_lt z0)).trans y0)
             have kB : w5.cell? ⟨w1.heap.size, 0, none⟩ = some (.slice q9.a Bv.length q9.c) := (hb5.cell (p := ⟨w1.heap.size, 0, none⟩) x1).trans ((World.cell?_alloc_old _ _ _ (Nat.ne_of_lt z1)).trans y1)))
      have hO5 := Lib.hid (hpush.out (wx.alloc (.cells #[.slice qx.a Gv.length qx.c] 24)) w5 v' qx (hO.out.to ((Below.refl _ _).alloc (Nat.le_refl _) _)) ((natOld S.out (by simp)).to ((Below.refl _ _).alloc (Nat.le_refl _) _)) fG.out (fun hl a ha e => by have := nG.out _ e; have := gG.out a ha; omega) hown5 hg5 hor5)
      have S5 := Lib.hid (fm_grown ((fm_sel S.out _ [rowRd Cv qC, rowRd Bv q9, rowRd Av ⟨qna, qnc⟩, rowRd Dv ⟨qda, qdc⟩] (List.Sublist.refl _) (by simp)).obj (.cells #[.slice qx.a Gv.length qx.c] 24)) hg5 ((S.out.obj _).bel.trans (hb5.mono hsw.out)) (fun x hx e => by
        have h1 := (hO.out.own.lt _ e).1
        simp only [List.mem_cons, List.not_mem_nil, or_false] at hx
        rcases hx with rfl | rfl | rfl <;> simp only at h1 <;> omega) (fun r hr g hg e => by
        rcases List.mem_cons.1 hr with rfl | hr
        · exact hq.out g hg e
        · have := hold.out r hr g hg
          have := (hO.out.own.lt _ e).1
          omega))
      replace hs : Hid (w4.heap.size ≤ w5.heap.size) := Lib.hid (by have := hs.out; have := hb5.size; simp at this; omega)
      clear hown5 hg5 hb5 hor5 kA kB kC fG nG gG S hO hq hpush z2 f2 y2 z1 f1 y1 z0 f0 y0 y0a
      have S := S5
      have hO := hO5
      clear S5 hO5
      obtain ⟨⟨z2, f2, y2, -⟩, ⟨z1, f1, y1, -⟩, ⟨z0, f0, y0, y0a, -⟩, -⟩ := S.out.facts
      go_wp2_with fail
      replace S := Lib.hid S.out.drew
      replace hO := Lib.hid (hO.out.to ((Below.refl _ _).drew))
      replace hs : Hid (w4.heap.size ≤ w5.drew.heap.size) := hs
      clear z2 f2 y2 z1 f1 y1 z0 f0 y0 y0a
      obtain ⟨⟨z2, f2, y2, -⟩, ⟨z1, f1, y1, -⟩, ⟨z0, f0, y0, y0a, -⟩, -⟩ := S.out.facts
      go_region_law (first
        | (go_simp; go_at_call 46; refine (O1.out _).mono ?_; rintro e wa ⟨_, rfl, qa, rfl, hr, hf, hb⟩; replace S := Lib.hid (natRes S.out hr hf hb); replace hO := Lib.hid (hO.out.to hb); replace hs := Lib.hid (Nat.le_trans hs.out hb.size); clear hr hf hb z2 f2 y2 z1 f1 y1 z0 f0 y0 y0a; obtain ⟨⟨z2, f2, y2, -⟩, ⟨z1, f1, y1, -⟩, ⟨z0, f0, y0, y0a, -⟩, -⟩ := S.out.facts)
        | (go_simp; go_at_call 47; refine (M3.out qC qa _ (natOld S.out (by simp)) (natOld S.out (by simp))).mono ?_; rintro e wb ⟨_, rfl, qb, rfl, hr, hf, hb⟩; replace S := Lib.hid (natRes S.out hr hf hb); replace hO := Lib.hid (hO.out.to hb); replace hs := Lib.hid (Nat.le_trans hs.out hb.size); clear hr hf hb z2 f2 y2 z1 f1 y1 z0 f0 y0 y0a; obtain ⟨⟨z2, f2, y2, -⟩, ⟨z1, f1, y1, -⟩, ⟨z0, f0, y0, y0a, -⟩, -⟩ := S.out.facts)
        | (go_simp; go_at_call 46; refine (O2.out _).mono ?_; rintro e wc ⟨_, rfl, qc, rfl, hr, hf, hb⟩; replace S := Lib.hid (natRes S.out hr hf hb); replace hO := Lib.hid (hO.out.to hb); replace hs := Lib.hid (Nat.le_trans hs.out hb.size); clear hr hf hb z2 f2 y2 z1 f1 y1 z0 f0 y0 y0a; obtain ⟨⟨z2, f2, y2, -⟩, ⟨z1, f1, y1, -⟩, ⟨z0, f0, y0, y0a, -⟩, -⟩ := S.out.facts)
        | (go_simp; go_at_call 48; refine (HD.out qb qc _ (natOld S.out (by simp)) (natOld S.out (by simp))).mono ?_; rintro e wz ⟨_, rfl, qz, qr, rfl, hr, hr2, hf, hf2, hb⟩; replace S := Lib.hid (natRes2 S.out hr hr2 hf hf2 hb); have nZ : Hid (∀ g, (rowRd (lim (bin n (k + 1))) qz).D g → v'.ownBlock ≠ some g) := Lib.hid (fun g hg e => by have h1 := (hO.out.own.lt _ e).2; obtain ⟨_, a, ha, rfl⟩ := hg; have := hf a ha; omega); replace hO := Lib.hid (hO.out.to hb); replace hs := Lib.hid (Nat.le_trans hs.out hb.size); clear hr hr2 hf hf2 hb z2 f2 y2 z1 f1 y1 z0 f0 y0 y0a; obtain ⟨⟨z2, f2, y2, -⟩, ⟨z1, f1, y1, -⟩, ⟨z0, f0, y0, y0a, -⟩, -⟩ := S.out.facts))
      all_goals
        have hO9 := Lib.hid (hO.out.set (p := ⟨w3.heap.size, 0, none⟩) x2 (.slice qz.a (lim (bin n (k + 1))).length qz.c))
        have S9 := Lib.hid (fm_sel (S.out.set 0 rfl 0 (.slice qz.a (lim (bin n (k + 1))).length qz.c)) _ [rowRd (lim (bin n (k + 1))) qz, rowRd Bv q9, rowRd Av ⟨qna, qnc⟩, rowRd Dv ⟨qda, qdc⟩] (List.Sublist.refl _) (by simp))
        have hs9 : Hid (w4.heap.size ≤ (wz.setCell ⟨w3.heap.size, 0, none⟩ (.slice qz.a (lim (bin n (k + 1))).length qz.c)).heap.size) := Lib.hid (by have := hs.out; simp; omega)
        clear S hO
        go_wp2
        go_roundw
        case rel => exact ⟨k + 1, _, qz, by omega, by go_num, hO9, S9, nZ, hs9⟩
        case measure => simp [intOf]; omega
    · have hd : decide ((k : Int) ≤ (n : Int)) = false := by rw [decide_eq_false_iff_not]; omega
      obtain rfl : k = n + 1 := by omega
      have hF : Hid (BinR w (n + 1) (fun f => lim (gd a (d - a) n f)) u7 wr) := Lib.hid (by
        obtain ⟨A, c, e, hr⟩ := hO.out.row
        exact ⟨A, c, _, e, hr.wide hsw.out (Nat.le_refl _), S.out.bel⟩)
      clear hO
      obtain ⟨⟨z2, f2, y2, -⟩, ⟨z1, f1, y1, -⟩, ⟨z0, f0, y0, y0a, -⟩, -⟩ := S.out.facts
      go_wp2
      go_ret
      exact Ret.mk hF.out
end Go.Proofs.YtpoddmkimhkmoaaGreat
