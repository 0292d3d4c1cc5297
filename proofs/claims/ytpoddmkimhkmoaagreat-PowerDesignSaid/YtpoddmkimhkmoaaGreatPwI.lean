/-
  CONTRACT of power.Paths.
  Conditions: those that each theorem names.
-/
import Derived.Test.YtpoddmkimhkmoaaGreatPwS
namespace Go.Proofs.YtpoddmkimhkmoaaGreat
open Go.RowKit Go.Sv Go.Pw
section
variable {w w' : World} {base k : Nat} {v : Value} {L L' : Nat → Nat → List Int} {G : Nat → Nat} {Q : Nat → Nat → LmP}
theorem CTab.congr (h : CTab w base v k L G Q) (hl : ∀ i, i < k → ∀ f, f ≤ i → L i f = L' i f) : CTab w base v k L' G Q :=
  ⟨h.own, fun i hi => (h.blk i hi).congr fun f hf => by rw [hl i hi f (by omega)], fun i hi f hf => by rw [← hl i hi f hf]; exact h.num i hi f hf, h.fr, h.lo, h.ne, h.inj, fun i hi f hf hn => h.nne i hi f hf (by rw [hl i hi f hf]; exact hn)⟩
theorem CTab.nil (h : CTab w base v k L G Q) {i f : Nat} (hi : i < k) (_hf : f ≤ i) :
    CTab (w.setCell ⟨G i, f, none⟩ (.slice none 0 0)) base v k (fun j g => if j = i ∧ g = f then [] else L j g) G (fun j g => if j = i ∧ g = f then ⟨none, 0⟩ else Q j g) := by
  have e0 : (w.setCell ⟨G i, f, none⟩ (.slice none 0 0)).heap.size = w.heap.size := by simp
  have gr : w.grownBy (w.setCell ⟨G i, f, none⟩ (.slice none 0 0)) (some (G i)) := by
    have hb : Below (G i) w (w.setCell ⟨G i, f, none⟩ (.slice none 0 0)) := (Below.refl (G i) w).setCell (show G i ≤ (⟨G i, f, none⟩ : Addr).block from Nat.le_refl _) _
    refine ⟨hb.os, hb.tape, hb.output, by rw [e0]; exact Nat.le_refl _, fun b _ hne => ?_⟩
    have hne : b ≠ G i := fun e => hne (by rw [e])
    exact Below.heap_setCell w ⟨G i, f, none⟩ _ b hne
  have inj2 : ∀ j, j < k → j ≠ i → G j ≠ G i := fun j hj hne e => by
    rcases Nat.lt_or_gt_of_ne hne with c | c
    · have := h.inj j i c hi; omega
    · have := h.inj i j c hj; omega
  refine ⟨h.own.kept gr (.inr (h.ne i hi)), fun j hj => ?_, fun j hj g hg => ?_, fun j hj g hg => ?_, h.lo, h.ne, h.inj, fun j hj g hg hn a ha => ?_⟩
  · by_cases e : j = i
    · subst e
      refine ((h.blk j hj).set f (.slice none 0 0)).congr fun g hg => ?_
      by_cases e2 : g = f
      · subst e2; rw [if_pos rfl, if_pos ⟨rfl, rfl⟩, if_pos ⟨rfl, rfl⟩]; rfl
      · rw [if_neg e2, if_neg (fun c => e2 c.2), if_neg (fun c => e2 c.2)]
    · refine ((h.blk j hj).far (p := ⟨G i, f, none⟩) (inj2 j hj e) _).congr fun g hg => ?_
      rw [if_neg (fun c => e c.1), if_neg (fun c => e c.1)]
  · rw [e0]
    by_cases e : j = i ∧ g = f
    · rw [if_pos e, if_pos e]; exact RLm.none_ _ _
    · rw [if_neg e, if_neg e]
      have r := h.num j hj g hg
      exact rlm_far r (rlm_ne_blk r (h.blk i hi) fun _ _ z => numC_no _ _ z)
  · by_cases e : j = i ∧ g = f
    · rw [if_pos e]; exact Fr.none_ _
    · rw [if_neg e]; exact h.fr j hj g hg
  · by_cases e : j = i ∧ g = f
    · rw [if_pos e] at hn; simp at hn
    · rw [if_neg e] at hn ha; exact h.nne j hj g hg hn a ha
end
/-- the table behind n rows and m entries -/
def Lp (V : Nat → Nat → Int) (n m i f : Nat) : List Int := if i < n ∨ (i = n ∧ f < m) then lim (U V i f) else lim (C V i f)
section
variable {V : Nat → Nat → Int} {n m : Nat}
theorem Lp_start {i f : Nat} (hf : f ≤ i) : lim (C V i f) = Lp V 1 0 i f := by
  unfold Lp
  by_cases h : i < 1 ∨ (i = 1 ∧ f < 0)
  · rw [if_pos h]
    obtain rfl : i = 0 := by omega
    obtain rfl : f = 0 := by omega
    rw [U_zero]; rfl
  · rw [if_neg h]
theorem Lp_fin {N i f : Nat} (hi : i < N + 1) : Lp V (N + 1) 0 i f = lim (U V i f) := if_pos (.inl hi)
theorem Lp_end {i f : Nat} (hf : f ≤ i) : Lp V n (n + 1) i f = Lp V (n + 1) 0 i f := by
  unfold Lp
  by_cases h : i < n ∨ (i = n ∧ f < n + 1)
  · rw [if_pos h, if_pos (by omega)]
  · rw [if_neg h, if_neg (by omega)]
theorem Lp_live (h0 : 1 ≤ n) (hv : V n m = 0) {i f : Nat} : Lp V n m i f = Lp V n (m + 1) i f := by
  unfold Lp
  by_cases h : i < n ∨ (i = n ∧ f < m)
  · rw [if_pos h, if_pos (by omega)]
  · rw [if_neg h]
    by_cases h2 : i = n ∧ f = m
    · obtain ⟨rfl, rfl⟩ := h2
      obtain ⟨k, rfl⟩ : ∃ k, i = k + 1 := ⟨i - 1, by omega⟩
      rw [if_pos (by omega), U_succ, if_pos hv]
    · rw [if_neg (by omega)]
theorem Lp_dead (h0 : 1 ≤ n) (hv : V n m ≠ 0) {i f : Nat} : (if i = n ∧ f = m then [] else Lp V n m i f) = Lp V n (m + 1) i f := by
  unfold Lp
  by_cases h2 : i = n ∧ f = m
  · rw [if_pos h2]
    obtain ⟨rfl, rfl⟩ := h2
    obtain ⟨k, rfl⟩ : ∃ k, i = k + 1 := ⟨i - 1, by omega⟩
    rw [if_pos (by omega), U_succ, if_neg hv, lim_zero]
  · rw [if_neg h2]
    by_cases h : i < n ∨ (i = n ∧ f < m)
    · rw [if_pos h, if_pos (by omega)]
    · rw [if_neg h, if_neg (by omega)]
end
/-- what Paths leaves -/
def PthR (w : World) (n : Nat) (L : Nat → Nat → List Int) (E : Int) (v : Value) (w' : World) : Prop :=
  ∃ A c R K Q, v = .tuple #[.slice A n c, .int .i64 E] ∧ NTab w' w.heap.size w'.heap.size A n L R K Q ∧ Below w.heap.size w w'
set_option maxHeartbeats 2000000 in
set_option maxRecDepth 100000 in
theorem paths_no (t : Tst) (q : TstP) (w : World) (h : RTst w w.heap.size t q) (hbd : TBd t) (hv : validE t ≠ 0) :
    Calls Tryz.prog 14 #[tstV t q] w fun e w' => e = .returned (.tuple #[.slice none 0 0, .int .i64 (validE t)]) ∧ Below w.heap.size w w' := by
  obtain ⟨qa, qc, qb, qd⟩ := q
  have hbx : Hid (∀ o : Obj, Below w.heap.size w (w.alloc o)) := Lib.hid fun o => (Below.refl _ _).alloc (Nat.le_refl _) o
  have HV := Lib.hid (fun (o : Obj) => hvalid_any t ⟨qa, qc, qb, qd⟩ (w.alloc o) (h.to (hbx.out o)) hbd)
  obtain ⟨E, hE⟩ : ∃ E, validE t = E := ⟨_, rfl⟩
  rw [hE] at HV hv
  rw [hE]
  have hx : (E != 0) = true := by rw [bne_iff_ne]; exact hv
  clear h hbd hv hE
  go_enter Tryz.func14, Tryz.ntmps14
  go_wp2_with fail
  refine (HV.out _).mono ?_
  rintro e w1 ⟨rfl, hb1⟩
  have hfin := Lib.hid (below_of (hbx.out _) (hbx.out _).size hb1)
  clear hb1
  go_wp2
  go_ret2
  exact ⟨rfl, hfin.out⟩
set_option maxHeartbeats 4000000 in
set_option maxRecDepth 100000 in
theorem paths_any (t : Tst) (q : TstP) (w : World) (h : RTst w w.heap.size t q) (hbd : TBd t) (hv : validE t = 0) :
    Calls Tryz.prog 14 #[tstV t q] w (Ret (PthR w (t.acc.length + 1) (fun i f => lim (U (VT t) i f)) 0)) := by
  have n1 := (validE_vld hv).n1
  obtain ⟨qa, qc, qb, qd⟩ := q
  have hbx : Hid (∀ o : Obj, Below w.heap.size w (w.alloc o)) := Lib.hid fun o => (Below.refl _ _).alloc (Nat.le_refl _) o
  have HE := Lib.hid (fun (o : Obj) => by
    have := hvalid_any t ⟨qa, qc, qb, qd⟩ (w.alloc o) (h.to (hbx.out o)) hbd
    rw [hv] at this
    exact this)
  have HC := Lib.hid (fun (w' : World) (h' : Below w.heap.size w w') => counts_any t ⟨qa, qc, qb, qd⟩ w' (h.to h') hbd hv)
  have HV := Lib.hid (fun (n f : Nat) w' (h' : Below w.heap.size w w') (h1 : 1 ≤ n) (h2 : n ≤ t.acc.length) (h3 : f ≤ n) => pverd_any t ⟨qa, qc, qb, qd⟩ n f w' (h.to h') hbd hv h1 h2 h3)
  have hB0 := Lib.hid (TBox.new (w := w) (e := 32) (t := t) (q := ⟨qa, qc, qb, qd⟩))
  clear h hbd hv
  go_enter Tryz.func14, Tryz.ntmps14
  go_wp2_with fail
  refine (HE.out _).mono ?_
  rintro e w0 ⟨rfl, hb0⟩
  have hw0 := Lib.hid (below_of (hbx.out _) (hbx.out _).size hb0)
  have hB1 := Lib.hid (hB0.out.to hb0)
  clear hb0
  obtain ⟨z, y0, y1⟩ := hB1.out
  dsimp only at y0 y1
  go_wp2_with fail
  refine (HC.out _ hw0.out).mono ?_
  rintro e w1 ⟨v, rfl, G, Q, hC, hb⟩
  have hB2 := hB1.out.to hb
  have hz1 : w.heap.size + 1 ≤ w0.heap.size := hB1.out.z
  have hBt : Hid (∀ W, Below (w.heap.size + 1) w1 W → TBox W w.heap.size t ⟨qa, qc, qb, qd⟩) := Lib.hid fun W h => ⟨Nat.lt_of_lt_of_le hB2.z h.size, (h.cell (p := ⟨w.heap.size, 0, none⟩) (Nat.lt_succ_self _)).trans hB2.y0, (h.cell (p := ⟨w.heap.size, 1, none⟩) (Nat.lt_succ_self _)).trans hB2.y1⟩
  have hw1 := Lib.hid (below_of hw0.out hw0.out.size hb)
  obtain ⟨A, c, hu, hc1, hc2, hAr⟩ := own_form hC.own
  obtain ⟨b, rfl, hb0, hbl, -⟩ := hAr (Nat.succ_pos _)
  subst hu
  have hC1 := Lib.hid ((hC.congr (L' := Lp (VT t) 1 0) (fun i hi f hf => Lp_start hf)).wide hz1)
  clear hb hC hAr hB2 z y0 y1 hbl hb0 hB1
  go_wp2_with fail
  go_loopw [6] (fun i wr => ∃ (n : Nat) (Q : Nat → Nat → LmP), 1 ≤ n ∧ n ≤ t.acc.length + 1 ∧ i = .int .i64 (n : Int) ∧ Hid (CTab wr (w.heap.size + 1) (.slice (some ⟨b, 0, none⟩) (t.acc.length + 1) c) (t.acc.length + 1) (Lp (VT t) n 0) G Q) ∧ Hid (Below (w.heap.size + 1) w1 wr)) (fun i _ => t.acc.length + 1 - (intOf i).toNat)
  case atStart => exact ⟨1, Q, Nat.le_refl _, by omega, rfl, hC1, Lib.hid (Below.refl _ _)⟩
  case round =>
    clear hC1
    rename World => wo
    obtain ⟨n, Q, hn0, hn, rfl, hT, hbel⟩ := hrel
    by_cases hlt : n < t.acc.length + 1
    · have hd : decide ((n : Int) < (t.acc.length : Int) + 1) = true := decide_eq_true (by omega)
      have yk : wo.cell? ⟨b, n, none⟩ = some (.slice (some ⟨G n, 0, none⟩) (n + 1) (n + 1)) := by rw [hT.out.own.cellAt n (by omega), rowsV_get hlt]
      have hi1 : (n : Int) < (t.acc.length : Int) + 1 := by omega
      go_wp2_with fail
      clear yk
      go_loopw [26] (fun i wr => ∃ (m : Nat) (Q : Nat → Nat → LmP), m ≤ n + 1 ∧ i = .int .i64 (m : Int) ∧ Hid (CTab wr (w.heap.size + 1) (.slice (some ⟨b, 0, none⟩) (t.acc.length + 1) c) (t.acc.length + 1) (Lp (VT t) n m) G Q) ∧ Hid (Below (w.heap.size + 1) w1 wr)) (fun i _ => n + 1 - (intOf i).toNat)
      case atStart => exact ⟨0, Q, Nat.zero_le _, rfl, hT, hbel⟩
      case round =>
        clear hT hbel
        obtain ⟨m, Q, hm, rfl, hT, hbel⟩ := hrel
        by_cases hlm : m < n + 1
        · have hd2 : decide ((m : Int) < (n : Int) + 1) = true := decide_eq_true (by omega)
          obtain ⟨z, y0, y1⟩ := hBt.out _ hbel.out
          dsimp only at y0 y1
          have hV := Lib.hid (HV.out n m wr (hw1.out.trans (hbel.out.mono (Nat.le_succ _))) (by omega) (by omega) (by omega))
          go_wp2_with fail
          refine hV.out.mono ?_
          rintro e w5 ⟨rfl, hb⟩
          have hT5 := Lib.hid (hT.out.to hb)
          have hbel5 := Lib.hid (hbel.out.trans (hb.mono (Nat.le_of_lt_succ (Nat.lt_succ_of_le z))))
          clear hb hV z y0 y1 hT hbel
          by_cases hv : VT t n m = 0
          · have hx : (VT t n m != 0) = false := by rw [bne_eq_false_iff_eq]; exact hv
            have hF := Lib.hid (hT5.out.congr (L' := Lp (VT t) n (m + 1)) (fun i hi f hf => Lp_live hn0 hv))
            clear hv hT5
            go_wp2
            go_roundw
            case rel => exact ⟨m + 1, Q, by omega, by go_num, hF, hbel5⟩
            case measure => simp [intOf]; omega
          · have hx : (VT t n m != 0) = true := by rw [bne_iff_ne]; exact hv
            have hF := Lib.hid ((hT5.out.nil hlt (show m ≤ n by omega)).congr (L' := Lp (VT t) n (m + 1)) (fun i hi f hf => Lp_dead hn0 hv))
            have hG : Hid (Below (w.heap.size + 1) w1 (w5.setCell ⟨G n, m, none⟩ (.slice none 0 0))) := Lib.hid (hbel5.out.setCell (hT5.out.lo n hlt) _)
            have yk : w5.cell? ⟨b, n, none⟩ = some (.slice (some ⟨G n, 0, none⟩) (n + 1) (n + 1)) := by rw [hT5.out.own.cellAt n (by omega), rowsV_get hlt]
            have yR := (hT5.out.blk n hlt).cell (show m < n + 1 by omega)
            have fR := (hT5.out.blk n hlt).frozen
            have zR := (hT5.out.blk n hlt).lt
            clear hv hT5
            go_wp2
            go_roundw
            case rel => exact ⟨m + 1, _, by omega, by go_num, hF, hG⟩
            case measure => simp [intOf]; omega
        · have hd2 : decide ((m : Int) < (n : Int) + 1) = false := by rw [decide_eq_false_iff_not]; omega
          obtain rfl : m = n + 1 := by omega
          have hF := Lib.hid (hT.out.congr (L' := Lp (VT t) (n + 1) 0) (fun i hi f hf => Lp_end hf))
          clear hT
          go_wp2
          go_roundw
          case rel => exact ⟨n + 1, Q, by omega, by omega, by go_num, hF, hbel⟩
          case measure => simp [intOf]; omega
    · have hd : decide ((n : Int) < (t.acc.length : Int) + 1) = false := by rw [decide_eq_false_iff_not]; omega
      obtain rfl : n = t.acc.length + 1 := by omega
      have hF : Hid (PthR w (t.acc.length + 1) (fun i f => lim (U (VT t) i f)) 0 (.tuple #[.slice (some ⟨b, 0, none⟩) (t.acc.length + 1) c, .int .i64 0]) wo) := Lib.hid (by
        have x := (hT.out.congr (L' := fun i f => lim (U (VT t) i f)) (fun i hi f hf => Lp_fin hi)).wide (Nat.le_succ w.heap.size)
        obtain ⟨A', c', e, ht⟩ := x.tab (Nat.succ_pos _)
        injection e with e1 e2 e3
        subst e1 e3
        exact ⟨_, _, _, _, _, rfl, ht, hw1.out.trans (hbel.out.mono (Nat.le_succ _))⟩)
      clear hT
      go_wp2
      go_ret2
      exact Ret.mk hF.out
end Go.Proofs.YtpoddmkimhkmoaaGreat
