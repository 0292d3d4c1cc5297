/-
  CONTRACT of sheavelaw37.awake.
  Conditions: those that each theorem names.
-/
import Derived.Test.YtfcimilimojfoaaDoorSb10
import Derived.Test.YtfcimilimojfoaaDoorSb7
import Derived.Test.YtfcimilimojfoaaDoorSb8
import Derived.Deep.DeepCutAuto
namespace Go.Proofs.YtfcimilimojfoaaDoor
open Go.RowKit Go.Sv Go.Lx
/-- one append of one element of more cells, in a region that draws its order -/
theorem step_ownN {P : Program} {t e : TypeId} {z : Value} {size bytes : Nat} {w : World} (E : ElemT P t e z size bytes) {ops : Array Oper} {o : Oper} {a : Act} {K : Act → World → Prop} {Q : Exit → Act → World → Prop} {X : Prop} (hgd : o.guard = none) (s x : Operand)
    (ho : o.op = .call { callee := .builtin .append, args := #[s, x], argTypes := #[t, t] }) (base : Nat) (v : Value) (n : Nat) (xs : List Value) (hown : w.ownsRow base e size v n xs) (hs : a.eval s = v)
    (B : Nat) (hx : a.eval x = .slice (some ⟨B, 0, none⟩) 1 1) (cs : List Value) (hcl : cs.length = size) (hc : ∀ j u, cs[j]? = some u → w.cell? ⟨B, j, none⟩ = some u) (hu : ∀ u ∈ cs, u.oneCell' = true) (hn : n ≤ 1000000) (hby : bytes ≤ 4096) (hbase : base ≤ w.heap.size)
    (h : ∀ v' w', w'.ownsRow base e size v' (n + 1) (xs ++ cs) → Below base w w' → K (a.put o.dst v') w') :
    if Region.wanted o (yielded ops a.tmps) = true then Oper.wp P o a w K Q else X := by
  have hw : Region.wanted o (yielded ops a.tmps) = true := by simp [Region.wanted, hgd]
  rw [if_pos hw]
  obtain ⟨v', w', hr, h2, h3, h4⟩ := run_append_arr E w o.type base v n xs hown (some ⟨B, 0, none⟩) 1 1 cs (by rw [hcl, Nat.one_mul]) hu (fun h => by cases h) (fun ad had j y hy => by
    injection had with had
    subst had
    have e : (⟨B, 0, none⟩ : Addr).add j = ⟨B, j, none⟩ := by
      unfold Addr.add
      split
      · rename_i h0; rw [h0]
      · simp
    rw [e]
    exact hc j y hy) (by omega) hby hbase
  unfold Oper.wp execOp
  simp only [ho, resolve, invoke, builtin, Sem.run_bind, Sem.run_pure, Result.andThen_ok, List.map_toArray, List.map_cons, List.map_nil, hs, hx, hr]
  exact h v' w' h2 (own_below hown h3 hbase)
theorem own_newN {w : World} {B s n : Nat} {e : TypeId} {cs : List Value} (hl : cs.length = n * s) (hB : B ≤ w.heap.size) (hn : n ≤ 1000000) : (w.alloc (.cells cs.toArray e)).ownsRow B e s (.slice (some ⟨w.heap.size, 0, none⟩) n n) n cs :=
  ⟨hl, Or.inr ⟨w.heap.size, n, cs.toArray, rfl, hB, Whole.new w e cs.toArray, Nat.le_refl _, by unfold maxLen; omega, by simp [hl], by rw [List.take_of_length_le (by simp [hl])]⟩⟩
/-- a row of steps reads -/
theorem own_sp {W : World} {B c : Nat} {A : Option Addr} {l : List Sp} (h : W.ownsRow B 52 3 (.slice A l.length c) l.length (spRow l)) : ArrN W W.heap.size 3 A l.length (spF l) := by
  obtain ⟨A', c', hv, _, _, ha⟩ := own_arrN (f := spF l) h (fun k hk i hi => spRow_get hk hi)
  injection hv with h1
  rw [h1]
  exact ha
/-- Same at a list of the call's own and one in a new block -/
theorem same_new {W : World} {B c n : Nat} {A : Option Addr} {l m : List Sp} {cs : List Value} (h : W.ownsRow B 52 3 (.slice A l.length c) l.length (spRow l)) (hm : m.length = n) (hcs : spRow m = cs) (hl : l.length ≤ 1000000) (hn : n ≤ 1000000) :
    Calls Tryd.prog 15 #[.slice A l.length c, .slice (some ⟨W.heap.size, 0, none⟩) n n] (W.alloc (.cells cs.toArray 52)) fun e w' => e = .returned (.bool (decide (l = m))) ∧ Below W.heap.size W w' := by
  subst hm hcs
  have ha : Below W.heap.size W (W.alloc (.cells (spRow m).toArray 52)) := (Below.refl _ _).alloc (Nat.le_refl _) _
  have h2 := own_newN (w := W) (B := W.heap.size) (s := 3) (n := m.length) (e := 52) (cs := spRow m) (spRow_len m) (Nat.le_refl _) hn
  exact (rsame_any A _ c m.length l m _ _ (own_sp (own_to h ha)) (own_sp h2) hl hn).mono fun e w' ⟨he, hb⟩ => ⟨he, ha.trans (hb.mono ha.size)⟩
theorem ex_l3 : spRow [(⟨1, 0, 1⟩ : Sp), ⟨2, 0, 0⟩] ++ [.int .i64 3, .int .i64 0, .int .i64 0] = spRow [⟨1, 0, 1⟩, ⟨2, 0, 0⟩, ⟨3, 0, 0⟩] := (spRow_snoc [⟨1, 0, 1⟩, ⟨2, 0, 0⟩] ⟨3, 0, 0⟩).symm
theorem exP_bd : PBd exP := ⟨by decide, by decide, by decide, by decide, fun k hk => by
  obtain rfl : k = 0 := by simpa [exP] using hk
  decide⟩
set_option maxHeartbeats 4000000 in
set_option maxRecDepth 100000 in
theorem awake_any (w : World) : Calls Tryd.prog 13 #[] w fun e w' => e = .returned (.bool true) ∧ Below w.heap.size w w' := by
  have HX := Lib.hid (example_any w)
  go_enter Tryd.func13, Tryd.ntmps13
  go_wp2_with fail
  with_reducible refine HX.out.mono ?_
  rintro e w1 ⟨_, rfl, hb1, ⟨qa0, qc0, qa1, qc1, qa2, qc2, qa3, qc3⟩, rfl, hp⟩
  have hp1 := hp
  obtain ⟨W1, hW1, S1', hB1⟩ := fm_boxE ((Fm.init w).call hb1) 33 [.slice qa0 exP.vs.length qc0, .slice qa1 exP.now.length qc1, .slice qa2 exP.tgt.length qc2, .slice qa3 exP.tabs.length qc3]
  have HS := Lib.hid (rstart_any exP ⟨qa0, qc0, qa1, qc1, qa2, qc2, qa3, qc3⟩ W1 (hp.to hB1) exP_bd ex_ok)
  rw [ex_st] at HS
  replace hp := Lib.hid (hp.to hB1)
  obtain ⟨⟨r1, f1, r10, r11, r12, r13, -⟩, -⟩ := S1'.facts
  replace S1 := Lib.hid S1'
  clear hp1 S1'
  go_wp2_with fail
  clear hW1
  with_reducible refine HS.out.mono ?_
  rintro e w2 ⟨_, rfl, hb2, ⟨ma0, mc0, ma1, mc1, ma2, mc2⟩, rfl, ha2⟩
  have S2 := S1.out.call hb2
  obtain ⟨W2, hW2, S2', hB2⟩ := fm_boxE S2 36 [.slice ma0 ex0.base.length mc0, .slice ma1 ex0.next.length mc1, .slice ma2 ex0.held.length mc2]
  have hp2 := Lib.hid ((hp.out.to hb2).to hB2)
  have hbd2 := Lib.hid (ha2.bd (by decide))
  have hm2 := Lib.hid (ha2.mix.to hB2)
  obtain ⟨W3, hW3, S3, hB3⟩ := fm_boxE S2' 3 [.int .i64 1]
  have hp3 := Lib.hid (hp2.out.to hB3)
  have hm3 := Lib.hid (hm2.out.to hB3)
  have hT : Arr W3 W3.heap.size (some ⟨W2.heap.size, 0, none⟩) [(1 : Int)].length (iv [1]) := fun _ => ⟨W2.heap.size, 0, rfl, by rw [← hW3]; simp, fun k hk => by
    obtain rfl : k = 0 := by simpa using hk
    exact S3.facts.1.2.2.1⟩
  have HD := Lib.hid (Direct_any exP ⟨qa0, qc0, qa1, qc1, qa2, qc2, qa3, qc3⟩ ex0 ⟨ma0, mc0, ma1, mc1, ma2, mc2⟩ (some ⟨W2.heap.size, 0, none⟩) 1 [1] W3 hp3.out exP_bd hm3.out hbd2.out hT (by decide))
  rw [ex_dir.1, ex_dir.2] at HD
  dsimp only [probV, mixV, List.length_cons, List.length_nil] at HD
  clear r1 f1 r10 r11 r12 r13 ha2 S2
  obtain ⟨⟨u2, g2, u20, u21, u22, -⟩, ⟨u1, g1, u10, u11, u12, u13, -⟩, -⟩ := S2'.facts
  obtain ⟨-, ⟨v2, h2, v20, v21, v22, -⟩, ⟨v1, h1, v10, v11, v12, v13, -⟩, -⟩ := S3.facts
  replace S3 := Lib.hid S3
  clear S2' hT
  go_wp2_with fail
  clear hW2 hW3
  with_reducible refine HD.out.mono ?_
  rintro e w4 ⟨_, rfl, hb4, A4, c4, rfl, ho4⟩
  have S4 := Lib.hid (S3.out.call hb4)
  have hp4 := Lib.hid (hp3.out.to hb4)
  have hm4 := Lib.hid (hm3.out.to hb4)
  obtain ⟨_, _, hv4, hn4, -, hLa⟩ := own_arrN (f := spF [⟨1, 0, 1⟩, ⟨2, 0, 0⟩]) ho4 (fun k hk i hi => spRow_get hk hi)
  injection hv4 with hv5 hvx hvc
  subst hv5
  clear hvx hvc
  have hnil := own_nil ho4
  have CL := Lib.hid (fun W (h : Below w4.heap.size w4 W) => cloneS_any A4 c4 [⟨1, 0, 1⟩, ⟨2, 0, 0⟩] W ((hLa.below h).more h.size) hnil (by decide))
  have RN := Lib.hid (fun A c W (h : Below w4.heap.size w4 W) (hA : ArrN W W.heap.size 3 A [(⟨1, 0, 1⟩ : Sp), ⟨2, 0, 0⟩, ⟨3, 0, 0⟩].length (spF [⟨1, 0, 1⟩, ⟨2, 0, 0⟩, ⟨3, 0, 0⟩])) => Run_any exP ⟨qa0, qc0, qa1, qc1, qa2, qc2, qa3, qc3⟩ ex0 ⟨ma0, mc0, ma1, mc1, ma2, mc2⟩ A c [⟨1, 0, 1⟩, ⟨2, 0, 0⟩, ⟨3, 0, 0⟩] W (hp4.out.to h) exP_bd (hm4.out.to h) hbd2.out hA (by decide))
  rw [ex_run.1, ex_run.2.1, ex_run.2.2] at RN
  dsimp only [probV, mixV, List.length_cons, List.length_nil] at RN CL
  have EN := Lib.hid (fun W (h : Below w4.heap.size w4 W) => Enabled_any exP ⟨qa0, qc0, qa1, qc1, qa2, qc2, qa3, qc3⟩ ex0 ⟨ma0, mc0, ma1, mc1, ma2, mc2⟩ W (hp4.out.to h) exP_bd (hm4.out.to h) hbd2.out)
  rw [ex_en.1, ex_en.2] at EN
  dsimp only [probV, mixV, List.length_cons, List.length_nil] at EN
  clear u2 g2 u20 u21 u22 u1 g1 u10 u11 u12 u13 v2 h2 v20 v21 v22 v1 h1 v10 v11 v12 v13
  obtain ⟨-, ⟨v2, h2, v20, v21, v22, -⟩, ⟨v1, h1, v10, v11, v12, v13, -⟩, -⟩ := S4.out.facts
  have hL4 := Lib.hid (And.intro hLa ho4)
  clear hLa ho4 hnil hn4
  go_upto_region 4 with fail
  go_cut [6, 7, 8] (fun s6 s7 s8 wx => ∃ (A : Option Addr) (c : Nat) (Q : Nat → MixP), s6 = .slice A 4 c ∧ s7 = .int .i64 3 ∧ s8 = .int .i64 0 ∧ Below w4.heap.size w4 wx ∧ ArrN wx wx.heap.size 3 A 4 (mxF [ex0, ex1, ex2, ex3] Q) ∧ ∀ k, k < 4 → RMix wx wx.heap.size (mxAt [ex0, ex1, ex2, ex3] k) (Q k))
  case first =>
    have i1 : ¬ w1.heap.size = w4.heap.size := by omega
    have i2 : ¬ w2.heap.size = w4.heap.size := by omega
    go_region_held3 (fun w' => w'.cell? ⟨w1.heap.size, 0, none⟩ = some (.slice qa0 exP.vs.length qc0) ∧ w'.cell? ⟨w1.heap.size, 1, none⟩ = some (.slice qa1 exP.now.length qc1) ∧ w'.cell? ⟨w1.heap.size, 2, none⟩ = some (.slice qa2 exP.tgt.length qc2) ∧ w'.cell? ⟨w1.heap.size, 3, none⟩ = some (.slice qa3 exP.tabs.length qc3) ∧
        w'.cell? ⟨w2.heap.size, 0, none⟩ = some (.slice ma0 ex0.base.length mc0) ∧ w'.cell? ⟨w2.heap.size, 1, none⟩ = some (.slice ma1 ex0.next.length mc1) ∧ w'.cell? ⟨w2.heap.size, 2, none⟩ = some (.slice ma2 ex0.held.length mc2)) (go_keep)
      (first
        | ((with_reducible refine (CL.out w4.drew ((Drawn.refl _).drew).below).mono ?_)
           rintro e w5 ⟨_, rfl, hb5, A5, c5, rfl, ho5⟩
           have hb5' : Hid (Below w4.heap.size w4 w5) := Lib.hid (((Drawn.refl w4).drew).below.trans hb5)
           have S5 := Lib.hid (S4.out.call hb5'.out)
           have hO5a : Hid (w5.ownsRow w4.heap.size 52 3 (.slice A5 2 c5) 2 (spRow [⟨1, 0, 1⟩, ⟨2, 0, 0⟩])) := Lib.hid (own_base ho5 (B' := w4.heap.size) (Nat.le_refl _))
           clear hb5 ho5 v2 h2 v20 v21 v22 v1 h1 v10 v11 v12 v13
           obtain ⟨-, ⟨v2, h2, v20, v21, v22, -⟩, ⟨v1, h1, v10, v11, v12, v13, -⟩, -⟩ := S5.out.facts)
        | ((with_reducible refine (CL.out (w4.alloc (.cells #[.int .i64 3, .int .i64 0, .int .i64 0] 52)).drew (((Below.refl _ _).alloc (Nat.le_refl _) _).drawn ((Drawn.refl _).drew))).mono ?_)
           rintro e w5 ⟨_, rfl, hb5, A5, c5, rfl, ho5⟩
           have hb5x := Lib.hid (((Drawn.refl (w4.alloc (.cells #[.int .i64 3, .int .i64 0, .int .i64 0] 52))).drew).below.trans hb5)
           have hb5' := Lib.hid ((((Below.refl w4.heap.size w4).alloc (Nat.le_refl _) (.cells #[.int .i64 3, .int .i64 0, .int .i64 0] 52))).trans (hb5x.out.mono (by simp)))
           have S5 := Lib.hid (S4.out.call hb5'.out)
           have hO5b := Lib.hid (own_base ho5 (B' := w4.heap.size) (by simp))
           have hcb : Hid (∀ j u, [Value.int .i64 3, .int .i64 0, .int .i64 0][j]? = some u → w5.cell? ⟨w4.heap.size, j, none⟩ = some u) := Lib.hid fun j u hu => by
             rw [hb5x.out.cell (p := ⟨w4.heap.size, j, none⟩) (by simp), World.cell?_alloc_new]
             simpa using hu
           clear hb5 ho5 v2 h2 v20 v21 v22 v1 h1 v10 v11 v12 v13
           obtain ⟨-, ⟨v2, h2, v20, v21, v22, -⟩, ⟨v1, h1, v10, v11, v12, v13, -⟩, -⟩ := S5.out.facts)
        | (refine step_ownN elStep (by rfl) _ _ (by rfl) w4.heap.size _ 2 (spRow [⟨1, 0, 1⟩, ⟨2, 0, 0⟩]) (hO5a.out.alloc _) (by rfl) _ (by rfl) [.int .i64 3, .int .i64 0, .int .i64 0] rfl (fun j u hu => by rw [World.cell?_alloc_new]; simpa using hu) (by decide) (by decide) (by decide) (by have := hb5'.out.size; simp; omega) ?_
           intro v' w6 hown6 hb6
           have hb6' := Lib.hid ((hb5'.out.alloc hb5'.out.size _).trans hb6)
           rw [ex_l3] at hown6
           obtain ⟨A6, c6, rfl, -, -, -⟩ := own_form hown6
           obtain ⟨_, _, hv6, -, -, hA6⟩ := own_arrN (f := spF [⟨1, 0, 1⟩, ⟨2, 0, 0⟩, ⟨3, 0, 0⟩]) hown6 (fun k hk i hi => spRow_get hk hi)
           injection hv6 with hv6 hx1 hx2
           subst hv6
           clear hx1 hx2
           have hA6' := Lib.hid hA6
           have S6 := Lib.hid (S4.out.call hb6'.out)
           clear hown6 hA6 hb6 v2 h2 v20 v21 v22 v1 h1 v10 v11 v12 v13
           obtain ⟨-, ⟨v2, h2, v20, v21, v22, -⟩, ⟨v1, h1, v10, v11, v12, v13, -⟩, -⟩ := S6.out.facts)
        | (refine step_ownN elStep (by rfl) _ _ (by rfl) w4.heap.size _ 2 (spRow [⟨1, 0, 1⟩, ⟨2, 0, 0⟩]) hO5b.out (by rfl) _ (by rfl) [.int .i64 3, .int .i64 0, .int .i64 0] rfl hcb.out (by decide) (by decide) (by decide) hb5'.out.size ?_
           intro v' w6 hown6 hb6
           have hb6' := Lib.hid (hb5'.out.trans hb6)
           rw [ex_l3] at hown6
           obtain ⟨A6, c6, rfl, -, -, -⟩ := own_form hown6
           obtain ⟨_, _, hv6, -, -, hA6⟩ := own_arrN (f := spF [⟨1, 0, 1⟩, ⟨2, 0, 0⟩, ⟨3, 0, 0⟩]) hown6 (fun k hk i hi => spRow_get hk hi)
           injection hv6 with hv6 hx1 hx2
           subst hv6
           clear hx1 hx2
           have hA6' := Lib.hid hA6
           have S6 := Lib.hid (S4.out.call hb6'.out)
           clear hown6 hA6 hb6 v2 h2 v20 v21 v22 v1 h1 v10 v11 v12 v13
           obtain ⟨-, ⟨v2, h2, v20, v21, v22, -⟩, ⟨v1, h1, v10, v11, v12, v13, -⟩, -⟩ := S6.out.facts)
        | ((with_reducible refine (RN.out A6 c6 w6 hb6'.out hA6'.out).mono ?_)
           rintro e w7 ⟨_, rfl, hb7, A7, c7, Q7, rfl, hM7⟩
           have hb7' := Lib.hid (hb6'.out.trans (hb7.mono hb6'.out.size))
           have hMx7 := Lib.hid (And.intro hM7 hb7.size)
           have S7 := Lib.hid (S4.out.call hb7'.out)
           clear hM7 hb7 v2 h2 v20 v21 v22 v1 h1 v10 v11 v12 v13
           obtain ⟨-, ⟨v2, h2, v20, v21, v22, -⟩, ⟨v1, h1, v10, v11, v12, v13, -⟩, -⟩ := S7.out.facts))
    all_goals (go_wp2_with fail; go_meet)
    all_goals
      obtain ⟨_, _, hv7, ha7⟩ := hMx7.out.1.arr
      injection hv7 with hv7 hx1 hx2
      subst hv7
      exact ⟨_, _, Q7, rfl, rfl, rfl, hb7'.out, ha7, fun k hk => (hMx7.out.1.el k hk).mix hMx7.out.2⟩
  case rest =>
    rename World => wx
    obtain ⟨A6, c6, Q, rfl, rfl, rfl, hbX, hMX, hRd⟩ := hcut
    have S5 := Lib.hid (S4.out.call hbX)
    clear v2 h2 v20 v21 v22 v1 h1 v10 v11 v12 v13 RN CL
    obtain ⟨-, ⟨v2, h2, v20, v21, v22, -⟩, ⟨v1, h1, v10, v11, v12, v13, -⟩, -⟩ := S5.out.facts
    obtain ⟨bM, oM, rfl, hbM, hcM⟩ := hMX (by decide)
    have g3 : wx.cell? ⟨bM, oM + 9 + 2, none⟩ = some (.slice (Q 3).a2 1 (Q 3).c2) := hcM 3 (by decide) 2 (by decide)
    have g1 : wx.cell? ⟨bM, oM + 3 + 2, none⟩ = some (.slice (Q 1).a2 1 (Q 1).c2) := hcM 1 (by decide) 2 (by decide)
    obtain ⟨b3, o3, e3, hb3, hc3⟩ := (hRd 3 (by decide)).r2 (by decide)
    obtain ⟨b1, o1, e1, hb1', hc1⟩ := (hRd 1 (by decide)).r2 (by decide)
    have k3 : wx.cell? ⟨b3, o3, none⟩ = some (.int .u8 2) := hc3 0 (by decide)
    have k1 : wx.cell? ⟨b1, o1, none⟩ = some (.int .u8 3) := hc1 0 (by decide)
    obtain ⟨⟨q30, q31, q32, q33, q34, q35⟩, hq3⟩ : ∃ y, Q 3 = y := ⟨_, rfl⟩
    obtain ⟨⟨q10, q11, q12, q13, q14, q15⟩, hq1⟩ : ∃ y, Q 1 = y := ⟨_, rfl⟩
    rw [hq3] at g3 e3
    rw [hq1] at g1 e1
    dsimp only at g3 g1 e3 e1
    subst e3 e1
    replace hbX := Lib.hid hbX
    clear hMX hRd hcM hc3 hc1 hq3 hq1
    go_wp2_with fail
    with_reducible refine (EN.out wx hbX.out).mono ?_
    rintro e w9 ⟨_, rfl, hb9, A9, c9, rfl, ho9⟩
    have S9 := Lib.hid (S5.out.call hb9)
    have hb9' := Lib.hid (hbX.out.trans (hb9.mono hbX.out.size))
    have FO := Lib.hid (Format_any ⟨1, 0, 1⟩ w9 (fun _ => by decide +kernel) (fun _ W _ => itoaS_any 0 (by decide) W) (fun _ W _ => itoaS_any 1 (by decide) W))
    rw [show foE ⟨1, 0, 1⟩ = 0 by decide, show foT ⟨1, 0, 1⟩ = [115, 116, 97, 114, 116, 32, 48, 32, 49] by decide +kernel] at FO
    go_wp2_with fail
    with_reducible refine FO.out.mono ?_
    rintro e w10 ⟨_, rfl, hb10, rfl⟩
    have hbb := Lib.hid (hb9.trans (hb10.mono hb9.size))
    have G3 := (hbb.out.cell (p := ⟨bM, oM + 9 + 2, none⟩) hbM).trans g3
    have G1 := (hbb.out.cell (p := ⟨bM, oM + 3 + 2, none⟩) hbM).trans g1
    have K3 := (hbb.out.cell (p := ⟨b3, o3, none⟩) hb3).trans k3
    have K1 := (hbb.out.cell (p := ⟨b1, o1, none⟩) hb1').trans k1
    have hO9 := Lib.hid (own_to ho9 hb10)
    have hO4 := Lib.hid (own_to hL4.out.2 (hb9'.out.trans (hb10.mono hb9'.out.size)))
    have hbM' := Nat.lt_of_lt_of_le hbM hbb.out.size
    have hb3' := Nat.lt_of_lt_of_le hb3 hbb.out.size
    have hb1'' := Nat.lt_of_lt_of_le hb1' hbb.out.size
    have S10 := Lib.hid (S9.out.call hb10)
    clear v2 h2 v20 v21 v22 v1 h1 v10 v11 v12 v13 g3 g1 k3 k1 hb9 hb10 ho9 EN FO HD HS
    have SM1 := Lib.hid (same_new (W := w10) (m := [⟨1, 0, 1⟩]) (n := 1) (cs := [.int .i64 1, .int .i64 0, .int .i64 1]) hO9.out rfl rfl (by decide) (by decide))
    rw [show decide ([(⟨1, 0, 1⟩ : Sp)] = [⟨1, 0, 1⟩]) = true by decide] at SM1
    dsimp only [List.length_cons, List.length_nil] at SM1
    go_wp2_with fail
    with_reducible refine SM1.out.mono ?_
    rintro e w12 ⟨rfl, hb12⟩
    have S12 := Lib.hid (S10.out.call hb12)
    have SM2 := Lib.hid (same_new (W := w12) (m := [⟨1, 0, 1⟩, ⟨2, 0, 0⟩]) (n := 2) (cs := [.int .i64 1, .int .i64 0, .int .i64 1, .int .i64 2, .int .i64 0, .int .i64 0]) (own_to hO4.out hb12) rfl rfl (by decide) (by decide))
    rw [show decide ([(⟨1, 0, 1⟩ : Sp), ⟨2, 0, 0⟩] = [⟨1, 0, 1⟩, ⟨2, 0, 0⟩]) = true by decide] at SM2
    dsimp only [List.length_cons, List.length_nil] at SM2
    clear hb12 G3 G1 K3 K1
    go_wp2_with fail
    with_reducible refine SM2.out.mono ?_
    rintro e w13 ⟨rfl, hb13⟩
    have S13 := Lib.hid (S12.out.call hb13)
    clear hb13
    go_wp2
    go_ret
    exact ⟨rfl, S13.out.bel⟩
end Go.Proofs.YtfcimilimojfoaaDoor
