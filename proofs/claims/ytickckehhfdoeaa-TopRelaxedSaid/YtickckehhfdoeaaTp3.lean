/-
  CONTRACT of plan.key: the text of a mix; different mixes have different texts.
  Conditions: those that each theorem names.
-/
import Derived.Test.YtickckehhfdoeaaTp2
import Derived.Laws.BytesArg
import Derived.Maps.OwnSet

namespace Go.Sv
open Go.RowKit
/-! ### plain -/
def kyN (m : Mx) : Nat → List Int
  | 0 => []
  | i + 1 => kyN m i ++ [gi m.base i, gi m.next i + 1]
def keyL (m : Mx) : List Int := kyN m m.base.length ++ m.held
theorem kyN_len (m : Mx) : ∀ i, (kyN m i).length = 2 * i
  | 0 => rfl
  | i + 1 => by rw [kyN, List.length_append, kyN_len m i]; simp; omega
theorem nums_inj : ∀ {l k : List Int}, (∀ x ∈ l, 0 ≤ x ∧ x < 256) → (∀ x ∈ k, 0 ≤ x ∧ x < 256) → (l.map fun n => UInt8.ofNat n.toNat) = (k.map fun n => UInt8.ofNat n.toNat) → l = k
  | [], [], _, _, _ => rfl
  | [], y :: k, _, _, h => by simp at h
  | x :: l, [], _, _, h => by simp at h
  | x :: l, y :: k, h1, h2, h => by
    rw [List.map_cons, List.map_cons] at h
    injection h with ha hb
    have e := nums_inj (fun z hz => h1 z (List.mem_cons_of_mem _ hz)) (fun z hz => h2 z (List.mem_cons_of_mem _ hz)) hb
    have hx := h1 x (List.mem_cons_self ..)
    have hy := h2 y (List.mem_cons_self ..)
    have : x.toNat = y.toNat := by
      have := congrArg UInt8.toNat ha
      simp only [UInt8.toNat_ofNat'] at this
      omega
    rw [e, show x = y by omega]
theorem kyN_inj {m m' : Mx} : ∀ i, kyN m i = kyN m' i → ∀ j, j < i → gi m.base j = gi m'.base j ∧ gi m.next j = gi m'.next j
  | 0, _, j, hj => by omega
  | i + 1, h, j, hj => by
    rw [kyN, kyN] at h
    have hl : (kyN m i).length = (kyN m' i).length := by rw [kyN_len, kyN_len]
    obtain ⟨h1, h2⟩ := List.append_inj h hl
    by_cases e : j = i
    · subst e
      injection h2 with a b
      injection b with b _
      exact ⟨a, by omega⟩
    · exact kyN_inj i h1 j (by omega)
theorem kyN_bd {p : Prob} {m : Mx} (h : MOk p m) : ∀ i, i ≤ p.vs.length → ∀ x ∈ kyN m i, 0 ≤ x ∧ x < 256
  | 0, _, x, hx => by cases hx
  | i + 1, hi, x, hx => by
    rw [kyN] at hx
    rcases List.mem_append.1 hx with hx | hx
    · exact kyN_bd h i (by omega) x hx
    · have := h.sv i (by omega)
      have := vs_le h.pr (i := i) (by omega)
      simp at hx
      omega
theorem keyL_bd {p : Prob} {m : Mx} (h : MOk p m) (h8 : H8 m) : ∀ x ∈ keyL m, 0 ≤ x ∧ x < 256 := by
  intro x hx
  unfold keyL at hx
  rcases List.mem_append.1 hx with hx | hx
  · exact kyN_bd h _ (by rw [h.lb]; exact Nat.le_refl _) x hx
  · obtain ⟨i, hi, rfl⟩ := List.getElem_of_mem hx
    have := h8 i hi
    simpa [gi, hi] using this
/-- different valid mixes have different texts -/
theorem key_inj {p : Prob} {m m' : Mx} (h : MOk p m) (h' : MOk p m') (h8 : H8 m) (h8' : H8 m') (he : strOfNums (keyL m) = strOfNums (keyL m')) : m = m' := by
  have he2 := congrArg (fun s => s.data.toList) he
  have he2 : (keyL m).map (fun n => UInt8.ofNat n.toNat) = (keyL m').map (fun n => UInt8.ofNat n.toNat) := he2
  have hk := nums_inj (keyL_bd h h8) (keyL_bd h' h8') he2
  unfold keyL at hk
  rw [h.lb, h'.lb] at hk
  obtain ⟨h1, h2⟩ := List.append_inj hk (by rw [kyN_len, kyN_len])
  have hj := kyN_inj p.vs.length h1
  have e1 : m.base = m'.base := gi_ext (by rw [h.lb, h'.lb]) fun k hk => (hj k (by rw [← h.lb]; exact hk)).1
  have e2 : m.next = m'.next := gi_ext (by rw [h.ln, h'.ln]) fun k hk => (hj k (by rw [← h.ln]; exact hk)).2
  cases m
  cases m'
  simp only at e1 e2 h2
  rw [e1, e2, h2]
end Go.Sv
namespace Go.Proofs.Ytickckehhfdoeaa
open Go.RowKit Go.Sv
theorem elU8 : ElemT Try.prog 29 5 (.int .u8 0) 1 1 := ⟨Try.underlying29, by kernel_rfl, rfl, by decide⟩
theorem step_ownN {P : Program} {t e : TypeId} {z : Value} {bytes : Nat} {w : World} (E : ElemT P t e z 1 bytes) {ops : Array Oper} {o : Oper} {a : Act} {K : Act → World → Prop} {Q : Exit → Act → World → Prop} {X : Prop} (hgd : o.guard = none) (s x : Operand)
    (ho : o.op = .call { callee := .builtin .append, args := #[s, x], argTypes := #[t, t] }) (base : Nat) (v : Value) (n : Nat) (xs : List Value) (hown : w.ownsRow base e 1 v n xs) (hs : a.eval s = v)
    (B k : Nat) (hx : a.eval x = .slice (some ⟨B, 0, none⟩) k k) (us : List Value) (hl : us.length = k) (hc : ∀ j u, us[j]? = some u → w.cell? ⟨B, j, none⟩ = some u) (hu : ∀ u ∈ us, u.oneCell' = true) (hn : n ≤ 1000000) (hk : k ≤ 1000) (hby : bytes ≤ 4096) (hbase : base ≤ w.heap.size)
    (h : ∀ v' w', w'.ownsRow base e 1 v' (n + k) (xs ++ us) → w.grownBy w' v.ownBlock → (v'.ownBlock = v.ownBlock ∨ v'.ownBlock = some w.heap.size) → K (a.put o.dst v') w') :
    if Region.wanted o (yielded ops a.tmps) = true then Oper.wp P o a w K Q else X := by
  have hw : Region.wanted o (yielded ops a.tmps) = true := by simp [Region.wanted, hgd]
  rw [if_pos hw]
  obtain ⟨v', w', hr, h2, h3, h4⟩ := run_append_arr E w o.type base v n xs hown (some ⟨B, 0, none⟩) k k us (by rw [hl, Nat.mul_one]) hu (fun h => by cases h) (fun ad had j y hy => by
    injection had with had
    subst had
    have e : (⟨B, 0, none⟩ : Addr).add j = ⟨B, j, none⟩ := by
      unfold Addr.add
      split
      · rename_i h0; rw [h0]
      · simp
    rw [e]
    exact hc j y hy) (by omega) hby hbase
  unfold Oper.wp execOp
  simp only [ho, resolve, invoke, builtin, Sem.run_bind, Sem.run_pure, Result.andThen_ok, List.map_toArray, List.map_cons, List.map_nil, hs, hx, hr]
  exact h v' w' h2 h3 h4
def byR (l : List Int) : List Value := l.map fun x => .int .u8 x
def KO (wr : World) (B : Nat) (l : List Int) (v : Value) : Prop := wr.ownsRow B 5 1 v l.length (byR l)
theorem u8w {x : Int} (h0 : 0 ≤ x) (h : x < 256) : IntKind.u8.wrap x = x := wrap8 h0 h
theorem ko_conv {wr : World} {B : Nat} {l : List Int} {v : Value} (h : KO wr B l v) : ∃ A c, v = .slice A l.length c ∧ (convert 29 9 (.slice A l.length c)).run Try.prog wr = .ok (.string (strOfNums l)) wr := by
  have hs : Try.prog.underlying 29 = some (.slice 5) := Try.underlying29
  have he : Try.prog.underlying 5 = some (.int .u8) := by kernel_rfl
  have hd : Try.prog.underlying 9 = some .string := by kernel_rfl
  rcases h.2 with ⟨rfl, h0⟩ | ⟨g, cap, cur, rfl, hB, hw, hnc, hm, hsz, ht⟩
  · have e : l = [] := List.eq_nil_of_length_eq_zero h0
    subst e
    exact ⟨none, 0, rfl, run_convert_bytes_nil wr _ _ hs he 0 0 _ hd⟩
  · refine ⟨some ⟨g, 0, none⟩, cap, rfl, run_convert_bytes_arg wr _ _ hs he g 0 l.length cap l rfl (fun i hi => ?_) _ hd⟩
    have hc := World.ownsRow.cellAt h i (by rw [Nat.mul_one]; exact hi)
    rw [Nat.zero_add, hc]
    unfold byR
    simp [hi]
set_option maxHeartbeats 4000000 in
set_option maxRecDepth 100000 in
theorem key_any (p : Prob) (m : Mx) (qm : MixP) (w : World) (hm : RMix w w.heap.size m qm) (hok : MOk p m) (_h8 : H8 m) :
    Calls Try.prog 80 #[mixV m qm] w fun e w' => e = .returned (.string (strOfNums (keyL m))) ∧ Below w.heap.size w w' := by
  obtain ⟨a0, c0, a1, c1, a2, c2⟩ := qm
  obtain ⟨W, hW, S⟩ : ∃ W, w.alloc (.cells #[.slice a0 m.base.length c0, .slice a1 m.next.length c1, .slice a2 m.held.length c2] 56) = W ∧ Fm w W _ _ := ⟨_, rfl, (Fm.init w).box 56 [.slice a0 m.base.length c0, .slice a1 m.next.length c1, .slice a2 m.held.length c2]⟩
  obtain ⟨h6, h12, -, -⟩ := prob_small hok.pr
  have hmW := Lib.hid (fun W2 (h : Below W.heap.size W W2) => (hm.to S.bel).to h)
  have lb := hok.lb
  have ln := hok.ln
  have lh := hok.lh
  have hb6 : m.base.length ≤ 6 := by omega
  have hh12 : m.held.length ≤ 12 := by omega
  have hnb : m.next.length = m.base.length := by omega
  have hsv := Lib.hid (fun i (h : i < m.base.length) => hok.sv i (by omega))
  have hvs := Lib.hid (fun i (h : i < m.base.length) => vs_le hok.pr (i := i) (by omega))
  obtain ⟨ix, hi1, e1, e2, e3⟩ := info_parts elU8.hi
  obtain ⟨⟨r1, f1, r10, r11, r12, -⟩, -⟩ := S.facts
  have SW := Lib.hid S
  replace hnb := Lib.hid hnb
  have wl : IntKind.i64.wrap (2 * (m.base.length : Int)) = ((2 * m.base.length : Nat) : Int) := by rw [IntKind.wrap_i64]; omega
  have wl2 : IntKind.i64.wrap (2 * (m.base.length : Int) + (m.held.length : Int)) = ((2 * m.base.length + m.held.length : Nat) : Int) := by rw [IntKind.wrap_i64]; omega
  clear S hm hok lb ln lh
  go_enter Try.func80, Try.ntmps80
  go_wp2_with
    (first
      | (refine wpList_make_own (o := ⟨some 15, _, _, _, _, _⟩) _ rfl _ _ 29 rfl W.heap.size 5 ix (.int .u8 0) 1 elU8.ht hi1 e1 e2 .i64 .i64 (2 * (m.base.length : Int) + (m.held.length : Int)) (2 * m.base.length + m.held.length) (by go_simp) (by go_simp) (by omega) (by rw [e3]; omega) (by unfold maxLen; omega) (Nat.le_refl _) ?_
         intro w2 hown2 hg2
         have hb2 := Lib.hid ((Below.refl W.heap.size W).grown hg2 (Nat.le_refl _) (fun k hk => by cases hk))
         have S2 := Lib.hid (SW.out.call hb2.out)
         clear r1 f1 r10 r11 r12 wl wl2
         obtain ⟨⟨r1, f1, r10, r11, r12, -⟩, -⟩ := S2.out.facts
         replace hown2 := Lib.hid hown2))
  clear hW r1 f1 r10 r11 r12 hg2
  go_loopw [3, 19] (fun v s19 wr => ∃ i : Nat, i ≤ m.base.length ∧ s19 = .int .i64 (i : Int) ∧ KO wr W.heap.size (kyN m i) v ∧ Below W.heap.size W wr) (fun _ s19 _ => m.base.length - (intOf s19).toNat)
  case atStart => exact ⟨0, Nat.zero_le _, rfl, hown2.out, hb2.out⟩
  case round =>
    obtain ⟨i, hi, rfl, hown, hbel⟩ := hrel
    have T := Lib.hid (SW.out.call hbel)
    obtain ⟨⟨r1, f1, r10, r11, r12, -⟩, -⟩ := T.out.facts
    have hB : W.heap.size ≤ wr.heap.size := hbel.size
    have hmr := hmW.out wr hbel
    replace hbel := Lib.hid hbel
    by_cases hlt : i < m.base.length
    · obtain ⟨b, off, rfl, hb, hc⟩ := hmr.r0 (by omega)
      obtain ⟨b', off', rfl, hb', hc'⟩ := hmr.r1 (by rw [hnb.out]; omega)
      have y := hc i hlt
      have y' := hc' i (by rw [hnb.out]; exact hlt)
      unfold iv at y y'
      have hs := hsv.out i hlt
      have hv := hvs.out i hlt
      have hK := Lib.hid (show kyN m (i + 1) = kyN m i ++ [gi m.base i, gi m.next i + 1] from rfl)
      have hl := Lib.hid (kyN_len m i)
      obtain ⟨x, hx⟩ : ∃ x, gi m.base i = x := ⟨_, rfl⟩
      obtain ⟨z, hz⟩ : ∃ z, gi m.next i = z := ⟨_, rfl⟩
      rw [hx] at y hs hK
      rw [hz] at y' hs hK
      have w1 : IntKind.u8.wrap x = x := u8w (by omega) (by omega)
      have w2 : IntKind.u8.wrap (z + 1) = z + 1 := u8w (by omega) (by omega)
      have w3 : IntKind.i64.wrap (z + 1) = z + 1 := by rw [IntKind.wrap_i64]; omega
      have ji : (i : Int) < (m.base.length : Int) := by omega
      have jn : (i : Int) < (m.next.length : Int) := by rw [hnb.out]; omega
      have hO := Lib.hid hown
      replace hx := Lib.hid hx
      replace hz := Lib.hid hz
      clear hown hc hc' hs hv hmr
      have hz0 := Lib.hid (((hbel.out.alloc hB (.cells #[.int .u8 x, .int .u8 (z + 1)] 5))).drew)
      have hzs : Hid (W.heap.size ≤ (wr.alloc (.cells #[.int .u8 x, .int .u8 (z + 1)] 5)).drew.heap.size) := Lib.hid hz0.out.size
      have hO2 : Hid (KO (wr.alloc (.cells #[.int .u8 x, .int .u8 (z + 1)] 5)).drew W.heap.size (kyN m i) _) := Lib.hid (own_to hO.out (((Below.refl _ _).alloc (Nat.le_refl _) _).drew))
      have hcl : Hid (∀ j u, [Value.int .u8 x, .int .u8 (z + 1)][j]? = some u → (wr.alloc (.cells #[.int .u8 x, .int .u8 (z + 1)] 5)).drew.cell? ⟨wr.heap.size, j, none⟩ = some u) := Lib.hid fun j u h => by
        refine ((Drawn.refl _).drew.cell _).trans ?_
        rw [World.cell?_alloc_new]
        simpa using h
      have hone : Hid (∀ u ∈ [Value.int .u8 x, .int .u8 (z + 1)], u.oneCell' = true) := Lib.hid (by simp [Value.oneCell'])
      go_wp2
      go_region_law
        (first
          | (refine step_ownN elU8 (by rfl) (.tmp 22) (.tmp 36) (by rfl) W.heap.size _ (kyN m i).length (byR (kyN m i)) hO2.out (by go_simp) wr.heap.size 2 (by go_simp) [.int .u8 x, .int .u8 (z + 1)] rfl hcl.out hone.out (by rw [hl.out]; omega) (by omega) (by omega) hzs.out ?_
             intro v' w5 hown5 hg5 hor5
             have hb5 := Lib.hid (hz0.out.trans (own_below hO2.out hg5 hzs.out))
             have hO5 : Hid (KO w5 W.heap.size (kyN m (i + 1)) v') := Lib.hid (by unfold KO byR; rw [hK.out, List.length_append, List.map_append]; exact hown5)
             clear hown5 hg5 hor5))
      all_goals go_wp2_with fail
      all_goals go_roundw
      all_goals first
        | (case rel => exact ⟨i + 1, by omega, by go_num, hO5.out, hb5.out⟩)
        | (case measure => simp [intOf]; omega)
    · obtain rfl : i = m.base.length := by omega
      have hO := Lib.hid hown
      clear hown hlt
      go_wp2
      clear r1 f1 r10 r11 r12
      go_loopw [3, 42] (fun v s42 wr => ∃ k : Nat, k ≤ m.held.length ∧ s42 = .int .i64 (k : Int) ∧ KO wr W.heap.size (kyN m m.base.length ++ m.held.take k) v ∧ Below W.heap.size W wr) (fun _ s42 _ => m.held.length - (intOf s42).toNat)
      case atStart => exact ⟨0, Nat.zero_le _, rfl, by simpa using hO.out, hbel.out⟩
      case round =>
        clear hO hbel
        obtain ⟨k, hk, rfl, hown, hbel⟩ := hrel
        have T := Lib.hid (SW.out.call hbel)
        obtain ⟨⟨r1, f1, r10, r11, r12, -⟩, -⟩ := T.out.facts
        have hB : W.heap.size ≤ wr.heap.size := hbel.size
        have hmr := hmW.out wr hbel
        replace hbel := Lib.hid hbel
        have hO := Lib.hid hown
        clear hown
        by_cases hlt2 : k < m.held.length
        · obtain ⟨b, off, rfl, hb, hc⟩ := hmr.r2 (by omega)
          have y := hc k hlt2
          unfold u8v at y
          have jk : (k : Int) < (m.held.length : Int) := by omega
          have hK : Hid (kyN m m.base.length ++ m.held.take (k + 1) = (kyN m m.base.length ++ m.held.take k) ++ [gi m.held k]) := Lib.hid (by rw [List.take_add_one, gi_get hlt2, Option.toList_some, List.append_assoc])
          have hl : Hid ((kyN m m.base.length ++ m.held.take k).length = 2 * m.base.length + k) := Lib.hid (by rw [List.length_append, kyN_len, List.length_take, Nat.min_eq_left (Nat.le_of_lt hlt2)])
          obtain ⟨x, hx⟩ : ∃ x, gi m.held k = x := ⟨_, rfl⟩
          rw [hx] at y hK
          obtain ⟨L, hL⟩ : ∃ L, kyN m m.base.length ++ m.held.take k = L := ⟨_, rfl⟩
          rw [hL] at hK hl hO
          replace hx := Lib.hid hx
          replace hL := Lib.hid hL
          clear hc hmr
          go_wp2_with (at_builtin; refine push_own elU8 rfl _ _ rfl W.heap.size _ L.length (byR L) hO.out rfl [.int .u8 x] rfl rfl rfl (by rw [hl.out]; omega) (by omega) hB ?_)
          intro v' w6 hown6 hg6 hb6 hs6 _
          have hO6 : Hid (KO w6 W.heap.size (kyN m m.base.length ++ m.held.take (k + 1)) v') := Lib.hid (by unfold KO byR; rw [hK.out, List.length_append, List.map_append]; exact hown6)
          have hb7 := Lib.hid (hbel.out.trans hb6)
          clear hown6 hg6 hb6 hs6
          go_wp2
          go_roundw
          case rel => exact ⟨k + 1, by omega, by go_num, hO6.out, hb7.out⟩
          case measure => simp [intOf]; omega
        · obtain rfl : k = m.held.length := by omega
          have hO8 := hO.out
          rw [List.take_length] at hO8
          have hO9 : KO wr W.heap.size (keyL m) _ := hO8
          obtain ⟨A, c, rfl, hconv⟩ := ko_conv hO9
          clear hO hO8 hO9 hlt2 hmr
          go_wp2
          go_ret
          exact ⟨rfl, T.out.bel⟩
end Go.Proofs.Ytickckehhfdoeaa

namespace Go.Proofs.Ytickckehhfdoeaa
open Go.RowKit Go.Sv Go.Maps
/-! ### plain -/
noncomputable def stR (p : Prob) (m : Mx) : List Sp := (allL p).filter (aftB p m)
abbrev mostN : Nat := 20000
noncomputable def regL (p : Prob) (m : Mx) : Option Rg := rgAll (stR p) (apM p) (robB p) mostN (mostN + 1) 0 (rgStart m)
theorem st_ok {p : Prob} {m : Mx} {s : Sp} (hp : probE p = 0) (h : s ∈ stR p m) : appE p m s = 0 := by
  unfold stR at h
  obtain ⟨h1, h2⟩ := List.mem_filter.1 h
  obtain ⟨k, hk, rfl⟩ := List.getElem_of_mem h1
  have h3 := allL_ok hp k hk
  have e : spAt (allL p) k = (allL p)[k] := by simp [spAt, hk]
  rw [e] at h3
  refine appE_ok.2 ⟨h3.1, h3.2, ?_⟩
  unfold aftB at h2
  cases ha : aft p m (allL p)[k] with
  | none => rw [ha] at h2; cases h2
  | some x => exact ⟨x, rfl⟩
theorem stR_len {p : Prob} (h : probE p = 0) (m : Mx) : (stR p m).length ≤ 100 := Nat.le_trans (List.length_filter_le _ _) (allL_len h)
theorem stR_at {p : Prob} (hp : probE p = 0) {m : Mx} {j : Nat} (h : j < (stR p m).length) : appE p m (spAt (stR p m) j) = 0 := by
  have e : spAt (stR p m) j = (stR p m)[j] := by simp [spAt, h]
  rw [e]
  exact st_ok hp (List.getElem_mem h)
/-- one step of the inner loop -/
theorem row_go {ap : Mx → Sp → Mx} {rob : Mx → Bool} {most i : Nat} {g : Rg} {l : List Sp} {j : Nat} (h : j < l.length) (hs : ¬ most < (rgStep ap rob i g (spAt l j)).nds.length) : rgRow ap rob most i g (l.drop j) = rgRow ap rob most i (rgStep ap rob i g (spAt l j)) (l.drop (j + 1)) := by
  rw [spAt_drop h, rgRow, if_neg hs]
theorem row_no {ap : Mx → Sp → Mx} {rob : Mx → Bool} {most i : Nat} {g : Rg} {l : List Sp} {j : Nat} (h : j < l.length) (hs : most < (rgStep ap rob i g (spAt l j)).nds.length) : rgRow ap rob most i g (l.drop j) = none := by
  rw [spAt_drop h, rgRow, if_pos hs]
theorem row_end {ap : Mx → Sp → Mx} {rob : Mx → Bool} {most i : Nat} {g : Rg} {l : List Sp} : rgRow ap rob most i g (l.drop l.length) = some g := by rw [List.drop_length, rgRow]
theorem all_go {st : Mx → List Sp} {ap : Mx → Sp → Mx} {rob : Mx → Bool} {most f i : Nat} {g : Rg} (h : i < g.nds.length) : rgAll st ap rob most (f + 1) i g = (match rgRow ap rob most i g (st (ndAt g.nds i).m) with | none => none | some h => rgAll st ap rob most f (i + 1) h) := by
  rw [rgAll, if_pos h]
  cases rgRow ap rob most i g (st (ndAt g.nds i).m) <;> rfl
theorem all_end {st : Mx → List Sp} {ap : Mx → Sp → Mx} {rob : Mx → Bool} {most f i : Nat} {g : Rg} (h : ¬ i < g.nds.length) : rgAll st ap rob most f i g = some g := by
  cases f with
  | zero => rfl
  | succ f => rw [rgAll, if_neg h]
theorem ndAt_lt {l : List Nd} {x : Nd} {k : Nat} (h : k < l.length) : ndAt (l ++ [x]) k = ndAt l k := by simp [ndAt, List.getElem?_append_left h]
theorem ndAt_last {l : List Nd} {x : Nd} : ndAt (l ++ [x]) l.length = x := by simp [ndAt]
theorem stp_known {ap : Mx → Sp → Mx} {rob : Mx → Bool} {i : Nat} {g : Rg} {s : Sp} {z : Int} (h : Go.Sv.look g.pl (ap (ndAt g.nds i).m s) = some z) : rgStep ap rob i g s = g := by unfold rgStep; dsimp only; rw [h]
theorem stp_new {ap : Mx → Sp → Mx} {rob : Mx → Bool} {i : Nat} {g : Rg} {s : Sp} (h : Go.Sv.look g.pl (ap (ndAt g.nds i).m s) = none) (hr : rob (ap (ndAt g.nds i).m s) = true) : rgStep ap rob i g s = ⟨g.nds ++ [⟨ap (ndAt g.nds i).m s, i, s⟩], (ap (ndAt g.nds i).m s, (g.nds.length : Int)) :: g.pl⟩ := by unfold rgStep; dsimp only; rw [h]; dsimp only; rw [hr]; rfl
theorem stp_bad {ap : Mx → Sp → Mx} {rob : Mx → Bool} {i : Nat} {g : Rg} {s : Sp} (h : Go.Sv.look g.pl (ap (ndAt g.nds i).m s) = none) (hr : rob (ap (ndAt g.nds i).m s) = false) : rgStep ap rob i g s = ⟨g.nds, (ap (ndAt g.nds i).m s, -1) :: g.pl⟩ := by unfold rgStep; dsimp only; rw [h]; dsimp only; rw [hr]; rfl
/-! ### the known mixes as a map -/
def kl (x : Mx) : Lit := .string (strOfNums (keyL x)).data.toList
theorem kl_inj {p : Prob} {m m' : Mx} (h : MOk p m) (h' : MOk p m') (h8 : H8 m) (h8' : H8 m') (he : kl m = kl m') : m = m' := by
  unfold kl at he
  injection he with he
  exact key_inj h h' h8 h8' (by
    have : (strOfNums (keyL m)).data = (strOfNums (keyL m')).data := Array.toList_inj.1 he
    exact congrArg ByteArray.mk this)
structure MapD (p : Prob) (D : DataW Unit) (pl : List (Mx × Int)) : Prop where
  im : IsMap D
  yes : ∀ x, MOk p x → H8 x → ∀ z, Go.Sv.look pl x = some z → Maps.has D (kl x) = true ∧ ∀ d, D.atKey (kl x) d = .lit (.int .i64 z)
  no : ∀ x, MOk p x → H8 x → Go.Sv.look pl x = none → Maps.has D (kl x) = false
theorem look_cons {pl : List (Mx × Int)} {m x : Mx} {z : Int} : Go.Sv.look ((m, z) :: pl) x = if m = x then some z else Go.Sv.look pl x := by
  unfold Go.Sv.look
  rw [List.find?_cons]
  by_cases h : m = x <;> simp [h]
theorem MapD.put {p : Prob} {D : DataW Unit} {pl : List (Mx × Int)} (h : MapD p D pl) {m : Mx} (hm : MOk p m) (h8 : H8 m) (z : Int) : MapD p (D.put (kl m) (.lit (.int .i64 z))) ((m, z) :: pl) := by
  refine ⟨h.im.put _ _, fun x hx hx8 y hy => ?_, fun x hx hx8 hy => ?_⟩
  · rw [look_cons] at hy
    by_cases e : m = x
    · subst e
      rw [if_pos rfl] at hy
      injection hy with hy
      subst hy
      exact ⟨has_put_same h.im (k := kl m) (show WideAt.IsKeyLit (kl m) from trivial) _, fun d => atKey_put_same h.im (k := kl m) (show WideAt.IsKeyLit (kl m) from trivial) _ d⟩
    · rw [if_neg e] at hy
      have hne : kl x ≠ kl m := fun c => e (kl_inj hm hx h8 hx8 c.symm)
      obtain ⟨a, b⟩ := h.yes x hx hx8 y hy
      exact ⟨by rw [has_put_other hne]; exact a, fun d => by rw [atKey_put_other hne]; exact b d⟩
  · rw [look_cons] at hy
    by_cases e : m = x
    · rw [if_pos e] at hy; cases hy
    · rw [if_neg e] at hy
      have hne : kl x ≠ kl m := fun c => e (kl_inj hm hx h8 hx8 c.symm)
      rw [has_put_other hne]
      exact h.no x hx hx8 hy
theorem MapD.nil (p : Prob) : MapD p (.map []) [] := ⟨isMap_empty, fun x _ _ z h => (by cases h), fun x _ _ _ => rfl⟩
/-! ### memory -/
/-- a mix whose rows do not lie in block g -/
def MFar (m : Mx) (q : MixP) (g : Nat) : Prop := keyV (.slice q.a0 m.base.length q.c0) ≠ some g ∧ keyV (.slice q.a1 m.next.length q.c1) ≠ some g ∧ keyV (.slice q.a2 m.held.length q.c2) ≠ some g
theorem arr_gr {w w' : World} {A : Option Addr} {n c : Nat} {f : Nat → Value} {o : Option Nat} (h : Arr w w.heap.size A n f) (hg : w.grownBy w' o) (hf : ∀ g, o = some g → keyV (.slice A n c) ≠ some g) : Arr w' w'.heap.size A n f := fun hn => by
  obtain ⟨b, off, e, hb, hc⟩ := h hn
  obtain ⟨k, rfl⟩ : ∃ k, n = k + 1 := ⟨n - 1, by omega⟩
  subst e
  refine ⟨b, off, rfl, Nat.lt_of_lt_of_le hb hg.size, fun k hk => ?_⟩
  exact hg.cell (hc k hk) (fun e => hf b e.symm rfl)
theorem mix_gr {w w' : World} {m : Mx} {q : MixP} {o : Option Nat} (h : RMix w w.heap.size m q) (hg : w.grownBy w' o) (hf : ∀ g, o = some g → MFar m q g) : RMix w' w'.heap.size m q :=
  ⟨arr_gr (c := q.c0) h.r0 hg (fun g e => (hf g e).1), arr_gr (c := q.c1) h.r1 hg (fun g e => (hf g e).2.1), arr_gr (c := q.c2) h.r2 hg (fun g e => (hf g e).2.2)⟩
theorem key_lt {w : World} {A : Option Addr} {n c : Nat} {f : Nat → Value} {B : Nat} (h : Arr w B A n f) {g : Nat} (hg : B ≤ g) : keyV (.slice A n c) ≠ some g := by
  intro e
  cases n with
  | zero => cases A <;> cases e
  | succ n =>
    obtain ⟨b, off, e2, hb, _⟩ := h (by omega)
    subst e2
    have : b = g := by injection e
    omega
theorem mix_far {w : World} {m : Mx} {q : MixP} {B : Nat} (h : RMix w B m q) {g : Nat} (hg : B ≤ g) : MFar m q g := ⟨key_lt h.r0 hg, key_lt h.r1 hg, key_lt h.r2 hg⟩
theorem own_gr {w w' : World} {B s n : Nat} {e : TypeId} {v : Value} {xs : List Value} {o : Option Nat} (h : w.ownsRow B e s v n xs) (hg : w.grownBy w' o) (hf : ∀ g, o = some g → v.ownBlock ≠ some g) : w'.ownsRow B e s v n xs := by
  rcases h.2 with ⟨rfl, h0⟩ | ⟨g, cap, cur, rfl, hb, hw, rest⟩
  · exact ⟨h.1, Or.inl ⟨rfl, h0⟩⟩
  · have hw : Whole w g e cur := hw
    exact ⟨h.1, Or.inr ⟨g, cap, cur, rfl, hb, (hg.block g hw.lt (fun e => hf g e.symm rfl)).trans hw, rest⟩⟩
theorem gr_below {w w' : World} (h : Below w.heap.size w w') : w.grownBy w' none := ⟨h.os, h.tape, h.output, h.size, fun k hk _ => h.block k hk⟩
theorem gr_set {w : World} (g i : Nat) (u : Value) : w.grownBy (w.setCell ⟨g, i, none⟩ u) (some g) :=
  ⟨rfl, rfl, rfl, by simp [World.setCell], fun k _ hk => Below.heap_setCell w ⟨g, i, none⟩ u k (fun e => hk (by rw [e]))⟩
theorem gr_push {w w' : World} {ob : Obj} {o : Option Nat} (h : (w.alloc ob).grownBy w' o) : w.grownBy w' o := by
  refine ⟨h.os, h.tape, h.output, Nat.le_trans (by simp) h.size, fun k hk hne => ?_⟩
  rw [h.block k (by simp; omega) hne]
  exact Below.heap_alloc w ob k hk
/-- the cells of a node -/
def ndC (x : Nd) (q : MixP) (u : Value) : Nat → Value
  | 0 => .slice q.a0 x.m.base.length q.c0
  | 1 => .slice q.a1 x.m.next.length q.c1
  | 2 => .slice q.a2 x.m.held.length q.c2
  | 3 => .int .i64 x.frm
  | 4 => .int .i64 x.by_.kind
  | 5 => .int .i64 x.by_.ix
  | 6 => .int .i64 x.by_.ver
  | _ => u
def ndF (l : List Nd) (Q : Nat → MixP) (nx : Nat → Value) (k i : Nat) : Value := ndC (ndAt l k) (Q k) (nx k) i
def ndRow (l : List Nd) (Q : Nat → MixP) (nx : Nat → Value) : List Value := rowN 8 l.length (ndF l Q nx)
theorem ndRow_len (l : List Nd) (Q : Nat → MixP) (nx : Nat → Value) : (ndRow l Q nx).length = l.length * 8 := rowN_length ..
theorem ndRow_get {l : List Nd} {Q : Nat → MixP} {nx : Nat → Value} {k i : Nat} (hk : k < l.length) (hi : i < 8) : (ndRow l Q nx)[k * 8 + i]? = some (ndF l Q nx k i) := rowN_get hk hi
def upd {α : Type} (n : Nat) (f : Nat → α) (x : α) (k : Nat) : α := if k = n then x else f k
theorem upd_at {α : Type} {n : Nat} {f : Nat → α} {x : α} : upd n f x n = x := if_pos rfl
theorem upd_ne {α : Type} {n k : Nat} {f : Nat → α} {x : α} (h : k ≠ n) : upd n f x k = f k := if_neg h
theorem ndRow_snoc (l : List Nd) (Q : Nat → MixP) (nx : Nat → Value) (x : Nd) (q : MixP) (u : Value) : ndRow (l ++ [x]) (upd l.length Q q) (upd l.length nx u) = ndRow l Q nx ++ [.slice q.a0 x.m.base.length q.c0, .slice q.a1 x.m.next.length q.c1, .slice q.a2 x.m.held.length q.c2, .int .i64 x.frm, .int .i64 x.by_.kind, .int .i64 x.by_.ix, .int .i64 x.by_.ver, u] := by
  unfold ndRow
  rw [List.length_append, List.length_singleton, rowN_snoc (f := ndF l Q nx) (by decide) (fun k hk i _ => by unfold ndF; rw [ndAt_lt hk, upd_ne (by omega), upd_ne (by omega)])]
  unfold ndF
  rw [ndAt_last, upd_at, upd_at]
  rfl
theorem ndRow_set {l : List Nd} {Q : Nat → MixP} {nx : Nat → Value} {k : Nat} (_hk : k < l.length) (u : Value) : (ndRow l Q nx).set (k * 8 + 7) u = ndRow l Q (upd k nx u) := by
  apply List.ext_getElem?
  intro j
  by_cases hj : j < l.length * 8
  · have h1 : j / 8 < l.length := Nat.div_lt_of_lt_mul (by omega)
    have h2 : j % 8 < 8 := Nat.mod_lt _ (by decide)
    have h3 : j / 8 * 8 + j % 8 = j := by omega
    rw [← h3, ndRow_get h1 h2]
    by_cases e : k = j / 8 ∧ 7 = j % 8
    · obtain ⟨e1, e2⟩ := e
      rw [← e1, ← e2, List.getElem?_set_self (by rw [ndRow_len]; omega)]
      unfold ndF
      rw [upd_at]
      rfl
    · rw [List.getElem?_set_ne (by omega), ndRow_get h1 h2]
      unfold ndF
      by_cases e1 : j / 8 = k
      · rw [e1, upd_at]
        have : j % 8 ≠ 7 := by omega
        have : j % 8 = 0 ∨ j % 8 = 1 ∨ j % 8 = 2 ∨ j % 8 = 3 ∨ j % 8 = 4 ∨ j % 8 = 5 ∨ j % 8 = 6 := by omega
        rcases this with e | e | e | e | e | e | e <;> rw [e] <;> rfl
      · rw [upd_ne e1]
  · rw [List.getElem?_eq_none (by rw [List.length_set, ndRow_len]; omega), List.getElem?_eq_none (by rw [ndRow_len]; omega)]
theorem elNode : ElemT Try.prog 110 115 (.agg #[.slice none 0 0, .slice none 0 0, .slice none 0 0, .int .i64 0, .int .i64 0, .int .i64 0, .int .i64 0, .slice none 0 0]) 8 128 := ⟨Try.underlying110, by kernel_rfl, by kernel_rfl, by omega⟩
/-- the blocks that the region's walk writes -/
def Spc (v : Value) (gP : Nat) (nx : Nat → Value) (n g : Nat) : Prop := v.ownBlock = some g ∨ g = gP ∨ ∃ k, k < n ∧ (nx k).ownBlock = some g
structure RgM (p : Prob) (B gP : Nat) (nds : List Nd) (Q : Nat → MixP) (nx : Nat → Value) (nl : Nat → List Value) (v : Value) (wr : World) : Prop where
  row : wr.ownsRow B 115 8 v nds.length (ndRow nds Q nx)
  nxr : ∀ k, k < nds.length → wr.ownsRow B 3 1 (nx k) (nl k).length (nl k)
  mx : ∀ k, k < nds.length → RMix wr wr.heap.size (ndAt nds k).m (Q k)
  bd : ∀ k, k < nds.length → MBd (ndAt nds k).m (Q k)
  ok : ∀ k, k < nds.length → MOk p (ndAt nds k).m
  far : ∀ k, k < nds.length → ∀ g, Spc v gP nx nds.length g → MFar (ndAt nds k).m (Q k) g
  fv : v.ownBlock ≠ some gP
  fnp : ∀ k, k < nds.length → (nx k).ownBlock ≠ some gP
  fnv : ∀ k, k < nds.length → ∀ g, v.ownBlock = some g → (nx k).ownBlock ≠ some g
  fnn : ∀ j k, j < nds.length → k < nds.length → j ≠ k → ∀ g, (nx j).ownBlock = some g → (nx k).ownBlock ≠ some g
  gb : B ≤ gP
  gs : gP < wr.heap.size
section
variable {p : Prob} {B gP : Nat} {nds : List Nd} {Q : Nat → MixP} {nx : Nat → Value} {nl : Nat → List Value} {v : Value} {wr w' : World}
theorem RgM.gr (h : RgM p B gP nds Q nx nl v wr) {o : Option Nat} (hg : wr.grownBy w' o) (h0 : ∀ g, o = some g → v.ownBlock ≠ some g) (h1 : ∀ g, o = some g → ∀ k, k < nds.length → (nx k).ownBlock ≠ some g)
    (h2 : ∀ g, o = some g → ∀ k, k < nds.length → MFar (ndAt nds k).m (Q k) g) : RgM p B gP nds Q nx nl v w' :=
  ⟨own_gr h.row hg h0, fun k hk => own_gr (h.nxr k hk) hg (fun g e => h1 g e k hk), fun k hk => mix_gr (h.mx k hk) hg (fun g e => h2 g e k hk), h.bd, h.ok, h.far, h.fv, h.fnp, h.fnv, h.fnn, h.gb, Nat.lt_of_lt_of_le h.gs hg.size⟩
theorem RgM.to (h : RgM p B gP nds Q nx nl v wr) (hb : Below wr.heap.size wr w') : RgM p B gP nds Q nx nl v w' :=
  h.gr (gr_below hb) (fun g e => by cases e) (fun g e => by cases e) (fun g e => by cases e)
theorem RgM.map (h : RgM p B gP nds Q nx nl v wr) (hg : wr.grownBy w' (some gP)) : RgM p B gP nds Q nx nl v w' :=
  h.gr hg (fun g e => by injection e with e; subst e; exact h.fv) (fun g e k hk => by injection e with e; subst e; exact h.fnp k hk) (fun g e k hk => by injection e with e; subst e; exact h.far k hk _ (Or.inr (Or.inl rfl)))
/-- one more node -/
theorem RgM.push (h : RgM p B gP nds Q nx nl v wr) {x : Nd} {q : MixP} {o : Obj} {v' : Value} (hm : RMix wr wr.heap.size x.m q) (hbd : MBd x.m q) (hok : MOk p x.m) (hf : ∀ g, Spc v gP nx nds.length g → MFar x.m q g)
    (ho : w'.ownsRow B 115 8 v' (nds.length + 1) (ndRow nds Q nx ++ [.slice q.a0 x.m.base.length q.c0, .slice q.a1 x.m.next.length q.c1, .slice q.a2 x.m.held.length q.c2, .int .i64 x.frm, .int .i64 x.by_.kind, .int .i64 x.by_.ix, .int .i64 x.by_.ver, .slice none 0 0]))
    (hg : (wr.alloc o).grownBy w' v.ownBlock) (hor : v'.ownBlock = v.ownBlock ∨ v'.ownBlock = some (wr.heap.size + 1)) : RgM p B gP (nds ++ [x]) (upd nds.length Q q) (upd nds.length nx (.slice none 0 0)) (upd nds.length nl []) v' w' := by
  have hg2 := gr_push hg
  have hn0 : (Value.slice none 0 0).ownBlock = none := rfl
  have hL : (nds ++ [x]).length = nds.length + 1 := by simp
  have hlt : ∀ k, k < (nds ++ [x]).length → k < nds.length ∨ k = nds.length := fun k hk => by rw [hL] at hk; omega
  have nlt : ∀ k, k < nds.length → ∀ g, (nx k).ownBlock = some g → g < wr.heap.size := fun k hk g e => ((h.nxr k hk).lt g e).2
  have hspc : ∀ g, Spc v' gP (upd nds.length nx (.slice none 0 0)) (nds ++ [x]).length g → Spc v gP nx nds.length g ∨ wr.heap.size ≤ g := fun g hs => by
    rcases hs with e | e | ⟨k, hk, e⟩
    · rcases hor with e2 | e2
      · exact Or.inl (Or.inl (by rw [← e2]; exact e))
      · rw [e2] at e; injection e with e; exact Or.inr (by omega)
    · exact Or.inl (Or.inr (Or.inl e))
    · rcases hlt k hk with hk | hk
      · rw [upd_ne (by omega)] at e; exact Or.inl (Or.inr (Or.inr ⟨k, hk, e⟩))
      · subst hk; rw [upd_at, hn0] at e; cases e
  refine ⟨?_, fun k hk => ?_, fun k hk => ?_, fun k hk => ?_, fun k hk => ?_, fun k hk g hs => ?_, fun e => ?_, fun k hk => ?_, fun k hk g e => ?_, fun j k hj hk hne g e => ?_, h.gb, Nat.lt_of_lt_of_le h.gs hg2.size⟩
  · rw [hL, ndRow_snoc]; exact ho
  · rcases hlt k hk with hk | hk
    · rw [upd_ne (by omega), upd_ne (by omega)]; exact own_gr (h.nxr k hk) hg2 (fun g e => h.fnv k hk g e)
    · subst hk; rw [upd_at, upd_at]; exact World.ownsRow_nil _ _ _ _
  · rcases hlt k hk with hk | hk
    · rw [ndAt_lt hk, upd_ne (by omega)]; exact mix_gr (h.mx k hk) hg2 (fun g e => h.far k hk g (Or.inl e))
    · subst hk; rw [ndAt_last, upd_at]; exact mix_gr hm hg2 (fun g e => hf g (Or.inl e))
  · rcases hlt k hk with hk | hk
    · rw [ndAt_lt hk, upd_ne (by omega)]; exact h.bd k hk
    · subst hk; rw [ndAt_last, upd_at]; exact hbd
  · rcases hlt k hk with hk | hk
    · rw [ndAt_lt hk]; exact h.ok k hk
    · subst hk; rw [ndAt_last]; exact hok
  · rcases hlt k hk with hk | hk
    · rw [ndAt_lt hk, upd_ne (by omega)]
      rcases hspc g hs with hs | hs
      · exact h.far k hk g hs
      · exact mix_far (h.mx k hk) hs
    · subst hk; rw [ndAt_last, upd_at]
      rcases hspc g hs with hs | hs
      · exact hf g hs
      · exact mix_far hm hs
  · rcases hor with e2 | e2
    · exact h.fv (by rw [← e2]; exact e)
    · rw [e2] at e; injection e with e; have := h.gs; omega
  · rcases hlt k hk with hk | hk
    · rw [upd_ne (by omega)]; exact h.fnp k hk
    · subst hk; rw [upd_at, hn0]; intro e; cases e
  · rcases hlt k hk with hk | hk
    · rw [upd_ne (by omega)]
      rcases hor with e2 | e2
      · exact h.fnv k hk g (by rw [← e2]; exact e)
      · rw [e2] at e; injection e with e
        intro e3
        have := nlt k hk g e3
        omega
    · subst hk; rw [upd_at, hn0]; intro e; cases e
  · rcases hlt j hj with hj | hj
    · rw [upd_ne (by omega)] at e
      rcases hlt k hk with hk | hk
      · rw [upd_ne (by omega)]; exact h.fnn j k hj hk hne g e
      · subst hk; rw [upd_at, hn0]; intro e; cases e
    · subst hj; rw [upd_at, hn0] at e; cases e
/-- one more number in a node's list: the list has grown in memory -/
theorem RgM.next (h : RgM p B gP nds Q nx nl v wr) {i : Nat} (hi : i < nds.length) {o : Obj} {u : Value} {z : Value} (ho : w'.ownsRow B 3 1 u ((nl i).length + 1) (nl i ++ [z])) (hg : (wr.alloc o).grownBy w' (nx i).ownBlock)
    (hor : u.ownBlock = (nx i).ownBlock ∨ u.ownBlock = some (wr.heap.size + 1)) :
    ∃ g c, v = .slice (some ⟨g, 0, none⟩) nds.length c ∧ g < w'.heap.size ∧ B ≤ g ∧ (∀ o, w'.frozen? ⟨g, o, none⟩ = false) ∧ (∀ k j, k < nds.length → j < 8 → w'.cell? ⟨g, k * 8 + j, none⟩ = some (ndF nds Q nx k j)) ∧
      RgM p B gP nds Q (upd i nx u) (upd i nl (nl i ++ [z])) v (w'.setCell ⟨g, i * 8 + 7, none⟩ u) := by
  have hg2 := gr_push hg
  have hrow := own_gr h.row hg2 (fun g e e2 => h.fnv i hi g e2 e)
  obtain ⟨A, c, hv, _, _, _⟩ := own_form h.row
  rw [hv] at hrow
  obtain ⟨g, rfl, hBg, hlt, hfr, hce, hst⟩ := ownN_store hrow (i := i * 8 + 7) (by have := Nat.mul_le_mul_right 8 hi; omega)
  have hob : v.ownBlock = some g := by rw [hv]; rfl
  refine ⟨g, c, hv, hlt, hBg, hfr, fun k j hk hj => ?_, ?_⟩
  · rw [hce (k * 8 + j) (by have := Nat.mul_le_mul_right 8 hk; omega), ndRow_get hk hj]
  have hgs := gr_set (w := w') g (i * 8 + 7) u
  have nlt : ∀ k, k < nds.length → ∀ g, (nx k).ownBlock = some g → g < wr.heap.size := fun k hk g e => ((h.nxr k hk).lt g e).2
  have vlt : g < wr.heap.size := (h.row.lt g hob).2
  have ub : ∀ g', u.ownBlock = some g' → (nx i).ownBlock = some g' ∨ wr.heap.size ≤ g' := fun g' e => by
    rcases hor with e2 | e2
    · exact Or.inl (by rw [← e2]; exact e)
    · rw [e2] at e; injection e with e; exact Or.inr (by omega)
  have ug : u.ownBlock ≠ some g := fun e => by
    rcases ub g e with e | e
    · exact h.fnv i hi g hob e
    · omega
  have mid : ∀ k, k < nds.length → k ≠ i → w'.ownsRow B 3 1 (nx k) (nl k).length (nl k) := fun k hk hne => own_gr (h.nxr k hk) hg2 (fun g e => h.fnn i k hi hk (Ne.symm hne) g e)
  refine ⟨?_, fun k hk => ?_, fun k hk => ?_, h.bd, h.ok, fun k hk g' hs => ?_, h.fv, fun k hk => ?_, fun k hk g' e => ?_, fun j k hj hk hne g' e => ?_, h.gb, ?_⟩
  · have := hst u
    rw [ndRow_set hi] at this
    rw [hv]
    exact this
  · by_cases e : k = i
    · subst e; rw [upd_at, upd_at, List.length_append, List.length_singleton]
      exact own_gr ho hgs (fun g' e => by injection e with e; subst e; exact ug)
    · rw [upd_ne e, upd_ne e]
      exact own_gr (mid k hk e) hgs (fun g' e => by injection e with e; subst e; exact h.fnv k hk _ hob)
  · refine mix_gr (mix_gr (h.mx k hk) hg2 (fun g' e => h.far k hk g' (Or.inr (Or.inr ⟨i, hi, e⟩)))) hgs (fun g' e => ?_)
    injection e with e; subst e
    exact h.far k hk _ (Or.inl hob)
  · rcases hs with e | e | ⟨j, hj, e⟩
    · exact h.far k hk g' (Or.inl e)
    · exact h.far k hk g' (Or.inr (Or.inl e))
    · by_cases ej : j = i
      · subst ej; rw [upd_at] at e
        rcases ub g' e with e | e
        · exact h.far k hk g' (Or.inr (Or.inr ⟨j, hj, e⟩))
        · exact mix_far (h.mx k hk) e
      · rw [upd_ne ej] at e; exact h.far k hk g' (Or.inr (Or.inr ⟨j, hj, e⟩))
  · by_cases ek : k = i
    · subst ek; rw [upd_at]; intro e
      rcases ub gP e with e | e
      · exact h.fnp k hk e
      · have := h.gs; omega
    · rw [upd_ne ek]; exact h.fnp k hk
  · by_cases ek : k = i
    · subst ek; rw [upd_at]; intro e2
      rw [hob] at e; injection e with e; subst e
      exact ug e2
    · rw [upd_ne ek]; exact h.fnv k hk g' e
  · by_cases ej : j = i
    · subst ej; rw [upd_at] at e
      rw [upd_ne (Ne.symm hne)]
      rcases ub g' e with e | e
      · exact h.fnn j k hj hk hne g' e
      · intro e2; have := nlt k hk g' e2; omega
    · rw [upd_ne ej] at e
      by_cases ek : k = i
      · subst ek; rw [upd_at]; intro e2
        rcases ub g' e2 with e2 | e2
        · exact h.fnn j k hj hk hne g' e e2
        · have := nlt j hj g' e; omega
      · rw [upd_ne ek]; exact h.fnn j k hj hk hne g' e
  · exact Nat.lt_of_lt_of_le h.gs (Nat.le_trans hg2.size hgs.size)
end
end Go.Proofs.Ytickckehhfdoeaa
