/-
  CONTRACT of plan.key: the text of a mix; different mixes have different texts.
  Conditions: those that each theorem names.
-/
import Derived.Test.YtickckehhfdoeaaTopF
import Derived.Laws.BytesArg
namespace Go.Sv
open Go.RowKit
/-! ### plain -/
def kyN (m : Mx) : Nat → List Int
  | 0 => []
  | i + 1 => kyN m i ++ [gi m.base i, gi m.next i + 1]
def keyL (m : Mx) : List Int := kyN m m.base.length ++ m.held
theorem kyN_len (m : Mx) : ∀ i, (kyN m i).length = 2 * i
  | 0 => rfl
  | i + 1 => by rw [kyN, List.length_append, kyN_len m i]; simp; omega
theorem nums_inj : ∀ {l k : List Int}, (∀ x ∈ l, 0 ≤ x ∧ x < 256) → (∀ x ∈ k, 0 ≤ x ∧ x < 256) → (l.map fun n => UInt8.ofNat n.toNat) = (k.map fun n => UInt8.ofNat n.toNat) → l = k
  | [], [], _, _, _ => rfl
  | [], y :: k, _, _, h => by simp at h
  | x :: l, [], _, _, h => by simp at h
  | x :: l, y :: k, h1, h2, h => by
    rw [List.map_cons, List.map_cons] at h
    injection h with ha hb
    have e := nums_inj (fun z hz => h1 z (List.mem_cons_of_mem _ hz)) (fun z hz => h2 z (List.mem_cons_of_mem _ hz)) hb
    have hx := h1 x (List.mem_cons_self ..)
    have hy := h2 y (List.mem_cons_self ..)
    have : x.toNat = y.toNat := by
      have := congrArg UInt8.toNat ha
      simp only [UInt8.toNat_ofNat'] at this
      omega
    rw [e, show x = y by omega]
theorem kyN_inj {m m' : Mx} : ∀ i, kyN m i = kyN m' i → ∀ j, j < i → gi m.base j = gi m'.base j ∧ gi m.next j = gi m'.next j
  | 0, _, j, hj => by omega
  | i + 1, h, j, hj => by
    rw [kyN, kyN] at h
    have hl : (kyN m i).length = (kyN m' i).length := by rw [kyN_len, kyN_len]
    obtain ⟨h1, h2⟩ := List.append_inj h hl
    by_cases e : j = i
    · subst e
      injection h2 with a b
      injection b with b _
      exact ⟨a, by omega⟩
    · exact kyN_inj i h1 j (by omega)
theorem kyN_bd {p : Prob} {m : Mx} (h : MOk p m) : ∀ i, i ≤ p.vs.length → ∀ x ∈ kyN m i, 0 ≤ x ∧ x < 256
  | 0, _, x, hx => by cases hx
  | i + 1, hi, x, hx => by
    rw [kyN] at hx
    rcases List.mem_append.1 hx with hx | hx
    · exact kyN_bd h i (by omega) x hx
    · have := h.sv i (by omega)
      have := vs_le h.pr (i := i) (by omega)
      simp at hx
      omega
theorem keyL_bd {p : Prob} {m : Mx} (h : MOk p m) (h8 : H8 m) : ∀ x ∈ keyL m, 0 ≤ x ∧ x < 256 := by
  intro x hx
  unfold keyL at hx
  rcases List.mem_append.1 hx with hx | hx
  · exact kyN_bd h _ (by rw [h.lb]; exact Nat.le_refl _) x hx
  · obtain ⟨i, hi, rfl⟩ := List.getElem_of_mem hx
    have := h8 i hi
    simpa [gi, hi] using this
/-- different valid mixes have different texts -/
theorem key_inj {p : Prob} {m m' : Mx} (h : MOk p m) (h' : MOk p m') (h8 : H8 m) (h8' : H8 m') (he : strOfNums (keyL m) = strOfNums (keyL m')) : m = m' := by
  have he2 := congrArg (fun s => s.data.toList) he
  have he2 : (keyL m).map (fun n => UInt8.ofNat n.toNat) = (keyL m').map (fun n => UInt8.ofNat n.toNat) := he2
  have hk := nums_inj (keyL_bd h h8) (keyL_bd h' h8') he2
  unfold keyL at hk
  rw [h.lb, h'.lb] at hk
  obtain ⟨h1, h2⟩ := List.append_inj hk (by rw [kyN_len, kyN_len])
  have hj := kyN_inj p.vs.length h1
  have e1 : m.base = m'.base := gi_ext (by rw [h.lb, h'.lb]) fun k hk => (hj k (by rw [← h.lb]; exact hk)).1
  have e2 : m.next = m'.next := gi_ext (by rw [h.ln, h'.ln]) fun k hk => (hj k (by rw [← h.ln]; exact hk)).2
  cases m
  cases m'
  simp only at e1 e2 h2
  rw [e1, e2, h2]
end Go.Sv
namespace Go.Proofs.Ytickckehhfdoeaa
open Go.RowKit Go.Sv
theorem elU8 : ElemT Try.prog 29 5 (.int .u8 0) 1 1 := ⟨Try.underlying29, by kernel_rfl, rfl, by decide⟩
theorem step_ownN {P : Program} {t e : TypeId} {z : Value} {bytes : Nat} {w : World} (E : ElemT P t e z 1 bytes) {ops : Array Oper} {o : Oper} {a : Act} {K : Act → World → Prop} {Q : Exit → Act → World → Prop} {X : Prop} (hgd : o.guard = none) (s x : Operand)
    (ho : o.op = .call { callee := .builtin .append, args := #[s, x], argTypes := #[t, t] }) (base : Nat) (v : Value) (n : Nat) (xs : List Value) (hown : w.ownsRow base e 1 v n xs) (hs : a.eval s = v)
    (B k : Nat) (hx : a.eval x = .slice (some ⟨B, 0, none⟩) k k) (us : List Value) (hl : us.length = k) (hc : ∀ j u, us[j]? = some u → w.cell? ⟨B, j, none⟩ = some u) (hu : ∀ u ∈ us, u.oneCell' = true) (hn : n ≤ 1000000) (hk : k ≤ 1000) (hby : bytes ≤ 4096) (hbase : base ≤ w.heap.size)
    (h : ∀ v' w', w'.ownsRow base e 1 v' (n + k) (xs ++ us) → w.grownBy w' v.ownBlock → (v'.ownBlock = v.ownBlock ∨ v'.ownBlock = some w.heap.size) → K (a.put o.dst v') w') :
    if Region.wanted o (yielded ops a.tmps) = true then Oper.wp P o a w K Q else X := by
  have hw : Region.wanted o (yielded ops a.tmps) = true := by simp [Region.wanted, hgd]
  rw [if_pos hw]
  obtain ⟨v', w', hr, h2, h3, h4⟩ := run_append_arr E w o.type base v n xs hown (some ⟨B, 0, none⟩) k k us (by rw [hl, Nat.mul_one]) hu (fun h => by cases h) (fun ad had j y hy => by
    injection had with had
    subst had
    have e : (⟨B, 0, none⟩ : Addr).add j = ⟨B, j, none⟩ := by
      unfold Addr.add
      split
      · rename_i h0; rw [h0]
      · simp
    rw [e]
    exact hc j y hy) (by omega) hby hbase
  unfold Oper.wp execOp
  simp only [ho, resolve, invoke, builtin, Sem.run_bind, Sem.run_pure, Result.andThen_ok, List.map_toArray, List.map_cons, List.map_nil, hs, hx, hr]
  exact h v' w' h2 h3 h4
def byR (l : List Int) : List Value := l.map fun x => .int .u8 x
def KO (wr : World) (B : Nat) (l : List Int) (v : Value) : Prop := wr.ownsRow B 5 1 v l.length (byR l)
theorem u8w {x : Int} (h0 : 0 ≤ x) (h : x < 256) : IntKind.u8.wrap x = x := wrap8 h0 h
theorem ko_conv {wr : World} {B : Nat} {l : List Int} {v : Value} (h : KO wr B l v) : ∃ A c, v = .slice A l.length c ∧ (convert 29 9 (.slice A l.length c)).run Try.prog wr = .ok (.string (strOfNums l)) wr := by
  have hs : Try.prog.underlying 29 = some (.slice 5) := Try.underlying29
  have he : Try.prog.underlying 5 = some (.int .u8) := by kernel_rfl
  have hd : Try.prog.underlying 9 = some .string := by kernel_rfl
  rcases h.2 with ⟨rfl, h0⟩ | ⟨g, cap, cur, rfl, hB, hw, hnc, hm, hsz, ht⟩
  · have e : l = [] := List.eq_nil_of_length_eq_zero h0
    subst e
    exact ⟨none, 0, rfl, run_convert_bytes_nil wr _ _ hs he 0 0 _ hd⟩
  · refine ⟨some ⟨g, 0, none⟩, cap, rfl, run_convert_bytes_arg wr _ _ hs he g 0 l.length cap l rfl (fun i hi => ?_) _ hd⟩
    have hc := World.ownsRow.cellAt h i (by rw [Nat.mul_one]; exact hi)
    rw [Nat.zero_add, hc]
    unfold byR
    simp [hi]
set_option maxHeartbeats 4000000 in
set_option maxRecDepth 100000 in
theorem key_any (p : Prob) (m : Mx) (qm : MixP) (w : World) (hm : RMix w w.heap.size m qm) (hok : MOk p m) (_h8 : H8 m) :
    Calls Try.prog 80 #[mixV m qm] w fun e w' => e = .returned (.string (strOfNums (keyL m))) ∧ Below w.heap.size w w' := by
  obtain ⟨a0, c0, a1, c1, a2, c2⟩ := qm
  obtain ⟨W, hW, S⟩ : ∃ W, w.alloc (.cells #[.slice a0 m.base.length c0, .slice a1 m.next.length c1, .slice a2 m.held.length c2] 56) = W ∧ Fm w W _ _ := ⟨_, rfl, (Fm.init w).box 56 [.slice a0 m.base.length c0, .slice a1 m.next.length c1, .slice a2 m.held.length c2]⟩
  obtain ⟨h6, h12, -, -⟩ := prob_small hok.pr
  have hmW := Lib.hid (fun W2 (h : Below W.heap.size W W2) => (hm.to S.bel).to h)
  have lb := hok.lb
  have ln := hok.ln
  have lh := hok.lh
  have hb6 : m.base.length ≤ 6 := by omega
  have hh12 : m.held.length ≤ 12 := by omega
  have hnb : m.next.length = m.base.length := by omega
  have hsv := Lib.hid (fun i (h : i < m.base.length) => hok.sv i (by omega))
  have hvs := Lib.hid (fun i (h : i < m.base.length) => vs_le hok.pr (i := i) (by omega))
  obtain ⟨ix, hi1, e1, e2, e3⟩ := info_parts elU8.hi
  obtain ⟨⟨r1, f1, r10, r11, r12, -⟩, -⟩ := S.facts
  have SW := Lib.hid S
  replace hnb := Lib.hid hnb
  have wl : IntKind.i64.wrap (2 * (m.base.length : Int)) = ((2 * m.base.length : Nat) : Int) := by rw [IntKind.wrap_i64]; omega
  have wl2 : IntKind.i64.wrap (2 * (m.base.length : Int) + (m.held.length : Int)) = ((2 * m.base.length + m.held.length : Nat) : Int) := by rw [IntKind.wrap_i64]; omega
  clear S hm hok lb ln lh
  go_enter Try.func80, Try.ntmps80
  go_wp2_with
    (first
      | (refine wpList_make_own (o := ⟨some 15, _, _, _, _, _⟩) _ rfl _ _ 29 rfl W.heap.size 5 ix (.int .u8 0) 1 elU8.ht hi1 e1 e2 .i64 .i64 (2 * (m.base.length : Int) + (m.held.length : Int)) (2 * m.base.length + m.held.length) (by go_simp) (by go_simp) (by omega) (by rw [e3]; omega) (by unfold maxLen; omega) (Nat.le_refl _) ?_
         intro w2 hown2 hg2
         have hb2 := Lib.hid ((Below.refl W.heap.size W).grown hg2 (Nat.le_refl _) (fun k hk => by cases hk))
         have S2 := Lib.hid (SW.out.call hb2.out)
         clear r1 f1 r10 r11 r12 wl wl2
         obtain ⟨⟨r1, f1, r10, r11, r12, -⟩, -⟩ := S2.out.facts
         replace hown2 := Lib.hid hown2))
  clear hW r1 f1 r10 r11 r12 hg2
  go_loopw [3, 19] (fun v s19 wr => ∃ i : Nat, i ≤ m.base.length ∧ s19 = .int .i64 (i : Int) ∧ KO wr W.heap.size (kyN m i) v ∧ Below W.heap.size W wr) (fun _ s19 _ => m.base.length - (intOf s19).toNat)
  case atStart => exact ⟨0, Nat.zero_le _, rfl, hown2.out, hb2.out⟩
  case round =>
    obtain ⟨i, hi, rfl, hown, hbel⟩ := hrel
    have T := Lib.hid (SW.out.call hbel)
    obtain ⟨⟨r1, f1, r10, r11, r12, -⟩, -⟩ := T.out.facts
    have hB : W.heap.size ≤ wr.heap.size := hbel.size
    have hmr := hmW.out wr hbel
    replace hbel := Lib.hid hbel
    by_cases hlt : i < m.base.length
    · obtain ⟨b, off, rfl, hb, hc⟩ := hmr.r0 (by omega)
      obtain ⟨b', off', rfl, hb', hc'⟩ := hmr.r1 (by rw [hnb.out]; omega)
      have y := hc i hlt
      have y' := hc' i (by rw [hnb.out]; exact hlt)
      unfold iv at y y'
      have hs := hsv.out i hlt
      have hv := hvs.out i hlt
      have hK := Lib.hid (show kyN m (i + 1) = kyN m i ++ [gi m.base i, gi m.next i + 1] from rfl)
      have hl := Lib.hid (kyN_len m i)
      obtain ⟨x, hx⟩ : ∃ x, gi m.base i = x := ⟨_, rfl⟩
      obtain ⟨z, hz⟩ : ∃ z, gi m.next i = z := ⟨_, rfl⟩
      rw [hx] at y hs hK
      rw [hz] at y' hs hK
      have w1 : IntKind.u8.wrap x = x := u8w (by omega) (by omega)
      have w2 : IntKind.u8.wrap (z + 1) = z + 1 := u8w (by omega) (by omega)
      have w3 : IntKind.i64.wrap (z + 1) = z + 1 := by rw [IntKind.wrap_i64]; omega
      have ji : (i : Int) < (m.base.length : Int) := by omega
      have jn : (i : Int) < (m.next.length : Int) := by rw [hnb.out]; omega
      have hO := Lib.hid hown
      replace hx := Lib.hid hx
      replace hz := Lib.hid hz
      clear hown hc hc' hs hv hmr
      have hz0 := Lib.hid (((hbel.out.alloc hB (.cells #[.int .u8 x, .int .u8 (z + 1)] 5))).drew)
      have hzs : Hid (W.heap.size ≤ (wr.alloc (.cells #[.int .u8 x, .int .u8 (z + 1)] 5)).drew.heap.size) := Lib.hid hz0.out.size
      have hO2 : Hid (KO (wr.alloc (.cells #[.int .u8 x, .int .u8 (z + 1)] 5)).drew W.heap.size (kyN m i) _) := Lib.hid (own_to hO.out (((Below.refl _ _).alloc (Nat.le_refl _) _).drew))
      have hcl : Hid (∀ j u, [Value.int .u8 x, .int .u8 (z + 1)][j]? = some u → (wr.alloc (.cells #[.int .u8 x, .int .u8 (z + 1)] 5)).drew.cell? ⟨wr.heap.size, j, none⟩ = some u) := Lib.hid fun j u h => by
        refine ((Drawn.refl _).drew.cell _).trans ?_
        rw [World.cell?_alloc_new]
        simpa using h
      have hone : Hid (∀ u ∈ [Value.int .u8 x, .int .u8 (z + 1)], u.oneCell' = true) := Lib.hid (by simp [Value.oneCell'])
      go_wp2
      go_region_law
        (first
          | (refine step_ownN elU8 (by rfl) (.tmp 22) (.tmp 36) (by rfl) W.heap.size _ (kyN m i).length (byR (kyN m i)) hO2.out (by go_simp) wr.heap.size 2 (by go_simp) [.int .u8 x, .int .u8 (z + 1)] rfl hcl.out hone.out (by rw [hl.out]; omega) (by omega) (by omega) hzs.out ?_
             intro v' w5 hown5 hg5 hor5
             have hb5 := Lib.hid (hz0.out.trans (own_below hO2.out hg5 hzs.out))
             have hO5 : Hid (KO w5 W.heap.size (kyN m (i + 1)) v') := Lib.hid (by unfold KO byR; rw [hK.out, List.length_append, List.map_append]; exact hown5)
             clear hown5 hg5 hor5))
      all_goals go_wp2_with fail
      all_goals go_roundw
      all_goals first
        | (case rel => exact ⟨i + 1, by omega, by go_num, hO5.out, hb5.out⟩)
        | (case measure => simp [intOf]; omega)
    · obtain rfl : i = m.base.length := by omega
      have hO := Lib.hid hown
      clear hown hlt
      go_wp2
      clear r1 f1 r10 r11 r12
      go_loopw [3, 42] (fun v s42 wr => ∃ k : Nat, k ≤ m.held.length ∧ s42 = .int .i64 (k : Int) ∧ KO wr W.heap.size (kyN m m.base.length ++ m.held.take k) v ∧ Below W.heap.size W wr) (fun _ s42 _ => m.held.length - (intOf s42).toNat)
      case atStart => exact ⟨0, Nat.zero_le _, rfl, by simpa using hO.out, hbel.out⟩
      case round =>
        clear hO hbel
        obtain ⟨k, hk, rfl, hown, hbel⟩ := hrel
        have T := Lib.hid (SW.out.call hbel)
        obtain ⟨⟨r1, f1, r10, r11, r12, -⟩, -⟩ := T.out.facts
        have hB : W.heap.size ≤ wr.heap.size := hbel.size
        have hmr := hmW.out wr hbel
        replace hbel := Lib.hid hbel
        have hO := Lib.hid hown
        clear hown
        by_cases hlt2 : k < m.held.length
        · obtain ⟨b, off, rfl, hb, hc⟩ := hmr.r2 (by omega)
          have y := hc k hlt2
          unfold u8v at y
          have jk : (k : Int) < (m.held.length : Int) := by omega
          have hK : Hid (kyN m m.base.length ++ m.held.take (k + 1) = (kyN m m.base.length ++ m.held.take k) ++ [gi m.held k]) := Lib.hid (by rw [List.take_add_one, gi_get hlt2, Option.toList_some, List.append_assoc])
          have hl : Hid ((kyN m m.base.length ++ m.held.take k).length = 2 * m.base.length + k) := Lib.hid (by rw [List.length_append, kyN_len, List.length_take, Nat.min_eq_left (Nat.le_of_lt hlt2)])
          obtain ⟨x, hx⟩ : ∃ x, gi m.held k = x := ⟨_, rfl⟩
          rw [hx] at y hK
          obtain ⟨L, hL⟩ : ∃ L, kyN m m.base.length ++ m.held.take k = L := ⟨_, rfl⟩
          rw [hL] at hK hl hO
          replace hx := Lib.hid hx
          replace hL := Lib.hid hL
          clear hc hmr
          go_wp2_with (at_builtin; refine push_own elU8 rfl _ _ rfl W.heap.size _ L.length (byR L) hO.out rfl [.int .u8 x] rfl rfl rfl (by rw [hl.out]; omega) (by omega) hB ?_)
          intro v' w6 hown6 hg6 hb6 hs6 _
          have hO6 : Hid (KO w6 W.heap.size (kyN m m.base.length ++ m.held.take (k + 1)) v') := Lib.hid (by unfold KO byR; rw [hK.out, List.length_append, List.map_append]; exact hown6)
          have hb7 := Lib.hid (hbel.out.trans hb6)
          clear hown6 hg6 hb6 hs6
          go_wp2
          go_roundw
          case rel => exact ⟨k + 1, by omega, by go_num, hO6.out, hb7.out⟩
          case measure => simp [intOf]; omega
        · obtain rfl : k = m.held.length := by omega
          have hO8 := hO.out
          rw [List.take_length] at hO8
          have hO9 : KO wr W.heap.size (keyL m) _ := hO8
          obtain ⟨A, c, rfl, hconv⟩ := ko_conv hO9
          clear hO hO8 hO9 hlt2 hmr
          go_wp2
          go_ret
          exact ⟨rfl, T.out.bel⟩
end Go.Proofs.Ytickckehhfdoeaa
