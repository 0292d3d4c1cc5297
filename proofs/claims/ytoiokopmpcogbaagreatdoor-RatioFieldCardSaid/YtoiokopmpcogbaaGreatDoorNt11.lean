/-
  CONTRACTS of the reference's small and Parse.
  Conditions: those that each theorem names.
-/
import Derived.Test.YtoiokopmpcogbaaGreatDoorNt10
import Derived.Deep.RegionLaw

namespace Go.Proofs.YtoiokopmpcogbaaGreatDoor
open Go.RowKit Go.Sv
structure SmI (l : List Int) (z : Int) (B : Nat) (w : World) (k : Nat) (o : List Int) (v : Value) (c : Int) (wr : World) : Prop where
  kn : k ≤ l.length
  c0 : 0 ≤ c
  c1 : c ≤ 255
  len : o.length = k
  lo : Lim o
  eq : vt o k + c * Bp k = vt l k * 10 + z
  own : wr.ownsRow B 46 1 v k (uRow o)
  bel : Below B w wr
theorem sm_dig {l o : List Int} {k : Nat} {c z : Int} (hl : Lim l) (c0 : 0 ≤ c) (c1 : c ≤ 255) (lo : Lim o) (hlen : o.length = k) (h : vt o k + c * Bp k = vt l k * 10 + z) :
    0 ≤ (c + gi l k * 10) / 4294967296 ∧ (c + gi l k * 10) / 4294967296 ≤ 255 ∧ Lim (o ++ [(c + gi l k * 10) % 4294967296]) ∧
    vt (o ++ [(c + gi l k * 10) % 4294967296]) (k + 1) + (c + gi l k * 10) / 4294967296 * Bp (k + 1) = vt l (k + 1) * 10 + z := by
  have x := hl.at k
  refine ⟨by omega, by omega, lo.snoc (by omega) (by omega), ?_⟩
  subst hlen
  have e := carry_eq (c + gi l o.length * 10) o.length
  rw [vt_snoc, vt_succ]
  generalize (c + gi l o.length * 10) % 4294967296 = r at e
  generalize (c + gi l o.length * 10) / 4294967296 = q at e
  grind
/-- what small leaves -/
def SmR (w : World) (l : List Int) (c : Nat) (v : Value) (w' : World) : Prop :=
  ∃ (o : List Int) (q : LmP), v = .slice q.a (l.length + 1) q.c ∧ o.length = l.length + 1 ∧ Lim o ∧ norm o = lim (vl l * 10 + c) ∧ RLm w' w'.heap.size o q ∧ Below w.heap.size w w'
set_option maxHeartbeats 1000000 in
set_option maxRecDepth 100000 in
theorem small_any (l : List Int) (q : LmP) (c0 : Nat) (w : World) (h : RLm w w.heap.size l q) (hl : Lim l) (hn : l.length ≤ 1000) (hc : c0 ≤ 255) :
    Calls Tryz.prog 98 #[rowV l q, .int .u64 10, .int .u64 c0] w (Ret (SmR w l c0)) := by
  have hA := Lib.hid h.arr
  obtain ⟨qa, qc⟩ := q
  clear h
  dsimp only [rowV]
  go_enter Tryz.func98, Tryz.ntmps98
  go_wp2
  go_loopw [2, 7, 8] (fun s2 s7 s8 wr => ∃ (k : Nat) (o : List Int) (c : Int), s8 = .int .i64 k ∧ s2 = .int .u64 c ∧ SmI l c0 w.heap.size w k o s7 c wr) (fun _ _ s8 _ => l.length - (intOf s8).toNat)
  case atStart => exact ⟨0, [], c0, rfl, rfl, ⟨Nat.zero_le _, by omega, by omega, rfl, Lim.nil, by simp [vt, Bp_zero], World.ownsRow_nil _ _ _ _, Below.refl _ _⟩⟩
  case round =>
    obtain ⟨k, o, c, rfl, rfl, I⟩ := hrel
    have hkn := I.kn
    have x0 := I.c0
    have x1 := I.c1
    have xl := hl.at k
    by_cases hlt : k < l.length
    · obtain ⟨d1, d2, d3, d4⟩ := sm_dig hl x0 x1 I.lo I.len I.eq
      obtain ⟨bb, ob, rfl, hbb, hcc⟩ := (hA.out) (by omega)
      have y := (I.bel.cell (p := ⟨bb, ob + k, none⟩) hbb).trans (hcc k hlt)
      unfold u32v at y
      have hown := Lib.hid I.own
      have hbel := Lib.hid I.bel
      have hsz := I.bel.size
      have kc : Hid (k + 1 = (o ++ [(c + gi l k * 10) % 4294967296]).length) := Lib.hid (by rw [List.length_append, I.len]; rfl)
      have uR : Hid (uRow (o ++ [(c + gi l k * 10) % 4294967296]) = uRow o ++ [.int .u32 ((c + gi l k * 10) % 4294967296)]) := Lib.hid (uRow_snoc _ _)
      have w1 : IntKind.u64.wrap (gi l k * 10) = gi l k * 10 := by simp [IntKind.wrap, IntKind.bits, IntKind.signed]; omega
      have w2 : IntKind.u64.wrap (c + gi l k * 10) = c + gi l k * 10 := by simp [IntKind.wrap, IntKind.bits, IntKind.signed]; omega
      clear I hcc hA
      replace d3 := Lib.hid d3
      replace d4 := Lib.hid d4
      go_wp2_with (at_builtin; refine push_own elU32 rfl _ _ rfl w.heap.size _ k (uRow o) hown.out rfl _ rfl rfl rfl (by omega) (by omega) hsz ?_)
      intro v' w3 hown3 hgr hb3 hs3 _
      have S : Hid (SmI l c0 w.heap.size w (k + 1) (o ++ [(c + gi l k * 10) % 4294967296]) v' ((c + gi l k * 10) / 4294967296) w3) := Lib.hid ⟨by omega, d1, d2, kc.out.symm, d3.out, d4.out, by rw [uR.out]; exact hown3, hbel.out.trans hb3⟩
      clear hown3 hgr hb3 hs3 d1 d2
      go_wp2
      go_roundw
      case rel => exact ⟨k + 1, _, _, by go_num, rfl, S.out⟩
      case measure => simp [intOf]; omega
    · obtain rfl : k = l.length := by omega
      have hown := Lib.hid I.own
      have hsz := I.bel.size
      have kc : Hid (l.length + 1 = (o ++ [c]).length) := Lib.hid (by rw [List.length_append, I.len]; rfl)
      have uR : Hid (uRow (o ++ [c]) = uRow o ++ [.int .u32 c]) := Lib.hid (uRow_snoc _ _)
      have w1 : IntKind.u32.wrap c = c := by simp [IntKind.wrap, IntKind.bits, IntKind.signed]; omega
      have hL : Lim (o ++ [c]) := I.lo.snoc x0 (by omega)
      have hN : norm (o ++ [c]) = lim (vl l * 10 + c0) := by
        refine norm_lim hL ?_
        have e := I.eq
        rw [vl_vt hl] at e
        rw [← kc.out]
        have h2 := vt_snoc o c
        rw [I.len] at h2
        rw [h2, e]
        omega
      have hbel := Lib.hid I.bel
      replace hL := Lib.hid hL
      replace hN := Lib.hid hN
      clear I hA
      go_wp2_with (at_builtin; refine push_own elU32 rfl _ _ rfl w.heap.size _ l.length (uRow o) hown.out rfl _ rfl rfl rfl (by omega) (by omega) hsz ?_)
      intro v' w3 hown3 hgr hb3 hs3 _
      have hown4 : w3.ownsRow w.heap.size 46 1 v' (l.length + 1) (uRow (o ++ [c])) := by rw [uR.out]; exact hown3
      obtain ⟨q6, rfl, hr6, _⟩ := own_rlm hown4 kc.out
      have hF : Hid (SmR w l c0 (.slice q6.a (l.length + 1) q6.c) w3) := Lib.hid ⟨_, q6, rfl, kc.out.symm, hL.out, hN.out, hr6, hbel.out.trans hb3⟩
      have e5 : Hid (rowV (o ++ [c]) q6 = .slice q6.a (l.length + 1) q6.c) := Lib.hid (by show Value.slice _ _ _ = _; rw [← kc.out])
      clear hown3 hgr hb3 hs3 hown4 hr6
      go_wp2
      go_ret
      rw [e5.out]
      exact Ret.mk hF.out

def prsV (l : List UInt8) : List Int := if txtOk l = true then cutV (dval l) else []
def prsE (l : List UInt8) : Int := if txtOk l = true then cutE (dval l) else 2
theorem bS_get (l : List UInt8) (k : Nat) (_h : k < (bS l).size) (h' : k < l.length) : (bS l)[k] = l[k] := rfl
theorem bS_size (l : List UInt8) : (bS l).size = l.length := by simp [ByteArray.size]
theorem txt_no1 : txtOk [] = false := rfl
theorem txt_no2 {l : List UInt8} (h : 1 < l.length) (h0 : l[0] = 48) : txtOk l = false := by
  cases l with
  | nil => simp at h
  | cons c r =>
    simp at h0
    subst h0
    cases r with
    | nil => simp at h
    | cons d r => simp [txtOk]
theorem txt_no3 {l : List UInt8} {k : Nat} (h : k < l.length) (h0 : isDg l[k] = false) : txtOk l = false := by
  have : l.all isDg = false := by
    rw [List.all_eq_false]
    exact ⟨l[k], List.getElem_mem h, by simp [h0]⟩
  simp [txtOk, this]
theorem txt_yes {l : List UInt8} (h0 : l ≠ []) (h1 : 1 < l.length → ∀ h : 0 < l.length, l[0] ≠ 48) (h2 : ∀ i (h : i < l.length), isDg l[i] = true) : txtOk l = true := by
  have e : l.all isDg = true := by
    rw [List.all_eq_true]
    intro c hc
    obtain ⟨i, hi, rfl⟩ := List.mem_iff_getElem.1 hc
    exact h2 i hi
  cases l with
  | nil => exact absurd rfl h0
  | cons c r =>
    unfold txtOk
    rw [e]
    by_cases c1 : 1 < (c :: r).length
    · have := h1 c1 (by simp)
      simp at this
      simp [this]
    · cases r with
      | nil => simp
      | cons d r => simp at c1
theorem dig_int {c : UInt8} (h : isDg c = true) : 48 ≤ (c.toNat : Int) ∧ (c.toNat : Int) ≤ 57 := by have := isDg_is h; omega

set_option maxRecDepth 100000 in
theorem rparse_bad (l : List UInt8) (w : World) (h : l = [] ∨ (1 < l.length ∧ ∃ h : 0 < l.length, l[0] = 48)) :
    Calls Tryz.prog 69 #[.string (bS l)] w (Ret (NRes2 w [] 2)) := by
  rcases h with rfl | ⟨h1, h2, h3⟩
  · have hb := Lib.hid (((Below.refl _ w).alloc (Nat.le_refl _) (.cells #[.slice none 0 0] 24)))
    go_enter Tryz.func69, Tryz.ntmps69
    go_wp2
    refine bodyPost_ret (v := .tuple #[.agg #[.slice none 0 0], .int .i64 2]) (by simp [results, Tryz.results69, go_sem]) rfl ?_
    exact Ret.mk (NRes2.none_ hb.out)
  · have hb := Lib.hid (((Below.refl _ w).alloc (Nat.le_refl _) (.cells #[.slice none 0 0] 24)))
    have e1 : l.isEmpty = false := by cases l with | nil => simp at h2 | cons c r => rfl
    have i1 : (1 : Int) < (l.length : Int) := by omega
    have c1 : ∀ h : 0 < (bS l).size, ((((bS l)[0]'h).toNat : Int) == 48) = true := fun h => by rw [bS_get l 0 h h2, h3]; rfl
    have c2 := c1 (by rw [bS_size]; exact h2)
    clear c1 h3
    go_enter Tryz.func69, Tryz.ntmps69
    go_wp2
    refine bodyPost_ret (v := .tuple #[.agg #[.slice none 0 0], .int .i64 2]) (by simp [results, Tryz.results69, go_sem]) rfl ?_
    exact Ret.mk (NRes2.none_ hb.out)
end Go.Proofs.YtoiokopmpcogbaaGreatDoor

namespace Go.Proofs.YtoiokopmpcogbaaGreatDoor
open Go.RowKit Go.Sv
theorem vl_small {l : List UInt8} {k : Nat} (h : k < l.length) : dval (l.take (k + 1)) = dval (l.take k) * 10 + (l[k].toNat - 48) := by
  rw [List.take_succ_eq_append_getElem h, dval_snoc]
theorem dval_mono (l : List UInt8) (k : Nat) : dval (l.take k) ≤ dval l := by
  have h := dval_take_le l k
  have : 1 ≤ 10 ^ (l.length - k) := Nat.pow_pos (by decide)
  exact Nat.le_trans (Nat.le_mul_of_pos_right _ this) h

set_option maxHeartbeats 2000000 in
set_option maxRecDepth 100000 in
theorem rparse_go (l : List UInt8) (w : World) (h0 : l ≠ []) (h1 : 1 < l.length → ∀ h : 0 < l.length, l[0] ≠ 48) (hn : l.length ≤ 100000) :
    Calls Tryz.prog 69 #[.string (bS l)] w (Ret (NRes2 w (prsV l) (prsE l))) := by
  have hl0 : 0 < l.length := by
    cases l with
    | nil => exact absurd rfl h0
    | cons c r => simp
  have e1 : l.isEmpty = false := by cases l with | nil => exact absurd rfl h0 | cons c r => rfl
  have hT := Lib.hid (fun h2 => txt_yes h0 h1 h2)
  have hT3 := Lib.hid (fun k h h' => txt_no3 (l := l) (k := k) h h')
  have hsz := bS_size l
  have HS := Lib.hid (fun m q c w' h1 h2 h3 h4 => small_any m q c w' h1 h2 h3 h4)
  have HR := Lib.hid (fun m q w' h1 h2 => rtrim_any m q w' h1 h2)
  have S0 := Lib.hid ((Fm.init w).box 24 [.slice none 0 0])
  have hB := Lib.hid (S0.out.bel)
  have hgg := Lib.hid (fun k (h' : k < l.length) (h : k < (bS l).size) => bS_get l k h h')
  have key : (1 < l.length ∧ ∀ h : 0 < (bS l).size, ((((bS l)[0]'h).toNat : Int) == 48) = false) ∨ ¬ 1 < l.length := by
    by_cases c : 1 < l.length
    · refine Or.inl ⟨c, fun h => ?_⟩
      have := h1 c hl0
      rw [bS_get l 0 h hl0]
      refine beq_eq_false_iff_ne.2 fun e => this ?_
      apply UInt8.toNat_inj.1
      show l[0].toNat = 48
      omega
    · exact Or.inr c
  clear h1 h0
  rcases key with ⟨c1, c2⟩ | c1
  · have c2 := c2 (by omega)
    have i1 : (1 : Int) < (l.length : Int) := by omega
    have i2 : decide ((1 : Int) < (l.length : Int)) = true := decide_eq_true i1
    replace hsz := Lib.hid hsz
    go_enter Tryz.func69, Tryz.ntmps69
    go_wp2
    go_loop [4] (fun s4 => ∃ k : Nat, s4 = .int .i64 k ∧ k ≤ l.length ∧ (∀ i (h : i < l.length), i < k → isDg l[i] = true)) (fun s4 => l.length - (intOf s4).toNat)
    case atStart => exact ⟨0, rfl, Nat.zero_le _, fun i h hi => absurd hi (Nat.not_lt_zero _)⟩
    case round =>
      obtain ⟨k, rfl, hk, hd⟩ := hrel
      replace hd := Lib.hid hd
      by_cases hlt : k < l.length
      · have gk := hgg.out k hlt (by rw [hsz.out]; exact hlt)
        have gk' : k < (bS l).size := by rw [hsz.out]; exact hlt
        cases hdg : isDg l[k] with
        | false =>
          have hTn : Hid (txtOk l = false) := Lib.hid (hT3.out k hlt hdg)
          have hV : Hid (prsV l = []) := Lib.hid (by unfold prsV; rw [hTn.out]; rfl)
          have hE : Hid (prsE l = 2) := Lib.hid (by unfold prsE; rw [hTn.out]; rfl)
          have hbad : (((bS l)[k]'gk').toNat : Int) < 48 ∨ 57 < (((bS l)[k]'gk').toNat : Int) := by
            rw [gk]
            have : ¬ (48 ≤ l[k].toNat ∧ l[k].toNat ≤ 57) := fun h => by simp [isDg, h] at hdg
            omega
          have hx : 48 ≤ (((bS l)[k]'gk').toNat : Int) → decide (((((bS l)[k]'gk').toNat) : Int) < 48) = false := fun h => decide_eq_false (by omega)
          replace hdg := Lib.hid hdg
          replace gk := Lib.hid gk
          by_cases c48 : (((bS l)[k]'gk').toNat : Int) < 48
          · have t1 : decide ((((bS l)[k]'gk').toNat : Int) < 48) = true := decide_eq_true c48
            clear hbad hx hd
            go_wp2
            refine bodyPost_ret (v := .tuple #[.agg #[.slice none 0 0], .int .i64 2]) (by simp [results, Tryz.results69, go_sem]) rfl ?_
            rw [hV.out, hE.out]
            exact Ret.mk (NRes2.none_ hB.out)
          · have t1 : decide ((((bS l)[k]'gk').toNat : Int) < 48) = false := decide_eq_false c48
            have t2 : decide (57 < (((bS l)[k]'gk').toNat : Int)) = true := decide_eq_true (by omega)
            clear hbad hx hd
            go_wp2
            refine bodyPost_ret (v := .tuple #[.agg #[.slice none 0 0], .int .i64 2]) (by simp [results, Tryz.results69, go_sem]) rfl ?_
            rw [hV.out, hE.out]
            exact Ret.mk (NRes2.none_ hB.out)
        | true =>
          have hdi := dig_int hdg
          rw [← gk] at hdi
          have t1 : decide ((((bS l)[k]'gk').toNat : Int) < 48) = false := decide_eq_false (by omega)
          have t2 : decide (57 < (((bS l)[k]'gk').toNat : Int)) = false := decide_eq_false (by omega)
          have hd' : Hid (∀ i (h : i < l.length), i < k + 1 → isDg l[i] = true) := Lib.hid fun i h hi => by
            rcases Nat.lt_or_ge i k with c | c
            · exact hd.out i h c
            · obtain rfl : i = k := by omega
              exact hdg
          replace hdg := Lib.hid hdg
          replace gk := Lib.hid gk
          clear hd hdi
          go_wp2
          go_round
          case rel => exact ⟨k + 1, by go_num, hlt, hd'.out⟩
          case measure => simp [intOf]; omega
      · obtain rfl : k = l.length := by omega
        have hTy : Hid (txtOk l = true) := Lib.hid (hT.out (fun i h => hd.out i h h))
        have hdg := Lib.hid (fun i h => hd.out i h h)
        clear hd hT hT3 hlt
        go_wp2
        go_loopw [5, 6] (fun s5 s6 wr => ∃ (k : Nat) (m : List Int) (q' : LmP), s6 = .int .i64 k ∧ s5 = .slice q'.a m.length q'.c ∧ k ≤ l.length ∧ m = lim (dval (l.take k)) ∧ m.length ≤ 128 ∧ Fm w wr [⟨w.heap.size, 24, [.slice none 0 0]⟩] [rowRd m q']) (fun _ s6 _ => l.length - (intOf s6).toNat)
        case atStart => exact ⟨0, [], ⟨none, 0⟩, rfl, rfl, Nat.zero_le _, lim_zero.symm, by simp, S0.out.also (rowRd [] ⟨none, 0⟩) (RLm.none_ _ _) (fun g ⟨h, _⟩ => absurd h (by simp))⟩
        case round =>
          obtain ⟨k, m, ⟨q1, c1'⟩, rfl, rfl, hk, hm, hm128, S⟩ := hrel
          replace S := Lib.hid S
          have vm : vl m = dval (l.take k) := by rw [hm, vl_lim]
          have hmL : Lim m := by rw [hm]; exact lim_lim _
          by_cases hlt : k < l.length
          · have gk := hgg.out k hlt (by rw [hsz.out]; exact hlt)
            have gk' : k < (bS l).size := by rw [hsz.out]; exact hlt
            have hdi := dig_int (hdg.out k hlt)
            have eC : ((l[k].toNat - 48 : Nat) : Int) = (((bS l)[k]'gk').toNat : Int) - 48 := by rw [gk]; omega
            have HS1 := HS.out m ⟨q1, c1'⟩ (l[k].toNat - 48) _ S.out.r0 hmL (by omega) (by omega)
            rw [eC] at HS1
            rw [← gk] at hdi
            have j1 : (48 : Int) ≤ (((bS l)[k]'gk').toNat : Int) := hdi.1
            have j2 : (((bS l)[k]'gk').toNat : Int) ≤ 57 := hdi.2
            have w1 : IntKind.u8.wrap ((((bS l)[k]'gk').toNat : Int) - 48) = (((bS l)[k]'gk').toNat : Int) - 48 := by simp [IntKind.wrap, IntKind.bits, IntKind.signed]; omega
            have hnx : vl m * 10 + (l[k].toNat - 48) = dval (l.take (k + 1)) := by rw [vm, vl_small hlt]
            have HR1 := Lib.hid (fun o q w' (h1 : RLm w' w'.heap.size o q) (ho : o.length = m.length + 1) (hno : norm o = lim (vl m * 10 + (l[k].toNat - 48))) => by
              have := HR.out o q w' h1 (by omega)
              rw [hno, hnx, ho] at this
              exact this)
            have hle := dval_mono l (k + 1)
            obtain ⟨m', hm'⟩ : ∃ m', lim (dval (l.take (k + 1))) = m' := ⟨_, rfl⟩
            rw [hm'] at HR1
            have hbig : 128 < m'.length → 128 < (lim (dval l)).length := fun h => len_mono hle (by rw [hm']; exact h)
            replace hm' := Lib.hid hm'
            replace HS1 := Lib.hid HS1
            obtain ⟨⟨zR, fR, yR, -⟩, -⟩ := S.out.facts
            clear hle hnx eC gk vm hmL hdi hm
            go_wp2_with fail
            refine HS1.out.mono ?_
            rintro e w5 ⟨_, rfl, o, q5, rfl, ho, hoL, hno, hr5, hb5⟩
            replace S := Lib.hid (S.out.call hb5)
            have HR2 := Lib.hid (HR1.out o q5 _ hr5 ho hno)
            clear hr5 hb5 hoL hno ho HR1 HS1 zR fR yR
            go_wp2_with fail
            refine HR2.out.mono ?_
            rintro e w6 ⟨_, rfl, ⟨q6, c6⟩, rfl, hr6, hf6, hb6⟩
            replace S := Lib.hid (natRes S.out hr6 hf6 hb6)
            obtain ⟨⟨zR, fR, yR, -⟩, -⟩ := S.out.facts
            clear hr6 hf6 hb6
            dsimp only [natV]
            have hfd := fieldN
            by_cases big : 128 < m'.length
            · have t1 : decide ((128 : Int) < (m'.length : Int)) = true := decide_eq_true (by omega)
              have t2 : decide (128 < m'.length) = true := decide_eq_true big
              have hV : Hid (prsV l = []) := Lib.hid (by unfold prsV cutV; rw [hTy.out, if_pos (hbig big)]; rfl)
              have hE : Hid (prsE l = 3) := Lib.hid (by unfold prsE cutE; rw [hTy.out, if_pos (hbig big)]; rfl)
              have hF := Lib.hid (S.out.set 0 rfl 0 (.slice none 0 0))
              clear big hbig
              go_wp2
              refine bodyPost_ret (v := .tuple #[.agg #[.slice none 0 0], .int .i64 3]) (by simp [results, Tryz.results69, go_sem, yR]) rfl ?_
              rw [hV.out, hE.out]
              exact Ret.mk (NRes2.none_ hF.out.bel)
            · have t1 : decide ((128 : Int) < (m'.length : Int)) = false := decide_eq_false (by omega)
              have t2 : decide (128 < m'.length) = false := decide_eq_false big
              have hF := Lib.hid (S.out.drop _ [rowRd m' ⟨q6, c6⟩] (List.Sublist.refl _) (.cons_cons _ (List.sublist_cons_self _ _)))
              have big' : m'.length ≤ 128 := by omega
              clear big hbig
              go_wp2
              go_roundw
              case rel => exact ⟨k + 1, m', ⟨q6, c6⟩, by go_num, rfl, hlt, hm'.out.symm, big', hF.out⟩
              case measure => simp [intOf]; omega
          · obtain rfl : k = l.length := by omega
            rw [List.take_length] at vm hm
            have eN : norm m = m := (norm_lim hmL (vl_vt hmL)).trans (by rw [vm, ← hm])
            have HR1 := HR.out m ⟨q1, c1'⟩ _ S.out.r0 (by omega)
            rw [eN] at HR1
            have hV : Hid (prsV l = m) := Lib.hid (by unfold prsV cutV; rw [hTy.out, if_pos rfl, ← hm, if_neg (by omega)])
            have hE : Hid (prsE l = 0) := Lib.hid (by unfold prsE cutE; rw [hTy.out, if_pos rfl, ← hm, if_neg (by omega)])
            replace HR1 := Lib.hid HR1
            clear eN hm vm hmL hlt
            obtain ⟨⟨zR, fR, yR, -⟩, -⟩ := S.out.facts
            go_wp2_with fail
            refine HR1.out.mono ?_
            rintro e w6 ⟨_, rfl, ⟨q6, c6⟩, rfl, hr6, hf6, hb6⟩
            have hFr := Lib.hid (hf6.le S.out.size)
            replace S := Lib.hid (natRes S.out hr6 hf6 hb6)
            clear hr6 hf6 hb6 zR fR yR
            obtain ⟨⟨zR, fR, yR, -⟩, -⟩ := S.out.facts
            have hF := Lib.hid (S.out.set 0 rfl 0 (.slice q6 m.length c6))
            go_wp2
            refine bodyPost_ret (v := .tuple #[natV m ⟨q6, c6⟩, .int .i64 0]) (by simp [results, Tryz.results69, go_sem, yR]) rfl ?_
            rw [hV.out, hE.out]
            exact Ret.mk (fm_nres2 hF.out (by simp) hFr.out)
  · have i2 : decide ((1 : Int) < (l.length : Int)) = false := decide_eq_false (by omega)
    replace hsz := Lib.hid hsz
    go_enter Tryz.func69, Tryz.ntmps69
    go_wp2
    go_loop [4] (fun s4 => ∃ k : Nat, s4 = .int .i64 k ∧ k ≤ l.length ∧ (∀ i (h : i < l.length), i < k → isDg l[i] = true)) (fun s4 => l.length - (intOf s4).toNat)
    case atStart => exact ⟨0, rfl, Nat.zero_le _, fun i h hi => absurd hi (Nat.not_lt_zero _)⟩
    case round =>
      obtain ⟨k, rfl, hk, hd⟩ := hrel
      replace hd := Lib.hid hd
      by_cases hlt : k < l.length
      · have gk := hgg.out k hlt (by rw [hsz.out]; exact hlt)
        have gk' : k < (bS l).size := by rw [hsz.out]; exact hlt
        cases hdg : isDg l[k] with
        | false =>
          have hTn : Hid (txtOk l = false) := Lib.hid (hT3.out k hlt hdg)
          have hV : Hid (prsV l = []) := Lib.hid (by unfold prsV; rw [hTn.out]; rfl)
          have hE : Hid (prsE l = 2) := Lib.hid (by unfold prsE; rw [hTn.out]; rfl)
          have hbad : (((bS l)[k]'gk').toNat : Int) < 48 ∨ 57 < (((bS l)[k]'gk').toNat : Int) := by
            rw [gk]
            have : ¬ (48 ≤ l[k].toNat ∧ l[k].toNat ≤ 57) := fun h => by simp [isDg, h] at hdg
            omega
          have hx : 48 ≤ (((bS l)[k]'gk').toNat : Int) → decide (((((bS l)[k]'gk').toNat) : Int) < 48) = false := fun h => decide_eq_false (by omega)
          replace hdg := Lib.hid hdg
          replace gk := Lib.hid gk
          by_cases c48 : (((bS l)[k]'gk').toNat : Int) < 48
          · have t1 : decide ((((bS l)[k]'gk').toNat : Int) < 48) = true := decide_eq_true c48
            clear hbad hx hd
            go_wp2
            refine bodyPost_ret (v := .tuple #[.agg #[.slice none 0 0], .int .i64 2]) (by simp [results, Tryz.results69, go_sem]) rfl ?_
            rw [hV.out, hE.out]
            exact Ret.mk (NRes2.none_ hB.out)
          · have t1 : decide ((((bS l)[k]'gk').toNat : Int) < 48) = false := decide_eq_false c48
            have t2 : decide (57 < (((bS l)[k]'gk').toNat : Int)) = true := decide_eq_true (by omega)
            clear hbad hx hd
            go_wp2
            refine bodyPost_ret (v := .tuple #[.agg #[.slice none 0 0], .int .i64 2]) (by simp [results, Tryz.results69, go_sem]) rfl ?_
            rw [hV.out, hE.out]
            exact Ret.mk (NRes2.none_ hB.out)
        | true =>
          have hdi := dig_int hdg
          rw [← gk] at hdi
          have t1 : decide ((((bS l)[k]'gk').toNat : Int) < 48) = false := decide_eq_false (by omega)
          have t2 : decide (57 < (((bS l)[k]'gk').toNat : Int)) = false := decide_eq_false (by omega)
          have hd' : Hid (∀ i (h : i < l.length), i < k + 1 → isDg l[i] = true) := Lib.hid fun i h hi => by
            rcases Nat.lt_or_ge i k with c | c
            · exact hd.out i h c
            · obtain rfl : i = k := by omega
              exact hdg
          replace hdg := Lib.hid hdg
          replace gk := Lib.hid gk
          clear hd hdi
          go_wp2
          go_round
          case rel => exact ⟨k + 1, by go_num, hlt, hd'.out⟩
          case measure => simp [intOf]; omega
      · obtain rfl : k = l.length := by omega
        have hTy : Hid (txtOk l = true) := Lib.hid (hT.out (fun i h => hd.out i h h))
        have hdg := Lib.hid (fun i h => hd.out i h h)
        clear hd hT hT3 hlt
        go_wp2
        go_loopw [5, 6] (fun s5 s6 wr => ∃ (k : Nat) (m : List Int) (q' : LmP), s6 = .int .i64 k ∧ s5 = .slice q'.a m.length q'.c ∧ k ≤ l.length ∧ m = lim (dval (l.take k)) ∧ m.length ≤ 128 ∧ Fm w wr [⟨w.heap.size, 24, [.slice none 0 0]⟩] [rowRd m q']) (fun _ s6 _ => l.length - (intOf s6).toNat)
        case atStart => exact ⟨0, [], ⟨none, 0⟩, rfl, rfl, Nat.zero_le _, lim_zero.symm, by simp, S0.out.also (rowRd [] ⟨none, 0⟩) (RLm.none_ _ _) (fun g ⟨h, _⟩ => absurd h (by simp))⟩
        case round =>
          obtain ⟨k, m, ⟨q1, c1'⟩, rfl, rfl, hk, hm, hm128, S⟩ := hrel
          replace S := Lib.hid S
          have vm : vl m = dval (l.take k) := by rw [hm, vl_lim]
          have hmL : Lim m := by rw [hm]; exact lim_lim _
          by_cases hlt : k < l.length
          · have gk := hgg.out k hlt (by rw [hsz.out]; exact hlt)
            have gk' : k < (bS l).size := by rw [hsz.out]; exact hlt
            have hdi := dig_int (hdg.out k hlt)
            have eC : ((l[k].toNat - 48 : Nat) : Int) = (((bS l)[k]'gk').toNat : Int) - 48 := by rw [gk]; omega
            have HS1 := HS.out m ⟨q1, c1'⟩ (l[k].toNat - 48) _ S.out.r0 hmL (by omega) (by omega)
            rw [eC] at HS1
            rw [← gk] at hdi
            have j1 : (48 : Int) ≤ (((bS l)[k]'gk').toNat : Int) := hdi.1
            have j2 : (((bS l)[k]'gk').toNat : Int) ≤ 57 := hdi.2
            have w1 : IntKind.u8.wrap ((((bS l)[k]'gk').toNat : Int) - 48) = (((bS l)[k]'gk').toNat : Int) - 48 := by simp [IntKind.wrap, IntKind.bits, IntKind.signed]; omega
            have hnx : vl m * 10 + (l[k].toNat - 48) = dval (l.take (k + 1)) := by rw [vm, vl_small hlt]
            have HR1 := Lib.hid (fun o q w' (h1 : RLm w' w'.heap.size o q) (ho : o.length = m.length + 1) (hno : norm o = lim (vl m * 10 + (l[k].toNat - 48))) => by
              have := HR.out o q w' h1 (by omega)
              rw [hno, hnx, ho] at this
              exact this)
            have hle := dval_mono l (k + 1)
            obtain ⟨m', hm'⟩ : ∃ m', lim (dval (l.take (k + 1))) = m' := ⟨_, rfl⟩
            rw [hm'] at HR1
            have hbig : 128 < m'.length → 128 < (lim (dval l)).length := fun h => len_mono hle (by rw [hm']; exact h)
            replace hm' := Lib.hid hm'
            replace HS1 := Lib.hid HS1
            obtain ⟨⟨zR, fR, yR, -⟩, -⟩ := S.out.facts
            clear hle hnx eC gk vm hmL hdi hm
            go_wp2_with fail
            refine HS1.out.mono ?_
            rintro e w5 ⟨_, rfl, o, q5, rfl, ho, hoL, hno, hr5, hb5⟩
            replace S := Lib.hid (S.out.call hb5)
            have HR2 := Lib.hid (HR1.out o q5 _ hr5 ho hno)
            clear hr5 hb5 hoL hno ho HR1 HS1 zR fR yR
            go_wp2_with fail
            refine HR2.out.mono ?_
            rintro e w6 ⟨_, rfl, ⟨q6, c6⟩, rfl, hr6, hf6, hb6⟩
            replace S := Lib.hid (natRes S.out hr6 hf6 hb6)
            obtain ⟨⟨zR, fR, yR, -⟩, -⟩ := S.out.facts
            clear hr6 hf6 hb6
            dsimp only [natV]
            have hfd := fieldN
            by_cases big : 128 < m'.length
            · have t1 : decide ((128 : Int) < (m'.length : Int)) = true := decide_eq_true (by omega)
              have t2 : decide (128 < m'.length) = true := decide_eq_true big
              have hV : Hid (prsV l = []) := Lib.hid (by unfold prsV cutV; rw [hTy.out, if_pos (hbig big)]; rfl)
              have hE : Hid (prsE l = 3) := Lib.hid (by unfold prsE cutE; rw [hTy.out, if_pos (hbig big)]; rfl)
              have hF := Lib.hid (S.out.set 0 rfl 0 (.slice none 0 0))
              clear big hbig
              go_wp2
              refine bodyPost_ret (v := .tuple #[.agg #[.slice none 0 0], .int .i64 3]) (by simp [results, Tryz.results69, go_sem, yR]) rfl ?_
              rw [hV.out, hE.out]
              exact Ret.mk (NRes2.none_ hF.out.bel)
            · have t1 : decide ((128 : Int) < (m'.length : Int)) = false := decide_eq_false (by omega)
              have t2 : decide (128 < m'.length) = false := decide_eq_false big
              have hF := Lib.hid (S.out.drop _ [rowRd m' ⟨q6, c6⟩] (List.Sublist.refl _) (.cons_cons _ (List.sublist_cons_self _ _)))
              have big' : m'.length ≤ 128 := by omega
              clear big hbig
              go_wp2
              go_roundw
              case rel => exact ⟨k + 1, m', ⟨q6, c6⟩, by go_num, rfl, hlt, hm'.out.symm, big', hF.out⟩
              case measure => simp [intOf]; omega
          · obtain rfl : k = l.length := by omega
            rw [List.take_length] at vm hm
            have eN : norm m = m := (norm_lim hmL (vl_vt hmL)).trans (by rw [vm, ← hm])
            have HR1 := HR.out m ⟨q1, c1'⟩ _ S.out.r0 (by omega)
            rw [eN] at HR1
            have hV : Hid (prsV l = m) := Lib.hid (by unfold prsV cutV; rw [hTy.out, if_pos rfl, ← hm, if_neg (by omega)])
            have hE : Hid (prsE l = 0) := Lib.hid (by unfold prsE cutE; rw [hTy.out, if_pos rfl, ← hm, if_neg (by omega)])
            replace HR1 := Lib.hid HR1
            clear eN hm vm hmL hlt
            obtain ⟨⟨zR, fR, yR, -⟩, -⟩ := S.out.facts
            go_wp2_with fail
            refine HR1.out.mono ?_
            rintro e w6 ⟨_, rfl, ⟨q6, c6⟩, rfl, hr6, hf6, hb6⟩
            have hFr := Lib.hid (hf6.le S.out.size)
            replace S := Lib.hid (natRes S.out hr6 hf6 hb6)
            clear hr6 hf6 hb6 zR fR yR
            obtain ⟨⟨zR, fR, yR, -⟩, -⟩ := S.out.facts
            have hF := Lib.hid (S.out.set 0 rfl 0 (.slice q6 m.length c6))
            go_wp2
            refine bodyPost_ret (v := .tuple #[natV m ⟨q6, c6⟩, .int .i64 0]) (by simp [results, Tryz.results69, go_sem, yR]) rfl ?_
            rw [hV.out, hE.out]
            exact Ret.mk (fm_nres2 hF.out (by simp) hFr.out)
end Go.Proofs.YtoiokopmpcogbaaGreatDoor

namespace Go.Proofs.YtoiokopmpcogbaaGreatDoor
open Go.RowKit Go.Sv
theorem rparse_any (l : List UInt8) (w : World) (hn : l.length ≤ 100000) : Calls Tryz.prog 69 #[.string (bS l)] w (Ret (NRes2 w (prsV l) (prsE l))) := by
  by_cases h0 : l = []
  · have e : txtOk l = false := by rw [h0]; rfl
    unfold prsV prsE
    rw [e]
    exact rparse_bad l w (Or.inl h0)
  · by_cases h1 : 1 < l.length ∧ ∃ h : 0 < l.length, l[0] = 48
    · have e : txtOk l = false := txt_no2 h1.1 h1.2.2
      unfold prsV prsE
      rw [e]
      exact rparse_bad l w (Or.inr h1)
    · exact rparse_go l w h0 (fun h h' e => h1 ⟨h, h', e⟩) hn

set_option maxRecDepth 100000 in
theorem pfun_any (c : UInt8) (w : World) : Calls Tryz.prog 96 #[.int .u8 (c.toNat : Int)] w fun e w' => e = .returned (.bool (!isDg c)) ∧ w = w' := by
  by_cases c48 : (c.toNat : Int) < 48
  · have t1 : decide ((c.toNat : Int) < 48) = true := decide_eq_true c48
    have e : Hid ((!isDg c) = true) := Lib.hid (by have : ¬ 48 ≤ c.toNat := by omega
                                                   simp [isDg, this])
    go_enter Tryz.func96, Tryz.ntmps96
    go_wp2
    go_ret
    exact ⟨ret_b e.out.symm, rfl⟩
  · have t1 : decide ((c.toNat : Int) < 48) = false := decide_eq_false c48
    have e : Hid ((!isDg c) = decide (57 < (c.toNat : Int))) := Lib.hid (by
      have : 48 ≤ c.toNat := by omega
      rw [Bool.eq_iff_iff]
      simp [isDg, this]
      omega)
    go_enter Tryz.func96, Tryz.ntmps96
    go_wp2
    go_ret
    exact ⟨ret_b (by rw [e.out]), rfl⟩
def IdxR (l : List UInt8) (w : World) (e : Ending) (w' : World) : Prop := ∃ z : Int, e = .returned (.int .i64 z) ∧ decide (0 ≤ z) = !(l.all isDg) ∧ w = w'
set_option maxRecDepth 100000 in
theorem ifun_any (l : List UInt8) (b cap : Nat) (w : World) (hc : ∀ j (h : j < l.length), w.cell? ⟨b, j, none⟩ = some (.int .u8 (l[j].toNat : Int))) (hn : l.length ≤ 100000) :
    Calls Tryz.prog 115 #[.slice (some ⟨b, 0, none⟩) l.length cap, .func (.func 96) #[] #[]] w (IdxR l w) := by
  replace hc := Lib.hid hc
  go_enter Tryz.func115, Tryz.ntmps115
  go_wp2
  go_loop [5, 8] (fun _ s8 => ∃ k : Nat, s8 = .int .i64 k ∧ k ≤ l.length ∧ (∀ i (h : i < l.length), i < k → isDg l[i] = true)) (fun _ s8 => l.length - (intOf s8).toNat)
  case atStart => exact ⟨0, rfl, Nat.zero_le _, fun i h hi => absurd hi (Nat.not_lt_zero _)⟩
  case round =>
    obtain ⟨k, rfl, hk, hd⟩ := hrel
    replace hd := Lib.hid hd
    by_cases hlt : k < l.length
    · have y := hc.out k hlt
      have HP := Lib.hid (fun w' => pfun_any l[k] w')
      cases hdg : isDg l[k] with
      | false =>
        have hF : Hid (decide (0 ≤ (k : Int)) = !(l.all isDg)) := Lib.hid (by
          have : l.all isDg = false := by
            rw [List.all_eq_false]
            exact ⟨l[k], List.getElem_mem hlt, by simp [hdg]⟩
          rw [this]; simp)
        rw [hdg] at HP
        replace hdg := Lib.hid hdg
        clear hd
        go_wp2_with fail
        refine (HP.out _).mono ?_
        rintro e w' ⟨rfl, rfl⟩
        go_wp2
        go_ret
        exact ⟨_, rfl, hF.out, rfl⟩
      | true =>
        rw [hdg] at HP
        have hd' : Hid (∀ i (h : i < l.length), i < k + 1 → isDg l[i] = true) := Lib.hid fun i h hi => by
          rcases Nat.lt_or_ge i k with c | c
          · exact hd.out i h c
          · obtain rfl : i = k := by omega
            exact hdg
        replace hdg := Lib.hid hdg
        clear hd
        go_wp2_with fail
        refine (HP.out _).mono ?_
        rintro e w' ⟨rfl, rfl⟩
        go_wp2
        go_round
        case rel => exact ⟨k + 1, by go_num, hlt, hd'.out⟩
        case measure => simp [intOf]; omega
    · obtain rfl : k = l.length := by omega
      have hF : Hid (decide (0 ≤ (-1 : Int)) = !(l.all isDg)) := Lib.hid (by
        have : l.all isDg = true := by
          rw [List.all_eq_true]
          intro c hc
          obtain ⟨i, hi, rfl⟩ := List.mem_iff_getElem.1 hc
          exact hd.out i hi hi
        rw [this]; rfl)
      clear hd hlt
      go_wp2
      go_ret
      exact ⟨_, rfl, hF.out, rfl⟩
theorem cfun_any (l : List UInt8) (b cap : Nat) (w : World) (hc : ∀ j (h : j < l.length), w.cell? ⟨b, j, none⟩ = some (.int .u8 (l[j].toNat : Int))) (hn : l.length ≤ 100000) :
    Calls Tryz.prog 95 #[.slice (some ⟨b, 0, none⟩) l.length cap, .func (.func 96) #[] #[]] w fun e w' => e = .returned (.bool (!(l.all isDg))) ∧ w = w' := by
  have HI := Lib.hid (ifun_any l b cap w hc hn)
  clear hc
  go_enter Tryz.func95, Tryz.ntmps95
  go_wp2_with fail
  refine HI.out.mono ?_
  rintro e w' ⟨z, rfl, hz, rfl⟩
  replace hz := Lib.hid hz
  go_wp2
  go_ret
  exact ⟨ret_b hz.out, rfl⟩
/-- the bytes of a text -/
theorem bytes_of (l : List UInt8) (W : World) : ∃ (cap : Nat) (w1 : World), (convert 9 98 (.string (bS l))).run Tryz.prog W = .ok (.slice (some ⟨W.heap.size, 0, none⟩) l.length cap) w1 ∧ Below W.heap.size W w1 ∧
    ∀ j (h : j < l.length), w1.cell? ⟨W.heap.size, j, none⟩ = some (.int .u8 (l[j].toNat : Int)) := by
  have h := Lib.run_convert_string_bytes (P := Tryz.prog) W 9 98 5 (bS l) Tryz.underlying9 Tryz.underlying98 Tryz.underlying5
  rw [bS_size] at h
  refine ⟨_, _, h, ⟨rfl, rfl, rfl, by rw [Lib.bytesWorld_size]; omega, fun k hk => Lib.bytesWorld_at_old W _ _ k hk⟩, fun j hj => ?_⟩
  rw [Lib.bytesWorld_cell _ _ _ j (by rw [bS_size]; exact hj)]
  simp [hj]
end Go.Proofs.YtoiokopmpcogbaaGreatDoor

namespace Go.Proofs.YtoiokopmpcogbaaGreatDoor
open Go.RowKit Go.Sv
set_option maxRecDepth 100000 in
theorem parse_bad (l : List UInt8) (w : World) (hs : l.length ≤ 100000) (hT : txtOk l = false) :
    Calls Tryz.prog 67 #[.string (bS l)] w (Ret (NRes2 w [] 2)) := by
  have S := Lib.hid ((Fm.init w).box 24 [.slice none 0 0])
  obtain ⟨cap, w1, hcv, hb1, hce⟩ := bytes_of l (w.alloc (.cells #[.slice none 0 0] 24))
  rw [World.size_alloc] at hcv hce
  have HC := Lib.hid (cfun_any l _ cap w1 hce hs)
  replace S := Lib.hid (S.out.call hb1)
  clear hb1 hce
  by_cases ha : l.all isDg = true
  · rw [ha] at HC
    by_cases h0 : l = []
    · subst h0
      clear ha hT
      go_enter Tryz.func67, Tryz.ntmps67
      go_wp2_with fail
      refine HC.out.mono ?_
      rintro e w' ⟨rfl, rfl⟩
      obtain ⟨⟨zR, fR, yR, -⟩, -⟩ := S.out.facts
      have hF := Lib.hid (S.out.set 0 rfl 0 (.slice none 0 0))
      go_wp2
      refine bodyPost_ret (v := .tuple #[.agg #[.slice none 0 0], .int .i64 2]) (by simp [results, Tryz.results67, go_sem, yR]) rfl ?_
      exact Ret.mk (NRes2.none_ hF.out.bel)
    · have hl0 : 0 < l.length := by
        cases l with
        | nil => exact absurd rfl h0
        | cons c r => simp
      have hc : 1 < l.length ∧ l[0] = 48 := by
        by_cases c : 1 < l.length ∧ l[0] = 48
        · exact c
        · exfalso
          have := txt_yes h0 (fun h h' e => c ⟨h, e⟩) (fun i hi => (List.all_eq_true.1 ha) _ (List.getElem_mem hi))
          rw [this] at hT
          cases hT
      have e1 : l.isEmpty = false := by cases l with | nil => exact absurd rfl h0 | cons c r => rfl
      have i1 : (1 : Int) < (l.length : Int) := by omega
      have c1 : ∀ h : 0 < (bS l).size, ((((bS l)[0]'h).toNat : Int) == 48) = true := fun h => by rw [bS_get l 0 h hl0, hc.2]; rfl
      have c2 := c1 (by rw [bS_size]; exact hl0)
      clear c1 hc ha hT h0
      go_enter Tryz.func67, Tryz.ntmps67
      go_wp2_with fail
      refine HC.out.mono ?_
      rintro e w' ⟨rfl, rfl⟩
      obtain ⟨⟨zR, fR, yR, -⟩, -⟩ := S.out.facts
      have hF := Lib.hid (S.out.set 0 rfl 0 (.slice none 0 0))
      go_wp2
      refine bodyPost_ret (v := .tuple #[.agg #[.slice none 0 0], .int .i64 2]) (by simp [results, Tryz.results67, go_sem, yR]) rfl ?_
      exact Ret.mk (NRes2.none_ hF.out.bel)
  · have ha' : l.all isDg = false := by simpa using ha
    rw [ha'] at HC
    clear ha ha' hT
    go_enter Tryz.func67, Tryz.ntmps67
    go_wp2_with fail
    refine HC.out.mono ?_
    rintro e w' ⟨rfl, rfl⟩
    obtain ⟨⟨zR, fR, yR, -⟩, -⟩ := S.out.facts
    have hF := Lib.hid (S.out.set 0 rfl 0 (.slice none 0 0))
    go_wp2
    refine bodyPost_ret (v := .tuple #[.agg #[.slice none 0 0], .int .i64 2]) (by simp [results, Tryz.results67, go_sem, yR]) rfl ?_
    exact Ret.mk (NRes2.none_ hF.out.bel)
end Go.Proofs.YtoiokopmpcogbaaGreatDoor
