/-
  CONTRACTS of the drafts' helpers: code (both) and bits.
  Conditions: those that each theorem names.
-/
import Derived.Test.YtickckehhfdoeaaSb9

namespace Go.Proofs.Ytickckehhfdoeaa
open Go.RowKit Go.Sv
theorem code5_any (A : Option Addr) (c : Nat) (l : List Int) (i : Nat) (w : World) (B : Nat) (ha : Arr w B A l.length (u8v l)) (h8 : ∀ k, k < l.length → 0 ≤ gi l k ∧ gi l k < 256) (hl : l.length ≤ 9223372036854775807) (hi : i ≤ 1000000) :
    Calls Try.prog 35 #[.slice A l.length c, .int .i64 (i : Int)] w fun e w' => e = .returned (.int .i64 (dcode l i)) ∧ w = w' := by
  unfold dcode
  by_cases hlt : i < l.length
  · rw [if_pos hlt]
    obtain ⟨b, o, rfl, -, hc⟩ := ha (by omega)
    have x := hc i hlt
    have hv := h8 i hlt
    unfold u8v at x
    obtain ⟨v, hvv⟩ : ∃ v, gi l i = v := ⟨_, rfl⟩
    rw [hvv] at x hv ⊢
    have w1 : IntKind.i64.wrap v = v := by simp [IntKind.wrap, IntKind.bits, IntKind.signed]; omega
    have j1 : (i : Int) < (l.length : Int) := by omega
    clear hc h8 ha hvv
    go_enter Try.func35, Try.ntmps35
    go_wp2
    go_ret
    exact ⟨rfl, rfl⟩
  · rw [if_neg hlt]
    have j1 : ¬ (i : Int) < (l.length : Int) := by omega
    clear h8 ha
    go_enter Try.func35, Try.ntmps35
    go_wp2
    go_ret
    exact ⟨rfl, rfl⟩
theorem code6_any (A : Option Addr) (c : Nat) (l : List Int) (i : Nat) (w : World) (B : Nat) (ha : Arr w B A l.length (u8v l)) (h8 : ∀ k, k < l.length → 0 ≤ gi l k ∧ gi l k < 256) (hl : l.length ≤ 9223372036854775807) (hi : i ≤ 1000000) :
    Calls Try.prog 29 #[.slice A l.length c, .int .i64 (i : Int)] w fun e w' => e = .returned (.int .i64 (dcode l i)) ∧ w = w' := by
  unfold dcode
  by_cases hlt : i < l.length
  · rw [if_pos hlt]
    obtain ⟨b, o, rfl, -, hc⟩ := ha (by omega)
    have x := hc i hlt
    have hv := h8 i hlt
    unfold u8v at x
    obtain ⟨v, hvv⟩ : ∃ v, gi l i = v := ⟨_, rfl⟩
    rw [hvv] at x hv ⊢
    have w1 : IntKind.i64.wrap v = v := by simp [IntKind.wrap, IntKind.bits, IntKind.signed]; omega
    have j1 : (i : Int) < (l.length : Int) := by omega
    clear hc h8 ha hvv
    go_enter Try.func29, Try.ntmps29
    go_wp2
    go_ret
    exact ⟨rfl, rfl⟩
  · rw [if_neg hlt]
    have j1 : ¬ (i : Int) < (l.length : Int) := by omega
    clear h8 ha
    go_enter Try.func29, Try.ntmps29
    go_wp2
    go_ret
    exact ⟨rfl, rfl⟩
theorem elB : ElemT Try.prog 48 4 (.bool false) 1 1 := ⟨Try.underlying48, by kernel_rfl, rfl, by decide⟩
theorem elR : ElemT Try.prog 45 48 (.slice none 0 0) 1 24 := ⟨Try.underlying45, by kernel_rfl, rfl, by decide⟩
/-- an entry of the matrix of bits -/
def bitE (bad : Int) (diag : Bool) (i k : Nat) : Bool := (diag && decide (i = k)) || decide (bad / 2 ^ (3 * i + k) % 2 = 0)
/-- a matrix whose rows are the call's own -/
def OwnMt (W : World) (B : Nat) (m : List (List Bool)) (v : Value) : Prop :=
  ∃ r : Nat → Option Addr × Nat, W.ownsRow B 48 1 v m.length (rowM m.length fun k => .slice (r k).1 (mlen m k) (r k).2) ∧
    ∀ k, k < m.length → W.ownsRow B 4 1 (.slice (r k).1 (mlen m k) (r k).2) (mlen m k) (rowM (mlen m k) fun j => .bool (mat m k j))
theorem OwnMt.to {W W' : World} {B : Nat} {m : List (List Bool)} {v : Value} (h : OwnMt W B m v) (hb : Below W.heap.size W W') : OwnMt W' B m v := by
  obtain ⟨r, h1, h2⟩ := h
  exact ⟨r, own_to h1 hb, fun k hk => own_to (h2 k hk) hb⟩
theorem OwnMt.base {W : World} {B B' : Nat} {m : List (List Bool)} {v : Value} (h : OwnMt W B m v) (hb : B' ≤ B) : OwnMt W B' m v := by
  obtain ⟨r, h1, h2⟩ := h
  exact ⟨r, own_base h1 hb, fun k hk => own_base (h2 k hk) hb⟩
theorem OwnMt.mat {W : World} {B c : Nat} {A : Option Addr} {m : List (List Bool)} (h : OwnMt W B m (.slice A m.length c)) : RMat W W.heap.size A m := by
  obtain ⟨r, h1, h2⟩ := h
  obtain ⟨A1, c1, hv, -, -, h3⟩ := own_arr h1 (fun k hk => rowM_get hk)
  injection hv with h4
  rw [h4]
  refine ⟨r, h3, fun k hk => ?_⟩
  obtain ⟨A2, c2, hv2, -, -, h5⟩ := own_arr (h2 k hk) (fun j hj => rowM_get hj)
  injection hv2 with h6
  rw [h6]
  exact h5
theorem rowM_congr {n : Nat} {f g : Nat → Value} (h : ∀ k, k < n → f k = g k) : rowM n f = rowM n g := by
  unfold rowM
  apply List.map_congr_left
  intro k hk
  exact h k (List.mem_range.1 hk)
/-- a matrix of the call's own -/
def OwnMat (w : World) (m : List (List Bool)) (v : Value) (w' : World) : Prop := Below w.heap.size w w' ∧ ∃ A c, v = .slice A m.length c ∧ OwnMt w' w.heap.size m v
set_option maxHeartbeats 2000000 in
set_option maxRecDepth 100000 in
theorem bits_any (n m : Nat) (bad : Int) (diag : Bool) (w : World) (hn : n ≤ 3) (hm : m ≤ 3) (b0 : 0 ≤ bad) (_b1 : bad < 65536) :
    Calls Try.prog 36 #[.int .i64 (n : Int), .int .i64 (m : Int), .int .u16 bad, .bool diag] w (Ret (OwnMat w (bitsM n m bad diag))) := by
  go_enter Try.func36, Try.ntmps36
  go_wp2
  go_loopw [9, 10, 11, 12] (fun v9 s10 _ _ wr => ∃ (i : Nat) (r : Nat → Option Addr × Nat), s10 = .int .i64 i ∧ i ≤ n ∧ wr.ownsRow w.heap.size 48 1 v9 i (rowM i (fun k => .slice (r k).1 m (r k).2)) ∧ (∀ k, k < i → wr.ownsRow w.heap.size 4 1 (.slice (r k).1 m (r k).2) m (rowM m (fun j => .bool (bitE bad diag k j)))) ∧ Below w.heap.size w wr) (fun _ s10 _ _ _ => n - (intOf s10).toNat)
  case atStart => exact ⟨0, fun _ => (none, 0), rfl, Nat.zero_le _, World.ownsRow_nil _ _ _ _, fun k hk => by omega, Below.refl _ _⟩
  case round =>
    obtain ⟨i, r, rfl, hi, hO, hR, hbel⟩ := hrel
    by_cases hlt : i < n
    · have ji : (i : Int) < (n : Int) := by omega
      replace hO := Lib.hid hO
      replace hR := Lib.hid hR
      replace hbel := Lib.hid hbel
      go_wp2
      rename World => wo
      go_loopw [11, 12] (fun v11 s12 wr => ∃ k : Nat, s12 = .int .i64 k ∧ k ≤ m ∧ wr.ownsRow wo.heap.size 4 1 v11 k (rowM k (fun j => .bool (bitE bad diag i j))) ∧ Below wo.heap.size wo wr) (fun _ s12 _ => m - (intOf s12).toNat)
      case atStart => exact ⟨0, rfl, Nat.zero_le _, World.ownsRow_nil _ _ _ _, Below.refl _ _⟩
      case round =>
        obtain ⟨k, rfl, hk, hI, hb2⟩ := hrel
        by_cases hlk : k < m
        · have jk : (k : Int) < (m : Int) := by omega
          replace hI := Lib.hid hI
          have hs := hb2.size
          replace hb2 := Lib.hid hb2
          have m1 : IntKind.i64.wrap (3 * (i : Int)) = 3 * (i : Int) := by simp [IntKind.wrap, IntKind.bits, IntKind.signed]; omega
          have m2 : IntKind.i64.wrap (3 * (i : Int) + (k : Int)) = 3 * (i : Int) + (k : Int) := by simp [IntKind.wrap, IntKind.bits, IntKind.signed]; omega
          have hE : Hid (bitE bad diag i k = ((diag && decide (i = k)) || ((bad / 2 ^ (3 * i + k)).tmod 2 == 0))) := Lib.hid (by
            unfold bitE
            have hp : (0 : Int) < 2 ^ (3 * i + k) := Int.pow_pos (by decide)
            rw [Int.tmod_eq_emod_of_nonneg (Int.ediv_nonneg b0 (Int.le_of_lt hp))]
            congr 1)
          cases diag with
          | true =>
            cases hq : ((i : Int) == (k : Int)) with
            | true =>
              have hT : Hid (bitE bad true i k = true) := Lib.hid (by unfold bitE; rw [decide_eq_true (show i = k by have := beq_iff_eq.1 hq; omega)]; rfl)
              clear hE
              go_wp2_with (at_builtin; refine push_own elB rfl _ _ rfl wo.heap.size _ k _ hI.out rfl [.bool true] rfl rfl rfl (by omega) (by omega) hs ?_)
              intro v' w3 hown3 hgr hb3 hs3 _
              have hI3 : Hid (w3.ownsRow wo.heap.size 4 1 v' (k + 1) (rowM (k + 1) (fun j => .bool (bitE bad true i j)))) := Lib.hid (by rw [rowM_snoc, hT.out]; exact hown3)
              have hb4 := Lib.hid (hb2.out.trans hb3)
              clear hown3 hgr hb3 hs3
              go_wp2
              go_roundw
              case rel => exact ⟨k + 1, by go_num, by omega, hI3.out, hb4.out⟩
              case measure => simp [intOf]; omega
            | false =>
              have hg : Hid (decide (i = k) = false) := Lib.hid (decide_eq_false fun h => by rw [h] at hq; simp at hq)
              cases hz : ((bad / 2 ^ (3 * i + k)).tmod 2 == 0) with
              | true =>
                have hT : Hid (bitE bad true i k = true) := Lib.hid (by rw [hE.out, hz]; simp)
                clear hE hg
                go_wp2_with (at_builtin; refine push_own elB rfl _ _ rfl wo.heap.size _ k _ hI.out rfl [.bool true] rfl rfl rfl (by omega) (by omega) hs ?_)
                intro v' w3 hown3 hgr hb3 hs3 _
                have hI3 : Hid (w3.ownsRow wo.heap.size 4 1 v' (k + 1) (rowM (k + 1) (fun j => .bool (bitE bad true i j)))) := Lib.hid (by rw [rowM_snoc, hT.out]; exact hown3)
                have hb4 := Lib.hid (hb2.out.trans hb3)
                clear hown3 hgr hb3 hs3
                go_wp2
                go_roundw
                case rel => exact ⟨k + 1, by go_num, by omega, hI3.out, hb4.out⟩
                case measure => simp [intOf]; omega
              | false =>
                have hT : Hid (bitE bad true i k = false) := Lib.hid (by rw [hE.out, hz]; first | rfl | (rw [hg.out]; rfl))
                clear hE hg
                go_wp2_with (at_builtin; refine push_own elB rfl _ _ rfl wo.heap.size _ k _ hI.out rfl [.bool false] rfl rfl rfl (by omega) (by omega) hs ?_)
                intro v' w3 hown3 hgr hb3 hs3 _
                have hI3 : Hid (w3.ownsRow wo.heap.size 4 1 v' (k + 1) (rowM (k + 1) (fun j => .bool (bitE bad true i j)))) := Lib.hid (by rw [rowM_snoc, hT.out]; exact hown3)
                have hb4 := Lib.hid (hb2.out.trans hb3)
                clear hown3 hgr hb3 hs3
                go_wp2
                go_roundw
                case rel => exact ⟨k + 1, by go_num, by omega, hI3.out, hb4.out⟩
                case measure => simp [intOf]; omega
          | false =>
            have hg : True := trivial
            cases hz : ((bad / 2 ^ (3 * i + k)).tmod 2 == 0) with
            | true =>
              have hT : Hid (bitE bad false i k = true) := Lib.hid (by rw [hE.out, hz]; simp)
              clear hE hg
              go_wp2_with (at_builtin; refine push_own elB rfl _ _ rfl wo.heap.size _ k _ hI.out rfl [.bool true] rfl rfl rfl (by omega) (by omega) hs ?_)
              intro v' w3 hown3 hgr hb3 hs3 _
              have hI3 : Hid (w3.ownsRow wo.heap.size 4 1 v' (k + 1) (rowM (k + 1) (fun j => .bool (bitE bad false i j)))) := Lib.hid (by rw [rowM_snoc, hT.out]; exact hown3)
              have hb4 := Lib.hid (hb2.out.trans hb3)
              clear hown3 hgr hb3 hs3
              go_wp2
              go_roundw
              case rel => exact ⟨k + 1, by go_num, by omega, hI3.out, hb4.out⟩
              case measure => simp [intOf]; omega
            | false =>
              have hT : Hid (bitE bad false i k = false) := Lib.hid (by rw [hE.out, hz]; first | rfl | (rw [hg.out]; rfl))
              clear hE hg
              go_wp2_with (at_builtin; refine push_own elB rfl _ _ rfl wo.heap.size _ k _ hI.out rfl [.bool false] rfl rfl rfl (by omega) (by omega) hs ?_)
              intro v' w3 hown3 hgr hb3 hs3 _
              have hI3 : Hid (w3.ownsRow wo.heap.size 4 1 v' (k + 1) (rowM (k + 1) (fun j => .bool (bitE bad false i j)))) := Lib.hid (by rw [rowM_snoc, hT.out]; exact hown3)
              have hb4 := Lib.hid (hb2.out.trans hb3)
              clear hown3 hgr hb3 hs3
              go_wp2
              go_roundw
              case rel => exact ⟨k + 1, by go_num, by omega, hI3.out, hb4.out⟩
              case measure => simp [intOf]; omega
        · obtain rfl : k = m := by omega
          obtain ⟨A1, c1, rfl, -, -, -⟩ := own_form hI
          have hs := hb2.size
          have hwo := hbel.out.size
          have hO2 := Lib.hid (own_to hO.out hb2)
          have hR2 : Hid (∀ j, j < i → wr.ownsRow w.heap.size 4 1 (.slice (r j).1 k (r j).2) k (rowM k (fun x => .bool (bitE bad diag j x)))) := Lib.hid fun j hj => own_to (hR.out j hj) hb2
          have hI2 := Lib.hid (own_base hI hwo)
          have hb3 := Lib.hid (hbel.out.trans (hb2.mono hwo))
          have hsw : w.heap.size ≤ wr.heap.size := Nat.le_trans hwo hs
          clear hI hb2 hlk
          go_wp2_with (at_builtin; refine push_own elR rfl _ _ rfl w.heap.size _ i _ hO2.out rfl [.slice A1 k c1] rfl rfl rfl (by omega) (by omega) hsw ?_)
          intro v' w5 hown5 hg5 hb5 hs5 _
          have ha : Below wr.heap.size wr (wr.alloc (.cells [Value.slice A1 k c1].toArray 48)) := (Below.refl _ _).alloc (Nat.le_refl _) _
          have hO5 : Hid (w5.ownsRow w.heap.size 48 1 v' (i + 1) (rowM (i + 1) (fun j => .slice ((fun j => if j = i then (A1, c1) else r j) j).1 k ((fun j => if j = i then (A1, c1) else r j) j).2))) := Lib.hid (by
            rw [rowM_app i (fun j => .slice (r j).1 k (r j).2) _ (fun j hj => by dsimp only; rw [if_neg (by omega)])]
            dsimp only
            rw [if_pos rfl]
            exact hown5)
          have hR5 : Hid (∀ j, j < i + 1 → w5.ownsRow w.heap.size 4 1 (.slice ((fun j => if j = i then (A1, c1) else r j) j).1 k ((fun j => if j = i then (A1, c1) else r j) j).2) k (rowM k (fun x => .bool (bitE bad diag j x)))) := Lib.hid fun j hj => by
            dsimp only
            by_cases e : j = i
            · subst e
              rw [if_pos rfl]
              exact ownO_other (own_to hI2.out ha) (own_to hO2.out ha) (by decide) hg5
            · rw [if_neg e]
              exact ownO_other (own_to (hR2.out j (by omega)) ha) (own_to hO2.out ha) (by decide) hg5
          have hb6 := Lib.hid (hb3.out.trans hb5)
          clear hown5 hg5 hb5 hs5 ha
          go_wp2
          go_roundw
          case rel => exact ⟨i + 1, _, by go_num, by omega, hO5.out, hR5.out, hb6.out⟩
          case measure => simp [intOf]; omega
    · obtain rfl : i = n := by omega
      have hlen := bitsM_len i m bad diag
      obtain ⟨A1, c1, hv, -, -, -⟩ := own_form hO
      subst hv
      have hR' := Lib.hid (show OwnMat w (bitsM i m bad diag) (.slice A1 i c1) wr from ⟨hbel, A1, c1, by rw [hlen], r, by
        rw [hlen, rowM_congr (g := fun k => .slice (r k).1 m (r k).2) (fun k hk => by rw [bitsM_mlen hk])]
        exact hO, fun k hk => by
        rw [hlen] at hk
        rw [bitsM_mlen hk, rowM_congr (g := fun j => .bool (bitE bad diag k j)) (fun j hj => by
          unfold mat
          rw [bitsM_row hk]
          unfold bitE
          simp [hj])]
        exact hR k hk⟩)
      clear hlt hO hR hbel hlen
      go_wp2
      go_ret
      exact Ret.mk hR'.out
end Go.Proofs.Ytickckehhfdoeaa

namespace Go.Proofs.Ytickckehhfdoeaa
open Go.RowKit Go.Sv
theorem OwnMt.other {W W' : World} {B B' s n : Nat} {e : TypeId} {m : List (List Bool)} {v u : Value} {ys : List Value} (h : OwnMt W B m v) (hu : W.ownsRow B' e s u n ys) (h1 : 48 ≠ e) (h2 : 4 ≠ e) (hg : W.grownBy W' u.ownBlock) : OwnMt W' B m v := by
  obtain ⟨r, h3, h4⟩ := h
  exact ⟨r, ownO_other h3 hu h1 hg, fun k hk => ownO_other (h4 k hk) hu h2 hg⟩
theorem kept_setN {W : World} {b s : Nat} {e : TypeId} {v : Value} {n : Nat} {xs : List Value} (h : W.ownsRow (b + 1) e s v n xs) (i : Nat) (u : Value) : (W.setCell ⟨b, i, none⟩ u).ownsRow (b + 1) e s v n xs :=
  h.kept (grownBy_set W b i u) (by
    cases hx : v.ownBlock with
    | none => exact Or.inl rfl
    | some g =>
      refine Or.inr fun e => ?_
      injection e with e
      rcases h.2 with ⟨rfl, _⟩ | ⟨g', cap, cur, rfl, hb, _⟩
      · cases hx
      · have hx : some g' = some g := hx
        injection hx with hx
        omega)
theorem OwnMt.set {W : World} {b : Nat} {m : List (List Bool)} {v : Value} (h : OwnMt W (b + 1) m v) (i : Nat) (u : Value) : OwnMt (W.setCell ⟨b, i, none⟩ u) (b + 1) m v := by
  obtain ⟨r, h3, h4⟩ := h
  exact ⟨r, kept_set h3 _ _, fun k hk => kept_set (h4 k hk) _ _⟩
def tbRow (ts : List Tab) (F : Nat → TabP) : List Value := rowN 6 ts.length fun k i => tabCells (tab ts k) (F k) i
def Fs (n : Nat) (F : Nat → TabP) (q : TabP) (k : Nat) : TabP := if k = n then q else F k
theorem Fs_lt {n k : Nat} {F : Nat → TabP} {q : TabP} (h : k < n) : Fs n F q k = F k := if_neg (by omega)
theorem Fs_at {n : Nat} {F : Nat → TabP} {q : TabP} : Fs n F q n = q := if_pos rfl
theorem tab_snoc_lt {l : List Tab} {x : Tab} {k : Nat} (h : k < l.length) : tab (l ++ [x]) k = tab l k := by simp [tab, List.getElem?_append_left h]
theorem tab_snoc_last {l : List Tab} {x : Tab} : tab (l ++ [x]) l.length = x := by simp [tab]
theorem tbRow_snoc (ts : List Tab) (F : Nat → TabP) (t : Tab) (q : TabP) : tbRow (ts ++ [t]) (Fs ts.length F q) = tbRow ts F ++ [.int .i64 t.kind, .int .i64 t.src, .int .i64 t.dst, .bool t.aware, .slice q.okA t.ok.length q.okC, .slice q.rwA t.rw.length q.rwC] := by
  unfold tbRow
  rw [List.length_append, List.length_singleton, rowN_snoc (f := fun k i => tabCells (tab ts k) (F k) i) (by decide) (fun k hk i _ => by rw [tab_snoc_lt hk, Fs_lt hk])]
  rw [tab_snoc_last, Fs_at]
  rfl
theorem elTab : ElemT Try.prog 37 47 (.agg #[.int .i64 0, .int .i64 0, .int .i64 0, .bool false, .slice none 0 0, .slice none 0 0]) 6 80 := ⟨Try.underlying37, by kernel_rfl, by kernel_rfl, by omega⟩
/-- the variable b of a problem whose rows lie behind it -/
structure PB (w0 : World) (b : Nat) (p : Prob) (q : ProbP) (F : Nat → TabP) (W : World) : Prop where
  bel : Below b w0 W
  hb : b ≤ w0.heap.size
  pb : Whole W b 39 #[.slice q.a0 p.vs.length q.c0, .slice q.a1 p.now.length q.c1, .slice q.a2 p.tgt.length q.c2, .slice q.a3 p.tabs.length q.c3]
  o0 : W.ownsRow (b + 1) 3 1 (.slice q.a0 p.vs.length q.c0) p.vs.length (rowM p.vs.length (iv p.vs))
  o1 : W.ownsRow (b + 1) 3 1 (.slice q.a1 p.now.length q.c1) p.now.length (rowM p.now.length (iv p.now))
  o2 : W.ownsRow (b + 1) 3 1 (.slice q.a2 p.tgt.length q.c2) p.tgt.length (rowM p.tgt.length (iv p.tgt))
  o3 : W.ownsRow (b + 1) 47 6 (.slice q.a3 p.tabs.length q.c3) p.tabs.length (tbRow p.tabs F)
  d01 : ∀ g, (Value.slice q.a0 p.vs.length q.c0).ownBlock = some g → (Value.slice q.a1 p.now.length q.c1).ownBlock ≠ some g
  d02 : ∀ g, (Value.slice q.a0 p.vs.length q.c0).ownBlock = some g → (Value.slice q.a2 p.tgt.length q.c2).ownBlock ≠ some g
  d12 : ∀ g, (Value.slice q.a1 p.now.length q.c1).ownBlock = some g → (Value.slice q.a2 p.tgt.length q.c2).ownBlock ≠ some g
  m3 : ∀ k, k < p.tabs.length → OwnMt W (b + 1) (tab p.tabs k).ok (.slice (F k).okA (tab p.tabs k).ok.length (F k).okC) ∧ OwnMt W (b + 1) (tab p.tabs k).rw (.slice (F k).rwA (tab p.tabs k).rw.length (F k).rwC)
theorem PB.new (w : World) (F : Nat → TabP) : PB w w.heap.size ⟨[], [], [], []⟩ ⟨none, 0, none, 0, none, 0, none, 0⟩ F (w.alloc (.cells #[.slice none 0 0, .slice none 0 0, .slice none 0 0, .slice none 0 0] 39)) :=
  ⟨(Below.refl _ _).alloc (Nat.le_refl _) _, Nat.le_refl _, Whole.new .., World.ownsRow_nil _ _ _ _, World.ownsRow_nil _ _ _ _, World.ownsRow_nil _ _ _ _, World.ownsRow_nil _ _ _ _, (fun g h => by cases h), (fun g h => by cases h), (fun g h => by cases h), (fun k h => by cases h)⟩
section
variable {w0 W W' : World} {b : Nat} {p : Prob} {q : ProbP} {F : Nat → TabP}
theorem PB.size (h : PB w0 b p q F W) : b + 1 ≤ W.heap.size := h.pb.lt
theorem PB.to (h : PB w0 b p q F W) (hb : Below W.heap.size W W') : PB w0 b p q F W' :=
  ⟨h.bel.trans (hb.mono (by have := h.size; omega)), h.hb, h.pb.below hb h.pb.lt, own_to h.o0 hb, own_to h.o1 hb, own_to h.o2 hb, own_to h.o3 hb, h.d01, h.d02, h.d12, fun k hk => ⟨(h.m3 k hk).1.to hb, (h.m3 k hk).2.to hb⟩⟩
theorem PB.facts (h : PB w0 b p q F W) : b < W.heap.size ∧ (∀ o, W.frozen? ⟨b, o, none⟩ = false) ∧ W.cell? ⟨b, 0, none⟩ = some (.slice q.a0 p.vs.length q.c0) ∧ W.cell? ⟨b, 1, none⟩ = some (.slice q.a1 p.now.length q.c1) ∧ W.cell? ⟨b, 2, none⟩ = some (.slice q.a2 p.tgt.length q.c2) ∧ W.cell? ⟨b, 3, none⟩ = some (.slice q.a3 p.tabs.length q.c3) :=
  ⟨h.pb.lt, fun o => h.pb.frozen o, h.pb.cell 0, h.pb.cell 1, h.pb.cell 2, h.pb.cell 3⟩
theorem PB.prob (h : PB w0 b p q F W) : RProb W W.heap.size p q := by
  refine ⟨?_, ?_, ?_, F, ?_, fun k hk => ⟨(h.m3 k hk).1.mat, (h.m3 k hk).2.mat⟩⟩
  · obtain ⟨A, c, hv, _, _, ha⟩ := own_arr h.o0 (fun k hk => rowM_get hk)
    injection hv with h1; rw [h1]; exact ha
  · obtain ⟨A, c, hv, _, _, ha⟩ := own_arr h.o1 (fun k hk => rowM_get hk)
    injection hv with h1; rw [h1]; exact ha
  · obtain ⟨A, c, hv, _, _, ha⟩ := own_arr h.o2 (fun k hk => rowM_get hk)
    injection hv with h1; rw [h1]; exact ha
  · obtain ⟨A, c, hv, _, _, ha⟩ := own_arrN (f := fun k i => tabCells (tab p.tabs k) (F k) i) h.o3 (fun k hk i hi => rowN_get hk hi)
    injection hv with h1; rw [h1]; exact ha
/-- vs grows by one -/
theorem PB.push0 (h : PB w0 b p q F W) {x : Int} {v' : Value} (ho : W'.ownsRow (b + 1) 3 1 v' (p.vs.length + 1) (rowM p.vs.length (iv p.vs) ++ [.int .i64 x])) (hg : W.grownBy W' (Value.slice q.a0 p.vs.length q.c0).ownBlock)
    (hor : v'.ownBlock = (Value.slice q.a0 p.vs.length q.c0).ownBlock ∨ v'.ownBlock = some W.heap.size) :
    ∃ A c, v' = .slice A (p.vs.length + 1) c ∧ PB w0 b { p with vs := p.vs ++ [x] } { q with a0 := A, c0 := c } F (W'.setCell ⟨b, 0, none⟩ (.slice A (p.vs.length + 1) c)) := by
  obtain ⟨A, c, rfl, _⟩ := own_form ho
  have hbW : Below (b + 1) W W' := own_below h.o0 hg h.size
  have hm : Whole W' b 39 _ := h.pb.below hbW (Nat.lt_succ_self _)
  have k1 := h.o1.kept hg (by
    cases hx : (Value.slice q.a1 p.now.length q.c1).ownBlock with
    | none => exact Or.inl rfl
    | some g => exact Or.inr fun e => h.d01 g e.symm hx)
  have k2 := h.o2.kept hg (by
    cases hx : (Value.slice q.a2 p.tgt.length q.c2).ownBlock with
    | none => exact Or.inl rfl
    | some g => exact Or.inr fun e => h.d02 g e.symm hx)
  have k3 := ownO_other h.o3 h.o0 (by decide) hg
  have hl : (p.vs ++ [x]).length = p.vs.length + 1 := by simp
  refine ⟨A, c, rfl, ⟨(h.bel.trans (hbW.mono (Nat.le_succ _))).setCell (Nat.le_refl _) _, h.hb, ?_, ?_, ?_, ?_, kept_setN k3 _ _, ?_, ?_, ?_, fun k hk => ?_⟩⟩
  · have := hm.set 0 (.slice A (p.vs.length + 1) c)
    show Whole _ _ _ #[.slice A (p.vs ++ [x]).length c, _, _, _]
    rw [hl]
    exact this
  · have := kept_set ho 0 (.slice A (p.vs.length + 1) c)
    show World.ownsRow _ _ _ _ (.slice A (p.vs ++ [x]).length c) (p.vs ++ [x]).length _
    rw [hl, rowM_app _ (iv p.vs) _ (fun k hk => by unfold iv; rw [gi_snoc_lt hk])]
    unfold iv at this ⊢
    rw [gi_snoc_last]
    exact this
  · exact kept_set k1 _ _
  · exact kept_set k2 _ _
  · intro g h1 h2
    have e1 : (Value.slice A (p.vs ++ [x]).length c).ownBlock = some g := h1
    rw [hl] at e1
    rcases hor with e | e
    · rw [e] at e1
      exact h.d01 g e1 h2
    · rw [e] at e1
      injection e1 with e1
      have := (own_at h.o1 h2).2.1
      omega
  · intro g h1 h2
    have e1 : (Value.slice A (p.vs ++ [x]).length c).ownBlock = some g := h1
    rw [hl] at e1
    rcases hor with e | e
    · rw [e] at e1
      exact h.d02 g e1 h2
    · rw [e] at e1
      injection e1 with e1
      have := (own_at h.o2 h2).2.1
      omega
  · exact h.d12
  · obtain ⟨m1, m2⟩ := h.m3 k hk
    exact ⟨(m1.other h.o0 (by decide) (by decide) hg).set _ _, (m2.other h.o0 (by decide) (by decide) hg).set _ _⟩
/-- now grows by one -/
theorem PB.push1 (h : PB w0 b p q F W) {x : Int} {v' : Value} (ho : W'.ownsRow (b + 1) 3 1 v' (p.now.length + 1) (rowM p.now.length (iv p.now) ++ [.int .i64 x])) (hg : W.grownBy W' (Value.slice q.a1 p.now.length q.c1).ownBlock)
    (hor : v'.ownBlock = (Value.slice q.a1 p.now.length q.c1).ownBlock ∨ v'.ownBlock = some W.heap.size) :
    ∃ A c, v' = .slice A (p.now.length + 1) c ∧ PB w0 b { p with now := p.now ++ [x] } { q with a1 := A, c1 := c } F (W'.setCell ⟨b, 1, none⟩ (.slice A (p.now.length + 1) c)) := by
  obtain ⟨A, c, rfl, _⟩ := own_form ho
  have hbW : Below (b + 1) W W' := own_below h.o1 hg h.size
  have hm : Whole W' b 39 _ := h.pb.below hbW (Nat.lt_succ_self _)
  have k0 := h.o0.kept hg (by
    cases hx : (Value.slice q.a0 p.vs.length q.c0).ownBlock with
    | none => exact Or.inl rfl
    | some g => exact Or.inr fun e => h.d01 g hx e.symm)
  have k2 := h.o2.kept hg (by
    cases hx : (Value.slice q.a2 p.tgt.length q.c2).ownBlock with
    | none => exact Or.inl rfl
    | some g => exact Or.inr fun e => h.d12 g e.symm hx)
  have k3 := ownO_other h.o3 h.o1 (by decide) hg
  have hl : (p.now ++ [x]).length = p.now.length + 1 := by simp
  refine ⟨A, c, rfl, ⟨(h.bel.trans (hbW.mono (Nat.le_succ _))).setCell (Nat.le_refl _) _, h.hb, ?_, ?_, ?_, ?_, kept_setN k3 _ _, ?_, ?_, ?_, fun k hk => ?_⟩⟩
  · have := hm.set 1 (.slice A (p.now.length + 1) c)
    show Whole _ _ _ #[_, .slice A (p.now ++ [x]).length c, _, _]
    rw [hl]
    exact this
  · exact kept_set k0 _ _
  · have := kept_set ho 1 (.slice A (p.now.length + 1) c)
    show World.ownsRow _ _ _ _ (.slice A (p.now ++ [x]).length c) (p.now ++ [x]).length _
    rw [hl, rowM_app _ (iv p.now) _ (fun k hk => by unfold iv; rw [gi_snoc_lt hk])]
    unfold iv at this ⊢
    rw [gi_snoc_last]
    exact this
  · exact kept_set k2 _ _
  · intro g h1 h2
    have e1 : (Value.slice A (p.now ++ [x]).length c).ownBlock = some g := h2
    rw [hl] at e1
    rcases hor with e | e
    · rw [e] at e1
      exact h.d01 g h1 e1
    · rw [e] at e1
      injection e1 with e1
      have := (own_at h.o0 h1).2.1
      omega
  · exact h.d02
  · intro g h1 h2
    have e1 : (Value.slice A (p.now ++ [x]).length c).ownBlock = some g := h1
    rw [hl] at e1
    rcases hor with e | e
    · rw [e] at e1
      exact h.d12 g e1 h2
    · rw [e] at e1
      injection e1 with e1
      have := (own_at h.o2 h2).2.1
      omega
  · obtain ⟨m1, m2⟩ := h.m3 k hk
    exact ⟨(m1.other h.o1 (by decide) (by decide) hg).set _ _, (m2.other h.o1 (by decide) (by decide) hg).set _ _⟩
/-- tgt grows by one -/
theorem PB.push2 (h : PB w0 b p q F W) {x : Int} {v' : Value} (ho : W'.ownsRow (b + 1) 3 1 v' (p.tgt.length + 1) (rowM p.tgt.length (iv p.tgt) ++ [.int .i64 x])) (hg : W.grownBy W' (Value.slice q.a2 p.tgt.length q.c2).ownBlock)
    (hor : v'.ownBlock = (Value.slice q.a2 p.tgt.length q.c2).ownBlock ∨ v'.ownBlock = some W.heap.size) :
    ∃ A c, v' = .slice A (p.tgt.length + 1) c ∧ PB w0 b { p with tgt := p.tgt ++ [x] } { q with a2 := A, c2 := c } F (W'.setCell ⟨b, 2, none⟩ (.slice A (p.tgt.length + 1) c)) := by
  obtain ⟨A, c, rfl, _⟩ := own_form ho
  have hbW : Below (b + 1) W W' := own_below h.o2 hg h.size
  have hm : Whole W' b 39 _ := h.pb.below hbW (Nat.lt_succ_self _)
  have k0 := h.o0.kept hg (by
    cases hx : (Value.slice q.a0 p.vs.length q.c0).ownBlock with
    | none => exact Or.inl rfl
    | some g => exact Or.inr fun e => h.d02 g hx e.symm)
  have k1 := h.o1.kept hg (by
    cases hx : (Value.slice q.a1 p.now.length q.c1).ownBlock with
    | none => exact Or.inl rfl
    | some g => exact Or.inr fun e => h.d12 g hx e.symm)
  have k3 := ownO_other h.o3 h.o2 (by decide) hg
  have hl : (p.tgt ++ [x]).length = p.tgt.length + 1 := by simp
  refine ⟨A, c, rfl, ⟨(h.bel.trans (hbW.mono (Nat.le_succ _))).setCell (Nat.le_refl _) _, h.hb, ?_, ?_, ?_, ?_, kept_setN k3 _ _, ?_, ?_, ?_, fun k hk => ?_⟩⟩
  · have := hm.set 2 (.slice A (p.tgt.length + 1) c)
    show Whole _ _ _ #[_, _, .slice A (p.tgt ++ [x]).length c, _]
    rw [hl]
    exact this
  · exact kept_set k0 _ _
  · exact kept_set k1 _ _
  · have := kept_set ho 2 (.slice A (p.tgt.length + 1) c)
    show World.ownsRow _ _ _ _ (.slice A (p.tgt ++ [x]).length c) (p.tgt ++ [x]).length _
    rw [hl, rowM_app _ (iv p.tgt) _ (fun k hk => by unfold iv; rw [gi_snoc_lt hk])]
    unfold iv at this ⊢
    rw [gi_snoc_last]
    exact this
  · exact h.d01
  · intro g h1 h2
    have e1 : (Value.slice A (p.tgt ++ [x]).length c).ownBlock = some g := h2
    rw [hl] at e1
    rcases hor with e | e
    · rw [e] at e1
      exact h.d02 g h1 e1
    · rw [e] at e1
      injection e1 with e1
      have := (own_at h.o0 h1).2.1
      omega
  · intro g h1 h2
    have e1 : (Value.slice A (p.tgt ++ [x]).length c).ownBlock = some g := h2
    rw [hl] at e1
    rcases hor with e | e
    · rw [e] at e1
      exact h.d12 g h1 e1
    · rw [e] at e1
      injection e1 with e1
      have := (own_at h.o1 h1).2.1
      omega
  · obtain ⟨m1, m2⟩ := h.m3 k hk
    exact ⟨(m1.other h.o2 (by decide) (by decide) hg).set _ _, (m2.other h.o2 (by decide) (by decide) hg).set _ _⟩
/-- the tables grow by one -/
theorem PB.push3 (h : PB w0 b p q F W) {t : Tab} {y : TabP} {v' : Value} (ho : W'.ownsRow (b + 1) 47 6 v' (p.tabs.length + 1) (tbRow p.tabs F ++ [.int .i64 t.kind, .int .i64 t.src, .int .i64 t.dst, .bool t.aware, .slice y.okA t.ok.length y.okC, .slice y.rwA t.rw.length y.rwC])) (hg : W.grownBy W' (Value.slice q.a3 p.tabs.length q.c3).ownBlock)
    (hm : OwnMt W (b + 1) t.ok (.slice y.okA t.ok.length y.okC)) (hm' : OwnMt W (b + 1) t.rw (.slice y.rwA t.rw.length y.rwC)) :
    ∃ A c, v' = .slice A (p.tabs.length + 1) c ∧ PB w0 b { p with tabs := p.tabs ++ [t] } { q with a3 := A, c3 := c } (Fs p.tabs.length F y) (W'.setCell ⟨b, 3, none⟩ (.slice A (p.tabs.length + 1) c)) := by
  obtain ⟨A, c, rfl, _⟩ := own_form ho
  have hbW : Below (b + 1) W W' := own_below h.o3 hg h.size
  have hw : Whole W' b 39 _ := h.pb.below hbW (Nat.lt_succ_self _)
  have hl : (p.tabs ++ [t]).length = p.tabs.length + 1 := by simp
  have kept : ∀ {m v}, OwnMt W (b + 1) m v → OwnMt (W'.setCell ⟨b, 3, none⟩ (.slice A (p.tabs.length + 1) c)) (b + 1) m v := fun hm => (hm.other h.o3 (by decide) (by decide) hg).set _ _
  refine ⟨A, c, rfl, ⟨(h.bel.trans (hbW.mono (Nat.le_succ _))).setCell (Nat.le_refl _) _, h.hb, ?_, kept_set (ownO_other h.o0 h.o3 (by decide) hg) _ _, kept_set (ownO_other h.o1 h.o3 (by decide) hg) _ _, kept_set (ownO_other h.o2 h.o3 (by decide) hg) _ _, ?_, h.d01, h.d02, h.d12, fun k hk => ?_⟩⟩
  · have := hw.set 3 (.slice A (p.tabs.length + 1) c)
    show Whole _ _ _ #[_, _, _, .slice A (p.tabs ++ [t]).length c]
    rw [hl]
    exact this
  · have := kept_setN ho 3 (.slice A (p.tabs.length + 1) c)
    show World.ownsRow _ _ _ _ (.slice A (p.tabs ++ [t]).length c) (p.tabs ++ [t]).length _
    rw [tbRow_snoc, hl]
    exact this
  · have hk : k < (p.tabs ++ [t]).length := hk
    show OwnMt _ _ (tab (p.tabs ++ [t]) k).ok (.slice (Fs p.tabs.length F y k).okA (tab (p.tabs ++ [t]) k).ok.length _) ∧ OwnMt _ _ (tab (p.tabs ++ [t]) k).rw (.slice _ (tab (p.tabs ++ [t]) k).rw.length _)
    by_cases e : k = p.tabs.length
    · subst e
      rw [tab_snoc_last, Fs_at]
      exact ⟨kept hm, kept hm'⟩
    · have hk' : k < p.tabs.length := by omega
      rw [tab_snoc_lt hk', Fs_lt hk']
      exact ⟨kept (h.m3 k hk').1, kept (h.m3 k hk').2⟩
end
end Go.Proofs.Ytickckehhfdoeaa

namespace Go.Proofs.Ytickckehhfdoeaa
open Go.RowKit Go.Sv
def lkAt (l : List Lnk) (k : Nat) : Lnk := (l[k]?).getD default
def lkC (t : Lnk) : Nat → Value
  | 0 => .int .u8 t.kind
  | 1 => .int .u8 t.src
  | 2 => .int .u8 t.dst
  | 3 => .bool t.aware
  | 4 => .int .u16 t.bad
  | _ => .int .u16 t.lost
abbrev draV (d : Dra) (q : ProbP) : Value := .agg #[.slice q.a0 d.vs.length q.c0, .slice q.a1 d.now.length q.c1, .slice q.a2 d.tgt.length q.c2, .slice q.a3 d.lk.length q.c3]
structure RDra (w : World) (B : Nat) (d : Dra) (q : ProbP) : Prop where
  r0 : Arr w B q.a0 d.vs.length (u8v d.vs)
  r1 : Arr w B q.a1 d.now.length (u8v d.now)
  r2 : Arr w B q.a2 d.tgt.length (u8v d.tgt)
  r3 : ArrN w B 6 q.a3 d.lk.length (fun k i => lkC (lkAt d.lk k) i)
theorem RDra.below {w w' : World} {B : Nat} {d : Dra} {q : ProbP} (h : RDra w B d q) (hb : Below B w w') : RDra w' B d q := ⟨h.r0.below hb, h.r1.below hb, h.r2.below hb, h.r3.below hb⟩
theorem RDra.more {w : World} {B B' : Nat} {d : Dra} {q : ProbP} (h : RDra w B d q) (hb : B ≤ B') : RDra w B' d q := ⟨h.r0.more hb, h.r1.more hb, h.r2.more hb, h.r3.more hb⟩
def Bt8 (l : List Int) : Prop := (∀ k, k < l.length → 0 ≤ gi l k ∧ gi l k < 256) ∧ l.length ≤ 9223372036854775807
structure DBd (d : Dra) : Prop where
  v : Bt8 d.vs
  n : Bt8 d.now
  t : Bt8 d.tgt
  ll : d.lk.length ≤ 9223372036854775807
  l : ∀ k, k < d.lk.length → (0 ≤ (lkAt d.lk k).kind ∧ (lkAt d.lk k).kind < 256) ∧ (0 ≤ (lkAt d.lk k).src ∧ (lkAt d.lk k).src < 256) ∧ (0 ≤ (lkAt d.lk k).dst ∧ (lkAt d.lk k).dst < 256) ∧ (0 ≤ (lkAt d.lk k).bad ∧ (lkAt d.lk k).bad < 65536) ∧ (0 ≤ (lkAt d.lk k).lost ∧ (lkAt d.lk k).lost < 65536)
def dW (d : Dra) (i : Nat) : Int := 1 + gi d.vs i % 3
/-- the problem after k services -/
def dP (d : Dra) (k : Nat) : Prob := ⟨(List.range k).map (dW d), (List.range k).map (fun i => dcode d.now i % dW d i), (List.range k).map (fun i => dcode d.tgt i % dW d i), []⟩
/-- the problem after all services and j tables -/
def dQ (d : Dra) (j : Nat) : Prob := ⟨dVs d, dNow d d.now, dNow d d.tgt, (List.range j).map (fun i => dTab (dVs d) (lkAt d.lk i))⟩
theorem dP_lv (d : Dra) (k : Nat) : (dP d k).vs.length = k := by simp [dP]
theorem dP_ln (d : Dra) (k : Nat) : (dP d k).now.length = k := by simp [dP]
theorem dP_lt (d : Dra) (k : Nat) : (dP d k).tgt.length = k := by simp [dP]
theorem dP_snoc {d : Dra} {k : Nat} : (⟨(dP d k).vs ++ [dW d k], (dP d k).now ++ [dcode d.now k % dW d k], (dP d k).tgt ++ [dcode d.tgt k % dW d k], (dP d k).tabs⟩ : Prob) = dP d (k + 1) := by simp [dP, List.range_succ]
theorem dP_all (d : Dra) : dP d d.vs.length = dQ d 0 := rfl
theorem dQ_snoc {d : Dra} {k : Nat} : (⟨(dQ d k).vs, (dQ d k).now, (dQ d k).tgt, (dQ d k).tabs ++ [dTab (dVs d) (lkAt d.lk k)]⟩ : Prob) = dQ d (k + 1) := by simp [dQ, List.range_succ]
theorem dQ_lv (d : Dra) (j : Nat) : (dQ d j).vs.length = d.vs.length := dVs_len d
theorem dQ_lt (d : Dra) (j : Nat) : (dQ d j).tabs.length = j := by simp [dQ]
theorem lk_cells {w : World} {b off k : Nat} {l : List Lnk} (h : ∀ i, i < 6 → w.cell? ⟨b, off + k * 6 + i, none⟩ = some (lkC (lkAt l k) i)) :
    w.cell? ⟨b, off + k * 6, none⟩ = some (.int .u8 (lkAt l k).kind) ∧ w.cell? ⟨b, off + k * 6 + 1, none⟩ = some (.int .u8 (lkAt l k).src) ∧ w.cell? ⟨b, off + k * 6 + 2, none⟩ = some (.int .u8 (lkAt l k).dst) ∧
      w.cell? ⟨b, off + k * 6 + 3, none⟩ = some (.bool (lkAt l k).aware) ∧ w.cell? ⟨b, off + k * 6 + 4, none⟩ = some (.int .u16 (lkAt l k).bad) ∧ w.cell? ⟨b, off + k * 6 + 5, none⟩ = some (.int .u16 (lkAt l k).lost) :=
  ⟨h 0 (by decide), h 1 (by decide), h 2 (by decide), h 3 (by decide), h 4 (by decide), h 5 (by decide)⟩
theorem cell_off {w : World} {b i j : Nat} {v : Value} (h : j ≠ i) : (w.setCell ⟨b, j, none⟩ v).cell? ⟨b, i, none⟩ = w.cell? ⟨b, i, none⟩ :=
  World.cell?_setCell_other _ _ _ _ fun e => h (by injection e)
theorem OwnMt.nil (W : World) (B : Nat) : OwnMt W B [] (.slice none ([] : List (List Bool)).length 0) :=
  ⟨fun _ => (none, 0), World.ownsRow_nil _ _ _ _, fun k hk => by cases hk⟩
theorem dTab_mk {d : Dra} {lk ls ld lb lo K : Int} {la : Bool} {a b nA nB : Nat} (hK : 1 + lk % 4 = K) (ha : ls.tmod (d.vs.length : Int) = (a : Int)) (s0 : 0 ≤ ls) (hb : ld.tmod (d.vs.length : Int) = (b : Int)) (d0 : 0 ≤ ld) (hA : gi (dVs d) a = (nA : Int)) (hB : gi (dVs d) b = (nB : Int)) :
    dTab (dVs d) ⟨lk, ls, ld, la, lb, lo⟩ = ⟨K, a, b, la && !stB K, bitsM nA nB lb false, if K = 4 then bitsM nA nA lo true else []⟩ := by
  unfold dTab
  dsimp only
  rw [dVs_len, hK, ← Int.tmod_eq_emod_of_nonneg s0, ← Int.tmod_eq_emod_of_nonneg d0, ha, hb]
  simp only [Int.toNat_natCast, hA, hB]
theorem own_far {W : World} {B b s : Nat} {e : TypeId} {v : Value} {n : Nat} {xs : List Value} (h : W.ownsRow B e s v n xs) (hb : b < B) (i : Nat) (u : Value) : (W.setCell ⟨b, i, none⟩ u).ownsRow B e s v n xs :=
  h.kept (grownBy_set W b i u) (by
    cases hx : v.ownBlock with
    | none => exact Or.inl rfl
    | some g =>
      refine Or.inr fun e => ?_
      injection e with e
      rcases h.2 with ⟨rfl, _⟩ | ⟨g', cap, cur, rfl, hb, _⟩
      · cases hx
      · have hx : some g' = some g := hx
        injection hx with hx
        omega)
theorem OwnMt.far {W : World} {B b : Nat} {m : List (List Bool)} {v : Value} (h : OwnMt W B m v) (hb : b < B) (i : Nat) (u : Value) : OwnMt (W.setCell ⟨b, i, none⟩ u) B m v := by
  obtain ⟨r, h3, h4⟩ := h
  exact ⟨r, own_far h3 hb _ _, fun k hk => own_far (h4 k hk) hb _ _⟩
/-- a problem whose rows the call owns -/
structure PO (W : World) (B : Nat) (p : Prob) (q : ProbP) (F : Nat → TabP) : Prop where
  o0 : W.ownsRow B 3 1 (.slice q.a0 p.vs.length q.c0) p.vs.length (rowM p.vs.length (iv p.vs))
  o1 : W.ownsRow B 3 1 (.slice q.a1 p.now.length q.c1) p.now.length (rowM p.now.length (iv p.now))
  o2 : W.ownsRow B 3 1 (.slice q.a2 p.tgt.length q.c2) p.tgt.length (rowM p.tgt.length (iv p.tgt))
  o3 : W.ownsRow B 47 6 (.slice q.a3 p.tabs.length q.c3) p.tabs.length (tbRow p.tabs F)
  m3 : ∀ k, k < p.tabs.length → OwnMt W B (tab p.tabs k).ok (.slice (F k).okA (tab p.tabs k).ok.length (F k).okC) ∧ OwnMt W B (tab p.tabs k).rw (.slice (F k).rwA (tab p.tabs k).rw.length (F k).rwC)
theorem PB.po {w0 W : World} {b : Nat} {p : Prob} {q : ProbP} {F : Nat → TabP} (h : PB w0 b p q F W) : PO W (b + 1) p q F := ⟨h.o0, h.o1, h.o2, h.o3, h.m3⟩
theorem PO.far {W : World} {B b : Nat} {p : Prob} {q : ProbP} {F : Nat → TabP} (h : PO W B p q F) (hb : b < B) (i : Nat) (u : Value) : PO (W.setCell ⟨b, i, none⟩ u) B p q F :=
  ⟨own_far h.o0 hb _ _, own_far h.o1 hb _ _, own_far h.o2 hb _ _, own_far h.o3 hb _ _, fun k hk => ⟨(h.m3 k hk).1.far hb _ _, (h.m3 k hk).2.far hb _ _⟩⟩
theorem PO.to {W W' : World} {B : Nat} {p : Prob} {q : ProbP} {F : Nat → TabP} (h : PO W B p q F) (hb : Below W.heap.size W W') : PO W' B p q F :=
  ⟨own_to h.o0 hb, own_to h.o1 hb, own_to h.o2 hb, own_to h.o3 hb, fun k hk => ⟨(h.m3 k hk).1.to hb, (h.m3 k hk).2.to hb⟩⟩
theorem PO.base {W : World} {B B' : Nat} {p : Prob} {q : ProbP} {F : Nat → TabP} (h : PO W B p q F) (hb : B' ≤ B) : PO W B' p q F :=
  ⟨own_base h.o0 hb, own_base h.o1 hb, own_base h.o2 hb, own_base h.o3 hb, fun k hk => ⟨(h.m3 k hk).1.base hb, (h.m3 k hk).2.base hb⟩⟩
theorem PO.prob {W : World} {B : Nat} {p : Prob} {q : ProbP} {F : Nat → TabP} (h : PO W B p q F) : RProb W W.heap.size p q := by
  refine ⟨?_, ?_, ?_, F, ?_, fun k hk => ⟨(h.m3 k hk).1.mat, (h.m3 k hk).2.mat⟩⟩
  · obtain ⟨A, c, hv, _, _, ha⟩ := own_arr h.o0 (fun k hk => rowM_get hk)
    injection hv with h1; rw [h1]; exact ha
  · obtain ⟨A, c, hv, _, _, ha⟩ := own_arr h.o1 (fun k hk => rowM_get hk)
    injection hv with h1; rw [h1]; exact ha
  · obtain ⟨A, c, hv, _, _, ha⟩ := own_arr h.o2 (fun k hk => rowM_get hk)
    injection hv with h1; rw [h1]; exact ha
  · obtain ⟨A, c, hv, _, _, ha⟩ := own_arrN (f := fun k i => tabCells (tab p.tabs k) (F k) i) h.o3 (fun k hk i hi => rowN_get hk hi)
    injection hv with h1; rw [h1]; exact ha
theorem PO.far4 {W : World} {B b : Nat} {p : Prob} {q : ProbP} {F : Nat → TabP} (h : PO W B p q F) (hb : b < B) (u0 u1 u2 u3 : Value) : PO ((((W.setCell ⟨b, 0, none⟩ u0).setCell ⟨b, 1, none⟩ u1).setCell ⟨b, 2, none⟩ u2).setCell ⟨b, 3, none⟩ u3) B p q F :=
  (((h.far hb _ _).far hb _ _).far hb _ _).far hb _ _
theorem tmod_nat {x : Int} {n : Nat} (h : 0 ≤ x) (hn : 0 < n) : ∃ a : Nat, x.tmod (n : Int) = (a : Int) ∧ a < n := by
  have h1 : 0 ≤ x % (n : Int) := Int.emod_nonneg _ (by omega)
  have h2 : x % (n : Int) < n := Int.emod_lt_of_pos _ (by omega)
  exact ⟨(x % n).toNat, by rw [Int.tmod_eq_emod_of_nonneg h]; omega, by omega⟩
theorem dQ_all {d : Dra} (h : d.vs.length ≠ 0) : dQ d d.lk.length = dProb d := by
  unfold dQ dProb
  rw [if_neg h]
  congr 1
  apply List.ext_getElem
  · simp
  · intro i h1 h2
    have : i < d.lk.length := by simpa using h2
    simp [lkAt, this]
theorem dQ_nil {d : Dra} (h : d.vs.length = 0) : dQ d 0 = dProb d := by
  unfold dQ dProb
  rw [if_pos h]
  rfl
theorem dcode_bd {l : List Int} (h : Bt8 l) (k : Nat) : 0 ≤ dcode l k ∧ dcode l k < 256 := by
  unfold dcode
  by_cases hk : k < l.length
  · rw [if_pos hk]; exact h.1 k hk
  · rw [if_neg hk]; omega
/-- what sheaveref35.Of hands back -/
def DraR (w : World) (d : Dra) (v : Value) (w' : World) : Prop :=
  Below w.heap.size w w' ∧ (if d.vs.length ≤ 3 ∧ d.lk.length ≤ 4 then ∃ q F, v = .tuple #[probV (dProb d) q, .bool true] ∧ PO w' w.heap.size (dProb d) q F
    else v = .tuple #[probV ⟨[], [], [], []⟩ ⟨none, 0, none, 0, none, 0, none, 0⟩, .bool false])
end Go.Proofs.Ytickckehhfdoeaa
