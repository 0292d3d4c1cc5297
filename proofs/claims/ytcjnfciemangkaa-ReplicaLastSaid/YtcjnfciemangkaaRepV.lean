/-
  CONTRACTS: the reference's Numbers and Do; the law's perform.
  Conditions: those that each theorem names.
-/
import Derived.Test.YtcjnfciemangkaaDr35
namespace Go.Sv
open Go.RowKit
/-- numbers of replicas -/
def numsL (n : Nat) (cs : List Int) : List Int := (List.range n).map fun i => if i < cs.length then 1 + gi cs i % 4 else 1
theorem numsL_len (n : Nat) (cs : List Int) : (numsL n cs).length = n := by simp [numsL]
theorem numsL_gi {n i : Nat} {cs : List Int} (h : i < n) : gi (numsL n cs) i = if i < cs.length then 1 + gi cs i % 4 else 1 := gi_map h
theorem start_ok {p : Prob} {cs : List Int} (h : probE p = 0) : startE p (numsL p.vs.length cs) = 0 :=
  startE_0 h (numsL_len _ _) fun i hi hb => by
    rw [numsL_len] at hi
    unfold nsBad at hb
    rw [numsL_gi hi] at hb
    split at hb <;> omega
/-- things that happen, one after another -/
noncomputable def opsL (p : Prob) (l : List Rep) (os : List Opp) : List Rep := os.foldl (stepL p) l
theorem opsL_len (p : Prob) : ∀ (os : List Opp) (l : List Rep), (opsL p l os).length = l.length
  | [], _ => rfl
  | o :: os, l => by
    show (opsL p (stepL p l o) os).length = _
    rw [opsL_len p os, stepL_len]
def oppAt (os : List Opp) (k : Nat) : Opp := os.getD k ⟨0, 0, 0, 0⟩
theorem opsL_snoc {p : Prob} {l : List Rep} {os : List Opp} {k : Nat} (h : k < os.length) : opsL p l (os.take (k + 1)) = stepL p (opsL p l (os.take k)) (oppAt os k) := by
  unfold opsL oppAt
  rw [List.take_add_one, List.getElem?_eq_getElem h, List.foldl_append]
  simp [h]
theorem opsL_all {p : Prob} {l : List Rep} {os : List Opp} : opsL p l (os.take os.length) = opsL p l os := by rw [List.take_length]
/-- the bounds of an op's numbers -/
structure OBd (o : Opp) : Prop where
  k : 0 ≤ o.kind ∧ o.kind < 256
  r : 0 ≤ o.rep ∧ o.rep < 256
  v : 0 ≤ o.ver ∧ o.ver < 256
  d : -128 ≤ o.rnd ∧ o.rnd < 128
def opC (o : Opp) (i : Nat) : Value :=
  match i with
  | 0 => .int .u8 o.kind
  | 1 => .int .u8 o.rep
  | 2 => .int .u8 o.ver
  | _ => .int .i8 o.rnd
abbrev opV (o : Opp) : Value := .agg #[.int .u8 o.kind, .int .u8 o.rep, .int .u8 o.ver, .int .i8 o.rnd]
def opF (os : List Opp) (k i : Nat) : Value := opC (oppAt os k) i
theorem opF_one (os : List Opp) (k i : Nat) : (opF os k i).oneCell' = true := by
  unfold opF opC
  split <;> rfl
abbrev ROps (w : World) (B : Nat) (A : Option Addr) (os : List Opp) : Prop := ArrN w B 4 A os.length (opF os)
theorem ROps.to {w w' : World} {A : Option Addr} {os : List Opp} (h : ROps w w.heap.size A os) (hb : Below w.heap.size w w') : ROps w' w'.heap.size A os := (ArrN.below h hb).more hb.size
theorem op_cells {w : World} {b off k : Nat} {os : List Opp} (h : ∀ i, i < 4 → w.cell? ⟨b, off + k * 4 + i, none⟩ = some (opF os k i)) :
    w.cell? ⟨b, off + k * 4, none⟩ = some (.int .u8 (oppAt os k).kind) ∧ w.cell? ⟨b, off + k * 4 + 1, none⟩ = some (.int .u8 (oppAt os k).rep) ∧ w.cell? ⟨b, off + k * 4 + 2, none⟩ = some (.int .u8 (oppAt os k).ver) ∧
    w.cell? ⟨b, off + k * 4 + 3, none⟩ = some (.int .i8 (oppAt os k).rnd) := ⟨h 0 (by omega), h 1 (by omega), h 2 (by omega), h 3 (by omega)⟩
theorem wrap_u8 {x : Int} (h : 0 ≤ x ∧ x < 256) : IntKind.i64.wrap x = x := by simp [IntKind.wrap, IntKind.bits, IntKind.signed]; omega
theorem wrap_i8 {x : Int} (h : -128 ≤ x ∧ x < 128) : IntKind.i64.wrap x = x := by simp [IntKind.wrap, IntKind.bits, IntKind.signed]; omega
theorem mod4 {x : Int} (h : 0 ≤ x ∧ x < 256) : x.tmod 4 = x % 4 := Int.tmod_eq_emod_of_nonneg h.1
end Go.Sv
namespace Go.Proofs.Ytcjnfciemangkaa
open Go.RowKit Go.Sv
def IntR (w : World) (l : List Int) (v : Value) (w' : World) : Prop := ∃ A c, v = .slice A l.length c ∧ Arr w' w'.heap.size A l.length (iv l) ∧ Below w.heap.size w w'
set_option maxHeartbeats 2000000 in
set_option maxRecDepth 100000 in
theorem nums_any (p : Prob) (q : ProbP) (A : Option Addr) (c : Nat) (cs : List Int) (w : World) (hpn : p.vs.length ≤ 1000) (hc : Arr w w.heap.size A cs.length (u8v cs)) (h8 : Bt8 cs) :
    Calls Try.prog 23 #[probV p q, .slice A cs.length c] w (Ret (IntR w (numsL p.vs.length cs))) := by
  obtain ⟨qa0, qc0, qa1, qc1, qa2, qc2, qa3, qc3⟩ := q
  obtain ⟨W, (hW : w.alloc (.cells #[.slice qa0 p.vs.length qc0, .slice qa1 p.now.length qc1, .slice qa2 p.tgt.length qc2, .slice qa3 p.tabs.length qc3] 25) = W), S, hB⟩ := fm_boxE (Fm.init w) 25 [.slice qa0 p.vs.length qc0, .slice qa1 p.now.length qc1, .slice qa2 p.tgt.length qc2, .slice qa3 p.tabs.length qc3]
  have hg := Lib.hid (fun i (hi : i < p.vs.length) => numsL_gi (cs := cs) hi)
  have hlen := Lib.hid (numsL_len p.vs.length cs)
  obtain ⟨L, hL⟩ : ∃ L, numsL p.vs.length cs = L := ⟨_, rfl⟩
  obtain ⟨n, hn⟩ : ∃ n, p.vs.length = n := ⟨_, rfl⟩
  rw [hL, hn] at hg
  rw [hL, hn] at hlen
  rw [hL]
  rw [hn] at hpn hW S
  have SW := Lib.hid S
  replace hB := Lib.hid hB
  replace hc := Lib.hid hc
  obtain ⟨h8, h8n⟩ := h8
  replace h8 := Lib.hid h8
  obtain ⟨⟨z0, f0, y0, y1, y2, y3, -⟩, -⟩ := S.facts
  clear S hL
  go_enter Try.func23, Try.ntmps23
  go_wp2
  clear hW z0 f0 y0 y1 y2 y3
  go_loopw [5, 6] (fun v i wr => ∃ k : Nat, k ≤ n ∧ i = .int .i64 k ∧ wr.ownsRow W.heap.size 3 1 v k (rowM k (iv L)) ∧ Below W.heap.size W wr) (fun _ i _ => n - (intOf i).toNat)
  case atStart => exact ⟨0, Nat.zero_le _, rfl, World.ownsRow_nil _ _ _ _, Below.refl _ _⟩
  case round =>
    obtain ⟨k, hk, rfl, hO, hbw⟩ := hrel
    have hs := hbw.size
    obtain ⟨⟨z0, f0, y0, y1, y2, y3, -⟩, -⟩ := (SW.out.call hbw).facts
    by_cases hlt : k < n
    · have jk : (k : Int) < (n : Int) := by omega
      have hx := hg.out k hlt
      obtain ⟨x, hxx⟩ : ∃ x, gi L k = x := ⟨_, rfl⟩
      rw [hxx] at hx
      replace hO := Lib.hid hO
      have hSn : Hid (rowM (k + 1) (iv L) = rowM k (iv L) ++ [.int .i64 x]) := Lib.hid (by rw [rowM_snoc]; unfold iv; rw [hxx])
      have hc2 := Lib.hid (hc.out.below (hB.out.trans (hbw.mono hB.out.size)))
      replace hbw := Lib.hid hbw
      clear hxx
      by_cases hcl : k < cs.length
      · rw [if_pos hcl] at hx
        have jc : (k : Int) < (cs.length : Int) := by omega
        obtain ⟨b, o, rfl, -, hcc⟩ := hc2.out (by omega)
        have d0 := hcc k hcl
        have hv := h8.out k hcl
        unfold u8v at d0
        obtain ⟨v, hvv⟩ : ∃ v, gi cs k = v := ⟨_, rfl⟩
        rw [hvv] at d0 hv hx
        have m1 := mod4 hv
        have w1 : IntKind.i64.wrap (v % 4) = v % 4 := wrap_u8 (by omega)
        have w2 : IntKind.i64.wrap (1 + v % 4) = x := by rw [hx]; exact wrap_u8 (by omega)
        have w3 : IntKind.u8.wrap (v % 4) = v % 4 := by simp [IntKind.wrap, IntKind.bits, IntKind.signed]; omega
        clear hcc hvv hx
        go_wp2_with (at_builtin; refine push_own elInt rfl _ _ rfl W.heap.size _ k _ hO.out rfl [.int .i64 x] rfl rfl rfl (by omega) (by omega) hs ?_)
        intro v' w5 hown5 hgr hb5 hs5 _
        have hO5 : Hid (w5.ownsRow W.heap.size 3 1 v' (k + 1) (rowM (k + 1) (iv L))) := Lib.hid (by rw [hSn.out]; exact hown5)
        have hb6 := Lib.hid (hbw.out.trans hb5)
        clear hown5 hgr hb5 hs5 z0 f0 y0 y1 y2 y3 d0 m1 w1 w2 w3
        go_wp2
        go_roundw
        case rel => exact ⟨k + 1, hlt, by go_num, hO5.out, hb6.out⟩
        case measure => simp [intOf]; omega
      · rw [if_neg hcl] at hx
        subst hx
        have jc : ¬ (k : Int) < (cs.length : Int) := by omega
        go_wp2_with (at_builtin; refine push_own elInt rfl _ _ rfl W.heap.size _ k _ hO.out rfl [.int .i64 1] rfl rfl rfl (by omega) (by omega) hs ?_)
        intro v' w5 hown5 hgr hb5 hs5 _
        have hO5 : Hid (w5.ownsRow W.heap.size 3 1 v' (k + 1) (rowM (k + 1) (iv L))) := Lib.hid (by rw [hSn.out]; exact hown5)
        have hb6 := Lib.hid (hbw.out.trans hb5)
        clear hown5 hgr hb5 hs5 z0 f0 y0 y1 y2 y3
        go_wp2
        go_roundw
        case rel => exact ⟨k + 1, hlt, by go_num, hO5.out, hb6.out⟩
        case measure => simp [intOf]; omega
    · obtain rfl : k = n := by omega
      have jk : ¬ (k : Int) < (k : Int) := by omega
      have hll := hlen.out
      obtain ⟨A1, c1, hv, -, -, hA⟩ := own_arr hO (fun j hj => rowM_get hj)
      subst hv
      have hfin := Lib.hid (hB.out.trans (hbw.mono hB.out.size))
      replace hA := Lib.hid hA
      clear hO hbw
      go_wp2
      clear z0 f0 y0 y1 y2 y3
      refine bodyPost_ret (v := .slice A1 k c1) (by simp [results, Try.results23, go_sem]) rfl ?_
      exact Ret.mk ⟨A1, c1, by rw [hll], by rw [hll]; exact hA.out, hfin.out⟩
end Go.Proofs.Ytcjnfciemangkaa
