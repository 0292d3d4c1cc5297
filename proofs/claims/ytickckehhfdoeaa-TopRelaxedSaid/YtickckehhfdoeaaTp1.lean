/-
  PLAIN: aborts, robust mixes, the region of a problem as the program walks it, and its first way to a goal.
  Conditions: those that each theorem names.
-/
import Derived.Test.YtickckehhfdoeaaSb1
import Derived.Test.YtickckehhfdoeaaSb7
import Derived.Test.YtickckehhfdoeaaSb2

namespace Go.Sv
open Go.RowKit
/-! ### aborts -/
def openL (m : Mx) : List Nat := (List.range m.next.length).filter fun i => decide (0 ≤ gi m.next i)
/-- the services of a list are closed where the number has a bit -/
def abF : List Nat → Nat → Nat → List Int → List Int
  | [], _, _, l => l
  | i :: r, b, k, l => abF r (b + 1) k (if k.testBit b then l.set i (-1) else l)
def abM (m : Mx) (k : Nat) : Mx := { m with next := abF (openL m) 0 k m.next }
def abL (m : Mx) : List Mx := (List.range (2 ^ (openL m).length)).map (abM m)
def robB (p : Prob) (m : Mx) : Bool := (abL m).all fun x => (foundL p x).isEmpty
/-- clearing keeps a mix robust -/
theorem rob_less {p : Prob} {m m' : Mx} (hb : m'.base = m.base) (hn : m'.next = m.next) (hh : ∀ i, i < p.tabs.length → sub (hd m' i) (hd m i)) (h : robB p m = true) : robB p m' = true := by
  obtain ⟨b, n, l⟩ := m
  obtain ⟨b', n', l'⟩ := m'
  dsimp only at hb hn
  subst hb hn
  unfold robB at h ⊢
  rw [List.all_eq_true] at h ⊢
  intro x hx
  unfold abL at hx
  obtain ⟨k, hk, rfl⟩ := List.mem_map.1 hx
  have h1 := h (abM ⟨b', n', l⟩ k) (List.mem_map.2 ⟨k, hk, rfl⟩)
  rw [List.isEmpty_iff] at h1 ⊢
  have h2 := found_less (p := p) (m := abM ⟨b', n', l⟩ k) (m' := abM ⟨b', n', l'⟩ k) rfl rfl (fun i hi => hh i hi)
  rw [h1] at h2
  exact List.eq_nil_iff_forall_not_mem.2 fun c hc => by cases h2 c hc
/-- what is robust stays so where more is OK -/
theorem rob_relaxed {p q : Prob} {m : Mx} (hv : q.vs = p.vs) (hl : q.tabs.length = p.tabs.length)
    (ht : ∀ i, i < p.tabs.length → (tab q.tabs i).kind = (tab p.tabs i).kind ∧ (tab q.tabs i).src = (tab p.tabs i).src ∧ (tab q.tabs i).dst = (tab p.tabs i).dst ∧ (tab q.tabs i).aware = (tab p.tabs i).aware ∧ ∀ u v, mat (tab p.tabs i).ok u v = true → mat (tab q.tabs i).ok u v = true)
    (h : robB p m = true) : robB q m = true := by
  unfold robB at h ⊢
  rw [List.all_eq_true] at h ⊢
  intro x hx
  have h1 := h x hx
  rw [List.isEmpty_iff] at h1 ⊢
  have h2 := found_relaxed (m := x) hv hl ht
  rw [h1] at h2
  exact List.eq_nil_iff_forall_not_mem.2 fun c hc => by cases h2 c hc
/-! ### the region -/
structure Nd where
  m : Mx
  frm : Int
  by_ : Sp
def nd0 : Nd := ⟨⟨[], [], []⟩, -1, ⟨0, 0, 0⟩⟩
def ndAt (l : List Nd) (i : Nat) : Nd := l.getD i nd0
/-- the nodes, and which mixes are known: with their node, or -1 -/
structure Rg where
  nds : List Nd
  pl : List (Mx × Int)
def look (pl : List (Mx × Int)) (m : Mx) : Option Int := (pl.find? fun x => decide (x.1 = m)).map (·.2)
section
variable (st : Mx → List Sp) (ap : Mx → Sp → Mx) (rob : Mx → Bool)
/-- a step s from node i -/
def rgStep (i : Nat) (g : Rg) (s : Sp) : Rg :=
  let x := ap (ndAt g.nds i).m s
  match look g.pl x with
  | some _ => g
  | none => if rob x then ⟨g.nds ++ [⟨x, i, s⟩], (x, (g.nds.length : Int)) :: g.pl⟩ else ⟨g.nds, (x, -1) :: g.pl⟩
/-- the steps of a node, until there are too many nodes -/
def rgRow (most i : Nat) : Rg → List Sp → Option Rg
  | g, [] => some g
  | g, s :: r => let h := rgStep ap rob i g s; if most < h.nds.length then none else rgRow most i h r
def rgAll (most : Nat) : Nat → Nat → Rg → Option Rg
  | 0, _, g => some g
  | f + 1, i, g => if i < g.nds.length then (match rgRow ap rob most i g (st (ndAt g.nds i).m) with | none => none | some h => rgAll most f (i + 1) h) else some g
def rgStart (m : Mx) : Rg := ⟨[⟨m, -1, ⟨0, 0, 0⟩⟩], [(m, 0)]⟩
end
/-- the way to a node, backwards -/
def wayB (l : List Nd) : Nat → Int → List Sp
  | 0, _ => []
  | f + 1, i => if (ndAt l i.toNat).frm < 0 then [] else (ndAt l i.toNat).by_ :: wayB l f (ndAt l i.toNat).frm
def goalB (p : Prob) (m : Mx) : Bool := decide (m.base = p.tgt) && m.next.all fun n => decide (n < 0)
def findW (p : Prob) (l : List Nd) : Option (List Sp) := (l.findIdx? fun n => goalB p n.m).map fun i => (wayB l l.length i).reverse
/-- a step where nothing is stored -/
def aftC (m : Mx) (s : Sp) : Option Mx :=
  let i := s.ix.toNat
  if s.kind = 1 then (if 0 ≤ gi m.next i ∨ gi m.base i = s.ver then none else some { m with next := m.next.set i s.ver })
  else if s.kind = 3 then none
  else if gi m.next i < 0 then none
  else if s.kind = 2 then some { m with base := m.base.set i (gi m.next i), next := m.next.set i (-1) }
  else some { m with next := m.next.set i (-1) }
theorem heldS_none {p : Prob} (h : ∀ i, stored (tab p.tabs i) = false) (m : Mx) (i v : Int) : heldS p m i v = m.held := by
  unfold heldS
  apply List.ext_getElem (by simp)
  intro k h1 h2
  simp only [List.getElem_map, List.getElem_range]
  rw [if_neg (fun c => by rw [h k] at c; exact absurd c.2.2 (by decide))]
  simp [gi, h2]
theorem aft_none {p : Prob} (h : ∀ i, stored (tab p.tabs i) = false) (m : Mx) (s : Sp) : aft p m s = aftC m s := by
  unfold aft aftC
  dsimp only
  by_cases h1 : s.kind = 1
  · rw [if_pos h1, if_pos h1, heldS_none h]
  · rw [if_neg h1, if_neg h1]
    by_cases h3 : s.kind = 3
    · rw [if_pos h3, if_pos h3, if_pos (Or.inl (h _))]
    · rw [if_neg h3, if_neg h3]
/-! ### the example -/
def p46 : Prob := ⟨[2, 2], [0, 0], [1, 1], [⟨1, 0, 1, false, [[true, true], [false, true]], []⟩]⟩
def st46 (m : Mx) : List Sp := (allL p46).filter fun s => (aftC m s).isSome
def ap46 (m : Mx) (s : Sp) : Mx := (aftC m s).getD mx0
end Go.Sv

namespace Go.Proofs.Ytickckehhfdoeaa
open Go.RowKit Go.Sv
theorem gol1_any (v : Int) (w : World) : Calls Try.prog 82 #[.int .i64 v] w fun e w' => e = .returned (.bool (decide (0 ≤ v))) ∧ w = w' := by
  go_enter Try.func82, Try.ntmps82
  go_wp2
  go_ret
  exact ⟨rfl, rfl⟩
def IxG (w : World) (m : List Int) (e : Ending) (w' : World) : Prop := w = w' ∧ ∃ z : Int, e = .returned (.int .i64 z) ∧ decide (0 ≤ z) = anyB (fun i => decide (0 ≤ gi m i)) m.length
set_option maxRecDepth 100000 in
theorem ixg_any (A : Option Addr) (c : Nat) (m : List Int) (w : World) (B : Nat) (ha : Arr w B A m.length (iv m)) (hl : m.length ≤ 1000000) :
    Calls Try.prog 72 #[.slice A m.length c, .func (.func 82) #[] #[]] w (IxG w m) := by
  have HT := Lib.hid (fun v => gol1_any v w)
  replace ha := Lib.hid ha
  go_enter Try.func72, Try.ntmps72
  go_wp2
  go_loop [5, 8] (fun _ s8 => ∃ k : Nat, s8 = .int .i64 k ∧ k ≤ m.length ∧ ∀ j, j < k → decide (0 ≤ gi m j) = false) (fun _ s8 => m.length - (intOf s8).toNat)
  case atStart => exact ⟨0, rfl, Nat.zero_le _, fun j hj => by omega⟩
  case round =>
    obtain ⟨k, rfl, hk, hall⟩ := hrel
    replace hall := Lib.hid hall
    by_cases hlt : k < m.length
    · obtain ⟨b, o, rfl, -, hc⟩ := ha.out (by omega)
      have d := hc k hlt
      unfold iv at d
      obtain ⟨v, hv⟩ : ∃ v, gi m k = v := ⟨_, rfl⟩
      rw [hv] at d
      have HT1 := Lib.hid (HT.out v)
      have jk : (k : Int) < (m.length : Int) := by omega
      clear hc
      cases hq : decide (0 ≤ v) with
      | true =>
        have hF := Lib.hid (anyB_yes (f := fun i => decide (0 ≤ gi m i)) hlt (by rw [hv]; exact hq))
        rw [hq] at HT1
        replace hv := Lib.hid hv
        clear hq
        go_wp2_with fail
        with_reducible refine HT1.out.mono ?_
        rintro e w' ⟨rfl, rfl⟩
        go_wp2
        go_ret
        exact ⟨rfl, _, rfl, by rw [hF.out]; exact decide_eq_true (by omega)⟩
      | false =>
        have hn : Hid (∀ j, j < k + 1 → decide (0 ≤ gi m j) = false) := Lib.hid fun j hj => by
          rcases Nat.lt_succ_iff_lt_or_eq.1 hj with h | h
          · exact hall.out j h
          · rw [h, hv]; exact hq
        rw [hq] at HT1
        replace hv := Lib.hid hv
        clear hq
        go_wp2_with fail
        with_reducible refine HT1.out.mono ?_
        rintro e w' ⟨rfl, rfl⟩
        go_wp2
        go_round
        case rel => exact ⟨k + 1, by go_num, by omega, hn.out⟩
        case measure => simp [intOf]; omega
    · obtain rfl : k = m.length := by omega
      have hF := Lib.hid (anyB_no hall.out)
      clear hlt
      go_wp2
      go_ret
      exact ⟨rfl, _, rfl, by rw [hF.out]; rfl⟩
set_option maxRecDepth 100000 in
theorem cfg_any (A : Option Addr) (c : Nat) (m : List Int) (w : World) (B : Nat) (ha : Arr w B A m.length (iv m)) (hl : m.length ≤ 1000000) :
    Calls Try.prog 45 #[.slice A m.length c, .func (.func 82) #[] #[]] w fun e w' => e = .returned (.bool (anyB (fun i => decide (0 ≤ gi m i)) m.length)) ∧ w = w' := by
  have H := Lib.hid (ixg_any A c m w B ha hl)
  clear ha
  go_enter Try.func45, Try.ntmps45
  go_wp2_with fail
  with_reducible refine H.out.mono ?_
  rintro e w' ⟨rfl, z, rfl, hz⟩
  replace hz := Lib.hid hz
  go_wp2
  go_ret
  exact ⟨by rw [← hz.out]; rfl, rfl⟩
set_option maxHeartbeats 2000000 in
theorem equalI_any (A C : Option Addr) (c d : Nat) (l m : List Int) (w : World) (B : Nat) (ha : Arr w B A l.length (iv l)) (hc : Arr w B C m.length (iv m)) (h1 : l.length ≤ 1000000) (h2 : m.length ≤ 1000000) :
    Calls Try.prog 81 #[.slice A l.length c, .slice C m.length d] w fun e w' => e = .returned (.bool (decide (l = m))) ∧ Drawn w w' := by
  by_cases hlen : l.length = m.length
  · have z1 : ((l.length : Int) != (m.length : Int)) = false := by rw [bne_eq_false_iff_eq]; omega
    replace hlen := Lib.hid hlen
    go_enter Try.func81, Try.ntmps81
    go_wp2
    go_loopw [5, 13] (fun _ i wr => ∃ k : Nat, k ≤ l.length ∧ i = .int .i64 k ∧ (∀ j, j < k → gi l j = gi m j) ∧ Drawn w wr) (fun _ i _ => l.length - (intOf i).toNat)
    case atStart => exact ⟨0, Nat.zero_le _, rfl, fun j hj => by omega, Drawn.refl _⟩
    case round =>
      obtain ⟨k, hk, rfl, hall, hdr⟩ := hrel
      replace hall := Lib.hid hall
      by_cases hlt : k < l.length
      · have hkm : k < m.length := by have := hlen.out; omega
        obtain ⟨b, off, rfl, hb, hcl⟩ := ha (by omega)
        obtain ⟨b2, off2, rfl, hb2, hcm⟩ := hc (by omega)
        have c1 := (hdr.cell _).trans (hcl k hlt)
        have c2 := (hdr.cell _).trans (hcm k hkm)
        unfold iv at c1 c2
        replace hdr := Lib.hid hdr
        replace ha := Lib.hid ha
        replace hc := Lib.hid hc
        clear hcl hcm
        have j1 : (k : Int) < (l.length : Int) := by omega
        have j2 : (k : Int) < (m.length : Int) := by omega
        by_cases hg : gi l k = gi m k
        · have hx : (gi l k != gi m k) = false := by rw [bne_eq_false_iff_eq]; exact hg
          replace hg := Lib.hid hg
          go_wp2
          go_quiet (fail)
          go_wp2
          go_roundw
          case rel => exact ⟨k + 1, by omega, by go_num, fun j hj => by (rcases Nat.lt_succ_iff_lt_or_eq.1 hj with h | h; exact hall.out j h; rw [h]; exact hg.out), hdr.out.drewN _⟩
          case measure => simp [intOf]; omega
        · have hx : (gi l k != gi m k) = true := by rw [bne_iff_ne]; exact hg
          have hne : Hid (decide (l = m) = false) := Lib.hid (by rw [decide_eq_false_iff_not]; intro h; exact hg (by rw [h]))
          clear hg
          go_wp2
          go_quiet (fail)
          go_wp2
          go_ret
          exact ⟨ret_b hne.out.symm, hdr.out.drewN _⟩
      · have heq : Hid (decide (l = m) = true) := Lib.hid (decide_eq_true (gi_ext hlen.out (fun j hj => hall.out j (by omega))))
        obtain rfl : k = l.length := by omega
        replace ha := Lib.hid ha
        replace hc := Lib.hid hc
        go_wp2
        go_ret
        exact ⟨ret_b heq.out.symm, hdr⟩
  · have z1 : ((l.length : Int) != (m.length : Int)) = true := by rw [bne_iff_ne]; omega
    have hne : Hid (decide (l = m) = false) := Lib.hid (by rw [decide_eq_false_iff_not]; intro h; exact hlen (by rw [h]))
    clear hlen
    go_enter Try.func81, Try.ntmps81
    go_wp2
    go_ret
    exact ⟨ret_b hne.out.symm, Drawn.refl _⟩
theorem any_goal {l : List Int} : (!anyB (fun i => decide (0 ≤ gi l i)) l.length) = l.all fun n => decide (n < 0) := by
  cases h : anyB (fun i => decide (0 ≤ gi l i)) l.length with
  | true =>
    unfold anyB at h
    rw [List.any_eq_true] at h
    obtain ⟨i, hi, hd⟩ := h
    have hi := List.mem_range.1 hi
    symm
    rw [Bool.not_true, List.all_eq_false]
    refine ⟨l[i], List.getElem_mem hi, ?_⟩
    have h2 := of_decide_eq_true hd
    simp [gi, hi] at h2
    simp; omega
  | false =>
    unfold anyB at h
    rw [List.any_eq_false] at h
    symm
    rw [Bool.not_false, List.all_eq_true]
    intro x hx
    obtain ⟨i, hi, rfl⟩ := List.getElem_of_mem hx
    have := h i (List.mem_range.2 hi)
    simp [gi, hi] at this
    simpa using this
set_option maxHeartbeats 4000000 in
set_option maxRecDepth 100000 in
theorem goal_any (p : Prob) (q : ProbP) (m : Mx) (qm : MixP) (w : World) (hp : RProb w w.heap.size p q) (hbd : PBd p) (hm : RMix w w.heap.size m qm) (hmb : MBd m qm) :
    Calls Try.prog 58 #[probV p q, mixV m qm] w fun e w' => e = .returned (.bool (decide (mixE p m = 0) && goalB p m)) ∧ Below w.heap.size w w' := by
  obtain ⟨W, hW, S⟩ := pm_boxes p q m qm w
  have HV := Lib.hid (mvalid_any p q m qm W (hp.to S.bel) hbd (hm.to S.bel) hmb)
  have hmW := Lib.hid (fun W2 (h : Below W.heap.size W W2) => (hm.to S.bel).to h)
  have hpW := Lib.hid (fun W2 (h : Below W.heap.size W W2) => (hp.to S.bel).to h)
  have hok := Lib.hid (fun (h : mixE p m = 0) => mixE_ok.1 h)
  obtain ⟨qa0, qc0, qa1, qc1, qa2, qc2, qa3, qc3⟩ := q
  obtain ⟨ma0, mc0, ma1, mc1, ma2, mc2⟩ := qm
  dsimp only at HV hW S ⊢
  obtain ⟨z, hz⟩ : ∃ z, mixE p m = z := ⟨_, rfl⟩
  rw [hz] at HV hok ⊢
  obtain ⟨⟨r1, f1, r10, r11, r12, -⟩, ⟨r2, f2, r20, r21, r22, r23, -⟩, -⟩ := S.facts
  have SW := Lib.hid S
  clear S hp hm hz
  go_enter Try.func58, Try.ntmps58
  go_wp2_with fail
  clear hW
  with_reducible refine HV.out.mono ?_
  rintro e w1 ⟨rfl, hb1⟩
  have S1 := Lib.hid (SW.out.call hb1)
  have hm1 := hmW.out w1 hb1
  have hp1 := hpW.out w1 hb1
  clear hb1 HV SW hmW hpW r1 f1 r10 r11 r12 r2 f2 r20 r21 r22 r23
  cases h0 : (z == 0) with
  | false =>
    have hd : Hid (decide (z = 0) = false) := Lib.hid (decide_eq_false (fun h => by rw [h] at h0; cases h0))
    clear hm1 hp1 hok
    go_wp2
    go_ret
    exact ⟨by rw [hd.out]; rfl, S1.out.bel⟩
  | true =>
    obtain rfl : z = 0 := beq_iff_eq.1 h0
    have ho := hok.out rfl
    have hps := prob_small ho.pr
    have l0 := ho.lb
    have l1 := ho.ln
    have HE := Lib.hid (equalI_any ma0 qa2 mc0 qc2 m.base p.tgt w1 w1.heap.size hm1.r0 hp1.r2 (by omega) (by omega))
    have HN := Lib.hid (fun w' (hd : Drawn w1 w') => cfg_any ma1 mc1 m.next w' w1.heap.size (hm1.r1.drawn hd) (by omega))
    have hgb := Lib.hid (show goalB p m = (decide (m.base = p.tgt) && !anyB (fun i => decide (0 ≤ gi m.next i)) m.next.length) by rw [any_goal]; rfl)
    obtain ⟨b, hb⟩ : ∃ b, decide (m.base = p.tgt) = b := ⟨_, rfl⟩
    obtain ⟨n, hn⟩ : ∃ n, anyB (fun i => decide (0 ≤ gi m.next i)) m.next.length = n := ⟨_, rfl⟩
    rw [hb] at HE hgb
    rw [hn] at HN hgb
    obtain ⟨⟨r1, f1, r10, r11, r12, -⟩, ⟨r2, f2, r20, r21, r22, r23, -⟩, -⟩ := S1.out.facts
    clear hm1 hp1 hok h0 ho hps l0 l1 hb hn
    go_wp2_with fail
    with_reducible refine HE.out.mono ?_
    rintro e w2 ⟨rfl, hd2⟩
    have S2 := Lib.hid (S1.out.drawn hd2)
    have HN2 := Lib.hid (HN.out w2 hd2)
    clear hd2 HE HN r1 f1 r10 r11 r12 r2 f2 r20 r21 r22 r23
    obtain ⟨⟨r1, f1, r10, r11, r12, -⟩, ⟨r2, f2, r20, r21, r22, r23, -⟩, -⟩ := S2.out.facts
    cases b with
    | false =>
      go_wp2
      go_ret
      exact ⟨by rw [hgb.out]; rfl, S2.out.bel⟩
    | true =>
      go_wp2_with fail
      with_reducible refine HN2.out.mono ?_
      rintro e w3 ⟨rfl, rfl⟩
      go_wp2
      go_ret
      exact ⟨by rw [hgb.out]; cases n <;> rfl, S2.out.bel⟩
end Go.Proofs.Ytickckehhfdoeaa

namespace Go.Proofs.Ytickckehhfdoeaa
open Go.RowKit Go.Sv
/-- what Blame hands back: a mix, a conflict, an error -/
def BlaR (w : World) (E : Int) (v : Value) (w' : World) : Prop := Below w.heap.size w w' ∧ ∃ (a0 a1 a2 : Option Addr) (n0 k0 n1 k1 n2 k2 : Nat) (z0 z1 z2 : Int), v = .tuple #[.agg #[.slice a0 n0 k0, .slice a1 n1 k1, .slice a2 n2 k2], .agg #[.int .i64 z0, .int .i64 z1, .int .i64 z2], .int .i64 E]
/-- Robust's answer out of Blame's error -/
def robA (E : Int) : Value := .tuple #[.bool (decide (E = 15)), .int .i64 (if E = 0 ∨ E = 15 then 0 else E)]
set_option maxHeartbeats 4000000 in
set_option maxRecDepth 100000 in
theorem robust_of (p : Prob) (q : ProbP) (m : Mx) (qm : MixP) (E : Int) (w : World) (HB : ∀ W, Below w.heap.size w W → Calls Try.prog 32 #[probV p q, mixV m qm] W (Ret (BlaR W E))) :
    Calls Try.prog 14 #[probV p q, mixV m qm] w fun e w' => e = .returned (robA E) ∧ Below w.heap.size w w' := by
  obtain ⟨W, hW, S⟩ := pm_boxes p q m qm w
  have HV := Lib.hid (HB W S.bel)
  obtain ⟨qa0, qc0, qa1, qc1, qa2, qc2, qa3, qc3⟩ := q
  obtain ⟨ma0, mc0, ma1, mc1, ma2, mc2⟩ := qm
  dsimp only at HV hW S ⊢
  obtain ⟨⟨r1, f1, r10, r11, r12, -⟩, ⟨r2, f2, r20, r21, r22, r23, -⟩, -⟩ := S.facts
  have SW := Lib.hid S
  clear S HB
  go_enter Try.func14, Try.ntmps14
  go_wp2_with fail
  clear hW
  with_reducible refine HV.out.mono ?_
  rintro e w1 ⟨_, rfl, hb1, a0, a1, a2, b0, k0, b1, k1, b2, k2, z0, z1, z2, rfl⟩
  have S1 := Lib.hid (SW.out.call hb1)
  obtain ⟨W2, hW2, S2, hb2⟩ : ∃ W2, (w1.alloc (.cells #[.slice a0 b0 k0, .slice a1 b1 k1, .slice a2 b2 k2] 56)).alloc (.cells #[.int .i64 z0, .int .i64 z1, .int .i64 z2] 80) = W2 ∧ Below w.heap.size w W2 ∧ True := ⟨_, rfl, (S1.out.bel.alloc S1.out.bel.size _).alloc (by have := S1.out.bel.size; simp; omega) _, trivial⟩
  replace S2 := Lib.hid S2
  clear hb1 HV SW r1 f1 r10 r11 r12 r2 f2 r20 r21 r22 r23 hb2 S1
  cases h0 : (E == 0) with
  | true =>
    obtain rfl : E = 0 := beq_iff_eq.1 h0
    clear h0
    go_wp2
    go_ret2
    exact ⟨rfl, S2.out⟩
  | false =>
    have n0 : E ≠ 0 := fun h => by rw [h] at h0; cases h0
    cases h1 : (E == 15) with
    | true =>
      obtain rfl : E = 15 := beq_iff_eq.1 h1
      clear h1 h0 n0
      go_wp2
      go_ret2
      exact ⟨rfl, S2.out⟩
    | false =>
      have n1 : E ≠ 15 := fun h => by rw [h] at h1; cases h1
      have e1 : Hid (decide (E = 15) = false) := Lib.hid (decide_eq_false n1)
      have e2 : Hid ((if E = 0 ∨ E = 15 then 0 else E) = E) := Lib.hid (if_neg (fun h => h.elim n0 n1))
      clear n0 n1
      go_wp2
      go_ret2
      exact ⟨by unfold robA; rw [e1.out, e2.out]; rfl, S2.out⟩
end Go.Proofs.Ytickckehhfdoeaa

namespace Go.Sv
open Go.RowKit
/-- the open upgrades among the first j services -/
def opN (m : Mx) (j : Nat) : List Nat := (List.range j).filter fun i => decide (0 ≤ gi m.next i)
theorem opN_all (m : Mx) : opN m m.next.length = openL m := rfl
theorem opN_yes {m : Mx} {j : Nat} (h : 0 ≤ gi m.next j) : opN m (j + 1) = opN m j ++ [j] := by
  unfold opN
  rw [List.range_succ, List.filter_append]
  simp [h]
theorem opN_no {m : Mx} {j : Nat} (h : ¬ 0 ≤ gi m.next j) : opN m (j + 1) = opN m j := by
  unfold opN
  rw [List.range_succ, List.filter_append]
  simp [h]
theorem opN_len (m : Mx) (j : Nat) : (opN m j).length ≤ j := by
  unfold opN
  exact Nat.le_trans (List.length_filter_le _ _) (by simp)
theorem openL_lt {m : Mx} {i : Nat} (h : i ∈ openL m) : i < m.next.length ∧ 0 ≤ gi m.next i := by
  unfold openL at h
  obtain ⟨a, b⟩ := List.mem_filter.1 h
  exact ⟨List.mem_range.1 a, of_decide_eq_true b⟩
/-- an open upgrade, by its place -/
def opA (m : Mx) (j : Nat) : Nat := (openL m).getD j 0
theorem opA_mem {m : Mx} {j : Nat} (h : j < (openL m).length) : opA m j ∈ openL m := by simp [opA, h]
theorem opA_get {m : Mx} {j : Nat} (h : j < (openL m).length) : (openL m)[j]? = some (opA m j) := by simp [opA, h]
theorem abF_snoc : ∀ (l : List Nat) (i b k : Nat) (n : List Int), abF (l ++ [i]) b k n = (if k.testBit (b + l.length) then (abF l b k n).set i (-1) else abF l b k n)
  | [], i, b, k, n => rfl
  | x :: l, i, b, k, n => by
    rw [List.cons_append, abF, abF_snoc l i (b + 1) k _, abF, List.length_cons, show b + 1 + l.length = b + (l.length + 1) by omega]
/-- the open upgrades whose places are less than j, closed where k has a bit -/
def abN (m : Mx) (k j : Nat) : List Int := abF ((openL m).take j) 0 k m.next
def abX (m : Mx) (k j : Nat) : Mx := { m with next := abN m k j }
theorem abN_next {m : Mx} {k j : Nat} (h : j < (openL m).length) : abN m k (j + 1) = if k.testBit j then (abN m k j).set (opA m j) (-1) else abN m k j := by
  unfold abN
  rw [List.take_add_one, opA_get h, Option.toList_some, abF_snoc, List.length_take, Nat.min_eq_left (Nat.le_of_lt h), Nat.zero_add]
theorem abN_yes {m : Mx} {k j : Nat} (h : j < (openL m).length) (hb : k.testBit j = true) : abN m k (j + 1) = (abN m k j).set (opA m j) (-1) := by rw [abN_next h, if_pos hb]
theorem abN_no {m : Mx} {k j : Nat} (h : j < (openL m).length) (hb : k.testBit j = false) : abN m k (j + 1) = abN m k j := by rw [abN_next h, if_neg (by rw [hb]; decide)]
theorem abX_all (m : Mx) (k : Nat) : abX m k (openL m).length = abM m k := by unfold abX abN abM; rw [List.take_length]
theorem abF_len : ∀ (l : List Nat) (b k : Nat) (n : List Int), (abF l b k n).length = n.length
  | [], _, _, _ => rfl
  | i :: l, b, k, n => by
    rw [abF, abF_len l]
    split <;> simp
theorem abN_len (m : Mx) (k j : Nat) : (abN m k j).length = m.next.length := abF_len ..
theorem abF_gi : ∀ (l : List Nat) (b k : Nat) (n : List Int) (i : Nat), gi (abF l b k n) i = gi n i ∨ gi (abF l b k n) i = -1
  | [], _, _, _, _ => Or.inl rfl
  | x :: l, b, k, n, i => by
    rw [abF]
    rcases abF_gi l (b + 1) k (if k.testBit b = true then n.set x (-1) else n) i with h | h
    · rw [h]
      split
      · by_cases e : i = x
        · by_cases hx : x < n.length
          · right; rw [e, gi_set_same hx]
          · left; rw [List.set_eq_of_length_le (by omega)]
        · left; exact gi_set_ne e
      · exact Or.inl rfl
    · exact Or.inr h
/-- what aborts lead to is a valid mix -/
theorem abX_ok {p : Prob} {m : Mx} (h : MOk p m) (k j : Nat) : MOk p (abX m k j) := by
  have hg := fun i => abF_gi ((openL m).take j) 0 k m.next i
  refine ⟨h.pr, h.lb, (abN_len ..).trans h.ln, h.lh, fun i hi => ?_, fun i hi hs => ?_, h.ns⟩
  · obtain ⟨a, b, c, d, e⟩ := h.sv i hi
    show 0 ≤ gi m.base i ∧ gi m.base i < gi p.vs i ∧ -1 ≤ gi (abN m k j) i ∧ gi (abN m k j) i < gi p.vs i ∧ gi m.base i ≠ gi (abN m k j) i
    rcases hg i with g | g
    · unfold abN; rw [g]; exact ⟨a, b, c, d, e⟩
    · unfold abN; rw [g]; exact ⟨a, b, by omega, by omega, by omega⟩
  · obtain ⟨a, b⟩ := h.st i hi hs
    refine ⟨a, fun u hu => b u ?_⟩
    unfold run at hu ⊢
    have hn : gi (abX m k j).next (tab p.tabs i).src.toNat = gi m.next (tab p.tabs i).src.toNat ∨ gi (abX m k j).next (tab p.tabs i).src.toNat = -1 := hg _
    rcases hn with g | g
    · rw [g] at hu; exact hu
    · rw [g, if_neg (by omega), Nat.or_zero] at hu
      rw [Nat.testBit_or]
      have hu : (2 ^ (gi m.base (tab p.tabs i).src.toNat).toNat).testBit u = true := hu
      rw [hu]; rfl
theorem abM_ok {p : Prob} {m : Mx} (h : MOk p m) (k : Nat) : MOk p (abM m k) := by rw [← abX_all]; exact abX_ok h k _
theorem abM_h8 {m : Mx} (h : H8 m) (k : Nat) : H8 (abM m k) := h
/-- the first k mixes -/
def abK (m : Mx) (k : Nat) : List Mx := (List.range k).map (abM m)
theorem abK_len (m : Mx) (k : Nat) : (abK m k).length = k := by simp [abK]
theorem abK_next (m : Mx) (k : Nat) : abK m (k + 1) = abK m k ++ [abM m k] := by simp [abK, List.range_succ]
theorem abK_all (m : Mx) : abK m (2 ^ (openL m).length) = abL m := rfl
theorem abL_at {m : Mx} {k : Nat} (h : k < 2 ^ (openL m).length) : mxAt (abL m) k = abM m k := by
  unfold mxAt abL
  simp [h]
theorem abL_len (m : Mx) : (abL m).length = 2 ^ (openL m).length := by simp [abL]
theorem open_6 {p : Prob} {m : Mx} (h : MOk p m) (h6 : p.vs.length ≤ 6) : (openL m).length ≤ 6 := by
  have := opN_len m m.next.length
  rw [opN_all] at this
  have := h.ln
  omega
/-! ### Blame -/
/-- the first mix with conflicts among those from k on -/
def blmE (p : Prob) (m : Mx) : Int := if robB p m = true then 15 else 0
theorem rob_all {p : Prob} {m : Mx} (h : ∀ k, k < 2 ^ (openL m).length → (foundL p (abM m k)).length = 0) : robB p m = true := by
  unfold robB abL
  rw [List.all_eq_true]
  intro x hx
  obtain ⟨k, hk, rfl⟩ := List.mem_map.1 hx
  rw [List.isEmpty_iff]
  exact List.eq_nil_of_length_eq_zero (h k (List.mem_range.1 hk))
theorem rob_not {p : Prob} {m : Mx} {k : Nat} (hk : k < 2 ^ (openL m).length) (h : 0 < (foundL p (abM m k)).length) : robB p m = false := by
  unfold robB abL
  rw [List.all_eq_false]
  refine ⟨abM m k, List.mem_map.2 ⟨k, List.mem_range.2 hk, rfl⟩, ?_⟩
  rw [List.isEmpty_iff]
  intro e
  rw [e] at h
  exact absurd h (by decide)
/-! ### Start -/
theorem now_in {p : Prob} (h : probE p = 0) {i : Nat} (hi : i < p.vs.length) : 0 ≤ gi p.now i ∧ gi p.now i < gi p.vs i ∧ 0 ≤ gi p.tgt i ∧ gi p.tgt i < gi p.vs i := by
  by_cases hb : svcBad p i
  · unfold probE at h
    split at h
    · cases h
    · split at h
      · cases h
      · split at h
        · cases h
        · rename_i hn
          exact absurd ⟨i, hi, hb⟩ hn
  · unfold svcBad at hb
    have h1 : win (gi p.now i) (gi p.vs i) = true := by
      cases hw : win (gi p.now i) (gi p.vs i) with
      | true => rfl
      | false => exact absurd (Or.inr (Or.inr (Or.inl hw))) hb
    have h2 : win (gi p.tgt i) (gi p.vs i) = true := by
      cases hw : win (gi p.tgt i) (gi p.vs i) with
      | true => rfl
      | false => exact absurd (Or.inr (Or.inr (Or.inr hw))) hb
    have := win_iff.1 h1
    have := win_iff.1 h2
    omega

def stHd (p : Prob) (i : Nat) : Int := if stored (tab p.tabs i) = true then ((2 ^ (gi p.now (tab p.tabs i).src.toNat).toNat : Nat) : Int) else 0
/-- the first mix -/
def stMx (p : Prob) : Mx := ⟨p.now, List.replicate p.now.length (-1), (List.range p.tabs.length).map (stHd p)⟩
def stHl (p : Prob) (i : Nat) : List Int := (List.range p.tabs.length).map fun k => if k < i then stHd p k else 0
theorem stHl_len (p : Prob) (i : Nat) : (stHl p i).length = p.tabs.length := by simp [stHl]
theorem stHl_gi {p : Prob} {i k : Nat} (h : k < p.tabs.length) : gi (stHl p i) k = if k < i then stHd p k else 0 := gi_map h
theorem stHl_all (p : Prob) : stHl p p.tabs.length = (stMx p).held := by
  refine gi_ext (by simp [stHl, stMx]) fun k hk => ?_
  rw [stHl_len] at hk
  rw [stHl_gi hk, if_pos hk]
  exact (gi_map hk).symm
theorem stHl_next {p : Prob} {i : Nat} (h : i < p.tabs.length) : stHl p (i + 1) = (stHl p i).set i (stHd p i) := by
  refine gi_ext (by simp [stHl]) fun k hk => ?_
  rw [stHl_len] at hk
  rw [stHl_gi hk]
  by_cases e : k = i
  · subst e
    rw [if_pos (by omega), gi_set_same (by rw [stHl_len]; exact h)]
  · rw [gi_set_ne e, stHl_gi hk]
    by_cases c : k < i
    · rw [if_pos c, if_pos (by omega)]
    · rw [if_neg c, if_neg (by omega)]
theorem stHl_skip {p : Prob} {i : Nat} (h : i < p.tabs.length) (hs : stored (tab p.tabs i) = false) : stHl p (i + 1) = stHl p i := by
  have h0 : stHd p i = 0 := by unfold stHd; rw [if_neg (by rw [hs]; decide)]
  refine gi_ext (by simp [stHl]) fun k hk => ?_
  rw [stHl_len] at hk
  rw [stHl_gi hk, stHl_gi hk]
  by_cases e : k = i
  · subst e; rw [if_pos (by omega), if_neg (by omega), h0]
  · by_cases c : k < i
    · rw [if_pos c, if_pos (by omega)]
    · rw [if_neg c, if_neg (by omega)]
end Go.Sv
