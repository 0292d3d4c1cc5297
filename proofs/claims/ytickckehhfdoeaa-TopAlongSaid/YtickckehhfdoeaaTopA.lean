/-
  CONTRACT of mix.Goal.
  Conditions: those that each theorem names.
-/
import Derived.Test.YtickckehhfdoeaaSb7
import Derived.Test.YtickckehhfdoeaaTopP
namespace Go.Proofs.Ytickckehhfdoeaa
open Go.RowKit Go.Sv
theorem gol1_any (v : Int) (w : World) : Calls Try.prog 82 #[.int .i64 v] w fun e w' => e = .returned (.bool (decide (0 ≤ v))) ∧ w = w' := by
  go_enter Try.func82, Try.ntmps82
  go_wp2
  go_ret
  exact ⟨rfl, rfl⟩
def IxG (w : World) (m : List Int) (e : Ending) (w' : World) : Prop := w = w' ∧ ∃ z : Int, e = .returned (.int .i64 z) ∧ decide (0 ≤ z) = anyB (fun i => decide (0 ≤ gi m i)) m.length
set_option maxRecDepth 100000 in
theorem ixg_any (A : Option Addr) (c : Nat) (m : List Int) (w : World) (B : Nat) (ha : Arr w B A m.length (iv m)) (hl : m.length ≤ 1000000) :
    Calls Try.prog 72 #[.slice A m.length c, .func (.func 82) #[] #[]] w (IxG w m) := by
  have HT := Lib.hid (fun v => gol1_any v w)
  replace ha := Lib.hid ha
  go_enter Try.func72, Try.ntmps72
  go_wp2
  go_loop [5, 8] (fun _ s8 => ∃ k : Nat, s8 = .int .i64 k ∧ k ≤ m.length ∧ ∀ j, j < k → decide (0 ≤ gi m j) = false) (fun _ s8 => m.length - (intOf s8).toNat)
  case atStart => exact ⟨0, rfl, Nat.zero_le _, fun j hj => by omega⟩
  case round =>
    obtain ⟨k, rfl, hk, hall⟩ := hrel
    replace hall := Lib.hid hall
    by_cases hlt : k < m.length
    · obtain ⟨b, o, rfl, -, hc⟩ := ha.out (by omega)
      have d := hc k hlt
      unfold iv at d
      obtain ⟨v, hv⟩ : ∃ v, gi m k = v := ⟨_, rfl⟩
      rw [hv] at d
      have HT1 := Lib.hid (HT.out v)
      have jk : (k : Int) < (m.length : Int) := by omega
      clear hc
      cases hq : decide (0 ≤ v) with
      | true =>
        have hF := Lib.hid (anyB_yes (f := fun i => decide (0 ≤ gi m i)) hlt (by rw [hv]; exact hq))
        rw [hq] at HT1
        replace hv := Lib.hid hv
        clear hq
        go_wp2_with fail
        with_reducible refine HT1.out.mono ?_
        rintro e w' ⟨rfl, rfl⟩
        go_wp2
        go_ret
        exact ⟨rfl, _, rfl, by rw [hF.out]; exact decide_eq_true (by omega)⟩
      | false =>
        have hn : Hid (∀ j, j < k + 1 → decide (0 ≤ gi m j) = false) := Lib.hid fun j hj => by
          rcases Nat.lt_succ_iff_lt_or_eq.1 hj with h | h
          · exact hall.out j h
          · rw [h, hv]; exact hq
        rw [hq] at HT1
        replace hv := Lib.hid hv
        clear hq
        go_wp2_with fail
        with_reducible refine HT1.out.mono ?_
        rintro e w' ⟨rfl, rfl⟩
        go_wp2
        go_round
        case rel => exact ⟨k + 1, by go_num, by omega, hn.out⟩
        case measure => simp [intOf]; omega
    · obtain rfl : k = m.length := by omega
      have hF := Lib.hid (anyB_no hall.out)
      clear hlt
      go_wp2
      go_ret
      exact ⟨rfl, _, rfl, by rw [hF.out]; rfl⟩
set_option maxRecDepth 100000 in
theorem cfg_any (A : Option Addr) (c : Nat) (m : List Int) (w : World) (B : Nat) (ha : Arr w B A m.length (iv m)) (hl : m.length ≤ 1000000) :
    Calls Try.prog 45 #[.slice A m.length c, .func (.func 82) #[] #[]] w fun e w' => e = .returned (.bool (anyB (fun i => decide (0 ≤ gi m i)) m.length)) ∧ w = w' := by
  have H := Lib.hid (ixg_any A c m w B ha hl)
  clear ha
  go_enter Try.func45, Try.ntmps45
  go_wp2_with fail
  with_reducible refine H.out.mono ?_
  rintro e w' ⟨rfl, z, rfl, hz⟩
  replace hz := Lib.hid hz
  go_wp2
  go_ret
  exact ⟨by rw [← hz.out]; rfl, rfl⟩
set_option maxHeartbeats 2000000 in
theorem equalI_any (A C : Option Addr) (c d : Nat) (l m : List Int) (w : World) (B : Nat) (ha : Arr w B A l.length (iv l)) (hc : Arr w B C m.length (iv m)) (h1 : l.length ≤ 1000000) (h2 : m.length ≤ 1000000) :
    Calls Try.prog 81 #[.slice A l.length c, .slice C m.length d] w fun e w' => e = .returned (.bool (decide (l = m))) ∧ Drawn w w' := by
  by_cases hlen : l.length = m.length
  · have z1 : ((l.length : Int) != (m.length : Int)) = false := by rw [bne_eq_false_iff_eq]; omega
    replace hlen := Lib.hid hlen
    go_enter Try.func81, Try.ntmps81
    go_wp2
    go_loopw [5, 13] (fun _ i wr => ∃ k : Nat, k ≤ l.length ∧ i = .int .i64 k ∧ (∀ j, j < k → gi l j = gi m j) ∧ Drawn w wr) (fun _ i _ => l.length - (intOf i).toNat)
    case atStart => exact ⟨0, Nat.zero_le _, rfl, fun j hj => by omega, Drawn.refl _⟩
    case round =>
      obtain ⟨k, hk, rfl, hall, hdr⟩ := hrel
      replace hall := Lib.hid hall
      by_cases hlt : k < l.length
      · have hkm : k < m.length := by have := hlen.out; omega
        obtain ⟨b, off, rfl, hb, hcl⟩ := ha (by omega)
        obtain ⟨b2, off2, rfl, hb2, hcm⟩ := hc (by omega)
        have c1 := (hdr.cell _).trans (hcl k hlt)
        have c2 := (hdr.cell _).trans (hcm k hkm)
        unfold iv at c1 c2
        replace hdr := Lib.hid hdr
        replace ha := Lib.hid ha
        replace hc := Lib.hid hc
        clear hcl hcm
        have j1 : (k : Int) < (l.length : Int) := by omega
        have j2 : (k : Int) < (m.length : Int) := by omega
        by_cases hg : gi l k = gi m k
        · have hx : (gi l k != gi m k) = false := by rw [bne_eq_false_iff_eq]; exact hg
          replace hg := Lib.hid hg
          go_wp2
          go_quiet (fail)
          go_wp2
          go_roundw
          case rel => exact ⟨k + 1, by omega, by go_num, fun j hj => by (rcases Nat.lt_succ_iff_lt_or_eq.1 hj with h | h; exact hall.out j h; rw [h]; exact hg.out), hdr.out.drewN _⟩
          case measure => simp [intOf]; omega
        · have hx : (gi l k != gi m k) = true := by rw [bne_iff_ne]; exact hg
          have hne : Hid (decide (l = m) = false) := Lib.hid (by rw [decide_eq_false_iff_not]; intro h; exact hg (by rw [h]))
          clear hg
          go_wp2
          go_quiet (fail)
          go_wp2
          go_ret
          exact ⟨ret_b hne.out.symm, hdr.out.drewN _⟩
      · have heq : Hid (decide (l = m) = true) := Lib.hid (decide_eq_true (gi_ext hlen.out (fun j hj => hall.out j (by omega))))
        obtain rfl : k = l.length := by omega
        replace ha := Lib.hid ha
        replace hc := Lib.hid hc
        go_wp2
        go_ret
        exact ⟨ret_b heq.out.symm, hdr⟩
  · have z1 : ((l.length : Int) != (m.length : Int)) = true := by rw [bne_iff_ne]; omega
    have hne : Hid (decide (l = m) = false) := Lib.hid (by rw [decide_eq_false_iff_not]; intro h; exact hlen (by rw [h]))
    clear hlen
    go_enter Try.func81, Try.ntmps81
    go_wp2
    go_ret
    exact ⟨ret_b hne.out.symm, Drawn.refl _⟩
theorem any_goal {l : List Int} : (!anyB (fun i => decide (0 ≤ gi l i)) l.length) = l.all fun n => decide (n < 0) := by
  cases h : anyB (fun i => decide (0 ≤ gi l i)) l.length with
  | true =>
    unfold anyB at h
    rw [List.any_eq_true] at h
    obtain ⟨i, hi, hd⟩ := h
    have hi := List.mem_range.1 hi
    symm
    rw [Bool.not_true, List.all_eq_false]
    refine ⟨l[i], List.getElem_mem hi, ?_⟩
    have h2 := of_decide_eq_true hd
    simp [gi, hi] at h2
    simp; omega
  | false =>
    unfold anyB at h
    rw [List.any_eq_false] at h
    symm
    rw [Bool.not_false, List.all_eq_true]
    intro x hx
    obtain ⟨i, hi, rfl⟩ := List.getElem_of_mem hx
    have := h i (List.mem_range.2 hi)
    simp [gi, hi] at this
    simpa using this
set_option maxHeartbeats 4000000 in
set_option maxRecDepth 100000 in
theorem goal_any (p : Prob) (q : ProbP) (m : Mx) (qm : MixP) (w : World) (hp : RProb w w.heap.size p q) (hbd : PBd p) (hm : RMix w w.heap.size m qm) (hmb : MBd m qm) :
    Calls Try.prog 58 #[probV p q, mixV m qm] w fun e w' => e = .returned (.bool (decide (mixE p m = 0) && goalB p m)) ∧ Below w.heap.size w w' := by
  obtain ⟨W, hW, S⟩ := pm_boxes p q m qm w
  have HV := Lib.hid (mvalid_any p q m qm W (hp.to S.bel) hbd (hm.to S.bel) hmb)
  have hmW := Lib.hid (fun W2 (h : Below W.heap.size W W2) => (hm.to S.bel).to h)
  have hpW := Lib.hid (fun W2 (h : Below W.heap.size W W2) => (hp.to S.bel).to h)
  have hok := Lib.hid (fun (h : mixE p m = 0) => mixE_ok.1 h)
  obtain ⟨qa0, qc0, qa1, qc1, qa2, qc2, qa3, qc3⟩ := q
  obtain ⟨ma0, mc0, ma1, mc1, ma2, mc2⟩ := qm
  dsimp only at HV hW S ⊢
  obtain ⟨z, hz⟩ : ∃ z, mixE p m = z := ⟨_, rfl⟩
  rw [hz] at HV hok ⊢
  obtain ⟨⟨r1, f1, r10, r11, r12, -⟩, ⟨r2, f2, r20, r21, r22, r23, -⟩, -⟩ := S.facts
  have SW := Lib.hid S
  clear S hp hm hz
  go_enter Try.func58, Try.ntmps58
  go_wp2_with fail
  clear hW
  with_reducible refine HV.out.mono ?_
  rintro e w1 ⟨rfl, hb1⟩
  have S1 := Lib.hid (SW.out.call hb1)
  have hm1 := hmW.out w1 hb1
  have hp1 := hpW.out w1 hb1
  clear hb1 HV SW hmW hpW r1 f1 r10 r11 r12 r2 f2 r20 r21 r22 r23
  cases h0 : (z == 0) with
  | false =>
    have hd : Hid (decide (z = 0) = false) := Lib.hid (decide_eq_false (fun h => by rw [h] at h0; cases h0))
    clear hm1 hp1 hok
    go_wp2
    go_ret
    exact ⟨by rw [hd.out]; rfl, S1.out.bel⟩
  | true =>
    obtain rfl : z = 0 := beq_iff_eq.1 h0
    have ho := hok.out rfl
    have hps := prob_small ho.pr
    have l0 := ho.lb
    have l1 := ho.ln
    have HE := Lib.hid (equalI_any ma0 qa2 mc0 qc2 m.base p.tgt w1 w1.heap.size hm1.r0 hp1.r2 (by omega) (by omega))
    have HN := Lib.hid (fun w' (hd : Drawn w1 w') => cfg_any ma1 mc1 m.next w' w1.heap.size (hm1.r1.drawn hd) (by omega))
    have hgb := Lib.hid (show goalB p m = (decide (m.base = p.tgt) && !anyB (fun i => decide (0 ≤ gi m.next i)) m.next.length) by rw [any_goal]; rfl)
    obtain ⟨b, hb⟩ : ∃ b, decide (m.base = p.tgt) = b := ⟨_, rfl⟩
    obtain ⟨n, hn⟩ : ∃ n, anyB (fun i => decide (0 ≤ gi m.next i)) m.next.length = n := ⟨_, rfl⟩
    rw [hb] at HE hgb
    rw [hn] at HN hgb
    obtain ⟨⟨r1, f1, r10, r11, r12, -⟩, ⟨r2, f2, r20, r21, r22, r23, -⟩, -⟩ := S1.out.facts
    clear hm1 hp1 hok h0 ho hps l0 l1 hb hn
    go_wp2_with fail
    with_reducible refine HE.out.mono ?_
    rintro e w2 ⟨rfl, hd2⟩
    have S2 := Lib.hid (S1.out.drawn hd2)
    have HN2 := Lib.hid (HN.out w2 hd2)
    clear hd2 HE HN r1 f1 r10 r11 r12 r2 f2 r20 r21 r22 r23
    obtain ⟨⟨r1, f1, r10, r11, r12, -⟩, ⟨r2, f2, r20, r21, r22, r23, -⟩, -⟩ := S2.out.facts
    cases b with
    | false =>
      go_wp2
      go_ret
      exact ⟨by rw [hgb.out]; rfl, S2.out.bel⟩
    | true =>
      go_wp2_with fail
      with_reducible refine HN2.out.mono ?_
      rintro e w3 ⟨rfl, rfl⟩
      go_wp2
      go_ret
      exact ⟨by rw [hgb.out]; cases n <;> rfl, S2.out.bel⟩
end Go.Proofs.Ytickckehhfdoeaa
