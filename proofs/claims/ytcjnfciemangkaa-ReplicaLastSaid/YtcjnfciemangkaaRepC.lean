/-
  CONTRACTS of Start, the program's and the reference's.
  Conditions: those that each theorem names.
-/
import Derived.Test.YtcjnfciemangkaaRepB
import Derived.Test.YtcjnfciemangkaaFleetF
namespace Go.Proofs.Ytcjnfciemangkaa
open Go.RowKit Go.Sv

theorem reps_res {w w' : World} {e : TypeId} {v : Value} {l : List Rep} (h : w'.ownsRow w.heap.size e 4 v l.length (rpRow l)) (hb : Below w.heap.size w w') : ∃ A c, v = .slice A l.length c ∧ RRes w l 0 (.tuple #[v, .int .i64 0]) w' := by
  obtain ⟨A, c, rfl, _, _, _⟩ := own_form h
  exact ⟨A, c, rfl, A, c, rfl, own_nil h, own_reps h, hb⟩

set_option maxHeartbeats 4000000 in
theorem start_any (p : Prob) (q : ProbP) (A : Option Addr) (c : Nat) (ns : List Int) (w : World) (hp : RProb w w.heap.size p q) (hbd : PBd p) (hn : Arr w w.heap.size A ns.length (iv ns)) (hnl : ns.length ≤ 9223372036854775807) :
    Calls Try.prog 12 #[probV p q, .slice A ns.length c] w (Ret (RRes w (startL p ns) (startE p ns))) := by
  have hbx : Hid (∀ o : Obj, Below w.heap.size w (w.alloc o)) := Lib.hid fun o => (Below.refl _ _).alloc (Nat.le_refl _) o
  obtain ⟨qa0, qc0, qa1, qc1, qa2, qc2, qa3, qc3⟩ := q
  have hv : Hid (∀ o : Obj, Calls Try.prog 33 #[probV p ⟨qa0, qc0, qa1, qc1, qa2, qc2, qa3, qc3⟩] (w.alloc o) fun e w' => e = .returned (.int .i64 (probE p)) ∧ Below (w.alloc o).heap.size (w.alloc o) w') :=
    Lib.hid fun o => validProblem_any p ⟨qa0, qc0, qa1, qc1, qa2, qc2, qa3, qc3⟩ _ (hp.to (hbx.out o)) hbd
  by_cases g1 : probE p = 0
  case neg =>
    have E := startE_p (ns := ns) g1
    rw [startL_bad (by rw [E]; exact g1), E]
    clear E
    have hx : (probE p != 0) = true := by rw [bne_iff_ne]; exact g1
    clear g1
    replace hp := Lib.hid hp
    replace hn := Lib.hid hn
    go_enter Try.func12, Try.ntmps12
    go_wp2_with (go_at_call 33; refine (hv.out _).mono ?_; rintro e w1 ⟨rfl, hb1⟩; have hb2 := Lib.hid (below_of (hbx.out _) (hbx.out _).size hb1); clear hb1)
    go_ret2
    exact Ret.mk (RRes.none_ hb2.out)
  obtain ⟨z1, z2, z3, z4, z5⟩ := probE_dims g1
  have G1 := Lib.hid g1
  have hx : (probE p != 0) = false := by rw [bne_eq_false_iff_eq]; exact g1
  clear g1 z5
  by_cases g2 : ns.length = p.vs.length
  case neg =>
    have E := startE_6 G1.out g2
    rw [startL_bad (by rw [E]; omega), E]
    clear E
    have hx2 : ((ns.length : Int) != (p.vs.length : Int)) = true := by rw [bne_iff_ne]; omega
    clear g2 z3 z4
    replace hp := Lib.hid hp
    replace hn := Lib.hid hn
    go_enter Try.func12, Try.ntmps12
    go_wp2_with fail
    refine (hv.out _).mono ?_
    rintro e w1 ⟨rfl, hb1⟩
    rw [G1.out]
    obtain ⟨b0, b1, b2, b3⟩ := box4 (hb1.mono (by simp))
    have hb2 := Lib.hid (below_of (hbx.out _) (hbx.out _).size hb1)
    clear hb1
    go_wp2
    go_ret2
    exact Ret.mk (RRes.none_ hb2.out)
  have hx2 : ((ns.length : Int) != (p.vs.length : Int)) = false := by rw [bne_eq_false_iff_eq]; omega
  have G2 := Lib.hid g2
  have L1 : ns.length ≤ 6 := by omega
  have L2 : ns.length = p.now.length := by omega
  replace L2 := Lib.hid L2
  clear z3 z4 g2
  go_enter Try.func12, Try.ntmps12
  go_wp2_with fail
  refine (hv.out _).mono ?_
  rintro e w1 ⟨rfl, hb1⟩
  rw [G1.out]
  obtain ⟨y0, y1, y2, y3⟩ := box4 (hb1.mono (by simp))
  have hb2 := below_of (hbx.out _) (hbx.out _).size hb1
  have hs1 : w.heap.size < w1.heap.size := by have := hb1.size; simp at this; omega
  clear hb1
  go_wp2
  go_loopw [7, 8, 9, 23, 35] (fun v _ _ i _ wr => ∃ k : Nat, k ≤ ns.length ∧ i = .int .i64 k ∧ (∀ j, j < k → ¬ nsBad ns j) ∧ wr.ownsRow w1.heap.size 40 4 v (repsTo p ns k).length (rpRow (repsTo p ns k)) ∧ Below w1.heap.size w1 wr) (fun _ _ _ i _ _ => ns.length - (intOf i).toNat)
  case atStart => exact ⟨0, Nat.zero_le _, rfl, fun j hj => by omega, World.ownsRow_nil _ _ _ _, Below.refl _ _⟩
  case round =>
    obtain ⟨k, hk, rfl, hall, hown, hbel⟩ := hrel
    have hbw := hb2.trans (hbel.mono hb2.size)
    replace hall := Lib.hid hall
    by_cases hlt : k < ns.length
    · obtain ⟨bn, on, rfl, hbn, hcn⟩ := id (hn (by omega))
      have dn := (hbw.cell (p := ⟨bn, on + k, none⟩) hbn).trans (hcn k hlt)
      unfold iv at dn
      clear hcn
      by_cases c1 : gi ns k < 1
      · have E := startE_7 G1.out G2.out hlt (Or.inl c1)
        have E' := Lib.hid (startL_bad (p := p) (ns := ns) (by rw [E]; omega))
        replace E := Lib.hid E
        replace hown := Lib.hid hown
        replace hn := Lib.hid hn
        go_wp2
        go_ret2
        rw [E.out, E'.out]
        exact Ret.mk (RRes.none_ hbw)
      by_cases c2 : 4 < gi ns k
      · have E := startE_7 G1.out G2.out hlt (Or.inr c2)
        have E' := Lib.hid (startL_bad (p := p) (ns := ns) (by rw [E]; omega))
        replace E := Lib.hid E
        replace hown := Lib.hid hown
        replace hn := Lib.hid hn
        go_wp2
        go_ret2
        rw [E.out, E'.out]
        exact Ret.mk (RRes.none_ hbw)
      have NB : Hid (¬ nsBad ns k) := Lib.hid (by rintro (h | h); exact c1 h; exact c2 h)
      have hlen0 := repsTo_len (p := p) (ns := ns) (k := k) hall.out
      replace hn := Lib.hid hn
      rw [← repsPart_0] at hown
      replace hown := Lib.hid hown
      obtain ⟨wo, hwo⟩ : ∃ wo : World, wo = wr := ⟨_, rfl⟩
      go_wp2
      subst hwo
      go_loopw [7, 35] (fun v i wr => ∃ j : Nat, (j : Int) ≤ gi ns k ∧ i = .int .i64 j ∧ wr.ownsRow w1.heap.size 40 4 v (repsPart p ns k j).length (rpRow (repsPart p ns k j)) ∧ Below w1.heap.size w1 wr) (fun _ i _ => (gi ns k).toNat - (intOf i).toNat)
      case atStart => exact ⟨0, by omega, rfl, hown.out, hbel⟩
      case round =>
        obtain ⟨j, hj, rfl, hown2, hbel2⟩ := hrel
        have hbw2 := hb2.trans (hbel2.mono hb2.size)
        have hs2 := hbel2.size
        by_cases hlt2 : (j : Int) < gi ns k
        · have hj4 : j < 4 := by omega
          obtain ⟨b1, o1, e1, hb1', hc1⟩ := hp.r1 (by have := L2.out; omega)
          dsimp only at e1
          subst e1
          have d1 := (hbw2.cell (p := ⟨b1, o1 + k, none⟩) hb1').trans (hc1 k (by have := L2.out; omega))
          unfold iv at d1
          have jn : (k : Int) < (p.now.length : Int) := by have := L2.out; omega
          have z0 := (hbel2.cell (p := ⟨w.heap.size, 0, none⟩) hs1).trans y0
          have z1 := (hbel2.cell (p := ⟨w.heap.size, 1, none⟩) hs1).trans y1
          have hlen2 := repsPart_len p ns k j
          have PS : Hid (repsPart p ns k (j + 1) = repsPart p ns k j ++ [⟨k, gi p.now k, true, 0⟩]) := Lib.hid (repsPart_succ p ns k j)
          replace hp := Lib.hid hp
          replace hown2 := Lib.hid hown2
          replace hlen2 := Lib.hid hlen2
          clear hc1
          go_wp2_with (at_builtin; refine push_own elRep rfl _ _ rfl w1.heap.size _ (repsPart p ns k j).length (rpRow (repsPart p ns k j)) hown2.out rfl [.int .i64 k, .int .i64 (gi p.now k), .bool true, .int .i64 0] rfl rfl rfl (by rw [hlen2.out]; omega) (by omega) hs2 ?_)
          intro v' w3 hown3 hgr hb3 hs3 _
          have R : Hid (w3.ownsRow w1.heap.size 40 4 v' (repsPart p ns k (j + 1)).length (rpRow (repsPart p ns k (j + 1)))) := Lib.hid (by rw [PS.out, List.length_append, rpRow_snoc]; exact hown3)
          have hb4 := Lib.hid (hbel2.trans hb3)
          clear hown3 hgr hb3 hs3
          go_wp2
          go_roundw
          case rel => exact ⟨j + 1, by omega, by go_num, R.out, hb4.out⟩
          case measure => simp [intOf]; omega
        · have hje : (gi ns k).toNat = j := by omega
          have PE := repsPart_end p ns k
          rw [hje] at PE
          rw [PE] at hown2
          clear PE hje
          replace hp := Lib.hid hp
          replace hown2 := Lib.hid hown2
          go_wp2
          go_roundw
          case rel => exact ⟨k + 1, by omega, by go_num, fun t ht => by (rcases Nat.lt_succ_iff_lt_or_eq.1 ht with h | h; exact hall.out t h; rw [h]; exact NB.out), hown2.out, hbel2⟩
          case measure => simp [intOf]; omega
    · obtain rfl : k = ns.length := by omega
      have E := startE_0 G1.out G2.out hall.out
      have E' := Lib.hid (startL_ok E)
      replace E := Lib.hid E
      have hown' : wr.ownsRow w.heap.size 40 4 _ (repsTo p ns ns.length).length (rpRow (repsTo p ns ns.length)) := ⟨hown.1, by
        rcases hown.2 with h | ⟨g, cap, cur, h1, h2, h3⟩
        · exact Or.inl h
        · exact Or.inr ⟨g, cap, cur, h1, by omega, h3⟩⟩
      obtain ⟨A', c', rfl, hres⟩ := reps_res hown' hbw
      replace hres := Lib.hid hres
      replace hn := Lib.hid hn
      clear hown hown'
      go_wp2
      go_ret2
      rw [E.out, E'.out]
      exact Ret.mk hres.out
set_option maxHeartbeats 4000000 in
theorem rstart_any (p : Prob) (q : ProbP) (A : Option Addr) (c : Nat) (ns : List Int) (w : World) (hp : RProb w w.heap.size p q) (hbd : PBd p) (hn : Arr w w.heap.size A ns.length (iv ns)) (hnl : ns.length ≤ 9223372036854775807) :
    Calls Try.prog 14 #[probV p q, .slice A ns.length c] w (Ret (RRes w (startL p ns) (startE p ns))) := by
  have hbx : Hid (∀ o : Obj, Below w.heap.size w (w.alloc o)) := Lib.hid fun o => (Below.refl _ _).alloc (Nat.le_refl _) o
  obtain ⟨qa0, qc0, qa1, qc1, qa2, qc2, qa3, qc3⟩ := q
  have hv : Hid (∀ o : Obj, Calls Try.prog 34 #[probV p ⟨qa0, qc0, qa1, qc1, qa2, qc2, qa3, qc3⟩] (w.alloc o) fun e w' => e = .returned (.int .i64 (probE p)) ∧ Below (w.alloc o).heap.size (w.alloc o) w') :=
    Lib.hid fun o => rvalidProblem_any p ⟨qa0, qc0, qa1, qc1, qa2, qc2, qa3, qc3⟩ _ (hp.to (hbx.out o)) hbd
  by_cases g1 : probE p = 0
  case neg =>
    have E := startE_p (ns := ns) g1
    rw [startL_bad (by rw [E]; exact g1), E]
    clear E
    have hx : (probE p != 0) = true := by rw [bne_iff_ne]; exact g1
    clear g1
    replace hp := Lib.hid hp
    replace hn := Lib.hid hn
    go_enter Try.func14, Try.ntmps14
    go_wp2_with (go_at_call 34; refine (hv.out _).mono ?_; rintro e w1 ⟨rfl, hb1⟩; have hb2 := Lib.hid (below_of (hbx.out _) (hbx.out _).size hb1); clear hb1)
    go_ret2
    exact Ret.mk (RRes.none_ hb2.out)
  obtain ⟨z1, z2, z3, z4, z5⟩ := probE_dims g1
  have G1 := Lib.hid g1
  have hx : (probE p != 0) = false := by rw [bne_eq_false_iff_eq]; exact g1
  clear g1 z5
  by_cases g2 : ns.length = p.vs.length
  case neg =>
    have E := startE_6 G1.out g2
    rw [startL_bad (by rw [E]; omega), E]
    clear E
    have hx2 : ((ns.length : Int) != (p.vs.length : Int)) = true := by rw [bne_iff_ne]; omega
    clear g2 z3 z4
    replace hp := Lib.hid hp
    replace hn := Lib.hid hn
    go_enter Try.func14, Try.ntmps14
    go_wp2_with fail
    refine (hv.out _).mono ?_
    rintro e w1 ⟨rfl, hb1⟩
    rw [G1.out]
    obtain ⟨b0, b1, b2, b3⟩ := box4 (hb1.mono (by simp))
    have hb2 := Lib.hid (below_of (hbx.out _) (hbx.out _).size hb1)
    clear hb1
    go_wp2
    go_ret2
    exact Ret.mk (RRes.none_ hb2.out)
  have hx2 : ((ns.length : Int) != (p.vs.length : Int)) = false := by rw [bne_eq_false_iff_eq]; omega
  have G2 := Lib.hid g2
  have L1 : ns.length ≤ 6 := by omega
  have L2 : ns.length = p.now.length := by omega
  replace L2 := Lib.hid L2
  clear z3 z4 g2
  go_enter Try.func14, Try.ntmps14
  go_wp2_with fail
  refine (hv.out _).mono ?_
  rintro e w1 ⟨rfl, hb1⟩
  rw [G1.out]
  obtain ⟨y0, y1, y2, y3⟩ := box4 (hb1.mono (by simp))
  have hb2 := below_of (hbx.out _) (hbx.out _).size hb1
  have hs1 : w.heap.size < w1.heap.size := by have := hb1.size; simp at this; omega
  clear hb1
  go_wp2
  go_loop [7] (fun i => ∃ k : Nat, k ≤ ns.length ∧ i = .int .i64 k ∧ (∀ j, j < k → ¬ nsBad ns j)) (fun i => ns.length - (intOf i).toNat)
  case atStart => exact ⟨0, Nat.zero_le _, rfl, fun j hj => by omega⟩
  case round =>
    obtain ⟨k, hk, rfl, hall⟩ := hrel
    replace hall := Lib.hid hall
    by_cases hlt : k < ns.length
    · obtain ⟨bn, on, rfl, hbn, hcn⟩ := id (hn (by omega))
      have dn := (hb2.cell (p := ⟨bn, on + k, none⟩) hbn).trans (hcn k hlt)
      unfold iv at dn
      clear hcn
      by_cases c1 : gi ns k < 1
      · have E := startE_7 G1.out G2.out hlt (Or.inl c1)
        have E' := Lib.hid (startL_bad (p := p) (ns := ns) (by rw [E]; omega))
        replace E := Lib.hid E
        replace hn := Lib.hid hn
        go_wp2
        go_ret2
        rw [E.out, E'.out]
        exact Ret.mk (RRes.none_ hb2)
      by_cases c2 : 4 < gi ns k
      · have E := startE_7 G1.out G2.out hlt (Or.inr c2)
        have E' := Lib.hid (startL_bad (p := p) (ns := ns) (by rw [E]; omega))
        replace E := Lib.hid E
        replace hn := Lib.hid hn
        go_wp2
        go_ret2
        rw [E.out, E'.out]
        exact Ret.mk (RRes.none_ hb2)
      have NB : Hid (¬ nsBad ns k) := Lib.hid (by rintro (h | h); exact c1 h; exact c2 h)
      replace hn := Lib.hid hn
      go_wp2
      go_round
      case rel => exact ⟨k + 1, by omega, by go_num, fun t ht => by (rcases Nat.lt_succ_iff_lt_or_eq.1 ht with h | h; exact hall.out t h; rw [h]; exact NB.out)⟩
      case measure => simp [intOf]; omega
    · obtain rfl : k = ns.length := by omega
      have E := startE_0 G1.out G2.out hall.out
      have E' := Lib.hid (startL_ok E)
      replace E := Lib.hid E
      go_wp2
      go_loopw [8, 9, 10] (fun v i _ wr => ∃ k : Nat, k ≤ ns.length ∧ i = .int .i64 k ∧ wr.ownsRow w1.heap.size 40 4 v (repsTo p ns k).length (rpRow (repsTo p ns k)) ∧ Below w1.heap.size w1 wr) (fun _ i _ _ => ns.length - (intOf i).toNat)
      case atStart => exact ⟨0, Nat.zero_le _, rfl, World.ownsRow_nil _ _ _ _, Below.refl _ _⟩
      case round =>
        obtain ⟨k, hk, rfl, hown, hbel⟩ := hrel
        have hbw := hb2.trans (hbel.mono hb2.size)
        by_cases hlt : k < ns.length
        · obtain ⟨bn, on, rfl, hbn, hcn⟩ := id (hn (by omega))
          have dn0 := hcn k hlt
          unfold iv at dn0
          clear hcn
          have NB := hall.out k hlt
          unfold nsBad at NB
          have c1 : ¬ gi ns k < 1 := fun h => NB (Or.inl h)
          have c2 : ¬ 4 < gi ns k := fun h => NB (Or.inr h)
          clear NB
          have hlen0 := repsTo_len (p := p) (ns := ns) (k := k) (fun i hi => hall.out i (by omega))
          replace hn := Lib.hid hn
          rw [← repsPart_0] at hown
          replace hown := Lib.hid hown
          obtain ⟨wo, hwo⟩ : ∃ wo : World, wo = wr := ⟨_, rfl⟩
          go_wp2
          subst hwo
          go_loopw [8, 10] (fun v i wr => ∃ j : Nat, (j : Int) ≤ gi ns k ∧ i = .int .i64 j ∧ wr.ownsRow w1.heap.size 40 4 v (repsPart p ns k j).length (rpRow (repsPart p ns k j)) ∧ Below w1.heap.size w1 wr) (fun _ i _ => (gi ns k).toNat - (intOf i).toNat)
          case atStart => exact ⟨0, by omega, rfl, hown.out, hbel⟩
          case round =>
            obtain ⟨j, hj, rfl, hown2, hbel2⟩ := hrel
            have hbw2 := hb2.trans (hbel2.mono hb2.size)
            have dn := (hbw2.cell (p := ⟨bn, on + k, none⟩) hbn).trans dn0
            have hs2 := hbel2.size
            by_cases hlt2 : (j : Int) < gi ns k
            · have hj4 : j < 4 := by omega
              obtain ⟨b1, o1, e1, hb1', hc1⟩ := hp.r1 (by have := L2.out; omega)
              dsimp only at e1
              subst e1
              have d1 := (hbw2.cell (p := ⟨b1, o1 + k, none⟩) hb1').trans (hc1 k (by have := L2.out; omega))
              unfold iv at d1
              have jn : (k : Int) < (p.now.length : Int) := by have := L2.out; omega
              have z0 := (hbel2.cell (p := ⟨w.heap.size, 0, none⟩) hs1).trans y0
              have z1 := (hbel2.cell (p := ⟨w.heap.size, 1, none⟩) hs1).trans y1
              have hlen2 := repsPart_len p ns k j
              have PS : Hid (repsPart p ns k (j + 1) = repsPart p ns k j ++ [⟨k, gi p.now k, true, 0⟩]) := Lib.hid (repsPart_succ p ns k j)
              replace hp := Lib.hid hp
              replace hown2 := Lib.hid hown2
              replace hlen2 := Lib.hid hlen2
              clear hc1
              go_wp2_with (at_builtin; refine push_own elRep rfl _ _ rfl w1.heap.size _ (repsPart p ns k j).length (rpRow (repsPart p ns k j)) hown2.out rfl [.int .i64 k, .int .i64 (gi p.now k), .bool true, .int .i64 0] rfl rfl rfl (by rw [hlen2.out]; omega) (by omega) hs2 ?_)
              intro v' w3 hown3 hgr hb3 hs3 _
              have R : Hid (w3.ownsRow w1.heap.size 40 4 v' (repsPart p ns k (j + 1)).length (rpRow (repsPart p ns k (j + 1)))) := Lib.hid (by rw [PS.out, List.length_append, rpRow_snoc]; exact hown3)
              have hb4 := Lib.hid (hbel2.trans hb3)
              clear hown3 hgr hb3 hs3
              go_wp2
              go_roundw
              case rel => exact ⟨j + 1, by omega, by go_num, R.out, hb4.out⟩
              case measure => simp [intOf]; omega
            · have hje : (gi ns k).toNat = j := by omega
              have PE := repsPart_end p ns k
              rw [hje] at PE
              rw [PE] at hown2
              clear PE hje
              replace hp := Lib.hid hp
              replace hown2 := Lib.hid hown2
              go_wp2
              go_roundw
              case rel => exact ⟨k + 1, by omega, by go_num, hown2.out, hbel2⟩
              case measure => simp [intOf]; omega
        · obtain rfl : k = ns.length := by omega
          have hown' : wr.ownsRow w.heap.size 40 4 _ (repsTo p ns ns.length).length (rpRow (repsTo p ns ns.length)) := ⟨hown.1, by
            rcases hown.2 with h | ⟨g, cap, cur, h1, h2, h3⟩
            · exact Or.inl h
            · exact Or.inr ⟨g, cap, cur, h1, by omega, h3⟩⟩
          obtain ⟨A', c', rfl, hres⟩ := reps_res hown' hbw
          replace hres := Lib.hid hres
          replace hn := Lib.hid hn
          clear hown hown'
          go_wp2
          go_ret2
          rw [E.out, E'.out]
          exact Ret.mk hres.out
end Go.Proofs.Ytcjnfciemangkaa
