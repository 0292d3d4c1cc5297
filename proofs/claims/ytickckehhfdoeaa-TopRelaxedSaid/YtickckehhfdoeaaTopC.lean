/-
  CONTRACT of mix.conflicts.
  Conditions: those that each theorem names.
-/
import Derived.Test.YtickckehhfdoeaaTp1
namespace Go.Sv
open Go.RowKit
def fdA (p : Prob) (m : Mx) (i u k : Nat) : List Cf := if (tab p.tabs i).aware = true then [] else ((List.range k).filter (fun v => (rds p m i).testBit v && !mat (tab p.tabs i).ok u v)).map fun (v : Nat) => ⟨i, u, v⟩
def rdB (p : Prob) (m : Mx) (i u k : Nat) : Bool := (List.range k).any (fun v => (rds p m i).testBit v && mat (tab p.tabs i).ok u v)
theorem fdA_0 (p : Prob) (m : Mx) (i u : Nat) : fdA p m i u 0 = [] := by unfold fdA; split <;> rfl
theorem fdA_same {p : Prob} {m : Mx} {i u k : Nat} (h : ((tab p.tabs i).aware || (!(rds p m i).testBit k || mat (tab p.tabs i).ok u k)) = true) : fdA p m i u (k + 1) = fdA p m i u k := by
  unfold fdA
  split
  · rfl
  · rename_i ha
    have ha : (tab p.tabs i).aware = false := by simpa using ha
    rw [ha, Bool.false_or] at h
    rw [List.range_succ, List.filter_append]
    have : ((rds p m i).testBit k && !mat (tab p.tabs i).ok u k) = false := by
      rcases Bool.or_eq_true _ _ ▸ h with h | h
      · have : (rds p m i).testBit k = false := by simpa using h
        rw [this]; rfl
      · rw [h]; simp
    simp [this]
theorem fdA_more {p : Prob} {m : Mx} {i u k : Nat} (ha : (tab p.tabs i).aware = false) (hr : (rds p m i).testBit k = true) (hm : mat (tab p.tabs i).ok u k = false) : fdA p m i u (k + 1) = fdA p m i u k ++ [⟨i, u, k⟩] := by
  unfold fdA
  rw [ha, if_neg (by decide), if_neg (by decide), List.range_succ, List.filter_append, List.map_append]
  simp [hr, hm]
theorem rdB_succ (p : Prob) (m : Mx) (i u k : Nat) : rdB p m i u (k + 1) = (rdB p m i u k || ((rds p m i).testBit k && mat (tab p.tabs i).ok u k)) := by
  unfold rdB
  rw [List.range_succ, List.any_append]
  simp
def nvN (p : Prob) (i : Nat) : Nat := (gi p.vs (tab p.tabs i).dst.toNat).toNat
theorem fU_no {p : Prob} {m : Mx} {i u : Nat} (h : (wrs p m i).testBit u = false) : foundU p m i u = [] := by unfold foundU; rw [if_pos h]
theorem fU_yes {p : Prob} {m : Mx} {i u : Nat} (h : (wrs p m i).testBit u = true) : foundU p m i u = fdA p m i u (nvN p i) ++ (if ((tab p.tabs i).aware && !rdB p m i u (nvN p i)) = true then [⟨i, u, -1⟩] else []) := by
  unfold foundU fdA rdB nvN
  rw [if_neg (by rw [h]; decide)]
  by_cases ha : (tab p.tabs i).aware = true
  · rw [if_pos ha, if_pos ha, ha, Bool.true_and, List.nil_append]
    split
    · rename_i hh; rw [hh, if_neg (by decide)]
    · rename_i hh
      have hh : ((List.range (gi p.vs (tab p.tabs i).dst.toNat).toNat).any fun v => (rds p m i).testBit v && mat (tab p.tabs i).ok u v) = false := by simpa using hh
      rw [hh, if_pos (by decide)]
  · have ha' : (tab p.tabs i).aware = false := by simpa using ha
    rw [if_neg ha, if_neg ha, ha', Bool.false_and, if_neg (by decide), List.append_nil]
def fd1 (p : Prob) (m : Mx) (i : Nat) : List Cf := (List.range i).flatMap (foundT p m)
def fd2 (p : Prob) (m : Mx) (i u : Nat) : List Cf := fd1 p m i ++ (List.range u).flatMap (foundU p m i)
theorem fd2_0 (p : Prob) (m : Mx) (i : Nat) : fd2 p m i 0 = fd1 p m i := by unfold fd2; simp
theorem fd2_next (p : Prob) (m : Mx) (i u : Nat) : fd2 p m i (u + 1) = fd2 p m i u ++ foundU p m i u := by
  unfold fd2
  rw [List.range_succ, List.flatMap_append]
  simp
theorem fd2_all {p : Prob} {m : Mx} {i n : Nat} (h : (gi p.vs (tab p.tabs i).src.toNat).toNat = n) : fd2 p m i n = fd1 p m (i + 1) := by
  unfold fd2 fd1
  rw [List.range_succ, List.flatMap_append]
  simp [foundT, h]
theorem fdA_len (p : Prob) (m : Mx) (i u k : Nat) : (fdA p m i u k).length ≤ k := by
  unfold fdA
  split
  · simp
  · rw [List.length_map]; exact Nat.le_trans (List.length_filter_le _ _) (by simp)
theorem gi6 {p : Prob} (h : probE p = 0) (j : Nat) : (gi p.vs j).toNat ≤ 6 := by
  by_cases hj : j < p.vs.length
  · have := vs_le h hj; omega
  · have : gi p.vs j = 0 := by simp [gi, hj]
    omega
theorem fU_len {p : Prob} (h : probE p = 0) (m : Mx) (i u : Nat) : (foundU p m i u).length ≤ 7 := by
  have := gi6 h (tab p.tabs i).dst.toNat
  cases hb : (wrs p m i).testBit u with
  | false => rw [fU_no hb]; simp
  | true =>
    rw [fU_yes hb, List.length_append]
    have h1 := fdA_len p m i u (nvN p i)
    unfold nvN at h1
    unfold nvN
    split <;> simp <;> omega
theorem flat_len {α β : Type} (f : α → List β) (c : Nat) : ∀ l : List α, (∀ a, (f a).length ≤ c) → (l.flatMap f).length ≤ l.length * c
  | [], _ => by simp
  | a :: l, h => by
    have := flat_len f c l h
    have := h a
    rw [List.flatMap_cons, List.length_append, List.length_cons, Nat.succ_mul]
    omega
theorem fd2_len {p : Prob} (h : probE p = 0) (m : Mx) (i u : Nat) : (fd2 p m i u).length ≤ i * 42 + u * 7 := by
  unfold fd2 fd1
  rw [List.length_append]
  have a := flat_len (foundU p m i) 7 (List.range u) (fun x => fU_len h m i x)
  have b := flat_len (foundT p m) 42 (List.range i) (fun x => by
    unfold foundT
    have := flat_len (foundU p m x) 7 (List.range (gi p.vs (tab p.tabs x).src.toNat).toNat) (fun y => fU_len h m x y)
    have := gi6 h (tab p.tabs x).src.toNat
    rw [List.length_range] at *
    omega)
  rw [List.length_range] at a b
  omega
end Go.Sv
namespace Go.Proofs.Ytickckehhfdoeaa
open Go.RowKit Go.Sv
def cfC (c : Cf) : Nat → Value
  | 0 => .int .i64 c.table
  | 1 => .int .i64 c.writer
  | _ => .int .i64 c.reader
def cfAt (l : List Cf) (k : Nat) : Cf := l.getD k ⟨0, 0, 0⟩
def cfF (l : List Cf) (k i : Nat) : Value := cfC (cfAt l k) i
def cfRow (l : List Cf) : List Value := rowN 3 l.length (cfF l)
theorem cfAt_lt {l : List Cf} {x : Cf} {k : Nat} (h : k < l.length) : cfAt (l ++ [x]) k = cfAt l k := by simp [cfAt, List.getElem?_append_left h]
theorem cfAt_last {l : List Cf} {x : Cf} : cfAt (l ++ [x]) l.length = x := by simp [cfAt]
theorem cfRow_snoc (l : List Cf) (c : Cf) : cfRow (l ++ [c]) = cfRow l ++ [.int .i64 c.table, .int .i64 c.writer, .int .i64 c.reader] := by
  unfold cfRow
  rw [List.length_append, List.length_singleton, rowN_snoc (f := cfF l) (by decide) (fun k hk i _ => by unfold cfF; rw [cfAt_lt hk])]
  unfold cfF
  rw [cfAt_last]
  rfl
theorem cfRow_get {l : List Cf} {k i : Nat} (hk : k < l.length) (hi : i < 3) : (cfRow l)[k * 3 + i]? = some (cfF l k i) := rowN_get hk hi
theorem elCf : ElemT Try.prog 120 80 (.agg #[.int .i64 0, .int .i64 0, .int .i64 0]) 3 24 := ⟨Try.underlying120, by kernel_rfl, by kernel_rfl, by omega⟩
def LC (W wr : World) (l : List Cf) (v : Value) : Prop := wr.ownsRow W.heap.size 80 3 v l.length (cfRow l)
theorem lc_next {w wr : World} {l l' : List Cf} {c : Cf} {v : Value} (h : wr.ownsRow w.heap.size 80 3 v (l.length + 1) (cfRow l ++ [.int .i64 c.table, .int .i64 c.writer, .int .i64 c.reader])) (he : l' = l ++ [c]) : LC w wr l' v := by
  subst he
  show World.ownsRow _ _ _ _ _ (l ++ [c]).length _
  rw [List.length_append, cfRow_snoc]
  exact h
def OwnC (w : World) (l : List Cf) (v : Value) (w' : World) : Prop := Below w.heap.size w w' ∧ ∃ A c, v = .slice A l.length c ∧ w'.ownsRow w.heap.size 80 3 (.slice A l.length c) l.length (cfRow l)
theorem OwnC.of {w w' : World} {l : List Cf} {v : Value} (h : w'.ownsRow w.heap.size 80 3 v l.length (cfRow l)) (hb : Below w.heap.size w w') : OwnC w l v w' := by
  obtain ⟨A, c, rfl, _⟩ := own_form h
  exact ⟨hb, A, c, rfl, h⟩
end Go.Proofs.Ytickckehhfdoeaa

namespace Go.Sv
open Go.RowKit
/-- the walk's test of a bit -/
theorem wr8 (x u : Nat) (hx : x < 256) : IntKind.u8.wrap ((x : Int) / 2 ^ u) = ((x / 2 ^ u : Nat) : Int) := by
  have : (x : Int) / 2 ^ u = ((x / 2 ^ u : Nat) : Int) := by simp
  rw [this]
  exact back8 (Nat.lt_of_le_of_lt (Nat.div_le_self _ _) hx)
theorem tb8 (x u : Nat) (hx : x < 256) : (x.testBit u = false → (bits .and .u8 ((x : Int) / 2 ^ u) 1 == 0) = true) ∧ (x.testBit u = true → (bits .and .u8 ((x : Int) / 2 ^ u) 1 == 0) = false) := by
  have hlt : x / 2 ^ u < 256 := Nat.lt_of_le_of_lt (Nat.div_le_self _ _) hx
  have h2 := bits_and8 (a := x / 2 ^ u) (b := 1) hlt (by decide)
  have h3 : (((x / 2 ^ u &&& 1 : Nat) : Int) == 0) = !x.testBit u := by
    rw [Nat.testBit_eq_decide_div_mod_eq, Nat.and_one_is_mod]
    generalize x / 2 ^ u = y
    rcases Nat.mod_two_eq_zero_or_one y with h | h <;> rw [h] <;> rfl
  have h4 : (bits .and .u8 ((x : Int) / 2 ^ u) 1 == 0) = !x.testBit u := by
    have e : (x : Int) / 2 ^ u = ((x / 2 ^ u : Nat) : Int) := by simp
    rw [e]
    exact (congrArg (fun z : Int => z == 0) h2).trans h3
  rw [h4]
  exact ⟨fun h => by rw [h]; rfl, fun h => by rw [h]; rfl⟩
end Go.Sv
namespace Go.Proofs.Ytickckehhfdoeaa
open Go.RowKit Go.Sv
theorem own_lt {w : World} {B s n : Nat} {e : TypeId} {v : Value} {xs : List Value} (h : w.ownsRow B e s v n xs) {g : Nat} (hg : w.heap.size ≤ g) : v.ownBlock ≠ some g := by
  rcases h.2 with ⟨rfl, _⟩ | ⟨b, cap, cur, rfl, _, hw, _⟩
  · intro e; cases e
  · intro e
    have e : some b = some g := e
    injection e with e
    have hw : Whole w b _ cur := hw
    have := hw.lt
    omega
structure TBx (w : World) (g : Nat) (v0 v1 v2 v3 v4 v5 : Value) : Prop where
  z : g < w.heap.size
  f : ∀ o : Nat, w.frozen? ⟨g, o, none⟩ = false
  t0 : w.cell? ⟨g, 0, none⟩ = some v0
  t1 : w.cell? ⟨g, 1, none⟩ = some v1
  t2 : w.cell? ⟨g, 2, none⟩ = some v2
  t3 : w.cell? ⟨g, 3, none⟩ = some v3
  t4 : w.cell? ⟨g, 4, none⟩ = some v4
  t5 : w.cell? ⟨g, 5, none⟩ = some v5
theorem TBx.to {w w' : World} {g : Nat} {v0 v1 v2 v3 v4 v5 : Value} (h : TBx w g v0 v1 v2 v3 v4 v5) (hb : Below w.heap.size w w') : TBx w' g v0 v1 v2 v3 v4 v5 :=
  ⟨Nat.lt_of_lt_of_le h.z hb.size, fun o => (hb.frozen (p := ⟨g, o, none⟩) h.z).trans (h.f o), (hb.cell (p := ⟨g, 0, none⟩) h.z).trans h.t0, (hb.cell (p := ⟨g, 1, none⟩) h.z).trans h.t1, (hb.cell (p := ⟨g, 2, none⟩) h.z).trans h.t2,
    (hb.cell (p := ⟨g, 3, none⟩) h.z).trans h.t3, (hb.cell (p := ⟨g, 4, none⟩) h.z).trans h.t4, (hb.cell (p := ⟨g, 5, none⟩) h.z).trans h.t5⟩
theorem TBx.grown {w w' : World} {g : Nat} {row : Option Nat} {v0 v1 v2 v3 v4 v5 : Value} (h : TBx w g v0 v1 v2 v3 v4 v5) (hg : w.grownBy w' row) (hne : row ≠ some g) : TBx w' g v0 v1 v2 v3 v4 v5 :=
  ⟨Nat.lt_of_lt_of_le h.z hg.size, fun o => (hg.frozen_far ⟨g, o, none⟩ h.z (Ne.symm hne)).trans (h.f o), hg.cell h.t0 (Ne.symm hne), hg.cell h.t1 (Ne.symm hne), hg.cell h.t2 (Ne.symm hne), hg.cell h.t3 (Ne.symm hne), hg.cell h.t4 (Ne.symm hne), hg.cell h.t5 (Ne.symm hne)⟩
theorem TBx.push {w w' : World} {g : Nat} {row : Option Nat} {o : Obj} {v0 v1 v2 v3 v4 v5 : Value} (h : TBx w g v0 v1 v2 v3 v4 v5) (hg : (w.alloc o).grownBy w' row) (hne : row ≠ some g) : TBx w' g v0 v1 v2 v3 v4 v5 :=
  (h.to ((Below.refl _ _).alloc (Nat.le_refl _) o)).grown hg hne
theorem ob_push {w : World} {g : Nat} {v v' : Value} (h : v.ownBlock ≠ some g) (hz : g < w.heap.size) (ho : v'.ownBlock = v.ownBlock ∨ v'.ownBlock = some (w.heap.size + 1)) : v'.ownBlock ≠ some g := by
  rcases ho with e | e
  · rw [e]; exact h
  · rw [e]; intro e; injection e with e; omega
set_option maxHeartbeats 8000000 in
set_option maxRecDepth 100000 in
theorem conf_any (p : Prob) (q : ProbP) (m : Mx) (qm : MixP) (w : World) (hp : RProb w w.heap.size p q) (hm : RMix w w.heap.size m qm) (hok : MOk p m) (h8 : H8 m) :
    Calls Try.prog 61 #[probV p q, mixV m qm] w (Ret (OwnC w (foundL p m))) := by
  obtain ⟨W, hW, S⟩ := pm_boxes p q m qm w
  have hsz : w.heap.size + 2 ≤ W.heap.size := by rw [← hW]; simp
  obtain ⟨hv6, ht12, -, -⟩ := prob_small hok.pr
  have HR := Lib.hid (fun (k : Nat) (W2 : World) (h : Below W.heap.size W W2) (hk : k < p.vs.length) => mrun_any m qm k W2 ((hm.to S.bel).to h) (by rw [hok.lb]; exact hk) (by rw [hok.ln]; exact hk) (hok.sv k hk).1 (by have := (hok.sv k hk).2.1; have := vs_le hok.pr hk; omega) (hok.sv k hk).2.2.1 (by have := (hok.sv k hk).2.2.2.1; have := vs_le hok.pr hk; omega))
  have hpW := Lib.hid (fun W2 (h : Below W.heap.size W W2) => (hp.to S.bel).to h)
  have hmW := Lib.hid (fun W2 (h : Below W.heap.size W W2) => (hm.to S.bel).to h)
  have hP0 := Lib.hid (hp.to S.bel)
  have hM0 := Lib.hid (hm.to S.bel)
  obtain ⟨qa0, qc0, qa1, qc1, qa2, qc2, qa3, qc3⟩ := q
  obtain ⟨ma0, mc0, ma1, mc1, ma2, mc2⟩ := qm
  dsimp only at HR hW S ⊢
  obtain ⟨⟨r1, f1, r10, r11, r12, -⟩, ⟨r2, f2, r20, r21, r22, r23, -⟩, -⟩ := S.facts
  have SW := Lib.hid S
  replace hok := Lib.hid hok
  replace h8 := Lib.hid h8
  clear S hp hm
  go_enter Try.func61, Try.ntmps61
  go_wp2
  clear hW r1 f1 r10 r11 r12 r2 f2 r20 r21 r22 r23
  go_loopw [5, 17] (fun v s6 wr => ∃ i : Nat, i ≤ p.tabs.length ∧ s6 = .int .i64 (i : Int) ∧ LC W wr (fd1 p m i) v ∧ Below W.heap.size W wr) (fun _ s6 _ => p.tabs.length - (intOf s6).toNat)
  case atStart => exact ⟨0, Nat.zero_le _, rfl, World.ownsRow_nil _ _ _ _, Below.refl _ _⟩
  case round =>
    obtain ⟨i, hi, rfl, hown, hbel⟩ := hrel
    have T := Lib.hid (SW.out.call hbel)
    obtain ⟨⟨r1, f1, r10, r11, r12, -⟩, ⟨r2, f2, r20, r21, r22, r23, -⟩, -⟩ := T.out.facts
    by_cases hlt : i < p.tabs.length
    · have TF := Lib.hid (tab_facts hok.out.pr hlt)
      obtain ⟨F, hr, hmat⟩ := hP0.out.r3
      obtain ⟨b, off, e4, hb, hc⟩ := hr (by omega)
      dsimp only at e4
      subst e4
      have c0 : wr.cell? ⟨b, off + i * 6, none⟩ = some (.int .i64 (tab p.tabs i).kind) := (hbel.cell (p := ⟨b, off + i * 6, none⟩) hb).trans (hc i hlt 0 (by decide))
      have c1 : wr.cell? ⟨b, off + i * 6 + 1, none⟩ = some (.int .i64 (tab p.tabs i).src) := (hbel.cell (p := ⟨b, off + i * 6 + 1, none⟩) hb).trans (hc i hlt 1 (by decide))
      have c2 : wr.cell? ⟨b, off + i * 6 + 2, none⟩ = some (.int .i64 (tab p.tabs i).dst) := (hbel.cell (p := ⟨b, off + i * 6 + 2, none⟩) hb).trans (hc i hlt 2 (by decide))
      have c3 : wr.cell? ⟨b, off + i * 6 + 3, none⟩ = some (.bool (tab p.tabs i).aware) := (hbel.cell (p := ⟨b, off + i * 6 + 3, none⟩) hb).trans (hc i hlt 3 (by decide))
      have c4 : wr.cell? ⟨b, off + i * 6 + 4, none⟩ = some (.slice (F i).okA (tab p.tabs i).ok.length (F i).okC) := (hbel.cell (p := ⟨b, off + i * 6 + 4, none⟩) hb).trans (hc i hlt 4 (by decide))
      have c5 : wr.cell? ⟨b, off + i * 6 + 5, none⟩ = some (.slice (F i).rwA (tab p.tabs i).rw.length (F i).rwC) := (hbel.cell (p := ⟨b, off + i * 6 + 5, none⟩) hb).trans (hc i hlt 5 (by decide))
      have hbw0 : b < wr.heap.size := Nat.lt_of_lt_of_le hb hbel.size
      have hOK := Lib.hid (hmat i hlt).1
      obtain ⟨a, ha⟩ : ∃ a : Nat, (tab p.tabs i).src = (a : Int) := ⟨(tab p.tabs i).src.toNat, by have := TF.out.s0; omega⟩
      obtain ⟨d, hdd⟩ : ∃ d : Nat, (tab p.tabs i).dst = (d : Int) := ⟨(tab p.tabs i).dst.toNat, by have := TF.out.d0; omega⟩
      have haL : a < p.vs.length := by have := TF.out.s1; omega
      have hdL : d < p.vs.length := by have := TF.out.d1; omega
      have va := vs_le hok.out.pr haL
      have vd := vs_le hok.out.pr hdL
      obtain ⟨nu, hnu⟩ : ∃ n : Nat, gi p.vs a = (n : Int) := ⟨(gi p.vs a).toNat, by omega⟩
      obtain ⟨nv, hnv⟩ : ∃ n : Nat, gi p.vs d = (n : Int) := ⟨(gi p.vs d).toNat, by omega⟩
      have hnu6 : nu ≤ 6 := by omega
      have hnv6 : nv ≤ 6 := by omega
      have hnv1 : 1 ≤ nv := by omega
      have hnu1 : 1 ≤ nu := by omega
      have hol : (tab p.tabs i).ok.length = nu := by have := TF.out.ol; rw [ha, Int.toNat_natCast, hnu] at this; omega
      have hom : ∀ u, u < nu → mlen (tab p.tabs i).ok u = nv := fun u hu => by have := TF.out.om u (by omega); rw [hdd, Int.toNat_natCast, hnv] at this; omega
      have hall2 := Lib.hid (fd2_all (p := p) (m := m) (i := i) (n := nu) (by rw [ha, Int.toNat_natCast, hnu]; omega))
      have hnvN : nvN p i = nv := by unfold nvN; rw [hdd, Int.toNat_natCast, hnv]; omega
      have hfU := Lib.hid (fun u => fU_yes (p := p) (m := m) (i := i) (u := u))
      rw [hnvN] at hfU
      have hfN := Lib.hid (fun u => fU_no (p := p) (m := m) (i := i) (u := u))
      have hfS := Lib.hid (fun u k => fdA_same (p := p) (m := m) (i := i) (u := u) (k := k))
      have hfM := Lib.hid (fun u k => fdA_more (p := p) (m := m) (i := i) (u := u) (k := k))
      have hrS := Lib.hid (fun u k => rdB_succ p m i u k)
      have hrds : rds p m i = run m d := by unfold rds; rw [hdd, Int.toNat_natCast]
      have hwrs : wrs p m i = if stB (tab p.tabs i).kind = true then hd m i else run m a := by unfold wrs Go.Sv.stored; rw [ha, Int.toNat_natCast]
      have hlh := hok.out.lh
      have hA256 : run m a < 256 := run_lt hok.out haL
      have hD256 : run m d < 256 := run_lt hok.out hdL
      have hH256 : hd m i < 256 := hd_lt hok.out hlt
      have hHd := Lib.hid (h8_hd h8.out (k := i) (by rw [hlh]; exact hlt))
      obtain ⟨bv, ov, ev, hbv, hcv⟩ := hP0.out.r0 (by omega)
      have v1 := hcv a haL
      have v2 := hcv d hdL
      obtain ⟨bh, oh, eh, hbh, hch⟩ := hM0.out.r2 (by omega)
      have v3 := hch i (by omega)
      dsimp only at ev eh
      subst ev eh
      unfold iv at v1 v2
      unfold u8v at v3
      rw [hnu] at v1
      rw [hnv] at v2
      rw [hHd.out] at v3
      obtain ⟨⟨oA, oC, rA, rC⟩, hF⟩ : ∃ y, F i = y := ⟨_, rfl⟩
      rw [hF] at c4 c5 hOK
      obtain ⟨x, hx⟩ : ∃ x, wrs p m i = x := ⟨_, rfl⟩
      rw [hx] at hwrs hfU hfN
      obtain ⟨ra, hra⟩ : ∃ x, run m a = x := ⟨_, rfl⟩
      obtain ⟨y, hy⟩ : ∃ x, run m d = x := ⟨_, rfl⟩
      obtain ⟨hh, hhh⟩ : ∃ x, hd m i = x := ⟨_, rfl⟩
      rw [hra] at hwrs hA256
      rw [hy] at hD256
      rw [hhh] at hwrs hH256 v3
      rw [hrds, hy] at hfS hfM hrS
      obtain ⟨⟨kd, sr, ds, aw, ok, rw0⟩, ht⟩ : ∃ t, tab p.tabs i = t := ⟨_, rfl⟩
      rw [ht] at c0 c1 c2 c3 c4 c5 hOK ha hdd hol hom hwrs hfU hfS hfM hrS
      dsimp only at c0 c1 c2 c3 c4 c5 hOK ha hdd hol hom hwrs hfU hfS hfM hrS
      subst ha hdd
      obtain ⟨R, hRa, hRb⟩ := hOK.out
      obtain ⟨bo, oo, eo, hbo, hco⟩ := hRa (by omega)
      subst eo
      rw [hol] at c4
      obtain ⟨sb, hsb⟩ : ∃ sb, stB kd = sb := ⟨_, rfl⟩
      rw [hsb] at hwrs
      obtain ⟨W3, (hW3 : wr.alloc (.cells #[.int .i64 kd, .int .i64 (a : Int), .int .i64 (d : Int), .bool aw, .slice (some ⟨bo, oo, none⟩) nu oC, .slice rA rw0.length rC] 47) = W3), S3, hB3⟩ := fm_boxE T.out 47 [.int .i64 kd, .int .i64 (a : Int), .int .i64 (d : Int), .bool aw, .slice (some ⟨bo, oo, none⟩) nu oC, .slice rA rw0.length rC]
      have hb3 := Lib.hid (hbel.trans (hB3.mono hbel.size))
      have H1 := Lib.hid (HR.out a W3 hb3.out haL)
      rw [hra] at H1
      have HRd := Lib.hid (fun W2 (h : Below W.heap.size W W2) => HR.out d W2 h hdL)
      rw [hy] at HRd
      have H2 := Lib.hid (fun w => mstored_any ⟨kd, a, d, aw, ok, rw0⟩ ⟨some ⟨bo, oo, none⟩, oC, rA, rC⟩ w)
      dsimp only [tabV] at H2
      rw [hol, hsb] at H2
      have hown0 := Lib.hid hown
      replace hbel := Lib.hid hbel
      replace hra := Lib.hid hra
      replace hy := Lib.hid hy
      replace hhh := Lib.hid hhh
      replace hsb := Lib.hid hsb
      replace hx := Lib.hid hx
      replace hF := Lib.hid hF
      replace ht := Lib.hid ht
      replace hnu := Lib.hid hnu
      replace hnv := Lib.hid hnv
      replace hnvN := Lib.hid hnvN
      replace hrds := Lib.hid hrds
      replace hol := Lib.hid hol
      replace hom := Lib.hid hom
      replace hRa := Lib.hid hRa
      replace hRb := Lib.hid hRb
      replace hco := Lib.hid hco
      replace hwrs := Lib.hid hwrs
      replace hlh := Lib.hid hlh
      have jt : (i : Int) < (p.tabs.length : Int) := by omega
      have jv : (a : Int) < (p.vs.length : Int) := by omega
      have jd : (d : Int) < (p.vs.length : Int) := by omega
      have jh : (i : Int) < (m.held.length : Int) := by rw [hlh.out]; omega
      clear hcv hch hc hr hmat hown hOK T
      obtain ⟨⟨zt, ft, t0, t1, t2, t3, t4, t5, -⟩, ⟨s1, h1, s10, s11, s12, -⟩, ⟨s2, h2, s20, s21, s22, s23, -⟩, -⟩ := S3.facts
      replace S3 := Lib.hid S3
      have HX := Lib.hid (fun (x : GrowX W3) => calm_b ((HR.out a (grow W3 x) (hb3.out.trans ((grow_is W3 x).mono hb3.out.size)) haL)))
      have HY := Lib.hid (fun (x : GrowX W3) => calm_b ((HRd.out (grow W3 x) (hb3.out.trans ((grow_is W3 x).mono hb3.out.size)))))
      rw [hra.out] at HX
      go_wp2_with fail
      clear hW3 c0 c1 c2 c3 c4 c5 H1
      refine wp_region_calm (by kernel_rfl) (by kernel_rfl) ?_
      repeat (go_big_quiet_step (first | (go_at_call 62; with_reducible exact HX.out _) | (go_at_call 62; with_reducible exact HY.out _)))
      refine wpQuiet_nil ?_
      intro w4 hw4
      have hb4 := grow_below hw4
      clear hw4 zt ft t0 t1 t2 t3 t4 t5 r1 f1 r10 r11 r12 r2 f2 r20 r21 r22 r23 s1 h1 s10 s11 s12 s2 h2 s20 s21 s22 s23 HX HY
      have S4 := Lib.hid (S3.out.call hb4)
      have hb4' := Lib.hid (hB3.trans (hb4.mono hB3.size))
      clear hb4
      obtain ⟨⟨zt, ft, t0, t1, t2, t3, t4, t5, -⟩, ⟨r1, f1, r10, r11, r12, -⟩, ⟨r2, f2, r20, r21, r22, r23, -⟩, -⟩ := S4.out.facts
      go_wp2_with fail
      with_reducible refine (H2.out w4).mono ?_
      rintro e' w5 ⟨rfl, hb5⟩
      clear zt ft t0 t1 t2 t3 t4 t5 r1 f1 r10 r11 r12 r2 f2 r20 r21 r22 r23
      have S5 := Lib.hid (S4.out.call hb5)
      have hb5' := Lib.hid (hb4'.out.trans (hb5.mono hb4'.out.size))
      have hbW5 := Lib.hid (hbel.out.trans (hb5'.out.mono hbel.out.size))
      have ho5 : Hid (LC W w5 (fd1 p m i) _) := Lib.hid (own_to hown0.out hb5'.out)
      have hob5 := Lib.hid (own_lt hown0.out (Nat.le_refl wr.heap.size))
      have k3 := (hbW5.out.cell (p := ⟨bh, oh + i, none⟩) hbh).trans v3
      clear hb5 H2 hown0
      obtain ⟨⟨zt, ft, t0, t1, t2, t3, t4, t5, -⟩, ⟨r1, f1, r10, r11, r12, -⟩, ⟨r2, f2, r20, r21, r22, r23, -⟩, -⟩ := S5.out.facts
      have hTB5 := Lib.hid (TBx.mk zt ft t0 t1 t2 t3 t4 t5)
      obtain ⟨gB, hgB⟩ : ∃ g, wr.heap.size = g := ⟨_, rfl⟩
      rw [hgB] at hTB5 hob5
      clear zt ft t0 t1 t2 t3 t4 t5
      obtain ⟨zt, ft, t0, t1, t2, t3, t4, t5⟩ := hTB5.out
      have hx256 : x < 256 := by
        rw [hwrs.out]; split <;> assumption
      cases sb
      · have e7 : x = ra := hwrs.out.trans (if_neg (by decide))
        rw [← e7]
        replace e7 := Lib.hid e7
        go_wp2
        rename World => wo
        clear zt ft t0 t1 t2 t3 t4 t5 r1 f1 r10 r11 r12 r2 f2 r20 r21 r22 r23
        go_loopw [5, 40] (fun v s9 wr => ∃ u : Nat, u ≤ nu ∧ s9 = .int .i64 (u : Int) ∧ LC W wr (fd2 p m i u) v ∧ v.ownBlock ≠ some gB ∧ TBx wr gB (.int .i64 kd) (.int .i64 (a : Int)) (.int .i64 (d : Int)) (.bool aw) (.slice (some ⟨bo, oo, none⟩) nu oC) (.slice rA rw0.length rC) ∧ Below W.heap.size W wr) (fun _ s9 _ => nu - (intOf s9).toNat)
        case atStart => exact ⟨0, Nat.zero_le _, rfl, by rw [fd2_0]; exact ho5.out, hob5.out, hTB5.out, hbW5.out⟩
        case round =>
          obtain ⟨u, hu, rfl, hown, hob, hTB, hbel2⟩ := hrel
          have T := Lib.hid (SW.out.call hbel2)
          obtain ⟨zt, ft, t0, t1, t2, t3, t4, t5⟩ := hTB
          have hTB := Lib.hid (TBx.mk zt ft t0 t1 t2 t3 t4 t5)
          obtain ⟨⟨r1, f1, r10, r11, r12, -⟩, ⟨r2, f2, r20, r21, r22, r23, -⟩, -⟩ := T.out.facts
          by_cases hlt2 : u < nu
          · have ju : (u : Int) < (nu : Int) := by omega
            have u8 : (u : Int) ≤ 8 := by omega
            have H3 := Lib.hid (tb8 x u hx256)
            have H7 := wr8 x u hx256
            have hNo := Lib.hid (fun h => (fd2_next p m i u).trans (by rw [hfN.out u h, List.append_nil]))
            have hYes := Lib.hid (fun h => (fd2_next p m i u).trans (by rw [hfU.out u h]))
            obtain ⟨bw, ow, ew, hbw, hcw⟩ := hRb.out u (by rw [hol.out]; exact hlt2) (by rw [hom.out u hlt2]; omega)
            have hrow := hco.out u (by rw [hol.out]; exact hlt2)
            rw [ew, hom.out u hlt2] at hrow
            rw [hom.out u hlt2] at hcw
            have g3 := (hbel2.cell (p := ⟨bo, oo + u, none⟩) hbo).trans hrow
            replace hcw := Lib.hid hcw
            have hLu := Lib.hid (fd2_len hok.out.pr m i u)
            have hF0 := Lib.hid (fdA_0 p m i u)
            have hFl := Lib.hid (fun k => fdA_len p m i u k)
            have hfS2 := Lib.hid (fun k => hfS.out u k)
            have hfM2 := Lib.hid (fun k => hfM.out u k)
            have hrS2 := Lib.hid (fun k => hrS.out u k)
            obtain ⟨L0, hL0⟩ : ∃ L, fd2 p m i u = L := ⟨_, rfl⟩
            rw [hL0] at hown hNo hYes hLu
            have hO := Lib.hid hown
            replace hob := Lib.hid hob
            replace hbel2 := Lib.hid hbel2
            replace hL0 := Lib.hid hL0
            clear hown ew hrow
            cases hxu : x.testBit u with
            | false =>
              have H4 := H3.out.1 hxu
              have hO2 : Hid (LC W wr (fd2 p m i (u + 1)) _) := Lib.hid (by rw [hNo.out hxu]; exact hO.out)
              replace hxu := Lib.hid hxu
              go_wp2
              go_roundw
              case rel => exact ⟨u + 1, by omega, by go_num, hO2.out, hob.out, hTB.out, hbel2.out⟩
              case measure => simp [intOf]; omega
            | true =>
              have H4 := H3.out.2 hxu
              have hYes2 := Lib.hid (hYes.out hxu)
              replace hxu := Lib.hid hxu
              go_wp2
              rename World => wu
              clear zt ft t0 t1 t2 t3 t4 t5 r1 f1 r10 r11 r12 r2 f2 r20 r21 r22 r23 g3 T H4 H7 u8
              go_loopw [5, 11, 54] (fun v s10 s11 wr => ∃ k : Nat, k ≤ nv ∧ s11 = .int .i64 (k : Int) ∧ s10 = .bool (rdB p m i u k) ∧ LC W wr (L0 ++ fdA p m i u k) v ∧ v.ownBlock ≠ some gB ∧ TBx wr gB (.int .i64 kd) (.int .i64 (a : Int)) (.int .i64 (d : Int)) (.bool aw) (.slice (some ⟨bo, oo, none⟩) nu oC) (.slice rA rw0.length rC) ∧ Below W.heap.size W wr) (fun _ _ s11 _ => nv - (intOf s11).toNat)
              case atStart => exact ⟨0, Nat.zero_le _, rfl, rfl, by rw [hF0.out, List.append_nil]; exact hO.out, hob.out, hTB.out, hbel2.out⟩
              case round =>
                clear hO hbel2 hob hTB
                obtain ⟨k, hk, rfl, rfl, hown, hob, hTB, hbel3⟩ := hrel
                have T := Lib.hid (SW.out.call hbel3)
                obtain ⟨zt, ft, t0, t1, t2, t3, t4, t5⟩ := hTB
                have hTB := Lib.hid (TBx.mk zt ft t0 t1 t2 t3 t4 t5)
                replace hob := Lib.hid hob
                obtain ⟨⟨r1, f1, r10, r11, r12, -⟩, ⟨r2, f2, r20, r21, r22, r23, -⟩, -⟩ := T.out.facts
                have hO := Lib.hid hown
                have hLk := Lib.hid (hFl.out k)
                have hBs : W.heap.size ≤ wr.heap.size := hbel3.size
                by_cases hlt3 : k < nv
                · have jk : (k : Int) < (nv : Int) := by omega
                  have hfS3 := Lib.hid (hfS2.out k)
                  have hfM3 := Lib.hid (hfM2.out k)
                  have hrS3 := Lib.hid (hrS2.out k)
                  have H5 := Lib.hid (tb8 y k hD256)
                  have H7 := wr8 y k hD256
                  obtain ⟨rd, hrd⟩ : ∃ rd, rdB p m i u k = rd := ⟨_, rfl⟩
                  obtain ⟨L1, hL1⟩ : ∃ L, fdA p m i u k = L := ⟨_, rfl⟩
                  obtain ⟨mm, hmm⟩ : ∃ b, mat ok u k = b := ⟨_, rfl⟩
                  have hrc := hcw.out k hlt3
                  rw [hrd] at hrS3 ⊢
                  rw [hL1] at hO hfS3 hfM3 hLk
                  rw [hmm] at hrS3 hfS3 hfM3 hrc
                  have g4 := (hbel3.cell (p := ⟨bw, ow + k, none⟩) hbw).trans hrc
                  have k8 : (k : Int) ≤ 8 := by omega
                  replace hbel3 := Lib.hid hbel3
                  replace hrd := Lib.hid hrd
                  replace hL1 := Lib.hid hL1
                  replace hmm := Lib.hid hmm
                  clear hown hrc
                  cases hyk : y.testBit k with
                  | false =>
                    have hO7 : Hid (LC W wr (L0 ++ fdA p m i u (k + 1)) _) := Lib.hid (by rw [hfS3.out (by simp [hyk])]; exact hO.out)
                    have hr7 := Lib.hid (hrS3.out.trans (by rw [hyk, Bool.false_and, Bool.or_false]))
                    have H6 := H5.out.1 hyk
                    replace hyk := Lib.hid hyk
                    go_wp2
                    go_roundw
                    case rel => exact ⟨k + 1, by omega, by go_num, by rw [hr7.out], hO7.out, hob.out, hTB.out, hbel3.out⟩
                    case measure => simp [intOf]; omega
                  | true =>
                    have H6 := H5.out.2 hyk
                    rw [hyk, Bool.true_and] at hrS3
                    have hS4 := Lib.hid (fun (h : (aw || mm) = true) => hfS3.out (by rw [hyk, Bool.not_true, Bool.false_or]; exact h))
                    have hM4 := Lib.hid (fun h1 h2 => hfM3.out h1 hyk h2)
                    replace hyk := Lib.hid hyk
                    clear hfS3 hfM3
                    rcases Bool.eq_false_or_eq_true aw with haw | haw
                    · rw [haw] at t3
                      rcases Bool.eq_false_or_eq_true mm with hmm2 | hmm2
                      · rw [hmm2] at g4
                        rcases Bool.eq_false_or_eq_true rd with hrd2 | hrd2
                        · rw [hrd2]
                          have hr7 : Hid (rdB p m i u (k + 1) = true) := Lib.hid (by rw [hrS3.out, hrd2, hmm2]; rfl)
                          have hO7 : Hid (LC W wr (L0 ++ fdA p m i u (k + 1)) _) := Lib.hid (by rw [hS4.out (by rw [haw, hmm2]; rfl)]; exact hO.out)
                          clear hS4 hM4 hrS3
                          replace haw := Lib.hid haw
                          replace hrd2 := Lib.hid hrd2
                          replace hmm2 := Lib.hid hmm2
                          go_wp2
                          go_roundw
                          case rel => exact ⟨k + 1, by omega, by go_num, by rw [hr7.out], hO7.out, hob.out, hTB.out, hbel3.out⟩
                          case measure => simp [intOf]; omega
                        · rw [hrd2]
                          have hr7 : Hid (rdB p m i u (k + 1) = true) := Lib.hid (by rw [hrS3.out, hrd2, hmm2]; rfl)
                          have hO7 : Hid (LC W wr (L0 ++ fdA p m i u (k + 1)) _) := Lib.hid (by rw [hS4.out (by rw [haw, hmm2]; rfl)]; exact hO.out)
                          clear hS4 hM4 hrS3
                          replace haw := Lib.hid haw
                          replace hrd2 := Lib.hid hrd2
                          replace hmm2 := Lib.hid hmm2
                          go_wp2
                          go_roundw
                          case rel => exact ⟨k + 1, by omega, by go_num, by rw [hr7.out], hO7.out, hob.out, hTB.out, hbel3.out⟩
                          case measure => simp [intOf]; omega
                      · rw [hmm2] at g4
                        rcases Bool.eq_false_or_eq_true rd with hrd2 | hrd2
                        · rw [hrd2]
                          have hr7 : Hid (rdB p m i u (k + 1) = true) := Lib.hid (by rw [hrS3.out, hrd2, hmm2]; rfl)
                          have hO7 : Hid (LC W wr (L0 ++ fdA p m i u (k + 1)) _) := Lib.hid (by rw [hS4.out (by rw [haw, hmm2]; rfl)]; exact hO.out)
                          clear hS4 hM4 hrS3
                          replace haw := Lib.hid haw
                          replace hrd2 := Lib.hid hrd2
                          replace hmm2 := Lib.hid hmm2
                          go_wp2
                          go_roundw
                          case rel => exact ⟨k + 1, by omega, by go_num, by rw [hr7.out], hO7.out, hob.out, hTB.out, hbel3.out⟩
                          case measure => simp [intOf]; omega
                        · rw [hrd2]
                          have hr7 : Hid (rdB p m i u (k + 1) = false) := Lib.hid (by rw [hrS3.out, hrd2, hmm2]; rfl)
                          have hO7 : Hid (LC W wr (L0 ++ fdA p m i u (k + 1)) _) := Lib.hid (by rw [hS4.out (by rw [haw, hmm2]; rfl)]; exact hO.out)
                          clear hS4 hM4 hrS3
                          replace haw := Lib.hid haw
                          replace hrd2 := Lib.hid hrd2
                          replace hmm2 := Lib.hid hmm2
                          go_wp2
                          go_roundw
                          case rel => exact ⟨k + 1, by omega, by go_num, by rw [hr7.out], hO7.out, hob.out, hTB.out, hbel3.out⟩
                          case measure => simp [intOf]; omega
                    · rw [haw] at t3
                      rcases Bool.eq_false_or_eq_true mm with hmm2 | hmm2
                      · rw [hmm2] at g4
                        rcases Bool.eq_false_or_eq_true rd with hrd2 | hrd2
                        · rw [hrd2]
                          have hr7 : Hid (rdB p m i u (k + 1) = true) := Lib.hid (by rw [hrS3.out, hrd2, hmm2]; rfl)
                          have hO7 : Hid (LC W wr (L0 ++ fdA p m i u (k + 1)) _) := Lib.hid (by rw [hS4.out (by rw [haw, hmm2]; rfl)]; exact hO.out)
                          clear hS4 hM4 hrS3
                          replace haw := Lib.hid haw
                          replace hrd2 := Lib.hid hrd2
                          replace hmm2 := Lib.hid hmm2
                          go_wp2
                          go_roundw
                          case rel => exact ⟨k + 1, by omega, by go_num, by rw [hr7.out], hO7.out, hob.out, hTB.out, hbel3.out⟩
                          case measure => simp [intOf]; omega
                        · rw [hrd2]
                          have hr7 : Hid (rdB p m i u (k + 1) = true) := Lib.hid (by rw [hrS3.out, hrd2, hmm2]; rfl)
                          have hO7 : Hid (LC W wr (L0 ++ fdA p m i u (k + 1)) _) := Lib.hid (by rw [hS4.out (by rw [haw, hmm2]; rfl)]; exact hO.out)
                          clear hS4 hM4 hrS3
                          replace haw := Lib.hid haw
                          replace hrd2 := Lib.hid hrd2
                          replace hmm2 := Lib.hid hmm2
                          go_wp2
                          go_roundw
                          case rel => exact ⟨k + 1, by omega, by go_num, by rw [hr7.out], hO7.out, hob.out, hTB.out, hbel3.out⟩
                          case measure => simp [intOf]; omega
                      · rw [hmm2] at g4
                        rcases Bool.eq_false_or_eq_true rd with hrd2 | hrd2
                        · rw [hrd2]
                          have hr7 : Hid (rdB p m i u (k + 1) = true) := Lib.hid (by rw [hrS3.out, hrd2, hmm2]; rfl)
                          have hMo := Lib.hid (hM4.out haw hmm2)
                          clear hS4 hM4 hrS3
                          replace haw := Lib.hid haw
                          replace hrd2 := Lib.hid hrd2
                          replace hmm2 := Lib.hid hmm2
                          go_wp2_with (at_builtin; refine push_own elCf rfl _ _ rfl W.heap.size _ (L0 ++ L1).length (cfRow (L0 ++ L1)) hO.out rfl [.int .i64 (i : Int), .int .i64 (u : Int), .int .i64 (k : Int)] rfl rfl rfl (by have := hLu.out; have := hLk.out; rw [List.length_append]; omega) (by omega) hBs ?_)
                          intro v' w8 hown8 hgr hb8 hs8 hob8
                          have hO8 : Hid (LC W w8 (L0 ++ fdA p m i u (k + 1)) v') := Lib.hid (lc_next (l := L0 ++ L1) (c := ⟨i, u, (k : Int)⟩) (by rw [List.length_append]; exact hown8) (by rw [hMo.out, List.append_assoc]))
                          have hb9 : Hid (Below W.heap.size W w8) := Lib.hid (hbel3.out.trans hb8)
                          have hTB8 := Lib.hid (hTB.out.push hgr hob.out)
                          have hob9 := Lib.hid (ob_push hob.out zt hob8)
                          clear hown8 hgr hb8 hs8 hob8 zt ft t0 t1 t2 t3 t4 t5 r1 f1 r10 r11 r12 r2 f2 r20 r21 r22 r23 g4
                          go_wp2
                          go_roundw
                          case rel => exact ⟨k + 1, by omega, by go_num, by rw [hr7.out], hO8.out, hob9.out, hTB8.out, hb9.out⟩
                          case measure => simp [intOf]; omega
                        · rw [hrd2]
                          have hr7 : Hid (rdB p m i u (k + 1) = false) := Lib.hid (by rw [hrS3.out, hrd2, hmm2]; rfl)
                          have hMo := Lib.hid (hM4.out haw hmm2)
                          clear hS4 hM4 hrS3
                          replace haw := Lib.hid haw
                          replace hrd2 := Lib.hid hrd2
                          replace hmm2 := Lib.hid hmm2
                          go_wp2_with (at_builtin; refine push_own elCf rfl _ _ rfl W.heap.size _ (L0 ++ L1).length (cfRow (L0 ++ L1)) hO.out rfl [.int .i64 (i : Int), .int .i64 (u : Int), .int .i64 (k : Int)] rfl rfl rfl (by have := hLu.out; have := hLk.out; rw [List.length_append]; omega) (by omega) hBs ?_)
                          intro v' w8 hown8 hgr hb8 hs8 hob8
                          have hO8 : Hid (LC W w8 (L0 ++ fdA p m i u (k + 1)) v') := Lib.hid (lc_next (l := L0 ++ L1) (c := ⟨i, u, (k : Int)⟩) (by rw [List.length_append]; exact hown8) (by rw [hMo.out, List.append_assoc]))
                          have hb9 : Hid (Below W.heap.size W w8) := Lib.hid (hbel3.out.trans hb8)
                          have hTB8 := Lib.hid (hTB.out.push hgr hob.out)
                          have hob9 := Lib.hid (ob_push hob.out zt hob8)
                          clear hown8 hgr hb8 hs8 hob8 zt ft t0 t1 t2 t3 t4 t5 r1 f1 r10 r11 r12 r2 f2 r20 r21 r22 r23 g4
                          go_wp2
                          go_roundw
                          case rel => exact ⟨k + 1, by omega, by go_num, by rw [hr7.out], hO8.out, hob9.out, hTB8.out, hb9.out⟩
                          case measure => simp [intOf]; omega
                · obtain rfl : k = nv := by omega
                  obtain ⟨rd, hrd⟩ : ∃ rd, rdB p m i u k = rd := ⟨_, rfl⟩
                  obtain ⟨L1, hL1⟩ : ∃ L, fdA p m i u k = L := ⟨_, rfl⟩
                  have hY := Lib.hid hYes2.out
                  rw [hrd, hL1] at hY
                  rw [hrd]
                  rw [hL1] at hO hLk
                  replace hbel3 := Lib.hid hbel3
                  replace hrd := Lib.hid hrd
                  replace hL1 := Lib.hid hL1
                  clear hown hlt3
                  rcases Bool.eq_false_or_eq_true aw with haw | haw
                  · rw [haw] at t3
                    rcases Bool.eq_false_or_eq_true rd with hrd2 | hrd2
                    · rw [hrd2]
                      have hO7 : Hid (LC W wr (fd2 p m i (u + 1)) _) := Lib.hid (by rw [hY.out, haw, hrd2, if_neg (by decide), List.append_nil]; exact hO.out)
                      clear hY
                      replace haw := Lib.hid haw
                      replace hrd2 := Lib.hid hrd2
                      go_wp2
                      go_roundw
                      case rel => exact ⟨u + 1, by omega, by go_num, hO7.out, hob.out, hTB.out, hbel3.out⟩
                      case measure => simp [intOf]; omega
                    · rw [hrd2]
                      have hMo : Hid (fd2 p m i (u + 1) = L0 ++ (L1 ++ [⟨i, u, -1⟩])) := Lib.hid (by rw [hY.out, haw, hrd2]; rfl)
                      clear hY
                      replace haw := Lib.hid haw
                      replace hrd2 := Lib.hid hrd2
                      go_wp2_with (at_builtin; refine push_own elCf rfl _ _ rfl W.heap.size _ (L0 ++ L1).length (cfRow (L0 ++ L1)) hO.out rfl [.int .i64 (i : Int), .int .i64 (u : Int), .int .i64 (-1)] rfl rfl rfl (by have := hLu.out; have := hLk.out; rw [List.length_append]; omega) (by omega) hBs ?_)
                      intro v' w8 hown8 hgr hb8 hs8 hob8
                      have hO8 : Hid (LC W w8 (fd2 p m i (u + 1)) v') := Lib.hid (lc_next (l := L0 ++ L1) (c := ⟨i, u, (-1)⟩) (by rw [List.length_append]; exact hown8) (by rw [hMo.out, List.append_assoc]))
                      have hb9 : Hid (Below W.heap.size W w8) := Lib.hid (hbel3.out.trans hb8)
                      have hTB8 := Lib.hid (hTB.out.push hgr hob.out)
                      have hob9 := Lib.hid (ob_push hob.out zt hob8)
                      clear hown8 hgr hb8 hs8 hob8 zt ft t0 t1 t2 t3 t4 t5 r1 f1 r10 r11 r12 r2 f2 r20 r21 r22 r23
                      go_wp2
                      go_roundw
                      case rel => exact ⟨u + 1, by omega, by go_num, hO8.out, hob9.out, hTB8.out, hb9.out⟩
                      case measure => simp [intOf]; omega
                  · rw [haw] at t3
                    have hO7 : Hid (LC W wr (fd2 p m i (u + 1)) _) := Lib.hid (by rw [hY.out, haw, Bool.false_and, if_neg (by decide), List.append_nil]; exact hO.out)
                    clear hY
                    replace haw := Lib.hid haw
                    go_wp2
                    go_roundw
                    case rel => exact ⟨u + 1, by omega, by go_num, hO7.out, hob.out, hTB.out, hbel3.out⟩
                    case measure => simp [intOf]; omega
          · obtain rfl : u = nu := by omega
            have hO : Hid (LC W wr (fd1 p m (i + 1)) _) := Lib.hid (hall2.out ▸ hown)
            have hbF := Lib.hid hbel2
            clear hbel2
            clear hown hlt2
            go_wp2
            go_roundw
            case rel => exact ⟨i + 1, by omega, by go_num, hO.out, hbF.out⟩
            case measure => simp [intOf]; omega
      · have e7 : x = hh := hwrs.out.trans (if_pos rfl)
        rw [← e7] at k3
        replace e7 := Lib.hid e7
        go_wp2
        rename World => wo
        clear k3
        clear zt ft t0 t1 t2 t3 t4 t5 r1 f1 r10 r11 r12 r2 f2 r20 r21 r22 r23
        go_loopw [5, 40] (fun v s9 wr => ∃ u : Nat, u ≤ nu ∧ s9 = .int .i64 (u : Int) ∧ LC W wr (fd2 p m i u) v ∧ v.ownBlock ≠ some gB ∧ TBx wr gB (.int .i64 kd) (.int .i64 (a : Int)) (.int .i64 (d : Int)) (.bool aw) (.slice (some ⟨bo, oo, none⟩) nu oC) (.slice rA rw0.length rC) ∧ Below W.heap.size W wr) (fun _ s9 _ => nu - (intOf s9).toNat)
        case atStart => exact ⟨0, Nat.zero_le _, rfl, by rw [fd2_0]; exact ho5.out, hob5.out, hTB5.out, hbW5.out⟩
        case round =>
          obtain ⟨u, hu, rfl, hown, hob, hTB, hbel2⟩ := hrel
          have T := Lib.hid (SW.out.call hbel2)
          obtain ⟨zt, ft, t0, t1, t2, t3, t4, t5⟩ := hTB
          have hTB := Lib.hid (TBx.mk zt ft t0 t1 t2 t3 t4 t5)
          obtain ⟨⟨r1, f1, r10, r11, r12, -⟩, ⟨r2, f2, r20, r21, r22, r23, -⟩, -⟩ := T.out.facts
          by_cases hlt2 : u < nu
          · have ju : (u : Int) < (nu : Int) := by omega
            have u8 : (u : Int) ≤ 8 := by omega
            have H3 := Lib.hid (tb8 x u hx256)
            have H7 := wr8 x u hx256
            have hNo := Lib.hid (fun h => (fd2_next p m i u).trans (by rw [hfN.out u h, List.append_nil]))
            have hYes := Lib.hid (fun h => (fd2_next p m i u).trans (by rw [hfU.out u h]))
            obtain ⟨bw, ow, ew, hbw, hcw⟩ := hRb.out u (by rw [hol.out]; exact hlt2) (by rw [hom.out u hlt2]; omega)
            have hrow := hco.out u (by rw [hol.out]; exact hlt2)
            rw [ew, hom.out u hlt2] at hrow
            rw [hom.out u hlt2] at hcw
            have g3 := (hbel2.cell (p := ⟨bo, oo + u, none⟩) hbo).trans hrow
            replace hcw := Lib.hid hcw
            have hLu := Lib.hid (fd2_len hok.out.pr m i u)
            have hF0 := Lib.hid (fdA_0 p m i u)
            have hFl := Lib.hid (fun k => fdA_len p m i u k)
            have hfS2 := Lib.hid (fun k => hfS.out u k)
            have hfM2 := Lib.hid (fun k => hfM.out u k)
            have hrS2 := Lib.hid (fun k => hrS.out u k)
            obtain ⟨L0, hL0⟩ : ∃ L, fd2 p m i u = L := ⟨_, rfl⟩
            rw [hL0] at hown hNo hYes hLu
            have hO := Lib.hid hown
            replace hob := Lib.hid hob
            replace hbel2 := Lib.hid hbel2
            replace hL0 := Lib.hid hL0
            clear hown ew hrow
            cases hxu : x.testBit u with
            | false =>
              have H4 := H3.out.1 hxu
              have hO2 : Hid (LC W wr (fd2 p m i (u + 1)) _) := Lib.hid (by rw [hNo.out hxu]; exact hO.out)
              replace hxu := Lib.hid hxu
              go_wp2
              go_roundw
              case rel => exact ⟨u + 1, by omega, by go_num, hO2.out, hob.out, hTB.out, hbel2.out⟩
              case measure => simp [intOf]; omega
            | true =>
              have H4 := H3.out.2 hxu
              have hYes2 := Lib.hid (hYes.out hxu)
              replace hxu := Lib.hid hxu
              go_wp2
              rename World => wu
              clear zt ft t0 t1 t2 t3 t4 t5 r1 f1 r10 r11 r12 r2 f2 r20 r21 r22 r23 g3 T H4 H7 u8
              go_loopw [5, 11, 54] (fun v s10 s11 wr => ∃ k : Nat, k ≤ nv ∧ s11 = .int .i64 (k : Int) ∧ s10 = .bool (rdB p m i u k) ∧ LC W wr (L0 ++ fdA p m i u k) v ∧ v.ownBlock ≠ some gB ∧ TBx wr gB (.int .i64 kd) (.int .i64 (a : Int)) (.int .i64 (d : Int)) (.bool aw) (.slice (some ⟨bo, oo, none⟩) nu oC) (.slice rA rw0.length rC) ∧ Below W.heap.size W wr) (fun _ _ s11 _ => nv - (intOf s11).toNat)
              case atStart => exact ⟨0, Nat.zero_le _, rfl, rfl, by rw [hF0.out, List.append_nil]; exact hO.out, hob.out, hTB.out, hbel2.out⟩
              case round =>
                clear hO hbel2 hob hTB
                obtain ⟨k, hk, rfl, rfl, hown, hob, hTB, hbel3⟩ := hrel
                have T := Lib.hid (SW.out.call hbel3)
                obtain ⟨zt, ft, t0, t1, t2, t3, t4, t5⟩ := hTB
                have hTB := Lib.hid (TBx.mk zt ft t0 t1 t2 t3 t4 t5)
                replace hob := Lib.hid hob
                obtain ⟨⟨r1, f1, r10, r11, r12, -⟩, ⟨r2, f2, r20, r21, r22, r23, -⟩, -⟩ := T.out.facts
                have hO := Lib.hid hown
                have hLk := Lib.hid (hFl.out k)
                have hBs : W.heap.size ≤ wr.heap.size := hbel3.size
                by_cases hlt3 : k < nv
                · have jk : (k : Int) < (nv : Int) := by omega
                  have hfS3 := Lib.hid (hfS2.out k)
                  have hfM3 := Lib.hid (hfM2.out k)
                  have hrS3 := Lib.hid (hrS2.out k)
                  have H5 := Lib.hid (tb8 y k hD256)
                  have H7 := wr8 y k hD256
                  obtain ⟨rd, hrd⟩ : ∃ rd, rdB p m i u k = rd := ⟨_, rfl⟩
                  obtain ⟨L1, hL1⟩ : ∃ L, fdA p m i u k = L := ⟨_, rfl⟩
                  obtain ⟨mm, hmm⟩ : ∃ b, mat ok u k = b := ⟨_, rfl⟩
                  have hrc := hcw.out k hlt3
                  rw [hrd] at hrS3 ⊢
                  rw [hL1] at hO hfS3 hfM3 hLk
                  rw [hmm] at hrS3 hfS3 hfM3 hrc
                  have g4 := (hbel3.cell (p := ⟨bw, ow + k, none⟩) hbw).trans hrc
                  have k8 : (k : Int) ≤ 8 := by omega
                  replace hbel3 := Lib.hid hbel3
                  replace hrd := Lib.hid hrd
                  replace hL1 := Lib.hid hL1
                  replace hmm := Lib.hid hmm
                  clear hown hrc
                  cases hyk : y.testBit k with
                  | false =>
                    have hO7 : Hid (LC W wr (L0 ++ fdA p m i u (k + 1)) _) := Lib.hid (by rw [hfS3.out (by simp [hyk])]; exact hO.out)
                    have hr7 := Lib.hid (hrS3.out.trans (by rw [hyk, Bool.false_and, Bool.or_false]))
                    have H6 := H5.out.1 hyk
                    replace hyk := Lib.hid hyk
                    go_wp2
                    go_roundw
                    case rel => exact ⟨k + 1, by omega, by go_num, by rw [hr7.out], hO7.out, hob.out, hTB.out, hbel3.out⟩
                    case measure => simp [intOf]; omega
                  | true =>
                    have H6 := H5.out.2 hyk
                    rw [hyk, Bool.true_and] at hrS3
                    have hS4 := Lib.hid (fun (h : (aw || mm) = true) => hfS3.out (by rw [hyk, Bool.not_true, Bool.false_or]; exact h))
                    have hM4 := Lib.hid (fun h1 h2 => hfM3.out h1 hyk h2)
                    replace hyk := Lib.hid hyk
                    clear hfS3 hfM3
                    rcases Bool.eq_false_or_eq_true aw with haw | haw
                    · rw [haw] at t3
                      rcases Bool.eq_false_or_eq_true mm with hmm2 | hmm2
                      · rw [hmm2] at g4
                        rcases Bool.eq_false_or_eq_true rd with hrd2 | hrd2
                        · rw [hrd2]
                          have hr7 : Hid (rdB p m i u (k + 1) = true) := Lib.hid (by rw [hrS3.out, hrd2, hmm2]; rfl)
                          have hO7 : Hid (LC W wr (L0 ++ fdA p m i u (k + 1)) _) := Lib.hid (by rw [hS4.out (by rw [haw, hmm2]; rfl)]; exact hO.out)
                          clear hS4 hM4 hrS3
                          replace haw := Lib.hid haw
                          replace hrd2 := Lib.hid hrd2
                          replace hmm2 := Lib.hid hmm2
                          go_wp2
                          go_roundw
                          case rel => exact ⟨k + 1, by omega, by go_num, by rw [hr7.out], hO7.out, hob.out, hTB.out, hbel3.out⟩
                          case measure => simp [intOf]; omega
                        · rw [hrd2]
                          have hr7 : Hid (rdB p m i u (k + 1) = true) := Lib.hid (by rw [hrS3.out, hrd2, hmm2]; rfl)
                          have hO7 : Hid (LC W wr (L0 ++ fdA p m i u (k + 1)) _) := Lib.hid (by rw [hS4.out (by rw [haw, hmm2]; rfl)]; exact hO.out)
                          clear hS4 hM4 hrS3
                          replace haw := Lib.hid haw
                          replace hrd2 := Lib.hid hrd2
                          replace hmm2 := Lib.hid hmm2
                          go_wp2
                          go_roundw
                          case rel => exact ⟨k + 1, by omega, by go_num, by rw [hr7.out], hO7.out, hob.out, hTB.out, hbel3.out⟩
                          case measure => simp [intOf]; omega
                      · rw [hmm2] at g4
                        rcases Bool.eq_false_or_eq_true rd with hrd2 | hrd2
                        · rw [hrd2]
                          have hr7 : Hid (rdB p m i u (k + 1) = true) := Lib.hid (by rw [hrS3.out, hrd2, hmm2]; rfl)
                          have hO7 : Hid (LC W wr (L0 ++ fdA p m i u (k + 1)) _) := Lib.hid (by rw [hS4.out (by rw [haw, hmm2]; rfl)]; exact hO.out)
                          clear hS4 hM4 hrS3
                          replace haw := Lib.hid haw
                          replace hrd2 := Lib.hid hrd2
                          replace hmm2 := Lib.hid hmm2
                          go_wp2
                          go_roundw
                          case rel => exact ⟨k + 1, by omega, by go_num, by rw [hr7.out], hO7.out, hob.out, hTB.out, hbel3.out⟩
                          case measure => simp [intOf]; omega
                        · rw [hrd2]
                          have hr7 : Hid (rdB p m i u (k + 1) = false) := Lib.hid (by rw [hrS3.out, hrd2, hmm2]; rfl)
                          have hO7 : Hid (LC W wr (L0 ++ fdA p m i u (k + 1)) _) := Lib.hid (by rw [hS4.out (by rw [haw, hmm2]; rfl)]; exact hO.out)
                          clear hS4 hM4 hrS3
                          replace haw := Lib.hid haw
                          replace hrd2 := Lib.hid hrd2
                          replace hmm2 := Lib.hid hmm2
                          go_wp2
                          go_roundw
                          case rel => exact ⟨k + 1, by omega, by go_num, by rw [hr7.out], hO7.out, hob.out, hTB.out, hbel3.out⟩
                          case measure => simp [intOf]; omega
                    · rw [haw] at t3
                      rcases Bool.eq_false_or_eq_true mm with hmm2 | hmm2
                      · rw [hmm2] at g4
                        rcases Bool.eq_false_or_eq_true rd with hrd2 | hrd2
                        · rw [hrd2]
                          have hr7 : Hid (rdB p m i u (k + 1) = true) := Lib.hid (by rw [hrS3.out, hrd2, hmm2]; rfl)
                          have hO7 : Hid (LC W wr (L0 ++ fdA p m i u (k + 1)) _) := Lib.hid (by rw [hS4.out (by rw [haw, hmm2]; rfl)]; exact hO.out)
                          clear hS4 hM4 hrS3
                          replace haw := Lib.hid haw
                          replace hrd2 := Lib.hid hrd2
                          replace hmm2 := Lib.hid hmm2
                          go_wp2
                          go_roundw
                          case rel => exact ⟨k + 1, by omega, by go_num, by rw [hr7.out], hO7.out, hob.out, hTB.out, hbel3.out⟩
                          case measure => simp [intOf]; omega
                        · rw [hrd2]
                          have hr7 : Hid (rdB p m i u (k + 1) = true) := Lib.hid (by rw [hrS3.out, hrd2, hmm2]; rfl)
                          have hO7 : Hid (LC W wr (L0 ++ fdA p m i u (k + 1)) _) := Lib.hid (by rw [hS4.out (by rw [haw, hmm2]; rfl)]; exact hO.out)
                          clear hS4 hM4 hrS3
                          replace haw := Lib.hid haw
                          replace hrd2 := Lib.hid hrd2
                          replace hmm2 := Lib.hid hmm2
                          go_wp2
                          go_roundw
                          case rel => exact ⟨k + 1, by omega, by go_num, by rw [hr7.out], hO7.out, hob.out, hTB.out, hbel3.out⟩
                          case measure => simp [intOf]; omega
                      · rw [hmm2] at g4
                        rcases Bool.eq_false_or_eq_true rd with hrd2 | hrd2
                        · rw [hrd2]
                          have hr7 : Hid (rdB p m i u (k + 1) = true) := Lib.hid (by rw [hrS3.out, hrd2, hmm2]; rfl)
                          have hMo := Lib.hid (hM4.out haw hmm2)
                          clear hS4 hM4 hrS3
                          replace haw := Lib.hid haw
                          replace hrd2 := Lib.hid hrd2
                          replace hmm2 := Lib.hid hmm2
                          go_wp2_with (at_builtin; refine push_own elCf rfl _ _ rfl W.heap.size _ (L0 ++ L1).length (cfRow (L0 ++ L1)) hO.out rfl [.int .i64 (i : Int), .int .i64 (u : Int), .int .i64 (k : Int)] rfl rfl rfl (by have := hLu.out; have := hLk.out; rw [List.length_append]; omega) (by omega) hBs ?_)
                          intro v' w8 hown8 hgr hb8 hs8 hob8
                          have hO8 : Hid (LC W w8 (L0 ++ fdA p m i u (k + 1)) v') := Lib.hid (lc_next (l := L0 ++ L1) (c := ⟨i, u, (k : Int)⟩) (by rw [List.length_append]; exact hown8) (by rw [hMo.out, List.append_assoc]))
                          have hb9 : Hid (Below W.heap.size W w8) := Lib.hid (hbel3.out.trans hb8)
                          have hTB8 := Lib.hid (hTB.out.push hgr hob.out)
                          have hob9 := Lib.hid (ob_push hob.out zt hob8)
                          clear hown8 hgr hb8 hs8 hob8 zt ft t0 t1 t2 t3 t4 t5 r1 f1 r10 r11 r12 r2 f2 r20 r21 r22 r23 g4
                          go_wp2
                          go_roundw
                          case rel => exact ⟨k + 1, by omega, by go_num, by rw [hr7.out], hO8.out, hob9.out, hTB8.out, hb9.out⟩
                          case measure => simp [intOf]; omega
                        · rw [hrd2]
                          have hr7 : Hid (rdB p m i u (k + 1) = false) := Lib.hid (by rw [hrS3.out, hrd2, hmm2]; rfl)
                          have hMo := Lib.hid (hM4.out haw hmm2)
                          clear hS4 hM4 hrS3
                          replace haw := Lib.hid haw
                          replace hrd2 := Lib.hid hrd2
                          replace hmm2 := Lib.hid hmm2
                          go_wp2_with (at_builtin; refine push_own elCf rfl _ _ rfl W.heap.size _ (L0 ++ L1).length (cfRow (L0 ++ L1)) hO.out rfl [.int .i64 (i : Int), .int .i64 (u : Int), .int .i64 (k : Int)] rfl rfl rfl (by have := hLu.out; have := hLk.out; rw [List.length_append]; omega) (by omega) hBs ?_)
                          intro v' w8 hown8 hgr hb8 hs8 hob8
                          have hO8 : Hid (LC W w8 (L0 ++ fdA p m i u (k + 1)) v') := Lib.hid (lc_next (l := L0 ++ L1) (c := ⟨i, u, (k : Int)⟩) (by rw [List.length_append]; exact hown8) (by rw [hMo.out, List.append_assoc]))
                          have hb9 : Hid (Below W.heap.size W w8) := Lib.hid (hbel3.out.trans hb8)
                          have hTB8 := Lib.hid (hTB.out.push hgr hob.out)
                          have hob9 := Lib.hid (ob_push hob.out zt hob8)
                          clear hown8 hgr hb8 hs8 hob8 zt ft t0 t1 t2 t3 t4 t5 r1 f1 r10 r11 r12 r2 f2 r20 r21 r22 r23 g4
                          go_wp2
                          go_roundw
                          case rel => exact ⟨k + 1, by omega, by go_num, by rw [hr7.out], hO8.out, hob9.out, hTB8.out, hb9.out⟩
                          case measure => simp [intOf]; omega
                · obtain rfl : k = nv := by omega
                  obtain ⟨rd, hrd⟩ : ∃ rd, rdB p m i u k = rd := ⟨_, rfl⟩
                  obtain ⟨L1, hL1⟩ : ∃ L, fdA p m i u k = L := ⟨_, rfl⟩
                  have hY := Lib.hid hYes2.out
                  rw [hrd, hL1] at hY
                  rw [hrd]
                  rw [hL1] at hO hLk
                  replace hbel3 := Lib.hid hbel3
                  replace hrd := Lib.hid hrd
                  replace hL1 := Lib.hid hL1
                  clear hown hlt3
                  rcases Bool.eq_false_or_eq_true aw with haw | haw
                  · rw [haw] at t3
                    rcases Bool.eq_false_or_eq_true rd with hrd2 | hrd2
                    · rw [hrd2]
                      have hO7 : Hid (LC W wr (fd2 p m i (u + 1)) _) := Lib.hid (by rw [hY.out, haw, hrd2, if_neg (by decide), List.append_nil]; exact hO.out)
                      clear hY
                      replace haw := Lib.hid haw
                      replace hrd2 := Lib.hid hrd2
                      go_wp2
                      go_roundw
                      case rel => exact ⟨u + 1, by omega, by go_num, hO7.out, hob.out, hTB.out, hbel3.out⟩
                      case measure => simp [intOf]; omega
                    · rw [hrd2]
                      have hMo : Hid (fd2 p m i (u + 1) = L0 ++ (L1 ++ [⟨i, u, -1⟩])) := Lib.hid (by rw [hY.out, haw, hrd2]; rfl)
                      clear hY
                      replace haw := Lib.hid haw
                      replace hrd2 := Lib.hid hrd2
                      go_wp2_with (at_builtin; refine push_own elCf rfl _ _ rfl W.heap.size _ (L0 ++ L1).length (cfRow (L0 ++ L1)) hO.out rfl [.int .i64 (i : Int), .int .i64 (u : Int), .int .i64 (-1)] rfl rfl rfl (by have := hLu.out; have := hLk.out; rw [List.length_append]; omega) (by omega) hBs ?_)
                      intro v' w8 hown8 hgr hb8 hs8 hob8
                      have hO8 : Hid (LC W w8 (fd2 p m i (u + 1)) v') := Lib.hid (lc_next (l := L0 ++ L1) (c := ⟨i, u, (-1)⟩) (by rw [List.length_append]; exact hown8) (by rw [hMo.out, List.append_assoc]))
                      have hb9 : Hid (Below W.heap.size W w8) := Lib.hid (hbel3.out.trans hb8)
                      have hTB8 := Lib.hid (hTB.out.push hgr hob.out)
                      have hob9 := Lib.hid (ob_push hob.out zt hob8)
                      clear hown8 hgr hb8 hs8 hob8 zt ft t0 t1 t2 t3 t4 t5 r1 f1 r10 r11 r12 r2 f2 r20 r21 r22 r23
                      go_wp2
                      go_roundw
                      case rel => exact ⟨u + 1, by omega, by go_num, hO8.out, hob9.out, hTB8.out, hb9.out⟩
                      case measure => simp [intOf]; omega
                  · rw [haw] at t3
                    have hO7 : Hid (LC W wr (fd2 p m i (u + 1)) _) := Lib.hid (by rw [hY.out, haw, Bool.false_and, if_neg (by decide), List.append_nil]; exact hO.out)
                    clear hY
                    replace haw := Lib.hid haw
                    go_wp2
                    go_roundw
                    case rel => exact ⟨u + 1, by omega, by go_num, hO7.out, hob.out, hTB.out, hbel3.out⟩
                    case measure => simp [intOf]; omega
          · obtain rfl : u = nu := by omega
            have hO : Hid (LC W wr (fd1 p m (i + 1)) _) := Lib.hid (hall2.out ▸ hown)
            have hbF := Lib.hid hbel2
            clear hbel2
            clear hown hlt2
            go_wp2
            go_roundw
            case rel => exact ⟨i + 1, by omega, by go_num, hO.out, hbF.out⟩
            case measure => simp [intOf]; omega
    · obtain rfl : i = p.tabs.length := by omega
      have hR := Lib.hid (OwnC.of (w := w) (l := foundL p m) (own_base hown SW.out.size) T.out.bel)
      clear hown hlt hbel
      go_wp2
      go_ret
      exact Ret.mk hR.out
end Go.Proofs.Ytickckehhfdoeaa
