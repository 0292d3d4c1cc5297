/-
  PLAIN: what happens to replicas: rounds do not descend; replicas that are up follow the first command of the greatest round.
  Conditions: those that each theorem names.
-/
import Derived.Test.YtcjnfciemangkaaRepP
namespace Go.Sv
open Go.RowKit
/-- what happens: kind, replica, version, round -/
structure Opp where
  kind : Int
  rep : Int
  ver : Int
  rnd : Int
abbrev Opp.cmd (o : Opp) : Cmd := ⟨o.rnd, o.rep, o.ver⟩
noncomputable def stepE (p : Prob) (l : List Rep) (o : Opp) : Int := if o.kind % 4 < 2 then applyE p l o.cmd else powerE l o.rep (decide (o.kind % 4 = 3))
noncomputable def stepL (p : Prob) (l : List Rep) (o : Opp) : List Rep := if stepE p l o = 0 then (if o.kind % 4 < 2 then applyL p l o.cmd else powerL l o.rep (decide (o.kind % 4 = 3))) else l
theorem setCmd_len (l : List Rep) (c : Cmd) : (setCmd l c).length = l.length := by
  unfold setCmd
  split
  · simp
  · rfl
theorem stepL_len (p : Prob) (l : List Rep) (o : Opp) : (stepL p l o).length = l.length := by
  unfold stepL stepE
  by_cases h2 : o.kind % 4 < 2
  · rw [if_pos h2, if_pos h2]
    split
    · rename_i h
      rw [applyL, if_pos h, setCmd_len]
    · rfl
  · rw [if_neg h2, if_neg h2]
    split
    · rename_i h
      rw [powerL_ok h]; simp
    · rfl
/-- the law of rounds at one place -/
def rndB (a b : Rep) : Bool := decide (b.rnd < a.rnd) || (!decide (b.ver = a.ver) && decide (b.rnd = a.rnd)) || !decide (b.sv = a.sv)
theorem rnd_ok (p : Prob) (l : List Rep) (o : Opp) (k : Nat) (hk : k < l.length) : rndB (rp l k) (rp (stepL p l o) k) = false := by
  have same : ∀ a : Rep, rndB a a = false := fun a => by simp [rndB]
  unfold stepL stepE
  by_cases h2 : o.kind % 4 < 2
  · rw [if_pos h2, if_pos h2]
    split
    · rename_i h
      rw [applyL, if_pos h]
      unfold setCmd
      split
      · rename_i hr
        replace hr : (rp l o.rep.toNat).rnd < o.rnd := hr
        by_cases e : k = o.cmd.rep.toNat
        · subst e
          rw [rp_set_same hk]
          show rndB (rp l o.rep.toNat) ⟨(rp l o.rep.toNat).sv, o.ver, (rp l o.rep.toNat).up, o.rnd⟩ = false
          unfold rndB
          have e1 : decide (o.rnd < (rp l o.rep.toNat).rnd) = false := decide_eq_false (by omega)
          have e2 : decide (o.rnd = (rp l o.rep.toNat).rnd) = false := decide_eq_false (by omega)
          show (decide (o.rnd < (rp l o.rep.toNat).rnd) || (!decide (o.ver = (rp l o.rep.toNat).ver) && decide (o.rnd = (rp l o.rep.toNat).rnd)) || !decide ((rp l o.rep.toNat).sv = (rp l o.rep.toNat).sv)) = false
          rw [e1, e2]
          simp
        · rw [rp_set_ne e]; exact same _
      · exact same _
    · exact same _
  · rw [if_neg h2, if_neg h2]
    split
    · rename_i h
      rw [powerL_ok h]
      by_cases e : k = o.rep.toNat
      · subst e
        rw [rp_set_same hk]
        simp [rndB]
      · rw [rp_set_ne e]; exact same _
    · exact same _
/-- the replicas of a start: up, of a service -/
structure Good (p : Prob) (l : List Rep) : Prop where
  up : ∀ k, k < l.length → (rp l k).up = true
  sv : ∀ k, k < l.length → 0 ≤ (rp l k).sv ∧ (rp l k).sv < p.vs.length
theorem repsTo_good (p : Prob) (ns : List Int) : ∀ n, n ≤ p.vs.length → Good p (repsTo p ns n) := by
  intro n
  have key : ∀ n, n ≤ p.vs.length → ∀ x ∈ repsTo p ns n, x.up = true ∧ 0 ≤ x.sv ∧ x.sv < p.vs.length := by
    intro n
    induction n with
    | zero => intro _ x hx; cases hx
    | succ n ih =>
      intro hn x hx
      rcases List.mem_append.1 hx with hx | hx
      · exact ih (by omega) x hx
      · rw [repsOne, List.mem_replicate] at hx
        rw [hx.2]
        exact ⟨rfl, by show (0 : Int) ≤ n; omega, by show (n : Int) < p.vs.length; omega⟩
  intro hn
  have at_ : ∀ k, k < (repsTo p ns n).length → rp (repsTo p ns n) k ∈ repsTo p ns n := fun k hk => by
    have := rp_get hk
    exact List.mem_of_getElem? this
  exact ⟨fun k hk => (key n hn _ (at_ k hk)).1, fun k hk => (key n hn _ (at_ k hk)).2⟩
/-- what the law keeps beside -/
def wantL (p : Prob) (l : List Rep) (o : Opp) : List Rep :=
  if o.rep < l.length ∧ o.ver < gi p.vs (rp l o.rep.toNat).sv.toNat ∧ (rp l o.rep.toNat).rnd < o.rnd then l.set o.rep.toNat { rp l o.rep.toNat with rnd := o.rnd, ver := o.ver } else l
theorem want_step {p : Prob} {l : List Rep} {o : Opp} (hp : probE p = 0) (g : Good p l) (h0 : 0 ≤ o.rep) (h1 : 0 ≤ o.ver) (hk : o.kind = 0) : stepL p l o = wantL p l o := by
  have hs : stepL p l o = if applyE p l o.cmd = 0 then applyL p l o.cmd else l := by
    have h2 : o.kind % 4 < 2 := by rw [hk]; decide
    unfold stepL stepE
    simp only [if_pos h2]
  rw [hs]
  unfold wantL
  by_cases hr : o.rep < l.length
  · have hk' : o.rep.toNat < l.length := by omega
    obtain ⟨s0, s1⟩ := g.sv _ hk'
    have hu := g.up _ hk'
    by_cases hv : o.ver < gi p.vs (rp l o.rep.toNat).sv.toNat
    · by_cases hd : o.rnd < (rp l o.rep.toNat).rnd
      · have e : applyE p l o.cmd = 16 := by
          unfold applyE
          rw [if_neg (by simp [hp]), if_neg (fun h => h ⟨h0, hr⟩), if_neg (fun h => h ⟨s0, s1, h1, hv⟩), if_neg (by rw [hu]; decide), if_pos hd]
        rw [if_neg (by rw [e]; decide), if_neg (fun h => by omega)]
      · have e : applyE p l o.cmd = 0 := by
          unfold applyE
          rw [if_neg (by simp [hp]), if_neg (fun h => h ⟨h0, hr⟩), if_neg (fun h => h ⟨s0, s1, h1, hv⟩), if_neg (by rw [hu]; decide), if_neg hd]
        rw [if_pos e, applyL, if_pos e]
        unfold setCmd
        by_cases hn : (rp l o.rep.toNat).rnd < o.rnd
        · rw [if_pos hn, if_pos ⟨hr, hv, hn⟩]
        · rw [if_neg hn, if_neg (fun h => hn h.2.2)]
    · have e : applyE p l o.cmd = 7 := by
        unfold applyE
        rw [if_neg (by simp [hp]), if_neg (fun h => h ⟨h0, hr⟩), if_pos (fun h => hv h.2.2.2)]
      rw [if_neg (by rw [e]; decide), if_neg (fun h => hv h.2.1)]
  · have e : applyE p l o.cmd = 4 := by
      unfold applyE
      rw [if_neg (by simp [hp]), if_pos (fun h => hr h.2)]
    rw [if_neg (by rw [e]; decide), if_neg (fun h => hr h.1)]
theorem want_good {p : Prob} {l : List Rep} {o : Opp} (g : Good p l) : Good p (wantL p l o) ∧ (wantL p l o).length = l.length := by
  unfold wantL
  split
  · refine ⟨⟨fun k hk => ?_, fun k hk => ?_⟩, by simp⟩
    · rw [List.length_set] at hk
      by_cases e : k = o.rep.toNat
      · subst e
        rw [rp_set_same hk]; exact g.up _ hk
      · rw [rp_set_ne e]; exact g.up _ hk
    · rw [List.length_set] at hk
      by_cases e : k = o.rep.toNat
      · subst e
        rw [rp_set_same hk]; exact g.sv _ hk
      · rw [rp_set_ne e]; exact g.sv _ hk
  · exact ⟨g, rfl⟩
end Go.Sv
