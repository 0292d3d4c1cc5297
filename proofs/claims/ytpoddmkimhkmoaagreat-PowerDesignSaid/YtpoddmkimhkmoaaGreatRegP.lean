/-
  GENERAL: a region that draws its order: jobs (loads, calls, variables made) in any order that their edges allow, then a tail in one order: ONE STATE behind the jobs, whatever the order was.
  Conditions: those that each theorem names.
-/
import Derived.Test.YtpoddmkimhkmoaaGreatPh2
import Derived.Test.YtpoddmkimhkmoaaGreatFm
namespace Go.Sv
open Go.RowKit

/-- a job: its operation, its slot, whether it makes a variable, and what its value says -/
structure Jb where
  i : Nat
  d : Nat
  bx : Bool
  N : Value → List Bx → List Rd → Prop

theorem nodup_inj {α β : Type} {f : α → β} : ∀ {l : List α}, (l.map f).Nodup → ∀ x ∈ l, ∀ y ∈ l, f x = f y → x = y
  | [], _, x, hx, _, _, _ => by cases hx
  | z :: l, h, x, hx, y, hy, e => by
    rw [List.map_cons, List.nodup_cons] at h
    rcases List.mem_cons.1 hx with e1 | h1
    · rcases List.mem_cons.1 hy with e2 | h2
      · rw [e1, e2]
      · exact absurd (by rw [← e1, e]; exact List.mem_map_of_mem h2) h.1
    · rcases List.mem_cons.1 hy with e2 | h2
      · exact absurd (by rw [← e2, ← e]; exact List.mem_map_of_mem h1) h.1
      · exact nodup_inj h.2 x h1 y h2 e

/-- t waits for i, in some steps -/
def wReach (ops : Array Oper) (iL : List Nat) : Nat → Nat → Nat → Bool
  | 0, t, i => Region.waitsFor .any ops t i
  | n + 1, t, i => wReach ops iL n t i || iL.any fun m => Region.waitsFor .any ops t m && wReach ops iL n m i
theorem reach_listed {ops : Array Oper} {iL : List Nat} {listed : Array Bool} (cl : ∀ m ∈ iL, listed.getD m true = true → ∀ i ∈ iL, Region.waitsFor .any ops m i = true → listed.getD i true = true) :
    ∀ (n t : Nat), (∀ i ∈ iL, Region.waitsFor .any ops t i = true → listed.getD i true = true) → ∀ i ∈ iL, wReach ops iL n t i = true → listed.getD i true = true
  | 0, t, ht, i, hi, h => ht i hi h
  | n + 1, t, ht, i, hi, h => by
    unfold wReach at h
    rw [Bool.or_eq_true] at h
    rcases h with h | h
    · exact reach_listed cl n t ht i hi h
    · obtain ⟨m, hm, h⟩ := List.any_eq_true.1 h
      obtain ⟨h1, h2⟩ := (Bool.and_eq_true _ _).mp h
      exact reach_listed cl n m (fun k hk hw => cl m hm (ht m hm h1) k hk hw) i hi h2
section
variable {P : Program} {ops : Array Oper} {Q : Exit → Act → World → Prop}
/-- what is known of the region -/
structure RegJ (P : Program) (ops : Array Oper) (Q : Exit → Act → World → Prop) (B : Bx → Prop) (J : List Jb) (T : List Nat) (tail : List Oper) (l0 lF : Array Bool) (a0 : Act) (w0 : World) (bs0 : List Bx) (rs0 : List Rd) : Prop where
  nd : (J.map Jb.d).Nodup
  lt : ∀ j ∈ J, j.d < a0.tmps.size
  ni : (J.map Jb.i).Nodup
  jT : ∀ j ∈ J, j.i ∉ T
  js : ∀ j ∈ J.map Jb.i, j < l0.size
  ed : edgesB ops l0 (J.map Jb.i) = true
  wT : ∀ t ∈ T, (∀ j ∈ J, wReach ops (J.map Jb.i) 4 t j.i = true) ∨ ∃ k ∈ T, Region.waitsFor .any ops t k = true
  un : ∀ j, l0.getD j true = false → j ∈ J.map Jb.i ∨ j ∈ T
  tl : ∀ j ∈ T, l0.getD j true = false
  fin : ∀ j, lF.getD j true = false ↔ j ∈ T
  fsz : lF.size = l0.size
  nt : 0 < tail.length
  seq : ∃ k, (∀ j, tail[j]? = ops[k + j]?) ∧ Region.seqB .any ops tail.length k lF = true
  mono : ∀ j ∈ J, ∀ v bs bs' rs rs', (∀ x ∈ bs, x ∈ bs') → (∀ x ∈ rs, x ∈ rs') → j.N v bs rs → j.N v bs' rs'
  bxs : ∀ j ∈ J, j.bx = true → ∀ v bs rs, j.N v bs rs → ∃ x ∈ bs, v = .pointer (some ⟨x.b, 0, none⟩)
  step : ∀ j ∈ J, ∃ o, ops[j.i]? = some o ∧ o.guard = none ∧ ∀ (a : Act) (w : World) (bs : List Bx) (rs : List Rd) (K : Act → World → Prop), Agree (J.map Jb.d) a0 a → Fm w0 w bs rs → (∀ x ∈ bs, B x) → (∀ x ∈ bs0, x ∈ bs) → (∀ x ∈ rs0, x ∈ rs) →
    (∀ k ∈ J, Region.waitsFor .any ops j.i k.i = true → k.N (a.eval (.tmp k.d)) bs rs) →
    (∀ v w' bs' rs', Fm w0 w' bs' rs' → (∀ x ∈ bs', B x) → (∀ x ∈ bs, x ∈ bs') → (∀ x ∈ rs, x ∈ rs') → j.N v bs' rs' → (j.bx = true → ∀ x ∈ bs, v ≠ .pointer (some ⟨x.b, 0, none⟩)) → K (a.put (some j.d) v) w') → o.wp P a w K Q

/-- the state on the way -/
structure RegJI (ops : Array Oper) (B : Bx → Prop) (J : List Jb) (T : List Nat) (l0 : Array Bool) (a0 : Act) (w0 : World) (bs0 : List Bx) (rs0 : List Rd) (listed : Array Bool) (a : Act) (w : World) : Prop where
  ag : Agree (J.map Jb.d) a0 a
  sz : listed.size = l0.size
  mo : ∀ j, listed.getD j true = false → l0.getD j true = false
  tl : ∀ j ∈ T, listed.getD j true = false
  cl : ∀ m ∈ J.map Jb.i, listed.getD m true = true → ∀ i ∈ J.map Jb.i, Region.waitsFor .any ops m i = true → listed.getD i true = true
  st : ∃ bs rs, Fm w0 w bs rs ∧ (∀ x ∈ bs, B x) ∧ (∀ x ∈ bs0, x ∈ bs) ∧ (∀ x ∈ rs0, x ∈ rs) ∧ (∀ j ∈ J, listed.getD j.i true = true → j.N (a.eval (.tmp j.d)) bs rs) ∧
    ∀ j ∈ J, ∀ k ∈ J, j.bx = true → k.bx = true → j.i ≠ k.i → listed.getD j.i true = true → listed.getD k.i true = true → a.eval (.tmp j.d) ≠ a.eval (.tmp k.d)

theorem regj_core {B : Bx → Prop} {J : List Jb} {T : List Nat} {tail : List Oper} {l0 lF : Array Bool} {a0 : Act} {w0 : World} {bs0 : List Bx} {rs0 : List Rd} (O : RegJ P ops Q B J T tail l0 lF a0 w0 bs0 rs0)
    (h : ∀ (f : Nat → Value) (w' : World) (bs : List Bx) (rs : List Rd), Fm w0 w' bs rs → (∀ x ∈ bs0, x ∈ bs) → (∀ x ∈ rs0, x ∈ rs) → (∀ j ∈ J, j.N (f j.d) bs rs) →
      (∀ j ∈ J, ∀ k ∈ J, j.bx = true → k.bx = true → j.i ≠ k.i → f j.d ≠ f k.d) → wpList P ops Q tail ((J.map Jb.d).foldl (fun c d => c.put (some d) (f d)) a0) w') :
    ∀ (fuel : Nat) (listed : Array Bool) (a : Act) (w : World), (J.map Jb.i).countP (unl listed) + tail.length ≤ fuel → RegJI ops B J T l0 a0 w0 bs0 rs0 listed a w → wpAny P .any ops Q fuel listed a w := by
  intro fuel
  induction fuel with
  | zero =>
    intro listed a w hf I
    have := O.nt
    omega
  | succ fuel ih =>
    intro listed a w hf I
    obtain ⟨bs, rs, S, hB, hb0, hr0, hN, hne⟩ := I.st
    by_cases hall : ∀ j ∈ J, listed.getD j.i true = true
    · obtain ⟨k, hk, hseq⟩ := O.seq
      have hlF : listed = lF := by
        apply Array.ext (by rw [I.sz, O.fsz])
        intro j h1 h2
        have e1 : listed.getD j true = listed[j] := by simp [h1]
        have e2 : lF.getD j true = lF[j] := by simp [h2]
        rw [← e1, ← e2]
        cases hx : lF.getD j true with
        | false => exact I.tl j ((O.fin j).1 hx)
        | true =>
          cases hy : listed.getD j true with
          | true => rfl
          | false =>
            rcases O.un j (I.mo j hy) with h3 | h3
            · obtain ⟨j', hj', rfl⟩ := List.mem_map.1 h3
              rw [hall j' hj'] at hy; cases hy
            · rw [(O.fin j).2 h3] at hx; cases hx
      have hw := h (fun d => a.eval (.tmp d)) w bs rs S hb0 hr0 (fun j hj => hN j hj (hall j hj)) (fun j hj k hk h1 h2 h3 => hne j hj k hk h1 h2 h3 (hall j hj) (hall k hk))
      rw [← I.ag.puts] at hw
      rw [← hlF] at hseq
      have := wpAny_of_seq tail k listed a w hk hseq hw
      obtain ⟨g, hg⟩ : ∃ g, fuel + 1 = tail.length + g := ⟨fuel + 1 - tail.length, by omega⟩
      rw [hg]
      exact wpAny_le this g
    · have hex : ∃ j ∈ J, listed.getD j.i true = false := Classical.byContradiction fun hx => hall fun j hj => by
        cases hy : listed.getD j.i true with
        | true => rfl
        | false => exact absurd ⟨j, hj, hy⟩ hx
      have hex' : ∃ j ∈ J.map Jb.i, listed.getD j true = false := by
        obtain ⟨j, hj, hy⟩ := hex
        exact ⟨j.i, List.mem_map_of_mem hj, hy⟩
      refine ⟨fun hnil => absurd hnil (ready_some O.ed (fun j hj => ?_) (fun j hj => by rw [I.sz]; exact O.js j hj) hex'), fun i hi => ?_⟩
      · cases hx : listed.getD j true with
        | true =>
          have h1 : j < listed.size := by
            rw [I.sz]
            rcases Nat.lt_or_ge j l0.size with h1 | h1
            · exact h1
            · simp [Array.getElem?_eq_none h1] at hj
          simpa [h1] using hx
        | false =>
          have := getD_both (I.mo j hx)
          rw [this] at hj
          cases hj
      · have hiu := ready_un hi
        rcases O.un i (I.mo i hiu) with hJ | hT
        case inr =>
          exfalso
          rcases O.wT i hT with h1 | ⟨k, hk, h1⟩
          · exact hall fun j hj => reach_listed I.cl 4 i (fun m _ hw => waits_listed hw hi) j.i (List.mem_map_of_mem hj) (h1 j hj)
          · have := waits_listed h1 hi
            rw [I.tl k hk] at this
            cases this
        obtain ⟨j, hj, rfl⟩ := List.mem_map.1 hJ
        have hcnt : (J.map Jb.i).countP (unl (listed.setIfInBounds j.i true)) + tail.length ≤ fuel := by
          have := count_set hJ hiu
          omega
        have dj : j.d < a.tmps.size := by rw [I.ag.size]; exact O.lt j hj
        have back : ∀ k ∈ J, k ≠ j → (listed.setIfInBounds j.i true).getD k.i true = true → listed.getD k.i true = true := fun k hk hkj hx => by
          rwa [getD_set_ne true (fun e => hkj (nodup_inj O.ni k hk j hj e.symm))] at hx
        have evk : ∀ k ∈ J, k ≠ j → ∀ v, (a.put (some j.d) v).eval (.tmp k.d) = a.eval (.tmp k.d) := fun k hk hkj v =>
          eval_put_ne (fun e => hkj (nodup_inj O.nd k hk j hj e.symm))
        obtain ⟨o, ho, hg, hs⟩ := O.step j hj
        refine wpOp_of ho hg (hs a w bs rs _ I.ag S hB hb0 hr0 (fun k hk hw => hN k hk (waits_listed hw hi)) fun v w' bs' rs' S' hB' hb' hr' hv hfresh => ?_)
        refine ih _ _ _ hcnt ⟨I.ag.put (List.mem_map_of_mem hj) _, by rw [Array.size_setIfInBounds]; exact I.sz, fun k hk => I.mo k (set_get hk).2, fun k hk => ?_, fun m hm hl n hn hw => ?_,
          bs', rs', S', hB', fun x hx => hb' x (hb0 x hx), fun x hx => hr' x (hr0 x hx), fun k hk hl => ?_, fun k hk m hm k1 m1 hkm hkl hml => ?_⟩
        · rw [getD_set_ne true (fun e => O.jT j hj (by rw [e]; exact hk))]; exact I.tl k hk
        · have keep : ∀ n, listed.getD n true = true → (listed.setIfInBounds j.i true).getD n true = true := fun n hn => by
            by_cases e : j.i = n
            · subst e; exact set_same
            · rw [getD_set_ne true e]; exact hn
          by_cases e : j.i = m
          · subst e
            exact keep n (waits_listed hw hi)
          · rw [getD_set_ne true e] at hl
            exact keep n (I.cl m hm hl n hn hw)
        · by_cases e : k = j
          · subst e
            rw [eval_put_same dj]; exact hv
          · rw [evk k hk e]
            exact O.mono k hk _ _ _ _ _ hb' hr' (hN k hk (back k hk e hl))
        · have old : ∀ m ∈ J, m.bx = true → m ≠ j → (listed.setIfInBounds j.i true).getD m.i true = true → j.bx = true → v ≠ a.eval (.tmp m.d) := fun m hm m1 mj hml j1 e => by
            obtain ⟨x, hx, ex⟩ := O.bxs m hm m1 _ _ _ (hN m hm (back m hm mj hml))
            exact hfresh j1 x hx (e.trans ex)
          by_cases e : k = j
          · subst e
            have mk : m ≠ k := fun e => hkm (by rw [e])
            rw [eval_put_same dj, evk m hm mk]
            exact old m hm m1 mk hml k1
          · by_cases e2 : m = j
            · subst e2
              rw [eval_put_same dj, evk k hk e]
              exact fun e' => old k hk k1 e hkl m1 e'.symm
            · rw [evk k hk e, evk m hm e2]
              exact hne k hk m hm k1 m1 hkm (back k hk e hkl) (back m hm e2 hml)
/-- the state when the jobs begin -/
theorem regj_start {B : Bx → Prop} {J : List Jb} {T : List Nat} {l0 : Array Bool} {a0 : Act} {w0 w : World} {bs0 : List Bx} {rs0 : List Rd} (iL : List Nat) (hI : J.map Jb.i = iL) (S : Fm w0 w bs0 rs0) (hB0 : ∀ x ∈ bs0, B x) (c9 : T.all (fun j => !l0.getD j true) = true)
    (hu : iL.all (fun j => !l0.getD j true) = true) : RegJI ops B J T l0 a0 w0 bs0 rs0 l0 a0 w := by
  have hun : ∀ j ∈ J, l0.getD j.i true = false := fun j hj => by
    subst hI
    have := List.all_eq_true.1 hu j.i (List.mem_map_of_mem hj)
    simpa using this
  refine ⟨Agree.refl _ _, rfl, fun _ h => h, fun j hj => ?_, fun m hm h => (by obtain ⟨j, hj, rfl⟩ := List.mem_map.1 hm; rw [hun j hj] at h; cases h), bs0, rs0, S, hB0, fun _ h => h, fun _ h => h, fun j hj h => ?_, fun j hj k hk _ _ _ h => ?_⟩
  · have := List.all_eq_true.1 c9 j hj
    simpa using this
  · rw [hun j hj] at h; cases h
  · rw [hun j hj] at h; cases h
end
end Go.Sv
namespace Go.Sv
open Go.RowKit
section
variable {P : Program} {ops : Array Oper} {Q : Exit → Act → World → Prop}
/-- the region's closed facts, by checks -/
theorem regj_of {B : Bx → Prop} {J : List Jb} {T : List Nat} {a0 : Act} {w0 : World} {bs0 : List Bx} {rs0 : List Rd} (iL dL : List Nat) (hI : J.map Jb.i = iL) (hD : J.map Jb.d = dL) (k : Nat) (l0 lF : Array Bool)
    (hnd : dL.Nodup) (hni : iL.Nodup) (hlt : (dL.all fun d => decide (d < a0.tmps.size)) = true) (hjT : (iL.all fun i => !T.contains i) = true)
    (hjs : (iL.all fun i => decide (i < l0.size)) = true) (hed : edgesB ops l0 iL = true)
    (hwT : (T.all fun t => (iL.all fun i => wReach ops iL 4 t i) || T.any fun m => Region.waitsFor .any ops t m) = true)
    (hun : ((List.range l0.size).all fun j => l0.getD j true || iL.contains j || T.contains j) = true) (htl : (T.all fun j => !l0.getD j true) = true)
    (hfin : ((List.range l0.size).all fun j => lF.getD j true == !T.contains j) = true) (hTs : (T.all fun j => decide (j < l0.size)) = true) (hfsz : lF.size = l0.size)
    (hk : k < ops.size) (hseq : Region.seqB .any ops (ops.size - k) k lF = true)
    (mono : ∀ j ∈ J, ∀ v bs bs' rs rs', (∀ x ∈ bs, x ∈ bs') → (∀ x ∈ rs, x ∈ rs') → j.N v bs rs → j.N v bs' rs')
    (bxs : ∀ j ∈ J, j.bx = true → ∀ v bs rs, j.N v bs rs → ∃ x ∈ bs, v = .pointer (some ⟨x.b, 0, none⟩))
    (step : ∀ j ∈ J, ∃ o, ops[j.i]? = some o ∧ o.guard = none ∧ ∀ (a : Act) (w : World) (bs : List Bx) (rs : List Rd) (K : Act → World → Prop), Agree (J.map Jb.d) a0 a → Fm w0 w bs rs → (∀ x ∈ bs, B x) → (∀ x ∈ bs0, x ∈ bs) → (∀ x ∈ rs0, x ∈ rs) →
      (∀ k ∈ J, Region.waitsFor .any ops j.i k.i = true → k.N (a.eval (.tmp k.d)) bs rs) →
      (∀ v w' bs' rs', Fm w0 w' bs' rs' → (∀ x ∈ bs', B x) → (∀ x ∈ bs, x ∈ bs') → (∀ x ∈ rs, x ∈ rs') → j.N v bs' rs' → (j.bx = true → ∀ x ∈ bs, v ≠ .pointer (some ⟨x.b, 0, none⟩)) → K (a.put (some j.d) v) w') → o.wp P a w K Q) :
    RegJ P ops Q B J T (ops.toList.drop k) l0 lF a0 w0 bs0 rs0 := by
  subst hI hD
  have out : ∀ j, l0.size ≤ j → ∀ l : Array Bool, l.size = l0.size → l.getD j true = true := fun j hj l hl => by simp [Array.getElem?_eq_none (show l.size ≤ j by omega)]
  refine ⟨hnd, fun j hj => of_decide_eq_true (List.all_eq_true.1 hlt _ (List.mem_map_of_mem hj)), hni, fun j hj => ?_, fun j hj => ?_, hed, fun t ht => ?_, fun j hj => ?_, fun j hj => ?_, fun j => ?_, hfsz, by simp; omega, ⟨k, by simp [List.getElem?_drop], ?_⟩, mono, bxs, step⟩
  · have := List.all_eq_true.1 hjT _ (List.mem_map_of_mem hj)
    simpa using this
  · have := List.all_eq_true.1 hjs _ hj
    simpa using this
  · have := List.all_eq_true.1 hwT _ ht
    rw [Bool.or_eq_true] at this
    rcases this with h | h
    · exact Or.inl fun j hj => List.all_eq_true.1 h _ (List.mem_map_of_mem hj)
    · exact Or.inr (List.any_eq_true.1 h)
  · rcases Nat.lt_or_ge j l0.size with c | c
    · have := List.all_eq_true.1 hun j (List.mem_range.2 c)
      rw [hj] at this
      simp only [Bool.false_or, Bool.or_eq_true] at this
      rcases this with h | h
      · exact Or.inl (by simpa using h)
      · exact Or.inr (by simpa using h)
    · rw [out j c l0 rfl] at hj; cases hj
  · have := List.all_eq_true.1 htl j hj
    simpa using this
  · rcases Nat.lt_or_ge j l0.size with c | c
    · have := beq_iff_eq.1 (List.all_eq_true.1 hfin j (List.mem_range.2 c))
      rw [this]
      simp
    · rw [out j c lF hfsz]
      constructor
      · intro h; cases h
      · intro h
        have := List.all_eq_true.1 hTs j h
        simp at this
        omega
  · have : (List.drop k ops.toList).length = ops.size - k := by simp
    rw [this]; exact hseq
/-- the whole: the region's walk out of its jobs and its tail -/
theorem regj_go (B : Bx → Prop) {J : List Jb} {T : List Nat} {a0 : Act} {w0 w : World} {bs0 : List Bx} {rs0 : List Rd} (iL dL : List Nat) (hI : J.map Jb.i = iL) (hD : J.map Jb.d = dL) (k : Nat) (l0 lF : Array Bool)
    (hnd : dL.Nodup) (hni : iL.Nodup) (hlt : (dL.all fun d => decide (d < a0.tmps.size)) = true) (hjT : (iL.all fun i => !T.contains i) = true)
    (hjs : (iL.all fun i => decide (i < l0.size)) = true) (hed : edgesB ops l0 iL = true)
    (hwT : (T.all fun t => (iL.all fun i => wReach ops iL 4 t i) || T.any fun m => Region.waitsFor .any ops t m) = true)
    (hun : ((List.range l0.size).all fun j => l0.getD j true || iL.contains j || T.contains j) = true) (htl : (T.all fun j => !l0.getD j true) = true)
    (hfin : ((List.range l0.size).all fun j => lF.getD j true == !T.contains j) = true) (hTs : (T.all fun j => decide (j < l0.size)) = true) (hfsz : lF.size = l0.size)
    (hk : k < ops.size) (hseq : Region.seqB .any ops (ops.size - k) k lF = true) (hu : iL.all (fun j => !l0.getD j true) = true) (hfu : iL.length + (ops.size - k) ≤ ops.size)
    (S : Fm w0 w bs0 rs0) (hB0 : ∀ x ∈ bs0, B x)
    (mono : ∀ j ∈ J, ∀ v bs bs' rs rs', (∀ x ∈ bs, x ∈ bs') → (∀ x ∈ rs, x ∈ rs') → j.N v bs rs → j.N v bs' rs')
    (bxs : ∀ j ∈ J, j.bx = true → ∀ v bs rs, j.N v bs rs → ∃ x ∈ bs, v = .pointer (some ⟨x.b, 0, none⟩))
    (step : ∀ j ∈ J, ∃ o, ops[j.i]? = some o ∧ o.guard = none ∧ ∀ (a : Act) (w : World) (bs : List Bx) (rs : List Rd) (K : Act → World → Prop), Agree dL a0 a → Fm w0 w bs rs → (∀ x ∈ bs, B x) → (∀ x ∈ bs0, x ∈ bs) → (∀ x ∈ rs0, x ∈ rs) →
      (∀ k ∈ J, Region.waitsFor .any ops j.i k.i = true → k.N (a.eval (.tmp k.d)) bs rs) →
      (∀ v w' bs' rs', Fm w0 w' bs' rs' → (∀ x ∈ bs', B x) → (∀ x ∈ bs, x ∈ bs') → (∀ x ∈ rs, x ∈ rs') → j.N v bs' rs' → (j.bx = true → ∀ x ∈ bs, v ≠ .pointer (some ⟨x.b, 0, none⟩)) → K (a.put (some j.d) v) w') → o.wp P a w K Q)
    (h : ∀ (f : Nat → Value) (w' : World) (bs : List Bx) (rs : List Rd), Fm w0 w' bs rs → (∀ x ∈ bs0, x ∈ bs) → (∀ x ∈ rs0, x ∈ rs) → (∀ j ∈ J, j.N (f j.d) bs rs) →
      (∀ j ∈ J, ∀ k ∈ J, j.bx = true → k.bx = true → j.i ≠ k.i → f j.d ≠ f k.d) → wpList P ops Q (ops.toList.drop k) (dL.foldl (fun c d => c.put (some d) (f d)) a0) w') :
    wpAny P .any ops Q ops.size l0 a0 w := by
  have O : RegJ P ops Q B J T (ops.toList.drop k) l0 lF a0 w0 bs0 rs0 := regj_of iL dL hI hD k l0 lF hnd hni hlt hjT hjs hed hwT hun htl hfin hTs hfsz hk hseq mono bxs (by rw [hD]; exact step)
  refine regj_core O (by rw [hD]; exact h) _ _ _ _ ?_ (regj_start iL hI S hB0 htl hu)
  rw [hI]
  have h1 : iL.countP (unl l0) ≤ iL.length := List.countP_le_length
  have h2 : (ops.toList.drop k).length = ops.size - k := by simp
  omega
/-- some of the boxes and readings, in any order -/
theorem Fm.pick {w W : World} {bs : List Bx} {rs : List Rd} (h : Fm w W bs rs) (bs' : List Bx) (rs' : List Rd) (hb : ∀ x ∈ bs', x ∈ bs) (hr : ∀ x ∈ rs', x ∈ rs) (hd : bs'.Pairwise (fun x y => x.b ≠ y.b)) : Fm w W bs' rs' :=
  ⟨h.bel, allB_of fun x hx => allB_at h.bx x (hb x hx), allR_of fun x hx => allR_at h.rd x (hr x hx), fun x hx => h.lo x (hb x hx),
    fun r hr' g hg => ⟨(h.far r (hr r hr') g hg).1, fun x hx => (h.far r (hr r hr') g hg).2 x (hb x hx)⟩, hd⟩
theorem eval_raw {a : Act} {k : Nat} {v : Value} (h : a.eval (.tmp k) = v) : a.tmps[k]?.getD undef = v := by simpa [Act.eval] using h
/-- a variable that was made -/
def boxN (t : TypeId) (cs : List Value) : Value → List Bx → List Rd → Prop := fun v bs _ => ∃ g, v = .pointer (some ⟨g, 0, none⟩) ∧ (⟨g, t, cs⟩ : Bx) ∈ bs
def valN (u : Value) : Value → List Bx → List Rd → Prop := fun v _ _ => v = u
theorem boxN.fresh {w W : World} {bs : List Bx} {rs : List Rd} (S : Fm w W bs rs) : ∀ x ∈ bs, Value.pointer (some ⟨W.heap.size, 0, none⟩) ≠ .pointer (some ⟨x.b, 0, none⟩) := fun x hx e => by
  have h1 := S.b_lt hx
  injection e with e
  injection e with e
  injection e with e
  omega
end
end Go.Sv
