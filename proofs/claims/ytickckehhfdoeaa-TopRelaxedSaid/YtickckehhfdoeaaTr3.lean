/-
  One entry of a table's OK matrix is set: what the problem in memory is then.
  Conditions: those that each theorem names.
-/
import Derived.Test.YtickckehhfdoeaaTopRl

namespace Go.Sv
open Go.RowKit
def setM (m : List (List Bool)) (u v : Nat) (b : Bool) : List (List Bool) := m.set u ((mrow m u).set v b)
def setT (t : Tab) (u v : Nat) (b : Bool) : Tab := ⟨t.kind, t.src, t.dst, t.aware, setM t.ok u v b, t.rw⟩
def setP (p : Prob) (i u v : Nat) (b : Bool) : Prob := ⟨p.vs, p.now, p.tgt, p.tabs.set i (setT (tab p.tabs i) u v b)⟩
theorem setM_len (m : List (List Bool)) (u v : Nat) (b : Bool) : (setM m u v b).length = m.length := by simp [setM]
theorem mrow_set {m : List (List Bool)} {u : Nat} (hu : u < m.length) (v k : Nat) (b : Bool) : mrow (setM m u v b) k = if k = u then (mrow m u).set v b else mrow m k := by
  unfold setM mrow
  split
  · next h => subst h; simp [List.getD, hu]
  · next h => simp [List.getD, Ne.symm h]
theorem mlen_set {m : List (List Bool)} {u : Nat} (hu : u < m.length) (v k : Nat) (b : Bool) : mlen (setM m u v b) k = mlen m k := by
  unfold mlen
  rw [mrow_set hu]
  split
  · next h => subst h; simp
  · rfl
theorem mat_set {m : List (List Bool)} {u v : Nat} (hu : u < m.length) (hv : v < mlen m u) (k j : Nat) (b : Bool) : mat (setM m u v b) k j = if k = u ∧ j = v then b else mat m k j := by
  unfold mat
  rw [mrow_set hu]
  unfold mlen at hv
  by_cases h : k = u
  · subst h
    rw [if_pos rfl]
    by_cases c : j = v
    · subst c
      rw [if_pos ⟨rfl, rfl⟩]
      simp [List.getD, hv]
    · rw [if_neg (fun x => c x.2)]
      simp [List.getD, Ne.symm c]
  · rw [if_neg h, if_neg (fun x => h x.1)]
theorem tab_set {p : Prob} {i : Nat} (hi : i < p.tabs.length) (u v k : Nat) (b : Bool) : tab (setP p i u v b).tabs k = if k = i then setT (tab p.tabs i) u v b else tab p.tabs k := by
  unfold setP tab
  dsimp only
  split
  · next h => subst h; simp [List.getD, hi]
  · next h => simp [List.getD, Ne.symm h]
theorem setP_len (p : Prob) (i u v : Nat) (b : Bool) : (setP p i u v b).tabs.length = p.tabs.length := by simp [setP]
end Go.Sv
namespace Go.Proofs.Ytickckehhfdoeaa
open Go.RowKit Go.Sv
theorem own_else1 {w : World} {B : Nat} {e : TypeId} {g n c : Nat} {xs : List Value} (h : w.ownsRow B e 1 (.slice (some ⟨g, 0, none⟩) n c) n xs) {b : Nat} (hp : g ≠ b) (i : Nat) (u : Value) : (w.setCell ⟨b, i, none⟩ u).ownsRow B e 1 (.slice (some ⟨g, 0, none⟩) n c) n xs :=
  h.kept (grownBy_set w b i u) (Or.inr (fun e0 => hp (Option.some.inj e0)))
theorem own_whole {w : World} {B : Nat} {e : TypeId} {g n c : Nat} {xs : List Value} (h : w.ownsRow B e 1 (.slice (some ⟨g, 0, none⟩) n c) n xs) : ∃ cs, Whole w g e cs := by
  rcases h.2 with ⟨h1, _⟩ | ⟨g', cap, cur, h1, _, hg, _⟩
  · cases h1
  · injection h1 with h1
    injection h1 with h1
    injection h1 with h1
    subst h1
    exact ⟨cur, hg⟩
section
variable {W : World} {B : Nat} {p : Prob} {q : ProbP} {F : Nat → TabP} {G C H D : Nat → Nat → Nat} {L : Nat → Nat}
theorem MxN.ne {ts : List Tab} {n : Nat} (h : MxN W B ts F G C H D L n) {i u : Nat} (hi : i < n) (hu : u < (tab ts i).ok.length) {k x : Nat} (hk : k < n) :
    (x < (tab ts k).ok.length → (k ≠ i ∨ x ≠ u) → G k x ≠ G i u) ∧ (x < (tab ts k).rw.length → H k x ≠ G i u) := by
  have l0 := h.lg i hi u hu
  refine ⟨fun hx hne => ?_, fun hx => ?_⟩
  · have l1 := h.lg k hk x hx
    rcases Nat.lt_trichotomy k i with c | c | c
    · have := h.mo (k + 1) i (by omega) (by omega); omega
    · subst c
      rcases hne with e | e
      · exact absurd rfl e
      · rcases Nat.lt_or_gt_of_ne e with c | c
        · have := (h.mt k hk).1.up x u c hu; omega
        · have := (h.mt k hk).1.up u x c hx; omega
    · have := h.mo (i + 1) k (by omega) (by omega); omega
  · have l1 := h.lh k hk x hx
    rcases Nat.lt_trichotomy k i with c | c | c
    · have := h.mo (k + 1) i (by omega) (by omega); omega
    · subst c
      exact fun e => h.gh k hk u x hu hx e.symm
    · have := h.mo (i + 1) k (by omega) (by omega); omega
/-- an entry of a table's OK matrix is set -/
theorem PX.setOk (h : PX W B p q F G C H D L) {i u v : Nat} (hi : i < p.tabs.length) (hu : u < (tab p.tabs i).ok.length) (hv : v < mlen (tab p.tabs i).ok u) (b : Bool) :
    PX (W.setCell ⟨G i u, v, none⟩ (.bool b)) B (setP p i u v b) q F G C H D L := by
  have hr := (h.mm.mt i hi).1.r u hu
  obtain ⟨cs, hw⟩ := own_whole hr
  have hz : (W.setCell ⟨G i u, v, none⟩ (.bool b)).heap.size = W.heap.size := by simp
  have hl := setP_len p i u v b
  have eok : ∀ k, (tab (setP p i u v b).tabs k).ok.length = (tab p.tabs k).ok.length := fun k => by
    rw [tab_set hi]; split
    · next e => subst e; exact setM_len _ _ _ _
    · rfl
  have erw : ∀ k, (tab (setP p i u v b).tabs k).rw = (tab p.tabs k).rw := fun k => by
    rw [tab_set hi]; split
    · next e => subst e; rfl
    · rfl
  have eml : ∀ k x, mlen (tab (setP p i u v b).tabs k).ok x = mlen (tab p.tabs k).ok x := fun k x => by
    rw [tab_set hi]; split
    · next e => subst e; exact mlen_set hu _ _ _
    · rfl
  have etb : tbRow (setP p i u v b).tabs F = tbRow p.tabs F := by
    unfold tbRow
    rw [hl]
    congr 1
    funext k j
    rw [tab_set hi]; split
    · next e =>
      subst e
      unfold tabCells setT
      dsimp only
      rw [setM_len]
    · rfl
  refine ⟨own_set_other h.o0 hw (by decide) _ _, own_set_other h.o1 hw (by decide) _ _, own_set_other h.o2 hw (by decide) _ _, ?_, ?_⟩
  · rw [etb, hl]; exact own_set_other h.o3 hw (by decide) _ _
  · rw [hl]
    refine ⟨fun k hk => ?_, fun k hk x y hx hy => ?_, fun k hk x hx => ?_, fun k hk x hx => ?_, h.mm.mo, by rw [hz]; exact h.mm.tp⟩
    · have hm := h.mm.mt k hk
      rw [erw, eok]
      refine ⟨⟨?_, fun x hx => ?_, fun x hx => by rw [hz]; exact hm.1.lt x hx, hm.1.up⟩, ⟨own_set_other hm.2.o hw (by decide) _ _, fun x hx => own_else1 (hm.2.r x hx) ((h.mm.ne hi hu hk).2 hx) _ _, fun x hx => by rw [hz]; exact hm.2.lt x hx, hm.2.up⟩⟩
      · have e : (fun x => Value.slice (some ⟨G k x, 0, none⟩) (mlen (tab (setP p i u v b).tabs k).ok x) (C k x)) = fun x => Value.slice (some ⟨G k x, 0, none⟩) (mlen (tab p.tabs k).ok x) (C k x) := by
          funext x; rw [eml]
        rw [e]
        exact own_set_other hm.1.o hw (by decide) _ _
      · rw [eml]
        by_cases c : k = i ∧ x = u
        · obtain ⟨rfl, rfl⟩ := c
          have hs := (hr.stored v (.bool b)).1
          have e : (rowM (mlen (tab p.tabs k).ok x) fun j => Value.bool (mat (tab p.tabs k).ok x j)).set v (.bool b) = rowM (mlen (tab p.tabs k).ok x) fun j => Value.bool (mat (tab (setP p k x v b).tabs k).ok x j) := by
            refine rowM_set fun j hj => ?_
            rw [tab_set hi, if_pos rfl]
            unfold setT
            dsimp only
            rw [mat_set hu hv]
            by_cases c : j = v
            · rw [if_pos ⟨rfl, c⟩, if_pos c]
            · rw [if_neg (fun e => c e.2), if_neg c]
          rw [e] at hs
          exact hs
        · have e : (rowM (mlen (tab p.tabs k).ok x) fun j => Value.bool (mat (tab (setP p i u v b).tabs k).ok x j)) = rowM (mlen (tab p.tabs k).ok x) fun j => Value.bool (mat (tab p.tabs k).ok x j) := by
            congr 1
            funext j
            rw [tab_set hi]; split
            · next e =>
              subst e
              unfold setT
              dsimp only
              rw [mat_set hu hv, if_neg (fun e => c ⟨rfl, e.1⟩)]
            · rfl
          rw [e]
          exact own_else1 (hm.1.r x hx) ((h.mm.ne hi hu hk).1 hx ((Classical.em (k = i)).elim (fun e => Or.inr (fun e2 => c ⟨e, e2⟩)) Or.inl)) _ _
    · rw [eok] at hx; rw [erw] at hy; exact h.mm.gh k hk x y hx hy
    · rw [eok] at hx; exact h.mm.lg k hk x hx
    · rw [erw] at hx; exact h.mm.lh k hk x hx
end
end Go.Proofs.Ytickckehhfdoeaa

namespace Go.Sv
open Go.RowKit
theorem sq_set {m : List (List Bool)} {u : Nat} (hu : u < m.length) (v : Nat) (b : Bool) (n k : Int) : sq (setM m u v b) n k = sq m n k := by
  unfold sq
  rw [setM_len]
  congr 1
  simp only [mlen_set hu]
theorem tabE_set {t : Tab} {u : Nat} (hu : u < t.ok.length) (v : Nat) (b : Bool) (vs : List Int) : tabE vs (setT t u v b) = tabE vs t := by
  unfold tabE setT
  dsimp only
  rw [sq_set hu]
theorem tabsE_set {p : Prob} {i u : Nat} (hi : i < p.tabs.length) (hu : u < (tab p.tabs i).ok.length) (v : Nat) (b : Bool) : ∀ (f k : Nat), tabsE (setP p i u v b) k f = tabsE p k f
  | 0, _ => rfl
  | f + 1, k => by
    have e : tabE (setP p i u v b).vs (tab (setP p i u v b).tabs k) = tabE p.vs (tab p.tabs k) := by
      rw [tab_set hi]
      split
      · next e => subst e; exact tabE_set hu _ _ _
      · rfl
    unfold tabsE
    rw [e, tabsE_set hi hu v b f (k + 1)]
theorem probE_set {p : Prob} {i u : Nat} (hi : i < p.tabs.length) (hu : u < (tab p.tabs i).ok.length) (v : Nat) (b : Bool) : probE (setP p i u v b) = probE p := by
  have h1 := tabsE_set hi hu v b p.tabs.length 0
  unfold probE
  rw [setP_len, h1]
  rfl
/-- r is p with more entries OK, and as sound as p -/
structure RX (p r : Prob) : Prop where
  rl : Rlx p r
  e0 : probE r = 0
  bd : PBd r
  okl : ∀ k, (tab r.tabs k).ok.length = (tab p.tabs k).ok.length
  oml : ∀ k x, mlen (tab r.tabs k).ok x = mlen (tab p.tabs k).ok x
theorem RX.refl {p : Prob} (h0 : probE p = 0) (hb : PBd p) : RX p p :=
  ⟨⟨rfl, rfl, rfl, rfl, fun _ _ => ⟨rfl, rfl, rfl, rfl, fun _ _ h => h⟩, fun _ _ => rfl⟩, h0, hb, fun _ => rfl, fun _ _ => rfl⟩
theorem RX.set {p r : Prob} (h : RX p r) {i u v : Nat} (hi : i < p.tabs.length) (hu : u < (tab p.tabs i).ok.length) (hv : v < mlen (tab p.tabs i).ok u) (b : Bool) : RX p (setP r i u v (mat (tab r.tabs i).ok u v || b)) := by
  have hi' : i < r.tabs.length := by rw [h.rl.tl]; exact hi
  have hu' : u < (tab r.tabs i).ok.length := by rw [h.okl]; exact hu
  have hv' : v < mlen (tab r.tabs i).ok u := by rw [h.oml]; exact hv
  have hl := setP_len r i u v (mat (tab r.tabs i).ok u v || b)
  refine ⟨⟨h.rl.vs, h.rl.now, h.rl.tgt, by rw [hl]; exact h.rl.tl, fun k hk => ?_, fun k hk => ?_⟩, by rw [probE_set hi' hu']; exact h.e0, ⟨h.bd.b0, h.bd.b1, h.bd.b2, by rw [hl]; exact h.bd.b3, fun k hk => ?_⟩, fun k => ?_, fun k x => ?_⟩
  · have ht := h.rl.tt k hk
    rw [tab_set hi']
    split
    · next e =>
      subst e
      refine ⟨ht.1, ht.2.1, ht.2.2.1, ht.2.2.2.1, fun x y hxy => ?_⟩
      have h1 := ht.2.2.2.2 x y hxy
      unfold setT
      dsimp only
      rw [mat_set hu' hv']
      split
      · next e => obtain ⟨rfl, rfl⟩ := e; rw [h1]; rfl
      · exact h1
    · exact ht
  · rw [tab_set hi']
    split
    · next e => subst e; exact h.rl.rw k hk
    · exact h.rl.rw k hk
  · rw [hl] at hk
    rw [tab_set hi']
    split
    · next e => subst e; exact ⟨by unfold setT; dsimp only; rw [setM_len]; exact (h.bd.bt k hk).1, (h.bd.bt k hk).2⟩
    · exact h.bd.bt k hk
  · rw [tab_set hi', ← h.okl k]
    split
    · next e => subst e; exact setM_len _ _ _ _
    · rfl
  · rw [tab_set hi', ← h.oml k x]
    split
    · next e => subst e; exact mlen_set hu' _ _ _
    · rfl
end Go.Sv
namespace Go.Proofs.Ytickckehhfdoeaa
open Go.RowKit Go.Sv
/-- what the triple loop keeps -/
structure RlI (p : Prob) (w w3 : World) (b4 : Nat) (qp : ProbP) (F : Nat → TabP) (G C H D : Nat → Nat → Nat) (L : Nat → Nat) (R : List Bx) (ρ : Prob) (wr : World) : Prop where
  rx : RX p ρ
  px : PX wr w3.heap.size ρ qp F G C H D L
  fm : Fm w wr (⟨b4, 39, [.slice qp.a0 p.vs.length qp.c0, .slice qp.a1 p.now.length qp.c1, .slice qp.a2 p.tgt.length qp.c2, .slice qp.a3 p.tabs.length qp.c3]⟩ :: R) []
  bel : Below w3.heap.size w3 wr
  lt : L p.tabs.length ≤ b4
  hR : ∀ x ∈ R, x.b < w3.heap.size
  hw : w.heap.size ≤ w3.heap.size
section
variable {p ρ : Prob} {w w3 wr : World} {b4 : Nat} {qp : ProbP} {F : Nat → TabP} {G C H D : Nat → Nat → Nat} {L : Nat → Nat} {R : List Bx}
theorem RlI.blk (h : RlI p w w3 b4 qp F G C H D L R ρ wr) {i u : Nat} (hi : i < p.tabs.length) (hu : u < (tab p.tabs i).ok.length) : w3.heap.size ≤ G i u ∧ G i u < b4 ∧ G i u < wr.heap.size := by
  have hi' : i < ρ.tabs.length := by rw [h.rx.rl.tl]; exact hi
  have hu' : u < (tab ρ.tabs i).ok.length := by rw [h.rx.okl]; exact hu
  have h1 := (h.px.mm.mt i hi').1.lt u hu'
  have h2 := (h.px.mm.lg i hi' u hu').2
  have h3 := h.px.mm.mo (i + 1) ρ.tabs.length hi' (Nat.le_refl _)
  have h4 := h.lt
  rw [← h.rx.rl.tl] at h4
  exact ⟨h1.1, by omega, h1.2⟩
theorem RlI.set (h : RlI p w w3 b4 qp F G C H D L R ρ wr) {i u v : Nat} (hi : i < p.tabs.length) (hu : u < (tab p.tabs i).ok.length) (hv : v < mlen (tab p.tabs i).ok u) (b : Bool) :
    RlI p w w3 b4 qp F G C H D L R (setP ρ i u v (mat (tab ρ.tabs i).ok u v || b)) (wr.setCell ⟨G i u, v, none⟩ (.bool (mat (tab ρ.tabs i).ok u v || b))) := by
  have hi' : i < ρ.tabs.length := by rw [h.rx.rl.tl]; exact hi
  have hu' : u < (tab ρ.tabs i).ok.length := by rw [h.rx.okl]; exact hu
  have hv' : v < mlen (tab ρ.tabs i).ok u := by rw [h.rx.oml]; exact hv
  obtain ⟨b1, b2, b3⟩ := h.blk hi hu
  have hw := h.hw
  refine ⟨h.rx.set hi hu hv b, h.px.setOk hi' hu' hv' _, h.fm.off (p := ⟨G i u, v, none⟩) (by show w.heap.size ≤ G i u; omega) (fun x hx => ?_) _, h.bel.setCell b1 _, h.lt, h.hR, hw⟩
  rcases List.mem_cons.1 hx with rfl | hx
  · show b4 ≠ G i u; omega
  · have := h.hR x hx
    show x.b ≠ G i u; omega
theorem own_wholeS {W : World} {B s : Nat} {e : TypeId} {g o n c : Nat} {xs : List Value} (h : W.ownsRow B e s (.slice (some ⟨g, o, none⟩) n c) n xs) : ∃ cs, Whole W g e cs := by
  rcases h.2 with ⟨h1, _⟩ | ⟨g', cap, cur, h1, _, hg, _⟩
  · cases h1
  · injection h1 with h1
    injection h1 with h1
    injection h1 with h1
    subst h1
    exact ⟨cur, hg⟩
theorem whole_ne {W : World} {g g' : Nat} {e e' : TypeId} {cs cs' : Array Value} (h : Whole W g e cs) (h' : Whole W g' e' cs') (he : e ≠ e') : g ≠ g' := fun x => by
  subst x
  have h1 : W.heap[g]? = _ := h
  have h2 : W.heap[g]? = _ := h'
  rw [h1] at h2
  injection h2 with h2
  injection h2 with _ h2 _
  exact he h2
theorem RlI.a3 (h : RlI p w w3 b4 qp F G C H D L R ρ wr) (hi : 0 < p.tabs.length) : ∃ g3, qp.a3 = some ⟨g3, 0, none⟩ := by
  rcases h.px.o3.2 with ⟨h1, _⟩ | ⟨g', cap, cur, h1, _⟩
  · have := h.px.o3.1
    injection h1 with h1 h2 h3
    rw [← h.rx.rl.tl] at hi
    omega
  · injection h1 with h1
    exact ⟨g', h1⟩
theorem RlI.a4 (h : RlI p w w3 b4 qp F G C H D L R ρ wr) {i : Nat} (hi : i < p.tabs.length) (hu : 0 < (tab p.tabs i).ok.length) : ∃ g4, (F i).okA = some ⟨g4, 0, none⟩ := by
  have hi' : i < ρ.tabs.length := by rw [h.rx.rl.tl]; exact hi
  rcases (h.px.mm.mt i hi').1.o.2 with ⟨h1, _⟩ | ⟨g', cap, cur, h1, _⟩
  · injection h1 with h1 h2 h3
    rw [← h.rx.okl] at hu
    omega
  · injection h1 with h1
    exact ⟨g', h1⟩
theorem RlI.t3 (h : RlI p w w3 b4 qp F G C H D L R ρ wr) {i g3 : Nat} (hi : i < p.tabs.length) (e : qp.a3 = some ⟨g3, 0, none⟩) :
    wr.cell? ⟨g3, i * 6 + 4, none⟩ = some (.slice (F i).okA (tab p.tabs i).ok.length (F i).okC) ∧ ∀ u, u < (tab p.tabs i).ok.length → g3 ≠ G i u := by
  have hi' : i < ρ.tabs.length := by rw [h.rx.rl.tl]; exact hi
  have h3 := h.px.o3
  rw [e] at h3
  refine ⟨?_, fun u hu => ?_⟩
  · have h1 := h3.cellAt (i * 6 + 4) (by omega)
    unfold tbRow at h1
    rw [rowN_get hi' (by decide)] at h1
    rw [h1]
    unfold tabCells
    rw [h.rx.okl]
    rfl
  · have hu' : u < (tab ρ.tabs i).ok.length := by rw [h.rx.okl]; exact hu
    obtain ⟨cs, h1⟩ := own_wholeS h3
    obtain ⟨cs2, h2⟩ := own_wholeS ((h.px.mm.mt i hi').1.r u hu')
    exact whole_ne h1 h2 (by decide)
theorem RlI.t4 (h : RlI p w w3 b4 qp F G C H D L R ρ wr) {i g4 u : Nat} (hi : i < p.tabs.length) (hu : u < (tab p.tabs i).ok.length) (e : (F i).okA = some ⟨g4, 0, none⟩) :
    wr.cell? ⟨g4, u, none⟩ = some (.slice (some ⟨G i u, 0, none⟩) (mlen (tab p.tabs i).ok u) (C i u)) ∧ g4 ≠ G i u := by
  have hi' : i < ρ.tabs.length := by rw [h.rx.rl.tl]; exact hi
  have hu' : u < (tab ρ.tabs i).ok.length := by rw [h.rx.okl]; exact hu
  have h4 := (h.px.mm.mt i hi').1
  have h5 := h4.o
  rw [e] at h5
  refine ⟨?_, ?_⟩
  · have h1 := h5.cellAt u (by omega)
    rw [rowM_get hu'] at h1
    rw [h1, h.rx.oml]
  · obtain ⟨cs, h1⟩ := own_wholeS h5
    obtain ⟨cs2, h2⟩ := own_wholeS (h4.r u hu')
    exact whole_ne h1 h2 (by decide)
theorem RlI.t5 (h : RlI p w w3 b4 qp F G C H D L R ρ wr) {i u v : Nat} (hi : i < p.tabs.length) (hu : u < (tab p.tabs i).ok.length) (hv : v < mlen (tab p.tabs i).ok u) :
    wr.cell? ⟨G i u, v, none⟩ = some (.bool (mat (tab ρ.tabs i).ok u v)) ∧ wr.frozen? ⟨G i u, v, none⟩ = false := by
  have hi' : i < ρ.tabs.length := by rw [h.rx.rl.tl]; exact hi
  have hu' : u < (tab ρ.tabs i).ok.length := by rw [h.rx.okl]; exact hu
  have hv' : v < mlen (tab ρ.tabs i).ok u := by rw [h.rx.oml]; exact hv
  have h4 := (h.px.mm.mt i hi').1.r u hu'
  refine ⟨?_, h4.frozenAt v⟩
  have h1 := h4.cellAt v (by omega)
  rw [rowM_get hv'] at h1
  exact h1
end
end Go.Proofs.Ytickckehhfdoeaa

namespace Go.Proofs.Ytickckehhfdoeaa
open Go.RowKit Go.Sv
theorem dMix_h8t {p : Prob} (e : DMx) (hp : probE p = 0) : H8 (dMix p e) := by
  refine h8_of (dMix_ok e hp) fun i hi => ?_
  have hi' : i < p.tabs.length := by have := (dMix_ok e hp).lh; omega
  have : gi (dMix p e).held i = dmH p e i := gi_map hi'
  rw [this]
  unfold dmH
  split <;> omega
theorem ix_goal {p : Prob} {l : List Nd} {k : Nat} (h : ixO p l = some k) : k < l.length ∧ goalB p (ndAt l k).m = true := by
  unfold ixO at h
  rw [List.findIdx?_eq_some_iff_getElem] at h
  obtain ⟨h1, h2, _⟩ := h
  exact ⟨h1, by simpa [ndAt, h1] using h2⟩
theorem fro_chk {p ρ : Prob} (h : RX p ρ) (he : (frO p (stMx p)).2 = 0) : chkB ρ (frO p (stMx p)).1 = true := by
  unfold frO at he ⊢
  split at he
  · cases he
  · next hr =>
    rw [if_neg hr]
    have h0 : robB p (stMx p) = true := by simpa using hr
    split at he
    · cases he
    · next g hg =>
      try rw [hg]
      try dsimp only
      split at he
      · cases he
      · next i hi =>
        try rw [hi]
        try dsimp only
        exact find_plan h.rl (fun m s hs => en_step hs) h0 hg (ix_goal hi).1 (ix_goal hi).2
theorem rgRow_len {ap : Mx → Sp → Mx} {rob : Mx → Bool} {most i : Nat} : ∀ (l : List Sp) (g k : Rg), g.nds.length ≤ most → rgRow ap rob most i g l = some k → k.nds.length ≤ most
  | [], g, k, h, e => by
    unfold rgRow at e
    injection e with e
    rw [← e]; exact h
  | s :: r, g, k, _, e => by
    unfold rgRow at e
    dsimp only at e
    split at e
    · cases e
    · exact rgRow_len r _ k (by omega) e
theorem rgAll_len {st : Mx → List Sp} {ap : Mx → Sp → Mx} {rob : Mx → Bool} {most : Nat} : ∀ (f i : Nat) (g k : Rg), g.nds.length ≤ most → rgAll st ap rob most f i g = some k → k.nds.length ≤ most
  | 0, i, g, k, h, e => by
    unfold rgAll at e
    injection e with e
    rw [← e]; exact h
  | f + 1, i, g, k, h, e => by
    unfold rgAll at e
    split at e
    · split at e
      · cases e
      · next x hx => exact rgAll_len f (i + 1) x k (rgRow_len _ _ _ h hx) e
    · injection e with e
      rw [← e]; exact h
theorem fro_len (p : Prob) (m : Mx) : (frO p m).1.length ≤ 1000000 := by
  unfold frO
  split
  · exact Nat.zero_le _
  · split
    · exact Nat.zero_le _
    · next g hg =>
      split
      · exact Nat.zero_le _
      · have h1 := rgAll_len _ _ _ g (show (rgStart m).nds.length ≤ mostN by show (1 : Nat) ≤ 20000; decide) hg
        have h2 : g.nds.length ≤ 20000 := h1
        rw [List.length_reverse]
        exact Nat.le_trans (way_len _ _) (by omega)
end Go.Proofs.Ytickckehhfdoeaa
