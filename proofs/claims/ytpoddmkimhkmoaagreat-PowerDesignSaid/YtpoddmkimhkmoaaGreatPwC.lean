/-
  CONTRACT of power.counts: the table of the numbers of lists, in memory of the call's own.
  Conditions: the test is valid.
-/
import Derived.Test.YtpoddmkimhkmoaaGreatPb4
import Derived.StillTailTactics
namespace Go.Proofs.YtpoddmkimhkmoaaGreat
open Go.RowKit Go.Sv Go.Pw
theorem elRows : ElemT Tryz.prog 44 51 (.slice none 0 0) 1 24 := ⟨Tryz.underlying44, by kernel_rfl, rfl, by decide⟩
theorem elNats : ElemT Tryz.prog 51 24 (.agg #[.slice none 0 0]) 1 24 := ⟨Tryz.underlying51, by kernel_rfl, rfl, by decide⟩
/-- the slices of k rows -/
def rowsV (G : Nat → Nat) (k : Nat) : List Value := (List.range k).map fun i => .slice (some ⟨G i, 0, none⟩) (i + 1) (i + 1)
theorem rowsV_succ (G : Nat → Nat) (k : Nat) : rowsV G (k + 1) = rowsV G k ++ [.slice (some ⟨G k, 0, none⟩) (k + 1) (k + 1)] := by simp [rowsV, List.range_succ]
theorem rowsV_get {G : Nat → Nat} {k i : Nat} (h : i < k) : (rowsV G k)[i]? = some (.slice (some ⟨G i, 0, none⟩) (i + 1) (i + 1)) := by simp [rowsV, h]
def upd {α : Type} (f : Nat → α) (m : Nat) (x : α) : Nat → α := fun j => if j = m then x else f j
theorem upd_at {α : Type} (f : Nat → α) (m : Nat) (x : α) : upd f m x m = x := if_pos rfl
theorem upd_ne {α : Type} (f : Nat → α) {m j : Nat} (x : α) (h : j ≠ m) : upd f m x j = f j := if_neg h
theorem rowsV_upd (G : Nat → Nat) (k g : Nat) : rowsV (upd G k g) k = rowsV G k := by
  unfold rowsV
  refine List.map_congr_left fun i hi => ?_
  rw [upd_ne G g (by have := List.mem_range.1 hi; omega)]
theorem own_wide {w : World} {base base' size n : Nat} {e : TypeId} {v : Value} {xs : List Value} (h : w.ownsRow base e size v n xs) (hb : base' ≤ base) : w.ownsRow base' e size v n xs :=
  ⟨h.1, h.2.imp id fun ⟨g, cap, cur, e1, e2, r⟩ => ⟨g, cap, cur, e1, Nat.le_trans hb e2, r⟩⟩
/-- k rows behind a slice of the call's own -/
structure CTab (w : World) (base : Nat) (v : Value) (k : Nat) (L : Nat → Nat → List Int) (G : Nat → Nat) (Q : Nat → Nat → LmP) : Prop where
  own : w.ownsRow base 51 1 v k (rowsV G k)
  blk : ∀ i, i < k → Blk w (G i) 24 (i + 1) (fun f => numC (L i f) (Q i f))
  num : ∀ i, i < k → ∀ f, f ≤ i → RLm w w.heap.size (L i f) (Q i f)
  fr : ∀ i, i < k → ∀ f, f ≤ i → Fr base (Q i f)
  lo : ∀ i, i < k → base ≤ G i
  ne : ∀ i, i < k → v.ownBlock ≠ some (G i)
  inj : ∀ i j, i < j → j < k → G i < G j
  nne : ∀ i, i < k → ∀ f, f ≤ i → 0 < (L i f).length → ∀ a, (Q i f).a = some a → v.ownBlock ≠ some a.block
section
variable {w w' : World} {base k : Nat} {v : Value} {L : Nat → Nat → List Int} {G : Nat → Nat} {Q : Nat → Nat → LmP}
theorem CTab.to (h : CTab w base v k L G Q) (hb : Below w.heap.size w w') : CTab w' base v k L G Q :=
  ⟨own_to h.own hb, fun i hi => (h.blk i hi).to hb, fun i hi f hf => (h.num i hi f hf).to hb, h.fr, h.lo, h.ne, h.inj, h.nne⟩
theorem CTab.wide {base' : Nat} (h : CTab w base v k L G Q) (hb : base' ≤ base) : CTab w base' v k L G Q :=
  ⟨own_wide h.own hb, h.blk, h.num, fun i hi f hf => (h.fr i hi f hf).le hb, fun i hi => Nat.le_trans hb (h.lo i hi), h.ne, h.inj, h.nne⟩
end
/-- a row under way -/
structure RowS (wr : World) (g n : Nat) (L : Nat → List Int) (P : Nat → LmP) (w : World) : Prop where
  bel : Below wr.heap.size wr w
  gg : wr.heap.size ≤ g
  blk : Blk w g 24 n (fun j => numC (L j) (P j))
  num : ∀ j, j < n → RLm w w.heap.size (L j) (P j)
  fr : ∀ j, j < n → Fr wr.heap.size (P j)
section
variable {wr w w' : World} {g n : Nat} {L : Nat → List Int} {P : Nat → LmP}
theorem RowS.to (h : RowS wr g n L P w) (hb : Below w.heap.size w w') : RowS wr g n L P w' :=
  ⟨below_of h.bel h.bel.size hb, h.gg, h.blk.to hb, fun j hj => (h.num j hj).to hb, h.fr⟩
theorem RowS.congr {L' : Nat → List Int} (h : RowS wr g n L P w) (hl : ∀ j, j < n → L j = L' j) : RowS wr g n L' P w :=
  ⟨h.bel, h.gg, h.blk.congr fun j hj => by rw [hl j hj], fun j hj => by rw [← hl j hj]; exact h.num j hj, h.fr⟩
theorem RowS.set (h : RowS wr g n L P w) {m : Nat} {l : List Int} {q : LmP} (hr : RLm w w.heap.size l q) (hf : Fr wr.heap.size q) : RowS wr g n (upd L m l) (upd P m q) (w.setCell ⟨g, m, none⟩ (numC l q)) := by
  have far : ∀ l q, RLm w w.heap.size l q → RLm (w.setCell ⟨g, m, none⟩ (numC l q)) (w.setCell ⟨g, m, none⟩ (numC l q)).heap.size l q := fun l q hr => by
    have := rlm_far (u := numC l q) (i := m) hr (rlm_ne_blk hr h.blk fun k _ z => numC_no _ _ z)
    simpa using this
  have far2 : ∀ l2 q2, RLm w w.heap.size l2 q2 → RLm (w.setCell ⟨g, m, none⟩ (numC l q)) (w.setCell ⟨g, m, none⟩ (numC l q)).heap.size l2 q2 := fun l2 q2 hr2 => by
    have := rlm_far (u := numC l q) (i := m) hr2 (rlm_ne_blk hr2 h.blk fun k _ z => numC_no _ _ z)
    simpa using this
  refine ⟨h.bel.setCell h.gg _, h.gg, (h.blk.set m (numC l q)).congr fun k hk => ?_, fun j hj => ?_, fun j hj => ?_⟩
  · by_cases e : k = m
    · subst e; rw [if_pos rfl, upd_at, upd_at]
    · rw [if_neg e, upd_ne _ _ e, upd_ne _ _ e]
  · by_cases e : j = m
    · subst e; rw [upd_at, upd_at]; exact far2 _ _ hr
    · rw [upd_ne _ _ e, upd_ne _ _ e]; exact far2 _ _ (h.num j hj)
  · by_cases e : j = m
    · subst e; rw [upd_at]; exact hf
    · rw [upd_ne _ _ e]; exact h.fr j hj
theorem RowS.new (w : World) (n : Nat) : RowS w w.heap.size n (fun _ => []) (fun _ => ⟨none, 0⟩) (w.alloc (.cells (madeCells #[.slice none 0 0] n) 24)) :=
  ⟨(Below.refl _ _).alloc (Nat.le_refl _) _, Nat.le_refl _, Blk.made w _ _ n, fun _ _ => RLm.none_ _ _, fun _ _ => Fr.none_ _⟩
/-- the second store of a round -/
theorem RowS.fin {V : Nat → Nat → Int} {n m : Nat} {P : Nat → LmP} {w : World} {r : LmP} (h : RowS wr g (n + 2) (upd (fun j => lim (rpS V n m j)) m (lim (rpS V n m m + C V n m))) P w) (hlive : liveC V n m = C V n m)
    (h2 : RLm w w.heap.size (lim (rpS V n m (m + 1) + C V n m)) r) (f2 : Fr wr.heap.size r) :
    RowS wr g (n + 2) (fun j => lim (rpS V n (m + 1) j)) (upd P (m + 1) r) (w.setCell ⟨g, m + 1, none⟩ (numC (lim (rpS V n m (m + 1) + C V n m)) r)) := by
  refine (h.set (m := m + 1) h2 f2).congr fun j hj => ?_
  by_cases e : j = m + 1
  · subst e; rw [upd_at, rpS_up, hlive]
  · rw [upd_ne _ _ e]
    by_cases e2 : j = m
    · subst e2; rw [upd_at, rpS_at, hlive]
    · rw [upd_ne _ _ e2, rpS_else V e2 e]
theorem RowS.skip {V : Nat → Nat → Int} {n m : Nat} {P : Nat → LmP} {w w' : World} (h : RowS wr g (n + 2) (fun j => lim (rpS V n m j)) P w) (hd : liveC V n m = 0) (hb : Below w.heap.size w w') :
    RowS wr g (n + 2) (fun j => lim (rpS V n (m + 1) j)) P w' :=
  (h.to hb).congr fun j _ => by rw [rpS_dead V hd]
end
/-- a row is added -/
theorem CTab.push {w wr w1 : World} {base k : Nat} {v v' : Value} {V : Nat → Nat → Int} {G : Nat → Nat} {Q : Nat → Nat → LmP} {g : Nat} {P : Nat → LmP} {o : Obj}
    (h : CTab wr base v (k + 1) (fun i f => lim (C V i f)) G Q) (hr : RowS wr g (k + 2) (fun j => lim (rpS V k (k + 1) j)) P w) (hbase : base ≤ wr.heap.size)
    (hown : w1.ownsRow base 51 1 v' (k + 1 + 1) (rowsV G (k + 1) ++ [.slice (some ⟨g, 0, none⟩) (k + 2) (k + 2)])) (hg : (w.alloc o).grownBy w1 v.ownBlock)
    (hor : v'.ownBlock = v.ownBlock ∨ v'.ownBlock = some (w.heap.size + 1)) :
    CTab w1 base v' (k + 2) (fun i f => lim (C V i f)) (upd G (k + 1) g) (fun i => if i = k + 1 then P else Q i) := by
  have h2 := h.to hr.bel
  have hlo := hr.gg
  have gw : g < w.heap.size := hr.blk.lt
  have vlt : ∀ b, v.ownBlock = some b → b < wr.heap.size := fun b hb => (h.own.lt b hb).2
  have cell : ∀ (p : Addr), p.block < w.heap.size → v.ownBlock ≠ some p.block → w1.cell? p = w.cell? p := fun p hp hne => by
    have e : w1.cell? p = (w.alloc o).cell? p := by
      unfold World.cell?
      rw [hg.block p.block (by simp; omega) (fun e => hne e.symm)]
    rw [e]
    exact ((Below.refl w.heap.size w).alloc (Nat.le_refl _) o).cell hp
  have blkk : ∀ {b n : Nat} {f : Nat → Value}, Blk w b 24 n f → v.ownBlock ≠ some b → Blk w1 b 24 n f := fun {b n f} hb hne => by
    obtain ⟨cs, hw, hs, hc⟩ := hb
    refine ⟨cs, ?_, hs, hc⟩
    have e1 : (w.alloc o).heap[b]? = w.heap[b]? := Below.heap_alloc _ o _ hw.lt
    have := hg.block b (by have := hw.lt; simp; omega) (fun e => hne e.symm)
    show w1.heap[b]? = _
    rw [this, e1]
    exact hw
  have hsz : w.heap.size ≤ w1.heap.size := by have := hg.size; simp at this; omega
  have numk : ∀ {l : List Int} {q : LmP}, RLm w w.heap.size l q → (0 < l.length → ∀ a, q.a = some a → v.ownBlock ≠ some a.block) → RLm w1 w1.heap.size l q := fun {l q} hq hne => by
    refine ⟨fun hl => ?_, hq.nil, hq.cap, hq.cmx⟩
    obtain ⟨b, off, e1, h3, hc⟩ := hq.arr hl
    exact ⟨b, off, e1, by omega, fun j hj => (cell ⟨b, off + j, none⟩ h3 (hne hl ⟨b, off, none⟩ e1)).trans (hc j hj)⟩
  refine ⟨?_, fun i hi => ?_, fun i hi f hf => ?_, fun i hi f hf => ?_, fun i hi => ?_, fun i hi => ?_, fun i j hij hj => ?_, fun i hi f hf hl a ha => ?_⟩
  · rw [rowsV_succ, rowsV_upd, upd_at]; exact hown
  · by_cases e : i = k + 1
    · subst e
      rw [upd_at, if_pos rfl]
      refine (blkk hr.blk fun e => by have := vlt _ e; omega).congr fun f hf => ?_
      rw [rpS_end]
    · rw [upd_ne _ _ e, if_neg e]
      exact blkk (h2.blk i (by omega)) (h.ne i (by omega))
  · by_cases e : i = k + 1
    · subst e
      rw [if_pos rfl, ← rpS_end]
      exact numk (hr.num f (by omega)) (fun _ a ha e => by have := vlt _ e; have := hr.fr f (by omega) a ha; omega)
    · rw [if_neg e]
      exact numk (h2.num i (by omega) f hf) (fun hl a ha => h.nne i (by omega) f hf hl a ha)
  · by_cases e : i = k + 1
    · subst e
      rw [if_pos rfl]; exact (hr.fr f (by omega)).le hbase
    · rw [if_neg e]; exact h.fr i (by omega) f hf
  · by_cases e : i = k + 1
    · subst e; rw [upd_at]; omega
    · rw [upd_ne _ _ e]; exact h.lo i (by omega)
  · by_cases e : i = k + 1
    · subst e
      rw [upd_at]
      rcases hor with e2 | e2 <;> rw [e2]
      · intro e3; have := vlt _ e3; omega
      · intro e3; injection e3 with e3; omega
    · rw [upd_ne _ _ e]
      have hl : G i < wr.heap.size := (h.blk i (by omega)).lt
      have := hr.bel.size
      rcases hor with e2 | e2 <;> rw [e2]
      · exact h.ne i (by omega)
      · intro e3; injection e3 with e3; omega
  · by_cases e : j = k + 1
    · subst e
      rw [upd_at, upd_ne _ _ (by omega)]
      have := (h.blk i (by omega)).lt
      omega
    · rw [upd_ne _ _ e, upd_ne _ _ (by omega)]
      exact h.inj i j hij (by omega)
  · by_cases e : i = k + 1
    · subst e
      rw [if_pos rfl] at ha
      have p2 := hr.fr f (by omega) a ha
      have p3 : a.block < w.heap.size := by
        obtain ⟨b, off, e1, h3, _⟩ := (hr.num f (by omega)).arr (by rw [rpS_end]; exact hl)
        rw [e1] at ha
        injection ha with ha
        subst ha
        exact h3
      rcases hor with e2 | e2 <;> rw [e2]
      · intro e3; have := vlt _ e3; omega
      · intro e3; injection e3 with e3; omega
    · rw [if_neg e] at ha
      have p1 := h.nne i (by omega) f hf hl a ha
      have p3 : a.block < wr.heap.size := by
        obtain ⟨b, off, e1, h3, _⟩ := (h.num i (by omega) f hf).arr hl
        rw [e1] at ha
        injection ha with ha
        subst ha
        exact h3
      have := hr.bel.size
      rcases hor with e2 | e2 <;> rw [e2]
      · exact p1
      · intro e3; injection e3 with e3; omega

theorem mk_nums (n : Nat) (hn : n ≤ 1000) {x : Int} (hx : x = n) : ∃ O : Obj, (∀ w : World, (Instr.makeSlice 51 (.int .i64 x) (.int .i64 x)).run Tryz.prog w = .ok (.slice (some ⟨w.heap.size, 0, none⟩) n n) (w.alloc O)) ∧ ∀ w : World, RowS w w.heap.size n (fun _ => []) (fun _ => ⟨none, 0⟩) (w.alloc O) := by
  subst hx
  refine ⟨.cells (madeCells #[.slice none 0 0] n) 24, fun w => ?_, fun w => RowS.new w n⟩
  obtain ⟨i, hi, e1, e2, e3⟩ := info_parts elNats.hi
  have := run_make (P := Tryz.prog) w _ _ i _ elNats.ht hi e1 .i64 .i64 n n (by omega) (Int.le_refl _) (by rw [e3]; omega) (by omega)
  rw [e2, Nat.mul_one, Int.toNat_natCast] at this
  exact this
theorem CTab.start {B : Nat} {w1 : World} (V : Nat → Nat → Int) {q1 : LmP} (hr : RLm w1 w1.heap.size (lim 1) q1) (hf : Fr B q1) (hs : B ≤ w1.heap.size) :
    CTab ((w1.alloc (.cells #[.slice q1.a (lim 1).length q1.c] 24)).alloc (.cells #[.slice (some ⟨w1.heap.size, 0, none⟩) 1 1] 51)) B (.slice (some ⟨w1.heap.size + 1, 0, none⟩) 1 1) 1 (fun i f => lim (C V i f)) (fun _ => w1.heap.size) (fun _ _ => q1) := by
  have hb1 : Below w1.heap.size w1 (w1.alloc (.cells #[.slice q1.a (lim 1).length q1.c] 24)) := (Below.refl _ _).alloc (Nat.le_refl _) _
  have e0 : (w1.alloc (.cells #[.slice q1.a (lim 1).length q1.c] 24)).heap.size = w1.heap.size + 1 := by simp
  have L0 : ∀ i f : Nat, i < 1 → f ≤ i → lim (C V i f) = lim 1 := fun i f hi hf => by
    obtain rfl : i = 0 := by omega
    obtain rfl : f = 0 := by omega
    rfl
  refine ⟨?_, fun i hi => ?_, fun i hi f hf => ?_, fun i hi f hf2 => hf, fun i hi => hs, fun i hi e => ?_, fun i j h1 h2 => by omega, fun i hi f hf2 hl a ha e => ?_⟩
  · have := World.ownsRow_lit (e := 51) (base := B) (size := 1) (w1.alloc (.cells #[.slice q1.a (lim 1).length q1.c] 24)) #[.slice (some ⟨w1.heap.size, 0, none⟩) 1 1] 1 (by omega) (by unfold maxLen; omega) rfl
    rw [e0] at this
    exact this
  · refine Blk.alloc ?_ _
    obtain rfl : i = 0 := by omega
    refine ⟨_, Whole.new w1 24 _, rfl, fun k hk => ?_⟩
    obtain rfl : k = 0 := by omega
    rfl
  · rw [L0 i f hi hf]
    exact (hr.to hb1).to ((Below.refl _ _).alloc (Nat.le_refl _) _)
  · injection e with e
    have e : w1.heap.size + 1 = w1.heap.size := e
    omega
  · injection e with e
    have e : w1.heap.size + 1 = a.block := e
    rw [L0 i f hi hf2] at hl
    obtain ⟨b, off, e1, h3, _⟩ := hr.arr hl
    rw [e1] at ha
    injection ha with ha
    subst ha
    have : w1.heap.size + 1 = b := e
    omega
/-- what counts leaves -/
def CRes (w : World) (t : Tst) (v : Value) (w' : World) : Prop := ∃ G Q, CTab w' w.heap.size v (t.acc.length + 1) (fun i f => lim (C (VT t) i f)) G Q ∧ Below w.heap.size w w'
set_option maxHeartbeats 4000000 in
set_option maxRecDepth 100000 in
theorem counts_any (t : Tst) (q : TstP) (w : World) (h : RTst w w.heap.size t q) (hbd : TBd t) (hv : validE t = 0) :
    Calls Tryz.prog 38 #[tstV t q] w (Ret (CRes w t)) := by
  have n1 := (validE_vld hv).n1
  have hsm : Hid (∀ N : Nat, N ≤ 2 ^ 66 → sm N) := Lib.hid fun N hN => sm_of (Nat.lt_of_le_of_lt hN (by decide))
  obtain ⟨qa, qc, qb, qd⟩ := q
  have hbx : Hid (∀ o : Obj, Below w.heap.size w (w.alloc o)) := Lib.hid fun o => (Below.refl _ _).alloc (Nat.le_refl _) o
  have HO := Lib.hid (fun w' => by
    have := of_any 1 w' (by omega) (by omega)
    rw [show (1 : Int).toNat = 1 from rfl] at this
    exact this)
  have HV := Lib.hid (fun (n f : Nat) w' (h' : Below w.heap.size w w') (h1 : 1 ≤ n) (h2 : n ≤ t.acc.length) (h3 : f ≤ n) => pverd_any t ⟨qa, qc, qb, qd⟩ n f w' (h.to h') hbd hv h1 h2 h3)
  have hB0 := Lib.hid (TBox.new (w := w) (e := 32) (t := t) (q := ⟨qa, qc, qb, qd⟩))
  clear h hbd hv
  go_enter Tryz.func38, Tryz.ntmps38
  go_wp2_with fail
  refine (HO.out _).mono ?_
  rintro e w1 ⟨_, rfl, q1, rfl, hr, hf, hb⟩
  have hB1 := hB0.out.to hb
  have hBt : Hid (∀ W, Below (w.heap.size + 1) w1 W → TBox W w.heap.size t ⟨qa, qc, qb, qd⟩) := Lib.hid fun W h => ⟨Nat.lt_of_lt_of_le hB1.z h.size, (h.cell (p := ⟨w.heap.size, 0, none⟩) (Nat.lt_succ_self _)).trans hB1.y0, (h.cell (p := ⟨w.heap.size, 1, none⟩) (Nat.lt_succ_self _)).trans hB1.y1⟩
  have hz1 : w.heap.size + 1 ≤ w1.heap.size := hB1.z
  clear hB1
  have hw1 := Lib.hid (below_of (hbx.out _) (hbx.out _).size hb)
  have hC0 := Lib.hid (CTab.start (B := w.heap.size + 1) (VT t) hr (hf.le (by simp)) hz1)
  clear hr hf hb
  go_wp2
  go_loopw [3, 4] (fun v i wr => ∃ (k : Nat) (G : Nat → Nat) (Q : Nat → Nat → LmP), k ≤ t.acc.length ∧ i = .int .i64 ((k : Int) + 1) ∧ CTab wr (w.heap.size + 1) v (k + 1) (fun i f => lim (C (VT t) i f)) G Q ∧ Below (w.heap.size + 1) w1 wr) (fun _ i _ => t.acc.length + 1 - (intOf i).toNat)
  case atStart => exact ⟨0, _, _, Nat.zero_le _, rfl, hC0.out, ((Below.refl _ _).alloc hz1 _).alloc (by simp; omega) _⟩
  case round =>
    rename World => wo
    obtain ⟨k, G, Q, hk, rfl, hT, hbel⟩ := hrel
    replace hT := Lib.hid hT
    have hbel2 := Lib.hid hbel
    have hww := Lib.hid (hw1.out.trans (hbel.mono (Nat.le_succ _)))
    have hB2 := Lib.hid (hBt.out _ hbel)
    have hz2 : w.heap.size + 1 ≤ wo.heap.size := hB2.out.z
    clear hbel
    obtain ⟨z, y0, y1⟩ := hB2.out
    dsimp only at y0 y1
    by_cases hlt : k < t.acc.length
    · have hd : decide ((k : Int) + 1 ≤ (t.acc.length : Int)) = true := decide_eq_true (by omega)
      obtain ⟨A, c, hu, hc1, hc2, hAr⟩ := own_form hT.out.own
      obtain ⟨b, rfl, hb0, hbl, hcell⟩ := hAr (by omega)
      have yk : wo.cell? ⟨b, k, none⟩ = some (.slice (some ⟨G k, 0, none⟩) (k + 1) (k + 1)) := by rw [hcell k (by omega), rowsV_get (by omega)]
      obtain ⟨O, mk, BL⟩ := mk_nums (k + 1 + 1) (by omega) (x := (k : Int) + 1 + 1) (by omega)
      have R0 := Lib.hid ((BL wo).congr (L' := fun j => lim (rpS (VT t) k 0 j)) (fun j _ => by rw [rpS_zero, lim_zero]))
      clear hcell BL hAr
      subst hu
      go_wp2_with fail
      go_loopw [27] (fun i wi => ∃ (m : Nat) (P : Nat → LmP), m ≤ k + 1 ∧ i = .int .i64 (m : Int) ∧ RowS wo wo.heap.size (k + 2) (fun j => lim (rpS (VT t) k m j)) P wi) (fun i _ => k + 1 - (intOf i).toNat)
      case atStart => exact ⟨0, _, Nat.zero_le _, rfl, R0.out⟩
      case round =>
        obtain ⟨m, P, hm, rfl, R⟩ := hrel
        replace R := Lib.hid R
        have T2 := Lib.hid (hT.out.to R.out.bel)
        have hw2 := Lib.hid (hww.out.trans (R.out.bel.mono hww.out.size))
        clear z y0 y1 hbl yk
        by_cases hlm : m < k + 1
        · have hd2 : decide ((m : Int) < (k : Int) + 1) = true := decide_eq_true (by omega)
          obtain ⟨ca, cc, hQ⟩ : ∃ ca cc, Q k m = ⟨ca, cc⟩ := ⟨_, _, rfl⟩
          obtain ⟨cv, hc⟩ : ∃ cv, lim (C (VT t) k m) = cv := ⟨_, rfl⟩
          have yc := (T2.out.blk k (by omega)).cell (show m < k + 1 by omega)
          have zg := (T2.out.blk k (by omega)).lt
          dsimp only [numC] at yc
          rw [hQ, hc] at yc
          have hb2 := Lib.hid ((Below.refl wr.heap.size wr).alloc (Nat.le_refl _) (.cells #[.slice ca cv.length cc] 24))
          have hw7 := Lib.hid (Whole.new wr 24 #[.slice ca cv.length cc])
          have hp0 : Hid (2 ^ k ≤ 2 ^ 66) := Lib.hid (Nat.pow_le_pow_right (by decide) (by omega))
          have hp1 : Hid (2 ^ (k + 1) ≤ 2 ^ 66) := Lib.hid (Nat.pow_le_pow_right (by decide) (by omega))
          by_cases hk0 : k = 0
          · have hg : decide ((1 : Int) < (k : Int) + 1) = false := by rw [decide_eq_false_iff_not]; omega
            have hlive : Hid (liveC (VT t) k m = C (VT t) k m) := Lib.hid (if_pos (.inl hk0))
            replace hk0 := Lib.hid hk0
            go_wp2_with fail
            generalize wr.alloc (.cells #[.slice ca cv.length cc] 24) = W2 at hb2 hw7 ⊢
            have nC : Hid (∀ w', Below wr.heap.size wr w' → RLm w' w'.heap.size cv ⟨ca, cc⟩) := Lib.hid fun w' hb => by
              have := (T2.out.to hb).num k (by omega) m (by omega)
              rw [hQ, hc] at this
              exact this
            have HA := Lib.hid (fun q r w' (h1 : RLm w' w'.heap.size (lim (rpS (VT t) k m m)) q) (h2 : RLm w' w'.heap.size (lim (C (VT t) k m)) r) => padd_lim (rpS (VT t) k m m) (C (VT t) k m) q r w' (hsm.out _ (Nat.le_trans (rpS_le _ _ _ _) hp1.out)) (hsm.out _ (Nat.le_trans (C_le _ _ _) hp0.out)) (hsm.out _ (by have := rpS_le (VT t) k (m + 1) m; rw [rpS_at, hlive.out] at this; exact Nat.le_trans this hp1.out)) h1 h2)
            have HB := Lib.hid (fun q r w' (h1 : RLm w' w'.heap.size (lim (rpS (VT t) k m (m + 1))) q) (h2 : RLm w' w'.heap.size (lim (C (VT t) k m)) r) => padd_lim (rpS (VT t) k m (m + 1)) (C (VT t) k m) q r w' (hsm.out _ (Nat.le_trans (rpS_le _ _ _ _) hp1.out)) (hsm.out _ (Nat.le_trans (C_le _ _ _) hp0.out)) (hsm.out _ (by have := rpS_le (VT t) k (m + 1) (m + 1); rw [rpS_up, hlive.out] at this; exact Nat.le_trans this hp1.out)) h1 h2)
            rw [hc] at HA HB
            have hN := Lib.hid (fun (W : World) (P' : Nat → LmP) (r : LmP) (h : RowS wo wo.heap.size (k + 2) (upd (fun j => lim (rpS (VT t) k m j)) m (lim (rpS (VT t) k m m + C (VT t) k m))) P' W) => RowS.fin (r := r) h hlive.out)
            obtain ⟨rv, hrv⟩ : ∃ v, lim (rpS (VT t) k m m) = v := ⟨_, rfl⟩
            obtain ⟨su, hsu⟩ : ∃ v, lim (rpS (VT t) k m (m + 1)) = v := ⟨_, rfl⟩
            obtain ⟨s1, hs1⟩ : ∃ v, lim (rpS (VT t) k m m + C (VT t) k m) = v := ⟨_, rfl⟩
            obtain ⟨s2, hs2⟩ : ∃ v, lim (rpS (VT t) k m (m + 1) + C (VT t) k m) = v := ⟨_, rfl⟩
            rw [hrv, hs1] at HA
            rw [hsu, hs2] at HB
            rw [hs1, hs2] at hN
            have eP : Hid (∀ W, RowS wo wo.heap.size (k + 2) (fun j => lim (rpS (VT t) k m j)) P W → RLm W W.heap.size rv (P m) ∧ W.cell? ⟨wo.heap.size, m, none⟩ = some (.slice (P m).a rv.length (P m).c)) := Lib.hid fun W h => by
              have a := h.num m (by omega)
              have b := h.blk.cell (show m < k + 2 by omega)
              dsimp only [numC] at a b
              rw [hrv] at a b
              exact ⟨a, b⟩
            have eQ : Hid (∀ W P' , RowS wo wo.heap.size (k + 2) (upd (fun j => lim (rpS (VT t) k m j)) m s1) P' W → RLm W W.heap.size su (P' (m + 1)) ∧ W.cell? ⟨wo.heap.size, m + 1, none⟩ = some (.slice (P' (m + 1)).a su.length (P' (m + 1)).c)) := Lib.hid fun W P' h => by
              have a := h.num (m + 1) (by omega)
              have b := h.blk.cell (show m + 1 < k + 2 by omega)
              dsimp only [numC] at a b
              rw [upd_ne _ _ (by omega), hsu] at a b
              exact ⟨a, b⟩
            have hm1 : (m : Int) < (k : Int) + 1 + 1 := by omega
            have hm2 : (m : Int) + 1 < (k : Int) + 1 + 1 := by omega
            have hm3 : (0 : Int) ≤ m := by omega
            have hm4 : (0 : Int) ≤ (m : Int) + 1 := by omega
            have hm5 : (m : Int) < (k : Int) + 1 := by omega
            have hm6 : m < k + 1 + 1 := by omega
            have hwr : IntKind.i64.wrap ((m : Int) + 1) = (m : Int) + 1 := IntWalk.i64_in _ (by omega)
            have hwn : (((m : Int) + 1)).toNat = m + 1 := by omega
            clear hc hQ hrv hsu hs1 hs2
            have R3 := Lib.hid (R.out.to hb2.out)
            obtain ⟨nR, yR⟩ := eP.out _ R3.out
            replace nR := Lib.hid (nR.to ((Below.refl W2.heap.size W2).drew))
            have nC2 := Lib.hid (nC.out _ hb2.out.drew)
            have y7 : W2.cell? ⟨wr.heap.size, 0, none⟩ = some (.slice ca cv.length cc) := hw7.out.cell 0
            have z7 := hw7.out.lt
            have zR := R3.out.blk.lt
            have fR := R3.out.blk.frozen
            have hne : wr.heap.size ≠ wo.heap.size := by have := R.out.blk.lt; omega
            have H6 : Hid (∀ w6, Below W2.drew.heap.size W2.drew w6 → Below W2.heap.size W2 w6) := Lib.hid fun w6 h => Below.trans ((Below.refl W2.heap.size W2).drew) h
            go_region_law ((go_simp; go_at_call 26; refine (HA.out (P m) ⟨ca, cc⟩ W2.drew nR.out nC2.out).mono ?_; rintro e w6 ⟨_, rfl, q6, rfl, hr6, hf6, hb6⟩; have b6 := Lib.hid (H6.out w6 hb6); have r6 := Lib.hid hr6; have f6 := Lib.hid hf6; have R5 := Lib.hid (R3.out.to b6.out); have hw5 := Lib.hid (hw7.out.below b6.out hw7.out.lt); clear hr6 hf6 hb6 yR zR fR y7 z7; have yR := R5.out.blk.cell (show m < k + 2 by omega); have zR := R5.out.blk.lt; have fR := R5.out.blk.frozen))
            all_goals
              have R6 : Hid (RowS wo wo.heap.size (k + 2) (upd (fun j => lim (rpS (VT t) k m j)) m s1) (upd P m q6) (w6.setCell ⟨wo.heap.size, m, none⟩ (.slice q6.a s1.length q6.c))) := Lib.hid (R5.out.set (m := m) r6.out (f6.out.le R3.out.bel.size))
              have n5 := nC.out w6 (hb2.out.trans (b6.out.mono hb2.out.size))
              have nC6 : Hid (RLm (w6.setCell ⟨wo.heap.size, m, none⟩ (.slice q6.a s1.length q6.c)) (w6.setCell ⟨wo.heap.size, m, none⟩ (.slice q6.a s1.length q6.c)).heap.size cv ⟨ca, cc⟩) := Lib.hid (by
                have := rlm_far (u := .slice q6.a s1.length q6.c) (i := m) n5 (rlm_ne_blk n5 R5.out.blk fun k _ z => numC_no _ _ z)
                simpa using this)
              have hw6 : Hid (Whole (w6.setCell ⟨wo.heap.size, m, none⟩ (.slice q6.a s1.length q6.c)) wr.heap.size 24 #[.slice ca cv.length cc]) := Lib.hid (hw5.out.far (p := ⟨wo.heap.size, m, none⟩) (fun e => hne e) _)
              clear r6 f6 n5 nR R3 hw5 R5 b6 nC2
              go_wp2_with fail
              generalize (w6.setCell ⟨wo.heap.size, m, none⟩ (.slice q6.a s1.length q6.c)) = W8 at R6 nC6 hw6 ⊢
              clear yR zR fR
              obtain ⟨nR, yR⟩ := eQ.out _ _ R6.out
              replace nR := Lib.hid (nR.to ((Below.refl W8.heap.size W8).drew))
              replace nC6 := Lib.hid (nC6.out.to ((Below.refl W8.heap.size W8).drew))
              have y7 : W8.cell? ⟨wr.heap.size, 0, none⟩ = some (.slice ca cv.length cc) := hw6.out.cell 0
              have z7 := hw6.out.lt
              have zR := R6.out.blk.lt
              have fR := R6.out.blk.frozen
              have H8 : Hid (∀ w6, Below W8.drew.heap.size W8.drew w6 → Below W8.heap.size W8 w6) := Lib.hid fun w6 h => Below.trans ((Below.refl W8.heap.size W8).drew) h
              go_region_law ((go_simp; go_at_call 26; refine (HB.out (upd P m q6 (m + 1)) ⟨ca, cc⟩ W8.drew nR.out nC6.out).mono ?_; rintro e w10 ⟨_, rfl, q10, rfl, hr10, hf10, hb10⟩; have R10 := Lib.hid (R6.out.to (H8.out w10 hb10)); have hF := Lib.hid (hN.out _ _ q10 R10.out hr10 (hf10.le R6.out.bel.size)); clear hr10 hf10 hb10 yR zR fR y7 z7; have yR := R10.out.blk.cell (show m + 1 < k + 2 by omega); have zR := R10.out.blk.lt; have fR := R10.out.blk.frozen))
              all_goals
                go_wp2
                go_roundw
                case rel => exact ⟨m + 1, _, by omega, by go_num, hF.out⟩
                case measure => simp [intOf]; omega
          · have hg : decide ((1 : Int) < (k : Int) + 1) = true := decide_eq_true (by omega)
            obtain ⟨z, y0, y1⟩ := hB2.out.to R.out.bel
            dsimp only at y0 y1
            have hV := Lib.hid (HV.out k m _ (hw2.out.trans (hb2.out.mono hw2.out.size)) (by omega) (by omega) (by omega))
            by_cases hv0 : VT t k m = 0
            · have hlive : Hid (liveC (VT t) k m = C (VT t) k m) := Lib.hid (if_pos (.inr hv0))
              have hx : (VT t k m != 0) = false := by rw [bne_eq_false_iff_eq]; exact hv0
              clear hv0
              go_wp2_with fail
              refine hV.out.mono ?_
              rintro e W2 ⟨rfl, hb3⟩
              replace hb2 := Lib.hid (hb2.out.trans (hb3.mono hb2.out.size))
              replace hw7 := Lib.hid (hw7.out.below hb3 hw7.out.lt)
              clear hb3 z y0 y1 hV
              go_wp2_with fail
              have nC : Hid (∀ w', Below wr.heap.size wr w' → RLm w' w'.heap.size cv ⟨ca, cc⟩) := Lib.hid fun w' hb => by
                have := (T2.out.to hb).num k (by omega) m (by omega)
                rw [hQ, hc] at this
                exact this
              have HA := Lib.hid (fun q r w' (h1 : RLm w' w'.heap.size (lim (rpS (VT t) k m m)) q) (h2 : RLm w' w'.heap.size (lim (C (VT t) k m)) r) => padd_lim (rpS (VT t) k m m) (C (VT t) k m) q r w' (hsm.out _ (Nat.le_trans (rpS_le _ _ _ _) hp1.out)) (hsm.out _ (Nat.le_trans (C_le _ _ _) hp0.out)) (hsm.out _ (by have := rpS_le (VT t) k (m + 1) m; rw [rpS_at, hlive.out] at this; exact Nat.le_trans this hp1.out)) h1 h2)
              have HB := Lib.hid (fun q r w' (h1 : RLm w' w'.heap.size (lim (rpS (VT t) k m (m + 1))) q) (h2 : RLm w' w'.heap.size (lim (C (VT t) k m)) r) => padd_lim (rpS (VT t) k m (m + 1)) (C (VT t) k m) q r w' (hsm.out _ (Nat.le_trans (rpS_le _ _ _ _) hp1.out)) (hsm.out _ (Nat.le_trans (C_le _ _ _) hp0.out)) (hsm.out _ (by have := rpS_le (VT t) k (m + 1) (m + 1); rw [rpS_up, hlive.out] at this; exact Nat.le_trans this hp1.out)) h1 h2)
              rw [hc] at HA HB
              have hN := Lib.hid (fun (W : World) (P' : Nat → LmP) (r : LmP) (h : RowS wo wo.heap.size (k + 2) (upd (fun j => lim (rpS (VT t) k m j)) m (lim (rpS (VT t) k m m + C (VT t) k m))) P' W) => RowS.fin (r := r) h hlive.out)
              obtain ⟨rv, hrv⟩ : ∃ v, lim (rpS (VT t) k m m) = v := ⟨_, rfl⟩
              obtain ⟨su, hsu⟩ : ∃ v, lim (rpS (VT t) k m (m + 1)) = v := ⟨_, rfl⟩
              obtain ⟨s1, hs1⟩ : ∃ v, lim (rpS (VT t) k m m + C (VT t) k m) = v := ⟨_, rfl⟩
              obtain ⟨s2, hs2⟩ : ∃ v, lim (rpS (VT t) k m (m + 1) + C (VT t) k m) = v := ⟨_, rfl⟩
              rw [hrv, hs1] at HA
              rw [hsu, hs2] at HB
              rw [hs1, hs2] at hN
              have eP : Hid (∀ W, RowS wo wo.heap.size (k + 2) (fun j => lim (rpS (VT t) k m j)) P W → RLm W W.heap.size rv (P m) ∧ W.cell? ⟨wo.heap.size, m, none⟩ = some (.slice (P m).a rv.length (P m).c)) := Lib.hid fun W h => by
                have a := h.num m (by omega)
                have b := h.blk.cell (show m < k + 2 by omega)
                dsimp only [numC] at a b
                rw [hrv] at a b
                exact ⟨a, b⟩
              have eQ : Hid (∀ W P' , RowS wo wo.heap.size (k + 2) (upd (fun j => lim (rpS (VT t) k m j)) m s1) P' W → RLm W W.heap.size su (P' (m + 1)) ∧ W.cell? ⟨wo.heap.size, m + 1, none⟩ = some (.slice (P' (m + 1)).a su.length (P' (m + 1)).c)) := Lib.hid fun W P' h => by
                have a := h.num (m + 1) (by omega)
                have b := h.blk.cell (show m + 1 < k + 2 by omega)
                dsimp only [numC] at a b
                rw [upd_ne _ _ (by omega), hsu] at a b
                exact ⟨a, b⟩
              have hm1 : (m : Int) < (k : Int) + 1 + 1 := by omega
              have hm2 : (m : Int) + 1 < (k : Int) + 1 + 1 := by omega
              have hm3 : (0 : Int) ≤ m := by omega
              have hm4 : (0 : Int) ≤ (m : Int) + 1 := by omega
              have hm5 : (m : Int) < (k : Int) + 1 := by omega
              have hm6 : m < k + 1 + 1 := by omega
              have hwr : IntKind.i64.wrap ((m : Int) + 1) = (m : Int) + 1 := IntWalk.i64_in _ (by omega)
              have hwn : (((m : Int) + 1)).toNat = m + 1 := by omega
              clear hc hQ hrv hsu hs1 hs2
              have R3 := Lib.hid (R.out.to hb2.out)
              obtain ⟨nR, yR⟩ := eP.out _ R3.out
              replace nR := Lib.hid (nR.to ((Below.refl W2.heap.size W2).drew))
              have nC2 := Lib.hid (nC.out _ hb2.out.drew)
              have y7 : W2.cell? ⟨wr.heap.size, 0, none⟩ = some (.slice ca cv.length cc) := hw7.out.cell 0
              have z7 := hw7.out.lt
              have zR := R3.out.blk.lt
              have fR := R3.out.blk.frozen
              have hne : wr.heap.size ≠ wo.heap.size := by have := R.out.blk.lt; omega
              have H6 : Hid (∀ w6, Below W2.drew.heap.size W2.drew w6 → Below W2.heap.size W2 w6) := Lib.hid fun w6 h => Below.trans ((Below.refl W2.heap.size W2).drew) h
              go_region_law ((go_simp; go_at_call 26; refine (HA.out (P m) ⟨ca, cc⟩ W2.drew nR.out nC2.out).mono ?_; rintro e w6 ⟨_, rfl, q6, rfl, hr6, hf6, hb6⟩; have b6 := Lib.hid (H6.out w6 hb6); have r6 := Lib.hid hr6; have f6 := Lib.hid hf6; have R5 := Lib.hid (R3.out.to b6.out); have hw5 := Lib.hid (hw7.out.below b6.out hw7.out.lt); clear hr6 hf6 hb6 yR zR fR y7 z7; have yR := R5.out.blk.cell (show m < k + 2 by omega); have zR := R5.out.blk.lt; have fR := R5.out.blk.frozen))
              all_goals
                have R6 : Hid (RowS wo wo.heap.size (k + 2) (upd (fun j => lim (rpS (VT t) k m j)) m s1) (upd P m q6) (w6.setCell ⟨wo.heap.size, m, none⟩ (.slice q6.a s1.length q6.c))) := Lib.hid (R5.out.set (m := m) r6.out (f6.out.le R3.out.bel.size))
                have n5 := nC.out w6 (hb2.out.trans (b6.out.mono hb2.out.size))
                have nC6 : Hid (RLm (w6.setCell ⟨wo.heap.size, m, none⟩ (.slice q6.a s1.length q6.c)) (w6.setCell ⟨wo.heap.size, m, none⟩ (.slice q6.a s1.length q6.c)).heap.size cv ⟨ca, cc⟩) := Lib.hid (by
                  have := rlm_far (u := .slice q6.a s1.length q6.c) (i := m) n5 (rlm_ne_blk n5 R5.out.blk fun k _ z => numC_no _ _ z)
                  simpa using this)
                have hw6 : Hid (Whole (w6.setCell ⟨wo.heap.size, m, none⟩ (.slice q6.a s1.length q6.c)) wr.heap.size 24 #[.slice ca cv.length cc]) := Lib.hid (hw5.out.far (p := ⟨wo.heap.size, m, none⟩) (fun e => hne e) _)
                clear r6 f6 n5 nR R3 hw5 R5 b6 nC2
                go_wp2_with fail
                generalize (w6.setCell ⟨wo.heap.size, m, none⟩ (.slice q6.a s1.length q6.c)) = W8 at R6 nC6 hw6 ⊢
                clear yR zR fR
                obtain ⟨nR, yR⟩ := eQ.out _ _ R6.out
                replace nR := Lib.hid (nR.to ((Below.refl W8.heap.size W8).drew))
                replace nC6 := Lib.hid (nC6.out.to ((Below.refl W8.heap.size W8).drew))
                have y7 : W8.cell? ⟨wr.heap.size, 0, none⟩ = some (.slice ca cv.length cc) := hw6.out.cell 0
                have z7 := hw6.out.lt
                have zR := R6.out.blk.lt
                have fR := R6.out.blk.frozen
                have H8 : Hid (∀ w6, Below W8.drew.heap.size W8.drew w6 → Below W8.heap.size W8 w6) := Lib.hid fun w6 h => Below.trans ((Below.refl W8.heap.size W8).drew) h
                go_region_law ((go_simp; go_at_call 26; refine (HB.out (upd P m q6 (m + 1)) ⟨ca, cc⟩ W8.drew nR.out nC6.out).mono ?_; rintro e w10 ⟨_, rfl, q10, rfl, hr10, hf10, hb10⟩; have R10 := Lib.hid (R6.out.to (H8.out w10 hb10)); have hF := Lib.hid (hN.out _ _ q10 R10.out hr10 (hf10.le R6.out.bel.size)); clear hr10 hf10 hb10 yR zR fR y7 z7; have yR := R10.out.blk.cell (show m + 1 < k + 2 by omega); have zR := R10.out.blk.lt; have fR := R10.out.blk.frozen))
                all_goals
                  go_wp2
                  go_roundw
                  case rel => exact ⟨m + 1, _, by omega, by go_num, hF.out⟩
                  case measure => simp [intOf]; omega
            · have hd : Hid (liveC (VT t) k m = 0) := Lib.hid (if_neg (by omega))
              have hx : (VT t k m != 0) = true := by rw [bne_iff_ne]; exact hv0
              clear hv0
              go_wp2_with fail
              refine hV.out.mono ?_
              rintro e W2 ⟨rfl, hb3⟩
              have hF := Lib.hid (RowS.skip R.out hd.out (hb2.out.trans (hb3.mono hb2.out.size)))
              clear hb3 z y0 y1 hV
              go_wp2
              go_roundw
              case rel => exact ⟨m + 1, _, by omega, by go_num, hF.out⟩
              case measure => simp [intOf]; omega
        · have hd2 : decide ((m : Int) < (k : Int) + 1) = false := by rw [decide_eq_false_iff_not]; omega
          obtain rfl : m = k + 1 := by omega
          have hown2 := Lib.hid (own_to hT.out.own R.out.bel)
          have hsz : w.heap.size + 1 ≤ wr.heap.size := by have := R.out.bel.size; omega
          have e24 : k + 2 = k + 1 + 1 := rfl
          go_wp2_with (at_builtin; refine push_own elRows rfl _ _ rfl (w.heap.size + 1) _ (k + 1) (rowsV G (k + 1)) hown2.out rfl _ rfl rfl rfl (by omega) (by omega) hsz ?_)
          intro v' w3 hown3 hgr hb3 hs3 hor
          have hF := Lib.hid (CTab.push hT.out R.out hz2 hown3 hgr hor)
          have hF2 := Lib.hid ((hbel2.out.trans (R.out.bel.mono hz2)).trans hb3)
          clear hown3 hgr hb3 hs3 hor hown2
          go_wp2
          go_roundw
          case rel => exact ⟨k + 1, _, _, by omega, by go_num, hF.out, hF2.out⟩
          case measure => simp [intOf]; omega
    · have hd : decide ((k : Int) + 1 ≤ (t.acc.length : Int)) = false := by rw [decide_eq_false_iff_not]; omega
      obtain rfl : t.acc.length = k := by omega
      have hF : Hid (CRes w t _ wo) := Lib.hid ⟨G, Q, hT.out.wide (Nat.le_succ _), hww.out⟩
      clear hT
      go_wp2
      go_ret
      exact Ret.mk hF.out
end Go.Proofs.YtpoddmkimhkmoaaGreat
