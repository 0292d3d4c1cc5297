/-
  CONTRACT of plan.region.
  Conditions: those that each theorem names.
-/
import Derived.Test.YtickckehhfdoeaaTp3
import Derived.Test.YtickckehhfdoeaaTopG
import Derived.Deep.DeepCutAuto
import Derived.Deep.RegionHeld3
import Derived.Maps.OwnOps
namespace Go.Proofs.Ytickckehhfdoeaa
open Go.RowKit Go.Sv Go.Maps
/-- an entry of a map's literal -/
theorem wpList_insert_own {H : Type} {P : Program} (w : World) {ops : Array Oper} {rest : List Oper} {o : Oper} {a : Act} {Q : Exit → Act → World → Prop}
    (hg : o.guard = none) (m x v : Operand) (t : TypeId) (hop : o.op = Op.insert t m x v)
    (k e : TypeId) (K : Keyed P k) (ht : P.underlying t = some (.map k e)) (R : Value → Option (DataW H × List MemPlace)) (b n : Nat) (D : DataW H)
    (hm : a.eval m = .map (some b)) (hown : w.ownsMap P k R b n D) (hn : n < maxLen) (key val : Value) (kl : Lit) (hx : a.eval x = key) (hv : a.eval v = val) (hkey : keyOf P k key = some kl)
    (d : DataW H) (ps : List MemPlace) (hval : R val = some (d, ps))
    (hK : ∀ w', w'.ownsMap P k R b (n + 1) (D.put kl d) → w.grownBy w' (some b) → wpList P ops Q rest (a.put o.dst undef) w') :
    wpList P ops Q (o :: rest) a w := by
  refine wpList_plain hg fun K' hK' => ?_
  obtain ⟨w', hrun, r1, r2⟩ := hown.update K ht hn hkey hval
  unfold Oper.wp
  simp [execOp, hop, hm, hx, hv, hrun, Result.andThen]
  exact hK' _ _ (hK w' r1 r2)
theorem lawS : Keyed Try.prog 9 := string_keyed Try.underlying9
theorem zeroI (w : World) : (zeroValue 3).run Try.prog w = .ok (.int .i64 0) w := by kernel_rfl
theorem keyS (x : Mx) (h : (keyL x).length ≤ 1000) : keyOf Try.prog 9 (.string (strOfNums (keyL x))) = some (kl x) :=
  WideMaps.keyOf_string_mk Try.underlying9 (by rw [strOfNums_size]; unfold maxLen; omega)
theorem keyL_len {p : Prob} {x : Mx} (h : MOk p x) : (keyL x).length ≤ 1000 := by
  have := prob_small h.pr
  have := h.lb
  have := h.lh
  unfold keyL
  rw [List.length_append, kyN_len]
  omega
theorem en_run (p : Prob) (q : ProbP) (m : Mx) (qm : MixP) (w : World) (hp : RProb w w.heap.size p q) (hbd : PBd p) (hm : RMix w w.heap.size m qm) (hmb : MBd m qm) (hok : MOk p m) :
    Calls Try.prog 18 #[probV p q, mixV m qm] w (Ret (StR w (stR p m) 0)) := by
  have h := Enabled_any p q m qm w hp hbd hm hmb
  unfold enL enE at h
  rw [if_pos (mixE_ok.2 hok), mixE_ok.2 hok] at h
  exact h
theorem ap_run (p : Prob) (q : ProbP) (m : Mx) (qm : MixP) (s : Sp) (w : World) (hp : RProb w w.heap.size p q) (hbd : PBd p) (hm : RMix w w.heap.size m qm) (hmb : MBd m qm) (hok : MOk p m) :
    Calls Try.prog 15 #[probV p q, mixV m qm, stepV s] w (Ret (ApR w (apM p m s) (appE p m s))) := by
  have h := Apply_any p q m qm s w hp hbd hm hmb
  unfold ApM ApE at h
  rw [if_pos (mixE_ok.2 hok), if_pos (mixE_ok.2 hok)] at h
  exact h
theorem spc_lt {p : Prob} {B gP : Nat} {nds : List Nd} {Q : Nat → MixP} {nx : Nat → Value} {nl : Nat → List Value} {v : Value} {wr : World} (h : RgM p B gP nds Q nx nl v wr) {g : Nat} (hs : Spc v gP nx nds.length g) : g < wr.heap.size := by
  rcases hs with e | e | ⟨k, hk, e⟩
  · exact (h.row.lt g e).2
  · rw [e]; exact h.gs
  · exact ((h.nxr k hk).lt g e).2
theorem nd_cell {p : Prob} {B gP b c n : Nat} {nds : List Nd} {Q : Nat → MixP} {nx : Nat → Value} {nl : Nat → List Value} {wr : World} (h : RgM p B gP nds Q nx nl (.slice (some ⟨b, 0, none⟩) n c) wr) {k j : Nat} (hk : k < nds.length) (hj : j < 8) : wr.cell? ⟨b, k * 8 + j, none⟩ = some (ndF nds Q nx k j) := by
  have h2 := h.row
  obtain ⟨A, c', hv, _, _, hc⟩ := own_form h2
  obtain ⟨b', e, _, _, hcc⟩ := hc (by omega)
  injection hv with e1 e2 e3
  rw [e] at e1
  injection e1 with e1
  injection e1 with e1
  subst e1
  rw [hcc (k * 8 + j) (by omega), ndRow_get hk hj]
/-- what plan.region hands back -/
def RegR (p : Prob) (w : World) (o : Option Rg) (v : Value) (w' : World) : Prop := Below w.heap.size w w' ∧ match o with
  | none => v = .tuple #[.slice none 0 0, .int .i64 3]
  | some g => ∃ (A : Option Addr) (c : Nat) (Q : Nat → MixP) (nx : Nat → Value), v = .tuple #[.slice A g.nds.length c, .int .i64 0] ∧ ArrN w' w'.heap.size 8 A g.nds.length (ndF g.nds Q nx) ∧
      ∀ k, k < g.nds.length → RMix w' w'.heap.size (ndAt g.nds k).m (Q k) ∧ MBd (ndAt g.nds k).m (Q k) ∧ MOk p (ndAt g.nds k).m
/-- the state of the walk -/
structure RgS (p : Prob) (W : World) (cnt : Nat) (g : Rg) (Q : Nat → MixP) (nx : Nat → Value) (nl : Nat → List Value) (D : DataW Unit) (N : Nat) (v : Value) (wr : World) : Prop where
  mem : RgM p W.heap.size (W.heap.size + 1) g.nds Q nx nl v wr
  own : wr.ownsMap Try.prog 9 (plainElem Try.prog 3) (W.heap.size + 1) N D
  mpd : MapD p D g.pl
  nle : N ≤ cnt + 1
  lle : ∀ k, k < g.nds.length → (nl k).length ≤ cnt
  bel : Below W.heap.size W wr
theorem map_gr {w w' : World} {b n : Nat} {D : DataW Unit} {o : Option Nat} (h : w.ownsMap Try.prog 9 (plainElem Try.prog 3) b n D) (hg : w.grownBy w' o) (hne : o ≠ some b) : w'.ownsMap Try.prog 9 (plainElem Try.prog 3) b n D :=
  h.kept hg (fun e => hne e.symm)
/-- the list of steps that is gone through -/
structure LsI (W : World) (L : List Sp) (A : Option Addr) (c : Nat) (v : Value) (nx : Nat → Value) (n : Nat) (wr : World) : Prop where
  row : wr.ownsRow W.heap.size 63 3 (.slice A L.length c) L.length (spRow L)
  far : ∀ g, Spc v (W.heap.size + 1) nx n g → (Value.slice A L.length c).ownBlock ≠ some g
theorem RgS.to {p : Prob} {W wr w' : World} {cnt : Nat} {g : Rg} {Q : Nat → MixP} {nx : Nat → Value} {nl : Nat → List Value} {D : DataW Unit} {N : Nat} {v : Value} (h : RgS p W cnt g Q nx nl D N v wr) (hb : Below wr.heap.size wr w') : RgS p W cnt g Q nx nl D N v w' :=
  ⟨h.mem.to hb, map_gr h.own (gr_below hb) (fun e => by cases e), h.mpd, h.nle, h.lle, h.bel.trans (hb.mono h.bel.size)⟩
theorem LsI.to {W wr w' : World} {L : List Sp} {A : Option Addr} {c : Nat} {v : Value} {nx : Nat → Value} {n : Nat} (h : LsI W L A c v nx n wr) (hb : Below wr.heap.size wr w') : LsI W L A c v nx n w' := ⟨own_to h.row hb, h.far⟩
theorem LsI.lt {W wr : World} {L : List Sp} {A : Option Addr} {c : Nat} {v : Value} {nx : Nat → Value} {n : Nat} (h : LsI W L A c v nx n wr) {g : Nat} (hg : wr.heap.size ≤ g) : (Value.slice A L.length c).ownBlock ≠ some g := fun e => by
  have := (h.row.lt g e).2
  omega
/-- an entry of the map -/
theorem RgS.mapped {p : Prob} {W wr w' : World} {cnt : Nat} {g : Rg} {Q : Nat → MixP} {nx : Nat → Value} {nl : Nat → List Value} {D : DataW Unit} {N : Nat} {v : Value} (h : RgS p W cnt g Q nx nl D N v wr) {y : Mx} (hy : MOk p y) (h8 : H8 y) {z : Int}
    (ho : w'.ownsMap Try.prog 9 (plainElem Try.prog 3) (W.heap.size + 1) (N + 1) (D.put (kl y) (.lit (.int .i64 z)))) (hg : wr.grownBy w' (some (W.heap.size + 1))) : RgS p W (cnt + 1) ⟨g.nds, (y, z) :: g.pl⟩ Q nx nl (D.put (kl y) (.lit (.int .i64 z))) (N + 1) v w' :=
  ⟨h.mem.map hg, ho, h.mpd.put hy h8 z, by have := h.nle; omega, fun k hk => by have := h.lle k hk; omega, h.bel.trans ⟨hg.os, hg.tape, hg.output, hg.size, fun k hk => hg.block k (Nat.lt_of_lt_of_le hk h.bel.size) (fun e => by injection e with e; omega)⟩⟩
theorem RgS.cnt {p : Prob} {W wr : World} {cnt cnt' : Nat} {g : Rg} {Q : Nat → MixP} {nx : Nat → Value} {nl : Nat → List Value} {D : DataW Unit} {N : Nat} {v : Value} (h : RgS p W cnt g Q nx nl D N v wr) (hc : cnt ≤ cnt') : RgS p W cnt' g Q nx nl D N v wr :=
  ⟨h.mem, h.own, h.mpd, by have := h.nle; omega, fun k hk => by have := h.lle k hk; omega, h.bel⟩
theorem LsI.gr {W wr w' : World} {L : List Sp} {A : Option Addr} {c : Nat} {v : Value} {nx : Nat → Value} {n : Nat} (h : LsI W L A c v nx n wr) {o : Option Nat} (hg : wr.grownBy w' o) (ho : ∀ g, o = some g → Spc v (W.heap.size + 1) nx n g) : LsI W L A c v nx n w' :=
  ⟨own_gr h.row hg (fun g e => h.far g (ho g e)), h.far⟩
/-- one more node -/
theorem RgS.pushed {p : Prob} {W wr w' : World} {cnt : Nat} {g : Rg} {Q : Nat → MixP} {nx : Nat → Value} {nl : Nat → List Value} {D : DataW Unit} {N : Nat} {v v' : Value} (h : RgS p W cnt g Q nx nl D N v wr) {x : Nd} {q : MixP} {o : Obj} (hm : RMix wr wr.heap.size x.m q) (hbd : MBd x.m q) (hok : MOk p x.m)
    (hf : ∀ g', Spc v (W.heap.size + 1) nx g.nds.length g' → MFar x.m q g')
    (ho : w'.ownsRow W.heap.size 115 8 v' (g.nds.length + 1) (ndRow g.nds Q nx ++ [.slice q.a0 x.m.base.length q.c0, .slice q.a1 x.m.next.length q.c1, .slice q.a2 x.m.held.length q.c2, .int .i64 x.frm, .int .i64 x.by_.kind, .int .i64 x.by_.ix, .int .i64 x.by_.ver, .slice none 0 0]))
    (hg : (wr.alloc o).grownBy w' v.ownBlock) (hor : v'.ownBlock = v.ownBlock ∨ v'.ownBlock = some (wr.heap.size + 1)) (hb : Below W.heap.size wr w') :
    RgS p W cnt ⟨g.nds ++ [x], g.pl⟩ (upd g.nds.length Q q) (upd g.nds.length nx (.slice none 0 0)) (upd g.nds.length nl []) D N v' w' :=
  ⟨h.mem.push hm hbd hok hf ho hg hor, map_gr h.own (gr_push hg) (fun e => h.mem.fv e), h.mpd, h.nle, fun k hk => by
    rw [List.length_append, List.length_singleton] at hk
    by_cases e : k = g.nds.length
    · subst e; rw [upd_at]; exact Nat.zero_le _
    · rw [upd_ne e]; exact h.lle k (by omega), h.bel.trans hb⟩
theorem LsI.pushed {W wr w' : World} {L : List Sp} {A : Option Addr} {c : Nat} {v v' : Value} {nx : Nat → Value} {n : Nat} {o : Obj} (h : LsI W L A c v nx n wr) (hg : (wr.alloc o).grownBy w' v.ownBlock) (hor : v'.ownBlock = v.ownBlock ∨ v'.ownBlock = some (wr.heap.size + 1)) :
    LsI W L A c v' (upd n nx (.slice none 0 0)) (n + 1) w' := by
  refine ⟨own_gr h.row (gr_push hg) (fun g e => h.far g (Or.inl e)), fun g hs => ?_⟩
  rcases hs with e | e | ⟨k, hk, e⟩
  · rcases hor with e2 | e2
    · exact h.far g (Or.inl (by rw [← e2]; exact e))
    · rw [e2] at e; injection e with e; exact h.lt (by omega)
  · exact h.far g (Or.inr (Or.inl e))
  · by_cases ek : k = n
    · subst ek; rw [upd_at] at e; cases e
    · rw [upd_ne ek] at e; exact h.far g (Or.inr (Or.inr ⟨k, by omega, e⟩))
/-- one more number in a node's list -/
theorem RgS.nexted {p : Prob} {W wr w' : World} {cnt : Nat} {g : Rg} {Q : Nat → MixP} {nx : Nat → Value} {nl : Nat → List Value} {D : DataW Unit} {N : Nat} {v : Value} (h : RgS p W cnt g Q nx nl D N v wr) {i : Nat} (hi : i < g.nds.length) {o : Obj} {u z : Value}
    (ho : w'.ownsRow W.heap.size 3 1 u ((nl i).length + 1) (nl i ++ [z])) (hg : (wr.alloc o).grownBy w' (nx i).ownBlock) (hor : u.ownBlock = (nx i).ownBlock ∨ u.ownBlock = some (wr.heap.size + 1)) (hb : Below W.heap.size wr w') :
    ∃ b c, v = .slice (some ⟨b, 0, none⟩) g.nds.length c ∧ b < w'.heap.size ∧ (∀ o, w'.frozen? ⟨b, o, none⟩ = false) ∧ w'.cell? ⟨b, i * 8 + 7, none⟩ = some (nx i) ∧
      RgS p W (cnt + 1) g Q (upd i nx u) (upd i nl (nl i ++ [z])) D N v (w'.setCell ⟨b, i * 8 + 7, none⟩ u) := by
  obtain ⟨b, c, hv, hlt, hB, hfr, hce, hM⟩ := h.mem.next hi ho hg hor
  refine ⟨b, c, hv, hlt, hfr, hce i 7 hi (by decide), hM, ?_, h.mpd, by have := h.nle; omega, fun k hk => ?_, (h.bel.trans hb).setCell hB _⟩
  · exact map_gr (map_gr h.own (gr_push hg) (fun e => h.mem.fnp i hi e)) (gr_set b _ u) (fun e => h.mem.fv (by rw [hv]; exact e))
  · by_cases e : k = i
    · subst e; rw [upd_at, List.length_append, List.length_singleton]; have := h.lle k hk; omega
    · rw [upd_ne e]; have := h.lle k hk; omega
theorem LsI.nexted {W wr w' : World} {L : List Sp} {A : Option Addr} {c cv b : Nat} {v : Value} {nx : Nat → Value} {n i : Nat} {o : Obj} {u : Value} (h : LsI W L A c v nx n wr) (hi : i < n) (hg : (wr.alloc o).grownBy w' (nx i).ownBlock) (hor : u.ownBlock = (nx i).ownBlock ∨ u.ownBlock = some (wr.heap.size + 1))
    (hv : v = .slice (some ⟨b, 0, none⟩) n cv) : LsI W L A c v (upd i nx u) n (w'.setCell ⟨b, i * 8 + 7, none⟩ u) := by
  refine ⟨own_gr (own_gr h.row (gr_push hg) (fun g e => h.far g (Or.inr (Or.inr ⟨i, hi, e⟩)))) (gr_set b _ u) (fun g e => h.far g (Or.inl (by rw [hv]; exact e))), fun g hs => ?_⟩
  rcases hs with e | e | ⟨k, hk, e⟩
  · exact h.far g (Or.inl e)
  · exact h.far g (Or.inr (Or.inl e))
  · by_cases ek : k = i
    · subst ek; rw [upd_at] at e
      rcases hor with e2 | e2
      · exact h.far g (Or.inr (Or.inr ⟨k, hk, by rw [← e2]; exact e⟩))
      · rw [e2] at e; injection e with e; exact h.lt (by omega)
    · rw [upd_ne ek] at e; exact h.far g (Or.inr (Or.inr ⟨k, hk, e⟩))
/-- the first node -/
theorem rgs_start {p : Prob} {m : Mx} {qm : MixP} {W w3 w4 : World} (hm : RMix W W.heap.size m qm) (hmb : MBd m qm) (hok : MOk p m)
    (hb : Below (W.heap.size + 2) ((W.alloc (.cells #[.slice qm.a0 m.base.length qm.c0, .slice qm.a1 m.next.length qm.c1, .slice qm.a2 m.held.length qm.c2, .int .i64 (-1), .int .i64 0, .int .i64 0, .int .i64 0, .slice none 0 0] 115)).alloc (.map #[] 0)) w3)
    (ho : w4.ownsMap Try.prog 9 (plainElem Try.prog 3) (W.heap.size + 1) 1 ((DataW.map [] : DataW Unit).put (kl m) (.lit (.int .i64 0)))) (hg : w3.grownBy w4 (some (W.heap.size + 1))) :
    RgS p W 0 (rgStart m) (fun _ => qm) (fun _ => .slice none 0 0) (fun _ => []) ((DataW.map [] : DataW Unit).put (kl m) (.lit (.int .i64 0))) 1 (.slice (some ⟨W.heap.size, 0, none⟩) 1 1) w4 := by
  have hs3 : W.heap.size + 2 ≤ w3.heap.size := by have := hb.size; simpa using this
  have hB : Below W.heap.size W w3 := (((Below.refl W.heap.size W).alloc (Nat.le_refl _) _).alloc (by simp) _).trans (hb.mono (by omega))
  have hB4 : Below W.heap.size W w4 := hB.trans ⟨hg.os, hg.tape, hg.output, hg.size, fun k hk => hg.block k (Nat.lt_of_lt_of_le hk hB.size) (fun e => by injection e with e; omega)⟩
  have hw : Whole w4 W.heap.size 115 #[.slice qm.a0 m.base.length qm.c0, .slice qm.a1 m.next.length qm.c1, .slice qm.a2 m.held.length qm.c2, .int .i64 (-1), .int .i64 0, .int .i64 0, .int .i64 0, .slice none 0 0] := by
    have h1 := (Whole.new W 115 #[.slice qm.a0 m.base.length qm.c0, .slice qm.a1 m.next.length qm.c1, .slice qm.a2 m.held.length qm.c2, .int .i64 (-1), .int .i64 0, .int .i64 0, .int .i64 0, .slice none 0 0]).alloc (.map #[] 0)
    have h2 : Whole w3 _ _ _ := h1.below hb (by omega)
    exact (hg.block _ (by omega) (fun e => by injection e with e; omega)).trans h2
  have hm4 := hm.to hB4
  have e0 : ∀ k, k < (rgStart m).nds.length → k = 0 := fun k hk => by have : (rgStart m).nds.length = 1 := rfl; omega
  have hsp : ∀ g, Spc (.slice (some ⟨W.heap.size, 0, none⟩) 1 1) (W.heap.size + 1) (fun _ => Value.slice none 0 0) 1 g → W.heap.size ≤ g := fun g hs => by
    rcases hs with e | e | ⟨k, hk, e⟩
    · injection e with e; exact Nat.le_of_eq e
    · omega
    · cases e
  refine ⟨⟨⟨?_, Or.inr ⟨W.heap.size, 1, _, rfl, Nat.le_refl _, hw, Nat.le_refl _, by unfold maxLen; decide, rfl, ?_⟩⟩, fun k _ => World.ownsRow_nil _ _ _ _, fun k hk => ?_, fun k hk => ?_, fun k hk => ?_, fun k hk g hs => ?_, ?_, fun k _ => ?_, fun k _ g _ => ?_, fun j k hj hk hne => ?_, by omega, ?_⟩, ho, ?_, by omega, fun k _ => Nat.zero_le _, hB4⟩
  · rw [ndRow_len]
  · unfold ndRow rowN; simp [List.range_succ, ndF, ndC, ndAt, rgStart]
  · rw [e0 k hk]; exact hm4
  · rw [e0 k hk]; exact hmb
  · rw [e0 k hk]; exact hok
  · rw [e0 k hk]; exact mix_far hm (hsp g hs)
  · intro e; injection e with e; have e : W.heap.size = W.heap.size + 1 := e; omega
  · intro e; cases e
  · intro e; cases e
  · rw [e0 j hj, e0 k hk] at hne; exact absurd rfl hne
  · exact Nat.lt_of_lt_of_le (by omega) hg.size
  · have h := (MapD.nil p).put hok hmb.h8 0
    exact h
set_option maxHeartbeats 16000000 in
set_option maxRecDepth 100000 in
theorem region_any (p : Prob) (q : ProbP) (m : Mx) (qm : MixP) (w : World) (hp : RProb w w.heap.size p q) (hbd : PBd p) (hm : RMix w w.heap.size m qm) (hmb : MBd m qm) (hok : MOk p m) :
    Calls Try.prog 55 #[probV p q, mixV m qm] w (Ret (RegR p w (regL p m))) := by
  obtain ⟨W, hW, S⟩ := pm_boxes p q m qm w
  have hsz : w.heap.size + 2 ≤ W.heap.size := by rw [← hW]; simp
  have HE := Lib.hid (fun (x : Mx) (qx : MixP) (W2 : World) (h : Below W.heap.size W W2) (hx : RMix W2 W2.heap.size x qx) (hxb : MBd x qx) (hxo : MOk p x) => en_run p q x qx W2 ((hp.to S.bel).to h) hbd hx hxb hxo)
  have HA := Lib.hid (fun (x : Mx) (qx : MixP) (s : Sp) (W2 : World) (h : Below W.heap.size W W2) (hx : RMix W2 W2.heap.size x qx) (hxb : MBd x qx) (hxo : MOk p x) => ap_run p q x qx s W2 ((hp.to S.bel).to h) hbd hx hxb hxo)
  have HR := Lib.hid (fun (x : Mx) (qx : MixP) (W2 : World) (h : Below W.heap.size W W2) (hx : RMix W2 W2.heap.size x qx) (hxb : MBd x qx) (hxo : MOk p x) => robust_any p q x qx W2 ((hp.to S.bel).to h) hbd hx hxb hxo)
  have hm0 := hm.to S.bel
  obtain ⟨W1, hW1⟩ : ∃ W1, W.alloc (.cells #[.slice qm.a0 m.base.length qm.c0, .slice qm.a1 m.next.length qm.c1, .slice qm.a2 m.held.length qm.c2, .int .i64 (-1), .int .i64 0, .int .i64 0, .int .i64 0, .slice none 0 0] 115) = W1 := ⟨_, rfl⟩
  obtain ⟨W2, hW2⟩ : ∃ W2, W1.alloc (.map #[] 0) = W2 := ⟨_, rfl⟩
  have hs1 : W1.heap.size = W.heap.size + 1 := by rw [← hW1]; simp
  have hs2 : W2.heap.size = W.heap.size + 2 := by rw [← hW2]; simp [hs1]
  have hB2 : Below W.heap.size W W2 := by rw [← hW2, ← hW1]; exact ((Below.refl W.heap.size W).alloc (Nat.le_refl _) _).alloc (by simp) _
  have HK := Lib.hid (key_any p m qm W2 (hm0.to hB2) hok hmb.h8)
  have hown0 : Hid (W2.ownsMap Try.prog 9 (plainElem (H := Unit) Try.prog 3) (W.heap.size + 1) 0 (.map [])) := Lib.hid (by rw [← hW2, ← hs1]; exact World.ownsMap_made _ _ _ _)
  have hkey0 := Lib.hid (keyS m (keyL_len hok))
  have hSt := Lib.hid (fun (w3 w4 : World) (hb : Below W2.heap.size W2 w3) (ho : w4.ownsMap Try.prog 9 (plainElem Try.prog 3) (W.heap.size + 1) 1 ((DataW.map [] : DataW Unit).put (kl m) (.lit (.int .i64 0)))) (hg : w3.grownBy w4 (some (W.heap.size + 1))) => rgs_start hm0 hmb hok (by rw [hW1, hW2, ← hs2]; exact hb) ho hg)
  have hmm := @run_makeMap Try.prog
  obtain ⟨qa0, qc0, qa1, qc1, qa2, qc2, qa3, qc3⟩ := q
  obtain ⟨ma0, mc0, ma1, mc1, ma2, mc2⟩ := qm
  dsimp only at HE HA HR HK hW hW1 S hSt ⊢
  obtain ⟨⟨r1, f1, r10, r11, r12, -⟩, ⟨r2, f2, r20, r21, r22, r23, -⟩, -⟩ := S.facts
  have SW := Lib.hid S
  replace hok := Lib.hid hok
  have S2 := Lib.hid (SW.out.call hB2)
  clear S hp hbd hm hmb hm0
  obtain ⟨⟨z1, g1, z10, z11, z12, -⟩, -⟩ := S2.out.facts
  go_enter Try.func55, Try.ntmps55
  go_wp2_with fail
  clear hW hmm
  with_reducible refine HK.out.mono ?_
  rintro e w3 ⟨rfl, hb3⟩
  have hO3 : Hid (w3.ownsMap Try.prog 9 (plainElem (H := Unit) Try.prog 3) (W.heap.size + 1) 0 (.map [])) := Lib.hid (map_gr hown0.out (gr_below hb3) (fun e => by cases e))
  have S3 := Lib.hid (S2.out.call hb3)
  have hSt3 := Lib.hid (fun w4 ho hg => hSt.out w3 w4 hb3 ho hg)
  clear hW1 hW2 r1 f1 r10 r11 r12 r2 f2 r20 r21 r22 r23 z1 g1 z10 z11 z12 HK hown0 hSt hb3
  go_wp2_with
    (first
      | (refine wpList_insert_own _ rfl _ _ _ 139 rfl 9 3 lawS Try.underlying139 _ (W.heap.size + 1) 0 _ rfl hO3.out (by unfold maxLen; omega) _ _ (kl m) rfl rfl hkey0.out (.lit (.int .i64 0)) [] (plainElem_int Try.underlying3 (WalkArith.wf_i64 (by omega))) ?_
         intro w4 hown4 hg4
         have hR4 := Lib.hid (hSt3.out w4 hown4 hg4)
         clear hown4 hg4))
  clear S3
  go_loopw [6, 8] (fun v s8 wr => ∃ (i : Nat) (g : Rg) (Q : Nat → MixP) (nx : Nat → Value) (nl : Nat → List Value) (D : DataW Unit) (N : Nat), s8 = .int .i64 (i : Int) ∧ i ≤ g.nds.length ∧ g.nds.length ≤ mostN ∧ Hid (RgS p W (200 * i) g Q nx nl D N v wr) ∧ Hid (rgAll (stR p) (apM p) (robB p) mostN (mostN + 1 - i) i g = regL p m)) (fun _ s8 _ => mostN - (intOf s8).toNat)
  case atStart => exact ⟨0, rgStart m, _, _, _, _, _, rfl, Nat.zero_le _, (show (1 : Nat) ≤ 20000 by decide), hR4, Lib.hid rfl⟩
  case round =>
    rename World => wv
    clear hR4
    obtain ⟨i, g, Q, nx, nl, D, N, rfl, hi, hmost, hR, hAll⟩ := hrel
    have hbel := Lib.hid hR.out.bel
    have hWr : W.heap.size ≤ wv.heap.size := hbel.out.size
    have T := Lib.hid (SW.out.call hbel.out)
    obtain ⟨⟨r1, f1, r10, r11, r12, -⟩, ⟨r2, f2, r20, r21, r22, r23, -⟩, -⟩ := T.out.facts
    obtain ⟨AV, cV, rfl, _, _, hVf⟩ := own_form hR.out.mem.row
    by_cases hlt : i < g.nds.length
    · obtain ⟨bV, rfl, hBV, hbV, hcV⟩ := hVf (by omega)
      have e0 : wv.cell? ⟨bV, i * 8, none⟩ = some (.slice (Q i).a0 (ndAt g.nds i).m.base.length (Q i).c0) := (hcV (i * 8 + 0) (by omega)).trans (ndRow_get hlt (by decide))
      have e1 : wv.cell? ⟨bV, i * 8 + 1, none⟩ = some (.slice (Q i).a1 (ndAt g.nds i).m.next.length (Q i).c1) := (hcV (i * 8 + 1) (by omega)).trans (ndRow_get hlt (by decide))
      have e2 : wv.cell? ⟨bV, i * 8 + 2, none⟩ = some (.slice (Q i).a2 (ndAt g.nds i).m.held.length (Q i).c2) := (hcV (i * 8 + 2) (by omega)).trans (ndRow_get hlt (by decide))
      have hx0 := hR.out.mem.mx i hlt
      have hxb := Lib.hid (hR.out.mem.bd i hlt)
      have hxo := Lib.hid (hR.out.mem.ok i hlt)
      have hstA := Lib.hid (fun j h => stR_at (hxo.out.pr) (m := (ndAt g.nds i).m) (j := j) h)
      have hstL := Lib.hid (stR_len hxo.out.pr (ndAt g.nds i).m)
      have hN0 : Hid (rgRow (apM p) (robB p) mostN i g (stR p (ndAt g.nds i).m) = none → regL p m = none) := Lib.hid (fun h => by
        have h2 := hAll.out
        rw [show mostN + 1 - i = (mostN - i) + 1 by omega, all_go hlt, h] at h2
        exact h2.symm)
      have hS0 : Hid (∀ k, rgRow (apM p) (robB p) mostN i g (stR p (ndAt g.nds i).m) = some k → rgAll (stR p) (apM p) (robB p) mostN (mostN - i) (i + 1) k = regL p m) := Lib.hid (fun k h => by
        have h2 := hAll.out
        rw [show mostN + 1 - i = (mostN - i) + 1 by omega, all_go hlt, h] at h2
        exact h2)
      obtain ⟨x, hx⟩ : ∃ x, (ndAt g.nds i).m = x := ⟨_, rfl⟩
      obtain ⟨⟨xa0, xc0, xa1, xc1, xa2, xc2⟩, hq⟩ : ∃ y, Q i = y := ⟨_, rfl⟩
      rw [hx] at e0 e1 e2 hx0 hxb hxo hstA hstL hN0 hS0
      rw [hq] at e0 e1 e2 hx0 hxb
      dsimp only at e0 e1 e2
      have hEn := Lib.hid (fun w' (h : Below wv.heap.size wv w') => HE.out x ⟨xa0, xc0, xa1, xc1, xa2, xc2⟩ w' (hbel.out.trans (h.mono hWr)) (hx0.to h) hxb.out hxo.out)
      have ji : (i : Int) < (g.nds.length : Int) := by omega
      obtain ⟨n, hn⟩ : ∃ n, g.nds.length = n := ⟨_, rfl⟩
      rw [hn] at ji hlt hmost
      rw [hn]
      replace hn := Lib.hid hn
      replace hx := Lib.hid hx
      replace hq := Lib.hid hq
      replace hx0 := Lib.hid hx0
      have bVw : w.heap.size < bV := by omega
      clear hVf hcV
      go_wp2_with fail
      go_region_held3 (fun w' => w'.cell? ⟨w.heap.size, 0, none⟩ = some (.slice qa0 p.vs.length qc0) ∧ w'.cell? ⟨w.heap.size, 1, none⟩ = some (.slice qa1 p.now.length qc1) ∧ w'.cell? ⟨w.heap.size, 2, none⟩ = some (.slice qa2 p.tgt.length qc2) ∧ w'.cell? ⟨w.heap.size, 3, none⟩ = some (.slice qa3 p.tabs.length qc3) ∧
          w'.cell? ⟨bV, i * 8, none⟩ = some (.slice xa0 x.base.length xc0) ∧ w'.cell? ⟨bV, i * 8 + 1, none⟩ = some (.slice xa1 x.next.length xc1) ∧ w'.cell? ⟨bV, i * 8 + 2, none⟩ = some (.slice xa2 x.held.length xc2)) (go_keep)
        (first
          | ((with_reducible refine (hEn.out wv.drew ((Drawn.refl _).drew).below).mono ?_)
             rintro e w4 ⟨_, rfl, hb4, AL, cL, rfl, hownL⟩
             have hb4' := Lib.hid (((Drawn.refl wv).drew).below.trans hb4)
             have S4 := Lib.hid (T.out.call hb4'.out)
             have k0 := (hb4'.out.cell (p := ⟨bV, i * 8, none⟩) hbV).trans e0
             have k1 := (hb4'.out.cell (p := ⟨bV, i * 8 + 1, none⟩) hbV).trans e1
             have k2 := (hb4'.out.cell (p := ⟨bV, i * 8 + 2, none⟩) hbV).trans e2
             clear r1 f1 r10 r11 r12 r2 f2 r20 r21 r22 r23 hb4
             obtain ⟨⟨r1, f1, r10, r11, r12, -⟩, ⟨r2, f2, r20, r21, r22, r23, -⟩, -⟩ := S4.out.facts))
      have hLs0 : Hid (LsI W (stR p x) AL cL (.slice (some ⟨bV, 0, none⟩) n cV) nx n w4) := Lib.hid (by
        have hsz4 : W.heap.size ≤ wv.drew.heap.size := hWr
        refine ⟨own_base hownL hsz4, fun g' hs e => ?_⟩
        have h1 := (hownL.lt g' e).1
        have h2 := spc_lt hR.out.mem (by rw [hn.out]; exact hs)
        have h3 : wv.drew.heap.size = wv.heap.size := rfl
        omega)
      have hR4 := Lib.hid (hR.out.to hb4'.out)
      have hnx0 : Hid ((ndAt g.nds i).m = x) := hx
      clear hownL hb4'
      obtain ⟨L, hL⟩ : ∃ L, stR p x = L := ⟨_, rfl⟩
      rw [hL] at hstA hstL hN0 hS0 hLs0
      rw [hL]
      replace hL := Lib.hid hL
      go_wp2
      clear r1 f1 r10 r11 r12 r2 f2 r20 r21 r22 r23 e0 e1 e2 k0 k1 k2 S4 hEn hR T hbel
      go_loopw [6, 48] (fun v s48 wr => ∃ (j : Nat) (g' : Rg) (Q' : Nat → MixP) (nx' : Nat → Value) (nl' : Nat → List Value) (D' : DataW Unit) (N' : Nat), s48 = .int .i64 (j : Int) ∧ j ≤ L.length ∧ g'.nds.length ≤ mostN ∧ i < g'.nds.length ∧ (ndAt g'.nds i).m = x ∧ Hid (RgS p W (200 * i + 2 * j) g' Q' nx' nl' D' N' v wr) ∧ Hid (LsI W L AL cL v nx' g'.nds.length wr) ∧ Hid (rgRow (apM p) (robB p) mostN i g' (L.drop j) = rgRow (apM p) (robB p) mostN i g L)) (fun _ s48 _ => L.length - (intOf s48).toNat)
      case atStart => exact ⟨0, g, Q, nx, nl, D, N, rfl, Nat.zero_le _, by rw [hn.out]; exact hmost, by rw [hn.out]; exact hlt, hnx0.out, by rw [hn.out] at *; exact hR4, by rw [hn.out]; exact hLs0, Lib.hid rfl⟩
      case round =>
        clear hR4 hLs0
        obtain ⟨j, g', Q', nx', nl', D', N', rfl, hj, hmost', hi', hnd, hR', hLs, hRow⟩ := hrel
        have hbel := Lib.hid hR'.out.bel
        have hWw : W.heap.size ≤ wr.heap.size := hbel.out.size
        have T := Lib.hid (SW.out.call hbel.out)
        obtain ⟨⟨r1, f1, r10, r11, r12, -⟩, ⟨r2, f2, r20, r21, r22, r23, -⟩, -⟩ := T.out.facts
        obtain ⟨AV', cV', rfl, _, _, hVf⟩ := own_form hR'.out.mem.row
        obtain ⟨bW, rfl, hBW, hbW, hcW⟩ := hVf (by omega)
        by_cases hjl : j < L.length
        · have e0 : wr.cell? ⟨bW, i * 8, none⟩ = some (.slice (Q' i).a0 (ndAt g'.nds i).m.base.length (Q' i).c0) := (hcW (i * 8 + 0) (by omega)).trans (ndRow_get hi' (by decide))
          have e1 : wr.cell? ⟨bW, i * 8 + 1, none⟩ = some (.slice (Q' i).a1 (ndAt g'.nds i).m.next.length (Q' i).c1) := (hcW (i * 8 + 1) (by omega)).trans (ndRow_get hi' (by decide))
          have e2 : wr.cell? ⟨bW, i * 8 + 2, none⟩ = some (.slice (Q' i).a2 (ndAt g'.nds i).m.held.length (Q' i).c2) := (hcW (i * 8 + 2) (by omega)).trans (ndRow_get hi' (by decide))
          have e7 : wr.cell? ⟨bW, i * 8 + 7, none⟩ = some (nx' i) := (hcW (i * 8 + 7) (by omega)).trans (ndRow_get hi' (by decide))
          have hx1 := hR'.out.mem.mx i hi'
          have hx1b := hR'.out.mem.bd i hi'
          rw [hnd] at e0 e1 e2 hx1 hx1b
          obtain ⟨⟨xa0, xc0, xa1, xc1, xa2, xc2⟩, hq'⟩ : ∃ y, Q' i = y := ⟨_, rfl⟩
          rw [hq'] at e0 e1 e2 hx1 hx1b
          dsimp only at e0 e1 e2
          obtain ⟨A2, c2', hv2, _, _, hLf⟩ := own_form hLs.out.row
          injection hv2 with ea eb ec
          subst ea ec
          obtain ⟨bL, rfl, hBL, hbL, hcL⟩ := hLf (by omega)
          have c0 : wr.cell? ⟨bL, j * 3, none⟩ = some (.int .i64 (spAt L j).kind) := (hcL (j * 3 + 0) (by omega)).trans (spRow_get hjl (by decide))
          have c1 : wr.cell? ⟨bL, j * 3 + 1, none⟩ = some (.int .i64 (spAt L j).ix) := (hcL (j * 3 + 1) (by omega)).trans (spRow_get hjl (by decide))
          have c2 : wr.cell? ⟨bL, j * 3 + 2, none⟩ = some (.int .i64 (spAt L j).ver) := (hcL (j * 3 + 2) (by omega)).trans (spRow_get hjl (by decide))
          have hap := Lib.hid (hstA.out j hjl)
          have hgo := Lib.hid (fun h => row_go (ap := apM p) (rob := robB p) (most := mostN) (i := i) (g := g') hjl h)
          have hno := Lib.hid (fun h => row_no (ap := apM p) (rob := robB p) (most := mostN) (i := i) (g := g') hjl h)
          have hkn := Lib.hid (fun z h => stp_known (ap := apM p) (rob := robB p) (i := i) (g := g') (s := spAt L j) (z := z) h)
          have hnw := Lib.hid (fun h hr => stp_new (ap := apM p) (rob := robB p) (i := i) (g := g') (s := spAt L j) h hr)
          have hba := Lib.hid (fun h hr => stp_bad (ap := apM p) (rob := robB p) (i := i) (g := g') (s := spAt L j) h hr)
          rw [hnd] at hkn hnw hba
          obtain ⟨s, hs⟩ : ∃ s, spAt L j = s := ⟨_, rfl⟩
          rw [hs] at c0 c1 c2 hap hgo hno hkn hnw hba
          obtain ⟨kd, ix, vr⟩ := s
          dsimp only at c0 c1 c2
          obtain ⟨y, hy⟩ : ∃ y, apM p x ⟨kd, ix, vr⟩ = y := ⟨_, rfl⟩
          have hyo := Lib.hid (apM_mok hxo.out hap.out)
          have hy8 := Lib.hid (apM_h8 (s := ⟨kd, ix, vr⟩) hxo.out hxb.out.h8 hap.out)
          rw [hy] at hyo hy8 hkn hnw hba
          obtain ⟨W3, (hW3 : wr.alloc (.cells #[.int .i64 kd, .int .i64 ix, .int .i64 vr] 63) = W3), S3, hB3⟩ := fm_boxE T.out 63 [.int .i64 kd, .int .i64 ix, .int .i64 vr]
          have hb3' := Lib.hid (hbel.out.trans (hB3.mono hWw))
          have hAA := Lib.hid (fun W4 (h : Below W3.heap.size W3 W4) => HA.out x ⟨xa0, xc0, xa1, xc1, xa2, xc2⟩ ⟨kd, ix, vr⟩ W4 (hb3'.out.trans (h.mono hb3'.out.size)) (hx1.to (hB3.trans (h.mono hB3.size))) hx1b hxo.out)
          rw [hy, hap.out] at hAA
          dsimp only [probV, mixV, stepV] at hAA
          have jk : (j : Int) < (L.length : Int) := by omega
          obtain ⟨n', hn'⟩ : ∃ n, g'.nds.length = n := ⟨_, rfl⟩
          rw [hn'] at hmost' hi' hLs hR'
          rw [hn']
          have jm : (i : Int) < (n' : Int) := by omega
          have f0 := (hB3.cell (p := ⟨bW, i * 8, none⟩) hbW).trans e0
          have f1' := (hB3.cell (p := ⟨bW, i * 8 + 1, none⟩) hbW).trans e1
          have f2' := (hB3.cell (p := ⟨bW, i * 8 + 2, none⟩) hbW).trans e2
          have hwW : wr.heap.size < W3.heap.size := by rw [← hW3]; simp
          have hbW3 : bW < W3.heap.size := by omega
          obtain ⟨⟨u1, g1, u10, u11, u12, -⟩, ⟨v1, h1, v10, v11, v12, -⟩, ⟨v2, h2, v20, v21, v22, v23, -⟩, -⟩ := S3.facts
          have SR := Lib.hid ((Fm.init wr).box 63 [.int .i64 kd, .int .i64 ix, .int .i64 vr])
          rw [hW3] at SR
          replace S3 := Lib.hid S3
          replace hnd := Lib.hid hnd
          replace hn' := Lib.hid hn'
          replace hs := Lib.hid hs
          replace hy := Lib.hid hy
          replace hq' := Lib.hid hq'
          clear hVf hcW hcL hLf hx1 hx1b
          go_upto_region 12 with fail
          go_cut [13, 14] (fun s13 s14 wx => ∃ (b : Nat) (y0 y1 y2 : Option Addr) (z0 z1 z2 : Nat), s13 = .pointer (some ⟨b, 0, none⟩) ∧ s14 = .int .i64 0 ∧ Fm wr wx [⟨b, 56, [.slice y0 y.base.length z0, .slice y1 y.next.length z1, .slice y2 y.held.length z2]⟩, ⟨wr.heap.size, 63, [.int .i64 kd, .int .i64 ix, .int .i64 vr]⟩] [] ∧ AO wx wr.heap.size y ⟨y0, z0, y1, z1, y2, z2⟩)
          case first =>
            clear hW3
            have lB := hB3.size
            have i1 : ¬ w.heap.size = W3.heap.size := by omega
            have i2 : ¬ W3.heap.size = w.heap.size := by omega
            have i3 : ¬ bW = W3.heap.size := by omega
            have i4 : ¬ W3.heap.size = bW := by omega
            have i5 : ¬ wr.heap.size = W3.heap.size := by omega
            have i6 : ¬ W3.heap.size = wr.heap.size := by omega
            go_region_held3 (fun w' => w'.cell? ⟨w.heap.size, 0, none⟩ = some (.slice qa0 p.vs.length qc0) ∧ w'.cell? ⟨w.heap.size, 1, none⟩ = some (.slice qa1 p.now.length qc1) ∧ w'.cell? ⟨w.heap.size, 2, none⟩ = some (.slice qa2 p.tgt.length qc2) ∧ w'.cell? ⟨w.heap.size, 3, none⟩ = some (.slice qa3 p.tabs.length qc3) ∧
                w'.cell? ⟨bW, i * 8, none⟩ = some (.slice xa0 x.base.length xc0) ∧ w'.cell? ⟨bW, i * 8 + 1, none⟩ = some (.slice xa1 x.next.length xc1) ∧ w'.cell? ⟨bW, i * 8 + 2, none⟩ = some (.slice xa2 x.held.length xc2) ∧
                w'.cell? ⟨wr.heap.size, 0, none⟩ = some (.int .i64 kd) ∧ w'.cell? ⟨wr.heap.size, 1, none⟩ = some (.int .i64 ix) ∧ w'.cell? ⟨wr.heap.size, 2, none⟩ = some (.int .i64 vr)) (go_keep)
              (first
                | ((with_reducible refine (hAA.out W3.drew ((Drawn.refl _).drew).below).mono ?_)
                   rintro e w4 ⟨_, rfl, hb4, ⟨y0, z0, y1, z1, y2, z2⟩, rfl, hay⟩
                   have hb4' := ((Drawn.refl W3).drew).below.trans hb4
                   have S4 := Lib.hid (S3.out.call hb4')
                   have k0 := (hb4'.cell (p := ⟨bW, i * 8, none⟩) hbW3).trans f0
                   have k1 := (hb4'.cell (p := ⟨bW, i * 8 + 1, none⟩) hbW3).trans f1'
                   have k2 := (hb4'.cell (p := ⟨bW, i * 8 + 2, none⟩) hbW3).trans f2'
                   have kl := Nat.lt_of_lt_of_le hbW3 hb4'.size
                   have hFa := Lib.hid (And.intro ((SR.out.call hb4').box 56 [.slice y0 y.base.length z0, .slice y1 y.next.length z1, .slice y2 y.held.length z2]) ((hay.base (B' := wr.heap.size) lB).to ((Below.refl _ _).alloc (Nat.le_refl _) (.cells #[.slice y0 y.base.length z0, .slice y1 y.next.length z1, .slice y2 y.held.length z2] 56))))
                   clear r1 f1 r10 r11 r12 r2 f2 r20 r21 r22 r23 u1 g1 u10 u11 u12 v1 h1 v10 v11 v12 v2 h2 v20 v21 v22 v23 c0 c1 c2 e0 e1 e2 e7 f0 f1' f2'
                   obtain ⟨⟨u1, g1, u10, u11, u12, -⟩, ⟨v1, h1, v10, v11, v12, -⟩, ⟨v2, h2, v20, v21, v22, v23, -⟩, -⟩ := S4.out.facts
                   clear hb4 hb4' hay)
                | ((with_reducible refine (hAA.out (W3.alloc (.cells #[.slice none 0 0, .slice none 0 0, .slice none 0 0] 56)).drew (((Below.refl _ _).alloc (Nat.le_refl _) _).drawn ((Drawn.refl _).drew))).mono ?_)
                   rintro e w4 ⟨_, rfl, hb4, ⟨y0, z0, y1, z1, y2, z2⟩, rfl, hay⟩
                   have hb4a := ((Drawn.refl (W3.alloc (.cells #[.slice none 0 0, .slice none 0 0, .slice none 0 0] 56))).drew).below.trans hb4
                   have hz : (W3.alloc (.cells #[.slice none 0 0, .slice none 0 0, .slice none 0 0] 56)).heap.size = W3.heap.size + 1 := by simp
                   have hb4' := ((Below.refl W3.heap.size W3).alloc (Nat.le_refl _) (.cells #[.slice none 0 0, .slice none 0 0, .slice none 0 0] 56)).trans (hb4a.mono (Nat.le_trans (Nat.le_succ _) (Nat.le_of_eq hz.symm)))
                   have S4 := Lib.hid ((S3.out.box 56 [.slice none 0 0, .slice none 0 0, .slice none 0 0]).call hb4a)
                   have k0 := (hb4'.cell (p := ⟨bW, i * 8, none⟩) hbW3).trans f0
                   have k1 := (hb4'.cell (p := ⟨bW, i * 8 + 1, none⟩) hbW3).trans f1'
                   have k2 := (hb4'.cell (p := ⟨bW, i * 8 + 2, none⟩) hbW3).trans f2'
                   have kl := Nat.lt_of_lt_of_le hbW3 hb4'.size
                   have hFb := Lib.hid (And.intro (((((SR.out.box 56 [.slice none 0 0, .slice none 0 0, .slice none 0 0]).call hb4a).set 0 rfl 0 (.slice y0 y.base.length z0)).set 0 rfl 1 (.slice y1 y.next.length z1)).set 0 rfl 2 (.slice y2 y.held.length z2)) ((hay.far3 (g := W3.heap.size) (by show W3.heap.size < (W3.alloc _).heap.size; rw [hz]; omega) (.slice y0 y.base.length z0) (.slice y1 y.next.length z1) (.slice y2 y.held.length z2)).base (B' := wr.heap.size) (Nat.le_trans lB (Nat.le_trans (Nat.le_succ _) (Nat.le_of_eq hz.symm)))))
                   clear r1 f1 r10 r11 r12 r2 f2 r20 r21 r22 r23 u1 g1 u10 u11 u12 v1 h1 v10 v11 v12 v2 h2 v20 v21 v22 v23 c0 c1 c2 e0 e1 e2 e7 f0 f1' f2'
                   obtain ⟨⟨t1, o1, t10, t11, t12, -⟩, ⟨u1, g1, u10, u11, u12, -⟩, ⟨v1, h1, v10, v11, v12, -⟩, ⟨v2, h2, v20, v21, v22, v23, -⟩, -⟩ := S4.out.facts
                   clear hb4 hb4' hb4a hay hz))
            all_goals (go_wp2_with fail; go_meet)
            all_goals
              first
                | exact ⟨_, y0, y1, y2, z0, z1, z2, rfl, rfl, hFa.out.1, hFa.out.2⟩
                | exact ⟨_, y0, y1, y2, z0, z1, z2, rfl, rfl, hFb.out.1, hFb.out.2⟩
          case rest =>
            rename World => wx
            obtain ⟨gy, y0, y1, y2, z0, z1, z2, rfl, rfl, SX, hay⟩ := hcut
            clear r1 f1 r10 r11 r12 r2 f2 r20 r21 r22 r23 u1 g1 u10 u11 u12 v1 h1 v10 v11 v12 v2 h2 v20 v21 v22 v23 c0 c1 c2 e0 e1 e2 e7 f0 f1' f2'
            have hyb := Lib.hid (hay.bd hy8.out)
            have hfy00 : Hid (∀ g2, Spc (.slice (some ⟨bW, 0, none⟩) n' cV') (W.heap.size + 1) nx' g'.nds.length g2 → MFar y ⟨y0, z0, y1, z1, y2, z2⟩ g2) := Lib.hid (fun g2 hs => by
              have h1 := spc_lt hR'.out.mem hs
              exact ⟨fun e => by have := (keyV_lt hay.o0 _ e).1; omega, fun e => by have := (keyV_lt hay.o1 _ e).1; omega, fun e => by have := (keyV_lt hay.o2 _ e).1; omega⟩)
            have hKx := Lib.hid (key_any p y ⟨y0, z0, y1, z1, y2, z2⟩ wx hay.mix hyo.out hy8.out)
            have hkyS := Lib.hid (keyS y (keyL_len hyo.out))
            have hgw : gy < wx.heap.size := by obtain ⟨⟨u1, -⟩, -⟩ := SX.facts; exact u1
            replace SX := Lib.hid SX
            replace hay := Lib.hid hay
            obtain ⟨⟨u1, g1, u10, u11, u12, -⟩, ⟨v1, h1, v10, v11, v12, -⟩, -⟩ := SX.out.facts
            go_wp2_with fail
            with_reducible refine hKx.out.mono ?_
            rintro e w5 ⟨rfl, hb5⟩
            have SX5 := Lib.hid (SX.out.call hb5)
            have hay5 := Lib.hid (hay.out.to hb5)
            have hR5 := Lib.hid (hR'.out.to SX5.out.bel)
            have hL5 := Lib.hid (hLs.out.to SX5.out.bel)
            have hb5W := Lib.hid (hbel.out.trans (SX5.out.bel.mono hWw))
            have T5 := Lib.hid (SW.out.call hb5W.out)
            clear u1 g1 u10 u11 u12 v1 h1 v10 v11 v12 hKx hb5 SX hay hR' hLs hap hAA S3 SR hb3' T
            have hfy0 : Hid (∀ g2, Spc (.slice (some ⟨bW, 0, none⟩) n' cV') (W.heap.size + 1) nx' g'.nds.length g2 → MFar y ⟨y0, z0, y1, z1, y2, z2⟩ g2) := hfy00
            have h5 : n' ≤ 20000 := hmost'
            have j20 : decide (20000 < (n' : Int)) = false := decide_eq_false (by omega)
            have hIn : Hid (i < g'.nds.length) := Lib.hid (by rw [hn'.out]; exact hi')
            have hIn2 : Hid (i < n') := Lib.hid hi'
            have hMo : Hid (g'.nds.length ≤ mostN) := Lib.hid (by rw [hn'.out]; exact hmost')
            have hNd := hnd
            have h20k : Hid (200 * i + 2 * j ≤ 10000000) := Lib.hid (by have := hstL.out; omega)
            have hL100 := hstL.out
            have j100 : (j : Int) < 100 := by omega
            clear h5
            replace hmost' := Lib.hid hmost'
            cases hlk : Go.Sv.look g'.pl y with
            | some z =>
              have hhas := (hR5.out.mpd.yes y hyo.out hy8.out z hlk).1
              have hatk := Lib.hid ((hR5.out.mpd.yes y hyo.out hy8.out z hlk).2)
              have hst := Lib.hid (hkn.out z hlk)
              have hRowF : Hid (rgRow (apM p) (robB p) mostN i g' (L.drop (j + 1)) = rgRow (apM p) (robB p) mostN i g L) := Lib.hid (by
                have h1 := hgo.out (by rw [hst.out, hn'.out]; exact Nat.not_lt.2 hmost'.out)
                rw [hst.out] at h1
                rw [← h1]; exact hRow.out)
              clear hlk hgo hno hkn hnw hba hRow
              by_cases hz : 0 ≤ z
              · have j0 : decide (0 ≤ z) = true := decide_eq_true hz
                have e7 : w5.cell? ⟨bW, i * 8 + 7, none⟩ = some (nx' i) := nd_cell hR5.out.mem (k := i) (j := 7) hIn.out (by decide)
                have hR5u := Lib.hid (hR5.out.mem.nxr i hIn.out)
                clear hz
                go_wp2_with
                  (first
                    | (at_lookup
                       refine wpList_lookup_own_ok_int _ rfl _ _ 139 rfl 9 3 .i64 lawS Try.underlying139 Try.underlying3 (zeroI _) (W.heap.size + 1) N' D' rfl hR5.out.own _ (kl y) rfl hkyS.out ?_
                       intro cz hat hwc
                       obtain rfl : cz = z := by rw [hatk.out] at hat; injection hat with hat; injection hat with _ hat; exact hat.symm
                       clear hat hwc)
                    | (at_builtin
                       refine push_own elInt rfl _ _ rfl W.heap.size _ (nl' i).length (nl' i) hR5u.out rfl [.int .i64 cz] rfl rfl rfl (by have := hR5.out.lle i hIn.out; have := h20k.out; omega) (by omega) hR5.out.bel.size ?_
                       intro vN w8 hown8 hgr8 hb8 hs8 hob8
                       obtain ⟨AN, cN, rfl, -⟩ := own_form hown8
                       have hnz := hR5.out.nexted (i := i) hIn.out hown8 hgr8 hob8 hb8
                       obtain ⟨bZ, cZ, hvZ, hlZ, hfZ, hcZ, hRZ⟩ := hnz
                       injection hvZ with hvA hvB hvC
                       injection hvA with hvA
                       injection hvA with hvA
                       subst hvA
                       have hfr := hfZ (i * 8 + 7)
                       have hLZ := Lib.hid (hL5.out.nexted (i := i) hIn2.out hgr8 hob8 rfl)
                       replace hRZ := Lib.hid hRZ
                       clear hown8 hgr8 hb8 hs8 hob8 hfZ hvB hvC))
                clear e7
                have hLZ2 : Hid (LsI W L (some ⟨bL, 0, none⟩) cL _ _ g'.nds.length _) := Lib.hid (by rw [hn'.out]; exact hLZ.out)
                have hRF := Lib.hid (RgS.cnt (cnt' := 200 * i + 2 * (j + 1)) hRZ.out (by omega))
                go_roundw
                case rel => exact ⟨j + 1, g', _, _, _, _, _, by go_num, hjl, hMo.out, hIn.out, hNd.out, hRF, hLZ2, hRowF⟩
                case measure => simp [intOf]; omega
              · have j0 : decide (0 ≤ z) = false := decide_eq_false hz
                clear hz
                go_wp2_with
                  (first
                    | (at_lookup
                       refine wpList_lookup_own_ok_int _ rfl _ _ 139 rfl 9 3 .i64 lawS Try.underlying139 Try.underlying3 (zeroI _) (W.heap.size + 1) N' D' rfl hR5.out.own _ (kl y) rfl hkyS.out ?_
                       intro cz hat hwc
                       obtain rfl : cz = z := by rw [hatk.out] at hat; injection hat with hat; injection hat with _ hat; exact hat.symm
                       clear hat hwc))
                have hLZ2 : Hid (LsI W L (some ⟨bL, 0, none⟩) cL _ _ g'.nds.length _) := Lib.hid (by rw [hn'.out]; exact hL5.out)
                have hRF := Lib.hid (RgS.cnt (cnt' := 200 * i + 2 * (j + 1)) hR5.out (by omega))
                go_roundw
                case rel => exact ⟨j + 1, g', _, _, _, _, _, by go_num, hjl, hMo.out, hIn.out, hNd.out, hRF, hLZ2, hRowF⟩
                case measure => simp [intOf]; omega
            | none =>
              have hhas := hR5.out.mpd.no y hyo.out hy8.out hlk
              have hnw2 := Lib.hid (hnw.out hlk)
              have hba2 := Lib.hid (hba.out hlk)
              have HR5 := Lib.hid (HR.out y ⟨y0, z0, y1, z1, y2, z2⟩ w5 hb5W.out hay5.out.mix hyb.out hyo.out)
              obtain ⟨⟨r1, f1, r10, r11, r12, -⟩, ⟨r2, f2, r20, r21, r22, r23, -⟩, -⟩ := T5.out.facts
              obtain ⟨⟨u1, g1, u10, u11, u12, -⟩, ⟨v1, h1, v10, v11, v12, -⟩, -⟩ := SX5.out.facts
              clear hlk hkn hnw hba
              go_wp2_with
                (first
                  | (at_lookup
                     refine wpList_lookup_own_ok_int _ rfl _ _ 139 rfl 9 3 .i64 lawS Try.underlying139 Try.underlying3 (zeroI _) (W.heap.size + 1) N' D' rfl hR5.out.own _ (kl y) rfl hkyS.out ?_
                     intro cz hat hwc
                     clear hat hwc))
              with_reducible refine HR5.out.mono ?_
              rintro e w6 ⟨rfl, hb6⟩
              have SX6 := Lib.hid (SX5.out.call hb6)
              have hay6 := Lib.hid (hay5.out.to hb6)
              have hR6 := Lib.hid (hR5.out.to hb6)
              have hL6 := Lib.hid (hL5.out.to hb6)
              clear r1 f1 r10 r11 r12 r2 f2 r20 r21 r22 r23 u1 g1 u10 u11 u12 v1 h1 v10 v11 v12 HR5 hb6 SX5 hay5 hR5 hL5 T5 hhas
              obtain ⟨⟨u1, g1, u10, u11, u12, -⟩, ⟨v1, h1, v10, v11, v12, -⟩, -⟩ := SX6.out.facts
              cases hrob : robB p y with
              | false =>
                have hst := Lib.hid (hba2.out hrob)
                have hRowF : Hid (rgRow (apM p) (robB p) mostN i ⟨g'.nds, (y, -1) :: g'.pl⟩ (L.drop (j + 1)) = rgRow (apM p) (robB p) mostN i g L) := Lib.hid (by
                  have h1 := hgo.out (by rw [hst.out]; show ¬ mostN < g'.nds.length; rw [hn'.out]; exact Nat.not_lt.2 hmost'.out)
                  rw [hst.out] at h1
                  rw [← h1]; exact hRow.out)
                replace hrob := Lib.hid hrob
                clear hgo hno hnw2 hba2 hRow
                go_wp2_with
                  (first
                    | (at_mapUpdate
                       refine wpList_mapUpdate_own _ rfl _ _ _ 139 rfl 9 3 lawS Try.underlying139 _ (W.heap.size + 1) N' D' rfl hR6.out.own (by have := hR6.out.nle; have := h20k.out; unfold maxLen; omega) _ _ (kl y) rfl rfl hkyS.out (.lit (.int .i64 (-1))) [] (plainElem_int Try.underlying3 (WalkArith.wf_i64 (by omega))) ?_
                       intro w9 hown9 hgr9
                       have hRM := Lib.hid (hR6.out.mapped hyo.out hy8.out hown9 hgr9)
                       have hLM := Lib.hid (hL6.out.gr hgr9 (fun g2 e => by injection e with e; subst e; exact Or.inr (Or.inl rfl)))
                       clear hown9 hgr9))
                have hLZ2 : Hid (LsI W L (some ⟨bL, 0, none⟩) cL _ _ g'.nds.length _) := Lib.hid (by rw [hn'.out]; exact hLM.out)
                have hRF := Lib.hid (RgS.cnt (cnt' := 200 * i + 2 * (j + 1)) hRM.out (by omega))
                go_roundw
                case rel => exact ⟨j + 1, ⟨g'.nds, (y, -1) :: g'.pl⟩, _, _, _, _, _, by go_num, hjl, hMo.out, hIn.out, hNd.out, hRF, hLZ2, hRowF⟩
                case measure => simp [intOf]; omega
              | true =>
                have hst := Lib.hid (hnw2.out hrob)
                have hgo2 : Hid (¬ 20000 < n' + 1 → rgRow (apM p) (robB p) mostN i ⟨g'.nds ++ [⟨y, i, ⟨kd, ix, vr⟩⟩], (y, (g'.nds.length : Int)) :: g'.pl⟩ (L.drop (j + 1)) = rgRow (apM p) (robB p) mostN i g L) := Lib.hid (fun hh => by
                  have h1 := hgo.out (by rw [hst.out]; show ¬ mostN < (g'.nds ++ [_]).length; rw [List.length_append, List.length_singleton, hn'.out]; exact hh)
                  rw [hst.out] at h1
                  rw [← h1]; exact hRow.out)
                have hno2 : Hid (20000 < n' + 1 → regL p m = none) := Lib.hid (fun hh => by
                  refine hN0.out ?_
                  rw [← hRow.out]
                  refine hno.out ?_
                  rw [hst.out]
                  show mostN < (g'.nds ++ [_]).length
                  rw [List.length_append, List.length_singleton, hn'.out]; exact hh)
                replace hrob := Lib.hid hrob
                clear hgo hno hnw2 hba2 hRow j20
                have hgo3 : Hid (¬ 20000 < n' + 1 → rgRow (apM p) (robB p) mostN i ⟨g'.nds ++ [⟨y, i, ⟨kd, ix, vr⟩⟩], (y, (n' : Int)) :: g'.pl⟩ (L.drop (j + 1)) = rgRow (apM p) (robB p) mostN i g L) := Lib.hid (by have h1 := hgo2.out; rw [hn'.out] at h1; exact h1)
                have hrow6 : Hid (w6.ownsRow W.heap.size 115 8 (.slice (some ⟨bW, 0, none⟩) n' cV') n' (ndRow g'.nds Q' nx')) := Lib.hid (by have := hR6.out.mem.row; rw [hn'.out] at this; exact this)
                have hLen : Hid ((g'.nds ++ [(⟨y, i, ⟨kd, ix, vr⟩⟩ : Nd)]).length = n' + 1) := Lib.hid (by rw [List.length_append, List.length_singleton, hn'.out])
                have hIn9 : Hid (i < (g'.nds ++ [(⟨y, i, ⟨kd, ix, vr⟩⟩ : Nd)]).length) := Lib.hid (by rw [hLen.out]; have := hIn2.out; omega)
                have hIn92 : Hid (i < n' + 1) := Lib.hid (by have := hIn2.out; omega)
                have hNd9 : Hid ((ndAt (g'.nds ++ [(⟨y, i, ⟨kd, ix, vr⟩⟩ : Nd)]) i).m = x) := Lib.hid (by rw [ndAt_lt hIn.out]; exact hNd.out)
                have n20 : (n' : Int) ≤ 20000 := by have : n' ≤ 20000 := hmost'.out; omega
                have jge : decide (0 ≤ (n' : Int)) = true := decide_eq_true (by omega)
                clear hgo2
                by_cases hbig : 20000 < n' + 1
                · have j21 : decide (20000 < (n' : Int) + 1) = true := decide_eq_true (by omega)
                  have hNone := Lib.hid (hno2.out hbig)
                  clear hbig hno2 hgo3
                  go_wp2_with
                    (first
                      | (at_builtin
                         refine push_own elNode rfl _ _ rfl W.heap.size _ n' (ndRow g'.nds Q' nx') hrow6.out rfl [.slice y0 y.base.length z0, .slice y1 y.next.length z1, .slice y2 y.held.length z2, .int .i64 (i : Int), .int .i64 kd, .int .i64 ix, .int .i64 vr, .slice none 0 0] rfl rfl rfl (by omega) (by omega) hR6.out.bel.size ?_
                         intro vM w7 hown7 hgr7 hb7 hs7 hob7
                         obtain ⟨AM, cM, rfl, _, _, hMf⟩ := own_form hown7
                         obtain ⟨bM, rfl, hBM, hbM, hcM⟩ := hMf (by omega)
                         have hown7b := hown7
                         rw [← hn'.out] at hown7b
                         have hRP := hR6.out.pushed (x := ⟨y, (i : Int), ⟨kd, ix, vr⟩⟩) (q := ⟨y0, z0, y1, z1, y2, z2⟩) hay6.out.mix hyb.out hyo.out hfy0.out hown7b hgr7 hob7 hb7
                         rw [hn'.out] at hRP
                         replace hRP := Lib.hid hRP
                         have hLP := Lib.hid (hL6.out.pushed hgr7 hob7)
                         clear hown7 hgr7 hb7 hs7 hob7 hMf hcM hown7b)
                      | (at_mapUpdate
                         refine wpList_mapUpdate_own _ rfl _ _ _ 139 rfl 9 3 lawS Try.underlying139 _ (W.heap.size + 1) N' D' rfl hRP.out.own (by have := hRP.out.nle; have := h20k.out; unfold maxLen; omega) _ _ (kl y) rfl rfl hkyS.out (.lit (.int .i64 (n' : Int))) [] (plainElem_int Try.underlying3 (WalkArith.wf_i64 (by omega))) ?_
                         intro w9 hown9 hgr9
                         have hRM2 := Lib.hid (hRP.out.mapped hyo.out hy8.out hown9 hgr9)
                         have hLM2 := Lib.hid (hLP.out.gr hgr9 (fun g2 e => by injection e with e; subst e; exact Or.inr (Or.inl rfl)))
                         clear hown9 hgr9
                         have e7 : w9.cell? ⟨bM, i * 8 + 7, none⟩ = some (upd n' nx' (.slice none 0 0) i) := nd_cell hRM2.out.mem (k := i) (j := 7) hIn9.out (by decide)
                         have hRM2u := Lib.hid (hRM2.out.mem.nxr i hIn9.out))
                      | (at_builtin
                         refine push_own elInt rfl _ _ rfl W.heap.size _ (upd n' nl' [] i).length (upd n' nl' [] i) hRM2u.out rfl [.int .i64 (n' : Int)] rfl rfl rfl (by have := hRM2.out.lle i hIn9.out; have := h20k.out; omega) (by omega) hRM2.out.bel.size ?_
                         intro vN w8 hown8 hgr8 hb8 hs8 hob8
                         obtain ⟨AN, cN, rfl, -⟩ := own_form hown8
                         have hnz := hRM2.out.nexted (i := i) hIn9.out hown8 hgr8 hob8 hb8
                         obtain ⟨bZ, cZ, hvZ, hlZ, hfZ, hcZ, hRZ⟩ := hnz
                         injection hvZ with hvA hvB hvC
                         injection hvA with hvA
                         injection hvA with hvA
                         subst hvA
                         have hfr := hfZ (i * 8 + 7)
                         have hLZ := Lib.hid (hLM2.out.nexted (i := i) hIn92.out hgr8 hob8 rfl)
                         replace hRZ := Lib.hid hRZ
                         clear hown8 hgr8 hb8 hs8 hob8 hfZ hvB hvC))
                  have SF := Lib.hid (SW.out.call hRZ.out.bel)
                  refine bodyPost_ret (v := .tuple #[.slice none 0 0, .int .i64 3]) (by simp [results, Try.results55, go_sem]) rfl ?_
                  exact Ret.mk ⟨SF.out.bel, by rw [hNone.out]⟩
                · have j21 : decide (20000 < (n' : Int) + 1) = false := decide_eq_false (by omega)
                  have hMo9 : Hid ((g'.nds ++ [(⟨y, i, ⟨kd, ix, vr⟩⟩ : Nd)]).length ≤ mostN) := Lib.hid (by rw [hLen.out]; exact Nat.not_lt.1 hbig)
                  have hRowF9 := Lib.hid (hgo3.out hbig)
                  clear hbig hno2 hgo3
                  go_wp2_with
                    (first
                      | (at_builtin
                         refine push_own elNode rfl _ _ rfl W.heap.size _ n' (ndRow g'.nds Q' nx') hrow6.out rfl [.slice y0 y.base.length z0, .slice y1 y.next.length z1, .slice y2 y.held.length z2, .int .i64 (i : Int), .int .i64 kd, .int .i64 ix, .int .i64 vr, .slice none 0 0] rfl rfl rfl (by omega) (by omega) hR6.out.bel.size ?_
                         intro vM w7 hown7 hgr7 hb7 hs7 hob7
                         obtain ⟨AM, cM, rfl, _, _, hMf⟩ := own_form hown7
                         obtain ⟨bM, rfl, hBM, hbM, hcM⟩ := hMf (by omega)
                         have hown7b := hown7
                         rw [← hn'.out] at hown7b
                         have hRP := hR6.out.pushed (x := ⟨y, (i : Int), ⟨kd, ix, vr⟩⟩) (q := ⟨y0, z0, y1, z1, y2, z2⟩) hay6.out.mix hyb.out hyo.out hfy0.out hown7b hgr7 hob7 hb7
                         rw [hn'.out] at hRP
                         replace hRP := Lib.hid hRP
                         have hLP := Lib.hid (hL6.out.pushed hgr7 hob7)
                         clear hown7 hgr7 hb7 hs7 hob7 hMf hcM hown7b)
                      | (at_mapUpdate
                         refine wpList_mapUpdate_own _ rfl _ _ _ 139 rfl 9 3 lawS Try.underlying139 _ (W.heap.size + 1) N' D' rfl hRP.out.own (by have := hRP.out.nle; have := h20k.out; unfold maxLen; omega) _ _ (kl y) rfl rfl hkyS.out (.lit (.int .i64 (n' : Int))) [] (plainElem_int Try.underlying3 (WalkArith.wf_i64 (by omega))) ?_
                         intro w9 hown9 hgr9
                         have hRM2 := Lib.hid (hRP.out.mapped hyo.out hy8.out hown9 hgr9)
                         have hLM2 := Lib.hid (hLP.out.gr hgr9 (fun g2 e => by injection e with e; subst e; exact Or.inr (Or.inl rfl)))
                         clear hown9 hgr9
                         have e7 : w9.cell? ⟨bM, i * 8 + 7, none⟩ = some (upd n' nx' (.slice none 0 0) i) := nd_cell hRM2.out.mem (k := i) (j := 7) hIn9.out (by decide)
                         have hRM2u := Lib.hid (hRM2.out.mem.nxr i hIn9.out))
                      | (at_builtin
                         refine push_own elInt rfl _ _ rfl W.heap.size _ (upd n' nl' [] i).length (upd n' nl' [] i) hRM2u.out rfl [.int .i64 (n' : Int)] rfl rfl rfl (by have := hRM2.out.lle i hIn9.out; have := h20k.out; omega) (by omega) hRM2.out.bel.size ?_
                         intro vN w8 hown8 hgr8 hb8 hs8 hob8
                         obtain ⟨AN, cN, rfl, -⟩ := own_form hown8
                         have hnz := hRM2.out.nexted (i := i) hIn9.out hown8 hgr8 hob8 hb8
                         obtain ⟨bZ, cZ, hvZ, hlZ, hfZ, hcZ, hRZ⟩ := hnz
                         injection hvZ with hvA hvB hvC
                         injection hvA with hvA
                         injection hvA with hvA
                         subst hvA
                         have hfr := hfZ (i * 8 + 7)
                         have hLZ := Lib.hid (hLM2.out.nexted (i := i) hIn92.out hgr8 hob8 rfl)
                         replace hRZ := Lib.hid hRZ
                         clear hown8 hgr8 hb8 hs8 hob8 hfZ hvB hvC))
                  have hLZ2 : Hid (LsI W L (some ⟨bL, 0, none⟩) cL _ _ (g'.nds ++ [(⟨y, i, ⟨kd, ix, vr⟩⟩ : Nd)]).length _) := Lib.hid (by rw [hLen.out]; exact hLZ.out)
                  have hRF := Lib.hid (RgS.cnt (cnt' := 200 * i + 2 * (j + 1)) hRZ.out (by omega))
                  go_roundw
                  case rel => exact ⟨j + 1, ⟨g'.nds ++ [⟨y, i, ⟨kd, ix, vr⟩⟩], (y, (n' : Int)) :: g'.pl⟩, _, _, _, _, _, by go_num, hjl, hMo9.out, hIn9.out, hNd9.out, hRF, hLZ2, hRowF9⟩
                  case measure => simp [intOf]; omega
        · obtain rfl : j = L.length := by omega
          have hEnd : Hid (rgAll (stR p) (apM p) (robB p) mostN (mostN + 1 - (i + 1)) (i + 1) g' = regL p m) := Lib.hid (by
            rw [show mostN + 1 - (i + 1) = mostN - i by omega]
            exact hS0.out g' (by rw [← hRow.out]; exact row_end))
          have hRF := Lib.hid (RgS.cnt (cnt' := 200 * (i + 1)) hR'.out (by have := hstL.out; omega))
          have i20 : (i : Int) < 20000 := by have : g'.nds.length ≤ 20000 := hmost'; omega
          have iM : i < mostN := by have : g'.nds.length ≤ 20000 := hmost'; show i < 20000; omega
          have hi2 : Hid (i + 1 ≤ g'.nds.length) := Lib.hid hi'
          have hM2 : Hid (g'.nds.length ≤ mostN) := Lib.hid hmost'
          replace iM := Lib.hid iM
          clear hR' hLs hRow hVf hcW hjl hi' hmost'
          go_wp2
          go_roundw
          case rel => exact ⟨i + 1, g', _, _, _, _, _, by go_num, hi2.out, hM2.out, hRF, hEnd⟩
          case measure => have := iM.out; simp [intOf]; omega
    · have hReg : Hid (regL p m = some g) := Lib.hid (by rw [← hAll.out]; exact all_end hlt)
      obtain ⟨A', c', hv, _, _, ha⟩ := own_arrN (f := ndF g.nds Q nx) hR.out.mem.row (fun k hk i hi => ndRow_get hk hi)
      injection hv with ea eb ec
      subst ea ec
      have hPost : Hid (RegR p w (regL p m) (.tuple #[.slice AV g.nds.length cV, .int .i64 0]) wv) := Lib.hid ⟨T.out.bel, by rw [hReg.out]; exact ⟨AV, cV, Q, nx, rfl, ha, fun k hk => ⟨hR.out.mem.mx k hk, hR.out.mem.bd k hk, hR.out.mem.ok k hk⟩⟩⟩
      have hii : i = g.nds.length := by omega
      obtain ⟨n, hn⟩ : ∃ n, g.nds.length = n := ⟨_, rfl⟩
      rw [hn] at hii hPost
      rw [hn]
      subst hii
      replace hR := Lib.hid hR
      clear hn hlt ha hVf
      go_wp2
      refine bodyPost_ret (v := .tuple #[.slice AV i cV, .int .i64 0]) (by simp [results, Try.results55, go_sem]) rfl ?_
      exact Ret.mk hPost.out
end Go.Proofs.Ytickckehhfdoeaa
