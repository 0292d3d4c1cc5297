/-
  CONTRACTS of trim, of both texts; slices.Clone at uint32; how numbers lie in memory.
  Conditions: those that each theorem names.
-/
import Derived.Test.YtpoddmkimhkmoaaGreatChecked
import Derived.Test.YtpoddmkimhkmoaaGreatNt1
import Derived.Deep.DeepCutAuto
import Derived.WalkSpells
import Derived.IntWalk
import Derived.Deep.QuietTactic
import Derived.BigQuiet
namespace Go.Proofs.YtpoddmkimhkmoaaGreat
open Go.RowKit Go.Sv

def u32v (l : List Int) (k : Nat) : Value := .int .u32 (gi l k)
def uRow (l : List Int) : List Value := l.map (Value.int .u32)
theorem uRow_snoc (l : List Int) (x : Int) : uRow (l ++ [x]) = uRow l ++ [.int .u32 x] := by simp [uRow]
theorem uRow_get {l : List Int} {k : Nat} (h : k < l.length) : (uRow l)[k]? = some (u32v l k) := by simp [uRow, u32v, gi, h]
theorem uRow_set (l : List Int) (k : Nat) (x : Int) : (uRow l).set k (.int .u32 x) = uRow (l.set k x) := by simp [uRow, List.map_set]
theorem uRow_len (l : List Int) : (uRow l).length = l.length := by simp [uRow]
theorem elU32 : ElemT Tryz.prog 22 69 (.int .u32 0) 1 4 := ⟨Tryz.underlying22, by kernel_rfl, rfl, by decide⟩
structure LmP where
  a : Option Addr
  c : Nat
/-- a row of limbs in memory -/
structure RLm (w : World) (B : Nat) (l : List Int) (q : LmP) : Prop where
  arr : Arr w B q.a l.length (u32v l)
  nil : q.a = none → l.length = 0 ∧ q.c = 0
  cap : l.length ≤ q.c
  cmx : q.c ≤ maxLen
theorem RLm.below {w w' : World} {B : Nat} {l : List Int} {q : LmP} (h : RLm w B l q) (hb : Below B w w') : RLm w' B l q := ⟨h.arr.below hb, h.nil, h.cap, h.cmx⟩
theorem RLm.more {w : World} {B B' : Nat} {l : List Int} {q : LmP} (h : RLm w B l q) (hB : B ≤ B') : RLm w B' l q := ⟨h.arr.more hB, h.nil, h.cap, h.cmx⟩
theorem RLm.to {w w' : World} {l : List Int} {q : LmP} (h : RLm w w.heap.size l q) (hb : Below w.heap.size w w') : RLm w' w'.heap.size l q := (h.below hb).more hb.size
theorem RLm.drawn {w w' : World} {B : Nat} {l : List Int} {q : LmP} (h : RLm w B l q) (hd : Drawn w w') : RLm w' B l q := ⟨h.arr.drawn hd, h.nil, h.cap, h.cmx⟩
abbrev rowV (l : List Int) (q : LmP) : Value := .slice q.a l.length q.c
abbrev natV (l : List Int) (q : LmP) : Value := .agg #[.slice q.a l.length q.c]
/-- its block is new -/
def Fr (b : Nat) (q : LmP) : Prop := ∀ g, q.a = some g → b ≤ g.block
theorem Fr.none_ (b : Nat) : Fr b ⟨none, 0⟩ := fun _ h => by cases h
theorem Fr.le {b b' : Nat} {q : LmP} (h : Fr b q) (hb : b' ≤ b) : Fr b' q := fun g hg => Nat.le_trans hb (h g hg)
/-- what a call leaves that hands back a row of limbs -/
def LRes (w : World) (l : List Int) (v : Value) (w' : World) : Prop := ∃ q : LmP, v = rowV l q ∧ RLm w' w'.heap.size l q ∧ Fr w.heap.size q ∧ Below w.heap.size w w'
/-- .. a number -/
def NRes (w : World) (l : List Int) (v : Value) (w' : World) : Prop := ∃ q : LmP, v = natV l q ∧ RLm w' w'.heap.size l q ∧ Fr w.heap.size q ∧ Below w.heap.size w w'
/-- .. a number and an error -/
def NRes2 (w : World) (l : List Int) (E : Int) (v : Value) (w' : World) : Prop := ∃ q : LmP, v = .tuple #[natV l q, .int .i64 E] ∧ RLm w' w'.heap.size l q ∧ Fr w.heap.size q ∧ Below w.heap.size w w'
theorem RLm.none_ (w : World) (B : Nat) : RLm w B [] ⟨none, 0⟩ := ⟨fun h => by simp at h, fun _ => ⟨rfl, rfl⟩, Nat.le_refl _, Nat.zero_le _⟩
theorem NRes.none_ {w w' : World} (h : Below w.heap.size w w') : NRes w [] (.agg #[.slice none 0 0]) w' := ⟨⟨none, 0⟩, rfl, RLm.none_ _ _, Fr.none_ _, h⟩
theorem NRes2.none_ {w w' : World} {E : Int} (h : Below w.heap.size w w') : NRes2 w [] E (.tuple #[.agg #[.slice none 0 0], .int .i64 E]) w' := ⟨⟨none, 0⟩, rfl, RLm.none_ _ _, Fr.none_ _, h⟩
theorem own_rlm {w : World} {base : Nat} {e : TypeId} {v : Value} {l : List Int} {n : Nat} (h : w.ownsRow base e 1 v n (uRow l)) (hn : n = l.length) : ∃ q : LmP, v = rowV l q ∧ RLm w w.heap.size l q ∧ Fr base q := by
  subst hn
  obtain ⟨A, c, rfl, h1, h2, h3⟩ := own_arr h (f := u32v l) (fun k hk => uRow_get hk)
  refine ⟨⟨A, c⟩, rfl, ⟨h3, own_nil h, h1, h2⟩, fun g hg => ?_⟩
  rcases h.2 with ⟨e, _⟩ | ⟨b, cap, cur, e, hb, _⟩
  · injection e with e _ _
    rw [show A = some g from hg] at e
    cases e
  · injection e with e _ _
    rw [show A = some g from hg] at e
    injection e with e
    subst e
    exact hb
theorem own_lres {w w' : World} {base : Nat} {v : Value} {l : List Int} {e : TypeId} {n : Nat} (h : w'.ownsRow base e 1 v n (uRow l)) (hn : n = l.length) (hb : Below w.heap.size w w') (hB : w.heap.size ≤ base) : LRes w l v w' := by
  obtain ⟨q, hv, hr, hf⟩ := own_rlm h hn
  exact ⟨q, hv, hr, hf.le hB, hb⟩
/-- a row from the head of block g on, free to be written -/
structure RowAt (w : World) (g : Nat) (l : List Int) : Prop where
  lt : g < w.heap.size
  cell : ∀ k, k < l.length → w.cell? ⟨g, k, none⟩ = some (.int .u32 (gi l k))
  free : ∀ k, w.frozen? ⟨g, k, none⟩ = false
theorem RowAt.to {w w' : World} {g : Nat} {l : List Int} (h : RowAt w g l) (hb : Below w.heap.size w w') : RowAt w' g l :=
  ⟨Nat.lt_of_lt_of_le h.lt hb.size, fun k hk => (hb.cell h.lt).trans (h.cell k hk), fun k => (hb.frozen h.lt).trans (h.free k)⟩
theorem RowAt.drawn {w w' : World} {g : Nat} {l : List Int} (h : RowAt w g l) (hd : Drawn w w') : RowAt w' g l :=
  ⟨by rw [hd.size]; exact h.lt, fun k hk => (hd.cell _).trans (h.cell k hk), fun k => (hd.frozen _).trans (h.free k)⟩
theorem RowAt.set {w : World} {g : Nat} {l : List Int} (h : RowAt w g l) {k : Nat} (hk : k < l.length) (x : Int) : RowAt (w.setCell ⟨g, k, none⟩ (.int .u32 x)) g (l.set k x) := by
  refine ⟨by simpa using h.lt, fun j hj => ?_, fun j => by rw [World.frozen?_setCell]; exact h.free j⟩
  rw [List.length_set] at hj
  by_cases e : k = j
  · subst e
    rw [gi_set hk]
    exact World.cell?_setCell_same _ _ _ (h.cell k hk)
  · rw [gi_set_ne e, World.cell?_setCell_other _ _ _ _ (fun h => e (by injection h))]
    exact h.cell j hj
theorem RowAt.rlm {w : World} {g c n : Nat} {l : List Int} (h : RowAt w g l) (hl : l.length = n) (hc : n ≤ c) (hm : c ≤ maxLen) : RLm w w.heap.size l ⟨some ⟨g, 0, none⟩, c⟩ := by
  subst hl
  exact ⟨fun _ => ⟨g, 0, rfl, h.lt, fun k hk => by rw [Nat.zero_add]; exact h.cell k hk⟩, (fun h => by cases h), hc, hm⟩
/-- what a call leaves that hands back a new row -/
def LResO (w : World) (l : List Int) (v : Value) (w' : World) : Prop := ∃ q : LmP, v = rowV l q ∧ RLm w' w'.heap.size l q ∧ Fr w.heap.size q ∧ Below w.heap.size w w' ∧ (0 < l.length → ∃ g, q.a = some ⟨g, 0, none⟩ ∧ RowAt w' g l)
theorem own_lresO {w w' : World} {v : Value} {l : List Int} {e : TypeId} (h : w'.ownsRow w.heap.size e 1 v l.length (uRow l)) (hb : Below w.heap.size w w') : LResO w l v w' := by
  obtain ⟨q, rfl, hr, hf, _⟩ := own_lres h rfl hb (Nat.le_refl _)
  refine ⟨q, rfl, hr, hf, hb, fun hn => ?_⟩
  obtain ⟨qa, qc⟩ := q
  obtain ⟨g, cap, hv, _, _⟩ := h.form hn
  injection hv with e1 e2 e3
  dsimp only at e1
  subst e1
  refine ⟨g, rfl, ⟨?_, fun k hk => (h.cellAt k (by omega)).trans (uRow_get hk), fun k => h.frozenAt k⟩⟩
  obtain ⟨b, off, e4, hb4, _⟩ := hr.arr hn
  cases e4
  exact hb4

/-- a new row that is a copy of another: 'append([]uint32{}, l...)' -/
theorem copy_own {A : Option Addr} {n c K : Nat} {l : List Int} {w : World} {ops : Array Oper} {rest : List Oper} {o : Oper} {a : Act} {Q : Exit → Act → World → Prop}
    (hgd : o.guard = none) (s x : Operand) (ho : o.op = .call { callee := .builtin .append, args := #[s, x], argTypes := #[22, 22] })
    (hK : w.heap.size = K) (hl : l.length = n) (ha : Arr w w.heap.size A n (u32v l)) (hA : A = none → n = 0) (hn : n ≤ 1000000)
    (hs : a.eval s = .slice (some ⟨K, 0, none⟩) 0 0) (hx : a.eval x = .slice A n c)
    (h : ∀ v' w', LRes w l v' w' → w'.ownsRow w.heap.size 69 1 v' l.length (uRow l) → wpList Tryz.prog ops Q rest (a.put o.dst v') w') : wpList Tryz.prog ops Q (o :: rest) a (w.alloc (.cells #[] 69)) := by
  subst hl hK
  refine append_arr elU32 hgd s x ho w.heap.size _ 0 [] (World.ownsRow_made _ _ 0 (Nat.le_refl _) (Nat.zero_le _) rfl) hs A l.length c (uRow l) hx (by rw [uRow_len, Nat.mul_one]) ?_ hA ?_ (by omega) (by omega) (by simp) ?_
  · intro u hu
    obtain ⟨j, _, rfl⟩ := List.mem_map.1 hu
    rfl
  · intro ad e j u hu
    refine arr_cells (ha.below ((Below.refl _ _).alloc (Nat.le_refl _) _)) ad e j u ?_
    rw [← hu]
    by_cases hj : j < l.length
    · rw [uRow_get hj]; simp [hj]
    · rw [List.getElem?_eq_none (by simp; omega), List.getElem?_eq_none (by rw [uRow_len]; omega)]
  · intro v' w' hown hg hb hor
    have hb2 : Below w.heap.size w w' := ((Below.refl _ _).alloc (Nat.le_refl _) _).trans hb
    simp only [List.nil_append, Nat.zero_add] at hown
    exact h v' w' (own_lres hown rfl hb2 (Nat.le_refl _)) hown

theorem clone_any (l : List Int) (A : Option Addr) (n c : Nat) (w : World) (ha : Arr w w.heap.size A n (u32v l)) (hl : l.length = n) (hA : A = none → n = 0 ∧ c = 0) (hn : n ≤ 1000000) :
    Calls Tryz.prog 73 #[.slice A n c] w (Ret (LResO w l)) := by
  subst hl
  have hnil := fun w => Lib.run_eql_slice_nil (P := Tryz.prog) w 22 69 A l.length c 0 0 Tryz.underlying22
  have hnil0 := fun w => Lib.run_eql_slice_nil (P := Tryz.prog) w 22 69 none 0 0 0 0 Tryz.underlying22
  cases A with
  | none =>
    obtain ⟨h0, rfl⟩ := hA rfl
    have hl : l = [] := List.eq_nil_of_length_eq_zero h0
    subst hl
    clear hA ha h0 hnil
    go_enter Tryz.func73, Tryz.ntmps73
    go_wp2
    go_ret
    exact Ret.mk ⟨⟨none, 0⟩, rfl, RLm.none_ _ _, Fr.none_ _, Below.refl _ _, fun h => by simp at h⟩
  | some ad =>
    clear hA hnil0
    replace ha := Lib.hid ha
    go_enter Tryz.func73, Tryz.ntmps73
    go_wp2_with (at_builtin; refine copy_own rfl _ _ rfl rfl rfl ha.out (fun h => by cases h) hn rfl rfl ?_)
    intro v' w' hR' hown
    have hR : Hid (LResO w l v' w') := Lib.hid (own_lresO hown (by obtain ⟨_, _, _, _, hb⟩ := hR'; exact hb))
    clear hR' hown
    go_wp2
    go_ret
    exact Ret.mk hR.out
end Go.Proofs.YtpoddmkimhkmoaaGreat

namespace Go.Proofs.YtpoddmkimhkmoaaGreat
open Go.RowKit Go.Sv

def lenOf : Value → Nat
  | .slice _ n _ => n
  | _ => 0
/-- the result's cell, behind all -/
theorem res_cell {w w' : World} {t : TypeId} {v : Value} (h : Below (w.heap.size + 1) (w.alloc (.cells #[v] t)) w') :
    w'.cell? ⟨w.heap.size, 0, none⟩ = some v ∧ w'.frozen? ⟨w.heap.size, 0, none⟩ = false ∧ w.heap.size < w'.heap.size := by
  have hs := h.size
  simp at hs
  refine ⟨(h.cell (by simp)).trans (by rw [World.cell?_alloc_new]; rfl), (h.frozen (by simp)).trans ?_, by omega⟩
  go_simp
theorem below1 {w w' : World} {o : Obj} (h : Below (w.alloc o).heap.size (w.alloc o) w') : Below w.heap.size w w' :=
  ((Below.refl _ _).alloc (Nat.le_refl _) o).trans (h.mono (by simp))
theorem below1' {w w' : World} {o : Obj} (h : Below (w.alloc o).heap.size (w.alloc o) w') : Below (w.heap.size + 1) (w.alloc o) w' := h.mono (by simp)
/-- a number's row behind the store of the result into block b -/
theorem rlm_put {w' : World} {l : List Int} {q : LmP} {b : Nat} (h : RLm w' w'.heap.size l q) (hf : Fr (b + 1) q) (v : Value) : RLm (w'.setCell ⟨b, 0, none⟩ v) (w'.setCell ⟨b, 0, none⟩ v).heap.size l q := by
  refine ⟨fun hn => ?_, h.nil, h.cap, h.cmx⟩
  obtain ⟨g, off, e, hg, hc⟩ := h.arr hn
  refine ⟨g, off, e, by simpa using hg, fun k hk => ?_⟩
  rw [← hc k hk]
  refine World.cell?_setCell_other _ _ _ _ fun e2 => ?_
  have h3 := hf _ e
  injection e2 with e3
  simp at h3
  omega
/-- a call's row, laid into the result's block -/
theorem nres_put {w w' : World} {o : Obj} {l : List Int} {q : LmP} (hr : RLm w' w'.heap.size l q) (hf : Fr (w.alloc o).heap.size q) (hb : Below (w.alloc o).heap.size (w.alloc o) w') (v : Value) :
    NRes w l (natV l q) (w'.setCell ⟨w.heap.size, 0, none⟩ v) :=
  ⟨q, rfl, rlm_put hr (hf.le (by simp)) v, hf.le (by simp), (below1 hb).setCell (Nat.le_refl _) v⟩

set_option maxRecDepth 100000 in
theorem trim_any (l : List Int) (q : LmP) (w : World) (h : RLm w w.heap.size l q) (hn : l.length ≤ 1000000) :
    Calls Tryz.prog 68 #[.slice q.a l.length q.c] w (Ret (NRes w (norm l))) := by
  obtain ⟨A, c⟩ := q
  have hbx : Hid (∀ o : Obj, Below w.heap.size w (w.alloc o)) := Lib.hid fun o => (Below.refl _ _).alloc (Nat.le_refl _) o
  have hcap : l.length ≤ c := h.cap
  have hcmx : c ≤ maxLen := h.cmx
  have hmx : c ≤ 9223372036854775807 := by unfold maxLen at hcmx; omega
  have ha : Hid (Arr w w.heap.size A l.length (u32v l)) := Lib.hid h.arr
  have HC := Lib.hid (fun n A' w' (ha : Arr w' w'.heap.size A' n (u32v (l.take n))) (hl : n ≤ l.length) (hA : A' = none → n = 0 ∧ c = 0) => clone_any (l.take n) A' n c w' ha (by rw [List.length_take]; omega) hA (by omega))
  clear h hcmx
  go_enter Tryz.func68, Tryz.ntmps68
  go_wp2
  go_loop [3] (fun i => ∃ k : Nat, k ≤ l.length ∧ i = .int .i64 k ∧ nzl l k = nzl l l.length) (fun i => (intOf i).toNat)
  case atStart => exact ⟨l.length, Nat.le_refl _, rfl, rfl⟩
  case round =>
    obtain ⟨k, hk, rfl, hz⟩ := hrel
    cases k with
    | zero =>
      have hN : Hid (norm l = []) := Lib.hid (by unfold norm; rw [← hz]; rfl)
      replace hz := Lib.hid hz
      go_wp2
      refine bodyPost_ret (v := .agg #[.slice none 0 0]) (by simp [results, Tryz.results68, go_sem]) rfl ?_
      rw [hN.out]
      exact Ret.mk (NRes.none_ (hbx.out _))
    | succ k =>
      obtain ⟨b, o, rfl, hb, hc⟩ := ha.out (by omega)
      have d := (hbx.out (.cells #[.slice none 0 0] 24)).cell (p := ⟨b, o + k, none⟩) hb |>.trans (hc k (by omega))
      unfold u32v at d
      clear hc
      have t1 : decide ((0 : Int) < (k : Int) + 1) = true := decide_eq_true (by omega)
      have i0 : (0 : Int) ≤ k := by omega
      by_cases g : gi l k = 0
      · have g' : (gi l k == 0) = true := beq_iff_eq.2 g
        have hz' : Hid (nzl l k = nzl l l.length) := Lib.hid (by rw [← hz, nzl, if_pos g])
        clear hz g
        go_wp2
        go_round
        case rel => exact ⟨k, by omega, by go_num, hz'.out⟩
        case measure => simp [intOf]
      · have g' : (gi l k == 0) = false := beq_eq_false_iff_ne.2 g
        have hN : Hid (norm l = l.take (k + 1)) := Lib.hid (by unfold norm; rw [← hz, nzl, if_neg g])
        have hL : Hid ((l.take (k + 1)).length = k + 1) := Lib.hid (by rw [List.length_take]; omega)
        have t2 : ((k : Int) + 1 == 0) = false := beq_eq_false_iff_ne.2 (by omega)
        clear hz g
        have HC' := HC.out (k + 1) (some ⟨b, o, none⟩) (w.alloc (.cells #[.slice none 0 0] 24))
          (((ha.out.below (hbx.out _)).more (hbx.out (.cells #[.slice none 0 0] 24)).size).fewer (m := k + 1) (by omega) |>.congr fun j hj => by unfold u32v; rw [gi_take hj]) (by omega) (fun e => by cases e)
        obtain ⟨m, hm⟩ : ∃ m, l.take (k + 1) = m := ⟨_, rfl⟩
        rw [hm] at HC' hN
        clear hm hL
        replace HC' := Lib.hid HC'
        go_wp2_with fail
        refine HC'.out.mono ?_
        rintro e w1 ⟨_, rfl, q, rfl, hr, hf, hb1, _⟩
        have hR := Lib.hid (nres_put hr hf hb1 (rowV m q))
        obtain ⟨s0, s1, s2⟩ := res_cell (below1' hb1)
        clear hr hf hb1
        go_wp2
        refine bodyPost_ret (v := natV m q) (by simp [results, Tryz.results68, go_sem, s0]) rfl ?_
        rw [hN.out]
        exact Ret.mk hR.out

set_option maxRecDepth 100000 in
theorem rtrim_any (l : List Int) (q : LmP) (w : World) (h : RLm w w.heap.size l q) (hn : l.length ≤ 1000000) :
    Calls Tryz.prog 43 #[.slice q.a l.length q.c] w (Ret (NRes w (norm l))) := by
  obtain ⟨A, c⟩ := q
  have hbx : Hid (∀ o : Obj, Below w.heap.size w (w.alloc o)) := Lib.hid fun o => (Below.refl _ _).alloc (Nat.le_refl _) o
  have hcap : l.length ≤ c := h.cap
  have hcmx : c ≤ maxLen := h.cmx
  have hmx : c ≤ 9223372036854775807 := by unfold maxLen at hcmx; omega
  have ha : Hid (Arr w w.heap.size A l.length (u32v l)) := Lib.hid h.arr
  clear h hcmx
  go_enter Tryz.func43, Tryz.ntmps43
  go_wp2
  go_loop [0] (fun s => ∃ k : Nat, k ≤ l.length ∧ s = .slice A k c ∧ nzl l k = nzl l l.length) (fun s => lenOf s)
  case atStart => exact ⟨l.length, Nat.le_refl _, rfl, rfl⟩
  case round =>
    obtain ⟨k, hk, rfl, hz⟩ := hrel
    cases k with
    | zero =>
      have hN : Hid (norm l = []) := Lib.hid (by unfold norm; rw [← hz]; rfl)
      replace hz := Lib.hid hz
      go_wp2
      refine bodyPost_ret (v := .agg #[.slice none 0 0]) (by simp [results, Tryz.results43, go_sem]) rfl ?_
      rw [hN.out]
      exact Ret.mk (NRes.none_ (hbx.out _))
    | succ k =>
      obtain ⟨b, o, rfl, hb, hc⟩ := ha.out (by omega)
      have d := (hbx.out (.cells #[.slice none 0 0] 24)).cell (p := ⟨b, o + k, none⟩) hb |>.trans (hc k (by omega))
      unfold u32v at d
      clear hc
      have t1 : decide ((0 : Int) < (k : Int) + 1) = true := decide_eq_true (by omega)
      have i0 : (0 : Int) ≤ k := by omega
      have hkc : k ≤ c := by omega
      have hkc2 : (k : Int) ≤ (c : Int) := by omega
      by_cases g : gi l k = 0
      · have g' : (gi l k == 0) = true := beq_iff_eq.2 g
        have hz' : Hid (nzl l k = nzl l l.length) := Lib.hid (by rw [← hz, nzl, if_pos g])
        clear hz g
        go_wp2
        go_round
        case rel => exact ⟨k, by omega, rfl, hz'.out⟩
        case measure => simp [lenOf]
      · have g' : (gi l k == 0) = false := beq_eq_false_iff_ne.2 g
        have hN : Hid (norm l = l.take (k + 1)) := Lib.hid (by unfold norm; rw [← hz, nzl, if_neg g])
        have hL : (l.take (k + 1)).length = k + 1 := by rw [List.length_take]; omega
        have t2 : ((k : Int) + 1 == 0) = false := beq_eq_false_iff_ne.2 (by omega)
        have ha' := ((ha.out.below (hbx.out (.cells #[.slice none 0 0] 24))).more (hbx.out (.cells #[.slice none 0 0] 24)).size).fewer (m := k + 1) (by omega) |>.congr (g := u32v (l.take (k + 1))) fun j hj => by unfold u32v; rw [gi_take hj]
        clear hz g
        obtain ⟨m, hm⟩ : ∃ m, l.take (k + 1) = m := ⟨_, rfl⟩
        rw [hm] at hN ha' hL
        replace ha' := Lib.hid ha'
        have hmn : k + 1 ≤ 1000000 := by omega
        have hL' : Hid (m.length = k + 1) := Lib.hid hL
        clear hm hL
        go_wp2_with (at_builtin; refine copy_own rfl _ _ rfl (World.size_alloc _ _) hL'.out ha'.out (fun h => by cases h) hmn rfl rfl ?_)
        intro v' w1 hR _
        obtain ⟨q, rfl, hr, hf, hb1⟩ := hR
        have hR := Lib.hid (nres_put hr hf hb1 (rowV m q))
        obtain ⟨s0, s1, s2⟩ := res_cell (below1' hb1)
        clear hr hf hb1
        go_wp2
        refine bodyPost_ret (v := natV m q) (by simp [results, Tryz.results43, go_sem, s0]) rfl ?_
        rw [hN.out]
        exact Ret.mk hR.out

def chkV (l : List Int) : List Int := if 128 < (norm l).length then [] else norm l
def chkE (l : List Int) : Int := if 128 < (norm l).length then 3 else 0
set_option maxRecDepth 100000 in
theorem checked_any (l : List Int) (q : LmP) (w : World) (h : RLm w w.heap.size l q) (hn : l.length ≤ 1000000) :
    Calls Tryz.prog 76 #[.slice q.a l.length q.c] w (Ret (NRes2 w (chkV l) (chkE l))) := by
  have hbx : Hid (∀ o : Obj, Below w.heap.size w (w.alloc o)) := Lib.hid fun o => (Below.refl _ _).alloc (Nat.le_refl _) o
  have HT := Lib.hid (fun o => trim_any l q (w.alloc o) (h.to (hbx.out o)) hn)
  have hlen : (norm l).length ≤ 1000000 := by rw [norm_len]; have := nzl_le l l.length; omega
  have hV : Hid (chkV l = if 128 < (norm l).length then [] else norm l) := Lib.hid rfl
  have hE : Hid (chkE l = if 128 < (norm l).length then 3 else 0) := Lib.hid rfl
  obtain ⟨m, hm⟩ : ∃ m, norm l = m := ⟨_, rfl⟩
  rw [hm] at HT hlen hV hE
  clear hm h
  by_cases g : 128 < m.length
  · have d1 : decide ((128 : Int) < (m.length : Int)) = true := decide_eq_true (by omega)
    have d2 : decide (128 < m.length) = true := decide_eq_true g
    have hV' : Hid (chkV l = []) := Lib.hid (by rw [hV.out, if_pos g])
    have hE' : Hid (chkE l = 3) := Lib.hid (by rw [hE.out, if_pos g])
    clear g hV hE
    go_enter Tryz.func76, Tryz.ntmps76
    go_wp2_with fail
    refine (HT.out _).mono ?_
    rintro e w1 ⟨_, rfl, q1, rfl, hr, hf, hb1⟩
    obtain ⟨s0, s1, s2⟩ := res_cell (below1' hb1)
    have hb := Lib.hid (((below1 hb1).setCell (p := ⟨w.heap.size, 0, none⟩) (Nat.le_refl _) (.slice none 0 0)).alloc (by simpa using (below1 hb1).size) (.cells #[.slice q1.a m.length q1.c] 24))
    clear hr hf hb1
    go_wp2
    refine bodyPost_ret (v := .tuple #[.agg #[.slice none 0 0], .int .i64 3]) (by simp [results, Tryz.results76, go_sem, s0, s2]) rfl ?_
    rw [hV'.out, hE'.out]
    exact Ret.mk (NRes2.none_ hb.out)
  · have d1 : decide ((128 : Int) < (m.length : Int)) = false := by rw [decide_eq_false_iff_not]; omega
    have d2 : decide (128 < m.length) = false := by rw [decide_eq_false_iff_not]; exact g
    have hV' : Hid (chkV l = m) := Lib.hid (by rw [hV.out, if_neg g])
    have hE' : Hid (chkE l = 0) := Lib.hid (by rw [hE.out, if_neg g])
    clear g hV hE
    go_enter Tryz.func76, Tryz.ntmps76
    go_wp2_with fail
    refine (HT.out _).mono ?_
    rintro e w1 ⟨_, rfl, q1, rfl, hr, hf, hb1⟩
    obtain ⟨s0, s1, s2⟩ := res_cell (below1' hb1)
    have hR : Hid (NRes2 w m 0 (.tuple #[natV m q1, .int .i64 0]) ((w1.setCell ⟨w.heap.size, 0, none⟩ (rowV m q1)).alloc (.cells #[.slice q1.a m.length q1.c] 24))) :=
      Lib.hid ⟨q1, rfl, (rlm_put hr (hf.le (by simp)) _).to ((Below.refl _ _).alloc (Nat.le_refl _) _), hf.le (by simp), ((below1 hb1).setCell (Nat.le_refl _) _).alloc (by simpa using (below1 hb1).size) _⟩
    clear hr hf hb1
    go_wp2
    refine bodyPost_ret (v := .tuple #[natV m q1, .int .i64 0]) (by simp [results, Tryz.results76, go_sem, s0, s2]) rfl ?_
    rw [hV'.out, hE'.out]
    exact Ret.mk hR.out

def lrgV (l : List Int) (q : LmP) : Value := if 128 < l.length then .tuple #[.agg #[.slice none 0 0], .int .i64 3] else .tuple #[natV l q, .int .i64 0]
set_option maxRecDepth 100000 in
theorem large_any (l : List Int) (q : LmP) (w : World) (hn : l.length ≤ 1000000) :
    Calls Tryz.prog 107 #[natV l q] w fun e w' => e = .returned (lrgV l q) ∧ Below w.heap.size w w' := by
  have hbx : Hid (∀ o o' : Obj, Below w.heap.size w ((w.alloc o).alloc o')) := Lib.hid fun o o' => ((Below.refl _ _).alloc (Nat.le_refl _) o).alloc (by simp) o'
  by_cases g : 128 < l.length
  · have d1 : decide ((128 : Int) < (l.length : Int)) = true := decide_eq_true (by omega)
    have d2 : decide (128 < l.length) = true := decide_eq_true g
    have hV' : Hid (lrgV l q = .tuple #[.agg #[.slice none 0 0], .int .i64 3]) := Lib.hid (if_pos g)
    clear g
    go_enter Tryz.func107, Tryz.ntmps107
    go_wp2
    refine bodyPost_ret (v := .tuple #[.agg #[.slice none 0 0], .int .i64 3]) (by simp [results, Tryz.results107, go_sem]) rfl ?_
    exact ⟨by rw [hV'.out], hbx.out _ _⟩
  · have d1 : decide ((128 : Int) < (l.length : Int)) = false := by rw [decide_eq_false_iff_not]; omega
    have d2 : decide (128 < l.length) = false := by rw [decide_eq_false_iff_not]; exact g
    have hV' : Hid (lrgV l q = .tuple #[natV l q, .int .i64 0]) := Lib.hid (if_neg g)
    clear g
    go_enter Tryz.func107, Tryz.ntmps107
    go_wp2
    refine bodyPost_ret (v := .tuple #[natV l q, .int .i64 0]) (by simp [results, Tryz.results107, go_sem]) rfl ?_
    exact ⟨by rw [hV'.out], hbx.out _ _⟩
end Go.Proofs.YtpoddmkimhkmoaaGreat

namespace Go.Proofs.YtpoddmkimhkmoaaGreat
open Go.RowKit Go.Sv

theorem norm_two {n : Int} (h0 : 0 ≤ n) (h1 : n < 18446744073709551616) : norm [n % 4294967296, n / 4294967296] = lim n.toNat := by
  refine norm_lim ?_ ?_
  · intro i hi
    have : i = 0 ∨ i = 1 := by simp at hi; omega
    rcases this with rfl | rfl
    · rw [gi_cons_zero]; omega
    · rw [gi_cons_succ, gi_cons_zero]; omega
  · show vt _ (1 + 1) = _
    rw [vt_succ, vt_succ, gi_cons_zero, gi_cons_succ, gi_cons_zero, Bp_succ, Bp_zero]
    simp only [vt]
    omega
/-- a new row of two limbs -/
theorem rlm_two (w : World) (x y : Int) : RLm (w.alloc (.cells #[.int .u32 x, .int .u32 y] 69)) (w.alloc (.cells #[.int .u32 x, .int .u32 y] 69)).heap.size [x, y] ⟨some ⟨w.heap.size, 0, none⟩, 2⟩ := by
  refine ⟨fun _ => ⟨w.heap.size, 0, rfl, by simp, fun k hk => ?_⟩, (fun h => by cases h), Nat.le_refl _, show 2 ≤ maxLen by decide⟩
  have : k = 0 ∨ k = 1 := by simp at hk; omega
  rcases this with rfl | rfl
  · rw [World.cell?_alloc_new]; rfl
  · rw [World.cell?_alloc_new]; rfl
theorem trim_two (w : World) (x y : Int) {K : Nat} (hK : w.heap.size = K) : Calls Tryz.prog 68 #[.slice (some ⟨K, 0, none⟩) 2 2] (w.alloc (.cells #[.int .u32 x, .int .u32 y] 69)) (Ret (NRes (w.alloc (.cells #[.int .u32 x, .int .u32 y] 69)) (norm [x, y]))) := by
  subst hK
  exact trim_any [x, y] ⟨some ⟨w.heap.size, 0, none⟩, 2⟩ (w.alloc (.cells #[.int .u32 x, .int .u32 y] 69)) (rlm_two w x y) (by simp)
set_option maxRecDepth 100000 in
theorem of_any (n : Int) (w : World) (h0 : 0 ≤ n) (h1 : n < 18446744073709551616) : Calls Tryz.prog 46 #[.int .u64 n] w (Ret (NRes w (lim n.toNat))) := by
  have a0 : 0 ≤ n / 4294967296 := by omega
  have a1 : n / 4294967296 < 4294967296 := by omega
  have HT := Lib.hid (fun (w' : World) K (hK : w'.heap.size = K) => trim_two w' (n % 4294967296) (n / 4294967296) hK)
  rw [norm_two h0 h1] at HT
  obtain ⟨m, hm⟩ : ∃ m, lim n.toNat = m := ⟨_, rfl⟩
  rw [hm] at HT ⊢
  clear hm h0 h1
  go_enter Tryz.func46, Tryz.ntmps46
  go_wp2_with fail
  refine (HT.out _ _ (World.size_alloc _ _)).mono ?_
  rintro e w1 ⟨_, rfl, q, rfl, hr, hf, hb1⟩
  have hb1' : Below (w.heap.size + 1) (w.alloc (.cells #[.slice none 0 0] 24)) w1 := by
    have := below1 hb1
    simpa using this
  obtain ⟨s0, s1, s2⟩ := res_cell hb1'
  have hR : Hid (NRes w m (natV m q) (w1.setCell ⟨w.heap.size, 0, none⟩ (rowV m q))) := Lib.hid ⟨q, rfl, rlm_put hr (hf.le (by simp)) _, hf.le (by simp; omega), (((Below.refl _ _).alloc (Nat.le_refl _) _).trans (hb1'.mono (by omega))).setCell (Nat.le_refl _) _⟩
  clear hr hf hb1 hb1'
  go_wp2
  refine bodyPost_ret (v := natV m q) (by simp [results, Tryz.results46, go_sem, s0]) rfl ?_
  exact Ret.mk hR.out
theorem rtrim_two (w : World) (x y : Int) {K : Nat} (hK : w.heap.size = K) : Calls Tryz.prog 43 #[.slice (some ⟨K, 0, none⟩) 2 2] (w.alloc (.cells #[.int .u32 x, .int .u32 y] 69)) (Ret (NRes (w.alloc (.cells #[.int .u32 x, .int .u32 y] 69)) (norm [x, y]))) := by
  subst hK
  exact rtrim_any [x, y] ⟨some ⟨w.heap.size, 0, none⟩, 2⟩ (w.alloc (.cells #[.int .u32 x, .int .u32 y] 69)) (rlm_two w x y) (by simp)
set_option maxRecDepth 100000 in
theorem rof_any (n : Int) (w : World) (h0 : 0 ≤ n) (h1 : n < 18446744073709551616) : Calls Tryz.prog 19 #[.int .u64 n] w (Ret (NRes w (lim n.toNat))) := by
  have a0 : 0 ≤ n / 4294967296 := by omega
  have a1 : n / 4294967296 < 4294967296 := by omega
  have HT := Lib.hid (fun (w' : World) K (hK : w'.heap.size = K) => rtrim_two w' (n % 4294967296) (n / 4294967296) hK)
  rw [norm_two h0 h1] at HT
  obtain ⟨m, hm⟩ : ∃ m, lim n.toNat = m := ⟨_, rfl⟩
  rw [hm] at HT ⊢
  clear hm h0 h1
  go_enter Tryz.func19, Tryz.ntmps19
  go_wp2_with fail
  refine (HT.out _ _ (World.size_alloc _ _)).mono ?_
  rintro e w1 ⟨_, rfl, q, rfl, hr, hf, hb1⟩
  have hb1' : Below (w.heap.size + 1) (w.alloc (.cells #[.slice none 0 0] 24)) w1 := by
    have := below1 hb1
    simpa using this
  obtain ⟨s0, s1, s2⟩ := res_cell hb1'
  have hR : Hid (NRes w m (natV m q) (w1.setCell ⟨w.heap.size, 0, none⟩ (rowV m q))) := Lib.hid ⟨q, rfl, rlm_put hr (hf.le (by simp)) _, hf.le (by simp; omega), (((Below.refl _ _).alloc (Nat.le_refl _) _).trans (hb1'.mono (by omega))).setCell (Nat.le_refl _) _⟩
  clear hr hf hb1 hb1'
  go_wp2
  refine bodyPost_ret (v := natV m q) (by simp [results, Tryz.results19, go_sem, s0]) rfl ?_
  exact Ret.mk hR.out
def vN (l : List Int) : Bool := decide (l.length ≤ 128 ∧ (l.length = 0 ∨ gi l (l.length - 1) ≠ 0))
theorem vN_can {l : List Int} (h : vN l = true) : l.length ≤ 128 ∧ Sv.Can l := by
  unfold vN at h
  have h2 := of_decide_eq_true h
  exact h2
theorem vN_lim {N : Nat} (h : (lim N).length ≤ 128) : vN (lim N) = true := decide_eq_true ⟨h, lim_can N⟩
set_option maxRecDepth 100000 in
theorem valid_any (l : List Int) (q : LmP) (w : World) (h : RLm w w.heap.size l q) : Calls Tryz.prog 61 #[natV l q] w fun e w' => e = .returned (.bool (vN l)) ∧ Below w.heap.size w w' := by
  obtain ⟨A, c⟩ := q
  have hbx : Hid (∀ o : Obj, Below w.heap.size w (w.alloc o)) := Lib.hid fun o => (Below.refl _ _).alloc (Nat.le_refl _) o
  have hmx : l.length ≤ 9223372036854775807 := by have h1 : l.length ≤ c := h.cap; have h2 : c ≤ maxLen := h.cmx; unfold maxLen at h2; omega
  have ha : Hid (Arr w w.heap.size A l.length (u32v l)) := Lib.hid h.arr
  clear h
  by_cases g1 : l.length ≤ 128
  · have d1 : decide ((l.length : Int) ≤ 128) = true := decide_eq_true (by omega)
    have d1' : decide (l.length ≤ 128) = true := decide_eq_true g1
    by_cases g2 : l.length = 0
    · have d2 : ((l.length : Int) == 0) = true := beq_iff_eq.2 (by omega)
      have hV : Hid (vN l = true) := Lib.hid (decide_eq_true ⟨g1, Or.inl g2⟩)
      clear g1 g2 ha
      go_enter Tryz.func61, Tryz.ntmps61
      go_wp2
      go_ret
      exact ⟨ret_b hV.out.symm, hbx.out _⟩
    · have d2 : ((l.length : Int) == 0) = false := beq_eq_false_iff_ne.2 (by omega)
      obtain ⟨k, hk⟩ : ∃ k, l.length = k + 1 := ⟨l.length - 1, by omega⟩
      obtain ⟨b, o, rfl, hb, hc⟩ := ha.out (by omega)
      have d := (hbx.out (.cells #[.slice (some ⟨b, o, none⟩) l.length c] 24)).cell (p := ⟨b, o + (l.length - 1), none⟩) hb |>.trans (hc (l.length - 1) (by omega))
      unfold u32v at d
      have i1 : ((l.length : Int) - 1).toNat = l.length - 1 := by omega
      have i2 : (1 : Int) ≤ (l.length : Int) := by omega
      have i3 : ¬ ((l.length : Int) - 1 < 0) := by omega
      have i4 : 0 < l.length := by omega
      have hV : Hid (vN l = (gi l (l.length - 1) != 0)) := Lib.hid (by
        unfold vN
        by_cases e : gi l (l.length - 1) = 0
        · rw [decide_eq_false (fun h => by omega), bne_eq_false_iff_eq.2 e]
        · rw [decide_eq_true ⟨g1, Or.inr e⟩, bne_iff_ne.2 e])
      clear g1 g2 ha hc hk
      go_enter Tryz.func61, Tryz.ntmps61
      go_wp2
      go_ret
      exact ⟨ret_b hV.out.symm, hbx.out _⟩
  · have d1 : decide ((l.length : Int) ≤ 128) = false := by rw [decide_eq_false_iff_not]; omega
    have d1' : decide (l.length ≤ 128) = false := by rw [decide_eq_false_iff_not]; exact g1
    have hV : Hid (vN l = false) := Lib.hid (by unfold vN; rw [decide_eq_false_iff_not]; exact fun h => g1 h.1)
    clear g1 ha
    go_enter Tryz.func61, Tryz.ntmps61
    go_wp2
    go_ret
    exact ⟨ret_b hV.out.symm, hbx.out _⟩
set_option maxRecDepth 100000 in
theorem rvalid_any (l : List Int) (q : LmP) (w : World) (h : RLm w w.heap.size l q) : Calls Tryz.prog 53 #[natV l q] w fun e w' => e = .returned (.bool (vN l)) ∧ Below w.heap.size w w' := by
  obtain ⟨A, c⟩ := q
  have hbx : Hid (∀ o : Obj, Below w.heap.size w (w.alloc o)) := Lib.hid fun o => (Below.refl _ _).alloc (Nat.le_refl _) o
  have hmx : l.length ≤ 9223372036854775807 := by have h1 : l.length ≤ c := h.cap; have h2 : c ≤ maxLen := h.cmx; unfold maxLen at h2; omega
  have ha : Hid (Arr w w.heap.size A l.length (u32v l)) := Lib.hid h.arr
  clear h
  by_cases g1 : l.length ≤ 128
  · have d1 : decide ((l.length : Int) ≤ 128) = true := decide_eq_true (by omega)
    have d1' : decide (l.length ≤ 128) = true := decide_eq_true g1
    by_cases g2 : l.length = 0
    · have d2 : ((l.length : Int) == 0) = true := beq_iff_eq.2 (by omega)
      have hV : Hid (vN l = true) := Lib.hid (decide_eq_true ⟨g1, Or.inl g2⟩)
      clear g1 g2 ha
      go_enter Tryz.func53, Tryz.ntmps53
      go_wp2
      go_ret
      exact ⟨ret_b hV.out.symm, hbx.out _⟩
    · have d2 : ((l.length : Int) == 0) = false := beq_eq_false_iff_ne.2 (by omega)
      obtain ⟨k, hk⟩ : ∃ k, l.length = k + 1 := ⟨l.length - 1, by omega⟩
      obtain ⟨b, o, rfl, hb, hc⟩ := ha.out (by omega)
      have d := (hbx.out (.cells #[.slice (some ⟨b, o, none⟩) l.length c] 24)).cell (p := ⟨b, o + (l.length - 1), none⟩) hb |>.trans (hc (l.length - 1) (by omega))
      unfold u32v at d
      have i1 : ((l.length : Int) - 1).toNat = l.length - 1 := by omega
      have i2 : (1 : Int) ≤ (l.length : Int) := by omega
      have i3 : ¬ ((l.length : Int) - 1 < 0) := by omega
      have i4 : 0 < l.length := by omega
      have hV : Hid (vN l = (gi l (l.length - 1) != 0)) := Lib.hid (by
        unfold vN
        by_cases e : gi l (l.length - 1) = 0
        · rw [decide_eq_false (fun h => by omega), bne_eq_false_iff_eq.2 e]
        · rw [decide_eq_true ⟨g1, Or.inr e⟩, bne_iff_ne.2 e])
      clear g1 g2 ha hc hk
      go_enter Tryz.func53, Tryz.ntmps53
      go_wp2
      go_ret
      exact ⟨ret_b hV.out.symm, hbx.out _⟩
  · have d1 : decide ((l.length : Int) ≤ 128) = false := by rw [decide_eq_false_iff_not]; omega
    have d1' : decide (l.length ≤ 128) = false := by rw [decide_eq_false_iff_not]; exact g1
    have hV : Hid (vN l = false) := Lib.hid (by unfold vN; rw [decide_eq_false_iff_not]; exact fun h => g1 h.1)
    clear g1 ha
    go_enter Tryz.func53, Tryz.ntmps53
    go_wp2
    go_ret
    exact ⟨ret_b hV.out.symm, hbx.out _⟩
set_option maxRecDepth 100000 in
theorem limb_any (l : List Int) (q : LmP) (i : Int) (w : World) (h : RLm w w.heap.size l q) (hl : Lim l) (h0 : 0 ≤ i) : Calls Tryz.prog 79 #[natV l q, .int .i64 i] w fun e w' => e = .returned (.int .u64 (gi l i.toNat)) ∧ Below w.heap.size w w' := by
  obtain ⟨A, c⟩ := q
  have hbx : Hid (∀ o : Obj, Below w.heap.size w (w.alloc o)) := Lib.hid fun o => (Below.refl _ _).alloc (Nat.le_refl _) o
  have hmx : l.length ≤ 9223372036854775807 := by have h1 : l.length ≤ c := h.cap; have h2 : c ≤ maxLen := h.cmx; unfold maxLen at h2; omega
  have ha : Hid (Arr w w.heap.size A l.length (u32v l)) := Lib.hid h.arr
  clear h
  obtain ⟨k, rfl⟩ : ∃ k : Nat, i = k := ⟨i.toNat, by omega⟩
  by_cases g : k < l.length
  · have d1 : decide ((k : Int) < (l.length : Int)) = true := decide_eq_true (by omega)
    have d1' : decide (k < l.length) = true := decide_eq_true g
    obtain ⟨b, o, rfl, hb, hc⟩ := ha.out (by omega)
    have d := (hbx.out (.cells #[.slice (some ⟨b, o, none⟩) l.length c] 24)).cell (p := ⟨b, o + k, none⟩) hb |>.trans (hc k g)
    unfold u32v at d
    have hV : Hid (gi l ((k : Int)).toNat = gi l k) := Lib.hid (by rw [Int.toNat_natCast])
    obtain ⟨x0, x1⟩ := hl k g
    clear ha hc
    replace hl := Lib.hid hl
    go_enter Tryz.func79, Tryz.ntmps79
    go_wp2
    go_ret
    exact ⟨ret_i hV.out.symm, hbx.out _⟩
  · have d1 : decide ((k : Int) < (l.length : Int)) = false := by rw [decide_eq_false_iff_not]; omega
    have d1' : decide (k < l.length) = false := by rw [decide_eq_false_iff_not]; exact g
    have hV : Hid (gi l ((k : Int)).toNat = 0) := Lib.hid (by rw [Int.toNat_natCast, gi_out (by omega)])
    clear ha g hl
    go_enter Tryz.func79, Tryz.ntmps79
    go_wp2
    go_ret
    exact ⟨ret_i hV.out.symm, hbx.out _⟩
theorem list_ne {l m : List Int} {k : Nat} (h : gi l k ≠ gi m k) : decide (l = m) = false := by rw [decide_eq_false_iff_not]; rintro rfl; exact h rfl
theorem list_ne' {l m : List Int} (h : l.length ≠ m.length) : decide (l = m) = false := by rw [decide_eq_false_iff_not]; rintro rfl; exact h rfl
set_option maxHeartbeats 400000 in
theorem same_any (a b : List Int) (q r : LmP) (w : World) (h : RLm w w.heap.size a q) (h' : RLm w w.heap.size b r) :
    Calls Tryz.prog 18 #[natV a q, natV b r] w fun e w' => e = .returned (.bool (decide (a = b))) ∧ Below w.heap.size w w' := by
  have hbx : Hid (∀ o o' : Obj, Below w.heap.size w ((w.alloc o).alloc o')) := Lib.hid fun o o' => ((Below.refl _ _).alloc (Nat.le_refl _) o).alloc (by simp) o'
  have b0 : a.length ≤ 9223372036854775807 := by have h1 := h.cap; have h2 := h.cmx; unfold maxLen at h2; omega
  have b1 : b.length ≤ 9223372036854775807 := by have h1 := h'.cap; have h2 := h'.cmx; unfold maxLen at h2; omega
  obtain ⟨qa, qc⟩ := q
  obtain ⟨ra, rc⟩ := r
  have h0 := Lib.hid h.arr
  have h1 := Lib.hid h'.arr
  dsimp only at h0 h1
  clear h h'
  by_cases g1 : a.length = b.length
  case neg =>
    rw [list_ne' g1]
    have d : ((a.length : Int) != (b.length : Int)) = true := by rw [bne_iff_ne]; omega
    clear g1
    go_enter Tryz.func18, Tryz.ntmps18
    go_wp2
    go_ret
    exact ⟨rfl, hbx.out _ _⟩
  have d1 : ((a.length : Int) != (b.length : Int)) = false := by rw [bne_eq_false_iff_eq]; omega
  have G1 := Lib.hid g1
  clear g1
  go_enter Tryz.func18, Tryz.ntmps18
  go_wp2
  go_loopw [5] (fun i wr => ∃ k : Nat, k ≤ a.length ∧ i = .int .i64 k ∧ (∀ j, j < k → gi a j = gi b j) ∧
    Drawn ((w.alloc (.cells #[.slice qa a.length qc] 24)).alloc (.cells #[.slice ra b.length rc] 24)) wr) (fun i _ => a.length - (intOf i).toNat)
  case atStart => exact ⟨0, Nat.zero_le _, rfl, fun j hj => by omega, Drawn.refl _⟩
  case round =>
    obtain ⟨k, hk, rfl, hall, m, rfl⟩ := hrel
    replace hall := Lib.hid hall
    by_cases hlt : k < a.length
    · have hlt2 : k < b.length := by have := G1.out; omega
      obtain ⟨ba, oa, rfl, hba, hca⟩ := h0.out (by omega)
      obtain ⟨bb, ob, rfl, hbb, hcb⟩ := h1.out (by omega)
      have da := hca k hlt
      have db := hcb k hlt2
      unfold u32v at da db
      clear hca hcb
      by_cases c : gi a k = gi b k
      · have c' : (gi a k != gi b k) = false := by rw [bne_eq_false_iff_eq]; exact c
        replace c := Lib.hid c
        go_wp2
        go_big_quiet (fail)
        go_wp2
        go_roundw
        case rel => exact ⟨k + 1, by omega, by go_num, fun j hj => by (rcases Nat.lt_succ_iff_lt_or_eq.1 hj with h | h; exact hall.out j h; rw [h]; exact c.out), Drawn.of _⟩
        case measure => simp [intOf]; omega
      · have c' : (gi a k != gi b k) = true := by rw [bne_iff_ne]; exact c
        have E := Lib.hid (list_ne c)
        clear c
        go_wp2
        go_big_quiet (fail)
        go_wp2
        go_ret
        exact ⟨ret_b E.out.symm, Below.drawn (hbx.out _ _) ((Drawn.of _).drewN _)⟩
    · obtain rfl : k = a.length := by omega
      have E : Hid (decide (a = b) = true) := Lib.hid (decide_eq_true (gi_ext G1.out hall.out))
      go_wp2
      go_ret
      exact ⟨ret_b E.out.symm, Below.drawn (hbx.out _ _) (Drawn.of _)⟩
end Go.Proofs.YtpoddmkimhkmoaaGreat

namespace Go.Sv
open Go.RowKit
def cmpV (x y : Int) : Int := if x < y then -1 else if y < x then 1 else 0
theorem cmpV_lt {x y : Int} (h : x < y) : cmpV x y = -1 := if_pos h
theorem cmpV_gt {x y : Int} (h : y < x) : cmpV x y = 1 := by unfold cmpV; rw [if_neg (by omega), if_pos h]
theorem cmpV_eq {x y : Int} (h : x = y) : cmpV x y = 0 := by unfold cmpV; rw [if_neg (by omega), if_neg (by omega)]
theorem vt_eq_above {a b : List Int} {k : Nat} : ∀ {n : Nat}, k ≤ n → (∀ j, k ≤ j → j < n → gi a j = gi b j) → vt a n - vt a k = vt b n - vt b k
  | 0, h, _ => by have : k = 0 := by omega
                  subst this; omega
  | n + 1, h, he => by
    by_cases c : k ≤ n
    · have := vt_eq_above c (fun j a b => he j a (by omega))
      rw [vt_succ, vt_succ, he n c (by omega)]
      omega
    · have : k = n + 1 := by omega
      subst this; omega
theorem vt_lt {a b : List Int} {k n : Nat} (ha : Lim a) (hb : Lim b) (hk : k < n) (he : ∀ j, k < j → j < n → gi a j = gi b j) (h : gi a k < gi b k) : vt a n < vt b n := by
  have h1 := vt_eq_above (k := k + 1) (n := n) (by omega) (fun j c d => he j (by omega) d)
  have h2 := vt_bd ha k
  have h3 := vt_bd hb k
  have h4 : (gi a k + 1) * Bp k ≤ gi b k * Bp k := Int.mul_le_mul_of_nonneg_right (by omega) (by have := Bp_pos k; omega)
  rw [Int.add_mul, Int.one_mul] at h4
  rw [vt_succ, vt_succ] at h1
  omega
theorem vt_len_lt {a b : List Int} (ha : Lim a) (hb : Lim b) (hc : Sv.Can b) (h : a.length < b.length) : vt a a.length < vt b b.length := by
  obtain ⟨n, hn⟩ : ∃ n, b.length = n + 1 := ⟨b.length - 1, by omega⟩
  rcases hc with e | e
  · omega
  rw [hn, Nat.add_sub_cancel] at e
  have h1 := vt_bd ha a.length
  have h2 := vt_bd hb n
  have h3 := hb.at n
  have h4 : 1 * Bp n ≤ gi b n * Bp n := Int.mul_le_mul_of_nonneg_right (by omega) (by have := Bp_pos n; omega)
  have h5 : Bp a.length ≤ Bp n := Bp_mono (by omega)
  rw [hn, vt_succ]
  omega
end Go.Sv
namespace Go.Proofs.YtpoddmkimhkmoaaGreat
open Go.RowKit Go.Sv

theorem cmp32_any (x y : Int) (w : World) : Calls Tryz.prog 98 #[.int .u32 x, .int .u32 y] w fun e w' => e = .returned (.int .i64 (cmpV x y)) ∧ w = w' := by
  rcases Int.lt_trichotomy x y with h | h | h
  · have E := Lib.hid (cmpV_lt h)
    have d1 : decide (x < y) = true := decide_eq_true h
    clear h
    go_enter Tryz.func98, Tryz.ntmps98
    go_wp2
    go_ret
    exact ⟨ret_i E.out.symm, rfl⟩
  · have E := Lib.hid (cmpV_eq h)
    have d1 : decide (x < y) = false := by rw [decide_eq_false_iff_not]; omega
    have d2 : decide (y < x) = false := by rw [decide_eq_false_iff_not]; omega
    replace h := Lib.hid h
    go_enter Tryz.func98, Tryz.ntmps98
    go_wp2
    go_ret
    exact ⟨ret_i E.out.symm, rfl⟩
  · have E := Lib.hid (cmpV_gt h)
    have d1 : decide (x < y) = false := by rw [decide_eq_false_iff_not]; omega
    have d2 : decide (y < x) = true := decide_eq_true h
    clear h
    go_enter Tryz.func98, Tryz.ntmps98
    go_wp2
    go_ret
    exact ⟨ret_i E.out.symm, rfl⟩
theorem cmpI_any (x y : Int) (w : World) : Calls Tryz.prog 97 #[.int .i64 x, .int .i64 y] w fun e w' => e = .returned (.int .i64 (cmpV x y)) ∧ w = w' := by
  rcases Int.lt_trichotomy x y with h | h | h
  · have E := Lib.hid (cmpV_lt h)
    have d1 : decide (x < y) = true := decide_eq_true h
    clear h
    go_enter Tryz.func97, Tryz.ntmps97
    go_wp2
    go_ret
    exact ⟨ret_i E.out.symm, rfl⟩
  · have E := Lib.hid (cmpV_eq h)
    have d1 : decide (x < y) = false := by rw [decide_eq_false_iff_not]; omega
    have d2 : decide (y < x) = false := by rw [decide_eq_false_iff_not]; omega
    replace h := Lib.hid h
    go_enter Tryz.func97, Tryz.ntmps97
    go_wp2
    go_ret
    exact ⟨ret_i E.out.symm, rfl⟩
  · have E := Lib.hid (cmpV_gt h)
    have d1 : decide (x < y) = false := by rw [decide_eq_false_iff_not]; omega
    have d2 : decide (y < x) = true := decide_eq_true h
    clear h
    go_enter Tryz.func97, Tryz.ntmps97
    go_wp2
    go_ret
    exact ⟨ret_i E.out.symm, rfl⟩
/-- numbers compared: a value -/
def cmpL (a b : List Int) : Int := cmpV (vt a a.length) (vt b b.length)

set_option maxRecDepth 100000 in
theorem compare_any (a b : List Int) (q r : LmP) (w : World) (h : RLm w w.heap.size a q) (h' : RLm w w.heap.size b r) (ha : Lim a) (hb : Lim b) (ca : Sv.Can a) (cb : Sv.Can b) :
    Calls Tryz.prog 77 #[rowV a q, rowV b r] w fun e w' => e = .returned (.int .i64 (cmpL a b)) ∧ Drawn w w' := by
  have b0 : a.length ≤ 9223372036854775807 := by have h1 := h.cap; have h2 := h.cmx; unfold maxLen at h2; omega
  have b1 : b.length ≤ 9223372036854775807 := by have h1 := h'.cap; have h2 := h'.cmx; unfold maxLen at h2; omega
  obtain ⟨qa, qc⟩ := q
  obtain ⟨ra, rc⟩ := r
  have h0 := Lib.hid h.arr
  have h1 := Lib.hid h'.arr
  dsimp only at h0 h1
  clear h h'
  by_cases g1 : a.length = b.length
  case neg =>
    have E : Hid (cmpL a b = cmpV a.length b.length) := Lib.hid (by
      unfold cmpL
      rcases Nat.lt_or_gt_of_ne g1 with c | c
      · rw [cmpV_lt (vt_len_lt ha hb cb c), cmpV_lt (by omega)]
      · rw [cmpV_gt (vt_len_lt hb ha ca c), cmpV_gt (by omega)])
    have d : (cmpV a.length b.length != 0) = true := by
      rw [bne_iff_ne]
      rcases Nat.lt_or_gt_of_ne g1 with c | c
      · rw [cmpV_lt (by omega)]; decide
      · rw [cmpV_gt (by omega)]; decide
    clear g1 ha hb ca cb
    dsimp only [rowV]
    go_enter Tryz.func77, Tryz.ntmps77
    go_wp2_with (go_at_call 97; refine (cmpI_any _ _ _).mono ?_; rintro e w' ⟨rfl, rfl⟩)
    go_ret
    exact ⟨ret_i E.out.symm, Drawn.refl _⟩
  have HC : Hid (∀ w, Calls Tryz.prog 97 #[.int .i64 a.length, .int .i64 b.length] w fun e w' => e = .returned (.int .i64 0) ∧ w = w') := Lib.hid fun w => by
    have := cmpI_any a.length b.length w
    rw [cmpV_eq (by omega)] at this
    exact this
  have G1 := Lib.hid g1
  clear g1 ca cb
  replace ha := Lib.hid ha
  replace hb := Lib.hid hb
  dsimp only [rowV]
  go_enter Tryz.func77, Tryz.ntmps77
  go_wp2_with (go_at_call 97; refine (HC.out _).mono ?_; rintro e w' ⟨rfl, rfl⟩)
  go_loopw [6, 7] (fun i _ wr => ∃ k : Nat, k ≤ a.length ∧ i = .int .i64 ((k : Int) - 1) ∧ (∀ j, k ≤ j → j < a.length → gi a j = gi b j) ∧ Drawn w wr) (fun i _ _ => (intOf i + 1).toNat)
  case atStart => exact ⟨a.length, Nat.le_refl _, rfl, fun j h1 h2 => by omega, Drawn.refl _⟩
  case round =>
    obtain ⟨k, hk, rfl, hall, hd⟩ := hrel
    replace hall := Lib.hid hall
    replace hd := Lib.hid hd
    cases k with
    | zero =>
      have E : Hid (cmpL a b = 0) := Lib.hid (by
        unfold cmpL
        refine cmpV_eq ?_
        have := vt_eq_above (k := 0) (n := a.length) (Nat.zero_le _) hall.out
        rw [← G1.out]
        simpa [vt] using this)
      go_wp2
      go_ret
      exact ⟨ret_i E.out.symm, hd.out⟩
    | succ k =>
      have e1 : ((k + 1 : Nat) : Int) - 1 = (k : Int) := by omega
      rw [e1]
      clear e1
      have hlt2 : k < b.length := by have := G1.out; omega
      obtain ⟨ba, oa, rfl, hba, hca⟩ := h0.out (by omega)
      obtain ⟨bb, ob, rfl, hbb, hcb⟩ := h1.out (by omega)
      have da := (hd.out.cell ⟨ba, oa + k, none⟩).trans (hca k hk)
      have db := (hd.out.cell ⟨bb, ob + k, none⟩).trans (hcb k hlt2)
      unfold u32v at da db
      clear hca hcb
      have i0 : (0 : Int) ≤ k := by omega
      have i1 : k < a.length := hk
      rcases Int.lt_trichotomy (gi a k) (gi b k) with c | c | c
      · have E : Hid (cmpL a b = -1) := Lib.hid (cmpV_lt (by rw [← G1.out]; exact vt_lt ha.out hb.out hk (fun j x y => hall.out j (by omega) y) c))
        have H3 : Hid (∀ w, Calls Tryz.prog 98 #[.int .u32 (gi a k), .int .u32 (gi b k)] w fun e w' => e = .returned (.int .i64 (-1)) ∧ w = w') := Lib.hid fun w => by
          have := cmp32_any (gi a k) (gi b k) w
          rw [cmpV_lt c] at this
          exact this
        clear c
        go_wp2
        go_big_quiet ((go_at_call 98; exact quiet_l (H3.out _)))
        go_wp2
        go_ret
        exact ⟨ret_i E.out.symm, hd.out.drewN _⟩
      · have H3 : Hid (∀ w, Calls Tryz.prog 98 #[.int .u32 (gi a k), .int .u32 (gi b k)] w fun e w' => e = .returned (.int .i64 0) ∧ w = w') := Lib.hid fun w => by
          have := cmp32_any (gi a k) (gi b k) w
          rw [cmpV_eq c] at this
          exact this
        replace c := Lib.hid c
        go_wp2
        go_big_quiet ((go_at_call 98; exact quiet_l (H3.out _)))
        go_wp2
        go_roundw
        case rel => exact ⟨k, by omega, rfl, fun j x y => by (rcases Nat.lt_or_eq_of_le x with h | h; exact hall.out j h y; rw [← h]; exact c.out), hd.out.drewN _⟩
        case measure => simp [intOf]
      · have E : Hid (cmpL a b = 1) := Lib.hid (cmpV_gt (by rw [← G1.out]; exact vt_lt hb.out ha.out hk (fun j x y => (hall.out j (by omega) y).symm) c))
        have H3 : Hid (∀ w, Calls Tryz.prog 98 #[.int .u32 (gi a k), .int .u32 (gi b k)] w fun e w' => e = .returned (.int .i64 1) ∧ w = w') := Lib.hid fun w => by
          have := cmp32_any (gi a k) (gi b k) w
          rw [cmpV_gt c] at this
          exact this
        clear c
        go_wp2
        go_big_quiet ((go_at_call 98; exact quiet_l (H3.out _)))
        go_wp2
        go_ret
        exact ⟨ret_i E.out.symm, hd.out.drewN _⟩

/-- a box of one cell -/
structure Box1 (W : World) (b : Nat) (v : Value) : Prop where
  z : b < W.heap.size
  y : W.cell? ⟨b, 0, none⟩ = some v
theorem Box1.to {W W' : World} {b : Nat} {v : Value} (h : Box1 W b v) (hb : Below W.heap.size W W') : Box1 W' b v := ⟨Nat.lt_of_lt_of_le h.z hb.size, (hb.cell h.z).trans h.y⟩
theorem Box1.new {w : World} {e : TypeId} {v : Value} : Box1 (w.alloc (.cells #[v] e)) w.heap.size v := ⟨by simp, by rw [World.cell?_alloc_new]; rfl⟩

set_option maxRecDepth 100000 in
theorem cmp_any (a b : List Int) (q r : LmP) (w : World) (h : RLm w w.heap.size a q) (h' : RLm w w.heap.size b r) (ha : Lim a) (hb : Lim b) (ca : Sv.Can a) (cb : Sv.Can b) :
    Calls Tryz.prog 52 #[natV a q, natV b r] w fun e w' => e = .returned (.int .i64 (cmpL a b)) ∧ Below w.heap.size w w' := by
  have hbx : Hid (∀ o o' : Obj, Below w.heap.size w ((w.alloc o).alloc o')) := Lib.hid fun o o' => ((Below.refl _ _).alloc (Nat.le_refl _) o).alloc (by simp) o'
  have HC := Lib.hid (fun o o' => compare_any a b q r ((w.alloc o).alloc o') (h.to (hbx.out o o')) (h'.to (hbx.out o o')) ha hb ca cb)
  obtain ⟨qa, qc⟩ := q
  obtain ⟨ra, rc⟩ := r
  clear h h' ha hb ca cb
  go_enter Tryz.func52, Tryz.ntmps52
  go_wp2_with fail
  refine (HC.out _ _).mono ?_
  rintro e w1 ⟨rfl, hd⟩
  have hb := Lib.hid ((hbx.out (.cells #[.slice qa a.length qc] 24) (.cells #[.slice ra b.length rc] 24)).drawn hd)
  clear hd
  go_wp2
  go_ret
  exact ⟨rfl, hb.out⟩

def dig (l : List Int) (k : Nat) : Int := gi l k
set_option maxHeartbeats 400000 in
set_option maxRecDepth 100000 in
theorem rcmp_any (a b : List Int) (q r : LmP) (w : World) (h : RLm w w.heap.size a q) (h' : RLm w w.heap.size b r) (ha : Lim a) (hb : Lim b) :
    Calls Tryz.prog 57 #[natV a q, natV b r] w fun e w' => e = .returned (.int .i64 (cmpL a b)) ∧ Below w.heap.size w w' := by
  have hbx : Hid (∀ o o' : Obj, Below w.heap.size w ((w.alloc o).alloc o')) := Lib.hid fun o o' => ((Below.refl _ _).alloc (Nat.le_refl _) o).alloc (by simp) o'
  have b0 : a.length ≤ 9223372036854775807 := by have h1 := h.cap; have h2 := h.cmx; unfold maxLen at h2; omega
  have b1 : b.length ≤ 9223372036854775807 := by have h1 := h'.cap; have h2 := h'.cmx; unfold maxLen at h2; omega
  have HA := Lib.hid (fun w' (k : Nat) (hw : Below w.heap.size w w') => limb_any a q k w' (h.to hw) ha (by omega))
  have HB := Lib.hid (fun w' (k : Nat) (hw : Below w.heap.size w w') => limb_any b r k w' (h'.to hw) hb (by omega))
  simp only [Int.toNat_natCast] at HA HB
  obtain ⟨qa, qc⟩ := q
  obtain ⟨ra, rc⟩ := r
  obtain ⟨n, hn⟩ : ∃ n, max a.length b.length = n := ⟨_, rfl⟩
  have hna : a.length ≤ n := by omega
  have hnb : b.length ≤ n := by omega
  have bn : n ≤ 9223372036854775807 := by omega
  have hmx : Hid (n = max a.length b.length) := Lib.hid hn.symm
  have hEa : Hid (cmpL a b = cmpV (vt a n) (vt b n)) := Lib.hid (by unfold cmpL; rw [vt_more hna, vt_more hnb])
  have hB1 : Hid (∀ o', Box1 ((w.alloc (.cells #[.slice qa a.length qc] 24)).alloc o') w.heap.size (.slice qa a.length qc)) := Lib.hid fun o' => Box1.new.to ((Below.refl _ _).alloc (Nat.le_refl _) _)
  have hB2 : Hid (∀ o, Box1 ((w.alloc o).alloc (.cells #[.slice ra b.length rc] 24)) (w.heap.size + 1) (.slice ra b.length rc)) := Lib.hid fun o => by have := Box1.new (w := w.alloc o) (e := 24) (v := .slice ra b.length rc); simpa using this
  replace ha := Lib.hid ha
  replace hb := Lib.hid hb
  clear hn h h' hna hnb
  go_enter Tryz.func57, Tryz.ntmps57
  go_upto_region 1 with fail
  go_cut [5] (fun s5 wx => s5 = .int .i64 ((n : Int) - 1) ∧ ((w.alloc (.cells #[.slice qa a.length qc] 24)).alloc (.cells #[.slice ra b.length rc] 24)) = wx)
  case first =>
    go_wp2_with fail
    all_goals
      go_meet
      exact ⟨val_i (by have := hmx.out; omega), rfl⟩
  case rest =>
    obtain ⟨rfl, rfl⟩ := hcut
    go_wp2
    go_loopw [5] (fun i wr => ∃ k : Nat, k ≤ n ∧ i = .int .i64 ((k : Int) - 1) ∧ (∀ j, k ≤ j → j < n → gi a j = gi b j) ∧ Below ((w.alloc (.cells #[.slice qa a.length qc] 24)).alloc (.cells #[.slice ra b.length rc] 24)).heap.size ((w.alloc (.cells #[.slice qa a.length qc] 24)).alloc (.cells #[.slice ra b.length rc] 24)) wr) (fun i _ => (intOf i + 1).toNat)
    case atStart => exact ⟨n, Nat.le_refl _, rfl, fun j h1 h2 => by omega, Below.refl _ _⟩
    case round =>
      obtain ⟨k, hk, rfl, hall, hd⟩ := hrel
      replace hall := Lib.hid hall
      cases k with
      | zero =>
        have E : Hid (cmpL a b = 0) := Lib.hid (by
          rw [hEa.out]
          refine cmpV_eq ?_
          have := vt_eq_above (k := 0) (n := n) (Nat.zero_le _) hall.out
          simpa [vt] using this)
        have hb' := Lib.hid (below_of (hbx.out _ _) (hbx.out _ _).size hd)
        clear hd
        go_wp2
        go_ret
        exact ⟨ret_i E.out.symm, hb'.out⟩
      | succ k =>
        have e1 : ((k + 1 : Nat) : Int) - 1 = (k : Int) := by omega
        rw [e1]
        clear e1
        obtain ⟨z0, y0⟩ := (hB1.out (.cells #[.slice ra b.length rc] 24)).to hd
        obtain ⟨z1, y1⟩ := (hB2.out (.cells #[.slice qa a.length qc] 24)).to hd
        have hG : Hid (∀ x : GrowX wr, Below w.heap.size w (grow wr x)) := Lib.hid fun x => below_of (below_of (hbx.out _ _) (hbx.out _ _).size hd) (by have := hd.size; have := (hbx.out (.cells #[.slice qa a.length qc] 24) (.cells #[.slice ra b.length rc] 24)).size; omega) (grow_is wr x)
        have hb' := Lib.hid (below_of (hbx.out _ _) (hbx.out _ _).size hd)
        replace hd := Lib.hid hd
        have i0 : (0 : Int) ≤ k := by omega
        rcases Int.lt_trichotomy (gi a k) (gi b k) with c | c | c
        · have E : Hid (cmpL a b = -1) := Lib.hid (by rw [hEa.out]; exact cmpV_lt (vt_lt ha.out hb.out hk (fun j x y => hall.out j (by omega) y) c))
          have d1 : decide (gi a k < gi b k) = true := decide_eq_true c
          clear c
          go_wp2_with fail
          refine wp_region_calm (by kernel_rfl) (by kernel_rfl) ?_
          repeat (go_big_quiet_step (((go_at_call 79; first | (with_reducible exact calm_b (HA.out _ _ (hG.out _))) | (with_reducible exact calm_b (HB.out _ _ (hG.out _)))))))
          refine wpQuiet_nil ?_
          intro w2 hw2
          have hb2 := Lib.hid (below_of hb'.out hb'.out.size (grow_below hw2))
          clear hw2
          go_wp2
          go_ret
          exact ⟨ret_i E.out.symm, hb2.out⟩
        · have d1 : decide (gi a k < gi b k) = false := by rw [decide_eq_false_iff_not]; omega
          have d2 : decide (gi b k < gi a k) = false := by rw [decide_eq_false_iff_not]; omega
          replace c := Lib.hid c
          go_wp2_with fail
          refine wp_region_calm (by kernel_rfl) (by kernel_rfl) ?_
          repeat (go_big_quiet_step (((go_at_call 79; first | (with_reducible exact calm_b (HA.out _ _ (hG.out _))) | (with_reducible exact calm_b (HB.out _ _ (hG.out _)))))))
          refine wpQuiet_nil ?_
          intro w2 hw2
          have hg := grow_below hw2
          clear hw2 z0 y0 z1 y1 hG
          obtain ⟨z0, y0⟩ := ((hB1.out (.cells #[.slice ra b.length rc] 24)).to hd.out).to hg
          obtain ⟨z1, y1⟩ := ((hB2.out (.cells #[.slice qa a.length qc] 24)).to hd.out).to hg
          have hG : Hid (∀ x : GrowX w2, Below w.heap.size w (grow w2 x)) := Lib.hid fun x => below_of (below_of hb'.out hb'.out.size hg) (by have := hb'.out.size; have := hg.size; omega) (grow_is w2 x)
          have hb2 := Lib.hid (below_of hb'.out hb'.out.size hg)
          have hd2 := Lib.hid (hd.out.trans (hg.mono hd.out.size))
          clear hg
          go_wp2_with fail
          refine wp_region_calm (by kernel_rfl) (by kernel_rfl) ?_
          repeat (go_big_quiet_step (((go_at_call 79; first | (with_reducible exact calm_b (HA.out _ _ (hG.out _))) | (with_reducible exact calm_b (HB.out _ _ (hG.out _)))))))
          refine wpQuiet_nil ?_
          intro w3 hw3
          have hg := grow_below hw3
          have hb3 := Lib.hid (below_of hb2.out hb2.out.size hg)
          have hd3 := Lib.hid (hd2.out.trans (hg.mono hd2.out.size))
          clear hw3 hg
          go_wp2
          go_roundw
          case rel => exact ⟨k, by omega, rfl, fun j x y => by (rcases Nat.lt_or_eq_of_le x with h | h; exact hall.out j h y; rw [← h]; exact c.out), hd3.out⟩
          case measure => simp [intOf]
        · have E : Hid (cmpL a b = 1) := Lib.hid (by rw [hEa.out]; exact cmpV_gt (vt_lt hb.out ha.out hk (fun j x y => (hall.out j (by omega) y).symm) c))
          have d1 : decide (gi a k < gi b k) = false := by rw [decide_eq_false_iff_not]; omega
          have d2 : decide (gi b k < gi a k) = true := decide_eq_true c
          clear c
          go_wp2_with fail
          refine wp_region_calm (by kernel_rfl) (by kernel_rfl) ?_
          repeat (go_big_quiet_step (((go_at_call 79; first | (with_reducible exact calm_b (HA.out _ _ (hG.out _))) | (with_reducible exact calm_b (HB.out _ _ (hG.out _)))))))
          refine wpQuiet_nil ?_
          intro w2 hw2
          have hg := grow_below hw2
          clear hw2 z0 y0 z1 y1 hG
          obtain ⟨z0, y0⟩ := ((hB1.out (.cells #[.slice ra b.length rc] 24)).to hd.out).to hg
          obtain ⟨z1, y1⟩ := ((hB2.out (.cells #[.slice qa a.length qc] 24)).to hd.out).to hg
          have hG : Hid (∀ x : GrowX w2, Below w.heap.size w (grow w2 x)) := Lib.hid fun x => below_of (below_of hb'.out hb'.out.size hg) (by have := hb'.out.size; have := hg.size; omega) (grow_is w2 x)
          have hb2 := Lib.hid (below_of hb'.out hb'.out.size hg)
          have hd2 := Lib.hid (hd.out.trans (hg.mono hd.out.size))
          clear hg
          go_wp2_with fail
          refine wp_region_calm (by kernel_rfl) (by kernel_rfl) ?_
          repeat (go_big_quiet_step (((go_at_call 79; first | (with_reducible exact calm_b (HA.out _ _ (hG.out _))) | (with_reducible exact calm_b (HB.out _ _ (hG.out _)))))))
          refine wpQuiet_nil ?_
          intro w3 hw3
          have hg := grow_below hw3
          have hb3 := Lib.hid (below_of hb2.out hb2.out.size hg)
          have hd3 := Lib.hid (hd2.out.trans (hg.mono hd2.out.size))
          clear hw3 hg
          go_wp2
          go_ret
          exact ⟨ret_i E.out.symm, hb3.out⟩
end Go.Proofs.YtpoddmkimhkmoaaGreat
