/-
  CONTRACT of the reference's Of.
  Conditions: those that each theorem names.
-/
import Derived.Test.YtbpgpjmihbmcbaaDoorHeaD
import Derived.Test.YtbpgpjmihbmcbaaDoorHeaW
import Derived.Deep.DeepCutAuto
namespace Go.Proofs.YtbpgpjmihbmcbaaDoor
open Go.RowKit Go.Sv

def u8v (l : List Int) (k : Nat) : Value := .int .u8 (gi l k)
def OfRes (w : World) (t : Tst) (b : Bool) (v : Value) (w' : World) : Prop := ∃ q : TstP, v = .tuple #[tstV t q, .bool b] ∧ RTst w' w'.heap.size t q ∧ Below w.heap.size w w'
theorem ofAl_row (l : List Int) (k : Nat) : iRow (ofAl l (k + 1)) = iRow (ofAl l k) ++ [.int .i64 (ofA (gi l k) k)] := by rw [← iRow_snoc, ofAl_succ]
def ofJ (l : List Int) (k : Nat) : Int := if k + 1 = l.length then ofA (gi l k) k + 1 else ofR (gi l k) k
theorem ofJ_is {l : List Int} {k : Nat} : ofJ l k = if k + 1 = l.length then ofA (gi l k) k + 1 else ofR (gi l k) k := rfl
theorem ofRl_row (l : List Int) (k : Nat) : iRow (ofRl l (k + 1)) = iRow (ofRl l k) ++ [.int .i64 (ofJ l k)] := by
  rw [← iRow_snoc]
  unfold ofJ
  split
  · rw [ofRl_last l ‹_›]
  · rw [ofRl_succ l ‹_›]

set_option maxHeartbeats 1000000 in
set_option maxRecDepth 100000 in
theorem rof_ok (l : List Int) (A : Option Addr) (c : Nat) (w : World) (h0 : 0 < l.length) (h1 : l.length ≤ 8) (hb : ∀ i, i < l.length → 0 ≤ gi l i ∧ gi l i < 256) (ha : Arr w w.heap.size A l.length (u8v l)) :
    Calls Tryd.prog 24 #[.slice A l.length c] w (Ret (OfRes w (ofT l) true)) := by
  have d1 : decide ((l.length : Int) < 1) = false := by rw [decide_eq_false_iff_not]; omega
  have d2 : decide (8 < l.length) = false := by rw [decide_eq_false_iff_not]; omega
  have hbx : Hid (Below w.heap.size w (w.alloc (.cells #[.slice none 0 0, .slice none 0 0] 26))) := Lib.hid ((Below.refl _ _).alloc (Nat.le_refl _) _)
  replace ha := Lib.hid ha
  replace hb := Lib.hid hb
  go_enter Tryd.func24, Tryd.ntmps24
  go_wp2
  go_loopw [5, 6, 7] (fun i _ _ wr => ∃ (k : Nat) (v1 v2 : Value), k ≤ l.length ∧ i = .int .i64 k ∧ Two (w.alloc (.cells #[.slice none 0 0, .slice none 0 0] 26)) (w.heap.size + 1) wr (w.heap.size + 1) (w.heap.size + 2) 26 3 v1 v2 v1 k (iRow (ofAl l k)) v2 k (iRow (ofRl l k))) (fun i _ _ _ => l.length - (intOf i).toNat)
  case atStart => exact ⟨0, _, _, Nat.zero_le _, rfl, Two.new rfl⟩
  case round =>
    obtain ⟨k, v1, v2, hk, rfl, T⟩ := hrel
    replace T := Lib.hid T
    have y0 : wr.cell? ⟨w.heap.size + 1, 0, none⟩ = some v1 := (T.out.box.cell 0).trans rfl
    have y1 : wr.cell? ⟨w.heap.size + 1, 1, none⟩ = some v2 := (T.out.box.cell 1).trans rfl
    have i0 : (0 : Int) ≤ k := by omega
    by_cases hlt : k < l.length
    · have dk : decide ((k : Int) < (l.length : Int)) = true := decide_eq_true (by omega)
      obtain ⟨ba, oa, rfl, hba, hca⟩ := ha.out h0
      have da : wr.cell? ⟨ba, oa + k, none⟩ = some (u8v l k) := (T.out.bel.cell (p := ⟨ba, oa + k, none⟩) (by show ba < _; omega)).trans (((hbx.out).cell (p := ⟨ba, oa + k, none⟩) hba).trans (hca k hlt))
      clear hca
      unfold u8v at da
      obtain ⟨x, hx⟩ : ∃ x, gi l k = x := ⟨_, rfl⟩
      rw [hx] at da
      obtain ⟨x0, x1⟩ := hb.out k hlt
      rw [hx] at x0 x1
      replace hx := Lib.hid hx
      have p1 := ofA_bd (x := x) k
      have p2 := ofR_bd x0 k
      go_upto_region 7 with fail
      go_cut [6] (fun s6 wx => s6 = .int .i64 (ofA x k) ∧ wr = wx)
      case first =>
        go_wp2_with fail
        all_goals
          go_meet
          refine ⟨?_, rfl⟩
          unfold ofA
          first | rw [if_pos (by omega)] | rw [if_neg (by omega)]
      case rest =>
        obtain ⟨rfl, rfl⟩ := hcut
        have wr1 : IntKind.i64.wrap (ofA x k + 1) = ofA x k + 1 := IntWalk.i64_in _ (by omega)
        go_upto_region 8 with fail
        go_cut [7] (fun s7 wx' => s7 = .int .i64 (ofR x k) ∧ wr = wx')
        case first =>
          go_wp2_with fail
          all_goals
            go_meet
            refine ⟨?_, rfl⟩
            unfold ofR
            first | rw [if_pos (by omega)] | rw [if_neg (by omega)]
        case rest =>
          obtain ⟨rfl, rfl⟩ := hcut
          go_upto_if 49 with fail
          go_cut [7] (fun s7 wx' => s7 = .int .i64 (ofJ l k) ∧ wr = wx')
          case first =>
            have hJ := Lib.hid (ofJ_is (l := l) (k := k))
            rw [hx.out] at hJ
            by_cases hl : k + 1 = l.length
            · have dl : ((k : Int) == (l.length : Int) - 1) = true := beq_iff_eq.2 (by omega)
              replace hl := Lib.hid hl
              go_wp2_with fail
              go_meet
              exact ⟨by rw [hJ.out, if_pos hl.out], rfl⟩
            · have dl : ((k : Int) == (l.length : Int) - 1) = false := beq_eq_false_iff_ne.2 (by omega)
              replace hl := Lib.hid hl
              go_wp2_with fail
              go_meet
              exact ⟨by rw [hJ.out, if_neg hl.out], rfl⟩
          case rest =>
            obtain ⟨rfl, rfl⟩ := hcut
            go_wp2_with fail
            refine wp_region_any (by kernel_rfl) ?_
            change wpAny _ _ _ _ _ _ _ (World.drew _)
            refine wpAny_takeD (i := 0) (d := 52) (v := ?_) rfl rfl (by kernel_rfl) (by kernel_rfl) (by kernel_rfl) (fun _ _ _ h => h) (Or.inl ⟨by rfl, ?_⟩) ?_
            rotate_left
            · (intro w; go_simp; try with_reducible rfl)
            simp only [Act.put, List.setIfInBounds_toArray, List.set_cons_succ, List.set_cons_zero]
            refine wpAny_takeD (i := 2) (d := 54) (v := ?_) rfl rfl (by kernel_rfl) (by kernel_rfl) (by kernel_rfl) (fun _ _ _ h => h) (Or.inl ⟨by rfl, ?_⟩) ?_
            rotate_left
            · (intro w; go_simp; try with_reducible rfl)
            simp only [Act.put, List.setIfInBounds_toArray, List.set_cons_succ, List.set_cons_zero]
            refine wpAny_takeD (i := 5) (d := 57) (v := ?_) rfl rfl (by kernel_rfl) (by kernel_rfl) (by kernel_rfl) (fun _ _ _ h => h) (Or.inl ⟨by rfl, ?_⟩) ?_
            rotate_left
            · (intro w; go_simp; try with_reducible rfl)
            simp only [Act.put, List.setIfInBounds_toArray, List.set_cons_succ, List.set_cons_zero]
            refine wpAny_takeD (i := 7) (d := 59) (v := ?_) rfl rfl (by kernel_rfl) (by kernel_rfl) (by kernel_rfl) (fun _ _ _ h => h) (Or.inl ⟨by rfl, ?_⟩) ?_
            rotate_left
            · (intro w; go_simp; try with_reducible rfl)
            simp only [Act.put, List.setIfInBounds_toArray, List.set_cons_succ, List.set_cons_zero]
            change wpAny _ _ _ _ _ #[true, false, true, false, false, true, false, true, false, false, false, false, false, false] _ _
            refine two8_core (l0 := #[true, false, true, false, false, true, false, true, false, false, false, false, false, false]) (X := ⟨two_ 1 6, two_ 3 8, two_ 53 58, two_ 55 60, two_ 4 9, two_ 56 61, 10, 62⟩) (T := [11, 12, 13]) (lF := #[true, true, true, true, true, true, true, true, true, true, true, false, false, false]) elInt (by omega) (by omega) rfl rfl
              (two8_of (k := 11) (b := w.heap.size + 1) (k1 := .i64) (k2 := .i64) (n1 := (ofA x k)) (n2 := (ofJ l k)) elInt (by kernel_rfl) (by kernel_rfl) 52 57 4 (.tmp 54) (.tmp 59) _ (by decide) ?q1hx (fun c => by cases c <;> rfl) (fun c => by cases c <;> rfl) (fun c => by cases c <;> rfl) (by rfl) Tryd.underlying26 rfl rfl rfl (by kernel_rfl) (by kernel_rfl) (by kernel_rfl) (by kernel_rfl) (by kernel_rfl) (by kernel_rfl))
              ?q1rest _ _ _ _ (by decide) (two8_start (by kernel_rfl) T.out.drew (by kernel_rfl))
            case q1hx =>
              intro x hx j hj
              simp only [List.mem_cons, List.not_mem_nil, or_false] at hx
              rcases hx with rfl | rfl <;> cases hj <;> decide
            case q1rest =>
              intro f r1 r2 w2 T2 g1 g2 g3
              obtain ⟨x0, e0⟩ : ∃ x, f 53 = x := ⟨_, rfl⟩
              obtain ⟨x1, e1⟩ : ∃ x, f 55 = x := ⟨_, rfl⟩
              obtain ⟨x3, e3⟩ : ∃ x, f 58 = x := ⟨_, rfl⟩
              obtain ⟨x4, e4⟩ : ∃ x, f 60 = x := ⟨_, rfl⟩
              replace g1 : f 56 = r1 := g1
              replace g2 : f 61 = r2 := g2
              replace g3 : f 62 = _ := g3
              simp only [Pair2.D, two_, List.foldl_cons, List.foldl_nil, List.drop_succ_cons, List.drop_zero, g1, g2, g3, e0, e1, e3, e4]
              clear e0 e1 e3 e4 g1 g2 g3 f
              have z0 : w2.cell? ⟨w.heap.size + 1, 0, none⟩ = some v1 := (T2.box.cell 0).trans rfl
              have z1 : w2.cell? ⟨w.heap.size + 1, 1, none⟩ = some v2 := (T2.box.cell 1).trans rfl
              have z2 := T2.box.frozen 0
              have z3 := T2.box.frozen 1
              obtain ⟨A1, q1, rfl, _⟩ := own_form T2.o1
              obtain ⟨A2, q2, rfl, _⟩ := own_form T2.o2
              rw [← hx.out, ← ofAl_row, ← ofRl_row] at T2
              have T3 := Lib.hid T2.put
              clear T2 wr1
              go_wp2
              go_roundw
              case rel => exact ⟨k + 1, _, _, by omega, by go_num, T3.out⟩
              case measure => simp [intOf]; omega
    · obtain rfl : k = l.length := by omega
      obtain ⟨s0, s1, s2, s3, s4⟩ := res_cells T.out.bel
      obtain ⟨A1, q1, rfl, _⟩ := own_form T.out.o1
      obtain ⟨A2, q2, rfl, _⟩ := own_form T.out.o2
      obtain ⟨L1, L2⟩ := ofT_len l
      have R := Lib.hid (two_res (r := w.heap.size) (x := .slice A1 l.length q1) (y := .slice A2 l.length q2) (t := ofT l) T.out L1 L2 (by omega))
      have hbr := Lib.hid (((hbx.out.trans (T.out.bel.mono (by omega))).setCell (p := ⟨w.heap.size, 0, none⟩) (Nat.le_refl _) (.slice A1 l.length q1)).setCell (p := ⟨w.heap.size, 1, none⟩) (Nat.le_refl _) (.slice A2 l.length q2))
      replace L1 := Lib.hid L1
      replace L2 := Lib.hid L2
      clear T
      go_wp2
      refine bodyPost_ret (v := .tuple #[.agg #[.slice A1 l.length q1, .slice A2 l.length q2], .bool true]) (by simp [results, Tryd.results24, go_sem, s0, s1]) rfl ?_
      exact Ret.mk ⟨⟨_, _, _, _⟩, by show _ = Value.tuple #[.agg #[.slice _ (ofT l).acc.length _, .slice _ (ofT l).rej.length _], _]; rw [L1.out, L2.out], R.out, hbr.out⟩

set_option maxRecDepth 100000 in
theorem rof_no (l : List Int) (A : Option Addr) (c : Nat) (w : World) (h : l.length = 0 ∨ 8 < l.length) (hl : l.length ≤ 9223372036854775807) :
    Calls Tryd.prog 24 #[.slice A l.length c] w (Ret (OfRes w tst0 false)) := by
  have hbx : Hid (∀ o : Obj, Below w.heap.size w (w.alloc o)) := Lib.hid fun o => (Below.refl _ _).alloc (Nat.le_refl _) o
  have R : Hid (∀ w' : World, RTst w' w'.heap.size tst0 ⟨none, 0, none, 0⟩) := Lib.hid fun w' => ⟨fun h => by simp [tst0] at h, fun h => by simp [tst0] at h⟩
  by_cases h0 : l.length = 0
  · have d1 : decide ((l.length : Int) < 1) = true := decide_eq_true (by omega)
    replace h0 := Lib.hid h0
    clear h
    go_enter Tryd.func24, Tryd.ntmps24
    go_wp2
    refine bodyPost_ret (v := .tuple #[.agg #[.slice none 0 0, .slice none 0 0], .bool false]) (by simp [results, Tryd.results24, go_sem]) rfl ?_
    exact Ret.mk ⟨⟨none, 0, none, 0⟩, rfl, R.out _, hbx.out _⟩
  · have d1 : decide ((l.length : Int) < 1) = false := by rw [decide_eq_false_iff_not]; omega
    have d2 : decide ((8 : Int) < (l.length : Int)) = true := decide_eq_true (by omega)
    have d3 : decide (8 < l.length) = true := decide_eq_true (by omega)
    replace h0 := Lib.hid h0
    clear h
    go_enter Tryd.func24, Tryd.ntmps24
    go_wp2
    refine bodyPost_ret (v := .tuple #[.agg #[.slice none 0 0, .slice none 0 0], .bool false]) (by simp [results, Tryd.results24, go_sem]) rfl ?_
    exact Ret.mk ⟨⟨none, 0, none, 0⟩, rfl, R.out _, hbx.out _⟩
end Go.Proofs.YtbpgpjmihbmcbaaDoor
