/-
  CONTRACTS of slices.Clone at steps and of sheaveref37.Same.
  Conditions: those that each theorem names.
-/
import Derived.Test.YtfcimilimojfoaaDoorSb6
import Derived.Test.YtfcimilimojfoaaDoorSb7
import Derived.Test.YtfcimilimojfoaaDoorSb2
import Derived.Test.YtfcimilimojfoaaDoorSb9

namespace Go.Sv
open Go.RowKit
theorem sp_ext {l m : List Sp} (hl : l.length = m.length) (h : ∀ k, k < l.length → spAt l k = spAt m k) : l = m := by
  apply List.ext_getElem hl
  intro k h1 h2
  have := h k h1
  simpa [spAt, h1, h2] using this
theorem spF_one (l : List Sp) (k i : Nat) : (spF l k i).oneCell' = true := by
  unfold spF spC
  split <;> rfl
end Go.Sv
namespace Go.Proofs.YtfcimilimojfoaaDoor
open Go.RowKit Go.Sv
theorem guardStep : Tryd.prog.eqGuardType Tryd.prog.depth 52 = false := by kernel_rfl
theorem eqStep (a b d a' b' d' : Int) (w : World) : (Op.equalIn 10000 52 (.agg #[.int .i64 a, .int .i64 b, .int .i64 d]) (.agg #[.int .i64 a', .int .i64 b', .int .i64 d'])).run Tryd.prog w = .ok (decide ((⟨a, b, d⟩ : Sp) = ⟨a', b', d'⟩)) w := by
  have hS : Tryd.prog.underlying 52 = some (.struct (Tryd.prog.fieldsOf 52)) := by kernel_rfl
  have hp : Tryd.prog.stoodInHeld 52 = false := by kernel_rfl
  rw [show (10000 : Nat) = 9999 + 1 from rfl, run_equalIn_agg w 9999 52 _ _ hS hp]
  simp only [Program.fieldsOf, Tryd.underlying52]
  go_simp
  by_cases h1 : a = a' <;> by_cases h2 : b = b' <;> by_cases h4 : d = d' <;> simp [h1, h2, h4]
set_option maxRecDepth 100000 in
theorem cloneS_any (A : Option Addr) (c : Nat) (l : List Sp) (w : World) (ha : ArrN w w.heap.size 3 A l.length (spF l)) (hA : A = none → l.length = 0 ∧ c = 0) (hn : l.length ≤ 1000000) :
    Calls Tryd.prog 18 #[.slice A l.length c] w (Ret (OwnS w l)) := by
  have hnil := fun w => Lib.run_eql_slice_nil (P := Tryd.prog) w 40 52 A l.length c 0 0 Tryd.underlying40
  have hnil0 := fun w => Lib.run_eql_slice_nil (P := Tryd.prog) w 40 52 none 0 0 0 0 Tryd.underlying40
  cases A with
  | none =>
    obtain ⟨h0, rfl⟩ := hA rfl
    obtain rfl : l = [] := List.eq_nil_of_length_eq_zero h0
    clear hA ha hnil
    go_enter Tryd.func18, Tryd.ntmps18
    go_wp2
    go_ret
    exact Ret.mk (OwnS.of (World.ownsRow_nil _ _ _ _) (Below.refl _ _))
  | some ad =>
    have HF : Hid (∀ u ∈ rowN 3 l.length (spF l), u.oneCell' = true) := Lib.hid fun u hu => by
      unfold rowN at hu
      obtain ⟨k, hk, rfl⟩ := List.mem_map.1 hu
      exact spF_one _ _ _
    clear hA hnil0
    replace ha := Lib.hid ha
    go_enter Tryd.func18, Tryd.ntmps18
    go_wp2_with (at_builtin; refine append_arr elStep rfl _ _ rfl w.heap.size _ 0 [] (World.ownsRow_made _ _ 0 (Nat.le_refl _) (Nat.zero_le _) rfl) rfl _ _ _ (rowN 3 l.length (spF l)) rfl (rowN_length ..) HF.out ?c1 ?c2 (by omega) (by omega) (by simp) ?_)
    case c1 => intro h; cases h
    case c2 => exact arrN_cells (by decide) (ha.out.below ((Below.refl _ _).alloc (Nat.le_refl _) _))
    intro v' w' hown hg hb hor
    have hb2 : Below w.heap.size w w' := ((Below.refl _ _).alloc (Nat.le_refl _) _).trans hb
    try simp only [List.nil_append, Nat.zero_add] at hown
    have hR := Lib.hid (OwnS.of (l := l) hown hb2)
    clear hown hg hb hor hb2
    go_wp2
    go_ret
    exact Ret.mk hR.out
set_option maxRecDepth 100000 in
theorem rsame_any (A C : Option Addr) (c d : Nat) (l m : List Sp) (w : World) (B : Nat) (ha : ArrN w B 3 A l.length (spF l)) (hc : ArrN w B 3 C m.length (spF m)) (hl : l.length ≤ 1000000) (hm : m.length ≤ 1000000) :
    Calls Tryd.prog 15 #[.slice A l.length c, .slice C m.length d] w fun e w' => e = .returned (.bool (decide (l = m))) ∧ Below w.heap.size w w' := by
  by_cases hlen : l.length = m.length
  · have z1 : ((l.length : Int) != (m.length : Int)) = false := by rw [bne_eq_false_iff_eq]; omega
    replace hlen := Lib.hid hlen
    go_enter Tryd.func15, Tryd.ntmps15
    go_wp2
    go_loopw [5] (fun i wr => ∃ k : Nat, k ≤ l.length ∧ i = .int .i64 k ∧ (∀ j, j < k → spAt l j = spAt m j) ∧ Drawn w wr) (fun i _ => l.length - (intOf i).toNat)
    case atStart => exact ⟨0, Nat.zero_le _, rfl, fun j hj => by omega, Drawn.refl _⟩
    case round =>
      obtain ⟨k, hk, rfl, hall, hdr⟩ := hrel
      replace hall := Lib.hid hall
      by_cases hlt : k < l.length
      · have hkm : k < m.length := by have := hlen.out; omega
        obtain ⟨b, off, rfl, hb, hcl⟩ := ha (by omega)
        obtain ⟨b2, off2, rfl, hb2, hcm⟩ := hc (by omega)
        obtain ⟨c0, c1, c2⟩ := sp_cells (w := wr) (fun i hi => (hdr.cell _).trans (hcl k hlt i hi))
        obtain ⟨d0, d1, d2⟩ := sp_cells (w := wr) (fun i hi => (hdr.cell _).trans (hcm k hkm i hi))
        replace hdr := Lib.hid hdr
        replace ha := Lib.hid ha
        replace hc := Lib.hid hc
        clear hcl hcm
        have j1 : (k : Int) < (l.length : Int) := by omega
        have j2 : (k : Int) < (m.length : Int) := by omega
        obtain ⟨x, hx⟩ : ∃ x, spAt l k = x := ⟨_, rfl⟩
        obtain ⟨y, hy⟩ : ∃ y, spAt m k = y := ⟨_, rfl⟩
        rw [hx] at c0 c1 c2
        rw [hy] at d0 d1 d2
        obtain ⟨a1, a2, a3⟩ := x
        obtain ⟨b1, b2, b3⟩ := y
        dsimp only at c0 c1 c2 d0 d1 d2
        have hE := fun w => eqStep a1 a2 a3 b1 b2 b3 w
        have hg := guardStep
        cases he : decide ((⟨a1, a2, a3⟩ : Sp) = ⟨b1, b2, b3⟩) with
        | true =>
          have hS : Hid (∀ j, j < k + 1 → spAt l j = spAt m j) := Lib.hid fun j hj => by
            rcases Nat.lt_succ_iff_lt_or_eq.1 hj with h | h
            · exact hall.out j h
            · rw [h, hx, hy]; exact of_decide_eq_true he
          rw [he] at hE
          replace he := Lib.hid he
          replace hx := Lib.hid hx
          replace hy := Lib.hid hy
          go_wp2_with fail
          go_quiet (fail)
          go_wp2
          go_roundw
          case rel => exact ⟨k + 1, by omega, by go_num, hS.out, hdr.out.drewN _⟩
          case measure => simp [intOf]; omega
        | false =>
          have hne : Hid (decide (l = m) = false) := Lib.hid (by rw [decide_eq_false_iff_not]; intro h; subst h; rw [hx] at hy; exact of_decide_eq_false he hy)
          rw [he] at hE
          replace he := Lib.hid he
          replace hx := Lib.hid hx
          replace hy := Lib.hid hy
          go_wp2_with fail
          go_quiet (fail)
          go_wp2
          go_ret
          exact ⟨ret_b hne.out.symm, (hdr.out.drewN _).below⟩
      · have heq : Hid (decide (l = m) = true) := Lib.hid (decide_eq_true (sp_ext hlen.out (fun j hj => hall.out j (by omega))))
        obtain rfl : k = l.length := by omega
        replace ha := Lib.hid ha
        replace hc := Lib.hid hc
        go_wp2
        go_ret
        exact ⟨ret_b heq.out.symm, hdr.below⟩
  · have z1 : ((l.length : Int) != (m.length : Int)) = true := by rw [bne_iff_ne]; omega
    have hne : Hid (decide (l = m) = false) := Lib.hid (by rw [decide_eq_false_iff_not]; intro h; exact hlen (by rw [h]))
    clear hlen
    go_enter Tryd.func15, Tryd.ntmps15
    go_wp2
    go_ret
    exact ⟨ret_b hne.out.symm, Below.refl _ _⟩
end Go.Proofs.YtfcimilimojfoaaDoor

namespace Go.Sv
open Go.RowKit
def exT : Tab := ⟨4, 0, 0, false, [[true, true], [true, true]], [[true, true], [true, true]]⟩
def exP : Prob := ⟨[2], [0], [1], [exT]⟩
end Go.Sv
namespace Go.Proofs.YtfcimilimojfoaaDoor
open Go.RowKit Go.Sv
def ExR (w : World) (v : Value) (w' : World) : Prop := Below w.heap.size w w' ∧ ∃ q, v = probV exP q ∧ RProb w' w'.heap.size exP q
theorem ex_boxes (w : World) : ∃ W, (((((((((((w.alloc (.cells #[.slice (some ⟨w.heap.size + 1, 0, none⟩) 1 1, .slice (some ⟨w.heap.size + 1 + 1, 0, none⟩) 1 1, .slice (some ⟨w.heap.size + 1 + 1 + 1, 0, none⟩) 1 1, .slice (some ⟨w.heap.size + 1 + 1 + 1 + 1 + 1 + 1 + 1 + 1 + 1 + 1, 0, none⟩) 1 1] 33)).alloc (.cells #[.int .i64 2] 3)).alloc (.cells #[.int .i64 0] 3)).alloc (.cells #[.int .i64 1] 3)).alloc (.cells #[.bool true, .bool true] 4)).alloc (.cells #[.bool true, .bool true] 4)).alloc (.cells #[.slice (some ⟨w.heap.size + 1 + 1 + 1 + 1, 0, none⟩) 2 2, .slice (some ⟨w.heap.size + 1 + 1 + 1 + 1 + 1, 0, none⟩) 2 2] 104)).alloc (.cells #[.bool true, .bool true] 4)).alloc (.cells #[.bool true, .bool true] 4)).alloc (.cells #[.slice (some ⟨w.heap.size + 1 + 1 + 1 + 1 + 1 + 1 + 1, 0, none⟩) 2 2, .slice (some ⟨w.heap.size + 1 + 1 + 1 + 1 + 1 + 1 + 1 + 1, 0, none⟩) 2 2] 104)).alloc (.cells #[.int .i64 4, .int .i64 0, .int .i64 0, .bool false, .slice (some ⟨w.heap.size + 1 + 1 + 1 + 1 + 1 + 1, 0, none⟩) 2 2, .slice (some ⟨w.heap.size + 1 + 1 + 1 + 1 + 1 + 1 + 1 + 1 + 1, 0, none⟩) 2 2] 98)) = W ∧ Fm w W [⟨w.heap.size + 1 + 1 + 1 + 1 + 1 + 1 + 1 + 1 + 1 + 1, 98, [.int .i64 4, .int .i64 0, .int .i64 0, .bool false, .slice (some ⟨w.heap.size + 1 + 1 + 1 + 1 + 1 + 1, 0, none⟩) 2 2, .slice (some ⟨w.heap.size + 1 + 1 + 1 + 1 + 1 + 1 + 1 + 1 + 1, 0, none⟩) 2 2]⟩, ⟨w.heap.size + 1 + 1 + 1 + 1 + 1 + 1 + 1 + 1 + 1, 104, [.slice (some ⟨w.heap.size + 1 + 1 + 1 + 1 + 1 + 1 + 1, 0, none⟩) 2 2, .slice (some ⟨w.heap.size + 1 + 1 + 1 + 1 + 1 + 1 + 1 + 1, 0, none⟩) 2 2]⟩, ⟨w.heap.size + 1 + 1 + 1 + 1 + 1 + 1 + 1 + 1, 4, [.bool true, .bool true]⟩, ⟨w.heap.size + 1 + 1 + 1 + 1 + 1 + 1 + 1, 4, [.bool true, .bool true]⟩, ⟨w.heap.size + 1 + 1 + 1 + 1 + 1 + 1, 104, [.slice (some ⟨w.heap.size + 1 + 1 + 1 + 1, 0, none⟩) 2 2, .slice (some ⟨w.heap.size + 1 + 1 + 1 + 1 + 1, 0, none⟩) 2 2]⟩, ⟨w.heap.size + 1 + 1 + 1 + 1 + 1, 4, [.bool true, .bool true]⟩, ⟨w.heap.size + 1 + 1 + 1 + 1, 4, [.bool true, .bool true]⟩, ⟨w.heap.size + 1 + 1 + 1, 3, [.int .i64 1]⟩, ⟨w.heap.size + 1 + 1, 3, [.int .i64 0]⟩, ⟨w.heap.size + 1, 3, [.int .i64 2]⟩, ⟨w.heap.size, 33, [.slice (some ⟨w.heap.size + 1, 0, none⟩) 1 1, .slice (some ⟨w.heap.size + 1 + 1, 0, none⟩) 1 1, .slice (some ⟨w.heap.size + 1 + 1 + 1, 0, none⟩) 1 1, .slice (some ⟨w.heap.size + 1 + 1 + 1 + 1 + 1 + 1 + 1 + 1 + 1 + 1, 0, none⟩) 1 1]⟩] [] := ⟨_, rfl, ((((((((((((Fm.init w).box' 33 [.slice (some ⟨w.heap.size + 1, 0, none⟩) 1 1, .slice (some ⟨w.heap.size + 1 + 1, 0, none⟩) 1 1, .slice (some ⟨w.heap.size + 1 + 1 + 1, 0, none⟩) 1 1, .slice (some ⟨w.heap.size + 1 + 1 + 1 + 1 + 1 + 1 + 1 + 1 + 1 + 1, 0, none⟩) 1 1] (K := w.heap.size) (by simp)).box' 3 [.int .i64 2] (K := w.heap.size + 1) (by simp)).box' 3 [.int .i64 0] (K := w.heap.size + 1 + 1) (by simp)).box' 3 [.int .i64 1] (K := w.heap.size + 1 + 1 + 1) (by simp)).box' 4 [.bool true, .bool true] (K := w.heap.size + 1 + 1 + 1 + 1) (by simp)).box' 4 [.bool true, .bool true] (K := w.heap.size + 1 + 1 + 1 + 1 + 1) (by simp)).box' 104 [.slice (some ⟨w.heap.size + 1 + 1 + 1 + 1, 0, none⟩) 2 2, .slice (some ⟨w.heap.size + 1 + 1 + 1 + 1 + 1, 0, none⟩) 2 2] (K := w.heap.size + 1 + 1 + 1 + 1 + 1 + 1) (by simp)).box' 4 [.bool true, .bool true] (K := w.heap.size + 1 + 1 + 1 + 1 + 1 + 1 + 1) (by simp)).box' 4 [.bool true, .bool true] (K := w.heap.size + 1 + 1 + 1 + 1 + 1 + 1 + 1 + 1) (by simp)).box' 104 [.slice (some ⟨w.heap.size + 1 + 1 + 1 + 1 + 1 + 1 + 1, 0, none⟩) 2 2, .slice (some ⟨w.heap.size + 1 + 1 + 1 + 1 + 1 + 1 + 1 + 1, 0, none⟩) 2 2] (K := w.heap.size + 1 + 1 + 1 + 1 + 1 + 1 + 1 + 1 + 1) (by simp)).box' 98 [.int .i64 4, .int .i64 0, .int .i64 0, .bool false, .slice (some ⟨w.heap.size + 1 + 1 + 1 + 1 + 1 + 1, 0, none⟩) 2 2, .slice (some ⟨w.heap.size + 1 + 1 + 1 + 1 + 1 + 1 + 1 + 1 + 1, 0, none⟩) 2 2] (K := w.heap.size + 1 + 1 + 1 + 1 + 1 + 1 + 1 + 1 + 1 + 1) (by simp))⟩
set_option maxHeartbeats 1000000 in
set_option maxRecDepth 100000 in
theorem example_any (w : World) : Calls Tryd.prog 42 #[] w (Ret (ExR w)) := by
  obtain ⟨W, hW, S⟩ := ex_boxes w
  obtain ⟨⟨z10, f10, y10_0, y10_1, y10_2, y10_3, y10_4, y10_5, -⟩, ⟨z9, f9, y9_0, y9_1, -⟩, ⟨z8, f8, y8_0, y8_1, -⟩, ⟨z7, f7, y7_0, y7_1, -⟩, ⟨z6, f6, y6_0, y6_1, -⟩, ⟨z5, f5, y5_0, y5_1, -⟩, ⟨z4, f4, y4_0, y4_1, -⟩, ⟨z3, f3, y3_0, -⟩, ⟨z2, f2, y2_0, -⟩, ⟨z1, f1, y1_0, -⟩, ⟨z0, f0, y0_0, y0_1, y0_2, y0_3, -⟩, -⟩ := S.facts
  have hR : ExR w (probV exP ⟨some ⟨w.heap.size + 1, 0, none⟩, 1, some ⟨w.heap.size + 1 + 1, 0, none⟩, 1, some ⟨w.heap.size + 1 + 1 + 1, 0, none⟩, 1, some ⟨w.heap.size + 1 + 1 + 1 + 1 + 1 + 1 + 1 + 1 + 1 + 1, 0, none⟩, 1⟩) W := by
    refine ⟨S.bel, _, rfl, ⟨?_, ?_, ?_, ?_⟩⟩
    · exact fun _ => ⟨w.heap.size + 1, 0, rfl, z1, fun k hk => by
      obtain rfl : k = 0 := by simpa [exP] using hk
      exact y1_0⟩
    · exact fun _ => ⟨w.heap.size + 1 + 1, 0, rfl, z2, fun k hk => by
      obtain rfl : k = 0 := by simpa [exP] using hk
      exact y2_0⟩
    · exact fun _ => ⟨w.heap.size + 1 + 1 + 1, 0, rfl, z3, fun k hk => by
      obtain rfl : k = 0 := by simpa [exP] using hk
      exact y3_0⟩
    · refine ⟨fun _ => ⟨some ⟨w.heap.size + 1 + 1 + 1 + 1 + 1 + 1, 0, none⟩, 2, some ⟨w.heap.size + 1 + 1 + 1 + 1 + 1 + 1 + 1 + 1 + 1, 0, none⟩, 2⟩, fun _ => ⟨w.heap.size + 1 + 1 + 1 + 1 + 1 + 1 + 1 + 1 + 1 + 1, 0, rfl, z10, fun k hk i hi => ?_⟩, fun k hk => ?_⟩
      · obtain rfl : k = 0 := by simpa [exP] using hk
        match i, hi with
        | 0, _ => exact y10_0
        | 1, _ => exact y10_1
        | 2, _ => exact y10_2
        | 3, _ => exact y10_3
        | 4, _ => exact y10_4
        | 5, _ => exact y10_5
      · obtain rfl : k = 0 := by simpa [exP] using hk
        exact ⟨⟨fun k => if k = 0 then (some ⟨w.heap.size + 1 + 1 + 1 + 1, 0, none⟩, 2) else (some ⟨w.heap.size + 1 + 1 + 1 + 1 + 1, 0, none⟩, 2), fun _ => ⟨w.heap.size + 1 + 1 + 1 + 1 + 1 + 1, 0, rfl, z6, fun k hk => by
      match k, hk with
      | 0, _ => exact y6_0
      | 1, _ => exact y6_1⟩, fun k hk => by
      match k, hk with
      | 0, _ => exact fun _ => ⟨w.heap.size + 1 + 1 + 1 + 1, 0, rfl, z4, fun k hk => by
      match k, hk with
      | 0, _ => exact y4_0
      | 1, _ => exact y4_1⟩
      | 1, _ => exact fun _ => ⟨w.heap.size + 1 + 1 + 1 + 1 + 1, 0, rfl, z5, fun k hk => by
      match k, hk with
      | 0, _ => exact y5_0
      | 1, _ => exact y5_1⟩⟩, ⟨fun k => if k = 0 then (some ⟨w.heap.size + 1 + 1 + 1 + 1 + 1 + 1 + 1, 0, none⟩, 2) else (some ⟨w.heap.size + 1 + 1 + 1 + 1 + 1 + 1 + 1 + 1, 0, none⟩, 2), fun _ => ⟨w.heap.size + 1 + 1 + 1 + 1 + 1 + 1 + 1 + 1 + 1, 0, rfl, z9, fun k hk => by
      match k, hk with
      | 0, _ => exact y9_0
      | 1, _ => exact y9_1⟩, fun k hk => by
      match k, hk with
      | 0, _ => exact fun _ => ⟨w.heap.size + 1 + 1 + 1 + 1 + 1 + 1 + 1, 0, rfl, z7, fun k hk => by
      match k, hk with
      | 0, _ => exact y7_0
      | 1, _ => exact y7_1⟩
      | 1, _ => exact fun _ => ⟨w.heap.size + 1 + 1 + 1 + 1 + 1 + 1 + 1 + 1, 0, rfl, z8, fun k hk => by
      match k, hk with
      | 0, _ => exact y8_0
      | 1, _ => exact y8_1⟩⟩⟩
  have hR' := Lib.hid hR
  clear hR S
  go_enter Tryd.func42, Tryd.ntmps42
  go_wp2
  try rw [hW]
  refine bodyPost_ret (v := .agg #[.slice (some ⟨w.heap.size + 1, 0, none⟩) 1 1, .slice (some ⟨w.heap.size + 1 + 1, 0, none⟩) 1 1, .slice (some ⟨w.heap.size + 1 + 1 + 1, 0, none⟩) 1 1, .slice (some ⟨w.heap.size + 1 + 1 + 1 + 1 + 1 + 1 + 1 + 1 + 1 + 1, 0, none⟩) 1 1]) (by simp [results, Tryd.results42, go_sem, y0_0, y0_1, y0_2, y0_3]) rfl ?_
  exact Ret.mk hR'.out
end Go.Proofs.YtfcimilimojfoaaDoor

namespace Go.Proofs.YtfcimilimojfoaaDoor
open Go.RowKit Go.Sv
theorem ex_ok : probE exP = 0 := by
  rw [probE_t (by decide) (by decide) (fun i hi => by
    obtain rfl : i = 0 := by simpa [exP] using hi
    unfold svcBad
    decide)]
  decide
def ex0 : Mx := ⟨[0], [-1], [1]⟩
def ex1 : Mx := ⟨[0], [1], [3]⟩
def ex2 : Mx := ⟨[1], [-1], [3]⟩
def ex3 : Mx := ⟨[1], [-1], [2]⟩
theorem ex_st : stM exP exP.vs.length exP.tabs.length = ex0 := by decide
theorem ex0_ok : MOk exP ex0 := by
  refine ⟨ex_ok, rfl, rfl, rfl, fun i hi => ?_, fun i hi _ => ?_, fun i hi h => ?_⟩
  · obtain rfl : i = 0 := by simpa [exP] using hi
    decide
  · obtain rfl : i = 0 := by simpa [exP] using hi
    decide
  · obtain rfl : i = 0 := by simpa [exP] using hi
    revert h
    decide
theorem ex_a1 : aft exP ex0 ⟨1, 0, 1⟩ = some ex1 := by
  unfold aft
  decide
theorem ex_a2 : aft exP ex1 ⟨2, 0, 0⟩ = some ex2 := by
  unfold aft
  dsimp only
  rw [if_neg (by decide), if_neg (by decide), if_neg (by decide), if_pos rfl]
  decide
theorem ex_rew : rewB exP ex2 0 := by
  intro u h1 h2
  have h3 : u < 2 := by
    rcases Nat.lt_or_ge u 2 with h | h
    · exact h
    · have : (hd ex2 0).testBit u = false := Nat.testBit_lt_two_pow (Nat.lt_of_lt_of_le (by decide : hd ex2 0 < 2 ^ 2) (Nat.pow_le_pow_right (by decide) h))
      rw [this] at h1; cases h1
  match u, h3 with
  | 0, _ => decide
  | 1, _ => decide
theorem ex_a3 : aft exP ex2 ⟨3, 0, 0⟩ = some ex3 := by
  rw [aft_clear rfl, if_neg]
  · decide
  · rw [not_or, not_or]
    exact ⟨by decide, by decide, fun h => h.2 ex_rew⟩
theorem ex_dir : diE exP ex0 [1] = 0 ∧ diL exP ex0 [1] = [⟨1, 0, 1⟩, ⟨2, 0, 0⟩] := by
  obtain ⟨h1, h2⟩ := di_0 (mixE_ok.2 ex0_ok) (tg := [1]) (by decide) (by decide) (by decide)
  exact ⟨h1, by rw [h2]; decide⟩
theorem ex_goes : goes exP ex0 [⟨1, 0, 1⟩, ⟨2, 0, 0⟩, ⟨3, 0, 0⟩] 0 = .ok [ex1, ex2, ex3] := by
  rw [goes_cons (by decide) (by decide) ex_a1, goes_cons (by decide) (by decide) ex_a2, goes_cons (by decide) (by decide) ex_a3]
  rfl
theorem ex_run : rnL exP ex0 [⟨1, 0, 1⟩, ⟨2, 0, 0⟩, ⟨3, 0, 0⟩] = [ex0, ex1, ex2, ex3] ∧ rnN exP ex0 [⟨1, 0, 1⟩, ⟨2, 0, 0⟩, ⟨3, 0, 0⟩] = 3 ∧ rnE exP ex0 [⟨1, 0, 1⟩, ⟨2, 0, 0⟩, ⟨3, 0, 0⟩] = 0 := by
  unfold rnL rnN rnE
  rw [if_pos (mixE_ok.2 ex0_ok), if_pos (mixE_ok.2 ex0_ok), if_pos (mixE_ok.2 ex0_ok), ex_goes]
  exact ⟨rfl, rfl, rfl⟩
theorem ex_all : allL exP = [⟨1, 0, 0⟩, ⟨1, 0, 1⟩, ⟨2, 0, 0⟩, ⟨3, 0, 0⟩] := by decide
theorem ex_en : enL exP ex0 = [⟨1, 0, 1⟩] ∧ enE exP ex0 = 0 := by
  have b1 : aftB exP ex0 ⟨1, 0, 0⟩ = false := aftB_none (by unfold aft; decide)
  have b2 : aftB exP ex0 ⟨1, 0, 1⟩ = true := aftB_some ex_a1
  have b3 : aftB exP ex0 ⟨2, 0, 0⟩ = false := aftB_none (by
    unfold aft
    dsimp only
    rw [if_neg (by decide), if_neg (by decide), if_pos (by decide)])
  have b4 : aftB exP ex0 ⟨3, 0, 0⟩ = false := aftB_none (by
    rw [aft_clear rfl, if_pos]
    exact Or.inr (Or.inl (by decide)))
  unfold enL enE
  rw [if_pos (mixE_ok.2 ex0_ok), ex_all]
  refine ⟨?_, mixE_ok.2 ex0_ok⟩
  rw [List.filter_cons, if_neg (by rw [b1]; decide), List.filter_cons, if_pos b2, List.filter_cons, if_neg (by rw [b3]; decide), List.filter_cons, if_neg (by rw [b4]; decide)]
  rfl
end Go.Proofs.YtfcimilimojfoaaDoor
