/-
  CONTRACTS of slices.Index and slices.Contains at conflicts that are there.
  Conditions: those that each theorem names.
-/
import Derived.Test.YtfcimilimojfoaaDoorStQj
import Derived.Test.YtfcimilimojfoaaDoorSb10
namespace Go.Proofs.YtfcimilimojfoaaDoor
open Go.RowKit Go.Sv
theorem eqCf (a b d a' b' d' : Int) (w : World) : (Op.equalIn 10000 68 (.agg #[.int .i64 a, .int .i64 b, .int .i64 d]) (.agg #[.int .i64 a', .int .i64 b', .int .i64 d'])).run Tryd.prog w = .ok (decide ((⟨a, b, d⟩ : Cf) = ⟨a', b', d'⟩)) w := by
  have hS : Tryd.prog.underlying 68 = some (.struct (Tryd.prog.fieldsOf 68)) := by kernel_rfl
  have hp : Tryd.prog.stoodInHeld 68 = false := by kernel_rfl
  rw [show (10000 : Nat) = 9999 + 1 from rfl, run_equalIn_agg w 9999 68 _ _ hS hp]
  simp only [Program.fieldsOf, Tryd.underlying68]
  go_simp
  by_cases h1 : a = a' <;> by_cases h2 : b = b' <;> by_cases h4 : d = d' <;> simp [h1, h2, h4]
theorem guardCf : Tryd.prog.eqGuardType Tryd.prog.depth 68 = false := by kernel_rfl
theorem cf_cells {w : World} {b off k : Nat} {l : List Cf} (h : ∀ i, i < 3 → w.cell? ⟨b, off + k * 3 + i, none⟩ = some (cfF l k i)) :
    w.cell? ⟨b, off + k * 3, none⟩ = some (.int .i64 (cfAt l k).table) ∧ w.cell? ⟨b, off + k * 3 + 1, none⟩ = some (.int .i64 (cfAt l k).writer) ∧ w.cell? ⟨b, off + k * 3 + 2, none⟩ = some (.int .i64 (cfAt l k).reader) := ⟨h 0 (by decide), h 1 (by decide), h 2 (by decide)⟩
theorem cfAt_mem {l : List Cf} {k : Nat} (h : k < l.length) : cfAt l k ∈ l := by
  have : cfAt l k = l[k] := by simp [cfAt, h]
  rw [this]
  exact List.getElem_mem h
theorem mem_cfAt {l : List Cf} {c : Cf} (h : c ∈ l) : ∃ k, k < l.length ∧ cfAt l k = c := by
  obtain ⟨k, hk, e⟩ := List.getElem_of_mem h
  exact ⟨k, hk, by simp [cfAt, hk, e]⟩
set_option maxHeartbeats 4000000 in
set_option maxRecDepth 100000 in
theorem index_any (A : Option Addr) (c : Nat) (l : List Cf) (x : Cf) (w : World) (ha : ArrN w w.heap.size 3 A l.length (cfF l)) (hl : l.length ≤ 1000000) (hx : x ∈ l) :
    Calls Tryd.prog 60 #[.slice A l.length c, .agg #[.int .i64 x.table, .int .i64 x.writer, .int .i64 x.reader]] w fun e w' => (∃ j : Nat, e = .returned (.int .i64 (j : Int)) ∧ j ≤ 1000000) ∧ Below w.heap.size w w' := by
  obtain ⟨k0, hk0, hkx⟩ := mem_cfAt hx
  obtain ⟨W, (hW : w.alloc (.cells #[.int .i64 x.table, .int .i64 x.writer, .int .i64 x.reader] 68) = W), S, hB⟩ := fm_boxE (Fm.init w) 68 [.int .i64 x.table, .int .i64 x.writer, .int .i64 x.reader]
  have haW := Lib.hid ((ha.below hB).more hB.size)
  obtain ⟨x0, x1, x2⟩ := x
  dsimp only at hW S ⊢
  obtain ⟨⟨r1, f1, r10, r11, r12, -⟩, -⟩ := S.facts
  have SW := Lib.hid S
  clear S ha hB hx
  replace hkx := Lib.hid hkx
  go_enter Tryd.func60, Tryd.ntmps60
  go_wp2
  clear hW r1 f1 r10 r11 r12
  go_loopw [5, 8] (fun _ i wr => ∃ k : Nat, k ≤ k0 ∧ i = .int .i64 k ∧ Drawn W wr) (fun _ i _ => l.length - (intOf i).toNat)
  case atStart => exact ⟨0, Nat.zero_le _, rfl, Drawn.refl _⟩
  case round =>
    obtain ⟨k, hk, rfl, hdr⟩ := hrel
    have T := Lib.hid (SW.out.call (hdr.below))
    obtain ⟨⟨r1, f1, r10, r11, r12, -⟩, -⟩ := T.out.facts
    have hkl : k < l.length := by omega
    obtain ⟨b, off, rfl, hb, hcl⟩ := haW.out (by omega)
    obtain ⟨c0, c1, c2⟩ := cf_cells (w := wr) (fun i hi => (hdr.cell _).trans (hcl k hkl i hi))
    have jk : (k : Int) < (l.length : Int) := by omega
    have hat : Hid (cfAt l k ≠ ⟨x0, x1, x2⟩ → k + 1 ≤ k0) := Lib.hid fun h => by
      have : k ≠ k0 := fun e => h (by rw [e]; exact hkx.out)
      omega
    obtain ⟨y, hy⟩ : ∃ y, cfAt l k = y := ⟨_, rfl⟩
    rw [hy] at c0 c1 c2 hat
    obtain ⟨y0, y1, y2⟩ := y
    dsimp only at c0 c1 c2
    have hE := fun w => eqCf x0 x1 x2 y0 y1 y2 w
    have hg := guardCf
    have hfin := Lib.hid (fun n => T.out.bel.drawn ((Drawn.refl wr).drewN n))
    replace hdr := Lib.hid hdr
    clear hcl
    cases he : decide ((⟨x0, x1, x2⟩ : Cf) = ⟨y0, y1, y2⟩) with
    | true =>
      rw [he] at hE
      replace he := Lib.hid he
      replace hy := Lib.hid hy
      go_wp2_with fail
      go_quiet (fail)
      go_wp2
      go_ret
      exact ⟨⟨k, rfl, by omega⟩, hfin.out _⟩
    | false =>
      have hn := hat.out (fun e => of_decide_eq_false he e.symm)
      rw [he] at hE
      replace he := Lib.hid he
      replace hy := Lib.hid hy
      go_wp2_with fail
      go_quiet (fail)
      go_wp2
      go_roundw
      case rel => exact ⟨k + 1, hn, by go_num, hdr.out.drewN _⟩
      case measure => simp [intOf]; omega
set_option maxRecDepth 100000 in
theorem contains_any (A : Option Addr) (c : Nat) (l : List Cf) (x : Cf) (w : World) (ha : ArrN w w.heap.size 3 A l.length (cfF l)) (hl : l.length ≤ 1000000) (hx : x ∈ l) :
    Calls Tryd.prog 30 #[.slice A l.length c, .agg #[.int .i64 x.table, .int .i64 x.writer, .int .i64 x.reader]] w fun e w' => e = .returned (.bool true) ∧ Below w.heap.size w w' := by
  obtain ⟨W, (hW : w.alloc (.cells #[.int .i64 x.table, .int .i64 x.writer, .int .i64 x.reader] 68) = W), S, hB⟩ := fm_boxE (Fm.init w) 68 [.int .i64 x.table, .int .i64 x.writer, .int .i64 x.reader]
  have HI := Lib.hid (index_any A c l x W ((ha.below hB).more hB.size) hl hx)
  obtain ⟨x0, x1, x2⟩ := x
  dsimp only at hW S HI ⊢
  obtain ⟨⟨r1, f1, r10, r11, r12, -⟩, -⟩ := S.facts
  have SW := Lib.hid S
  clear S ha hB hx
  go_enter Tryd.func30, Tryd.ntmps30
  go_wp2_with fail
  clear hW
  with_reducible refine HI.out.mono ?_
  rintro e' w1 ⟨⟨j, rfl, hj⟩, hb1⟩
  have S1 := Lib.hid (SW.out.call hb1)
  have h0 : (0 : Int) ≤ (j : Int) := by omega
  clear r1 f1 r10 r11 r12 hb1
  go_wp2
  go_ret
  exact ⟨rfl, S1.out.bel⟩
end Go.Proofs.YtfcimilimojfoaaDoor
