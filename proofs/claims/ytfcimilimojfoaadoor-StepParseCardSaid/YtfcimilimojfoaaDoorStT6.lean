/-
  CONTRACTS: the library's Itoa, Split at a space, Atoi at this dump.
  Conditions: those that each theorem names.
-/
import Derived.Test.YtfcimilimojfoaaDoorStT1
import Derived.Test.YtfcimilimojfoaaDoorTxtA
import Derived.Test.YtfcimilimojfoaaDoorShelfP
import Derived.Lib.LaidTab
import Derived.Lib.Split
import Derived.Lib.SplitLaws
import Derived.Sort.Grow
namespace Go.Sv
open Go.RowKit
theorem tabS_below {P : Program} {name : String} {k : IntKind} {zs : List Int} {w w' : World} (h : Lib.TabIs P w name k zs) (hb : Below w.heap.size w w') : Lib.TabIs P w' name k zs := by
  unfold Lib.TabIs World.var? at h ⊢
  cases hg : P.globalNamed name with
  | none => rw [hg] at h; cases h
  | some g =>
    rw [hg] at h
    simp only [Option.bind_some] at h ⊢
    have hlt : g < w.heap.size := by
      rcases Nat.lt_or_ge g w.heap.size with hlt | hge
      · exact hlt
      · rw [Array.getElem?_eq_none hge] at h; cases h
    rw [hb.block g hlt]
    exact h
theorem belowS_grow (w : World) (os : Array Obj) : Below w.heap.size w (Go.Sort.grow w os) :=
  ⟨rfl, rfl, rfl, by simp [Go.Sort.grow], fun k hk => by simp [Go.Sort.grow, Array.getElem?_append, hk]⟩
end Go.Sv
namespace Go.Lx
open Go
theorem splitB_spl (c : UInt8) (l : Bs) : Lib.splitB ⟨#[c]⟩ 0 (Lib.countB (bS l) ⟨#[c]⟩) (bS l) = (spl c l).map bS := by
  have h := Lib.splitB_data ⟨#[c]⟩ 0 (Lib.countB (bS l) ⟨#[c]⟩) (bS l)
  have e : Lib.splitK [c] 0 (Lib.countB (bS l) ⟨#[c]⟩) l = spl c l := split_spl c l
  have h2 : (Lib.splitB ⟨#[c]⟩ 0 (Lib.countB (bS l) ⟨#[c]⟩) (bS l)).map (·.data.toList) = spl c l := h.trans e
  rw [← h2, List.map_map]
  conv => lhs; rw [← List.map_id (Lib.splitB ⟨#[c]⟩ 0 (Lib.countB (bS l) ⟨#[c]⟩) (bS l))]
  apply List.map_congr_left
  intro x _
  exact bS_of x
theorem count_spl (c : UInt8) (l : Bs) : Lib.countB (bS l) ⟨#[c]⟩ + 1 = (spl c l).length := by
  have h := Lib.splitB_all ⟨#[c]⟩ (Nat.le_refl 1) 0 _ (bS l) rfl
  rw [splitB_spl, List.length_map] at h
  exact h.symm
end Go.Lx
namespace Go.Proofs.YtfcimilimojfoaaDoor
open Go.RowKit Go.Sv Go.Lx
theorem lt_of_cell {w : World} {p : Addr} {v : Value} (h : w.cell? p = some v) : p.block < w.heap.size := by
  rcases Nat.lt_or_ge p.block w.heap.size with c | c
  · exact c
  · simp [World.cell?, Array.getElem?_eq_none c] at h
/-- a variable of the library that holds an error -/
def ErrC (w : World) (g : Nat) : Prop := ∃ ev, w.cell? ⟨g, 0, none⟩ = some ev ∧ (ev = .nilIface ∨ ∃ te pe, ev = .iface te pe)
theorem ErrC.to {w w' : World} {g : Nat} (h : ErrC w g) (hb : Below w.heap.size w w') : ErrC w' g := by
  obtain ⟨ev, h1, h2⟩ := h
  exact ⟨ev, (hb.cell (p := ⟨g, 0, none⟩) (lt_of_cell h1)).trans h1, h2⟩
/-- the library's variable that the search reads holds some number -/
def MaxL (w : World) : Prop := ∃ m : Int, w.cell? ⟨3, 0, none⟩ = some (.int .i64 m)
theorem MaxL.to {w w' : World} (h : MaxL w) (hb : Below w.heap.size w w') : MaxL w' := by
  obtain ⟨m, hm⟩ := h
  exact ⟨m, (hb.cell (p := ⟨3, 0, none⟩) (lt_of_cell hm)).trans hm⟩
/-- the variables of the library that a step's text needs -/
structure Tb (w : World) : Prop where
  pow : Lib.TabIs Tryd.prog w "internal/strconv.uint64pow10" .u64 Lib.pow10Tab
  syn : ErrC w 0
  ran : ErrC w 1
  max : MaxL w
theorem Tb.to {w w' : World} (h : Tb w) (hb : Below w.heap.size w w') : Tb w' := ⟨tabS_below h.pow hb, h.syn.to hb, h.ran.to hb, h.max.to hb⟩
theorem itoaN (n : Nat) (h : n ≤ 9223372036854775807) (w : World) (ht : Tb w) : Calls Tryd.prog 64 #[.int .i64 (n : Int)] w fun e w' => e = .returned (.string (bS (Lib.decDigits n))) ∧ Below w.heap.size w w' :=
  (Tryd.strconv_Itoa n (by omega) (by omega) w ht.pow).mono fun e w' ⟨he, k, os, hw⟩ => ⟨by
    rw [he, itoa_pos (by omega), Int.toNat_natCast], by
    rw [hw]
    exact (Drawn.of k).below.trans ((belowS_grow (w.drewN k) os).mono (Nat.le_refl _))⟩
theorem split_any (l : Bs) (w : World) (hn : l.length ≤ 1000000) (ht : Tb w) :
    Calls Tryd.prog 66 #[.string (bS l), .string ⟨#[32]⟩] w fun e w' => e = .returned (.slice (some ⟨w.heap.size, 0, none⟩) (spl 32 l).length (spl 32 l).length) ∧ w' = w.alloc (.cells ((spl 32 l).map fun x => Value.string (bS x)).toArray 9) := by
  obtain ⟨m, hm⟩ := ht.max
  have hsz := bS_size l
  refine (Tryd.strings_Split (bS l) ⟨#[32]⟩ m w (by omega) hm (Nat.le_refl 1)).mono ?_
  rintro e w' ⟨he, hw⟩
  rw [splitB_spl, List.map_map] at hw
  rw [count_spl] at he
  exact ⟨he, hw⟩
theorem belowS_bytes (w : World) (t : ByteArray) : Below w.heap.size w (Lib.bytesWorld w 5 t) :=
  ⟨rfl, rfl, rfl, by rw [Lib.bytesWorld_size]; omega, fun k hk => Lib.bytesWorld_at_old w _ _ k hk⟩
def AtR (t : Bs) (w : World) (e : Ending) (w' : World) : Prop := ∃ er : Value, e = .returned (.tuple #[.int .i64 (atV t), er]) ∧ Below w.heap.size w w'
theorem atoi_any (t : Bs) (w : World) (ht : Tb w) (hn : t.length ≤ 1000000) : Calls Tryd.prog 67 #[.string (bS t)] w (AtR t w) := by
  have hsz := bS_size t
  unfold AtR atV
  cases hp : Lib.atoiAll t with
  | ok v =>
    refine (Tryd.strconv_Atoi_ok (bS t) (by omega) v hp w).mono ?_
    rintro e w' ⟨he, hw⟩
    refine ⟨_, he, ?_⟩
    rcases hw with rfl | ⟨u, rfl⟩
    · exact Below.refl _ _
    · exact belowS_bytes _ _
  | «syntax» =>
    obtain ⟨ev, h1, h2⟩ := ht.syn
    refine (Tryd.strconv_Atoi_syntax (bS t) (by omega) hp ev w h1 h2).mono ?_
    rintro e w' ⟨N, he, -, -, hb⟩
    exact ⟨_, he, hb⟩
  | range =>
    obtain ⟨ev, h1, h2⟩ := ht.ran
    refine (Tryd.strconv_Atoi_range (bS t) (by omega) hp ev w h1 h2).mono ?_
    rintro e w' ⟨N, he, -, -, hb⟩
    exact ⟨_, he, hb⟩
end Go.Proofs.YtfcimilimojfoaaDoor
