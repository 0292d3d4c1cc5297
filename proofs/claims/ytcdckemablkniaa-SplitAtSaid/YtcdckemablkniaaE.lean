/-
  CONTRACT of slices.Clone at a slice of stages: the copy reads as the original.
  Conditions: those that each theorem names.
-/
import Derived.Test.YtcdckemablkniaaD
import Derived.Test.YtcdckemablkniaaSl
import Derived.WalkSpells
namespace Go.Proofs.Ytcdckemablkniaa
open Go.RowKit Go.Sv

theorem elStage : ElemT Try.prog 32 34 (.agg #[.int .i64 0, .int .i64 0, .int .i64 0]) 3 24 := ⟨Try.underlying32, by kernel_rfl, by kernel_rfl, by omega⟩
theorem elInt : ElemT Try.prog 36 2 (.int .i64 0) 1 8 := ⟨Try.underlying36, by kernel_rfl, by kernel_rfl, by omega⟩

theorem clone_any (A : Option Addr) (n c : Nat) (f : Nat → Nat → Value) (hf : ∀ k i, (f k i).oneCell' = true) (w : World) (ha : ArrN w w.heap.size 3 A n f) (hA : A = none → n = 0 ∧ c = 0) (hn : n ≤ 1000000) :
    Calls Try.prog 22 #[.slice A n c] w (Ret (RArrN w 3 n f)) := by
  have hnil := fun w => Lib.run_eql_slice_nil (P := Try.prog) w 32 34 A n c 0 0 Try.underlying32
  cases A with
  | none =>
    obtain ⟨rfl, rfl⟩ := hA rfl
    go_enter Try.func22, Try.ntmps22
    go_wp2
    go_ret
    exact Ret.mk ⟨none, 0, rfl, fun _ => ⟨rfl, rfl⟩, fun h => by omega, Below.refl _ _⟩
  | some ad =>
    have hfr : ∀ u ∈ rowN 3 n f, u.oneCell' = true := fun u hu => by
      obtain ⟨j, _, rfl⟩ := List.mem_map.1 hu
      exact hf _ _
    have HF := Lib.hid hfr
    clear hf hfr hA
    have ha := Lib.hid ha
    go_enter Try.func22, Try.ntmps22
    go_wp2_with (at_builtin; refine append_arr elStage rfl _ _ rfl w.heap.size _ 0 [] (World.ownsRow_made _ _ 0 (Nat.le_refl _) (Nat.zero_le _) rfl) rfl _ _ _ (rowN 3 n f) rfl (rowN_length ..) HF.out ?c1 ?c2 (by omega) (by omega) (by simp) ?_)
    case c1 => intro h; cases h
    case c2 => exact arrN_cells (by omega) (ha.out.below ((Below.refl _ _).alloc (Nat.le_refl _) _))
    intro v' w' hown hg hb hor
    have hb2 : Below w.heap.size w w' := ((Below.refl _ _).alloc (Nat.le_refl _) _).trans hb
    try simp only [List.nil_append, Nat.zero_add] at hown
    have hR := Lib.hid (own_RArrN hown (fun k hk i hi => rowN_get hk hi) hb2)
    clear hown hg hb hor hb2
    go_wp2
    go_ret
    exact Ret.mk hR.out
end Go.Proofs.Ytcdckemablkniaa
