/-
  CONTRACTS of sheavetop.problem46 and sheavetop.awake46.
  Conditions: those that each theorem names.
-/
import Derived.Test.YtickckehhfdoeaaTopM
namespace Go.Sv
open Go.RowKit
theorem al_sz {w : World} {o : Obj} {n : Nat} (h : w.heap.size = n) : (w.alloc o).heap.size = n + 1 := by rw [← h]; exact Array.size_push _
theorem arr2 {w : World} {B b : Nat} {x y : Value} {f : Nat → Value} (hb : b < B) (h0 : w.cell? ⟨b, 0, none⟩ = some x) (h1 : w.cell? ⟨b, 1, none⟩ = some y) (e0 : f 0 = x) (e1 : f 1 = y) : Arr w B (some ⟨b, 0, none⟩) 2 f := fun _ => by
  refine ⟨b, 0, rfl, hb, fun k hk => ?_⟩
  rcases k with _ | _ | k
  · rw [h0, e0]
  · rw [h1, e1]
  · omega
theorem arr6 {w : World} {B b : Nat} {f : Nat → Nat → Value} (hb : b < B) (h0 : w.cell? ⟨b, 0, none⟩ = some (f 0 0)) (h1 : w.cell? ⟨b, 1, none⟩ = some (f 0 1)) (h2 : w.cell? ⟨b, 2, none⟩ = some (f 0 2)) (h3 : w.cell? ⟨b, 3, none⟩ = some (f 0 3)) (h4 : w.cell? ⟨b, 4, none⟩ = some (f 0 4)) (h5 : w.cell? ⟨b, 5, none⟩ = some (f 0 5)) : ArrN w B 6 (some ⟨b, 0, none⟩) 1 f := fun _ => by
  refine ⟨b, 0, rfl, hb, fun k hk i hi => ?_⟩
  obtain rfl : k = 0 := by omega
  rcases i with _ | _ | _ | _ | _ | _ | i
  · exact h0
  · exact h1
  · exact h2
  · exact h3
  · exact h4
  · exact h5
  · omega
theorem results_cell {P : Program} {fn : Func} {t : Tmp} {ty : TypeId} (h : fn.results = #[.cell t ty]) (tmps : Array Value) (w : World) (a : Addr) (v : Value) (ha : tmps.getD t undef = .pointer (some a)) (hl : (loadVar ty a).run P w = .ok v w) : (results fn tmps).run P w = .ok v w := by
  simp only [results, h, List.mapM_toArray, List.mapM_cons, List.mapM_nil, ha]
  simp [asAddr, hl]
/-- the example's problem in memory -/
def P46 (w : World) (v : Value) (W : World) : Prop := Below w.heap.size w W ∧ ∃ q : ProbP, q.a1 ≠ none ∧ v = probV p46 q ∧ RProb W W.heap.size p46 q
theorem p46_mem {w W : World} {s : Nat} (S : Fm w W [⟨s + 1 + 1 + 1 + 1 + 1 + 1 + 1 + 1, 47, [.int .i64 1, .int .i64 0, .int .i64 1, .bool false, .slice (some ⟨s + 1 + 1 + 1, 0, none⟩) 2 2, .slice none 0 0]⟩, ⟨s + 1 + 1 + 1 + 1 + 1 + 1 + 1, 3, [.int .i64 1, .int .i64 1]⟩, ⟨s + 1 + 1 + 1 + 1 + 1 + 1, 3, [.int .i64 0, .int .i64 0]⟩, ⟨s + 1 + 1 + 1 + 1 + 1, 3, [.int .i64 2, .int .i64 2]⟩, ⟨s + 1 + 1 + 1 + 1, 47, [.int .i64 1, .int .i64 0, .int .i64 1, .bool false, .slice (some ⟨s + 1 + 1 + 1, 0, none⟩) 2 2, .slice none 0 0]⟩, ⟨s + 1 + 1 + 1, 48, [.slice (some ⟨s + 1, 0, none⟩) 2 2, .slice (some ⟨s + 1 + 1, 0, none⟩) 2 2]⟩, ⟨s + 1 + 1, 4, [.bool false, .bool true]⟩, ⟨s + 1, 4, [.bool true, .bool true]⟩, ⟨s, 39, [.slice (some ⟨s + 1 + 1 + 1 + 1 + 1, 0, none⟩) 2 2, .slice (some ⟨s + 1 + 1 + 1 + 1 + 1 + 1, 0, none⟩) 2 2, .slice (some ⟨s + 1 + 1 + 1 + 1 + 1 + 1 + 1, 0, none⟩) 2 2, .slice (some ⟨s + 1 + 1 + 1 + 1 + 1 + 1 + 1 + 1, 0, none⟩) 1 1]⟩] []) :
    P46 w (.agg #[.slice (some ⟨s + 1 + 1 + 1 + 1 + 1, 0, none⟩) 2 2, .slice (some ⟨s + 1 + 1 + 1 + 1 + 1 + 1, 0, none⟩) 2 2, .slice (some ⟨s + 1 + 1 + 1 + 1 + 1 + 1 + 1, 0, none⟩) 2 2, .slice (some ⟨s + 1 + 1 + 1 + 1 + 1 + 1 + 1 + 1, 0, none⟩) 1 1]) W := by
  refine ⟨S.bel, ⟨some ⟨s + 1 + 1 + 1 + 1 + 1, 0, none⟩, 2, some ⟨s + 1 + 1 + 1 + 1 + 1 + 1, 0, none⟩, 2, some ⟨s + 1 + 1 + 1 + 1 + 1 + 1 + 1, 0, none⟩, 2, some ⟨s + 1 + 1 + 1 + 1 + 1 + 1 + 1 + 1, 0, none⟩, 1⟩, (fun h => by cases h), rfl, ?_⟩
  obtain ⟨⟨l8, -, t0, t1, t2, t3, t4, t5, -⟩, ⟨l7, -, n0, n1, -⟩, ⟨l6, -, o0, o1, -⟩, ⟨l5, -, v0, v1, -⟩, -, ⟨l3, -, m0, m1, -⟩, ⟨l2, -, b0, b1, -⟩, ⟨l1, -, a0, a1, -⟩, -⟩ := S.facts
  refine ⟨arr2 l5 v0 v1 rfl rfl, arr2 l6 o0 o1 rfl rfl, arr2 l7 n0 n1 rfl rfl, ?_⟩
  refine ⟨fun _ => ⟨some ⟨s + 1 + 1 + 1, 0, none⟩, 2, none, 0⟩, arr6 l8 t0 t1 t2 t3 t4 t5, fun k hk => ?_⟩
  obtain rfl : k = 0 := by have : k < 1 := hk; omega
  refine ⟨⟨fun i => if i = 0 then (some ⟨s + 1, 0, none⟩, 2) else (some ⟨s + 1 + 1, 0, none⟩, 2), arr2 l3 m0 m1 rfl rfl, fun i hi => ?_⟩, ⟨fun _ => (none, 0), fun h => absurd h (by decide), fun i hi => absurd hi (Nat.not_lt_zero i)⟩⟩
  rcases i with _ | _ | i
  · exact arr2 l1 a0 a1 rfl rfl
  · exact arr2 l2 b0 b1 rfl rfl
  · have : i + 1 + 1 < 2 := hi
    omega
theorem p46_bd : PBd p46 := ⟨by decide, by decide, by decide, by decide, fun k hk => by
  obtain rfl : k = 0 := by have : k < 1 := hk; omega
  exact ⟨by decide, by decide⟩⟩
end Go.Sv
namespace Go.Proofs.Ytickckehhfdoeaa
open Go.RowKit Go.Sv
set_option maxHeartbeats 2000000 in
set_option maxRecDepth 100000 in
theorem p46_any (w : World) : Calls Try.prog 21 #[] w (Ret (P46 w)) := by
  obtain ⟨s, hs⟩ : ∃ s, w.heap.size = s := ⟨_, rfl⟩
  have S0 := (Fm.init w).box' 39 [.slice (some ⟨s + 1 + 1 + 1 + 1 + 1, 0, none⟩) 2 2, .slice (some ⟨s + 1 + 1 + 1 + 1 + 1 + 1, 0, none⟩) 2 2, .slice (some ⟨s + 1 + 1 + 1 + 1 + 1 + 1 + 1, 0, none⟩) 2 2, .slice (some ⟨s + 1 + 1 + 1 + 1 + 1 + 1 + 1 + 1, 0, none⟩) 1 1] hs
  have S1 := S0.box' 4 [.bool true, .bool true] (al_sz hs)
  have S2 := S1.box' 4 [.bool false, .bool true] (al_sz (al_sz hs))
  have S3 := S2.box' 48 [.slice (some ⟨s + 1, 0, none⟩) 2 2, .slice (some ⟨s + 1 + 1, 0, none⟩) 2 2] (al_sz (al_sz (al_sz hs)))
  have S4 := S3.box' 47 [.int .i64 1, .int .i64 0, .int .i64 1, .bool false, .slice (some ⟨s + 1 + 1 + 1, 0, none⟩) 2 2, .slice none 0 0] (al_sz (al_sz (al_sz (al_sz hs))))
  have S5 := S4.box' 3 [.int .i64 2, .int .i64 2] (al_sz (al_sz (al_sz (al_sz (al_sz hs)))))
  have S6 := S5.box' 3 [.int .i64 0, .int .i64 0] (al_sz (al_sz (al_sz (al_sz (al_sz (al_sz hs))))))
  have S7 := S6.box' 3 [.int .i64 1, .int .i64 1] (al_sz (al_sz (al_sz (al_sz (al_sz (al_sz (al_sz hs)))))))
  have S8 := S7.box' 47 [.int .i64 1, .int .i64 0, .int .i64 1, .bool false, .slice (some ⟨s + 1 + 1 + 1, 0, none⟩) 2 2, .slice none 0 0] (al_sz (al_sz (al_sz (al_sz (al_sz (al_sz (al_sz (al_sz hs))))))))
  clear S0 S1 S2 S3 S4 S5 S6 S7
  have H := p46_mem S8
  have HC : _ ∧ _ := ⟨S8.facts.2.2.2.2.2.2.2.2.1, trivial⟩
  replace H := Lib.hid H
  replace HC := Lib.hid HC
  clear S8
  subst hs
  go_enter Try.func21, Try.ntmps21
  go_wp2
  obtain ⟨⟨-, -, k0, k1, k2, k3, -⟩, -⟩ := HC.out
  refine bodyPost_ret (results_cell rfl _ _ _ _ rfl (run_loadVar_mid _ w.heap.size 0 39 [.slice (some ⟨w.heap.size + 1 + 1 + 1 + 1 + 1, 0, none⟩) 2 2, .slice (some ⟨w.heap.size + 1 + 1 + 1 + 1 + 1 + 1, 0, none⟩) 2 2, .slice (some ⟨w.heap.size + 1 + 1 + 1 + 1 + 1 + 1 + 1, 0, none⟩) 2 2, .slice (some ⟨w.heap.size + 1 + 1 + 1 + 1 + 1 + 1 + 1 + 1, 0, none⟩) 1 1] ((Try.prog.underlying 39).getD (.array 0 0)) ?_ (by kernel_rfl) (by kernel_rfl) (by kernel_rfl))) rfl ?_
  · intro j v hj
    rcases j with _ | _ | _ | _ | j
    · cases hj; exact k0
    · cases hj; exact k1
    · cases hj; exact k2
    · cases hj; exact k3
    · cases hj
  · exact Ret.mk H.out
end Go.Proofs.Ytickckehhfdoeaa
