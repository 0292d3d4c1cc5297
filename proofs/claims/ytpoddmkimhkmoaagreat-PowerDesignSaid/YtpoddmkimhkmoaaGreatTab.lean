/-
  GENERAL: a listed table is kept by whatever leaves old blocks alone; one append to a row of the call's own in a region that draws its order.
  Conditions: none of its own.
-/
import Derived.Test.YtpoddmkimhkmoaaGreatSl
import Derived.Lib.LaidTab
import Derived.Deep.RegionHeld3
import Derived.Sort.Grow
namespace Go.Sv
open Go.RowKit

theorem var_below {P : Program} {name : String} {cs : Array Value} {w w' : World} (h : w.var? P name = some cs) (hb : Below w.heap.size w w') : w'.var? P name = some cs := by
  unfold World.var? at h ⊢
  cases hg : P.globalNamed name with
  | none => rw [hg] at h; cases h
  | some g =>
    rw [hg] at h
    simp only [Option.bind_some] at h ⊢
    have hlt : g < w.heap.size := by
      rcases Nat.lt_or_ge g w.heap.size with hlt | hge
      · exact hlt
      · rw [Array.getElem?_eq_none hge] at h; cases h
    rw [hb.block g hlt]
    exact h
theorem tab_below {P : Program} {name : String} {k : IntKind} {zs : List Int} {w w' : World} (h : Lib.TabIs P w name k zs) (hb : Below w.heap.size w w') : Lib.TabIs P w' name k zs := var_below h hb
theorem below_grow (w : World) (os : Array Obj) : Below w.heap.size w (Go.Sort.grow w os) :=
  ⟨rfl, rfl, rfl, by simp [Go.Sort.grow], fun k hk => by simp [Go.Sort.grow, Array.getElem?_append, hk]⟩

theorem own_to {w w' : World} {base size n : Nat} {e : TypeId} {v : Value} {xs : List Value} (h : w.ownsRow base e size v n xs) (hb : Below w.heap.size w w') : w'.ownsRow base e size v n xs :=
  h.kept (row := none) ⟨hb.os, hb.tape, hb.output, hb.size, fun k hk _ => hb.block k hk⟩ (by cases v.ownBlock <;> simp)
section
variable {P : Program} {t e : TypeId} {z : Value} {bytes : Nat} {w : World}
/-- one append of one element, in a region that draws its order -/
theorem step_own1 (E : ElemT P t e z 1 bytes) {ops : Array Oper} {o : Oper} {a : Act} {K : Act → World → Prop} {Q : Exit → Act → World → Prop} {X : Prop} (hgd : o.guard = none) (s x : Operand)
    (ho : o.op = .call { callee := .builtin .append, args := #[s, x], argTypes := #[t, t] }) (base : Nat) (v : Value) (n : Nat) (xs : List Value) (hown : w.ownsRow base e 1 v n xs) (hs : a.eval s = v)
    (B : Nat) (hx : a.eval x = .slice (some ⟨B, 0, none⟩) 1 1) (u : Value) (hc : w.cell? ⟨B, 0, none⟩ = some u) (hu : u.oneCell' = true) (hn : n ≤ 1000000) (hby : bytes ≤ 4096) (hbase : base ≤ w.heap.size)
    (h : ∀ v' w', w'.ownsRow base e 1 v' (n + 1) (xs ++ [u]) → w.grownBy w' v.ownBlock → Below base w w' → K (a.put o.dst v') w') :
    if Region.wanted o (yielded ops a.tmps) = true then Oper.wp P o a w K Q else X := by
  have hw : Region.wanted o (yielded ops a.tmps) = true := by simp [Region.wanted, hgd]
  rw [if_pos hw]
  obtain ⟨v', w', hr, h2, h3, h4⟩ := run_append_arr E w o.type base v n xs hown (some ⟨B, 0, none⟩) 1 1 [u] rfl (by simpa using hu) (fun h => by cases h) (fun ad had j y hy => by
    injection had with had
    subst had
    match j, hy with
    | 0, hy =>
      have : u = y := by simpa using hy
      subst this
      exact hc) (by omega) hby hbase
  unfold Oper.wp execOp
  simp only [ho, resolve, invoke, builtin, Sem.run_bind, Sem.run_pure, Result.andThen_ok, List.map_toArray, List.map_cons, List.map_nil, hs, hx, hr]
  exact h v' w' h2 h3 (own_below hown h3 hbase)
end
end Go.Sv
