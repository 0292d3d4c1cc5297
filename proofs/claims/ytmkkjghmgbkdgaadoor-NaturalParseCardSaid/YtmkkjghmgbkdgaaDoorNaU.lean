/-
  CONTRACT of the law NaturalPower.
  Conditions: those that each theorem names.
-/
import Derived.Test.YtmkkjghmgbkdgaaDoorNaT
namespace Go.Proofs.YtmkkjghmgbkdgaaDoor
open Go.RowKit Go.Sv
theorem few_fm {w W : World} {b c : Nat} {t : TypeId} {bs : List Bx} {rs : List Rd} (most : Int) (ns : List LQ) (S : Fm w W (⟨b, t, ns.map fun x => rowV x.1 x.2⟩ :: bs) rs) (hn : ns.length ≤ 100) :
    Calls Tryd.prog 20 #[.int .i64 most, .slice (some ⟨b, 0, none⟩) ns.length c] W fun e w' => e = .returned (.bool (ns.all fun x => decide ((x.1.length : Int) ≤ most))) ∧ Below W.heap.size W w' :=
  few_any most ns b c W S.bx.1.lt (fun k h => (S.bx.1.cell k).trans (by simp [h])) hn
set_option maxHeartbeats 2000000 in
set_option maxRecDepth 100000 in
theorem law_power_few (w : World) (n : Int) (hn : n ≤ 9223372036854775807) (a : List Int) (qa : LmP) (ha : RLm w w.heap.size a qa) (la : Lim a) (ht : Tab w) (hF : ([(a, qa)] : List LQ).all (fun x => decide ((x.1.length : Int) ≤ 130)) = false) :
    Calls Tryd.prog 5 #[natV a qa, .int .i64 n] w fun e w' => e = .returned (.bool true) ∧ Below w.heap.size w w' := by
  have ht' := Lib.hid (fun w' (hb : Below w.heap.size w w') => ht.to hb)
  have HAw := Lib.hid (fun w' (h : Below w.heap.size w w') => awake_any w' (ht'.out _ h))
  have S := Lib.hid (natArg (Fm.init w) ha)
  have HFew : Hid (∀ W kb kc kt bs rs, Fm w W (⟨kb, kt, [.slice qa.a a.length qa.c]⟩ :: bs) rs → Calls Tryd.prog 20 #[.int .i64 130, .slice (some ⟨kb, 0, none⟩) 1 kc] W fun e w' => e = .returned (.bool false) ∧ Below W.heap.size W w') := Lib.hid fun W kb kc kt bs rs S => by
    have := few_fm (c := kc) 130 [(a, qa)] S (by simp)
    rw [hF] at this
    exact this
  obtain ⟨qaa, qac⟩ := qa
  dsimp only at S HFew
  replace S := Lib.hid (S.out.box 26 [.slice qaa a.length qac])
  clear ha ht
  go_enter Tryd.func5, Tryd.ntmps5
  go_wp2_with fail
  refine (HAw.out _ S.out.bel).mono ?_
  rintro e w1 ⟨rfl, hb⟩
  replace S := Lib.hid (S.out.call hb)
  clear hb
  obtain ⟨⟨z0, f0, y0, -⟩, -⟩ := S.out.facts
  replace S := Lib.hid (S.out.box 26 [.slice qaa a.length qac])
  go_wp2_with fail
  refine (HFew.out _ _ _ _ _ _ S.out).mono ?_
  rintro e w2 ⟨rfl, hb⟩
  replace S := Lib.hid (S.out.call hb)
  clear hb z0 f0 y0
  obtain ⟨⟨z1, f1, y1, -⟩, ⟨z0, f0, y0, -⟩, -⟩ := S.out.facts
  go_wp2_with fail
  refine (HAw.out _ S.out.bel).mono ?_
  rintro e w3 ⟨rfl, hb⟩
  replace S := Lib.hid (S.out.call hb)
  clear hb z0 f0 y0 z1 f1 y1
  obtain ⟨⟨z1, f1, y1, -⟩, ⟨z0, f0, y0, -⟩, -⟩ := S.out.facts
  go_wp2
  go_ret
  exact ⟨rfl, S.out.bel⟩
set_option maxHeartbeats 2000000 in
set_option maxRecDepth 100000 in
theorem law_power_go (w : World) (n : Int) (hn : n ≤ 9223372036854775807) (a : List Int) (qa : LmP) (ha : RLm w w.heap.size a qa) (la : Lim a) (ht : Tab w) (hF : ([(a, qa)] : List LQ).all (fun x => decide ((x.1.length : Int) ≤ 130)) = true) :
    Calls Tryd.prog 5 #[natV a qa, .int .i64 n] w fun e w' => e = .returned (.bool true) ∧ Below w.heap.size w w' := by
  have ht' := Lib.hid (fun w' (hb : Below w.heap.size w w') => ht.to hb)
  have HAw := Lib.hid (fun w' (h : Below w.heap.size w w') => awake_any w' (ht'.out _ h))
  have S := Lib.hid (natArg (Fm.init w) ha)
  have HP := Lib.hid (fun q w' (h1 : RLm w' w'.heap.size a q) => pow_any a q n w' h1 la)
  have HQ := Lib.hid (fun q w' (h1 : RLm w' w'.heap.size a q) => rpow_any a q n w' h1 la hn)
  obtain ⟨V, hV⟩ : ∃ V, powV a n = V := ⟨_, rfl⟩
  obtain ⟨E, hE⟩ : ∃ E, powE a n = E := ⟨_, rfl⟩
  rw [hV, hE] at HP HQ
  clear hV hE
  have HS := Lib.hid (fun q r w' (h1 : RLm w' w'.heap.size V q) (h2 : RLm w' w'.heap.size V r) => by
    have := same_any V V q r w' h1 h2
    rw [decide_eq_true rfl] at this
    exact this)
  have HFew : Hid (∀ W kb kc kt bs rs, Fm w W (⟨kb, kt, [.slice qa.a a.length qa.c]⟩ :: bs) rs → Calls Tryd.prog 20 #[.int .i64 130, .slice (some ⟨kb, 0, none⟩) 1 kc] W fun e w' => e = .returned (.bool true) ∧ Below W.heap.size W w') := Lib.hid fun W kb kc kt bs rs S => by
    have := few_fm (c := kc) 130 [(a, qa)] S (by simp)
    rw [hF] at this
    exact this
  obtain ⟨qaa, qac⟩ := qa
  dsimp only at S HFew
  replace S := Lib.hid (S.out.box 26 [.slice qaa a.length qac])
  clear ha ht
  go_enter Tryd.func5, Tryd.ntmps5
  go_wp2_with fail
  refine (HAw.out _ S.out.bel).mono ?_
  rintro e w1 ⟨rfl, hb⟩
  replace S := Lib.hid (S.out.call hb)
  clear hb
  obtain ⟨⟨z0, f0, y0, -⟩, -⟩ := S.out.facts
  replace S := Lib.hid (S.out.box 26 [.slice qaa a.length qac])
  go_wp2_with fail
  refine (HFew.out _ _ _ _ _ _ S.out).mono ?_
  rintro e w2 ⟨rfl, hb⟩
  replace S := Lib.hid (S.out.call hb)
  clear hb z0 f0 y0
  obtain ⟨⟨z1, f1, y1, -⟩, ⟨z0, f0, y0, -⟩, -⟩ := S.out.facts
  replace S := Lib.hid (S.out.drop _ _ (List.sublist_cons_self _ _) (List.Sublist.refl _))
  go_wp2_with fail
  refine (HP.out _ _ S.out.r0).mono ?_
  rintro e w3 ⟨_, rfl, q1, rfl, hr, hb⟩
  replace S := Lib.hid (natOf S.out hr hb (by simp))
  clear hr hb z0 f0 y0 z1 f1 y1
  obtain ⟨⟨z0, f0, y0, -⟩, -⟩ := S.out.facts
  replace S := Lib.hid (S.out.box 26 [.slice q1.a (V).length q1.c])
  go_wp2_with fail
  refine (HQ.out _ _ S.out.r1).mono ?_
  rintro e w4 ⟨_, rfl, q2, rfl, hr, hb⟩
  replace S := Lib.hid (natOf S.out hr hb (by simp))
  clear hr hb z0 f0 y0
  obtain ⟨⟨z1, f1, y1, -⟩, ⟨z0, f0, y0, -⟩, -⟩ := S.out.facts
  replace S := Lib.hid (S.out.box 26 [.slice q2.a (V).length q2.c])
  go_wp2_with fail
  refine (HS.out _ _ _ S.out.r1 S.out.r0).mono ?_
  rintro e w5 ⟨rfl, hb⟩
  replace S := Lib.hid (S.out.call hb)
  clear hb z0 f0 y0 z1 f1 y1
  obtain ⟨⟨z2, f2, y2, -⟩, ⟨z1, f1, y1, -⟩, ⟨z0, f0, y0, -⟩, -⟩ := S.out.facts
  go_wp2
  go_ret
  exact ⟨rfl, S.out.bel⟩
set_option maxHeartbeats 2000000 in
set_option maxRecDepth 100000 in
theorem law_power (w : World) (n : Int) (hn : n ≤ 9223372036854775807) (a : List Int) (qa : LmP) (ha : RLm w w.heap.size a qa) (la : Lim a) (ht : Tab w) :
    Calls Tryd.prog 5 #[natV a qa, .int .i64 n] w fun e w' => e = .returned (.bool true) ∧ Below w.heap.size w w' := by
  cases hF : ([(a, qa)] : List LQ).all (fun x => decide ((x.1.length : Int) ≤ 130)) with
  | false => exact law_power_few w n hn a qa ha la ht hF
  | true => exact law_power_go w n hn a qa ha la ht hF
end Go.Proofs.YtmkkjghmgbkdgaaDoor
