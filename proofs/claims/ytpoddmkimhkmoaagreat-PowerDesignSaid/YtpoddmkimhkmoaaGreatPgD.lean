/-
  CONTRACT of few of a Goal.
  Conditions: the arguments are as they come in.
-/
import Derived.Test.YtpoddmkimhkmoaaGreatPgC
import Derived.Test.YtpoddmkimhkmoaaGreatPwY
namespace Go.Proofs.YtpoddmkimhkmoaaGreat
open Go.RowKit Go.Sv Go.Pw
set_option maxHeartbeats 8000000 in
set_option maxRecDepth 100000 in
theorem gfew_any (n0 m0 n1 m1 n2 m2 n3 m3 : List Int) (q0 r0 q1 r1 q2 r2 q3 r3 : LmP) (w : World) (u0 : n0.length ≤ 9223372036854775807) (v0 : m0.length ≤ 9223372036854775807) (u1 : n1.length ≤ 9223372036854775807) (v1 : m1.length ≤ 9223372036854775807) (u2 : n2.length ≤ 9223372036854775807) (v2 : m2.length ≤ 9223372036854775807) (u3 : n3.length ≤ 9223372036854775807) (v3 : m3.length ≤ 9223372036854775807) :
    Calls Tryz.prog 6 #[.agg #[.slice q0.a n0.length q0.c, .slice r0.a m0.length r0.c, .slice q1.a n1.length q1.c, .slice r1.a m1.length r1.c, .slice q2.a n2.length q2.c, .slice r2.a m2.length r2.c, .slice q3.a n3.length q3.c, .slice r3.a m3.length r3.c]] w (fun e w' => e = .returned (.bool (decide (n0.length ≤ 2 ∧ m0.length ≤ 2) && decide (n1.length ≤ 2 ∧ m1.length ≤ 2) && decide (n2.length ≤ 2 ∧ m2.length ≤ 2) && decide (n3.length ≤ 2 ∧ m3.length ≤ 2))) ∧ Below w.heap.size w w') := by
  have S := Lib.hid (Fm.init w)
  have H0 := Lib.hid (fun q r w' => few_any w' n0 m0 q r u0 v0)
  have H1 := Lib.hid (fun q r w' => few_any w' n1 m1 q r u1 v1)
  have H2 := Lib.hid (fun q r w' => few_any w' n2 m2 q r u2 v2)
  have H3 := Lib.hid (fun q r w' => few_any w' n3 m3 q r u3 v3)
  generalize decide (n0.length ≤ 2 ∧ m0.length ≤ 2) = b0 at *
  generalize decide (n1.length ≤ 2 ∧ m1.length ≤ 2) = b1 at *
  generalize decide (n2.length ≤ 2 ∧ m2.length ≤ 2) = b2 at *
  generalize decide (n3.length ≤ 2 ∧ m3.length ≤ 2) = b3 at *
  clear u0 v0 u1 v1 u2 v2 u3 v3
  replace S := Lib.hid (S.out.box 28 [.slice q0.a n0.length q0.c, .slice r0.a m0.length r0.c, .slice q1.a n1.length q1.c, .slice r1.a m1.length r1.c, .slice q2.a n2.length q2.c, .slice r2.a m2.length r2.c, .slice q3.a n3.length q3.c, .slice r3.a m3.length r3.c])
  obtain ⟨⟨z0, f0, y0, y0a, y0b, y0c, y0d, y0e, y0f, y0g, -⟩, -⟩ := S.out.facts
  clear z0 f0 y0 y0a y0b y0c y0d y0e y0f y0g
  cases b0 with
  | false =>
    obtain ⟨⟨z0, f0, y0, y0a, y0b, y0c, y0d, y0e, y0f, y0g, -⟩, -⟩ := S.out.facts
    go_enter Tryz.func6, Tryz.ntmps6
    go_wp2_with fail
    refine (H0.out q0 r0 _).mono ?_
    rintro e w1 ⟨rfl, hb⟩
    replace S := Lib.hid (S.out.call hb)
    clear hb
    clear z0 f0 y0 y0a y0b y0c y0d y0e y0f y0g
    obtain ⟨⟨z0, f0, y0, y0a, y0b, y0c, y0d, y0e, y0f, y0g, -⟩, -⟩ := S.out.facts
    go_wp2
    go_ret
    exact ⟨rfl, S.out.bel⟩
  | true =>
    cases b1 with
    | false =>
      obtain ⟨⟨z0, f0, y0, y0a, y0b, y0c, y0d, y0e, y0f, y0g, -⟩, -⟩ := S.out.facts
      go_enter Tryz.func6, Tryz.ntmps6
      go_wp2_with fail
      refine (H0.out q0 r0 _).mono ?_
      rintro e w1 ⟨rfl, hb⟩
      replace S := Lib.hid (S.out.call hb)
      clear hb
      clear z0 f0 y0 y0a y0b y0c y0d y0e y0f y0g
      obtain ⟨⟨z0, f0, y0, y0a, y0b, y0c, y0d, y0e, y0f, y0g, -⟩, -⟩ := S.out.facts
      go_wp2_with fail
      refine (H1.out q1 r1 _).mono ?_
      rintro e w2 ⟨rfl, hb⟩
      replace S := Lib.hid (S.out.call hb)
      clear hb
      clear z0 f0 y0 y0a y0b y0c y0d y0e y0f y0g
      obtain ⟨⟨z0, f0, y0, y0a, y0b, y0c, y0d, y0e, y0f, y0g, -⟩, -⟩ := S.out.facts
      go_wp2
      go_ret
      exact ⟨rfl, S.out.bel⟩
    | true =>
      cases b2 with
      | false =>
        obtain ⟨⟨z0, f0, y0, y0a, y0b, y0c, y0d, y0e, y0f, y0g, -⟩, -⟩ := S.out.facts
        go_enter Tryz.func6, Tryz.ntmps6
        go_wp2_with fail
        refine (H0.out q0 r0 _).mono ?_
        rintro e w1 ⟨rfl, hb⟩
        replace S := Lib.hid (S.out.call hb)
        clear hb
        clear z0 f0 y0 y0a y0b y0c y0d y0e y0f y0g
        obtain ⟨⟨z0, f0, y0, y0a, y0b, y0c, y0d, y0e, y0f, y0g, -⟩, -⟩ := S.out.facts
        go_wp2_with fail
        refine (H1.out q1 r1 _).mono ?_
        rintro e w2 ⟨rfl, hb⟩
        replace S := Lib.hid (S.out.call hb)
        clear hb
        clear z0 f0 y0 y0a y0b y0c y0d y0e y0f y0g
        obtain ⟨⟨z0, f0, y0, y0a, y0b, y0c, y0d, y0e, y0f, y0g, -⟩, -⟩ := S.out.facts
        go_wp2_with fail
        refine (H2.out q2 r2 _).mono ?_
        rintro e w3 ⟨rfl, hb⟩
        replace S := Lib.hid (S.out.call hb)
        clear hb
        clear z0 f0 y0 y0a y0b y0c y0d y0e y0f y0g
        obtain ⟨⟨z0, f0, y0, y0a, y0b, y0c, y0d, y0e, y0f, y0g, -⟩, -⟩ := S.out.facts
        go_wp2
        go_ret
        exact ⟨rfl, S.out.bel⟩
      | true =>
        cases b3 with
        | false =>
          obtain ⟨⟨z0, f0, y0, y0a, y0b, y0c, y0d, y0e, y0f, y0g, -⟩, -⟩ := S.out.facts
          go_enter Tryz.func6, Tryz.ntmps6
          go_wp2_with fail
          refine (H0.out q0 r0 _).mono ?_
          rintro e w1 ⟨rfl, hb⟩
          replace S := Lib.hid (S.out.call hb)
          clear hb
          clear z0 f0 y0 y0a y0b y0c y0d y0e y0f y0g
          obtain ⟨⟨z0, f0, y0, y0a, y0b, y0c, y0d, y0e, y0f, y0g, -⟩, -⟩ := S.out.facts
          go_wp2_with fail
          refine (H1.out q1 r1 _).mono ?_
          rintro e w2 ⟨rfl, hb⟩
          replace S := Lib.hid (S.out.call hb)
          clear hb
          clear z0 f0 y0 y0a y0b y0c y0d y0e y0f y0g
          obtain ⟨⟨z0, f0, y0, y0a, y0b, y0c, y0d, y0e, y0f, y0g, -⟩, -⟩ := S.out.facts
          go_wp2_with fail
          refine (H2.out q2 r2 _).mono ?_
          rintro e w3 ⟨rfl, hb⟩
          replace S := Lib.hid (S.out.call hb)
          clear hb
          clear z0 f0 y0 y0a y0b y0c y0d y0e y0f y0g
          obtain ⟨⟨z0, f0, y0, y0a, y0b, y0c, y0d, y0e, y0f, y0g, -⟩, -⟩ := S.out.facts
          go_wp2_with fail
          refine (H3.out q3 r3 _).mono ?_
          rintro e w4 ⟨rfl, hb⟩
          replace S := Lib.hid (S.out.call hb)
          clear hb
          clear z0 f0 y0 y0a y0b y0c y0d y0e y0f y0g
          obtain ⟨⟨z0, f0, y0, y0a, y0b, y0c, y0d, y0e, y0f, y0g, -⟩, -⟩ := S.out.facts
          go_wp2
          go_ret
          exact ⟨rfl, S.out.bel⟩
        | true =>
          obtain ⟨⟨z0, f0, y0, y0a, y0b, y0c, y0d, y0e, y0f, y0g, -⟩, -⟩ := S.out.facts
          go_enter Tryz.func6, Tryz.ntmps6
          go_wp2_with fail
          refine (H0.out q0 r0 _).mono ?_
          rintro e w1 ⟨rfl, hb⟩
          replace S := Lib.hid (S.out.call hb)
          clear hb
          clear z0 f0 y0 y0a y0b y0c y0d y0e y0f y0g
          obtain ⟨⟨z0, f0, y0, y0a, y0b, y0c, y0d, y0e, y0f, y0g, -⟩, -⟩ := S.out.facts
          go_wp2_with fail
          refine (H1.out q1 r1 _).mono ?_
          rintro e w2 ⟨rfl, hb⟩
          replace S := Lib.hid (S.out.call hb)
          clear hb
          clear z0 f0 y0 y0a y0b y0c y0d y0e y0f y0g
          obtain ⟨⟨z0, f0, y0, y0a, y0b, y0c, y0d, y0e, y0f, y0g, -⟩, -⟩ := S.out.facts
          go_wp2_with fail
          refine (H2.out q2 r2 _).mono ?_
          rintro e w3 ⟨rfl, hb⟩
          replace S := Lib.hid (S.out.call hb)
          clear hb
          clear z0 f0 y0 y0a y0b y0c y0d y0e y0f y0g
          obtain ⟨⟨z0, f0, y0, y0a, y0b, y0c, y0d, y0e, y0f, y0g, -⟩, -⟩ := S.out.facts
          go_wp2_with fail
          refine (H3.out q3 r3 _).mono ?_
          rintro e w4 ⟨rfl, hb⟩
          replace S := Lib.hid (S.out.call hb)
          clear hb
          clear z0 f0 y0 y0a y0b y0c y0d y0e y0f y0g
          obtain ⟨⟨z0, f0, y0, y0a, y0b, y0c, y0d, y0e, y0f, y0g, -⟩, -⟩ := S.out.facts
          go_wp2
          go_ret
          exact ⟨rfl, S.out.bel⟩
/-- what Design leaves where a first one is known -/
theorem des_found {w w' : World} {ok : Nat → Nat → Bool} {mo : Nat} {v : Value} (h : DesR w ok mo v w') {n c : Nat} (l1 : 1 ≤ n) (l2 : n ≤ mo) (l3 : c ≤ n + 1) (o : ok n c = true) (hn : NoD ok n c) : TRes w (fixT n ((c : Int) - 1)) 0 v w' := by
  rcases h with ⟨n', c', k1, k2, k3, o', hn', hr⟩ | ⟨hn', _⟩
  · obtain ⟨rfl, rfl⟩ := hn'.uniq hn o' o k1 k3 l1 l3
    exact hr
  · rw [hn'.1 n c l1 (by omega) l3] at o
    cases o
theorem des_none {w w' : World} {ok : Nat → Nat → Bool} {mo : Nat} {v : Value} (h : DesR w ok mo v w') (hx : ¬ ∃ n c, 1 ≤ n ∧ n ≤ mo ∧ c ≤ n + 1 ∧ ok n c = true ∧ NoD ok n c) : TRes w tst0 4 v w' := by
  rcases h with ⟨n', c', k1, k2, k3, o', hn', hr⟩ | ⟨_, hr⟩
  · exact absurd ⟨n', c', k1, k2, k3, o', hn'⟩ hx
  · exact hr
end Go.Proofs.YtpoddmkimhkmoaaGreat
