/-
  CONTRACT of sheaveref37.Parse.
  Conditions: those that each theorem names.
-/
import Derived.Test.YtfcimilimojfoaaDoorStT3
import Derived.Test.YtfcimilimojfoaaDoorStT4
import Derived.Test.YtfcimilimojfoaaDoorSb6
namespace Go.Proofs.YtfcimilimojfoaaDoor
open Go.RowKit Go.Sv Go.Lx
def sR (l : List Bs) : List Value := l.map fun x => Value.string (bS x)
theorem sR_snoc (l : List Bs) (x : Bs) : sR (l ++ [x]) = sR l ++ [.string (bS x)] := by simp [sR]
theorem elStr : ElemT Tryd.prog 107 9 (.string ⟨#[]⟩) 1 16 := ⟨Tryd.underlying107, by kernel_rfl, rfl, by decide⟩
/-- rows of words that the call owns -/
def WS (W wr : World) (ws : List Bs) (v : Value) : Prop := wr.ownsRow W.heap.size 9 1 v ws.length (sR ws)
theorem ws_next {W wr : World} {ws : List Bs} {x : Bs} {v : Value} (h : wr.ownsRow W.heap.size 9 1 v (ws.length + 1) (sR ws ++ [.string (bS x)])) : WS W wr (ws ++ [x]) v := by
  show World.ownsRow _ _ _ _ _ (ws ++ [x]).length _
  rw [List.length_append, sR_snoc]
  exact h
def ParR (w : World) (o : Option Sp) (v : Value) (w' : World) : Prop := Below w.heap.size w w' ∧ v = .tuple #[stepV (o.getD ⟨0, 0, 0⟩), .int .i64 (if o.isSome then 0 else 2)]
/-- the loop's state: the words so far, or all of them -/
def WSt (l : Bs) (ws : List Bs) (b i : Nat) : Prop := Cut l ws b i ∨ (i = l.length + 1 ∧ b ≤ i ∧ ws = spl 32 l)
theorem par_0 {l w0 w1 : Bs} {rest : List Bs} (h : spl 32 l = w0 :: w1 :: rest) (k : kw w0 = 0) : parR l = none := by
  unfold parR
  split
  · rename_i a b c e
    rw [h] at e
    injection e with e1 e2
    rw [← e1, if_pos k]
  · rfl
theorem par_k {l w0 w1 : Bs} {rest : List Bs} {k : Int} (h : spl 32 l = w0 :: w1 :: rest) (hk : kw w0 = k) (k0 : k ≠ 0) (k1 : k ≠ 1) : parR l = if rest = [] then (numR w1).map (fun i => ⟨k, (i : Nat), 0⟩) else none := by
  unfold parR
  split
  · rename_i a b c e
    rw [h] at e
    injection e with e1 e2
    injection e2 with e2 e3
    subst e1 e2 e3
    rw [hk, if_neg k0, if_neg k1]
    cases rest with
    | nil => rw [if_pos rfl]; cases numR w1 <;> rfl
    | cons x y => rw [if_neg (by simp)]
  · rename_i hno
    exact absurd h (hno _ _ _)
def parA (w1 : Bs) : List Bs → Option Sp
  | [b] => (match numR w1, numR b with | some i, some v => some ⟨1, (i : Nat), (v : Nat)⟩ | _, _ => none)
  | _ => none
theorem par_1 {l w0 w1 : Bs} {rest : List Bs} (h : spl 32 l = w0 :: w1 :: rest) (hk : kw w0 = 1) : parR l = parA w1 rest := by
  unfold parR
  split
  · rename_i a b c e
    rw [h] at e
    injection e with e1 e2
    injection e2 with e2 e3
    subst e1 e2 e3
    rw [hk, if_neg (by decide), if_pos rfl]
    match rest with
    | [] => rfl
    | [_] => rfl
    | _ :: _ :: _ => rfl
  · rename_i hno
    exact absurd h (hno _ _ _)
theorem spl_mem {c : UInt8} : ∀ {s w : Bs}, w ∈ spl c s → w.length ≤ s.length
  | [], w, h => by
    have : w = [] := by simpa [spl] using h
    subst this
    exact Nat.le_refl _
  | b :: r, w, h => by
    rw [spl] at h
    split at h
    · rcases List.mem_cons.1 h with e | e
      · subst e; simp
      · have := spl_mem e; simp; omega
    · split at h
      · have : w = [b] := by simpa using h
        subst this; simp
      · rename_i v vs hv
        rcases List.mem_cons.1 h with e | e
        · subst e
          have := spl_mem (s := r) (w := v) (by rw [hv]; exact List.mem_cons_self ..)
          simp; omega
        · have := spl_mem (s := r) (w := w) (by rw [hv]; exact List.mem_cons_of_mem _ e)
          simp; omega
set_option maxHeartbeats 8000000 in
set_option maxRecDepth 100000 in
theorem rparse_any (l : Bs) (hl : l.length ≤ 100) (w : World) : Calls Tryd.prog 39 #[.string (bS l)] w (Ret (ParR w (parR l))) := by
  have hsz : (bS l).size = l.length := bS_size l
  obtain ⟨W, (hW : w.alloc (.cells #[.int .i64 0, .int .i64 0, .int .i64 0] 52) = W), S, hB⟩ := fm_boxE (Fm.init w) 52 [.int .i64 0, .int .i64 0, .int .i64 0]
  have SW := Lib.hid S
  replace hB := Lib.hid hB
  clear S
  go_enter Tryd.func39, Tryd.ntmps39
  go_wp2
  clear hW
  go_loopw [4, 5, 6] (fun s4 s5 s6 wr => ∃ (ws : List Bs) (b i : Nat), s5 = .int .i64 (b : Int) ∧ s6 = .int .i64 (i : Int) ∧ WSt l ws b i ∧ ws.length ≤ i ∧ i ≤ l.length + 1 ∧ WS W wr ws s4 ∧ Below W.heap.size W wr) (fun _ _ s6 _ => l.length + 2 - (intOf s6).toNat)
  case atStart => exact ⟨[], 0, 0, rfl, rfl, Or.inl (Cut.start l), Nat.zero_le _, Nat.zero_le _, World.ownsRow_nil _ _ _ _, Below.refl _ _⟩
  case round =>
    obtain ⟨ws, b, i, rfl, rfl, hst, hwl, hil, hown, hbel⟩ := hrel
    have hO := Lib.hid hown
    have hBs : W.heap.size ≤ wr.heap.size := hbel.size
    replace hbel := Lib.hid hbel
    clear hown
    by_cases hlt : i ≤ l.length
    · have hcut : Cut l ws b i := by
        rcases hst with h | h
        · exact h
        · have := h.1; omega
      have hbi := hcut.le
      clear hst
      have ji : (i : Int) ≤ (l.length : Int) := by omega
      by_cases hend : i = l.length
      · subst hend
        have hfin := Lib.hid hcut.fin
        replace hcut := Lib.hid hcut
        have hex : (bS l).extract b l.length = bS ((l.drop b).take (l.length - b)) := bS_ext l b l.length
        obtain ⟨wd, hwd⟩ : ∃ x, (l.drop b).take (l.length - b) = x := ⟨_, rfl⟩
        rw [hwd] at hfin hex
        go_wp2_with (at_builtin; refine push_own elStr rfl _ _ rfl W.heap.size _ ws.length (sR ws) hO.out rfl [.string (bS wd)] rfl rfl rfl (by omega) (by omega) hBs ?_)
        intro v' w6 hown6 hgr hb6 hs6 _
        have hO6 := Lib.hid (ws_next hown6)
        have hb7 := Lib.hid (hbel.out.trans hb6)
        clear hown6 hgr hb6 hs6
        go_wp2
        go_roundw
        case rel => exact ⟨ws ++ [wd], l.length + 1, l.length + 1, by go_num, by go_num, Or.inr ⟨rfl, Nat.le_refl _, hfin.out.symm⟩, by rw [List.length_append, List.length_singleton]; omega, Nat.le_refl _, hO6.out, hb7.out⟩
        case measure => simp [intOf] <;> omega
      · have hi : i < l.length := by omega
        have gk' : i < (bS l).size := by rw [hsz]; exact hi
        have ji2 : (i : Int) < ((bS l).size : Int) := by omega
        have jne : ((i : Int) == (l.length : Int)) = false := by rw [beq_eq_false_iff_ne]; omega
        have hsep := Lib.hid (fun h => hcut.sep hi h)
        have hnxt := Lib.hid (fun h => hcut.next hi h)
        have hgl : l[i]? = some l[i] := List.getElem?_eq_getElem hi
        have hcx : (bS l)[i]'gk' = l[i] := rfl
        obtain ⟨c, hc⟩ : ∃ c, l[i] = c := ⟨_, rfl⟩
        rw [hc] at hcx hgl
        rw [hgl] at hsep hnxt
        have hx : c.toNat < 256 := c.toNat_lt
        replace hcut := Lib.hid hcut
        replace hc := Lib.hid hc
        replace hgl := Lib.hid hgl
        by_cases h32 : c = 32
        · have hs2 := Lib.hid (hsep.out (by rw [h32]))
          subst h32
          have hex : (bS l).extract b i = bS ((l.drop b).take (i - b)) := bS_ext l b i
          obtain ⟨wd, hwd⟩ : ∃ x, (l.drop b).take (i - b) = x := ⟨_, rfl⟩
          rw [hwd] at hs2 hex
          replace hwd := Lib.hid hwd
          clear hsep hnxt
          go_wp2_with (at_builtin; refine push_own elStr rfl _ _ rfl W.heap.size _ ws.length (sR ws) hO.out rfl [.string (bS wd)] rfl rfl rfl (by omega) (by omega) hBs ?_)
          intro v' w6 hown6 hgr hb6 hs6 _
          have hO6 := Lib.hid (ws_next hown6)
          have hb7 := Lib.hid (hbel.out.trans hb6)
          clear hown6 hgr hb6 hs6
          go_wp2
          go_roundw
          case rel => exact ⟨ws ++ [wd], i + 1, i + 1, by go_num, by go_num, Or.inl hs2.out, by rw [List.length_append, List.length_singleton]; omega, by omega, hO6.out, hb7.out⟩
          case measure => simp [intOf] <;> omega
        · have hn2 := Lib.hid (hnxt.out (by intro e; injection e with e; exact h32 e))
          have hx32 : ¬ c.toNat = 32 := fun e => h32 (by apply UInt8.toNat_inj.1; rw [e]; rfl)
          have hx33 : ((c.toNat : Int) == 32) = false := by rw [beq_eq_false_iff_ne]; omega
          replace h32 := Lib.hid h32
          clear hsep hnxt
          go_wp2
          go_roundw
          case rel => exact ⟨ws, b, i + 1, by go_num, by go_num, Or.inl hn2.out, by omega, by omega, hO.out, hbel.out⟩
          case measure => simp [intOf] <;> omega
    · have hall : ws = spl 32 l := by
        rcases hst with h | h
        · have := h.il; omega
        · exact h.2.2
      obtain rfl : i = l.length + 1 := by omega
      clear hst hlt
      have hall' := Lib.hid hall.symm
      clear hall
      have hwl2 : ws.length ≤ 102 := by omega
      obtain ⟨A, cc, hv, -, -, hA⟩ := own_arr (f := fun k => Value.string (bS (ws.getD k []))) hO.out (fun k hk => by simp [sR, hk])
      subst hv
      have T := SW.out.call hbel.out
      obtain ⟨⟨r1, f1, r10, r11, r12, -⟩, -⟩ := T.facts
      by_cases h2 : ws.length < 2
      · have hp : Hid (parR l = none) := Lib.hid (by
          unfold parR
          rw [hall'.out]
          match ws, h2 with
          | [], _ => rfl
          | [x], _ => rfl)
        have j2 : (ws.length : Int) < 2 := by omega
        have S9 := Lib.hid ((((T.set 0 rfl 0 (.int .i64 0)).set 0 rfl 1 (.int .i64 0)).set 0 rfl 2 (.int .i64 0)).box' 52 [.int .i64 0, .int .i64 0, .int .i64 0] (K := wr.heap.size) (by simp))
        clear hA T
        go_wp2
        clear r1 f1 r10 r11 r12
        obtain ⟨-, ⟨r1, f1, r10, r11, r12, -⟩, -⟩ := S9.out.facts
        refine bodyPost_ret (v := .tuple #[.agg #[.int .i64 0, .int .i64 0, .int .i64 0], .int .i64 2]) (by simp [results, Tryd.results39, go_sem, r10, r11, r12]) rfl ?_
        exact Ret.mk ⟨S9.out.bel, by rw [hp.out]; rfl⟩
      · obtain ⟨b0, o0, e0, hb0, hc⟩ := hA (by omega)
        subst e0
        have hmem := Lib.hid (fun x (hx : x ∈ ws) => spl_mem (c := 32) (s := l) (w := x) (by rw [hall'.out]; exact hx))
        obtain ⟨w0, w1, rest, rfl⟩ : ∃ w0 w1 rest, ws = w0 :: w1 :: rest := by
          match ws, h2 with
          | w0 :: w1 :: rest, _ => exact ⟨w0, w1, rest, rfl⟩
          | [x], h => exact absurd (by simp) h
          | [], h => exact absurd (by simp) h
        have d0 : wr.cell? ⟨b0, o0, none⟩ = some (.string (bS w0)) := hc 0 (by omega)
        have d1 : wr.cell? ⟨b0, o0 + 1, none⟩ = some (.string (bS w1)) := hc 1 (by omega)
        have d2 : Hid (∀ x y, rest = x :: y → wr.cell? ⟨b0, o0 + 2, none⟩ = some (.string (bS x))) := Lib.hid fun x y e => by subst e; exact hc 2 (by simp)
        have hw1 := hmem.out w1 (by simp)
        have hN3 : Hid (∀ x y, rest = x :: y → ∀ w, Calls Tryd.prog 68 #[.string (bS x)] w (NumP x w)) := Lib.hid fun x y e w => number_any x (by subst e; have := hmem.out x (by simp); omega) w
        obtain ⟨N, hN⟩ : ∃ N, (w0 :: w1 :: rest).length = N := ⟨_, rfl⟩
        have hNr : Hid (N = rest.length + 2) := Lib.hid (by rw [← hN]; simp)
        have hN2 : 2 ≤ N := by have := hNr.out; omega
        rw [hN] at hwl2 ⊢
        have jn : ¬ (N : Int) < 2 := by omega
        have j0 : (0 : Int) < (N : Int) := by omega
        have jl : ¬ ((l.length : Int) + 1 ≤ (l.length : Int)) := by omega
        have jl2 : decide ((l.length : Int) + 1 ≤ (l.length : Int)) = false := decide_eq_false jl
        have j1 : (1 : Int) < (N : Int) := by omega
        have hN1 := Lib.hid (fun w => number_any w1 (by omega) w)
        have hP0 := Lib.hid (fun h => par_0 hall'.out h)
        have hP1 := Lib.hid (fun (h : kw w0 = 1) => par_1 hall'.out h)
        have hPk := Lib.hid (fun (k : Int) (h : kw w0 = k) a b => par_k hall'.out h a b)
        replace hN := Lib.hid hN
        have T2 := Lib.hid T
        clear hc hA T h2 hw1 hbel hO hil hwl hB hall' hmem
        have T := T2
        by_cases k1 : w0 = [115, 116, 97, 114, 116]
        · have kk : True := trivial
          subst k1
          have hp0 := Lib.hid (hP1.out (by decide))
          clear hP0 hP1 hPk hN
          cases rest with
          | nil =>
            have hp : Hid (parR l = none) := Lib.hid (by rw [hp0.out]; rfl)
            obtain rfl : N = 2 := hNr.out
            clear hp0 hNr d2 hN3
            obtain ⟨z, hz⟩ : ∃ z, (numR w1).isSome = z := ⟨_, rfl⟩
            go_wp2_with fail
            with_reducible refine (hN1.out _).mono ?_
            rintro e' w' ⟨n, rfl, hn, rfl⟩
            rw [hz]
            clear hn hz
            have S9 := Lib.hid ((((T.out.set 0 rfl 0 (.int .i64 0)).set 0 rfl 1 (.int .i64 0)).set 0 rfl 2 (.int .i64 0)).box' 52 [.int .i64 1, .int .i64 n, .int .i64 0] (K := wr.heap.size) (by simp))
            go_wp2
            clear r1 f1 r10 r11 r12
            obtain ⟨-, ⟨r1, f1, r10, r11, r12, -⟩, -⟩ := S9.out.facts
            refine bodyPost_ret (v := .tuple #[.agg #[.int .i64 0, .int .i64 0, .int .i64 0], .int .i64 2]) (by simp [results, Tryd.results39, go_sem, r10, r11, r12]) rfl ?_
            exact Ret.mk ⟨S9.out.bel, by rw [hp.out]; rfl⟩
          | cons x y =>
            cases y with
            | cons x2 y2 =>
              have hp : Hid (parR l = none) := Lib.hid (by rw [hp0.out]; rfl)
              have jn3 : ((N : Int) == 3) = false := by rw [beq_eq_false_iff_ne]; have := hNr.out; simp only [List.length_cons] at this; omega
              clear hp0 hNr d2 hN3
              obtain ⟨z, hz⟩ : ∃ z, (numR w1).isSome = z := ⟨_, rfl⟩
              go_wp2_with fail
              with_reducible refine (hN1.out _).mono ?_
              rintro e' w' ⟨n, rfl, hn, rfl⟩
              rw [hz]
              clear hn hz
              have S9 := Lib.hid ((((T.out.set 0 rfl 0 (.int .i64 0)).set 0 rfl 1 (.int .i64 0)).set 0 rfl 2 (.int .i64 0)).box' 52 [.int .i64 1, .int .i64 n, .int .i64 0] (K := wr.heap.size) (by simp))
              go_wp2
              clear r1 f1 r10 r11 r12
              obtain ⟨-, ⟨r1, f1, r10, r11, r12, -⟩, -⟩ := S9.out.facts
              refine bodyPost_ret (v := .tuple #[.agg #[.int .i64 0, .int .i64 0, .int .i64 0], .int .i64 2]) (by simp [results, Tryd.results39, go_sem, r10, r11, r12]) rfl ?_
              exact Ret.mk ⟨S9.out.bel, by rw [hp.out]; rfl⟩
            | nil =>
              obtain rfl : N = 3 := hNr.out
              have d3 := d2.out x [] rfl
              have hN2 := Lib.hid (hN3.out x [] rfl)
              clear hNr d2 hN3
              cases hz : numR w1 with
              | none =>
                have hp : Hid (parR l = none) := Lib.hid (by rw [hp0.out]; unfold parA; dsimp only; rw [hz])
                clear hp0
                obtain ⟨z, hz2⟩ : ∃ z, (numR x).isSome = z := ⟨_, rfl⟩
                go_wp2_with fail
                with_reducible refine (hN1.out _).mono ?_
                rintro e' w' ⟨n, rfl, hn, rfl⟩
                rw [hz]
                clear hn
                go_wp2_with fail
                with_reducible refine (hN2.out _).mono ?_
                rintro e' w' ⟨m, rfl, hm, rfl⟩
                rw [hz2]
                clear hm hz2
                have S9 := Lib.hid ((((T.out.set 0 rfl 0 (.int .i64 0)).set 0 rfl 1 (.int .i64 0)).set 0 rfl 2 (.int .i64 0)).box' 52 [.int .i64 1, .int .i64 n, .int .i64 m] (K := wr.heap.size) (by simp))
                go_wp2
                clear r1 f1 r10 r11 r12
                obtain ⟨-, ⟨r1, f1, r10, r11, r12, -⟩, -⟩ := S9.out.facts
                refine bodyPost_ret (v := .tuple #[.agg #[.int .i64 0, .int .i64 0, .int .i64 0], .int .i64 2]) (by simp [results, Tryd.results39, go_sem, r10, r11, r12]) rfl ?_
                exact Ret.mk ⟨S9.out.bel, by rw [hp.out]; rfl⟩
              | some i =>
                cases hz2 : numR x with
                | none =>
                  have hp : Hid (parR l = none) := Lib.hid (by rw [hp0.out]; unfold parA; dsimp only; rw [hz, hz2])
                  clear hp0
                  go_wp2_with fail
                  with_reducible refine (hN1.out _).mono ?_
                  rintro e' w' ⟨n, rfl, hn, rfl⟩
                  rw [hz]
                  obtain rfl := hn i hz
                  clear hn
                  go_wp2_with fail
                  with_reducible refine (hN2.out _).mono ?_
                  rintro e' w' ⟨m, rfl, hm, rfl⟩
                  rw [hz2]
                  clear hm
                  have S9 := Lib.hid ((((T.out.set 0 rfl 0 (.int .i64 0)).set 0 rfl 1 (.int .i64 0)).set 0 rfl 2 (.int .i64 0)).box' 52 [.int .i64 1, .int .i64 (i : Nat), .int .i64 m] (K := wr.heap.size) (by simp))
                  go_wp2
                  clear r1 f1 r10 r11 r12
                  obtain ⟨-, ⟨r1, f1, r10, r11, r12, -⟩, -⟩ := S9.out.facts
                  refine bodyPost_ret (v := .tuple #[.agg #[.int .i64 0, .int .i64 0, .int .i64 0], .int .i64 2]) (by simp [results, Tryd.results39, go_sem, r10, r11, r12]) rfl ?_
                  exact Ret.mk ⟨S9.out.bel, by rw [hp.out]; rfl⟩
                | some j =>
                  have hp : Hid (parR l = some ⟨1, (i : Nat), (j : Nat)⟩) := Lib.hid (by rw [hp0.out]; unfold parA; dsimp only; rw [hz, hz2])
                  clear hp0
                  go_wp2_with fail
                  with_reducible refine (hN1.out _).mono ?_
                  rintro e' w' ⟨n, rfl, hn, rfl⟩
                  rw [hz]
                  obtain rfl := hn i hz
                  clear hn
                  go_wp2_with fail
                  with_reducible refine (hN2.out _).mono ?_
                  rintro e' w' ⟨m, rfl, hm, rfl⟩
                  obtain rfl := hm j hz2
                  rw [hz2]
                  clear hm
                  have S9 := Lib.hid ((((T.out.set 0 rfl 0 (.int .i64 1)).set 0 rfl 1 (.int .i64 (i : Nat))).set 0 rfl 2 (.int .i64 (j : Nat))).box' 52 [.int .i64 1, .int .i64 (i : Nat), .int .i64 (j : Nat)] (K := wr.heap.size) (by simp))
                  go_wp2
                  clear r1 f1 r10 r11 r12
                  obtain ⟨-, ⟨r1, f1, r10, r11, r12, -⟩, -⟩ := S9.out.facts
                  refine bodyPost_ret (v := .tuple #[.agg #[.int .i64 1, .int .i64 (i : Nat), .int .i64 (j : Nat)], .int .i64 0]) (by simp [results, Tryd.results39, go_sem, r10, r11, r12]) rfl ?_
                  exact Ret.mk ⟨S9.out.bel, by rw [hp.out]; rfl⟩
        · have q1 : (w0 == [115, 116, 97, 114, 116]) = false := by rw [beq_eq_false_iff_ne]; exact k1
          by_cases k2 : w0 = [102, 105, 110, 105, 115, 104]
          · have kk : True := trivial
            subst k2
            have hp0 := Lib.hid (hPk.out 2 (by decide) (by decide) (by decide))
            clear hP0 hP1 hPk hN3 d2 hN
            cases rest with
            | nil =>
              obtain rfl : N = 2 := hNr.out
              clear hNr
              cases hz : numR w1 with
              | none =>
                have hp : Hid (parR l = none) := Lib.hid (by rw [hp0.out, if_pos rfl, hz]; rfl)
                clear hp0
                go_wp2_with fail
                with_reducible refine (hN1.out _).mono ?_
                rintro e' w' ⟨n, rfl, hn, rfl⟩
                rw [hz]
                have S9 := Lib.hid ((((T.out.set 0 rfl 0 (.int .i64 0)).set 0 rfl 1 (.int .i64 0)).set 0 rfl 2 (.int .i64 0)).box' 52 [.int .i64 2, .int .i64 n, .int .i64 0] (K := wr.heap.size) (by simp))
                go_wp2
                clear r1 f1 r10 r11 r12
                obtain ⟨-, ⟨r1, f1, r10, r11, r12, -⟩, -⟩ := S9.out.facts
                refine bodyPost_ret (v := .tuple #[.agg #[.int .i64 0, .int .i64 0, .int .i64 0], .int .i64 2]) (by simp [results, Tryd.results39, go_sem, r10, r11, r12]) rfl ?_
                exact Ret.mk ⟨S9.out.bel, by rw [hp.out]; rfl⟩
              | some i =>
                have hp : Hid (parR l = some ⟨2, (i : Nat), 0⟩) := Lib.hid (by rw [hp0.out, if_pos rfl, hz]; rfl)
                clear hp0
                go_wp2_with fail
                with_reducible refine (hN1.out _).mono ?_
                rintro e' w' ⟨n, rfl, hn, rfl⟩
                rw [hz]
                obtain rfl := hn i hz
                have S9 := Lib.hid ((((T.out.set 0 rfl 0 (.int .i64 2)).set 0 rfl 1 (.int .i64 (i : Nat))).set 0 rfl 2 (.int .i64 0)).box' 52 [.int .i64 2, .int .i64 (i : Nat), .int .i64 0] (K := wr.heap.size) (by simp))
                go_wp2
                clear r1 f1 r10 r11 r12
                obtain ⟨-, ⟨r1, f1, r10, r11, r12, -⟩, -⟩ := S9.out.facts
                refine bodyPost_ret (v := .tuple #[.agg #[.int .i64 2, .int .i64 (i : Nat), .int .i64 0], .int .i64 0]) (by simp [results, Tryd.results39, go_sem, r10, r11, r12]) rfl ?_
                exact Ret.mk ⟨S9.out.bel, by rw [hp.out]; rfl⟩
            | cons x y =>
              have hp : Hid (parR l = none) := Lib.hid (by rw [hp0.out, if_neg (by simp)])
              have jn2 : ((N : Int) == 2) = false := by rw [beq_eq_false_iff_ne]; have := hNr.out; simp only [List.length_cons] at this; omega
              clear hp0 hNr
              obtain ⟨z, hz⟩ : ∃ z, (numR w1).isSome = z := ⟨_, rfl⟩
              go_wp2_with fail
              with_reducible refine (hN1.out _).mono ?_
              rintro e' w' ⟨n, rfl, hn, rfl⟩
              rw [hz]
              clear hn hz
              have S9 := Lib.hid ((((T.out.set 0 rfl 0 (.int .i64 0)).set 0 rfl 1 (.int .i64 0)).set 0 rfl 2 (.int .i64 0)).box' 52 [.int .i64 2, .int .i64 n, .int .i64 0] (K := wr.heap.size) (by simp))
              go_wp2
              clear r1 f1 r10 r11 r12
              obtain ⟨-, ⟨r1, f1, r10, r11, r12, -⟩, -⟩ := S9.out.facts
              refine bodyPost_ret (v := .tuple #[.agg #[.int .i64 0, .int .i64 0, .int .i64 0], .int .i64 2]) (by simp [results, Tryd.results39, go_sem, r10, r11, r12]) rfl ?_
              exact Ret.mk ⟨S9.out.bel, by rw [hp.out]; rfl⟩
          · have q2 : (w0 == [102, 105, 110, 105, 115, 104]) = false := by rw [beq_eq_false_iff_ne]; exact k2
            by_cases k3 : w0 = [99, 108, 101, 97, 114]
            · have kk : True := trivial
              subst k3
              have hp0 := Lib.hid (hPk.out 3 (by decide) (by decide) (by decide))
              clear hP0 hP1 hPk hN3 d2 hN
              cases rest with
              | nil =>
                obtain rfl : N = 2 := hNr.out
                clear hNr
                cases hz : numR w1 with
                | none =>
                  have hp : Hid (parR l = none) := Lib.hid (by rw [hp0.out, if_pos rfl, hz]; rfl)
                  clear hp0
                  go_wp2_with fail
                  with_reducible refine (hN1.out _).mono ?_
                  rintro e' w' ⟨n, rfl, hn, rfl⟩
                  rw [hz]
                  have S9 := Lib.hid ((((T.out.set 0 rfl 0 (.int .i64 0)).set 0 rfl 1 (.int .i64 0)).set 0 rfl 2 (.int .i64 0)).box' 52 [.int .i64 3, .int .i64 n, .int .i64 0] (K := wr.heap.size) (by simp))
                  go_wp2
                  clear r1 f1 r10 r11 r12
                  obtain ⟨-, ⟨r1, f1, r10, r11, r12, -⟩, -⟩ := S9.out.facts
                  refine bodyPost_ret (v := .tuple #[.agg #[.int .i64 0, .int .i64 0, .int .i64 0], .int .i64 2]) (by simp [results, Tryd.results39, go_sem, r10, r11, r12]) rfl ?_
                  exact Ret.mk ⟨S9.out.bel, by rw [hp.out]; rfl⟩
                | some i =>
                  have hp : Hid (parR l = some ⟨3, (i : Nat), 0⟩) := Lib.hid (by rw [hp0.out, if_pos rfl, hz]; rfl)
                  clear hp0
                  go_wp2_with fail
                  with_reducible refine (hN1.out _).mono ?_
                  rintro e' w' ⟨n, rfl, hn, rfl⟩
                  rw [hz]
                  obtain rfl := hn i hz
                  have S9 := Lib.hid ((((T.out.set 0 rfl 0 (.int .i64 3)).set 0 rfl 1 (.int .i64 (i : Nat))).set 0 rfl 2 (.int .i64 0)).box' 52 [.int .i64 3, .int .i64 (i : Nat), .int .i64 0] (K := wr.heap.size) (by simp))
                  go_wp2
                  clear r1 f1 r10 r11 r12
                  obtain ⟨-, ⟨r1, f1, r10, r11, r12, -⟩, -⟩ := S9.out.facts
                  refine bodyPost_ret (v := .tuple #[.agg #[.int .i64 3, .int .i64 (i : Nat), .int .i64 0], .int .i64 0]) (by simp [results, Tryd.results39, go_sem, r10, r11, r12]) rfl ?_
                  exact Ret.mk ⟨S9.out.bel, by rw [hp.out]; rfl⟩
              | cons x y =>
                have hp : Hid (parR l = none) := Lib.hid (by rw [hp0.out, if_neg (by simp)])
                have jn2 : ((N : Int) == 2) = false := by rw [beq_eq_false_iff_ne]; have := hNr.out; simp only [List.length_cons] at this; omega
                clear hp0 hNr
                obtain ⟨z, hz⟩ : ∃ z, (numR w1).isSome = z := ⟨_, rfl⟩
                go_wp2_with fail
                with_reducible refine (hN1.out _).mono ?_
                rintro e' w' ⟨n, rfl, hn, rfl⟩
                rw [hz]
                clear hn hz
                have S9 := Lib.hid ((((T.out.set 0 rfl 0 (.int .i64 0)).set 0 rfl 1 (.int .i64 0)).set 0 rfl 2 (.int .i64 0)).box' 52 [.int .i64 3, .int .i64 n, .int .i64 0] (K := wr.heap.size) (by simp))
                go_wp2
                clear r1 f1 r10 r11 r12
                obtain ⟨-, ⟨r1, f1, r10, r11, r12, -⟩, -⟩ := S9.out.facts
                refine bodyPost_ret (v := .tuple #[.agg #[.int .i64 0, .int .i64 0, .int .i64 0], .int .i64 2]) (by simp [results, Tryd.results39, go_sem, r10, r11, r12]) rfl ?_
                exact Ret.mk ⟨S9.out.bel, by rw [hp.out]; rfl⟩
            · have q3 : (w0 == [99, 108, 101, 97, 114]) = false := by rw [beq_eq_false_iff_ne]; exact k3
              by_cases k4 : w0 = [97, 98, 111, 114, 116]
              · have kk : True := trivial
                subst k4
                have hp0 := Lib.hid (hPk.out 4 (by decide) (by decide) (by decide))
                clear hP0 hP1 hPk hN3 d2 hN
                cases rest with
                | nil =>
                  obtain rfl : N = 2 := hNr.out
                  clear hNr
                  cases hz : numR w1 with
                  | none =>
                    have hp : Hid (parR l = none) := Lib.hid (by rw [hp0.out, if_pos rfl, hz]; rfl)
                    clear hp0
                    go_wp2_with fail
                    with_reducible refine (hN1.out _).mono ?_
                    rintro e' w' ⟨n, rfl, hn, rfl⟩
                    rw [hz]
                    have S9 := Lib.hid ((((T.out.set 0 rfl 0 (.int .i64 0)).set 0 rfl 1 (.int .i64 0)).set 0 rfl 2 (.int .i64 0)).box' 52 [.int .i64 4, .int .i64 n, .int .i64 0] (K := wr.heap.size) (by simp))
                    go_wp2
                    clear r1 f1 r10 r11 r12
                    obtain ⟨-, ⟨r1, f1, r10, r11, r12, -⟩, -⟩ := S9.out.facts
                    refine bodyPost_ret (v := .tuple #[.agg #[.int .i64 0, .int .i64 0, .int .i64 0], .int .i64 2]) (by simp [results, Tryd.results39, go_sem, r10, r11, r12]) rfl ?_
                    exact Ret.mk ⟨S9.out.bel, by rw [hp.out]; rfl⟩
                  | some i =>
                    have hp : Hid (parR l = some ⟨4, (i : Nat), 0⟩) := Lib.hid (by rw [hp0.out, if_pos rfl, hz]; rfl)
                    clear hp0
                    go_wp2_with fail
                    with_reducible refine (hN1.out _).mono ?_
                    rintro e' w' ⟨n, rfl, hn, rfl⟩
                    rw [hz]
                    obtain rfl := hn i hz
                    have S9 := Lib.hid ((((T.out.set 0 rfl 0 (.int .i64 4)).set 0 rfl 1 (.int .i64 (i : Nat))).set 0 rfl 2 (.int .i64 0)).box' 52 [.int .i64 4, .int .i64 (i : Nat), .int .i64 0] (K := wr.heap.size) (by simp))
                    go_wp2
                    clear r1 f1 r10 r11 r12
                    obtain ⟨-, ⟨r1, f1, r10, r11, r12, -⟩, -⟩ := S9.out.facts
                    refine bodyPost_ret (v := .tuple #[.agg #[.int .i64 4, .int .i64 (i : Nat), .int .i64 0], .int .i64 0]) (by simp [results, Tryd.results39, go_sem, r10, r11, r12]) rfl ?_
                    exact Ret.mk ⟨S9.out.bel, by rw [hp.out]; rfl⟩
                | cons x y =>
                  have hp : Hid (parR l = none) := Lib.hid (by rw [hp0.out, if_neg (by simp)])
                  have jn2 : ((N : Int) == 2) = false := by rw [beq_eq_false_iff_ne]; have := hNr.out; simp only [List.length_cons] at this; omega
                  clear hp0 hNr
                  obtain ⟨z, hz⟩ : ∃ z, (numR w1).isSome = z := ⟨_, rfl⟩
                  go_wp2_with fail
                  with_reducible refine (hN1.out _).mono ?_
                  rintro e' w' ⟨n, rfl, hn, rfl⟩
                  rw [hz]
                  clear hn hz
                  have S9 := Lib.hid ((((T.out.set 0 rfl 0 (.int .i64 0)).set 0 rfl 1 (.int .i64 0)).set 0 rfl 2 (.int .i64 0)).box' 52 [.int .i64 4, .int .i64 n, .int .i64 0] (K := wr.heap.size) (by simp))
                  go_wp2
                  clear r1 f1 r10 r11 r12
                  obtain ⟨-, ⟨r1, f1, r10, r11, r12, -⟩, -⟩ := S9.out.facts
                  refine bodyPost_ret (v := .tuple #[.agg #[.int .i64 0, .int .i64 0, .int .i64 0], .int .i64 2]) (by simp [results, Tryd.results39, go_sem, r10, r11, r12]) rfl ?_
                  exact Ret.mk ⟨S9.out.bel, by rw [hp.out]; rfl⟩
              · have q4 : (w0 == [97, 98, 111, 114, 116]) = false := by rw [beq_eq_false_iff_ne]; exact k4
                have hp := Lib.hid (hP0.out (by unfold kw; rw [if_neg k1, if_neg k2, if_neg k3, if_neg k4]))
                clear k1 k2 k3 k4 hP0 hP1 hPk hN3 d2 hN hNr
                have kk : True := trivial
                have S9 := Lib.hid ((((T.out.set 0 rfl 0 (.int .i64 0)).set 0 rfl 1 (.int .i64 0)).set 0 rfl 2 (.int .i64 0)).box' 52 [.int .i64 0, .int .i64 0, .int .i64 0] (K := wr.heap.size) (by simp))
                go_wp2
                clear r1 f1 r10 r11 r12
                obtain ⟨-, ⟨r1, f1, r10, r11, r12, -⟩, -⟩ := S9.out.facts
                refine bodyPost_ret (v := .tuple #[.agg #[.int .i64 0, .int .i64 0, .int .i64 0], .int .i64 2]) (by simp [results, Tryd.results39, go_sem, r10, r11, r12]) rfl ?_
                exact Ret.mk ⟨S9.out.bel, by rw [hp.out]; rfl⟩
end Go.Proofs.YtfcimilimojfoaaDoor
