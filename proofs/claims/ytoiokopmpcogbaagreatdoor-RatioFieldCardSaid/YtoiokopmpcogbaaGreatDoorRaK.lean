/-
  CONTRACTS of the reference's slash, and of Parse of both texts.
  Conditions: those that each theorem names.
-/
import Derived.Test.YtoiokopmpcogbaaGreatDoorRaJ
import Derived.Test.YtoiokopmpcogbaaGreatDoorNaS
import Derived.Test.YtoiokopmpcogbaaGreatDoorShelfC
namespace Go.Proofs.YtoiokopmpcogbaaGreatDoor
open Go.RowKit Go.Sv
theorem slash_split : ∀ l : List UInt8, (∀ x ∈ l, x ≠ 47) ∨ ∃ a b, l = a ++ 47 :: b ∧ ∀ x ∈ a, x ≠ 47
  | [] => Or.inl (by simp)
  | c :: r => by
    by_cases h : c = 47
    · exact Or.inr ⟨[], r, by rw [h]; rfl, by simp⟩
    · rcases slash_split r with h' | ⟨a, b, rfl, h'⟩
      · refine Or.inl fun x hx => ?_
        rcases List.mem_cons.1 hx with rfl | hx
        · exact h
        · exact h' x hx
      · refine Or.inr ⟨c :: a, b, rfl, fun x hx => ?_⟩
        rcases List.mem_cons.1 hx with rfl | hx
        · exact h
        · exact h' x hx
theorem ib_no : ∀ {l : List UInt8}, (∀ x ∈ l, x ≠ 47) → Lib.indexByte l 47 = -1
  | [], _ => rfl
  | c :: r, h => by
    have h0 := h c (List.mem_cons_self ..)
    have e := ib_no (l := r) (fun x hx => h x (List.mem_cons_of_mem _ hx))
    unfold Lib.indexByte
    rw [e, if_neg (by simpa using h0)]; rfl
theorem ib_at : ∀ {a b : List UInt8}, (∀ x ∈ a, x ≠ 47) → Lib.indexByte (a ++ 47 :: b) 47 = a.length
  | [], b, _ => by simp [Lib.indexByte]
  | c :: r, b, h => by
    have h0 := h c (List.mem_cons_self ..)
    have e := ib_at (a := r) (b := b) (fun x hx => h x (List.mem_cons_of_mem _ hx))
    show Lib.indexByte (c :: (r ++ 47 :: b)) 47 = _
    unfold Lib.indexByte
    rw [e, if_neg (by simpa using h0), if_neg (by simp only [beq_iff_eq]; omega)]
    simp
theorem cut_no {l : List UInt8} (h : ∀ x ∈ l, x ≠ 47) : Lib.cut l [47] = (l, [], false) := by
  unfold Lib.cut
  rw [Lib.index_one, ib_no h, if_neg (by decide)]
theorem cut_at {a b : List UInt8} (h : ∀ x ∈ a, x ≠ 47) : Lib.cut (a ++ 47 :: b) [47] = (a, b, true) := by
  unfold Lib.cut
  rw [Lib.index_one, ib_at h, if_pos (by omega)]
  have e : (a ++ 47 :: b).drop (a.length + [(47 : UInt8)].length) = b := by
    rw [← List.drop_drop, List.drop_left]; rfl
  rw [show ((a.length : Int)).toNat = a.length from rfl, List.take_left' rfl, e]
/-- what Parse returns at a text without a slash, and at one with a slash -/
def p1N (l : List UInt8) : List Int := if prsE l = 0 then prsV l else []
def p1D (l : List UInt8) : List Int := if prsE l = 0 then lim 1 else []
def p2E (a b : List UInt8) : Int := if prsE a = 0 then (if prsE b = 0 then (if (decide (vl (prsV b) = 1) || !vR (prsV a) (prsV b)) = true then 2 else 0) else prsE b) else prsE a
def p2N (a b : List UInt8) : List Int := if p2E a b = 0 then prsV a else []
def p2D (a b : List UInt8) : List Int := if p2E a b = 0 then prsV b else []
theorem p1_no {l : List UInt8} (h : ¬ prsE l = 0) : p1N l = [] ∧ p1D l = [] := ⟨if_neg h, if_neg h⟩
theorem p1_ok {l : List UInt8} (h : prsE l = 0) : p1N l = prsV l ∧ p1D l = lim 1 := ⟨if_pos h, if_pos h⟩
theorem p2_of {a b : List UInt8} {E : Int} (h : ¬ E = 0) (e : p2E a b = E) : p2N a b = [] ∧ p2D a b = [] ∧ p2E a b = E := ⟨if_neg (e ▸ h), if_neg (e ▸ h), e⟩
theorem p2_a {a b : List UInt8} (h : ¬ prsE a = 0) : p2N a b = [] ∧ p2D a b = [] ∧ p2E a b = prsE a := p2_of h (if_neg h)
theorem p2_b {a b : List UInt8} (h0 : prsE a = 0) (h : ¬ prsE b = 0) : p2N a b = [] ∧ p2D a b = [] ∧ p2E a b = prsE b := p2_of h ((if_pos h0).trans (if_neg h))
theorem p2_c {a b : List UInt8} (h0 : prsE a = 0) (h1 : prsE b = 0) {c v : Bool} (hc : decide (vl (prsV b) = 1) = c) (hv : vR (prsV a) (prsV b) = v) (h : (c || !v) = true) : p2N a b = [] ∧ p2D a b = [] ∧ p2E a b = 2 :=
  p2_of (by decide) ((if_pos h0).trans ((if_pos h1).trans (if_pos (by rw [hc, hv]; exact h))))
theorem p2_d {a b : List UInt8} (h0 : prsE a = 0) (h1 : prsE b = 0) {c v : Bool} (hc : decide (vl (prsV b) = 1) = c) (hv : vR (prsV a) (prsV b) = v) (h : (c || !v) = false) : p2N a b = prsV a ∧ p2D a b = prsV b ∧ p2E a b = 0 := by
  have e : p2E a b = 0 := (if_pos h0).trans ((if_pos h1).trans (if_neg (by rw [hc, hv, h]; decide)))
  exact ⟨if_pos e, if_pos e, e⟩
theorem prs_ok {l : List UInt8} (h : prsE l = 0) : txtOk l = true ∧ prsV l = lim (dval l) ∧ (lim (dval l)).length ≤ 128 := by
  unfold prsE at h
  split at h
  · rename_i ht
    unfold cutE at h
    split at h
    · cases h
    · rename_i c
      exact ⟨ht, (if_pos ht).trans (if_neg c), Nat.le_of_not_lt c⟩
  · cases h
theorem prs_lim (l : List UInt8) : Lim (prsV l) := by
  unfold prsV
  split
  · unfold cutV
    split
    · exact Lim.nil
    · exact lim_lim _
  · exact Lim.nil
theorem prs_can {l : List UInt8} (h : prsE l = 0) : Sv.Can (prsV l) := by rw [(prs_ok h).2.1]; exact lim_can _
/-- the library's variable that the search reads holds some number -/
def MaxL (w : World) : Prop := ∃ m : Int, w.cell? ⟨1, 0, none⟩ = some (.int .i64 m)
theorem lt_of_cell {w : World} {p : Addr} {v : Value} (h : w.cell? p = some v) : p.block < w.heap.size := by
  rcases Nat.lt_or_ge p.block w.heap.size with c | c
  · exact c
  · simp [World.cell?, Array.getElem?_eq_none c] at h
theorem MaxL.to {w w' : World} (h : MaxL w) (hb : Below w.heap.size w w') : MaxL w' := by
  obtain ⟨m, hm⟩ := h
  exact ⟨m, (hb.cell (p := ⟨1, 0, none⟩) (lt_of_cell hm)).trans hm⟩
theorem maxL_of {w : World} (h : w.ShapedOpen Tryz.prog) : MaxL w := Tryz.laysM145.s1_3 w h
theorem cutc_no (l : List UInt8) (w : World) (hs : l.length ≤ 100000) (hm : MaxL w) (hn : ∀ x ∈ l, x ≠ 47) :
    Calls Tryz.prog 66 #[.string (bS l), .string ⟨#[47]⟩] w fun e w' => e = .returned (.tuple #[.string (bS l), .string (bS []), .bool false]) ∧ Drawn w w' := by
  obtain ⟨m, hm⟩ := hm
  have h := Tryz.strings_Cut (bS l) ⟨#[47]⟩ m w (by rw [bS_size]; omega) hm
  rw [show (bS l).data.toList = l from rfl, show (⟨#[47]⟩ : ByteArray).data.toList = [47] from rfl, cut_no hn] at h
  exact h.mono fun e w' ⟨he, n, hn⟩ => ⟨he, by rw [hn]; exact Drawn.of n⟩
theorem cutc_at (a b : List UInt8) (w : World) (hs : (a ++ 47 :: b).length ≤ 100000) (hm : MaxL w) (hn : ∀ x ∈ a, x ≠ 47) :
    Calls Tryz.prog 66 #[.string (bS (a ++ 47 :: b)), .string ⟨#[47]⟩] w fun e w' => e = .returned (.tuple #[.string (bS a), .string (bS b), .bool true]) ∧ Drawn w w' := by
  obtain ⟨m, hm⟩ := hm
  have h := Tryz.strings_Cut (bS (a ++ 47 :: b)) ⟨#[47]⟩ m w (by rw [bS_size]; omega) hm
  rw [show (bS (a ++ 47 :: b)).data.toList = a ++ 47 :: b from rfl, show (⟨#[47]⟩ : ByteArray).data.toList = [47] from rfl, cut_at hn] at h
  exact h.mono fun e w' ⟨he, n, hn⟩ => ⟨he, by rw [hn]; exact Drawn.of n⟩
set_option maxHeartbeats 1000000 in
set_option maxRecDepth 100000 in
theorem rslash_no (l : List UInt8) (w : World) (hs : l.length ≤ 100000) (hn : ∀ x ∈ l, x ≠ 47) :
    Calls Tryz.prog 68 #[.string (bS l)] w fun e w' => e = .returned (.int .i64 (-1)) ∧ w = w' := by
  have HN := Lib.hid (fun k (h' : k < l.length) (h : k < (bS l).size) => show ((((bS l)[k]'h).toNat : Int) == 47) = false from by
    rw [bS_get l k h h']
    refine beq_eq_false_iff_ne.2 fun e => hn _ (List.getElem_mem h') (UInt8.toNat_inj.1 ?_)
    show l[k].toNat = 47
    omega)
  have hsz := Lib.hid (bS_size l)
  clear hn
  go_enter Tryz.func68, Tryz.ntmps68
  go_wp2
  go_loop [3] (fun s => ∃ k : Nat, s = .int .i64 k ∧ k ≤ l.length) (fun s => l.length - (intOf s).toNat)
  case atStart => exact ⟨0, rfl, Nat.zero_le _⟩
  case round =>
    obtain ⟨k, rfl, hk⟩ := hrel
    by_cases hlt : k < l.length
    · have gk' : k < (bS l).size := by rw [hsz.out]; exact hlt
      have c := HN.out k hlt gk'
      go_wp2
      go_round
      case rel => exact ⟨k + 1, by go_num, hlt⟩
      case measure => simp [intOf]; omega
    · obtain rfl : k = l.length := by omega
      clear hlt
      go_wp2
      go_ret
      exact ⟨rfl, rfl⟩
set_option maxHeartbeats 1000000 in
set_option maxRecDepth 100000 in
theorem rslash_at (a b : List UInt8) (w : World) (hs : (a ++ 47 :: b).length ≤ 100000) (hn : ∀ x ∈ a, x ≠ 47) :
    Calls Tryz.prog 68 #[.string (bS (a ++ 47 :: b))] w fun e w' => e = .returned (.int .i64 a.length) ∧ w = w' := by
  obtain ⟨l, hl⟩ : ∃ l, a ++ 47 :: b = l := ⟨_, rfl⟩
  have hla : a.length < l.length := by rw [← hl]; simp
  have HN := Lib.hid (fun k (h' : k < a.length) (h : k < (bS l).size) => show ((((bS l)[k]'h).toNat : Int) == 47) = false from by
    rw [bS_get l k h (by omega)]
    have e : l[k]'(by omega) = a[k] := by
      subst hl
      rw [List.getElem_append_left h']
    rw [e]
    refine beq_eq_false_iff_ne.2 fun e => hn _ (List.getElem_mem h') (UInt8.toNat_inj.1 ?_)
    show a[k].toNat = 47
    omega)
  have HY := Lib.hid (fun (h : a.length < (bS l).size) => show ((((bS l)[a.length]'h).toNat : Int) == 47) = true from by
    rw [bS_get l a.length h hla]
    have e : l[a.length] = 47 := by
      subst hl
      rw [List.getElem_append_right (Nat.le_refl _)]
      simp
    rw [e]; rfl)
  have hsz := Lib.hid (bS_size l)
  rw [hl] at hs ⊢
  clear hn hl
  go_enter Tryz.func68, Tryz.ntmps68
  go_wp2
  go_loop [3] (fun s => ∃ k : Nat, s = .int .i64 k ∧ k ≤ a.length) (fun s => l.length - (intOf s).toNat)
  case atStart => exact ⟨0, rfl, Nat.zero_le _⟩
  case round =>
    obtain ⟨k, rfl, hk⟩ := hrel
    have gk' : k < (bS l).size := by rw [hsz.out]; omega
    have hkl : k < l.length := by omega
    by_cases hlt : k < a.length
    · have c := HN.out k hlt gk'
      go_wp2
      go_round
      case rel => exact ⟨k + 1, by go_num, hlt⟩
      case measure => simp [intOf]; omega
    · obtain rfl : k = a.length := by omega
      have c := HY.out gk'
      clear hlt
      go_wp2
      go_ret
      exact ⟨rfl, rfl⟩
set_option maxHeartbeats 2000000 in
set_option maxRecDepth 100000 in
theorem xparse1 (l : List UInt8) (w : World) (hs : (l).length ≤ 100000) (hm : MaxL w) (hn : ∀ x ∈ l, x ≠ 47) :
    Calls Tryz.prog 35 #[.string (bS (l))] w (Ret (RRes2 w (p1N l) (p1D l) (prsE l))) := by
  have S := Lib.hid (Fm.init w)
  have HP := Lib.hid (fun w' => parse_any l w' hs)
  have HC := Lib.hid (fun w' (hb : Below w.heap.size w w') => cutc_no l w' hs (hm.to hb) hn)
  have HO := Lib.hid (fun w' => of_any 1 w' (by decide) (by decide))
  simp only [show (1 : Int).toNat = 1 from rfl] at HO
  have e0 := Lib.hid (p1_ok (l := l))
  have e1 := Lib.hid (p1_no (l := l))
  obtain ⟨P, hP⟩ : ∃ V, p1N l = V := ⟨_, rfl⟩
  obtain ⟨Q, hQ⟩ : ∃ V, p1D l = V := ⟨_, rfl⟩
  obtain ⟨V, hV⟩ : ∃ V, prsV l = V := ⟨_, rfl⟩
  obtain ⟨E, hE⟩ : ∃ V, prsE l = V := ⟨_, rfl⟩
  rw [hV, hE] at HP
  rw [hP, hQ, hV, hE] at e0
  rw [hP, hQ, hE] at e1
  rw [hP, hQ, hE]
  obtain ⟨I, hI⟩ : ∃ V, lim 1 = V := ⟨_, rfl⟩
  rw [hI] at e0 HO
  clear hP hQ hV hE hI hn hm
  replace S := Lib.hid (S.out.box 28 [.slice none 0 0, .slice none 0 0])
  go_enter Tryz.func35, Tryz.ntmps35
  go_wp2_with fail
  refine (HC.out _ S.out.bel).mono ?_
  rintro e w1 ⟨rfl, hb⟩
  replace S := Lib.hid (S.out.drawn hb)
  clear hb
  obtain ⟨⟨z0, f0, y0, y0a, -⟩, -⟩ := S.out.facts
  go_wp2_with fail
  refine (HP.out _).mono ?_
  rintro e w2 ⟨_, rfl, q1, rfl, hr, hf, hb⟩
  have fr1 := Lib.hid (hf.le S.out.size)
  replace S := Lib.hid (natRes S.out hr hf hb)
  clear hr hf hb z0 f0 y0 y0a
  obtain ⟨⟨z0, f0, y0, y0a, -⟩, -⟩ := S.out.facts
  by_cases c : E = 0
  · subst c
    have u := Lib.hid (e0.out (by first | rfl | trivial))
    clear e0 e1
    have n1 : w.heap.size ≠ w2.heap.size := by omega
    have n2 : w2.heap.size ≠ w.heap.size := by omega
    replace S := Lib.hid (S.out.box 24 [.slice q1.a (V).length q1.c])
    clear z0 f0 y0 y0a
    go_wp2_with fail
    replace S := Lib.hid S.out.drew
    obtain ⟨⟨-, -, y1, -⟩, ⟨z0, f0, y0, y0a, -⟩, -⟩ := S.out.facts
    go_region_held3 (fun w' => w'.cell? ⟨w2.heap.size, 0, none⟩ = some (.slice q1.a V.length q1.c)) (go_keep)
      (first | ((with_reducible refine (HO.out _).mono ?_); rintro e wx ⟨_, rfl, qx, rfl, hr, hf, hb⟩; have fx := Lib.hid (hf.le S.out.size); replace S := Lib.hid (natRes S.out hr hf hb); clear hr hf hb; clear y1 y0 y0a z0 f0; obtain ⟨⟨-, -, y1, -⟩, ⟨z0, f0, y0, y0a, -⟩, -⟩ := S.out.facts))
    all_goals
      replace S := Lib.hid (S.out.set 1 rfl 0 (.slice q1.a V.length q1.c))
      replace S := Lib.hid (S.out.set 1 rfl 1 (.slice qx.a I.length qx.c))
      go_wp2
      refine bodyPost_ret (v := .tuple #[ratV V q1 I qx, .int .i64 0]) (by simp [results, Tryz.results35, go_sem, y0, y0a]) rfl ?_
      rw [u.out.1, u.out.2]
      exact Ret.mk (fm_rres2 S.out (by simp) (by simp) fr1.out fx.out)
  · have dE : (E != 0) = true := bne_iff_ne.2 c
    replace S := Lib.hid (S.out.set 0 rfl 0 (.slice none 0 0))
    replace S := Lib.hid (S.out.set 0 rfl 1 (.slice none 0 0))
    replace S := Lib.hid (S.out.box' 24 [.slice q1.a V.length q1.c] (K := w2.heap.size) (by simp))
    have u := Lib.hid (e1.out c)
    go_wp2
    refine bodyPost_ret (v := .tuple #[.agg #[.slice none 0 0, .slice none 0 0], .int .i64 E]) (by simp [results, Tryz.results35, go_sem, y0, y0a, z0]) rfl ?_
    rw [u.out.1, u.out.2]
    exact (show Ret (RRes2 w [] [] E) _ _ from Ret.mk (fm_rres0 S.out))
set_option maxHeartbeats 2000000 in
set_option maxRecDepth 100000 in
theorem xrparse1 (l : List UInt8) (w : World) (hs : (l).length ≤ 100000) (hn : ∀ x ∈ l, x ≠ 47) :
    Calls Tryz.prog 36 #[.string (bS (l))] w (Ret (RRes2 w (p1N l) (p1D l) (prsE l))) := by
  have S := Lib.hid (Fm.init w)
  have HP := Lib.hid (fun w' => rparse_any l w' hs)
  have HC := Lib.hid (fun w' => rslash_no l w' hs hn)
  have HO := Lib.hid (fun w' => rof_any 1 w' (by decide) (by decide))
  simp only [show (1 : Int).toNat = 1 from rfl] at HO
  have e0 := Lib.hid (p1_ok (l := l))
  have e1 := Lib.hid (p1_no (l := l))
  obtain ⟨P, hP⟩ : ∃ V, p1N l = V := ⟨_, rfl⟩
  obtain ⟨Q, hQ⟩ : ∃ V, p1D l = V := ⟨_, rfl⟩
  obtain ⟨V, hV⟩ : ∃ V, prsV l = V := ⟨_, rfl⟩
  obtain ⟨E, hE⟩ : ∃ V, prsE l = V := ⟨_, rfl⟩
  rw [hV, hE] at HP
  rw [hP, hQ, hV, hE] at e0
  rw [hP, hQ, hE] at e1
  rw [hP, hQ, hE]
  obtain ⟨I, hI⟩ : ∃ V, lim 1 = V := ⟨_, rfl⟩
  rw [hI] at e0 HO
  clear hP hQ hV hE hI hn
  replace S := Lib.hid (S.out.box 28 [.slice none 0 0, .slice none 0 0])
  go_enter Tryz.func36, Tryz.ntmps36
  go_wp2_with fail
  refine (HC.out _).mono ?_
  rintro e w1 ⟨rfl, rfl⟩
  go_wp2_with fail
  refine (HP.out _).mono ?_
  rintro e w2 ⟨_, rfl, q1, rfl, hr, hf, hb⟩
  have fr1 := Lib.hid (hf.le S.out.size)
  replace S := Lib.hid (natRes S.out hr hf hb)
  clear hr hf hb
  obtain ⟨⟨z0, f0, y0, y0a, -⟩, -⟩ := S.out.facts
  by_cases c : E = 0
  · subst c
    have u := Lib.hid (e0.out (by first | rfl | trivial))
    clear e0 e1
    have n1 : w.heap.size ≠ w2.heap.size := by omega
    have n2 : w2.heap.size ≠ w.heap.size := by omega
    replace S := Lib.hid (S.out.box 24 [.slice q1.a (V).length q1.c])
    clear z0 f0 y0 y0a
    go_wp2_with fail
    replace S := Lib.hid S.out.drew
    obtain ⟨⟨-, -, y1, -⟩, ⟨z0, f0, y0, y0a, -⟩, -⟩ := S.out.facts
    go_region_held3 (fun w' => w'.cell? ⟨w2.heap.size, 0, none⟩ = some (.slice q1.a V.length q1.c)) (go_keep)
      (first | ((with_reducible refine (HO.out _).mono ?_); rintro e wx ⟨_, rfl, qx, rfl, hr, hf, hb⟩; have fx := Lib.hid (hf.le S.out.size); replace S := Lib.hid (natRes S.out hr hf hb); clear hr hf hb; clear y1 y0 y0a z0 f0; obtain ⟨⟨-, -, y1, -⟩, ⟨z0, f0, y0, y0a, -⟩, -⟩ := S.out.facts))
    all_goals
      replace S := Lib.hid (S.out.set 1 rfl 0 (.slice q1.a V.length q1.c))
      replace S := Lib.hid (S.out.set 1 rfl 1 (.slice qx.a I.length qx.c))
      go_wp2
      refine bodyPost_ret (v := .tuple #[ratV V q1 I qx, .int .i64 0]) (by simp [results, Tryz.results36, go_sem, y0, y0a]) rfl ?_
      rw [u.out.1, u.out.2]
      exact Ret.mk (fm_rres2 S.out (by simp) (by simp) fr1.out fx.out)
  · have dE : (E != 0) = true := bne_iff_ne.2 c
    replace S := Lib.hid (S.out.set 0 rfl 0 (.slice none 0 0))
    replace S := Lib.hid (S.out.set 0 rfl 1 (.slice none 0 0))
    replace S := Lib.hid (S.out.box' 24 [.slice q1.a V.length q1.c] (K := w2.heap.size) (by simp))
    have u := Lib.hid (e1.out c)
    go_wp2
    refine bodyPost_ret (v := .tuple #[.agg #[.slice none 0 0, .slice none 0 0], .int .i64 E]) (by simp [results, Tryz.results36, go_sem, y0, y0a, z0]) rfl ?_
    rw [u.out.1, u.out.2]
    exact (show Ret (RRes2 w [] [] E) _ _ from Ret.mk (fm_rres0 S.out))
set_option maxHeartbeats 2000000 in
set_option maxRecDepth 100000 in
theorem xparse2 (a b : List UInt8) (w : World) (hs : (a ++ 47 :: b).length ≤ 100000) (hm : MaxL w) (hn : ∀ x ∈ a, x ≠ 47) :
    Calls Tryz.prog 35 #[.string (bS (a ++ 47 :: b))] w (Ret (RRes2 w (p2N a b) (p2D a b) (p2E a b))) := by
  have S := Lib.hid (Fm.init w)
  have la : a.length ≤ 100000 := by simp at hs; omega
  have lb : b.length ≤ 100000 := by simp at hs; omega
  have HP := Lib.hid (fun w' => parse_any a w' la)
  have HR := Lib.hid (fun w' => parse_any b w' lb)
  have HC := Lib.hid (fun w' (hb : Below w.heap.size w w') => cutc_at a b w' hs (hm.to hb) hn)
  have HO := Lib.hid (fun (h : prsE b = 0) q w' (h1 : RLm w' w'.heap.size (prsV b) q) => isOne_any w' (prsV b) q h1 (prs_lim b) (prs_can h))
  have HV := Lib.hid (fun q r w' (h1 : RLm w' w'.heap.size (prsV a) q) (h2 : RLm w' w'.heap.size (prsV b) r) => validR_any w' (prsV a) q h1 (prs_lim a) (prsV b) r h2 (prs_lim b))
  have ea := Lib.hid (p2_a (a := a) (b := b))
  have eb := Lib.hid (p2_b (a := a) (b := b))
  have ec := Lib.hid (p2_c (a := a) (b := b))
  have ed := Lib.hid (p2_d (a := a) (b := b))
  obtain ⟨P, hP⟩ : ∃ V, p2N a b = V := ⟨_, rfl⟩
  obtain ⟨Q, hQ⟩ : ∃ V, p2D a b = V := ⟨_, rfl⟩
  obtain ⟨E, hE⟩ : ∃ V, p2E a b = V := ⟨_, rfl⟩
  obtain ⟨o, ho⟩ : ∃ V, decide (vl (prsV b) = 1) = V := ⟨_, rfl⟩
  obtain ⟨v, hv⟩ : ∃ V, vR (prsV a) (prsV b) = V := ⟨_, rfl⟩
  obtain ⟨X, hX⟩ : ∃ V, prsV a = V := ⟨_, rfl⟩
  obtain ⟨Y, hY⟩ : ∃ V, prsV b = V := ⟨_, rfl⟩
  obtain ⟨E1, hE1⟩ : ∃ V, prsE a = V := ⟨_, rfl⟩
  obtain ⟨E2, hE2⟩ : ∃ V, prsE b = V := ⟨_, rfl⟩
  rw [hX, hE1] at HP
  rw [hY, hE2] at HR
  rw [ho, hY, hE2] at HO
  rw [hv, hX, hY] at HV
  rw [hP, hQ, hE, hE1] at ea
  rw [hP, hQ, hE, hE1, hE2] at eb
  rw [hP, hQ, hE, hE1, hE2, ho, hv] at ec
  rw [hP, hQ, hE, hE1, hE2, ho, hv, hX, hY] at ed
  rw [hP, hQ, hE]
  clear hP hQ hE ho hv hX hY hE1 hE2 hn la lb hm
  replace S := Lib.hid (S.out.box 28 [.slice none 0 0, .slice none 0 0])
  go_enter Tryz.func35, Tryz.ntmps35
  go_wp2_with fail
  refine (HC.out _ S.out.bel).mono ?_
  rintro e w1 ⟨rfl, hb⟩
  replace S := Lib.hid (S.out.drawn hb)
  clear hb
  obtain ⟨⟨z0, f0, y0, y0a, -⟩, -⟩ := S.out.facts
  go_wp2_with fail
  refine (HP.out _).mono ?_
  rintro e w2 ⟨_, rfl, q1, rfl, hr, hf, hb⟩
  have fr1 := Lib.hid (hf.le S.out.size)
  replace S := Lib.hid (natRes S.out hr hf hb)
  clear hr hf hb z0 f0 y0 y0a
  obtain ⟨⟨z0, f0, y0, y0a, -⟩, -⟩ := S.out.facts
  by_cases c : E1 = 0
  · subst c
    replace S := Lib.hid (S.out.box 24 [.slice q1.a (X).length q1.c])
    go_wp2_with fail
    refine (HR.out _).mono ?_
    rintro e w3 ⟨_, rfl, q2, rfl, hr, hf, hb⟩
    have fr2 := Lib.hid (hf.le S.out.size)
    replace S := Lib.hid (natRes S.out hr hf hb)
    clear hr hf hb z0 f0 y0 y0a
    obtain ⟨⟨z1, f1, y1, -⟩, ⟨z0, f0, y0, y0a, -⟩, -⟩ := S.out.facts
    by_cases c : E2 = 0
    · subst c
      replace S := Lib.hid (S.out.box 24 [.slice q2.a (Y).length q2.c])
      replace S := Lib.hid (S.out.box' 28 [.slice q1.a X.length q1.c, .slice q2.a Y.length q2.c] (K := w3.heap.size + 1) (by simp))
      go_wp2_with fail
      refine (HO.out (by first | rfl | trivial) _ _ S.out.r0).mono ?_
      rintro e w4 ⟨rfl, hb⟩
      replace S := Lib.hid (S.out.call hb)
      clear hb z0 f0 y0 y0a z1 f1 y1
      obtain ⟨⟨z3, f3, y3, y3a, -⟩, ⟨z2, f2, y2, -⟩, ⟨z1, f1, y1, -⟩, ⟨z0, f0, y0, y0a, -⟩, -⟩ := S.out.facts
      cases o
      · go_wp2_with fail
        refine (HV.out _ _ _ S.out.r1 S.out.r0).mono ?_
        rintro e w5 ⟨rfl, hb⟩
        replace S := Lib.hid (S.out.call hb)
        clear hb z0 f0 y0 y0a z1 f1 y1 z2 f2 y2 z3 f3 y3 y3a
        obtain ⟨⟨z3, f3, y3, y3a, -⟩, ⟨z2, f2, y2, -⟩, ⟨z1, f1, y1, -⟩, ⟨z0, f0, y0, y0a, -⟩, -⟩ := S.out.facts
        cases v
        · replace S := Lib.hid (S.out.set 3 rfl 0 (.slice none 0 0))
          replace S := Lib.hid (S.out.set 3 rfl 1 (.slice none 0 0))
          have u := Lib.hid (ec.out (by first | rfl | trivial) (by first | rfl | trivial) (by first | rfl | trivial) (by first | rfl | trivial) (by first | rfl | trivial))
          go_wp2
          refine bodyPost_ret (v := .tuple #[.agg #[.slice none 0 0, .slice none 0 0], .int .i64 2]) (by simp [results, Tryz.results35, go_sem, y0, y0a]) rfl ?_
          rw [u.out.1, u.out.2.1, u.out.2.2]
          exact (show Ret (RRes2 w [] [] 2) _ _ from Ret.mk (fm_rres0 S.out))
        · have u := Lib.hid (ed.out (by first | rfl | trivial) (by first | rfl | trivial) (by first | rfl | trivial) (by first | rfl | trivial) (by first | rfl | trivial))
          clear ea eb ec ed
          replace S := Lib.hid (S.out.set 3 rfl 0 (.slice q1.a X.length q1.c))
          replace S := Lib.hid (S.out.set 3 rfl 1 (.slice q2.a Y.length q2.c))
          go_wp2
          refine bodyPost_ret (v := .tuple #[ratV X q1 Y q2, .int .i64 0]) (by simp [results, Tryz.results35, go_sem, y0, y0a]) rfl ?_
          rw [u.out.1, u.out.2.1, u.out.2.2]
          exact Ret.mk (fm_rres2 S.out (by simp) (by simp) fr1.out fr2.out)
      · replace S := Lib.hid (S.out.set 3 rfl 0 (.slice none 0 0))
        replace S := Lib.hid (S.out.set 3 rfl 1 (.slice none 0 0))
        have u := Lib.hid (ec.out (by first | rfl | trivial) (by first | rfl | trivial) (by first | rfl | trivial) (by first | rfl | trivial) (by first | rfl | trivial))
        go_wp2
        refine bodyPost_ret (v := .tuple #[.agg #[.slice none 0 0, .slice none 0 0], .int .i64 2]) (by simp [results, Tryz.results35, go_sem, y0, y0a]) rfl ?_
        rw [u.out.1, u.out.2.1, u.out.2.2]
        exact (show Ret (RRes2 w [] [] 2) _ _ from Ret.mk (fm_rres0 S.out))
    · have dE : (E2 != 0) = true := bne_iff_ne.2 c
      replace S := Lib.hid (S.out.set 1 rfl 0 (.slice none 0 0))
      replace S := Lib.hid (S.out.set 1 rfl 1 (.slice none 0 0))
      replace S := Lib.hid (S.out.box' 24 [.slice q2.a Y.length q2.c] (K := w3.heap.size) (by simp))
      have u := Lib.hid (eb.out (by first | rfl | trivial) c)
      go_wp2
      refine bodyPost_ret (v := .tuple #[.agg #[.slice none 0 0, .slice none 0 0], .int .i64 E2]) (by simp [results, Tryz.results35, go_sem, y0, y0a, z0]) rfl ?_
      rw [u.out.1, u.out.2.1, u.out.2.2]
      exact (show Ret (RRes2 w [] [] E2) _ _ from Ret.mk (fm_rres0 S.out))
  · have dE : (E1 != 0) = true := bne_iff_ne.2 c
    replace S := Lib.hid (S.out.set 0 rfl 0 (.slice none 0 0))
    replace S := Lib.hid (S.out.set 0 rfl 1 (.slice none 0 0))
    replace S := Lib.hid (S.out.box' 24 [.slice q1.a X.length q1.c] (K := w2.heap.size) (by simp))
    have u := Lib.hid (ea.out c)
    go_wp2
    refine bodyPost_ret (v := .tuple #[.agg #[.slice none 0 0, .slice none 0 0], .int .i64 E1]) (by simp [results, Tryz.results35, go_sem, y0, y0a, z0]) rfl ?_
    rw [u.out.1, u.out.2.1, u.out.2.2]
    exact (show Ret (RRes2 w [] [] E1) _ _ from Ret.mk (fm_rres0 S.out))
set_option maxHeartbeats 2000000 in
set_option maxRecDepth 100000 in
theorem xrparse2 (a b : List UInt8) (w : World) (hs : (a ++ 47 :: b).length ≤ 100000) (hn : ∀ x ∈ a, x ≠ 47) :
    Calls Tryz.prog 36 #[.string (bS (a ++ 47 :: b))] w (Ret (RRes2 w (p2N a b) (p2D a b) (p2E a b))) := by
  have S := Lib.hid (Fm.init w)
  have la : a.length ≤ 100000 := by simp at hs; omega
  have lb : b.length ≤ 100000 := by simp at hs; omega
  have HP := Lib.hid (fun w' => rparse_any a w' la)
  have HR := Lib.hid (fun w' => rparse_any b w' lb)
  have HC := Lib.hid (fun w' => rslash_at a b w' hs hn)
  have HO := Lib.hid (fun (h : prsE b = 0) q w' (h1 : RLm w' w'.heap.size (prsV b) q) => by
    have := rone_any w' (prsV b) q h1 (prs_lim b)
    rw [show decide (prsV b = lim 1) = decide (vl (prsV b) = 1) from decide_eq_decide.2 (lim_one_iff (prs_lim b) (prs_can h))] at this
    exact this)
  have HV := Lib.hid (fun q r w' (h1 : RLm w' w'.heap.size (prsV a) q) (h2 : RLm w' w'.heap.size (prsV b) r) => rvalidR_any w' (prsV a) q h1 (prs_lim a) (prsV b) r h2 (prs_lim b))
  obtain ⟨l, hl⟩ : ∃ l, a ++ 47 :: b = l := ⟨_, rfl⟩
  have x1 := Lib.hid (show (bS l).extract 0 a.length = bS a from by rw [← hl, bS_extract]; simp)
  have x2 := Lib.hid (show (bS l).extract (a.length + 1) l.length = bS b from by rw [← hl, bS_extract, ← List.drop_drop, List.drop_left]; simp; exact List.take_of_length_le (by omega))
  have b1 : a.length + 1 ≤ l.length := by rw [← hl]; simp
  rw [hl] at hs HC ⊢
  clear hl
  have ea := Lib.hid (p2_a (a := a) (b := b))
  have eb := Lib.hid (p2_b (a := a) (b := b))
  have ec := Lib.hid (p2_c (a := a) (b := b))
  have ed := Lib.hid (p2_d (a := a) (b := b))
  obtain ⟨P, hP⟩ : ∃ V, p2N a b = V := ⟨_, rfl⟩
  obtain ⟨Q, hQ⟩ : ∃ V, p2D a b = V := ⟨_, rfl⟩
  obtain ⟨E, hE⟩ : ∃ V, p2E a b = V := ⟨_, rfl⟩
  obtain ⟨o, ho⟩ : ∃ V, decide (vl (prsV b) = 1) = V := ⟨_, rfl⟩
  obtain ⟨v, hv⟩ : ∃ V, vR (prsV a) (prsV b) = V := ⟨_, rfl⟩
  obtain ⟨X, hX⟩ : ∃ V, prsV a = V := ⟨_, rfl⟩
  obtain ⟨Y, hY⟩ : ∃ V, prsV b = V := ⟨_, rfl⟩
  obtain ⟨E1, hE1⟩ : ∃ V, prsE a = V := ⟨_, rfl⟩
  obtain ⟨E2, hE2⟩ : ∃ V, prsE b = V := ⟨_, rfl⟩
  rw [hX, hE1] at HP
  rw [hY, hE2] at HR
  rw [ho, hY, hE2] at HO
  rw [hv, hX, hY] at HV
  rw [hP, hQ, hE, hE1] at ea
  rw [hP, hQ, hE, hE1, hE2] at eb
  rw [hP, hQ, hE, hE1, hE2, ho, hv] at ec
  rw [hP, hQ, hE, hE1, hE2, ho, hv, hX, hY] at ed
  rw [hP, hQ, hE]
  clear hP hQ hE ho hv hX hY hE1 hE2 hn la lb
  replace S := Lib.hid (S.out.box 28 [.slice none 0 0, .slice none 0 0])
  go_enter Tryz.func36, Tryz.ntmps36
  go_wp2_with fail
  refine (HC.out _).mono ?_
  rintro e w1 ⟨rfl, rfl⟩
  go_wp2_with fail
  rw [x1.out]
  refine (HP.out _).mono ?_
  rintro e w2 ⟨_, rfl, q1, rfl, hr, hf, hb⟩
  have fr1 := Lib.hid (hf.le S.out.size)
  replace S := Lib.hid (natRes S.out hr hf hb)
  clear hr hf hb
  obtain ⟨⟨z0, f0, y0, y0a, -⟩, -⟩ := S.out.facts
  by_cases c : E1 = 0
  · subst c
    replace S := Lib.hid (S.out.box 24 [.slice q1.a (X).length q1.c])
    go_wp2_with fail
    rw [x2.out]
    refine (HR.out _).mono ?_
    rintro e w3 ⟨_, rfl, q2, rfl, hr, hf, hb⟩
    have fr2 := Lib.hid (hf.le S.out.size)
    replace S := Lib.hid (natRes S.out hr hf hb)
    clear hr hf hb z0 f0 y0 y0a
    obtain ⟨⟨z1, f1, y1, -⟩, ⟨z0, f0, y0, y0a, -⟩, -⟩ := S.out.facts
    by_cases c : E2 = 0
    · subst c
      replace S := Lib.hid (S.out.box 24 [.slice q2.a (Y).length q2.c])
      replace S := Lib.hid (S.out.box' 28 [.slice q1.a X.length q1.c, .slice q2.a Y.length q2.c] (K := w3.heap.size + 1) (by simp))
      go_wp2_with fail
      refine (HO.out (by first | rfl | trivial) _ _ S.out.r0).mono ?_
      rintro e w4 ⟨rfl, hb⟩
      replace S := Lib.hid (S.out.call hb)
      clear hb z0 f0 y0 y0a z1 f1 y1
      obtain ⟨⟨z3, f3, y3, y3a, -⟩, ⟨z2, f2, y2, -⟩, ⟨z1, f1, y1, -⟩, ⟨z0, f0, y0, y0a, -⟩, -⟩ := S.out.facts
      cases o
      · go_wp2_with fail
        refine (HV.out _ _ _ S.out.r1 S.out.r0).mono ?_
        rintro e w5 ⟨rfl, hb⟩
        replace S := Lib.hid (S.out.call hb)
        clear hb z0 f0 y0 y0a z1 f1 y1 z2 f2 y2 z3 f3 y3 y3a
        obtain ⟨⟨z3, f3, y3, y3a, -⟩, ⟨z2, f2, y2, -⟩, ⟨z1, f1, y1, -⟩, ⟨z0, f0, y0, y0a, -⟩, -⟩ := S.out.facts
        cases v
        · replace S := Lib.hid (S.out.set 3 rfl 0 (.slice none 0 0))
          replace S := Lib.hid (S.out.set 3 rfl 1 (.slice none 0 0))
          have u := Lib.hid (ec.out (by first | rfl | trivial) (by first | rfl | trivial) (by first | rfl | trivial) (by first | rfl | trivial) (by first | rfl | trivial))
          go_wp2
          refine bodyPost_ret (v := .tuple #[.agg #[.slice none 0 0, .slice none 0 0], .int .i64 2]) (by simp [results, Tryz.results36, go_sem, y0, y0a]) rfl ?_
          rw [u.out.1, u.out.2.1, u.out.2.2]
          exact (show Ret (RRes2 w [] [] 2) _ _ from Ret.mk (fm_rres0 S.out))
        · have u := Lib.hid (ed.out (by first | rfl | trivial) (by first | rfl | trivial) (by first | rfl | trivial) (by first | rfl | trivial) (by first | rfl | trivial))
          clear ea eb ec ed
          replace S := Lib.hid (S.out.set 3 rfl 0 (.slice q1.a X.length q1.c))
          replace S := Lib.hid (S.out.set 3 rfl 1 (.slice q2.a Y.length q2.c))
          go_wp2
          refine bodyPost_ret (v := .tuple #[ratV X q1 Y q2, .int .i64 0]) (by simp [results, Tryz.results36, go_sem, y0, y0a]) rfl ?_
          rw [u.out.1, u.out.2.1, u.out.2.2]
          exact Ret.mk (fm_rres2 S.out (by simp) (by simp) fr1.out fr2.out)
      · replace S := Lib.hid (S.out.set 3 rfl 0 (.slice none 0 0))
        replace S := Lib.hid (S.out.set 3 rfl 1 (.slice none 0 0))
        have u := Lib.hid (ec.out (by first | rfl | trivial) (by first | rfl | trivial) (by first | rfl | trivial) (by first | rfl | trivial) (by first | rfl | trivial))
        go_wp2
        refine bodyPost_ret (v := .tuple #[.agg #[.slice none 0 0, .slice none 0 0], .int .i64 2]) (by simp [results, Tryz.results36, go_sem, y0, y0a]) rfl ?_
        rw [u.out.1, u.out.2.1, u.out.2.2]
        exact (show Ret (RRes2 w [] [] 2) _ _ from Ret.mk (fm_rres0 S.out))
    · have dE : (E2 != 0) = true := bne_iff_ne.2 c
      replace S := Lib.hid (S.out.set 1 rfl 0 (.slice none 0 0))
      replace S := Lib.hid (S.out.set 1 rfl 1 (.slice none 0 0))
      replace S := Lib.hid (S.out.box' 24 [.slice q2.a Y.length q2.c] (K := w3.heap.size) (by simp))
      have u := Lib.hid (eb.out (by first | rfl | trivial) c)
      go_wp2
      refine bodyPost_ret (v := .tuple #[.agg #[.slice none 0 0, .slice none 0 0], .int .i64 E2]) (by simp [results, Tryz.results36, go_sem, y0, y0a, z0]) rfl ?_
      rw [u.out.1, u.out.2.1, u.out.2.2]
      exact (show Ret (RRes2 w [] [] E2) _ _ from Ret.mk (fm_rres0 S.out))
  · have dE : (E1 != 0) = true := bne_iff_ne.2 c
    replace S := Lib.hid (S.out.set 0 rfl 0 (.slice none 0 0))
    replace S := Lib.hid (S.out.set 0 rfl 1 (.slice none 0 0))
    replace S := Lib.hid (S.out.box' 24 [.slice q1.a X.length q1.c] (K := w2.heap.size) (by simp))
    have u := Lib.hid (ea.out c)
    go_wp2
    refine bodyPost_ret (v := .tuple #[.agg #[.slice none 0 0, .slice none 0 0], .int .i64 E1]) (by simp [results, Tryz.results36, go_sem, y0, y0a, z0]) rfl ?_
    rw [u.out.1, u.out.2.1, u.out.2.2]
    exact (show Ret (RRes2 w [] [] E1) _ _ from Ret.mk (fm_rres0 S.out))
end Go.Proofs.YtoiokopmpcogbaaGreatDoor
