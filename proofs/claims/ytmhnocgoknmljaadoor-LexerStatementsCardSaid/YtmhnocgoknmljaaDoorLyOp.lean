/-
  THE LISTED VARIABLES: from the row's condition to the contracts' facts; a start that meets it. TOKENS that came in, opened.
  Conditions: none of its own.
-/
import Derived.Test.YtmhnocgoknmljaaDoorLawX
import Derived.Test.YtmhnocgoknmljaaDoorOpenG
import Derived.Test.YtmhnocgoknmljaaDoorLyA
import Derived.LaidMore
import Derived.LaidSub
import Derived.Stop.LaidErr
import Derived.Lib.SmallJoins
import Derived.ChangeMaps5
namespace Go.Proofs.YtmhnocgoknmljaaDoor
open Go.ChangeShapes Go.WideShapes Go.ChangeAt Go.RowKit Go.Sv Go.Lx

theorem own : ownKnob Tryd.prog.godebug = none := by kernel_rfl
theorem laidOut : laidOutB Tryd.prog = true := by kernel_rfl
abbrev laid6 : List (String × DataW Unit) := [("math/bits.deBruijn32tab", Rows.laid_math_bits_deBruijn32tab), ("math/bits.deBruijn64tab", Rows.laid_math_bits_deBruijn64tab), ("internal/strconv.uint64pow10", Rows.laid_internal_strconv_uint64pow10), ("strconv.ErrRange", Rows.laid_strconv_ErrRange), ("strconv.ErrSyntax", Rows.laid_strconv_ErrSyntax), ("sheave/lexer.symbols", Rows.laid_sheave_lexer_symbols)]
theorem pow_of_laid {W : World} (h : laidMetH Tryd.prog laid6 W) : Lib.TabIs Tryd.prog W "internal/strconv.uint64pow10" .u64 Lib.pow10Tab := by
  have h1 := h.filter (fun x => x.1 == "internal/strconv.uint64pow10")
  have e : laid6.filter (fun x => x.1 == "internal/strconv.uint64pow10") = [("internal/strconv.uint64pow10", Lib.tabData .u64 Lib.pow10Tab)] := rfl
  rw [e] at h1
  have h2 : laidMet Tryd.prog [("internal/strconv.uint64pow10", Lib.tabData .u64 Lib.pow10Tab)] W := h1
  exact Lib.tabIs_of_head (g := 1) (t := 96) (e := 85) (n := 20) (by kernel_rfl) (by kernel_rfl) Tryd.underlying96 Tryd.underlying85 (by kernel_rfl) (by kernel_rfl) h2
theorem starEs : "*" ++ "errors.errorString" = "*errors.errorString" := by decide
theorem rowEs (u : TypeId) (h : Tryd.prog.typeName? 3 u = some "*errors.errorString") : u = 115 :=
  typeName_ptr_named (nm := "errors.errorString") (by rw [starEs]; kernel_rfl) (by kernel_rfl) (by decide) u (by rw [starEs]; exact h)
theorem syn_of_laid {W : World} (h : laidMetH Tryd.prog laid6 W) : ErrC W 5 := by
  have h1 := h.filter (fun x => x.1 == "strconv.ErrSyntax")
  have e : laid6.filter (fun x => x.1 == "strconv.ErrSyntax") = [("strconv.ErrSyntax", Rows.laid_strconv_ErrSyntax)] := rfl
  rw [e] at h1
  have h2 : laidMet Tryd.prog [("strconv.ErrSyntax", Rows.laid_strconv_ErrSyntax)] W := h1
  have hg : Tryd.prog.globalNamed "strconv.ErrSyntax" = some 5 := by kernel_rfl
  obtain ⟨a0, s0, hv0, -, -, -⟩ := laid_sentinel h2 hg (ti := 59) (by kernel_rfl) Tryd.underlying59 rowEs Tryd.underlying115 Tryd.underlying117 rfl rfl Tryd.underlying9 (by kernel_rfl) (by kernel_rfl)
  exact ⟨_, by have h0 := World.var?_cell hg hv0 0; simpa using h0, Or.inr ⟨_, _, rfl⟩⟩
theorem ran_of_laid {W : World} (h : laidMetH Tryd.prog laid6 W) : ErrC W 6 := by
  have h1 := h.filter (fun x => x.1 == "strconv.ErrRange")
  have e : laid6.filter (fun x => x.1 == "strconv.ErrRange") = [("strconv.ErrRange", Rows.laid_strconv_ErrRange)] := rfl
  rw [e] at h1
  have h2 : laidMet Tryd.prog [("strconv.ErrRange", Rows.laid_strconv_ErrRange)] W := h1
  have hg : Tryd.prog.globalNamed "strconv.ErrRange" = some 6 := by kernel_rfl
  obtain ⟨a0, s0, hv0, -, -, -⟩ := laid_sentinel h2 hg (ti := 59) (by kernel_rfl) Tryd.underlying59 rowEs Tryd.underlying115 Tryd.underlying117 rfl rfl Tryd.underlying9 (by kernel_rfl) (by kernel_rfl)
  exact ⟨_, by have h0 := World.var?_cell hg hv0 0; simpa using h0, Or.inr ⟨_, _, rfl⟩⟩
theorem sym_of_laid {W : World} (h : laidMetH Tryd.prog laid6 W) : SymC W := by
  have h1 := h.filter (fun x => x.1 == "sheave/lexer.symbols")
  have e : laid6.filter (fun x => x.1 == "sheave/lexer.symbols") = [("sheave/lexer.symbols", Rows.laid_sheave_lexer_symbols)] := rfl
  rw [e] at h1
  have h2 : laidMet Tryd.prog [("sheave/lexer.symbols", Rows.laid_sheave_lexer_symbols)] W := h1
  have hg : Tryd.prog.globalNamed "sheave/lexer.symbols" = some 0 := by kernel_rfl
  obtain ⟨ps, ⟨g0, t0, cs0, f0, p0, q0, hg0, ht0, hv0, hd0, _, e0⟩, _, hrows⟩ := h2
  obtain rfl := Option.some.inj (hg.symm.trans hg0)
  have htt : (Tryd.prog.globals[0]?).map (·.type) = some 32 := by kernel_rfl
  obtain rfl := Option.some.inj (htt.symm.trans ht0)
  obtain ⟨a, cap, hcs, hle, hel⟩ := open_row Tryd.underlying32 (show Tryd.prog.cellsOf 9 = 1 from by kernel_rfl) hd0
  have hcell : ∀ j (hj : j < syms.length), W.cell? (a.add j) = some (.string (bS (syms[j]'hj))) := by
    intro j hj
    have hd : (syms.map fun x => (DataW.lit (.string x) : DataW Unit))[j]? = some (.lit (.string (syms[j]'hj))) := by simp [hj]
    obtain ⟨v, n, q, hc, ht⟩ := hel j _ hd
    obtain ⟨s, hs, hx, -⟩ := DataW.trod_string Tryd.underlying9 ht
    simp only [List.cons.injEq, and_true] at hs
    subst hs
    simp only [Prod.mk.injEq, DataW.lit.injEq, Lit.string.injEq] at hx
    rw [hc, bS_of s, ← hx.1]
  obtain ⟨b, off, spot⟩ := a
  have h0 := hcell 0 (by decide)
  have hspot : spot = none := by
    simp only [Addr.add, if_true] at h0
    simpa using World.cell?_spot h0
  subst hspot
  refine ⟨b, off, cap, ?_, ?_, fun j hj => ?_⟩
  · have h3 := World.var?_cell hg hv0 0
    have h4 : cs0[0]? = some (.slice (some ⟨b, off, none⟩) 18 cap) := by
      have : cs0.toList[0]? = some (.slice (some ⟨b, off, none⟩) 18 cap) := by rw [hcs]; rfl
      simpa using this
    exact h3.trans h4
  · exact lt_of_cell h0
  · have := hcell j hj
    rwa [Go.WideShapes.add_plain] at this
theorem tb_of_laid {W : World} (h : laidMetH Tryd.prog laid6 W) : Tb W := ⟨pow_of_laid h, syn_of_laid h, ran_of_laid h, sym_of_laid h⟩
theorem door_met (os : Os) (args : Array Value) : laidMetH Tryd.prog laid6 ((World.doorLaid Tryd.prog 1200 os).forCall (fun _ _ => 0) ⟨#[], args, []⟩).memory :=
  laidMetH_of_parts3 (fuel := 8) (laidMet_of_run' 8 (by kernel_rfl) (by kernel_rfl)) (by kernel_rfl) (by kernel_rfl)
theorem door_shaped (os : Os) (args : Array Value) : ((World.doorLaid Tryd.prog 1200 os).forCall (fun _ _ => 0) ⟨#[], args, []⟩).Shaped Tryd.prog := World.shaped_of_RefB (by kernel_rfl) (by kernel_rfl)

section
variable {H : Type} {enc : TypeId × Value → H} {W : World}
theorem bytes_len (s : ByteArray) : s.data.toList.length = s.size := rfl
theorem maxLen_le : maxLen ≤ 9223372036854775807 := by unfold maxLen; omega
set_option maxRecDepth 100000 in
theorem trod_tok {fuel : Nat} {cs : List Value} {x : DataW H × List MemPlace} (hf : DataW.trod enc Tryd.prog W 0 (fun _ => true) true fuel 25 cs = some x) (hlt : ∀ y ∈ x.2, y.block < W.heap.size) (hl : cs.length = 5) :
    ∃ r : Tok, (∀ i, i < 5 → cs[i]? = some (tkCell r i)) ∧ I64 r ∧ r.text.length ≤ maxLen ∧ r.str.length ≤ maxLen := by
  obtain ⟨c0, c1, c2, c3, c4, rfl⟩ : ∃ c0 c1 c2 c3 c4, cs = [c0, c1, c2, c3, c4] := by
    match cs, hl with
    | [c0, c1, c2, c3, c4], _ => exact ⟨c0, c1, c2, c3, c4, rfl⟩
  have k3 : Tryd.prog.cellsOf 3 = 1 := by kernel_rfl
  have k2 : Tryd.prog.cellsOf 2 = 1 := by kernel_rfl
  have k9 : Tryd.prog.cellsOf 9 = 1 := by kernel_rfl
  obtain ⟨_, _, h0, _⟩ := open_field Tryd.underlying25 hf hlt 0 3 0 1 rfl k3
  obtain ⟨_, _, h1, _⟩ := open_field Tryd.underlying25 hf hlt 1 9 1 1 rfl k9
  obtain ⟨_, _, h2, _⟩ := open_field Tryd.underlying25 hf hlt 2 2 2 1 rfl k2
  obtain ⟨_, _, h3, _⟩ := open_field Tryd.underlying25 hf hlt 3 9 3 1 rfl k9
  obtain ⟨_, _, h4, _⟩ := open_field Tryd.underlying25 hf hlt 4 3 4 1 rfl k3
  obtain ⟨z0, e0, _⟩ := DataW.trod_int Tryd.underlying3 h0
  obtain ⟨s1, e1, _, w1⟩ := DataW.trod_string Tryd.underlying9 h1
  obtain ⟨z2, e2, _, w2⟩ := DataW.trod_int Tryd.underlying2 h2
  obtain ⟨s3, e3, _, w3⟩ := DataW.trod_string Tryd.underlying9 h3
  obtain ⟨z4, e4, _⟩ := DataW.trod_int Tryd.underlying3 h4
  simp at e0 e1 e2 e3 e4
  subst e0 e1 e2 e3 e4
  simp [Lit.wf, IntKind.min, IntKind.max, IntKind.signed, IntKind.bits] at w2
  refine ⟨⟨z0, s1.data.toList, z2, s3.data.toList, z4⟩, fun i hi => ?_, ⟨by show -9223372036854775808 ≤ z2; omega, by show z2 ≤ 9223372036854775807; omega⟩, by rw [bytes_len]; exact w1, by rw [bytes_len]; exact w3⟩
  match i, hi with
  | 0, _ => rfl
  | 1, _ => exact congrArg (fun x => some (Value.string x)) (bS_of s1)
  | 2, _ => rfl
  | 3, _ => exact congrArg (fun x => some (Value.string x)) (bS_of s3)
  | 4, _ => rfl
set_option maxRecDepth 100000 in
theorem open_tok {v : Value} {d : DataW H} {p : List MemPlace} {base : Nat} (hv : Value.okWide Tryd.prog W .any base 25 v) (h : DataW.Trod enc Tryd.prog W 0 (fun _ => true) true 25 v d p) (hlt : ∀ x ∈ p, x.block < W.heap.size) :
    ∃ t : Tok, v = tokV t ∧ t.text.length ≤ 9223372036854775807 ∧ t.str.length ≤ 9223372036854775807 := by
  have kN : Tryd.prog.cellsOf 25 = 5 := by kernel_rfl
  obtain ⟨cs, rfl, hsz⟩ := okWide_struct Tryd.underlying25 hv
  rw [kN] at hsz
  obtain ⟨fuel, hf⟩ := h
  obtain ⟨r, hr, -, m1, m2⟩ := trod_tok (cs := cs.toList) hf hlt (by simpa using hsz)
  refine ⟨r, ?_, Nat.le_trans m1 maxLen_le, Nat.le_trans m2 maxLen_le⟩
  obtain ⟨l⟩ := cs
  match l, hsz with
  | [c0, c1, c2, c3, c4], _ =>
    have x0 := hr 0 (by omega)
    have x1 := hr 1 (by omega)
    have x2 := hr 2 (by omega)
    have x3 := hr 3 (by omega)
    have x4 := hr 4 (by omega)
    simp at x0 x1 x2 x3 x4
    subst x0 x1 x2 x3 x4
    rfl
set_option maxRecDepth 100000 in
theorem open_toks {v : Value} {d : DataW H} {p : List MemPlace} {base : Nat} (hv : Value.okWide Tryd.prog W .any base 27 v) (h : DataW.Trod enc Tryd.prog W 0 (fun _ => true) true 27 v d p) (hlt : ∀ x ∈ p, x.block < W.heap.size) :
    ∃ (A : Option Addr) (l : List Tok) (c : Nat), v = .slice A l.length c ∧ l.length ≤ 9223372036854775807 ∧ (A = none → l.length = 0 ∧ c = 0) ∧ RTks W W.heap.size A l ∧ (∀ t ∈ l, I64 t) ∧ l.length ≤ c := by
  have k4 : Tryd.prog.cellsOf 25 = 5 := by kernel_rfl
  obtain ⟨a0, n0, c0, rfl⟩ := okWide_slice Tryd.underlying27 hv
  obtain ⟨fuel, hf⟩ := h
  obtain ⟨A, n, c, hcs, hnc, hcm, hA, hrow⟩ := open_trod Tryd.underlying27 k4 (by omega) hf hlt
  have hcs' : [Value.slice a0 n0 c0] = [.slice A n c] := hcs
  injection hcs' with hcs' _
  injection hcs' with e1 e2 e3
  subst e1 e2 e3
  have hex : ∃ l : List Tok, l.length = n0 ∧ ∀ (j : Nat) (x : Tok), l[j]? = some x → I64 x ∧ ∀ b off, a0 = some ⟨b, off, none⟩ → ∀ i, i < 5 → W.cell? ⟨b, off + j * 5 + i, none⟩ = some (tkCell x i) := by
    refine exists_list (fun j (x : Tok) => I64 x ∧ ∀ b off, a0 = some ⟨b, off, none⟩ → ∀ i, i < 5 → W.cell? ⟨b, off + j * 5 + i, none⟩ = some (tkCell x i)) n0 (fun j hj => ?_)
    obtain ⟨b, off, rfl, hb, hcells⟩ := hrow (by omega)
    obtain ⟨cs, fuel', x', hl, hc, htr, hlt'⟩ := hcells j hj
    obtain ⟨r, hr, hi64, _, _⟩ := trod_tok htr hlt' hl
    refine ⟨r, hi64, fun b' off' heq i hi => ?_⟩
    injection heq with heq
    injection heq with q1 q2
    subst q1 q2
    rw [hc i hi, hr i hi]
  obtain ⟨l, hl, hq⟩ := hex
  subst hl
  refine ⟨a0, l, c0, rfl, Nat.le_trans hnc (Nat.le_trans hcm maxLen_le), hA, fun hn => ?_, fun t ht => ?_, hnc⟩
  · obtain ⟨b, off, hAe, hb, _⟩ := hrow (by omega)
    exact ⟨b, off, hAe, hb, fun k hk i hi => (hq k _ (show l[k]? = some (tkAt l k) from by rw [tkAt_get hk]; exact List.getElem?_eq_getElem hk)).2 b off hAe i hi⟩
  · obtain ⟨k, hk, rfl⟩ := List.mem_iff_getElem.1 ht
    exact (hq k _ (List.getElem?_eq_getElem hk)).1
end
end Go.Proofs.YtmhnocgoknmljaaDoor
