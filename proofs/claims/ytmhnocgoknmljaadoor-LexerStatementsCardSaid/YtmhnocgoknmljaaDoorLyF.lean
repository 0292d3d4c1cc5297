/-
  CONTRACT of the program's Join.
  Conditions: those that each theorem names.
-/
import Derived.Test.YtmhnocgoknmljaaDoorLyE
import Derived.Lib.ItoaLen
namespace Go.Proofs.YtmhnocgoknmljaaDoor
open Go.RowKit Go.Sv Go.Lx
/-- a token of a short list -/
structure Fw (t : Tok) : Prop where
  tx : t.text.length ≤ 100
  st : t.str.length ≤ 100
  i64 : I64 t
theorem flat_le (s : Bs) : (s.flatMap esc).length ≤ 4 * s.length := by
  induction s with
  | nil => simp
  | cons c s ih =>
    have := esc_le c
    rw [List.flatMap_cons, List.length_append, List.length_cons]
    omega
theorem word_le {t : Tok} (h : Fw t) : (word t).length ≤ 3000 := by
  unfold word
  split
  · have := Lib.itoa_length_le t.int h.i64.1 h.i64.2
    omega
  · split
    · have := flat_le t.str
      have := h.st
      unfold qform
      simp only [List.length_cons, List.length_append, List.length_nil]
      omega
    · have := h.tx
      omega
theorem valid_text {t : Tok} (hv : validT t = true) (h4 : t.kind = 4) : 0 < t.text.length := by
  obtain ⟨c, r, e, -, -, -, -, h⟩ := head_word hv
  rw [(h h4).1]; simp
theorem rd0_fw : Fw rd0 := ⟨by decide, by decide, ⟨by decide, by decide⟩⟩
set_option maxHeartbeats 2000000 in
set_option maxRecDepth 100000 in
theorem join_any (A : Option Addr) (c : Nat) (l : List Tok) (w : World) (ht : Tb w) (ha : RTks w w.heap.size A l) (hf : ∀ t ∈ l, Fw t) (hn : l.length ≤ 1000) :
    Calls Tryd.prog 21 #[.slice A l.length c] w fun e w' => e = .returned (.string (bS (joinV rd0 (l.filter validT)))) ∧ Below w.heap.size w w' := by
  have S0 := Lib.hid ((JB.new w).box (tkCells rd0))
  have hff := Lib.hid (fun k (h : k < l.length) => (show Fw (tkAt l k) from by rw [tkAt_get h]; exact hf _ (List.getElem_mem h)))
  go_enter Tryd.func21, Tryd.ntmps21
  go_wp2
  go_loopw [9] (fun s9 wr => ∃ (k : Nat) (last : Tok) (acc : Bs), s9 = .int .i64 k ∧ JI l k last acc ∧ JB w wr acc [⟨w.heap.size + 1, 25, tkCells last⟩]) (fun s9 _ => l.length - (intOf s9).toNat)
  case atStart => exact ⟨0, rd0, [], rfl, JI.start l, by have := S0.out; rw [World.size_alloc] at this; exact this⟩
  case round =>
    obtain ⟨k, last, acc, rfl, q, S⟩ := hrel
    have q1 := q.le
    have q2 := q.len
    replace q := Lib.hid q
    by_cases hlt : k < l.length
    · obtain ⟨b, off, rfl, hb, hcl⟩ := ha (by omega)
      obtain ⟨c0, c1, c2, c3, c4⟩ := tk_cells (w := wr) (fun i hi => (S.fm.bel.cell (p := ⟨b, off + k * 5 + i, none⟩) hb).trans (hcl k hlt i hi))
      have hfk := hff.out k hlt
      have hsk := Lib.hid (fun hv => q.out.skip hlt hv)
      have htk := Lib.hid (fun hv => q.out.take hlt hv (word_le hfk))
      have j1 : (k : Int) < (l.length : Int) := by omega
      obtain ⟨t, htt⟩ : ∃ t, tkAt l k = t := ⟨_, rfl⟩
      rw [htt] at c0 c1 c2 c3 c4 hfk hsk htk
      have hbel := S.fm.bel
      have hltw := S.lt
      have hbw : b < wr.heap.size := by have := hbel.size; omega
      have hS1 := Lib.hid (S.box (tkCells t))
      have HV := Lib.hid (valid_any t _ (ht.to hS1.out.fm.bel) (by have := hfk.tx; omega))
      have hfk' := Lib.hid hfk
      replace ha := Lib.hid ha
      clear hcl htt hbel S hfk
      obtain ⟨⟨z1, f1, y10, y11, y12, y13, y14, -⟩, ⟨z0, f0, y00, y01, y02, y03, y04, -⟩, -⟩ := hS1.out.fm.facts
      dsimp only [tokV] at HV
      cases hv : validT t with
      | false =>
        have hsk' := Lib.hid (hsk.out hv)
        rw [hv] at HV
        clear hv hsk htk
        go_wp2_with fail
        refine HV.out.mono ?_
        rintro e w2 ⟨rfl, hb2⟩
        have hF := Lib.hid ((hS1.out.call hb2).drop [⟨w.heap.size + 1, 25, tkCells last⟩] (List.sublist_cons_self _ _))
        clear hb2 HV
        go_wp2
        go_roundw
        case rel => exact ⟨k + 1, last, acc, by go_num, hsk'.out, hF.out⟩
        case measure => simp [intOf]; omega
      | true =>
        have htk' := Lib.hid (htk.out hv)
        rw [hv] at HV
        have hb0 := Lib.hid (fun (h4 : t.kind = 4) => valid_text hv h4)
        clear hv hsk htk
        go_wp2_with fail
        refine HV.out.mono ?_
        rintro e w2 ⟨rfl, hb2⟩
        have S := Lib.hid (hS1.out.call hb2)
        clear y10 y11 y12 y13 y14 z1 f1 y00 y01 y02 y03 y04 z0 f0 hb2 HV
        obtain ⟨⟨z1, f1, y10, y11, y12, y13, y14, -⟩, ⟨z0, f0, y00, y01, y02, y03, y04, -⟩, -⟩ := S.out.fm.facts
        have HA := Lib.hid (apart_any last t w2 hb0.out)
        dsimp only [tokV] at HA
        cases hap : apartB last t with
        | true =>
          rw [hap] at HA htk'
          clear hap
          go_wp2_with fail
          refine HA.out.mono ?_
          rintro e w3 ⟨rfl, hb3⟩
          replace S := Lib.hid (S.out.call hb3)
          clear y10 y11 y12 y13 y14 z1 f1 y00 y01 y02 y03 y04 z0 f0 hb3 HA
          have HB := Lib.hid (S.out.byte 32 (by omega))
          go_wp2_with fail
          refine HB.out.mono ?_
          rintro e w4 ⟨rfl, S4⟩
          replace S := Lib.hid S4
          clear S4 HB
          obtain ⟨⟨z1, f1, y10, y11, y12, y13, y14, -⟩, ⟨z0, f0, y00, y01, y02, y03, y04, -⟩, -⟩ := S.out.fm.facts
          have HX := Lib.hid (text_any t _ (ht.to S.out.fm.bel) hfk'.out.i64 (by have := hfk'.out.st; omega))
          dsimp only [tokV] at HX
          go_wp2_with fail
          refine HX.out.mono ?_
          rintro e w5 ⟨rfl, hb5⟩
          replace S := Lib.hid (S.out.call hb5)
          clear y10 y11 y12 y13 y14 z1 f1 y00 y01 y02 y03 y04 z0 f0 hb5 HX
          obtain ⟨⟨z1, f1, y10, y11, y12, y13, y14, -⟩, ⟨z0, f0, y00, y01, y02, y03, y04, -⟩, -⟩ := S.out.fm.facts
          have HY := Lib.hid (S.out.str (word t) (by rw [List.length_append, List.length_singleton]; omega) (by have := word_le hfk'.out; omega))
          go_wp2_with fail
          refine HY.out.mono ?_
          rintro e w6 ⟨rfl, S6⟩
          replace S := Lib.hid S6
          clear y10 y11 y12 y13 y14 z1 f1 y00 y01 y02 y03 y04 z0 f0 S6 HY
          obtain ⟨⟨z1, f1, y10, y11, y12, y13, y14, -⟩, ⟨z0, f0, y00, y01, y02, y03, y04, -⟩, -⟩ := S.out.fm.facts
          have hF := Lib.hid ((((((S.out.set 1 rfl 0 (.int .i64 t.kind)).set 1 rfl 1 (.string (bS t.text))).set 1 rfl 2 (.int .i64 t.int)).set 1 rfl 3 (.string (bS t.str))).set 1 rfl 4 (.int .i64 t.line)).drop [⟨w.heap.size + 1, 25, tkCells t⟩] (List.sublist_cons_self _ _))
          go_wp2
          go_roundw
          case rel => exact ⟨k + 1, t, _, by go_num, htk'.out, hF.out⟩
          case measure => simp [intOf]; omega
        | false =>
          rw [hap] at HA htk'
          clear hap
          go_wp2_with fail
          refine HA.out.mono ?_
          rintro e w3 ⟨rfl, hb3⟩
          replace S := Lib.hid (S.out.call hb3)
          clear y10 y11 y12 y13 y14 z1 f1 y00 y01 y02 y03 y04 z0 f0 hb3 HA
          obtain ⟨⟨z1, f1, y10, y11, y12, y13, y14, -⟩, ⟨z0, f0, y00, y01, y02, y03, y04, -⟩, -⟩ := S.out.fm.facts
          have HX := Lib.hid (text_any t _ (ht.to S.out.fm.bel) hfk'.out.i64 (by have := hfk'.out.st; omega))
          dsimp only [tokV] at HX
          go_wp2_with fail
          refine HX.out.mono ?_
          rintro e w5 ⟨rfl, hb5⟩
          replace S := Lib.hid (S.out.call hb5)
          clear y10 y11 y12 y13 y14 z1 f1 y00 y01 y02 y03 y04 z0 f0 hb5 HX
          obtain ⟨⟨z1, f1, y10, y11, y12, y13, y14, -⟩, ⟨z0, f0, y00, y01, y02, y03, y04, -⟩, -⟩ := S.out.fm.facts
          have HY := Lib.hid (S.out.str (word t) (by omega) (by have := word_le hfk'.out; omega))
          go_wp2_with fail
          refine HY.out.mono ?_
          rintro e w6 ⟨rfl, S6⟩
          replace S := Lib.hid S6
          clear y10 y11 y12 y13 y14 z1 f1 y00 y01 y02 y03 y04 z0 f0 S6 HY
          obtain ⟨⟨z1, f1, y10, y11, y12, y13, y14, -⟩, ⟨z0, f0, y00, y01, y02, y03, y04, -⟩, -⟩ := S.out.fm.facts
          have hF := Lib.hid ((((((S.out.set 1 rfl 0 (.int .i64 t.kind)).set 1 rfl 1 (.string (bS t.text))).set 1 rfl 2 (.int .i64 t.int)).set 1 rfl 3 (.string (bS t.str))).set 1 rfl 4 (.int .i64 t.line)).drop [⟨w.heap.size + 1, 25, tkCells t⟩] (List.sublist_cons_self _ _))
          go_wp2
          go_roundw
          case rel => exact ⟨k + 1, t, _, by go_num, by have := htk'.out; simpa using this, hF.out⟩
          case measure => simp [intOf]; omega
    · obtain rfl : k = l.length := by omega
      have hacc := Lib.hid q.out.fin
      have H2 := Lib.hid S.fin
      clear S hlt q
      go_wp2_with fail
      refine H2.out.mono ?_
      rintro e w3 ⟨rfl, hb⟩
      replace hb := Lib.hid hb
      go_wp2
      go_ret
      rw [← hacc.out]
      exact ⟨rfl, hb.out⟩
end Go.Proofs.YtmhnocgoknmljaaDoor
