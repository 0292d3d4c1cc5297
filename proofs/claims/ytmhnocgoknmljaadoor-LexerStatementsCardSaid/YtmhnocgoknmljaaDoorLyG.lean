/-
  CONTRACTS of the reference's Valids and Join.
  Conditions: those that each theorem names.
-/
import Derived.Test.YtmhnocgoknmljaaDoorLyF
import Derived.Test.YtmhnocgoknmljaaDoorLyB
namespace Go.Proofs.YtmhnocgoknmljaaDoor
open Go.RowKit Go.Sv Go.Lx
def vTo (l : List Tok) (k : Nat) : List Tok := (l.take k).filter validT
theorem vTo_len (l : List Tok) (k : Nat) : (vTo l k).length ≤ k := Nat.le_trans (List.length_filter_le _ _) (by rw [List.length_take]; omega)
theorem vTo_yes {l : List Tok} {k : Nat} (h : k < l.length) (hv : validT (tkAt l k) = true) : vTo l (k + 1) = vTo l k ++ [tkAt l k] := by
  unfold vTo
  rw [List.take_succ_eq_append_getElem h, List.filter_append, ← tkAt_get h, List.filter_cons_of_pos hv]; rfl
theorem vTo_no {l : List Tok} {k : Nat} (h : k < l.length) (hv : validT (tkAt l k) = false) : vTo l (k + 1) = vTo l k := by
  unfold vTo
  rw [List.take_succ_eq_append_getElem h, List.filter_append, ← tkAt_get h, List.filter_cons_of_neg (by rw [hv]; decide)]; simp
theorem vTo_end (l : List Tok) : vTo l l.length = l.filter validT := by unfold vTo; rw [List.take_length]
set_option maxHeartbeats 1000000 in
set_option maxRecDepth 100000 in
theorem valids_any (A : Option Addr) (c : Nat) (l : List Tok) (w : World) (ht : Tb w) (ha : RTks w w.heap.size A l) (hf : ∀ t ∈ l, t.text.length ≤ 100000) (hn : l.length ≤ 1000000) :
    Calls Tryd.prog 17 #[.slice A l.length c] w (Ret (OwnR w (l.filter validT))) := by
  have hff := Lib.hid (fun k (h : k < l.length) => (show (tkAt l k).text.length ≤ 100000 from by rw [tkAt_get h]; exact hf _ (List.getElem_mem h)))
  have hend := Lib.hid (vTo_end l)
  go_enter Tryd.func17, Tryd.ntmps17
  go_wp2
  go_loopw [3, 4] (fun s3 s4 wr => ∃ k : Nat, s4 = .int .i64 k ∧ k ≤ l.length ∧ wr.ownsRow w.heap.size 25 5 s3 (vTo l k).length (tkRow (vTo l k)) ∧ Below w.heap.size w wr) (fun _ s4 _ => l.length - (intOf s4).toNat)
  case atStart => exact ⟨0, rfl, Nat.zero_le _, World.ownsRow_nil _ _ _ _, Below.refl _ _⟩
  case round =>
    obtain ⟨k, rfl, hk, hown, hbel⟩ := hrel
    have hB := hbel.size
    have hvl := vTo_len l k
    by_cases hlt : k < l.length
    · obtain ⟨b, off, rfl, hb, hcl⟩ := ha (by omega)
      obtain ⟨c0, c1, c2, c3, c4⟩ := tk_cells (w := wr) (fun i hi => (hbel.cell (p := ⟨b, off + k * 5 + i, none⟩) hb).trans (hcl k hlt i hi))
      have j1 : (k : Int) < (l.length : Int) := by omega
      have hyes := Lib.hid (fun hv => vTo_yes hlt hv)
      have hno := Lib.hid (fun hv => vTo_no hlt hv)
      have hfk := hff.out k hlt
      obtain ⟨t, htt⟩ : ∃ t, tkAt l k = t := ⟨_, rfl⟩
      rw [htt] at c0 c1 c2 c3 c4 hyes hno hfk
      obtain ⟨vs, hvs⟩ : ∃ vs, vTo l k = vs := ⟨_, rfl⟩
      rw [hvs] at hown hyes hno hvl
      have HV := Lib.hid (rvalid_any t wr (ht.to hbel) hfk)
      dsimp only [tokV] at HV
      have hbw : b < wr.heap.size := by omega
      replace ha := Lib.hid ha
      clear hcl htt hvs
      cases hv : validT t with
      | false =>
        have hN := Lib.hid (hno.out hv)
        rw [hv] at HV
        clear hv hyes hno
        go_wp2_with fail
        refine HV.out.mono ?_
        rintro e w2 ⟨rfl, hb2⟩
        have hO := Lib.hid (own_to hown hb2)
        have hF := Lib.hid (hbel.trans (hb2.mono hB))
        clear hown hbel hb2 HV
        go_wp2
        go_roundw
        case rel => exact ⟨k + 1, by go_num, hlt, by rw [hN.out]; exact hO.out, hF.out⟩
        case measure => simp [intOf]; omega
      | true =>
        have hN := Lib.hid (hyes.out hv)
        rw [hv] at HV
        clear hv hyes hno
        go_wp2_with fail
        refine HV.out.mono ?_
        rintro e w2 ⟨rfl, hb2⟩
        have d0 := (hb2.cell (p := ⟨b, off + k * 5, none⟩) hbw).trans c0
        have d1 := (hb2.cell (p := ⟨b, off + k * 5 + 1, none⟩) hbw).trans c1
        have d2 := (hb2.cell (p := ⟨b, off + k * 5 + 2, none⟩) hbw).trans c2
        have d3 := (hb2.cell (p := ⟨b, off + k * 5 + 3, none⟩) hbw).trans c3
        have d4 := (hb2.cell (p := ⟨b, off + k * 5 + 4, none⟩) hbw).trans c4
        have hO := Lib.hid (own_to hown hb2)
        have hF := Lib.hid (hbel.trans (hb2.mono hB))
        have hB2 := hF.out.size
        clear hown hbel hb2 HV c0 c1 c2 c3 c4
        go_wp2_with (at_builtin; refine push_own elTok rfl _ _ rfl w.heap.size _ vs.length (tkRow vs) hO.out rfl [.int .i64 t.kind, .string (bS t.text), .int .i64 t.int, .string (bS t.str), .int .i64 t.line] rfl rfl rfl (by omega) (by omega) hB2 ?_)
        intro v' w5 hown5 hg5 hb5 hs5 _
        have hO5 : Hid (w5.ownsRow w.heap.size 25 5 v' (vs ++ [t]).length (tkRow (vs ++ [t]))) := Lib.hid (by rw [tkRow_snoc, List.length_append]; exact hown5)
        have hF5 := Lib.hid (hF.out.trans hb5)
        clear hown5 hg5 hb5 d0 d1 d2 d3 d4
        go_wp2
        go_roundw
        case rel => exact ⟨k + 1, by go_num, hlt, by rw [hN.out]; exact hO5.out, hF5.out⟩
        case measure => simp [intOf]; omega
    · obtain rfl : k = l.length := by omega
      rw [hend.out] at hown
      have hR : Hid (OwnR w (l.filter validT) _ wr) := Lib.hid ⟨hown, hbel⟩
      clear hown hbel hlt
      go_wp2
      go_ret
      exact Ret.mk hR.out

/-! ### Join of the reference -/
def lastAt (vs : List Tok) (i : Nat) : Tok := if i = 0 then rd0 else tkAt vs (i - 1)
structure JR (vs : List Tok) (i : Nat) (acc : Bs) : Prop where
  le : i ≤ vs.length
  len : acc.length ≤ 3001 * i
  eq : joinV rd0 vs = acc ++ joinV (lastAt vs i) (vs.drop i)
theorem JR.start (vs : List Tok) : JR vs 0 [] := ⟨Nat.zero_le _, Nat.zero_le _, rfl⟩
theorem JR.take {vs : List Tok} {i : Nat} {acc : Bs} (q : JR vs i acc) (h : i < vs.length) (hw : (word (tkAt vs i)).length ≤ 3000) : JR vs (i + 1) (acc ++ (if apartB (lastAt vs i) (tkAt vs i) = true then [32] else []) ++ word (tkAt vs i)) := by
  refine ⟨h, ?_, ?_⟩
  · have := q.len
    have h1 : (if apartB (lastAt vs i) (tkAt vs i) = true then ([32] : Bs) else []).length ≤ 1 := by split <;> simp
    rw [List.length_append, List.length_append, Nat.mul_add]
    omega
  · rw [q.eq, List.drop_eq_getElem_cons h, ← tkAt_get h]
    conv => lhs; rw [joinV]
    have e : lastAt vs (i + 1) = tkAt vs i := rfl
    rw [e]
    simp only [List.append_assoc]
theorem JR.fin {vs : List Tok} {acc : Bs} (q : JR vs vs.length acc) : acc = joinV rd0 vs := by
  rw [q.eq, List.drop_length]; simp [joinV]
theorem ap_zero (t : Tok) : apartB rd0 t = false := rfl
/-- two neighbours of a list of tokens, read by themselves -/
theorem tks_two {w : World} {b off k : Nat} {l : List Tok} (h : ∀ j, j < l.length → ∀ i, i < 5 → w.cell? ⟨b, off + j * 5 + i, none⟩ = some (tkF l j i)) (hb : b < w.heap.size) (hk : k + 1 < l.length) :
    RTks w w.heap.size (some ⟨b, off + k * 5, none⟩) [tkAt l k, tkAt l (k + 1)] := fun _ => by
  refine ⟨b, off + k * 5, rfl, hb, fun j hj i hi => ?_⟩
  match j, hj with
  | 0, _ => simpa [tkF, tkAt] using h k (by omega) i hi
  | 1, _ =>
    have := h (k + 1) hk i hi
    rw [show off + k * 5 + 1 * 5 + i = off + (k + 1) * 5 + i by omega, this]
    rfl
end Go.Proofs.YtmhnocgoknmljaaDoor
