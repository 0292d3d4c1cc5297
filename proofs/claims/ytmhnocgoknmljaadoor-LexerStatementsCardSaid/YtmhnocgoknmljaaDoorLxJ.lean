/-
  CONTRACTS of the reference's Unquote, and of the program's number.
  Conditions: those that each theorem names.
-/
import Derived.Test.YtmhnocgoknmljaaDoorLxI
namespace Go.Proofs.YtmhnocgoknmljaaDoor
open Go.RowKit Go.Sv Go.Lx
theorem unq_fT (l : Bs) : unqB l = (match fT l with
    | some (t, n) => if n = l.length then some t else none
    | none => none) := by
  cases l with
  | nil => rfl
  | cons c r =>
    unfold unqB fT
    simp only
    split
    · cases rd r with
      | none => rfl
      | some p => rfl
    · rfl
theorem fT_pos {l t : Bs} {n : Nat} (h : fT l = some (t, n)) : 2 ≤ n ∧ n ≤ l.length := by
  cases l with
  | nil => cases h
  | cons c r =>
    unfold fT at h
    simp only at h
    split at h
    · cases hr : rd r with
      | none => rw [hr] at h; cases h
      | some p =>
        rw [hr] at h
        obtain ⟨t', k⟩ := p
        have := rd_le hr
        simp at h
        obtain ⟨-, rfl⟩ := h
        simp; omega
    · cases h
set_option maxRecDepth 100000 in
theorem rUnquote_any (l : Bs) (w : World) (hn : l.length ≤ 1000000) :
    Calls Tryd.prog 27 #[.string (bS l)] w fun e w' => e = .returned (uqTup l) ∧ Below w.heap.size w w' := by
  have hsz := Lib.hid (bS_size l)
  have HF := Lib.hid (first_any l w hn)
  have hU := unq_fT l
  cases hf : fT l with
  | none =>
    rw [hf] at HF hU
    have hR : Hid (uqTup l = .tuple #[.string (bS []), .int .i64 2]) := Lib.hid (uq_none hU)
    dsimp only [fVal] at HF
    clear hf hU
    go_enter Tryd.func27, Tryd.ntmps27
    go_wp2_with fail
    refine HF.out.mono ?_
    rintro e w1 ⟨rfl, hb⟩
    have S := Lib.hid ((((Fm.init w).call hb).box 69 [.string ⟨#[]⟩, .int .i64 0]))
    replace hb := Lib.hid hb
    go_wp2
    refine bodyPost_ret (v := .tuple #[.string (bS []), .int .i64 2]) (by simp [results, Tryd.results27, go_sem]) rfl ?_
    rw [hR.out]
    exact ⟨rfl, S.out.bel⟩
  | some p =>
    obtain ⟨t, n⟩ := p
    rw [hf] at HF hU
    have h2 := fT_pos hf
    dsimp only [fVal] at HF
    clear hf
    by_cases hnl : n = l.length
    · subst hnl
      have hR : Hid (uqTup l = .tuple #[.string (bS t), .int .i64 0]) := Lib.hid (uq_some (by rw [hU]; exact if_pos rfl))
      have t1 : ((l.length : Int) == 0) = false := beq_eq_false_iff_ne.2 (by omega)
      have t1' : (l.length == 0) = false := beq_eq_false_iff_ne.2 (by omega)
      have t3 : l.isEmpty = false := isE_false (by intro h; subst h; simp at h2)
      clear hU
      go_enter Tryd.func27, Tryd.ntmps27
      go_wp2_with fail
      refine HF.out.mono ?_
      rintro e w1 ⟨rfl, hb⟩
      have S := Lib.hid (((Fm.init w).call hb).box 69 [.string (bS t), .int .i64 (l.length : Int)])
      replace hb := Lib.hid hb
      obtain ⟨⟨zR, fR, yR, yR1, -⟩, -⟩ := S.out.facts
      go_wp2
      refine bodyPost_ret (v := .tuple #[.string (bS t), .int .i64 0]) (by simp [results, Tryd.results27, go_sem]) rfl ?_
      rw [hR.out]
      exact ⟨rfl, S.out.bel⟩
    · have hR : Hid (uqTup l = .tuple #[.string (bS []), .int .i64 2]) := Lib.hid (uq_none (by rw [hU]; exact if_neg hnl))
      have t1 : ((n : Int) == 0) = false := by simp; omega
      have t1' : (n == 0) = false := by simp; omega
      have t2 : ((n : Int) == (l.length : Int)) = false := by simp; omega
      have t2' : (n == l.length) = false := by simp; omega
      clear hU hnl
      go_enter Tryd.func27, Tryd.ntmps27
      go_wp2_with fail
      refine HF.out.mono ?_
      rintro e w1 ⟨rfl, hb⟩
      have S := Lib.hid (((Fm.init w).call hb).box 69 [.string (bS t), .int .i64 (n : Int)])
      replace hb := Lib.hid hb
      obtain ⟨⟨zR, fR, yR, yR1, -⟩, -⟩ := S.out.facts
      go_wp2
      refine bodyPost_ret (v := .tuple #[.string (bS []), .int .i64 2]) (by simp [results, Tryd.results27, go_sem]) rfl ?_
      rw [hR.out]
      exact ⟨rfl, S.out.bel⟩
end Go.Proofs.YtmhnocgoknmljaaDoor
