/-
  PLAIN: the text of a test, word after word.
  Conditions: those that each theorem names.
-/
import Derived.Test.YtbpgpjmihbmcbaaDoorTxtA
import Derived.Test.YtbpgpjmihbmcbaaDoorHeaP
namespace Go.Lx
open Go Go.Sv
abbrev bS (l : Bs) : ByteArray := ⟨l.toArray⟩
theorem bS_size (l : Bs) : (bS l).size = l.length := by simp [ByteArray.size]
theorem bS_app (a b : Bs) : bS a ++ bS b = bS (a ++ b) := by
  apply ByteArray.ext
  rw [ByteArray.data_append]
  simp
theorem bS_of (s : ByteArray) : s = bS s.data.toList := by
  apply ByteArray.ext
  simp
theorem joinS_snoc (c : UInt8) (w : Bs) : ∀ {ws : List Bs}, ws ≠ [] → joinS c (ws ++ [w]) = joinS c ws ++ c :: w
  | [], h => absurd rfl h
  | [v], _ => rfl
  | v :: x :: ws, _ => by
    have ih := joinS_snoc c w (ws := x :: ws) (by simp)
    rw [List.cons_append] at ih
    rw [List.cons_append, List.cons_append, joinS, ih, joinS]
    simp
def wrd (t : Tst) (i : Nat) : Bs := wordT (gi t.acc i) (gi t.rej i)
def wrds (t : Tst) (k : Nat) : List Bs := (List.range k).map (wrd t)
def txt (t : Tst) (k : Nat) : Bs := joinS 32 (wrds t k)
theorem wrds_len (t : Tst) (k : Nat) : (wrds t k).length = k := by simp [wrds]
theorem wrds_succ (t : Tst) (k : Nat) : wrds t (k + 1) = wrds t k ++ [wrd t k] := by simp [wrds, List.range_succ]
theorem wrds_get {t : Tst} {k i : Nat} (h : i < k) : (wrds t k)[i]? = some (wrd t i) := by simp [wrds, h]
theorem txt_0 (t : Tst) : txt t 0 = [] := rfl
theorem txt_1 (t : Tst) : txt t 1 = wrd t 0 := rfl
theorem txt_succ (t : Tst) {k : Nat} (h : 1 ≤ k) : txt t (k + 1) = txt t k ++ 32 :: wrd t k := by
  unfold txt
  rw [wrds_succ, joinS_snoc]
  intro e
  have := wrds_len t k
  rw [e] at this
  simp at this
  omega
theorem wrd_len {t : Tst} (h : Vld t) {i : Nat} (hi : i < t.acc.length) : (wrd t i).length ≤ 5 := by
  have a := h.lo i hi
  have b := h.ar i hi
  have c := h.hi i hi
  have d := h.n1
  have h1 := itoa_short (n := gi t.acc i) (by omega) (by omega)
  have h2 := itoa_short (n := gi t.rej i) (by omega) (by omega)
  unfold wrd wordT
  simp only [List.length_append, List.length_cons]
  omega
theorem txt_len {t : Tst} (h : Vld t) : ∀ {k : Nat}, k ≤ t.acc.length → (txt t k).length ≤ 6 * k
  | 0, _ => by simp [txt_0]
  | 1, hk => by
    rw [txt_1]
    have := wrd_len h (i := 0) hk
    omega
  | k + 2, hk => by
    have ih := txt_len h (k := k + 1) (by omega)
    have := wrd_len h (i := k + 1) hk
    rw [txt_succ t (by omega), List.length_append, List.length_cons]
    omega
theorem spl_txt {t : Tst} {k : Nat} (h : 1 ≤ k) : spl 32 (txt t k) = wrds t k := by
  unfold txt
  refine spl_joinS (fun e => ?_) fun w hw => ?_
  · have := wrds_len t k
    rw [e] at this
    simp at this
    omega
  · obtain ⟨i, _, rfl⟩ := List.mem_map.1 hw
    exact wordT_no _ _
theorem txt_join (t : Tst) (k : Nat) : Lib.join (wrds t k) [32] = txt t k := (joinS_join 32 _).symm
end Go.Lx
