/-
  CERTAIN VERDICTS and the curtailed test, as plain data. No program in sight.
  Conditions: none.
-/
import Derived.Test.YtbpgpjmihbmcbaaDoorHeaP
namespace Go.Sv
open Go.RowKit

def certF (t : Tst) : Nat → Nat → Int → Int
  | 0, n, f => atV t n f
  | d + 1, n, f => if atV t n f ≠ 0 then atV t n f else if certF t d (n + 1) f = certF t d (n + 1) (f + 1) then certF t d (n + 1) f else 0
def cert (t : Tst) (n : Nat) (f : Int) : Int := certF t (t.acc.length - n) n f
theorem cert_last (t : Tst) (f : Int) : cert t t.acc.length f = atV t t.acc.length f := by
  have e : t.acc.length - t.acc.length = 0 := by omega
  unfold cert; rw [e]; rfl
theorem cert_at {t : Tst} {n : Nat} {f : Int} (h : atV t n f ≠ 0) : cert t n f = atV t n f := by
  unfold cert
  cases t.acc.length - n with
  | zero => rfl
  | succ d => rw [certF, if_pos h]
theorem cert_step {t : Tst} {n : Nat} {f : Int} (hn : n < t.acc.length) (h : atV t n f = 0) : cert t n f = if cert t (n + 1) f = cert t (n + 1) (f + 1) then cert t (n + 1) f else 0 := by
  unfold cert
  obtain ⟨d, hd⟩ : ∃ d, t.acc.length - n = d + 1 := ⟨t.acc.length - n - 1, by omega⟩
  have e : t.acc.length - (n + 1) = d := by omega
  rw [hd, e, certF, if_neg (by simp [h])]
theorem atV_012 (t : Tst) (n : Nat) (f : Int) : atV t n f = 0 ∨ atV t n f = 1 ∨ atV t n f = 2 := by
  unfold atV
  split
  · exact Or.inr (Or.inl rfl)
  · split
    · exact Or.inr (Or.inr rfl)
    · exact Or.inl rfl
theorem certF_012 (t : Tst) : ∀ (d n : Nat) (f : Int), certF t d n f = 0 ∨ certF t d n f = 1 ∨ certF t d n f = 2
  | 0, n, f => atV_012 t n f
  | d + 1, n, f => by
    rw [certF]
    split
    · exact atV_012 t n f
    · split
      · exact certF_012 t d (n + 1) f
      · exact Or.inl rfl
theorem cert_012 (t : Tst) (n : Nat) (f : Int) : cert t n f = 0 ∨ cert t n f = 1 ∨ cert t n f = 2 := certF_012 t _ n f
/-- the row of number n: f = 0 .. n -/
def rowC (t : Tst) (n : Nat) : List Int := (List.range (n + 1)).map (fun (f : Nat) => cert t n f)
theorem rowC_len (t : Tst) (n : Nat) : (rowC t n).length = n + 1 := by simp [rowC]
theorem rowC_get {t : Tst} {n f : Nat} (h : f ≤ n) : gi (rowC t n) f = cert t n f := by
  have hl : f < n + 1 := by omega
  simp [gi, rowC, hl]

def bndA (l : List Int) : Nat → Int
  | 0 => -1
  | k + 1 => if gi l k = 1 then k else bndA l k
def bndR (l : List Int) : Nat → Int
  | 0 => l.length
  | k + 1 => if gi l k = 2 ∧ bndR l k = l.length then k else bndR l k
theorem bndA_1 {l : List Int} {k : Nat} (h : gi l k = 1) : bndA l (k + 1) = k := by rw [bndA, if_pos h]
theorem bndA_n {l : List Int} {k : Nat} (h : gi l k ≠ 1) : bndA l (k + 1) = bndA l k := by rw [bndA, if_neg h]
theorem bndR_2 {l : List Int} {k : Nat} (h : gi l k = 2) (h2 : bndR l k = l.length) : bndR l (k + 1) = k := by rw [bndR, if_pos ⟨h, h2⟩]
theorem bndR_n {l : List Int} {k : Nat} (h : ¬ (gi l k = 2 ∧ bndR l k = l.length)) : bndR l (k + 1) = bndR l k := by rw [bndR, if_neg h]
theorem bndR_or (l : List Int) : ∀ k, bndR l k = l.length ∨ 0 ≤ bndR l k ∧ bndR l k < k
  | 0 => Or.inl rfl
  | k + 1 => by
    by_cases h : gi l k = 2 ∧ bndR l k = l.length
    · rw [bndR_2 h.1 h.2]; omega
    · rw [bndR_n h]
      rcases bndR_or l k with h | h
      · exact Or.inl h
      · exact Or.inr (by omega)
theorem bndA_bd (l : List Int) : ∀ k, -1 ≤ bndA l k ∧ bndA l k < k
  | 0 => by simp [bndA]
  | k + 1 => by
    by_cases h : gi l k = 1
    · rw [bndA_1 h]; omega
    · rw [bndA_n h]
      have := bndA_bd l k
      omega
def curA (t : Tst) (n : Nat) : Int := bndA (rowC t n) (n + 1)
def curR (t : Tst) (n : Nat) : Int := bndR (rowC t n) (n + 1)
theorem curA_bd (t : Tst) (n : Nat) : -1 ≤ curA t n ∧ curA t n ≤ n := by have := bndA_bd (rowC t n) (n + 1); unfold curA; omega
theorem curR_bd (t : Tst) (n : Nat) : 0 ≤ curR t n ∧ curR t n ≤ n + 1 := by
  unfold curR
  rcases bndR_or (rowC t n) (n + 1) with h | h
  · rw [rowC_len] at h; omega
  · omega
def curAl (t : Tst) (k : Nat) : List Int := (List.range k).map (fun i => curA t (i + 1))
def curRl (t : Tst) (k : Nat) : List Int := (List.range k).map (fun i => curR t (i + 1))
theorem curAl_succ (t : Tst) (k : Nat) : curAl t (k + 1) = curAl t k ++ [curA t (k + 1)] := by simp [curAl, List.range_succ]
theorem curRl_succ (t : Tst) (k : Nat) : curRl t (k + 1) = curRl t k ++ [curR t (k + 1)] := by simp [curRl, List.range_succ]
def curT (t : Tst) : Tst := ⟨(List.range t.acc.length).map (fun i => curA t (i + 1)), (List.range t.acc.length).map (fun i => curR t (i + 1))⟩
theorem curT_al (t : Tst) : (curT t).acc = curAl t t.acc.length ∧ (curT t).rej = curRl t t.acc.length := ⟨rfl, rfl⟩
theorem curT_len (t : Tst) : (curT t).acc.length = t.acc.length ∧ (curT t).rej.length = t.acc.length := by simp [curT]
end Go.Sv
