/-
  CONTRACT of the chapter's examples (awake): it returns true.
  Conditions: none.
-/
import Derived.Test.YtcjnfciemangkaaRepE
import Derived.Test.YtcjnfciemangkaaRepG
namespace Go.Proofs.Ytcjnfciemangkaa
open Go.RowKit Go.Sv

def exP : Prob := ⟨[3, 2], [0, 1], [2, 1], []⟩
def exQ (n : Nat) : ProbP := ⟨some ⟨n, 0, none⟩, 2, some ⟨n + 1, 0, none⟩, 2, some ⟨n + 1 + 1, 0, none⟩, 2, none, 0⟩
theorem exP_bd : PBd exP := ⟨by decide, by decide, by decide, by decide, fun k hk => by simp [exP] at hk⟩
theorem exP_ok : probE exP = 0 := by
  rw [probE_t (by decide) (by decide) (fun i hi => ?_)]
  · rfl
  · match i, hi with
    | 0, _ => unfold svcBad; decide
    | 1, _ => unfold svcBad; decide
theorem ints2 {w' : World} {n : Nat} {t : TypeId} {a b : Int} (h : w'.heap[n]? = some (.cells #[.int .i64 a, .int .i64 b] t (0, 0))) (hn : n < w'.heap.size) : Arr w' w'.heap.size (some ⟨n, 0, none⟩) 2 (iv [a, b]) := fun _ =>
  ⟨n, 0, rfl, hn, fun k hk => by
    have : w'.cell? ⟨n, 0 + k, none⟩ = #[Value.int .i64 a, .int .i64 b][k]? := by simp [World.cell?, h]
    rw [this]
    match k, hk with
    | 0, _ => rfl
    | 1, _ => rfl⟩

def exL : List Rep := [⟨0, 0, true, 0⟩, ⟨0, 0, true, 0⟩, ⟨1, 1, true, 0⟩]
def exM : List Rep := [⟨0, 0, true, 0⟩, ⟨0, 2, true, 4⟩, ⟨1, 1, true, 0⟩]
theorem exS_E : startE exP [2, 1] = 0 := startE_0 exP_ok rfl (fun i hi => by
  match i, hi with
  | 0, _ => unfold nsBad; decide
  | 1, _ => unfold nsBad; decide)
theorem exS_L : startL exP [2, 1] = exL := by rw [startL_ok exS_E]; decide
theorem exA_E (l : List Rep) (h : l = exL ∨ l = exM) : applyE exP l ⟨4, 1, 2⟩ = 0 := by
  rcases h with rfl | rfl <;> exact applyE_0 exP_ok (by decide) (by decide) (by decide) (by decide)
theorem exA_L (l : List Rep) (h : l = exL ∨ l = exM) : applyL exP l ⟨4, 1, 2⟩ = exM := by
  rw [applyL_ok (exA_E l h)]
  rcases h with rfl | rfl <;> decide
theorem exB_E : applyE exP exM ⟨3, 1, 0⟩ = 16 := applyE_16 exP_ok (by decide) (by decide) (by decide) (by decide)
theorem exV : verTo exM 0 exM.length = 5 := by decide

theorem five (w : World) (a b c d e : Obj) : ((((((w.alloc a).alloc b).alloc c).alloc d).alloc e).heap[w.heap.size]? = some a ∧ (((((w.alloc a).alloc b).alloc c).alloc d).alloc e).heap[w.heap.size + 1]? = some b ∧
    (((((w.alloc a).alloc b).alloc c).alloc d).alloc e).heap[w.heap.size + 1 + 1]? = some c ∧ (((((w.alloc a).alloc b).alloc c).alloc d).alloc e).heap[w.heap.size + 1 + 1 + 1]? = some d ∧
    (((((w.alloc a).alloc b).alloc c).alloc d).alloc e).heap[w.heap.size + 1 + 1 + 1 + 1]? = some e) ∧ (((((w.alloc a).alloc b).alloc c).alloc d).alloc e).heap.size = w.heap.size + 5 ∧ Below w.heap.size w (((((w.alloc a).alloc b).alloc c).alloc d).alloc e) := by
  refine ⟨⟨?_, ?_, ?_, ?_, ?_⟩, by simp, (((((Below.refl _ _).alloc (Nat.le_refl _) a).alloc (by simp) b).alloc (by simp; omega) c).alloc (by simp; omega) d).alloc (by simp; omega) e⟩ <;>
  · show (((((w.heap.push a).push b).push c).push d).push e)[_]? = _
    simp only [Array.getElem?_push, Array.size_push]
    repeat (first | rw [if_pos trivial] | rw [if_neg (by omega)] | rw [if_pos (by omega)])

set_option maxHeartbeats 2000000 in
theorem awake_any (w : World) : Calls Try.prog 10 #[] w fun e w' => e = .returned (.bool true) ∧ Below w.heap.size w w' := by
  go_enter Try.func10, Try.ntmps10
  go_wp2_with fail
  obtain ⟨W, hW⟩ : ∃ W : World, W = (((((w.alloc (.cells #[.int .i64 3, .int .i64 2] 3)).alloc (.cells #[.int .i64 0, .int .i64 1] 3)).alloc (.cells #[.int .i64 2, .int .i64 1] 3)).alloc
      (.cells #[.slice (some ⟨w.heap.size, 0, none⟩) 2 2, .slice (some ⟨w.heap.size + 1, 0, none⟩) 2 2, .slice (some ⟨w.heap.size + 1 + 1, 0, none⟩) 2 2, .slice none 0 0] 25)).alloc (.cells #[.int .i64 2, .int .i64 1] 3)) := ⟨_, rfl⟩
  rw [← hW]
  obtain ⟨⟨h0, h1, h2, h3, h4⟩, hsz, hbw⟩ := five w (.cells #[.int .i64 3, .int .i64 2] 3) (.cells #[.int .i64 0, .int .i64 1] 3) (.cells #[.int .i64 2, .int .i64 1] 3)
      (.cells #[.slice (some ⟨w.heap.size, 0, none⟩) 2 2, .slice (some ⟨w.heap.size + 1, 0, none⟩) 2 2, .slice (some ⟨w.heap.size + 1 + 1, 0, none⟩) 2 2, .slice none 0 0] 25) (.cells #[.int .i64 2, .int .i64 1] 3)
  rw [← hW] at h0 h1 h2 h3 h4 hsz hbw
  clear hW
  have hp : Hid (RProb W W.heap.size exP (exQ w.heap.size)) := Lib.hid ⟨ints2 h0 (by omega), ints2 h1 (by omega), ints2 h2 (by omega), ⟨fun _ => ⟨none, 0, none, 0⟩, fun hn => by simp [exP] at hn, fun k hk => by simp [exP] at hk⟩⟩
  have hn : Hid (Arr W W.heap.size (some ⟨w.heap.size + 1 + 1 + 1 + 1, 0, none⟩) [2, (1 : Int)].length (iv [2, 1])) := Lib.hid (ints2 h4 (by omega))
  have hc : ∀ w', Below W.heap.size W w' → w'.cell? ⟨w.heap.size + 1 + 1 + 1, 0, none⟩ = some (.slice (some ⟨w.heap.size, 0, none⟩) 2 2) ∧ w'.cell? ⟨w.heap.size + 1 + 1 + 1, 1, none⟩ = some (.slice (some ⟨w.heap.size + 1, 0, none⟩) 2 2) ∧
      w'.cell? ⟨w.heap.size + 1 + 1 + 1, 2, none⟩ = some (.slice (some ⟨w.heap.size + 1 + 1, 0, none⟩) 2 2) ∧ w'.cell? ⟨w.heap.size + 1 + 1 + 1, 3, none⟩ = some (.slice none 0 0) := fun w' hb => by
    have e : ∀ i, w'.cell? ⟨w.heap.size + 1 + 1 + 1, i, none⟩ = W.cell? ⟨w.heap.size + 1 + 1 + 1, i, none⟩ := fun i => hb.cell (by show w.heap.size + 1 + 1 + 1 < W.heap.size; omega)
    refine ⟨?_, ?_, ?_, ?_⟩ <;> rw [e] <;> simp [World.cell?, h3]
  replace hc := Lib.hid hc
  clear h0 h1 h2 h3 h4
  refine (start_any exP (exQ w.heap.size) _ 2 [2, 1] W hp.out exP_bd hn.out (by decide)).mono ?_
  rintro e w1 ⟨v, rfl, A1, c1, rfl, hA1, hl1, hb1⟩
  rw [exS_E]
  rw [exS_L] at hA1 hl1 ⊢
  replace hA1 := Lib.hid hA1
  replace hl1 := Lib.hid hl1
  obtain ⟨q0, q1, q2, q3⟩ := hc.out w1 hb1
  have hpp1 := Lib.hid (hp.out.to hb1)
  have hz1 : w.heap.size + 1 + 1 + 1 < w1.heap.size := by have := hb1.size; omega
  go_wp2_with fail
  refine (apply_any exP (exQ w.heap.size) A1 c1 exL ⟨4, 1, 2⟩ w1 hpp1.out exP_bd hl1.out hA1.out (by decide)).mono ?_
  rintro e w2 ⟨v, rfl, A2, c2, rfl, hA2, hl2, hb2⟩
  rw [exA_E _ (Or.inl rfl)]
  rw [exA_L _ (Or.inl rfl)] at hA2 hl2 ⊢
  replace hA2 := Lib.hid hA2
  replace hl2 := Lib.hid hl2
  have hb12 := below_of hb1 hb1.size hb2
  clear q0 q1 q2 q3
  obtain ⟨q0, q1, q2, q3⟩ := hc.out w2 hb12
  have hpp2 := Lib.hid (hp.out.to hb12)
  go_wp2_with fail
  refine (apply_any exP (exQ w.heap.size) A2 c2 exM ⟨4, 1, 2⟩ w2 hpp2.out exP_bd hl2.out hA2.out (by decide)).mono ?_
  rintro e w3 ⟨v, rfl, A3, c3, rfl, hA3, hl3, hb3⟩
  rw [exA_E _ (Or.inr rfl)]
  rw [exA_L _ (Or.inr rfl)] at hA3 hl3 ⊢
  replace hA3 := Lib.hid hA3
  replace hl3 := Lib.hid hl3
  have hb13 := below_of hb12 hb12.size hb3
  have hl23 := Lib.hid (RReps.to hl2.out hb3)
  clear q0 q1 q2 q3
  obtain ⟨q0, q1, q2, q3⟩ := hc.out w3 hb13
  have hpp3 := Lib.hid (hp.out.to hb13)
  go_wp2_with fail
  refine (apply_any exP (exQ w.heap.size) A2 c2 exM ⟨3, 1, 0⟩ w3 hpp3.out exP_bd hl23.out hA2.out (by decide)).mono ?_
  rintro e w4 ⟨v, rfl, A4, c4, rfl, hA4, hl4, hb4⟩
  rw [exB_E]
  have hb14 := below_of hb13 hb13.size hb4
  have hl24 := Lib.hid (RReps.to hl23.out hb4)
  have hl34 := Lib.hid (RReps.to hl3.out hb4)
  obtain ⟨bl, ol, rfl, hbl, hcl⟩ := (RReps.to hl1.out (below_of hb2 hb2.size (below_of hb3 hb3.size hb4))) (by decide)
  have hv : w4.cell? ⟨bl, ol + 2 * 4 + 1, none⟩ = some (.int .i64 1) := hcl 2 (by decide) 1 (by omega)
  have hv' : w4.cell? ⟨bl, ol + 8 + 1, none⟩ = some (.int .i64 1) := hv
  have hv2 : w4.cell? ⟨bl, ol + 9, none⟩ = some (.int .i64 1) := hv
  clear q0 q1 q2 q3 hcl
  have hlen : exL.length = 3 := rfl
  rw [hlen]
  go_wp2_with fail
  refine (vers_any A2 c2 exM 0 w4 hl24.out (by decide)).mono ?_
  rintro e w5 ⟨rfl, hb5⟩
  rw [exV]
  have hl25 := Lib.hid (RReps.to hl24.out hb5)
  have hl35 := Lib.hid (RReps.to hl34.out hb5)
  go_wp2_with fail
  refine (sameR_any A2 A3 c2 c3 exM exM w5 w5.heap.size hl25.out hl35.out (by decide) (by decide)).mono ?_
  rintro e w6 ⟨rfl, hd6⟩
  have hfin := Lib.hid ((below_of (below_of hbw hbw.size hb14) (Nat.le_trans hbw.size hb14.size) hb5).drawn hd6)
  go_wp2
  go_ret
  exact ⟨rfl, hfin.out⟩
end Go.Proofs.Ytcjnfciemangkaa
