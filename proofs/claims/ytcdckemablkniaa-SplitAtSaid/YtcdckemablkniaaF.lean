/-
  CONTRACTS of slices.Equal at int64 and of the chapter's examples (awake): it returns true.
  Conditions: those that each theorem names.
-/
import Derived.Test.YtcdckemablkniaaE
namespace Go.Proofs.Ytcdckemablkniaa
open Go.RowKit Go.Sv

def iv (l : List Int) (k : Nat) : Value := .int .i64 (gi l k)

set_option maxHeartbeats 1000000 in
theorem equal_any (A C : Option Addr) (c d : Nat) (l m : List Int) (w : World) (B : Nat) (ha : Arr w B A l.length (iv l)) (hc : Arr w B C m.length (iv m)) (h1 : l.length ≤ 1000000) (h2 : m.length ≤ 1000000) :
    Calls Try.prog 25 #[.slice A l.length c, .slice C m.length d] w fun e w' => e = .returned (.bool (decide (l = m))) ∧ Drawn w w' := by
  by_cases hlen : l.length = m.length
  · have z1 : ((l.length : Int) != (m.length : Int)) = false := by rw [bne_eq_false_iff_eq]; omega
    replace hlen := Lib.hid hlen
    go_enter Try.func25, Try.ntmps25
    go_wp2
    go_loopw [5, 13] (fun _ i wr => ∃ k : Nat, k ≤ l.length ∧ i = .int .i64 k ∧ (∀ j, j < k → gi l j = gi m j) ∧ Drawn w wr) (fun _ i _ => l.length - (intOf i).toNat)
    case atStart => exact ⟨0, Nat.zero_le _, rfl, fun j hj => by omega, Drawn.refl _⟩
    case round =>
      obtain ⟨k, hk, rfl, hall, hdr⟩ := hrel
      replace hall := Lib.hid hall
      by_cases hlt : k < l.length
      · have hkm : k < m.length := by have := hlen.out; omega
        obtain ⟨b, off, rfl, hb, hcl⟩ := ha (by omega)
        obtain ⟨b2, off2, rfl, hb2, hcm⟩ := hc (by omega)
        have c1 := (hdr.cell _).trans (hcl k hlt)
        have c2 := (hdr.cell _).trans (hcm k hkm)
        unfold iv at c1 c2
        replace hdr := Lib.hid hdr
        replace ha := Lib.hid ha
        replace hc := Lib.hid hc
        clear hcl hcm
        have j1 : (k : Int) < (l.length : Int) := by omega
        have j2 : (k : Int) < (m.length : Int) := by omega
        by_cases hg : gi l k = gi m k
        · have hx : (gi l k != gi m k) = false := by rw [bne_eq_false_iff_eq]; exact hg
          replace hg := Lib.hid hg
          go_wp2
          go_quiet (fail)
          go_wp2
          go_roundw
          case rel => exact ⟨k + 1, by omega, by go_num, fun j hj => by (rcases Nat.lt_succ_iff_lt_or_eq.1 hj with h | h; exact hall.out j h; rw [h]; exact hg.out), hdr.out.drewN _⟩
          case measure => simp [intOf]; omega
        · have hx : (gi l k != gi m k) = true := by rw [bne_iff_ne]; exact hg
          have hne : Hid (decide (l = m) = false) := Lib.hid (by rw [decide_eq_false_iff_not]; intro h; exact hg (by rw [h]))
          clear hg
          go_wp2
          go_quiet (fail)
          go_wp2
          go_ret
          exact ⟨ret_b hne.out.symm, hdr.out.drewN _⟩
      · have heq : Hid (decide (l = m) = true) := Lib.hid (decide_eq_true (gi_ext hlen.out (fun j hj => hall.out j (by omega))))
        obtain rfl : k = l.length := by omega
        replace ha := Lib.hid ha
        replace hc := Lib.hid hc
        go_wp2
        go_ret
        exact ⟨ret_b heq.out.symm, hdr⟩
  · have z1 : ((l.length : Int) != (m.length : Int)) = true := by rw [bne_iff_ne]; omega
    have hne : Hid (decide (l = m) = false) := Lib.hid (by rw [decide_eq_false_iff_not]; intro h; exact hlen (by rw [h]))
    clear hlen
    go_enter Try.func25, Try.ntmps25
    go_wp2
    go_ret
    exact ⟨ret_b hne.out.symm, Drawn.refl _⟩

theorem pnth_252 (w : World) : Calls Try.prog 24 #[.int .i64 2, .int .i64 5, .int .i64 2] w fun e w' => e = .returned (.tuple #[.int .i64 7, .int .i64 0]) ∧ w = w' := by
  go_enter Try.func24, Try.ntmps24
  go_wp2_with (go_at_call 26; refine (pnumber_ok _ _ _ _ (by unfold okN; omega)).mono ?_; rintro e w' ⟨rfl, rfl⟩)
  go_ret2
  exact ⟨rfl, rfl⟩

/-- those of the first k that go, by the share 2/5 -/
def went : Nat → List Int
  | 0 => []
  | k + 1 => if goes 2 5 k then went k ++ [(k : Int)] else went k
theorem went_len (k : Nat) : (went k).length ≤ k := by
  induction k with
  | zero => simp [went]
  | succ k ih =>
    simp only [went]
    split
    · simp; omega
    · omega
def wentV (k : Nat) : List Value := (went k).map (Value.int .i64)

def exStg : Stg := [(0, 1, 3), (1, 2, 1)]
theorem atEx : atV exStg 4 = .tuple #[.int .i64 1, .bool true, .int .i64 0] := by
  have e1 : rampE exStg = 0 := by decide
  have e2 : locG exStg 0 4 exStg.length = (1, 1) := by decide
  unfold atV atR
  rw [if_pos e1, if_pos (by decide), e2]
  rfl

set_option maxHeartbeats 2000000 in
theorem awake_any (w : World) : Calls Try.prog 10 #[] w fun e w' => e = .returned (.bool true) ∧ Below w.heap.size w w' := by
  have hat := Lib.hid atEx
  go_enter Try.func10, Try.ntmps10
  go_wp2
  go_loopw [1, 2, 3, 4, 12] (fun v _ _ _ i wr => ∃ k : Nat, k ≤ 10 ∧ i = .int .i64 k ∧ wr.ownsRow w.heap.size 2 1 v (went k).length (wentV k) ∧ Below w.heap.size w wr) (fun _ _ _ _ i _ => 10 - (intOf i).toNat)
  case atStart => exact ⟨0, by omega, rfl, World.ownsRow_nil _ _ _ _, Below.refl _ _⟩
  case round =>
    obtain ⟨k, hk, rfl, hown, hbel⟩ := hrel
    have hsz := hbel.size
    by_cases hlt : k < 10
    · cases hg : goes 2 5 k
      · have HW : Hid (went (k + 1) = went k) := Lib.hid (by simp [went, hg])
        have HV : Hid (wentV (k + 1) = wentV k) := Lib.hid (by unfold wentV; rw [HW.out])
        replace hg := Lib.hid hg
        replace hown := Lib.hid hown
        go_wp2_with (go_at_call 11; refine (pnext_ok _ _ _ _ (by unfold okN; omega)).mono ?_; rintro e w1 ⟨rfl, hd1⟩; rw [hg.out])
        go_roundw
        case rel => exact ⟨k + 1, by omega, by go_num, by (rw [HW.out, HV.out]; obtain ⟨nd, rfl⟩ := hd1; exact hown.out), hbel.drawn hd1⟩
        case measure => simp [intOf]; omega
      · have HW : Hid (went (k + 1) = went k ++ [(k : Int)]) := Lib.hid (by simp [went, hg])
        have HV : Hid (wentV (k + 1) = wentV k ++ [Value.int .i64 k]) := Lib.hid (by unfold wentV; rw [HW.out]; simp)
        have hwl := went_len k
        replace hg := Lib.hid hg
        replace hown := Lib.hid hown
        go_wp2_with (first
          | (go_at_call 11; refine (pnext_ok _ _ _ _ (by unfold okN; omega)).mono ?_; rintro e w1 ⟨rfl, hd1⟩; rw [hg.out])
          | (at_builtin; refine push_own elInt rfl _ _ rfl w.heap.size _ (went k).length (wentV k) (by obtain ⟨nd, rfl⟩ := hd1; exact hown.out) rfl [.int .i64 k] rfl rfl rfl (by omega) (by omega) (by rw [hd1.size]; exact hsz) ?_))
        intro v' w2 hown' hgr hb2 hs2 _
        have R : Hid (w2.ownsRow w.heap.size 2 1 v' (went (k + 1)).length (wentV (k + 1))) := Lib.hid (by rw [HW.out, HV.out, List.length_append]; exact hown')
        have hb3 : Below w.heap.size w w2 := (hbel.drawn hd1).trans hb2
        clear hown' hgr hb2 hs2 hbel
        go_wp2
        go_roundw
        case rel => exact ⟨k + 1, by omega, by go_num, R.out, hb3⟩
        case measure => simp [intOf]; omega
    · obtain rfl : k = 10 := by omega
      have HL : Hid (went 10 = [2, 4, 7, 9]) := Lib.hid (by decide)
      have HVL : wentV 10 = [.int .i64 2, .int .i64 4, .int .i64 7, .int .i64 9] := by unfold wentV; rw [HL.out]; rfl
      rw [HVL, HL.out] at hown
      clear HVL
      obtain ⟨A, c, rfl, _, _, harr⟩ := own_arr (f := iv [2, 4, 7, 9]) hown (fun k hk => by
        match k, hk with
        | 0, _ => rfl
        | 1, _ => rfl
        | 2, _ => rfl
        | 3, _ => rfl)
      clear hown
      replace harr := Lib.hid harr
      have hst : ∀ u : World, Hid (Stages (u.alloc (.cells #[.int .i64 0, .int .i64 1, .int .i64 3, .int .i64 1, .int .i64 2, .int .i64 1] 34)) (u.alloc (.cells #[.int .i64 0, .int .i64 1, .int .i64 3, .int .i64 1, .int .i64 2, .int .i64 1] 34)).heap.size (some ⟨u.heap.size, 0, none⟩) exStg) := fun u => Lib.hid (fun _ =>
        ⟨u.heap.size, 0, rfl, by simp, fun k hk => by
          match k, hk with
          | 0, _ => exact ⟨by rw [World.cell?_alloc_new]; rfl, by rw [World.cell?_alloc_new]; rfl, by rw [World.cell?_alloc_new]; rfl⟩
          | 1, _ => exact ⟨by rw [World.cell?_alloc_new]; rfl, by rw [World.cell?_alloc_new]; rfl, by rw [World.cell?_alloc_new]; rfl⟩⟩)
      go_wp2_with (first
        | (go_at_call 15; refine (pcount_ok _ _ _ _ (by unfold okN; omega)).mono ?_; rintro e w1 ⟨rfl, rfl⟩)
        | (go_at_call 24; refine (pnth_252 _).mono ?_; rintro e w1 ⟨rfl, rfl⟩))
      refine (pat_any (some ⟨wr.heap.size, 0, none⟩) 2 exStg 4 _ (hst wr).out).mono ?_
      rintro e w2 ⟨rfl, hb2⟩
      rw [hat.out]
      have hb3 : Below w.heap.size w w2 := below_of (hbel.alloc hsz _) (by simp; omega) hb2
      have harr2 := Lib.hid ((harr.out.below (w' := wr.alloc (.cells #[.int .i64 0, .int .i64 1, .int .i64 3, .int .i64 1, .int .i64 2, .int .i64 1] 34)) ((Below.refl _ _).alloc (Nat.le_refl _) _)).below (hb2.mono (by simp)))
      have hsz2 : wr.heap.size ≤ w2.heap.size := Nat.le_trans (by simp) hb2.size
      clear hst hb2
      go_wp2_with fail
      have harr4 : ∀ u : World, u.heap.size = w2.heap.size → Hid (Arr (u.alloc (.cells #[.int .i64 2, .int .i64 4, .int .i64 7, .int .i64 9] 2)) (u.heap.size + 1) (some ⟨u.heap.size, 0, none⟩) [2, 4, 7, (9 : Int)].length (iv [2, 4, 7, 9])) := fun u _ => Lib.hid (fun _ =>
        ⟨u.heap.size, 0, rfl, by simp, fun k hk => by
          rw [World.cell?_alloc_new]
          match k, hk with
          | 0, _ => rfl
          | 1, _ => rfl
          | 2, _ => rfl
          | 3, _ => rfl⟩)
      refine (equal_any A (some ⟨w2.heap.size, 0, none⟩) c 4 [2, 4, 7, 9] [2, 4, 7, 9] _ (w2.heap.size + 1) ((harr2.out.below ((Below.refl _ _).alloc hsz2 _)).more (by omega)) (harr4 w2 rfl).out (by simp) (by simp)).mono ?_
      rintro e w3 ⟨rfl, hd3⟩
      have hfin := Lib.hid ((hb3.alloc (Nat.le_trans hsz hsz2) (.cells #[.int .i64 2, .int .i64 4, .int .i64 7, .int .i64 9] 2)).drawn hd3)
      clear harr4 harr2 harr hb3 hd3
      go_wp2
      go_ret
      exact ⟨rfl, hfin.out⟩
end Go.Proofs.Ytcdckemablkniaa
