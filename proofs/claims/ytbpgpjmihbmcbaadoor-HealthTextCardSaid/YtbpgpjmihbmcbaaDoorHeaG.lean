/-
  CONTRACT of health.Format at a valid test.
  Conditions: those that each theorem names.
-/
import Derived.Test.YtbpgpjmihbmcbaaDoorHeaE
import Derived.Test.YtbpgpjmihbmcbaaDoorShelfA
import Derived.Test.YtbpgpjmihbmcbaaDoorTab
namespace Go.Proofs.YtbpgpjmihbmcbaaDoor
open Go.RowKit Go.Sv

/-- the library's table of powers of ten -/
def Tab (w : World) : Prop := Lib.TabIs Tryd.prog w "internal/strconv.uint64pow10" .u64 Lib.pow10Tab
theorem Tab.to {w w' : World} (h : Tab w) (hb : Below w.heap.size w w') : Tab w' := tab_below h hb
theorem itoa_any (n : Int) (h0 : -9223372036854775808 ≤ n) (h1 : n ≤ 9223372036854775807) (w : World) (ht : Tab w) :
    Calls Tryd.prog 37 #[.int .i64 n] w fun e w' => e = .returned (.string ⟨(Lib.itoa n).toArray⟩) ∧ Below w.heap.size w w' :=
  (Tryd.strconv_Itoa n h0 h1 w ht).mono fun e w' ⟨he, k, os, hw⟩ => ⟨he, by
    rw [hw]
    exact (Drawn.of k).below.trans ((below_grow (w.drewN k) os).mono (Nat.le_refl _))⟩

theorem nDigits_le (u : Nat) : Lib.nDigits u ≤ u + 1 := by
  induction u using Nat.strongRecOn with
  | _ u ih =>
    rw [Lib.nDigits]
    split
    · omega
    · have := ih (u / 10) (by omega)
      omega
theorem itoa_len (n : Int) : (Lib.itoa n).length ≤ n.natAbs + 2 := by
  unfold Lib.itoa
  split
  · have := nDigits_le n.natAbs
    simp only [List.length_cons, Lib.decDigits_length]; omega
  · have := nDigits_le n.toNat
    rw [Lib.decDigits_length]; omega
abbrev itoaS (n : Int) : ByteArray := ⟨(Lib.itoa n).toArray⟩
theorem itoaS_size (n : Int) : (itoaS n).size ≤ n.natAbs + 2 := by
  have := itoa_len n
  simpa [itoaS, ByteArray.size] using this
/-- the words of a test's text -/
def word (t : Tst) (i : Nat) : ByteArray := itoaS (gi t.acc i) ++ ⟨#[47]⟩ ++ itoaS (gi t.rej i)
def words (t : Tst) (k : Nat) : List ByteArray := (List.range k).map (word t)
def sRow (l : List ByteArray) : List Value := l.map Value.string
theorem words_len (t : Tst) (k : Nat) : (words t k).length = k := by simp [words]
theorem sRow_succ (t : Tst) (k : Nat) : sRow (words t (k + 1)) = sRow (words t k) ++ [.string (word t k)] := by simp [sRow, words, List.range_succ]
theorem elStr : ElemT Tryd.prog 58 9 (.string ⟨#[]⟩) 1 16 := ⟨Tryd.underlying58, by kernel_rfl, rfl, by decide⟩

theorem word_len (t : Tst) (i : Nat) (h : Vld t) (hi : i < t.acc.length) : (word t i).data.toList.length ≤ 200 := by
  have h1 := itoaS_size (gi t.acc i)
  have h2 := itoaS_size (gi t.rej i)
  have a := h.lo i hi
  have b := h.ar i hi
  have c := h.hi i hi
  have d := h.n1
  have e : (word t i).size = (itoaS (gi t.acc i)).size + 1 + (itoaS (gi t.rej i)).size := by unfold word; rw [ByteArray.size_append, ByteArray.size_append]; rfl
  have f : (word t i).data.toList.length = (word t i).size := by rw [Array.length_toList]; rfl
  omega
theorem join_bd (t : Tst) (k : Nat) (hk : k ≤ t.acc.length) (h : Vld t) : (Lib.join ((words t k).map (·.data.toList)) [32]).length ≤ 140737488355328 := by
  have hl : ∀ x ∈ (words t k).map (·.data.toList), x.length ≤ 200 := by
    intro x hx
    obtain ⟨y, hy, rfl⟩ := List.mem_map.1 hx
    obtain ⟨i, hi, rfl⟩ := List.mem_map.1 hy
    exact word_len t i h (by have := List.mem_range.1 hi; omega)
  have hs : ∀ l : List (List UInt8), (∀ x ∈ l, x.length ≤ 200) → Lib.lens l ≤ 200 * l.length := by
    intro l
    induction l with
    | nil => intro _; simp [Lib.lens]
    | cons x l ih =>
      intro hx
      have h1 := hx x (by simp)
      have h2 := ih (fun y hy => hx y (by simp [hy]))
      simp only [Lib.lens, List.map_cons, List.sum_cons, List.length_cons] at h2 ⊢
      omega
  have n1 := h.n1
  have hlen : ((words t k).map (·.data.toList)).length = k := by rw [List.length_map, words_len]
  cases hw : (words t k).map (·.data.toList) with
  | nil => simp [Lib.join_nil]
  | cons x r =>
    rw [Lib.join_length]
    rw [hw] at hl hlen
    have := hs (x :: r) hl
    simp only [List.length_cons] at hlen this
    simp only [List.length_cons, List.length_nil]
    omega

theorem format_no (t : Tst) (q : TstP) (w : World) (h : RTst w w.heap.size t q) (hbd : TBd t) (g : validE t ≠ 0) :
    Calls Tryd.prog 29 #[tstV t q] w fun e w' => e = .returned (.tuple #[.string ⟨#[]⟩, .int .i64 (validE t)]) ∧ Below w.heap.size w w' := by
  obtain ⟨qa, qc, qb, qd⟩ := q
  have hbx : Hid (∀ o : Obj, Below w.heap.size w (w.alloc o)) := Lib.hid fun o => (Below.refl _ _).alloc (Nat.le_refl _) o
  have hv : Hid (∀ o : Obj, Calls Tryd.prog 19 #[tstV t ⟨qa, qc, qb, qd⟩] (w.alloc o) fun e w' => e = .returned (.int .i64 (validE t)) ∧ Below (w.alloc o).heap.size (w.alloc o) w') :=
    Lib.hid fun o => valid_any t ⟨qa, qc, qb, qd⟩ _ (h.to (hbx.out o)) hbd
  replace h := Lib.hid h
  have hx : (validE t != 0) = true := by rw [bne_iff_ne]; exact g
  clear g
  go_enter Tryd.func29, Tryd.ntmps29
  go_wp2_with fail
  refine (hv.out _).mono ?_
  rintro e w1 ⟨rfl, hb1⟩
  have hfin := Lib.hid (below_of (hbx.out _) (hbx.out _).size hb1)
  clear hb1
  go_wp2
  go_ret2
  exact ⟨rfl, hfin.out⟩

set_option maxHeartbeats 1000000 in
set_option maxRecDepth 100000 in
theorem format_ok (t : Tst) (q : TstP) (w : World) (h : RTst w w.heap.size t q) (hbd : TBd t) (g : validE t = 0) (htab : Tab w) :
    Calls Tryd.prog 29 #[tstV t q] w fun e w' => e = .returned (.tuple #[.string ⟨(Lib.join ((words t t.acc.length).map (·.data.toList)) [32]).toArray⟩, .int .i64 0]) ∧ Below w.heap.size w w' := by
  obtain ⟨qa, qc, qb, qd⟩ := q
  have hbx : Hid (∀ o : Obj, Below w.heap.size w (w.alloc o)) := Lib.hid fun o => (Below.refl _ _).alloc (Nat.le_refl _) o
  have hv : Hid (∀ o : Obj, Calls Tryd.prog 19 #[tstV t ⟨qa, qc, qb, qd⟩] (w.alloc o) fun e w' => e = .returned (.int .i64 (validE t)) ∧ Below (w.alloc o).heap.size (w.alloc o) w') :=
    Lib.hid fun o => valid_any t ⟨qa, qc, qb, qd⟩ _ (h.to (hbx.out o)) hbd
  have vl := Lib.hid (validE_vld g)
  have G := Lib.hid g
  have hx : (validE t != 0) = false := by rw [bne_eq_false_iff_eq]; exact g
  have b0 := hbd.b0
  have n1 := vl.out.n1
  have n0 := vl.out.n0
  obtain ⟨ba, oa, ea, hba, hca⟩ := h.r0 (by omega)
  obtain ⟨bb, ob, eb, hbb, hcb⟩ := h.r1 (by have := vl.out.len; omega)
  dsimp only at ea eb
  subst ea eb
  replace hca := Lib.hid hca
  replace hcb := Lib.hid hcb
  replace h := Lib.hid h
  replace htab := Lib.hid htab
  clear g
  go_enter Tryd.func29, Tryd.ntmps29
  go_wp2_with fail
  refine (hv.out _).mono ?_
  rintro e w1 ⟨rfl, hb1⟩
  have hB := Lib.hid ((TBox.new (q := ⟨some ⟨ba, oa, none⟩, qc, some ⟨bb, ob, none⟩, qd⟩)).to hb1)
  have hb2 := Lib.hid (below_of (hbx.out _) (hbx.out _).size hb1)
  have ht1 := Lib.hid (htab.out.to hb2.out)
  clear hb1
  obtain ⟨z, y0, y1⟩ := hB.out
  dsimp only at y0 y1
  go_wp2
  go_loopw [5, 16] (fun v i wr => ∃ k : Nat, k ≤ t.acc.length ∧ i = .int .i64 k ∧ wr.ownsRow w1.heap.size 9 1 v k (sRow (words t k)) ∧ Below w1.heap.size w1 wr) (fun _ i _ => t.acc.length - (intOf i).toNat)
  case atStart => exact ⟨0, Nat.zero_le _, rfl, World.ownsRow_nil _ _ _ _, Below.refl _ _⟩
  case round =>
    obtain ⟨k, hk, rfl, hown, hbw⟩ := hrel
    have hbww := Lib.hid (hb2.out.trans (hbw.mono hb2.out.size))
    have htw := Lib.hid (ht1.out.to hbw)
    have hsz := hbw.size
    by_cases hlt : k < t.acc.length
    · replace hown := Lib.hid hown
      have hlt2 : k < t.rej.length := by have := vl.out.len; omega
      obtain ⟨z', x0, x1⟩ := hB.out.to hbw
      dsimp only at x0 x1
      have da := (hbww.out.cell (p := ⟨ba, oa + k, none⟩) hba).trans (hca.out k hlt)
      have db := (hbww.out.cell (p := ⟨bb, ob + k, none⟩) hbb).trans (hcb.out k hlt2)
      unfold iv at da db
      have v1 := vl.out.lo k hlt
      have v2 := vl.out.ar k hlt
      have v3 := vl.out.hi k hlt
      have l1 := itoaS_size (gi t.acc k)
      have l2 := itoaS_size (gi t.rej k)
      have l3 : (⟨#[47]⟩ : ByteArray).size = 1 := rfl
      have l4 : (itoaS (gi t.acc k) ++ ⟨#[47]⟩ : ByteArray).size = (itoaS (gi t.acc k)).size + 1 := by rw [ByteArray.size_append, l3]
      have add1 := fun w => run_string_add_sum (P := Tryd.prog) w (itoaS (gi t.acc k)) ⟨#[47]⟩ (by omega)
      have add2 := fun w => run_string_add_sum (P := Tryd.prog) w (itoaS (gi t.acc k) ++ ⟨#[47]⟩) (itoaS (gi t.rej k)) (by omega)
      clear y0 y1 l1 l2 l3 l4
      go_wp2_with fail
      go_region_held3 (fun w' => w'.cell? ⟨w.heap.size, 1, none⟩ = some (.slice (some ⟨bb, ob, none⟩) t.rej.length qd) ∧ w'.cell? ⟨bb, ob + k, none⟩ = some (.int .i64 (gi t.rej k)))
        (go_keep)
        (first
          | ((with_reducible refine (itoa_any (gi t.acc k) (by omega) (by omega) wr.drew (htw.out.to (Below.refl _ _).drew)).mono ?_)
             rintro e w3 ⟨rfl, hb3⟩
             have hb3' : Below wr.heap.size wr w3 := (Below.refl _ _).drew.trans hb3
             have x3 := (hb3'.cell (p := ⟨w.heap.size, 1, none⟩) z').trans x1
             have d3 := (hb3'.cell (p := ⟨bb, ob + k, none⟩) (Nat.lt_trans hbb z')).trans db)
          | ((with_reducible refine (itoa_any (gi t.rej k) (by omega) (by omega) w3 (htw.out.to hb3')).mono ?_)
             rintro e w4 ⟨rfl, hb4⟩
             have hb4' := below_of hb3' hb3'.size hb4
             clear x3 d3
             have x3 := (hb4'.cell (p := ⟨w.heap.size, 1, none⟩) z').trans x1
             have d3 := (hb4'.cell (p := ⟨bb, ob + k, none⟩) (Nat.lt_trans hbb z')).trans db
             have hown4 := Lib.hid (own_to hown.out hb4')
             have hs4 := hb4'.size)
          | (refine step_own1 elStr (by rfl) _ _ (by rfl) w1.heap.size _ k (sRow (words t k)) (hown4.out.alloc _) (by rfl) _ (by rfl) _ (World.cell?_alloc_new _ _ _ 0) (by rfl) (by omega) (by omega) (by simp; omega) ?_
             intro v' w5 hown5 hg5 hb5
             clear x3 d3 hg5
             have hb5' := ((hb4'.mono hsz).alloc (by omega) _).trans hb5
             have x3 := (hb5'.cell (p := ⟨w.heap.size, 1, none⟩) z).trans x1
             have d3 := (hb5'.cell (p := ⟨bb, ob + k, none⟩) (Nat.lt_trans hbb z)).trans db))
      have R : Hid (w5.ownsRow w1.heap.size 9 1 v' (k + 1) (sRow (words t (k + 1)))) := Lib.hid (by rw [sRow_succ]; exact hown5)
      have hb6 := Lib.hid (hbw.trans hb5')
      clear hown5 hb5 hb5' add1 add2
      go_wp2
      go_roundw
      case rel => exact ⟨k + 1, by omega, by go_num, R.out, hb6.out⟩
      case measure => simp [intOf]; omega
    · obtain rfl : k = t.acc.length := by omega
      obtain ⟨A, cc, rfl, hc1, hc2, hcell⟩ := own_form hown
      obtain ⟨gb, rfl, gb1, gb2, gcell⟩ := hcell (by omega)
      have hj : Hid (Calls Tryd.prog 38 #[.slice (some ⟨gb, 0, none⟩) (words t t.acc.length).length cc, .string ⟨#[32]⟩] wr fun e w' => e = .returned (.string ⟨(Lib.join ((words t t.acc.length).map (·.data.toList)) [32]).toArray⟩) ∧ Below wr.heap.size wr w') :=
        Lib.hid (Tryd.strings_Join gb 0 cc (words t t.acc.length) ⟨#[32]⟩ wr (fun j x hx => by
          have hjl : j < t.acc.length := by
            have := (List.getElem?_eq_some_iff.1 hx).1
            rw [words_len] at this; exact this
          rw [Nat.zero_add, gcell j (by omega)]
          simp [sRow, hx]) gb2 (by rw [words_len]; omega) (by rw [words_len]; exact hc1) (join_bd t _ (by omega) vl.out))
      rw [words_len] at hj
      clear hown gcell y0 y1
      go_wp2_with fail
      refine hj.out.mono ?_
      rintro e w4 ⟨rfl, hb4⟩
      have hfin := Lib.hid (below_of hbww.out hbww.out.size hb4)
      go_wp2
      go_ret2
      exact ⟨rfl, hfin.out⟩
end Go.Proofs.YtbpgpjmihbmcbaaDoor
