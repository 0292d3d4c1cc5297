/-
  CONTRACTS of bits.Mul at one, of slices.Repeat at a list of one number.
  Conditions: those that each theorem names.
-/
import Derived.Test.YtickckehhfdoeaaTopD
import Derived.Laws.CopyOwn
import Derived.Deep.RegionLaw
namespace Go.Proofs.Ytickckehhfdoeaa
open Go.RowKit Go.Sv
set_option maxHeartbeats 4000000 in
theorem mul64_1 (n : Nat) (h : n ≤ 6) (w : World) : Calls Try.prog 88 #[.int .u64 1, .int .u64 (n : Int)] w fun e w' => e = .returned (.tuple #[.int .u64 0, .int .u64 (n : Int)]) ∧ w = w' := by
  have key : n = 0 ∨ n = 1 ∨ n = 2 ∨ n = 3 ∨ n = 4 ∨ n = 5 ∨ n = 6 := by omega
  have h1 : bits .and .u64 1 4294967295 = 1 := by decide +kernel
  have hn : bits .and .u64 (n : Int) 4294967295 = (n : Int) := by rcases key with rfl | rfl | rfl | rfl | rfl | rfl | rfl <;> decide +kernel
  have h2 : ((1 : Int) / 4294967296) = 0 := by decide
  have h3 : ((n : Int) / 4294967296) = 0 := by omega
  have h4 : bits .and .u64 0 4294967295 = 0 := by decide +kernel
  have wz : IntKind.u64.wrap 0 = 0 := by decide +kernel
  have wn : IntKind.u64.wrap (n : Int) = (n : Int) := by rw [IntKind.wrap_u64]; omega
  clear key
  go_enter Try.func88, Try.ntmps88
  go_wp2
  go_ret2
  exact ⟨rfl, rfl⟩
theorem mul_1 (n : Nat) (h : n ≤ 6) (w : World) : Calls Try.prog 67 #[.int .u64 1, .int .u64 (n : Int)] w fun e w' => e = .returned (.tuple #[.int .u64 0, .int .u64 (n : Int)]) ∧ w = w' := by
  have H := Lib.hid (mul64_1 n h w)
  have wn : IntKind.u64.wrap (n : Int) = (n : Int) := by rw [IntKind.wrap_u64]; omega
  have w1 : IntKind.u64.wrap 1 = 1 := by decide +kernel
  have w0 : IntKind.u64.wrap 0 = 0 := by decide +kernel
  go_enter Try.func67, Try.ntmps67
  go_wp2_with fail
  with_reducible refine H.out.mono ?_
  rintro e w' ⟨rfl, rfl⟩
  go_wp2
  go_ret2
  exact ⟨rfl, rfl⟩
def zeC (k : IntKind) (n : Nat) : List Value := List.replicate n (.int k 0)
theorem mk_int (n : Nat) (hn : n ≤ 1000) : ∃ O : Obj, (∀ w : World, (Instr.makeSlice 36 (.int .i64 (n : Int)) (.int .i64 (n : Int))).run Try.prog w = .ok (.slice (some ⟨w.heap.size, 0, none⟩) n n) (w.alloc O)) ∧ ∀ w : World, Whole (w.alloc O) w.heap.size 3 (zeC .i64 n).toArray := by
  obtain ⟨i, hi, e1, e2, e3⟩ := info_parts elInt.hi
  refine ⟨.cells (zeC .i64 n).toArray 3, fun w => ?_, fun w => Whole.new w _ _⟩
  have h := run_makeSlice (P := Try.prog) (w := w) 36 3 i (.int .i64 0) elInt.ht hi e1 .i64 .i64 (n : Int) (n : Int) (by omega) (Int.le_refl _) (by rw [e2, Int.toNat_natCast]; omega) (by rw [e3]; omega) (by omega)
  rw [e2] at h
  rw [h]
  simp only [Int.toNat_natCast, Nat.mul_one]
  have : madeCells (Value.int .i64 0).cells n = (zeC .i64 n).toArray := by
    apply Array.toList_inj.1
    show (madeCells #[Value.int .i64 0] n).toList = _
    rw [toList_madeCells_one]; rfl
  rw [this]
theorem wrap_add3 (k j : Nat) (h : k + j ≤ 1000000) : IntKind.i64.wrap ((k : Int) + (j : Int)) = ((k + j : Nat) : Int) := by rw [IntKind.wrap_i64]; omega
theorem wrap_add2 (k j : Nat) (h : k + j ≤ 1000000) : wrap64 ((k : Int) + (j : Int)) = ((k + j : Nat) : Int) := by unfold wrap64; omega
/-- k numbers -1, then noughts -/
def repC (n k : Nat) : List Value := List.replicate k (.int .i64 (-1)) ++ List.replicate (n - k) (.int .i64 0)
theorem repC_len {n k : Nat} (h : k ≤ n) : (repC n k).length = n := by simp [repC]; omega
theorem repC_0 (n : Nat) : zeC .i64 n = repC n 0 := by simp [repC, zeC]
theorem repC_1 {n : Nat} (h : 0 < n) : splice (repC n 0) 0 [Value.int .i64 (-1)] = repC n 1 := by
  obtain ⟨m, rfl⟩ : ∃ m, n = m + 1 := ⟨n - 1, by omega⟩
  simp [splice, repC, List.replicate_succ]
theorem repC_more {n k j : Nat} (_h : k + j ≤ n) : splice (repC n k) k (List.replicate j (Value.int .i64 (-1))) = repC n (k + j) := by
  unfold splice repC
  rw [List.take_left' (by simp), List.drop_append]
  simp only [List.length_replicate]
  rw [List.drop_eq_nil_of_le (by simp), List.nil_append, show k + j - k = j by omega, List.drop_replicate, show n - k - j = n - (k + j) by omega, ← List.append_assoc, List.replicate_append_replicate]
theorem repC_get {n k i : Nat} (h : i < k) : (repC n k)[i]? = some (.int .i64 (-1)) := by
  unfold repC
  rw [List.getElem?_append_left (by simpa using h)]
  simp [h]
set_option maxHeartbeats 4000000 in
set_option maxRecDepth 100000 in
theorem repeat_any (b n : Nat) (c : Nat) (h : n ≤ 6) (w : World) (hc : w.cell? ⟨b, 0, none⟩ = some (.int .i64 (-1))) (hb : b < w.heap.size) :
    Calls Try.prog 39 #[.slice (some ⟨b, 0, none⟩) 1 c, .int .i64 (n : Int)] w (Ret (OwnM w 3 n (fun _ => .int .i64 (-1)))) := by
  have H := Lib.hid (mul_1 n h w)
  have w1 : IntKind.u64.wrap 1 = 1 := by decide +kernel
  have wn : IntKind.u64.wrap (n : Int) = (n : Int) := by rw [IntKind.wrap_u64]; omega
  have wi : wrap64 (n : Int) = (n : Int) := by unfold wrap64; omega
  have n0 : decide ((n : Int) < 0) = false := by rw [decide_eq_false_iff_not]; omega
  have n1 : decide (9223372036854775807 < (n : Int)) = false := by rw [decide_eq_false_iff_not]; omega
  obtain ⟨O, mk, BL⟩ := mk_int n (by omega)
  have hB := Lib.hid ((Below.refl w.heap.size w).alloc (Nat.le_refl _) O)
  have hwh := Lib.hid (BL w)
  have hcell := Lib.hid hc
  clear BL
  go_enter Try.func39, Try.ntmps39
  go_wp2_with fail
  with_reducible refine H.out.mono ?_
  rintro e w' ⟨rfl, rfl⟩
  obtain ⟨k1, hk1⟩ : ∃ k1, min 1 n = k1 := ⟨_, rfl⟩
  obtain ⟨cs, hcs⟩ : ∃ cs, List.replicate k1 (Value.int .i64 (-1)) = cs := ⟨_, rfl⟩
  have hl : cs.length = k1 := by rw [← hcs]; simp
  have hone : Hid (∀ v ∈ cs, v.oneCell' = true) := Lib.hid fun v hv => by rw [← hcs] at hv; rw [List.eq_of_mem_replicate hv]; rfl
  have hcat : Hid (∀ j v, cs[j]? = some v → (w.alloc O).cell? ((⟨b, 0, none⟩ : Addr).add j) = some v) := Lib.hid fun j v hj => by
    rw [← hcs] at hj
    have hj2 := (List.getElem?_eq_some_iff.1 hj).1
    rw [List.length_replicate] at hj2
    obtain rfl : j = 0 := by omega
    have : v = .int .i64 (-1) := List.eq_of_mem_replicate (List.mem_of_getElem? hj)
    rw [this]
    show (w.alloc O).cell? ⟨b, 0, none⟩ = _
    rw [World.cell?_alloc_lt _ _ _ hb]
    exact hcell.out
  have hsp : Hid (splice (repC n 0) 0 cs = repC n k1) := Lib.hid (by rw [← hcs]; have := repC_more (n := n) (k := 0) (j := k1) (by omega); rwa [Nat.zero_add] at this)
  have h00 : (repC n 0).length = n := repC_len (Nat.zero_le _)
  have hmin : Hid (cs.length = Nat.min 1 n) := Lib.hid (by rw [hl, ← hk1])
  rw [repC_0] at hwh
  replace hcs := Lib.hid hcs
  replace hk1' := Lib.hid hk1
  clear hk1
  go_wp2_with (refine wpList_copy_splice (o := ⟨some 33, _, _, _, _, _⟩) rfl (.tmp 31) (.tmp 32) 36 36 rfl 3 elInt.ht (by kernel_rfl) (some ⟨w.heap.size, 0, none⟩) (some ⟨b, 0, none⟩) n n 1 c (by go_simp) (by go_simp) w.heap.size 0 (repC n 0) 3 hwh.out cs hmin.out (fun _ => ⟨rfl, _, rfl, hcat.out⟩) (by rw [h00, hl]; have := hk1'.out; omega) hone.out w.heap.size w hB.out (Nat.le_refl _) ?_)
  intro w2 hg2 hb2
  go_wp2
  rw [hsp.out] at hg2
  clear hl hsp hmin hone hcat w1 wn wi n0 n1
  go_loopw [8] (fun s8 wr => ∃ k : Nat, s8 = .int .i64 (k : Int) ∧ k ≤ n ∧ (0 < n → 1 ≤ k) ∧ Hid (wr.heap[w.heap.size]? = some (.cells (repC n k).toArray 3 (0, 0))) ∧ Below w.heap.size w wr) (fun s8 _ => n - (intOf s8).toNat)
  case atStart => exact ⟨k1, rfl, by have := hk1'.out; omega, by have := hk1'.out; omega, hg2, hb2⟩
  case round =>
    obtain ⟨k, rfl, hk, hk0, hg, hbe⟩ := hrel
    replace hbe := Lib.hid hbe
    by_cases hlt : k < n
    · have jk : (k : Int) < (n : Int) := by omega
      have k0 := hk0 (by omega)
      obtain ⟨j, hj⟩ : ∃ j, min k (n - k) = j := ⟨_, rfl⟩
      obtain ⟨cs, hcs⟩ : ∃ cs, List.replicate j (Value.int .i64 (-1)) = cs := ⟨_, rfl⟩
      have hl : cs.length = j := by rw [← hcs]; simp
      have hone : Hid (∀ v ∈ cs, v.oneCell' = true) := Lib.hid fun v hv => by rw [← hcs] at hv; rw [List.eq_of_mem_replicate hv]; rfl
      have hcat : Hid (∀ i v, cs[i]? = some v → wr.cell? ((⟨w.heap.size, 0, none⟩ : Addr).add i) = some v) := Lib.hid fun i v hi => by
        rw [← hcs] at hi
        have hi2 := (List.getElem?_eq_some_iff.1 hi).1
        rw [List.length_replicate] at hi2
        have : v = .int .i64 (-1) := List.eq_of_mem_replicate (List.mem_of_getElem? hi)
        rw [this]
        have e : (⟨w.heap.size, 0, none⟩ : Addr).add i = ⟨w.heap.size, i, none⟩ := by
          unfold Addr.add
          split
          · rename_i h0; rw [h0]
          · simp
        rw [e, Whole.cell (show Whole wr w.heap.size _ _ from hg.out)]
        exact (by simpa using repC_get (n := n) (k := k) (i := i) (by omega))
      have hcat2 : Hid (∀ i v, cs[i]? = some v → wr.drew.cell? ((⟨w.heap.size, 0, none⟩ : Addr).add i) = some v) := Lib.hid fun i v hi => ((Drawn.refl wr).drew.cell _).trans (hcat.out i v hi)
      have hg2 : Hid (wr.drew.heap[w.heap.size]? = some (.cells (repC n k).toArray 3 (0, 0))) := Lib.hid (show wr.heap[w.heap.size]? = _ from hg.out)
      have hbd := Lib.hid hbe.out.drew
      have hsp : Hid (splice (repC n k) k cs = repC n (k + j)) := Lib.hid (by rw [← hcs]; exact repC_more (by omega))
      have hL : (repC n k).length = n := repC_len hk
      have hmin : Hid (cs.length = Nat.min k (n - k)) := Lib.hid (hl.trans hj.symm)
      have jn : 0 < j := by omega
      have jj : k + j ≤ n := by omega
      have i0 : ¬ (k : Int) < 0 := by omega
      have i1 : (k : Int) ≤ (n : Int) := by omega
      have i2 : ¬ n = k := by omega
      have i3 : 0 ≤ (k : Int) := by omega
      replace hcs := Lib.hid hcs
      replace hj := Lib.hid hj
      have wj : wrap64 ((k : Int) + (j : Int)) = ((k + j : Nat) : Int) := wrap_add2 k j (by omega)
      go_wp2
      go_region_law
        (first
          | (refine step_copy_splice (by rfl) (.tmp 41) (.tmp 44) 36 36 (by rfl) 3 elInt.ht (by kernel_rfl) (some ⟨w.heap.size, k, none⟩) (some ⟨w.heap.size, 0, none⟩) (n - k) (n - k) k n (by go_simp) (by go_simp) w.heap.size k (repC n k) 3 hg2.out cs hmin.out (fun _ => ⟨rfl, ⟨w.heap.size, 0, none⟩, rfl, hcat2.out⟩) (by rw [hL, hl]; exact jj) hone.out w.heap.size w hbd.out (Nat.le_refl _) ?_
             intro w4 hg4 hb4))
      rw [hsp.out] at hg4
      have wj2 := wrap_add3 k j (by omega)
      clear hl hsp hmin hone hcat hcat2 hL hg2 hbd wj
      simp only [List.getElem_toArray, List.getElem_cons_succ, List.getElem_cons_zero]
      go_frame
      rw [wj2]
      clear wj2
      go_wp2
      go_roundw
      case rel => exact ⟨k + j, rfl, jj, fun _ => by omega, hg4, hb4⟩
      case measure => simp [intOf]; omega
    · obtain rfl : k = n := by omega
      have hO : Hid (OwnM w 3 k (fun _ => .int .i64 (-1)) (.slice (some ⟨w.heap.size, 0, none⟩) k k) wr) := Lib.hid <| by
        have hwr : Whole wr w.heap.size 3 (repC k k).toArray := hg.out
        refine ⟨_, k, rfl, ⟨by rw [rowM_len, Nat.mul_one], Or.inr ⟨w.heap.size, k, (repC k k).toArray, rfl, Nat.le_refl _, hwr, Nat.le_refl _, by unfold maxLen; omega, by simp [repC], ?_⟩⟩, hbe.out⟩
        unfold repC rowM
        simp [List.map_const']
      clear hlt hg hk0
      go_wp2
      go_ret
      exact Ret.mk hO.out
end Go.Proofs.Ytickckehhfdoeaa
