/-
  CONTRACT of awake.
  Conditions: those that each theorem names.
-/
import Derived.Test.YtbpgpjmihbmcbaaDoorHeaJ
import Derived.Test.YtbpgpjmihbmcbaaDoorHeaG
namespace Go.Proofs.YtbpgpjmihbmcbaaDoor
open Go.RowKit Go.Sv

def T0 : Tst := ⟨[-1, 0, 0], [2, 2, 1]⟩
def T1 : Tst := ⟨[-1, -1, 0], [2, 3, 1]⟩
def T2 : Tst := ⟨[-1, -1, 0], [1, 1, 1]⟩
def T3 : Tst := ⟨[-1, 0, 0, 2], [1, 2, 2, 3]⟩
theorem V0 : Vld T0 := ⟨by decide, by decide, by decide, by decide, by decide, by decide, by decide⟩
theorem V1 : Vld T1 := ⟨by decide, by decide, by decide, by decide, by decide, by decide, by decide⟩
theorem V2 : Vld T2 := ⟨by decide, by decide, by decide, by decide, by decide, by decide, by decide⟩
theorem V3 : Vld T3 := ⟨by decide, by decide, by decide, by decide, by decide, by decide, by decide⟩
theorem D0 : decR T0 [false, true, false] = (2, 3) := by rw [decR_ok (vld_validE V0)]; decide
theorem F1 : fixV 3 0 = T1 ∧ fixE 3 0 = 0 := by decide
theorem C1 : curV T1 = T2 := by unfold curV; rw [if_pos (vld_validE V1)]; decide
theorem L3 : linV 4 1 2 1 1 = T3 ∧ linE 4 1 2 1 1 = 0 := by decide
theorem dd0 : Lib.itoa 0 = [48] := by decide +kernel
theorem dd1 : Lib.itoa 1 = [49] := by decide +kernel
theorem dd2 : Lib.itoa 2 = [50] := by decide +kernel
theorem dd3 : Lib.itoa 3 = [51] := by decide +kernel
theorem ddm : Lib.itoa (-1) = [45, 49] := by decide +kernel
theorem S2 : (⟨(Lib.join ((words T2 T2.acc.length).map (·.data.toList)) [32]).toArray⟩ : ByteArray) = ⟨#[45, 49, 47, 49, 32, 45, 49, 47, 49, 32, 48, 47, 49]⟩ := by decide +kernel
theorem S3 : (⟨(Lib.join ((words T3 T3.acc.length).map (·.data.toList)) [32]).toArray⟩ : ByteArray) = ⟨#[45, 49, 47, 49, 32, 48, 47, 50, 32, 48, 47, 50, 32, 50, 47, 51]⟩ := by decide +kernel

theorem arr_whole {W : World} {B g n : Nat} {e : TypeId} {cs : Array Value} {f : Nat → Value} (h : W.heap[g]? = some (.cells cs e)) (hB : g < B) (hf : ∀ k, k < n → cs[k]? = some (f k)) : Arr W B (some ⟨g, 0, none⟩) n f :=
  fun _ => ⟨g, 0, rfl, hB, fun k hk => by rw [Nat.zero_add]; exact ((show Whole W g e cs from h).cell k).trans (hf k hk)⟩
theorem heap4 (w : World) (o1 o2 o3 o4 : Obj) : ((((w.alloc o1).alloc o2).alloc o3).alloc o4).heap[w.heap.size]? = some o1 ∧ ((((w.alloc o1).alloc o2).alloc o3).alloc o4).heap[w.heap.size + 1]? = some o2 ∧ ((((w.alloc o1).alloc o2).alloc o3).alloc o4).heap[w.heap.size + 1 + 1 + 1]? = some o4 ∧ ((((w.alloc o1).alloc o2).alloc o3).alloc o4).heap.size = w.heap.size + 4 := by
  have e3 : (((w.alloc o1).alloc o2).alloc o3).heap.size = w.heap.size + 1 + 1 + 1 := by simp
  obtain ⟨h1, h2, h3⟩ := heap3 w o1 o2 o3
  refine ⟨(Below.heap_alloc _ o4 _ (by omega)).trans h1, (Below.heap_alloc _ o4 _ (by omega)).trans h2, ?_, by simp⟩
  have := heap_alloc_new (((w.alloc o1).alloc o2).alloc o3) o4
  rwa [e3] at this
theorem below4 (w : World) (o1 o2 o3 o4 : Obj) : Below w.heap.size w ((((w.alloc o1).alloc o2).alloc o3).alloc o4) :=
  ((((Below.refl _ _).alloc (Nat.le_refl _) o1).alloc (by simp) o2).alloc (by simp; omega) o3).alloc (by simp; omega) o4
theorem decide0 (w : World) : Calls Tryd.prog 16 #[.agg #[.slice (some ⟨w.heap.size, 0, none⟩) 3 3, .slice (some ⟨w.heap.size + 1, 0, none⟩) 3 3], .slice (some ⟨w.heap.size + 1 + 1 + 1, 0, none⟩) 3 3]
    ((((w.alloc (.cells #[.int .i64 (-1), .int .i64 0, .int .i64 0] 3)).alloc (.cells #[.int .i64 2, .int .i64 2, .int .i64 1] 3)).alloc (.cells #[.slice (some ⟨w.heap.size, 0, none⟩) 3 3, .slice (some ⟨w.heap.size + 1, 0, none⟩) 3 3] 26)).alloc (.cells #[.bool false, .bool true, .bool false] 4))
    fun e w' => e = .returned (.tuple #[.int .i64 2, .int .i64 3, .int .i64 0]) ∧ Below w.heap.size w w' := by
  obtain ⟨h1, h2, h4, hs⟩ := heap4 w (.cells #[.int .i64 (-1), .int .i64 0, .int .i64 0] 3) (.cells #[.int .i64 2, .int .i64 2, .int .i64 1] 3) (.cells #[.slice (some ⟨w.heap.size, 0, none⟩) 3 3, .slice (some ⟨w.heap.size + 1, 0, none⟩) 3 3] 26) (.cells #[.bool false, .bool true, .bool false] 4)
  have hb := below4 w (.cells #[.int .i64 (-1), .int .i64 0, .int .i64 0] 3) (.cells #[.int .i64 2, .int .i64 2, .int .i64 1] 3) (.cells #[.slice (some ⟨w.heap.size, 0, none⟩) 3 3, .slice (some ⟨w.heap.size + 1, 0, none⟩) 3 3] 26) (.cells #[.bool false, .bool true, .bool false] 4)
  generalize ((((w.alloc (.cells #[.int .i64 (-1), .int .i64 0, .int .i64 0] 3)).alloc (.cells #[.int .i64 2, .int .i64 2, .int .i64 1] 3)).alloc (.cells #[.slice (some ⟨w.heap.size, 0, none⟩) 3 3, .slice (some ⟨w.heap.size + 1, 0, none⟩) 3 3] 26)).alloc (.cells #[.bool false, .bool true, .bool false] 4)) = W at h1 h2 h4 hs hb ⊢
  have k3 : ∀ {p : Nat → Prop}, p 0 → p 1 → p 2 → ∀ k, k < 3 → p k := fun a b c k hk => by
    rcases k with _ | _ | _ | k
    · exact a
    · exact b
    · exact c
    · omega
  have hR : RTst W W.heap.size T0 ⟨some ⟨w.heap.size, 0, none⟩, 3, some ⟨w.heap.size + 1, 0, none⟩, 3⟩ :=
    ⟨arr_whole h1 (by omega) (k3 (p := fun k => (#[.int .i64 (-1), .int .i64 0, .int .i64 0] : Array Value)[k]? = some (iv T0.acc k)) rfl rfl rfl), arr_whole h2 (by omega) (k3 (p := fun k => (#[.int .i64 2, .int .i64 2, .int .i64 1] : Array Value)[k]? = some (iv T0.rej k)) rfl rfl rfl)⟩
  have hl : Arr W W.heap.size (some ⟨w.heap.size + 1 + 1 + 1, 0, none⟩) [false, true, false].length (bv [false, true, false]) := arr_whole h4 (by omega) (k3 (p := fun k => (#[.bool false, .bool true, .bool false] : Array Value)[k]? = some (bv [false, true, false] k)) rfl rfl rfl)
  refine (decide_any T0 ⟨some ⟨w.heap.size, 0, none⟩, 3, some ⟨w.heap.size + 1, 0, none⟩, 3⟩ _ [false, true, false] 3 W hR ⟨by decide, by decide⟩ hl (by decide)).mono ?_
  rintro e w' ⟨rfl, hb'⟩
  rw [D0, vld_validE V0]
  exact ⟨rfl, below_of hb (by omega) hb'⟩
set_option maxHeartbeats 2000000 in
theorem awake_any (w : World) (ht : Tab w) : Calls Tryd.prog 11 #[] w fun e w' => e = .returned (.bool true) ∧ Below w.heap.size w w' := by
  replace ht := Lib.hid ht
  have H1 := Lib.hid (decide0 w)
  have H2 := Lib.hid (fun w' => fixed_any 3 0 w')
  rw [F1.1, F1.2] at H2
  have H5 := Lib.hid (fun w' => linear_any 4 1 2 1 1 w')
  rw [L3.1, L3.2] at H5
  have H3 := Lib.hid (fun q w' h => curtail_any T1 q w' h ⟨by decide, by decide⟩)
  rw [C1, vld_validE V1] at H3
  have H4 := Lib.hid (fun q w' h ht => format_ok T2 q w' h ⟨by decide, by decide⟩ (vld_validE V2) ht)
  rw [S2] at H4
  have H6 := Lib.hid (fun q w' h ht => format_ok T3 q w' h ⟨by decide, by decide⟩ (vld_validE V3) ht)
  rw [S3] at H6
  go_enter Tryd.func11, Tryd.ntmps11
  go_wp2_with fail
  refine H1.out.mono ?_
  rintro e w1 ⟨rfl, hb1⟩
  replace hb1 := Lib.hid hb1
  go_wp2_with fail
  refine (H2.out _).mono ?_
  rintro e w2 ⟨_, rfl, q2, rfl, hr2, hb2⟩
  have hbx2 : Below w2.heap.size w2 (w2.alloc (.cells #[.slice q2.a0 T1.acc.length q2.c0, .slice q2.a1 T1.rej.length q2.c1] 26)) := (Below.refl _ _).alloc (Nat.le_refl _) _
  have C3 := Lib.hid (H3.out q2 _ (hr2.to hbx2))
  have hc2 := Lib.hid (below_of (below_of hb1.out hb1.out.size hb2) (by have := hb1.out.size; have := hb2.size; omega) hbx2)
  clear hbx2 hb2 hr2
  go_wp2_with fail
  refine C3.out.mono ?_
  rintro e w3 ⟨_, rfl, q3, rfl, hr3, hb3⟩
  have hbx3 : Below w3.heap.size w3 (w3.alloc (.cells #[.slice q3.a0 T2.acc.length q3.c0, .slice q3.a1 T2.rej.length q3.c1] 26)) := (Below.refl _ _).alloc (Nat.le_refl _) _
  have hc3 := Lib.hid (below_of (below_of hc2.out hc2.out.size hb3) (by have := hc2.out.size; have := hb3.size; omega) hbx3)
  have C4 := Lib.hid (H4.out q3 _ (hr3.to hbx3) (ht.out.to hc3.out))
  clear hbx3 hb3 hr3
  go_wp2_with fail
  refine C4.out.mono ?_
  rintro e w4 ⟨rfl, hb4⟩
  have hc4 := Lib.hid (below_of hc3.out hc3.out.size hb4)
  clear hb4
  go_wp2_with fail
  refine (H5.out _).mono ?_
  rintro e w5 ⟨_, rfl, q5, rfl, hr5, hb5⟩
  have hbx5 : Below w5.heap.size w5 (w5.alloc (.cells #[.slice q5.a0 T3.acc.length q5.c0, .slice q5.a1 T3.rej.length q5.c1] 26)) := (Below.refl _ _).alloc (Nat.le_refl _) _
  have hc5 := Lib.hid (below_of (below_of hc4.out hc4.out.size hb5) (by have := hc4.out.size; have := hb5.size; omega) hbx5)
  have C6 := Lib.hid (H6.out q5 _ (hr5.to hbx5) (ht.out.to hc5.out))
  clear hbx5 hb5 hr5
  go_wp2_with fail
  refine C6.out.mono ?_
  rintro e w6 ⟨rfl, hb6⟩
  have hc6 := Lib.hid (below_of hc5.out hc5.out.size hb6)
  clear hb6
  go_wp2
  go_ret
  exact ⟨rfl, hc6.out⟩
end Go.Proofs.YtbpgpjmihbmcbaaDoor
