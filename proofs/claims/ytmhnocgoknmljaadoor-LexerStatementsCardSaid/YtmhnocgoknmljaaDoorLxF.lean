/-
  CONTRACTS of the program's quoted and Unquote.
  Conditions: those that each theorem names.
-/
import Derived.Test.YtmhnocgoknmljaaDoorLxE
import Derived.Test.YtmhnocgoknmljaaDoorTab
namespace Go.Proofs.YtmhnocgoknmljaaDoor
open Go.RowKit Go.Sv Go.Lx
theorem elU8 : ElemT Tryd.prog 28 5 (.int .u8 0) 1 1 := ⟨Tryd.underlying28, by kernel_rfl, rfl, by decide⟩
theorem strOf (acc : Bs) : strOfNums (acc.map fun c => (c.toNat : Int)) = bS acc := by
  unfold strOfNums
  simp [Function.comp_def]
theorem own_text {w : World} {base : Nat} {v : Value} {acc : Bs} (h : w.ownsRow base 5 1 v acc.length (Lib.byteCells acc)) :
    ∃ A c, v = .slice A acc.length c ∧ (convert 28 9 (.slice A acc.length c)).run Tryd.prog w = .ok (.string (bS acc)) w := by
  have h' := h
  rcases h.2 with ⟨rfl, h0⟩ | ⟨g, cap, cur, rfl, hb, hh, hnc, hcm, hcs, htk⟩
  · have h0 : acc = [] := List.length_eq_zero_iff.1 h0
    subst h0
    exact ⟨none, 0, rfl, run_convert_bytes_nil w 28 5 Tryd.underlying28 Tryd.underlying5 0 0 9 Tryd.underlying9⟩
  · refine ⟨_, _, rfl, ?_⟩
    have e := run_convert_bytes_arg (P := Tryd.prog) w 28 5 Tryd.underlying28 Tryd.underlying5 g 0 acc.length cap (acc.map fun c => (c.toNat : Int)) (by simp) (fun i hi => by
      rw [Nat.zero_add, World.ownsRow.cellAt h' i (by omega)]
      simp [Lib.byteCells, hi]) 9 Tryd.underlying9
    rw [strOf] at e
    exact e
def qTup (l : Bs) : Value := match rd (l.drop 1) with
  | some (t, n) => .tuple #[.string (bS t), .int .i64 (n + 1 : Nat), .bool true]
  | none => .tuple #[.string (bS []), .int .i64 0, .bool false]
theorem qTup_some {l t : Bs} {n : Nat} (h : rd (l.drop 1) = some (t, n)) : qTup l = .tuple #[.string (bS t), .int .i64 (n + 1 : Nat), .bool true] := by unfold qTup; rw [h]
theorem qTup_none {l : Bs} (h : rd (l.drop 1) = none) : qTup l = .tuple #[.string (bS []), .int .i64 0, .bool false] := by unfold qTup; rw [h]
theorem cells_snoc (l : Bs) (x : UInt8) : Lib.byteCells (l ++ [x]) = Lib.byteCells l ++ [.int .u8 (x.toNat : Int)] := by rw [Lib.byteCells_append]; rfl
set_option maxHeartbeats 1000000 in
set_option maxRecDepth 100000 in
theorem quoted_any (l : Bs) (w : World) (hl0 : 0 < l.length) (hn : l.length ≤ 1000000) :
    Calls Tryd.prog 48 #[.string (bS l)] w fun e w' => e = .returned (qTup l) ∧ Below w.heap.size w w' := by
  have hsz := Lib.hid (bS_size l)
  have HE := Lib.hid (fun m w hm => escaped_any m w hm)
  go_enter Tryd.func48, Tryd.ntmps48
  go_wp2
  go_loopw [5, 6] (fun s5 s6 wr => ∃ (i : Nat) (acc : Bs), s6 = .int .i64 i ∧ QI l i acc ∧ wr.ownsRow w.heap.size 5 1 s5 acc.length (Lib.byteCells acc) ∧ Below w.heap.size w wr) (fun _ s6 _ => l.length - (intOf s6).toNat)
  case atStart => exact ⟨1, [], rfl, QI.start hl0, World.ownsRow_nil _ _ _ _, Below.refl _ _⟩
  case round =>
    obtain ⟨i, acc, rfl, q, hown, hbel⟩ := hrel
    have hB := hbel.size
    have q1 := q.pos
    have q2 := q.le
    have q3 := q.len
    replace q := Lib.hid q
    replace hbel := Lib.hid hbel
    by_cases hlt : i < l.length
    · obtain ⟨c, hc⟩ : ∃ c, l[i] = c := ⟨_, rfl⟩
      have g0 : ∀ h : i < (bS l).size, ((bS l)[i]'h) = c := fun h => hc
      have g0 := g0 (by rw [hsz.out]; exact hlt)
      by_cases c34 : (c.toNat : Int) = 34
      · have hR := Lib.hid (qTup_some (q.out.close hlt (by rw [hc]; omega)))
        have t1 : ((c.toNat : Int) == 34) = true := by simp [c34]
        obtain ⟨A, cp, rfl, hcv⟩ := own_text hown
        have w1 : IntKind.i64.wrap ((i : Int) + 1) = (i : Int) + 1 := by simp [IntKind.wrap, IntKind.bits, IntKind.signed]; omega
        clear c34 hc hown
        go_wp2
        refine bodyPost_ret (v := .tuple #[.string (bS acc), .int .i64 (i + 1 : Nat), .bool true]) (by simp [results, Tryd.results48, go_sem]) rfl ?_
        rw [hR.out]
        exact ⟨rfl, hbel.out⟩
      have t1 : ((c.toNat : Int) == 34) = false := by simp [c34]
      by_cases c92 : (c.toNat : Int) = 92
      · have t2 : ((c.toNat : Int) == 92) = true := by simp [c92]
        have w1 : IntKind.i64.wrap ((i : Int) + 1) = (i : Int) + 1 := by simp [IntKind.wrap, IntKind.bits, IntKind.signed]; omega
        have hU := Lib.hid (un_92 hlt (by rw [hc]; omega))
        have h34 := Lib.hid (show ¬ l[i].toNat = 34 from by rw [hc]; omega)
        have hx : (bS l).extract (i + 1) l.length = bS (l.drop (i + 1)) := by rw [← bS_size l]; exact bS_from _ _
        have HE1 := Lib.hid (HE.out (l.drop (i + 1)) wr (by rw [List.length_drop]; omega))
        clear c34 hc c92
        go_wp2_with fail
        refine HE1.out.mono ?_
        rintro e w3 ⟨x, n, o, rfl, hn3, hE0, hE1, hd⟩
        have hbel3 := Lib.hid (hbel.out.drawn hd)
        have hown3 := Lib.hid (own_to hown hd.below)
        have hsz3 := hd.size
        clear hd hown HE1 hx
        cases o with
        | false =>
          have hR := Lib.hid (qTup_none (q.out.bad hlt h34.out (by rw [hU.out, hE0 rfl]; rfl)))
          clear hE0 hE1
          go_wp2
          refine bodyPost_ret (v := .tuple #[.string (bS []), .int .i64 0, .bool false]) (by simp [results, Tryd.results48, go_sem]) rfl ?_
          rw [hR.out]
          exact ⟨rfl, hbel3.out⟩
        | true =>
          have hq := Lib.hid (q.out.step hlt h34.out (b := x) (k := n + 1) (by rw [hU.out, hE1 rfl]; rfl))
          have w2 : IntKind.i64.wrap (1 + (n : Int)) = 1 + (n : Int) := by simp [IntKind.wrap, IntKind.bits, IntKind.signed]; omega
          have w4 : IntKind.i64.wrap ((i : Int) + (1 + (n : Int))) = ((i + (n + 1) : Nat) : Int) := by simp [IntKind.wrap, IntKind.bits, IntKind.signed]; omega
          have hB3 : w.heap.size ≤ w3.heap.size := by rw [hsz3]; exact hB
          replace hsz3 := Lib.hid hsz3
          clear hE0 hE1
          go_wp2_with (at_builtin; refine push_own elU8 rfl _ _ rfl w.heap.size _ _ _ hown3.out rfl [.int .u8 (x.toNat : Int)] rfl rfl rfl (by omega) (by omega) hB3 ?_)
          intro v' w5 hown5 hg5 hb5 _ _
          have hO : Hid (w5.ownsRow w.heap.size 5 1 v' (acc ++ [x]).length (Lib.byteCells (acc ++ [x]))) := Lib.hid (by rw [cells_snoc, List.length_append]; exact hown5)
          have hF := Lib.hid (hbel3.out.trans hb5)
          clear hown5 hg5 hb5
          go_wp2
          go_roundw
          case rel => exact ⟨i + (n + 1), acc ++ [x], rfl, hq.out, hO.out, hF.out⟩
          case measure => simp [intOf]; omega
      have t2 : ((c.toNat : Int) == 92) = false := by simp [c92]
      by_cases c32 : (c.toNat : Int) < 32
      · have t3 : decide ((c.toNat : Int) < 32) = true := decide_eq_true c32
        have hR := Lib.hid (qTup_none (q.out.bad hlt (by rw [hc]; omega) (un_out hlt (by rw [hc]; omega) (by rw [hc]; omega))))
        clear c34 c92 c32 hc hown
        go_wp2
        refine bodyPost_ret (v := .tuple #[.string (bS []), .int .i64 0, .bool false]) (by simp [results, Tryd.results48, go_sem]) rfl ?_
        rw [hR.out]
        exact ⟨rfl, hbel.out⟩
      have t3 : decide ((c.toNat : Int) < 32) = false := decide_eq_false c32
      by_cases c126 : 126 < (c.toNat : Int)
      · have t4 : decide (126 < (c.toNat : Int)) = true := decide_eq_true c126
        have hR := Lib.hid (qTup_none (q.out.bad hlt (by rw [hc]; omega) (un_out hlt (by rw [hc]; omega) (by rw [hc]; omega))))
        clear c34 c92 c32 c126 hc hown
        go_wp2
        refine bodyPost_ret (v := .tuple #[.string (bS []), .int .i64 0, .bool false]) (by simp [results, Tryd.results48, go_sem]) rfl ?_
        rw [hR.out]
        exact ⟨rfl, hbel.out⟩
      · have t4 : decide (126 < (c.toNat : Int)) = false := decide_eq_false c126
        have hq := Lib.hid (q.out.step hlt (b := c) (k := 1) (by rw [hc]; omega) (by rw [un_one hlt (by rw [hc]; omega) (by rw [hc]; omega), hc]))
        replace hown := Lib.hid hown
        clear c34 c92 c32 c126 hc
        go_wp2_with (at_builtin; refine push_own elU8 rfl _ _ rfl w.heap.size _ _ _ hown.out rfl [.int .u8 (c.toNat : Int)] rfl rfl rfl (by omega) (by omega) hB ?_)
        intro v' w5 hown5 hg5 hb5 _ _
        have hO : Hid (w5.ownsRow w.heap.size 5 1 v' (acc ++ [c]).length (Lib.byteCells (acc ++ [c]))) := Lib.hid (by rw [cells_snoc, List.length_append]; exact hown5)
        have hF := Lib.hid (hbel.out.trans hb5)
        clear hown5 hg5 hb5
        go_wp2
        go_roundw
        case rel => exact ⟨i + 1, acc ++ [c], by go_num, hq.out, hO.out, hF.out⟩
        case measure => simp [intOf]; omega
    · obtain rfl : i = l.length := by omega
      have hR := Lib.hid (qTup_none q.out.nil)
      clear hlt
      go_wp2
      refine bodyPost_ret (v := .tuple #[.string (bS []), .int .i64 0, .bool false]) (by simp [results, Tryd.results48, go_sem]) rfl ?_
      rw [hR.out]
      exact ⟨rfl, hbel.out⟩
/-- what Unquote hands back -/
def uqTup (l : Bs) : Value := match unqB l with
  | some t => .tuple #[.string (bS t), .int .i64 0]
  | none => .tuple #[.string (bS []), .int .i64 2]
theorem uq_none {l : Bs} (h : unqB l = none) : uqTup l = .tuple #[.string (bS []), .int .i64 2] := by unfold uqTup; rw [h]
theorem uq_some {l t : Bs} (h : unqB l = some t) : uqTup l = .tuple #[.string (bS t), .int .i64 0] := by unfold uqTup; rw [h]
theorem unqB_c {l : Bs} (h : 0 < l.length) : unqB l = if l[0].toNat = 34 then (match rd (l.drop 1) with
    | none => none
    | some (t, n) => if n + 1 = l.length then some t else none) else none := by
  cases l with
  | nil => simp at h
  | cons c r => rfl
set_option maxRecDepth 100000 in
theorem unquote_any (l : Bs) (w : World) (hn : l.length ≤ 1000000) :
    Calls Tryd.prog 25 #[.string (bS l)] w fun e w' => e = .returned (uqTup l) ∧ Below w.heap.size w w' := by
  have hsz := Lib.hid (bS_size l)
  by_cases h0 : l = []
  · subst h0
    go_enter Tryd.func25, Tryd.ntmps25
    go_wp2
    refine bodyPost_ret (v := .tuple #[.string (bS []), .int .i64 2]) (by simp [results, Tryd.results25, go_sem]) rfl ?_
    exact ⟨rfl, Below.refl _ _⟩
  have hl0 := len_pos h0
  have e1 := isE_false h0
  clear h0
  have hD := Lib.hid (unqB_c hl0)
  obtain ⟨c, hc⟩ : ∃ c, l[0] = c := ⟨_, rfl⟩
  have g0 : ∀ h : 0 < (bS l).size, ((bS l)[0]'h) = c := fun h => hc
  have g0 := g0 (by rw [hsz.out]; exact hl0)
  by_cases c34 : (c.toNat : Int) = 34
  · have t1 : ((c.toNat : Int) == 34) = true := by simp [c34]
    have hD2 : Hid (unqB l = (match rd (l.drop 1) with
      | none => none
      | some (t, n) => if n + 1 = l.length then some t else none)) := Lib.hid (by rw [hD.out, if_pos (by rw [hc]; omega)])
    have HQ := Lib.hid (quoted_any l w hl0 hn)
    clear hD hc c34
    cases hr : rd (l.drop 1) with
    | none =>
      have hR : Hid (uqTup l = .tuple #[.string (bS []), .int .i64 2]) := Lib.hid (uq_none (by rw [hD2.out, hr]))
      rw [qTup_none hr] at HQ
      clear hr hD2
      go_enter Tryd.func25, Tryd.ntmps25
      go_wp2_with fail
      refine HQ.out.mono ?_
      rintro e w1 ⟨rfl, hb⟩
      replace hb := Lib.hid hb
      go_wp2
      refine bodyPost_ret (v := .tuple #[.string (bS []), .int .i64 2]) (by simp [results, Tryd.results25, go_sem]) rfl ?_
      rw [hR.out]
      exact ⟨rfl, hb.out⟩
    | some p =>
      obtain ⟨t, n⟩ := p
      rw [qTup_some hr] at HQ
      rw [hr] at hD2
      have hle := (rd_le hr).1
      rw [List.length_drop] at hle
      clear hr
      by_cases hnl : n + 1 = l.length
      · have hR : Hid (uqTup l = .tuple #[.string (bS t), .int .i64 0]) := Lib.hid (uq_some (by rw [hD2.out]; exact if_pos hnl))
        have t2 : (((n + 1 : Nat) : Int) == (l.length : Int)) = true := by rw [hnl]; simp
        replace hnl := Lib.hid hnl
        clear hD2
        go_enter Tryd.func25, Tryd.ntmps25
        go_wp2_with fail
        refine HQ.out.mono ?_
        rintro e w1 ⟨rfl, hb⟩
        replace hb := Lib.hid hb
        go_wp2
        refine bodyPost_ret (v := .tuple #[.string (bS t), .int .i64 0]) (by simp [results, Tryd.results25, go_sem]) rfl ?_
        rw [hR.out]
        exact ⟨rfl, hb.out⟩
      · have hR : Hid (uqTup l = .tuple #[.string (bS []), .int .i64 2]) := Lib.hid (uq_none (by rw [hD2.out]; exact if_neg hnl))
        have t2 : (((n + 1 : Nat) : Int) == (l.length : Int)) = false := by simp; omega
        replace hnl := Lib.hid hnl
        clear hD2
        go_enter Tryd.func25, Tryd.ntmps25
        go_wp2_with fail
        refine HQ.out.mono ?_
        rintro e w1 ⟨rfl, hb⟩
        replace hb := Lib.hid hb
        go_wp2
        refine bodyPost_ret (v := .tuple #[.string (bS []), .int .i64 2]) (by simp [results, Tryd.results25, go_sem]) rfl ?_
        rw [hR.out]
        exact ⟨rfl, hb.out⟩
  · have t1 : ((c.toNat : Int) == 34) = false := by simp [c34]
    have hR : Hid (uqTup l = .tuple #[.string (bS []), .int .i64 2]) := Lib.hid (uq_none (by rw [hD.out, if_neg (by rw [hc]; omega)]))
    clear hD hc c34
    go_enter Tryd.func25, Tryd.ntmps25
    go_wp2
    refine bodyPost_ret (v := .tuple #[.string (bS []), .int .i64 2]) (by simp [results, Tryd.results25, go_sem]) rfl ?_
    rw [hR.out]
    exact ⟨rfl, Below.refl _ _⟩
end Go.Proofs.YtmhnocgoknmljaaDoor
