/-
  CONTRACT of sheaveref46.Paths.
  Conditions: the test is valid and has at most 8 entries.
-/
import Derived.Test.YtpoddmkimhkmoaaPwP
namespace Go.Proofs.Ytpoddmkimhkmoaa
open Go.RowKit Go.Sv Go.Pw
theorem undK_succ (t : Tst) (n k f : Nat) : undK t n (k + 1) f = undK t n k f + if (decL (VT t) (bdg k n)).1 = 0 ∧ fails (bdg k n) = f then 1 else 0 := upTo_succ n k _
theorem undK_le (t : Tst) (n k f : Nat) : undK t n k f ≤ k := by
  have := upTo_le (n := n) (k := k) (B := 1) (c := fun l => if (decL (VT t) l).1 = 0 ∧ fails l = f then 1 else 0) (fun l => by split <;> omega)
  rw [Nat.mul_one] at this
  exact this
theorem blk_other {w w' : World} {g n base size m : Nat} {e e' : TypeId} {f : Nat → Value} {v : Value} {xs : List Value} (h : Blk w g e n f) (hv : w.ownsRow base e' size v m xs) (hne : e ≠ e') (hg : w.grownBy w' v.ownBlock) : Blk w' g e n f := by
  obtain ⟨cs, hw, hs, hc⟩ := h
  refine ⟨cs, (hg.block g hw.lt fun e2 => ?_).trans hw, hs, hc⟩
  rcases hv.2 with ⟨rfl, _⟩ | ⟨b, cap, cur, rfl, _, hh, _⟩
  · cases e2
  · injection e2 with e2
    have e2 : g = b := e2
    subst e2
    have hw : w.heap[g]? = some (.cells cs e) := hw
    rw [hh] at hw
    injection hw with hw
    injection hw with h1 h2
    exact hne h2.symm
/-- rows behind a slice of the call's own -/
structure RTab (w : World) (base : Nat) (v : Value) (k : Nat) (L : Nat → Nat → List Int) (R : Nat → Option Addr) (K : Nat → Nat) (Q : Nat → Nat → LmP) : Prop where
  own : w.ownsRow base 65 1 v k ((List.range k).map fun i => .slice (R i) (i + 1) (K i))
  row : ∀ i, i < k → NRow w base w.heap.size (R i) (i + 1) (L i) (Q i)
  nr : ∀ i, i < k → ∀ a, R i = some a → v.ownBlock ≠ some a.block
  nn : ∀ i, i < k → ∀ f, f ≤ i → 0 < (L i f).length → ∀ a, (Q i f).a = some a → v.ownBlock ≠ some a.block
section
variable {w w' : World} {base k : Nat} {v : Value} {L : Nat → Nat → List Int} {R : Nat → Option Addr} {K : Nat → Nat} {Q : Nat → Nat → LmP}
theorem RTab.to (h : RTab w base v k L R K Q) (hb : Below w.heap.size w w') : RTab w' base v k L R K Q :=
  ⟨own_to h.own hb, fun i hi => ((h.row i hi).keep fun _ hp => hb.cell hp.2).wide (Nat.le_refl _) hb.size, h.nr, h.nn⟩
theorem nrow_grown {n lo : Nat} {A : Option Addr} {l : Nat → List Int} {q : Nat → LmP} {row : Option Nat} (h : NRow w lo w.heap.size A n l q) (hg : w.grownBy w' row) (h1 : ∀ a, A = some a → row ≠ some a.block) (h2 : ∀ f, f < n → 0 < (l f).length → ∀ a, (q f).a = some a → row ≠ some a.block) : NRow w' lo w'.heap.size A n l q := by
  refine ⟨fun hn => ?_, fun f hf => rlm_grown2 (h.num f hf) hg (h2 f hf), h.fr⟩
  obtain ⟨b, off, e, hb, hlt, hc⟩ := h.arr hn
  exact ⟨b, off, e, hb, Nat.lt_of_lt_of_le hlt hg.size, fun j hj => (World.cell?_of_block (w := w) (a := ⟨b, off + j, none⟩) (hg.block b hlt (fun e2 => h1 _ e e2.symm))).trans (hc j hj)⟩
theorem RTab.push {w0 w1 : World} {v' : Value} {A : Option Addr} {c : Nat} {q : Nat → LmP} {o : Obj} (h : RTab w0 base v k L R K Q) (hb : Below w0.heap.size w0 w) (hr : NRow w w0.heap.size w.heap.size A (k + 1) (L k) q) (hbase : base ≤ w0.heap.size)
    (hown : w1.ownsRow base 65 1 v' (k + 1) (((List.range k).map fun i => .slice (R i) (i + 1) (K i)) ++ [.slice A (k + 1) c])) (hg : (w.alloc o).grownBy w1 v.ownBlock) (hor : v'.ownBlock = v.ownBlock ∨ v'.ownBlock = some (w.heap.size + 1)) :
    RTab w1 base v' (k + 1) L (upd R k A) (upd K k c) (upd Q k q) := by
  have h2 := h.to hb
  have al : Below w.heap.size w (w.alloc o) := (Below.refl _ _).alloc (Nat.le_refl _) o
  have vlt : ∀ b, v.ownBlock = some b → b < w0.heap.size := fun b e => (h.own.lt b e).2
  have new : ∀ b, b < w.heap.size → v.ownBlock ≠ some b → v'.ownBlock ≠ some b := fun b hb2 hne => by
    rcases hor with e | e <;> rw [e]
    · exact hne
    · intro e2; injection e2 with e2; omega
  have r1 : ∀ a, A = some a → w0.heap.size ≤ a.block ∧ a.block < w.heap.size := fun a e => by
    obtain ⟨b, off, e2, h3, h4, _⟩ := hr.arr (Nat.succ_pos _)
    rw [e] at e2; injection e2 with e2; subst e2; exact ⟨h3, h4⟩
  have wid : ∀ {A' : Option Addr} {n : Nat} {l : Nat → List Int} {q' : Nat → LmP} {lo : Nat}, NRow w lo w.heap.size A' n l q' → NRow (w.alloc o) lo (w.alloc o).heap.size A' n l q' := fun h => (h.keep fun _ hp => al.cell hp.2).wide (Nat.le_refl _) al.size
  refine ⟨?_, fun i hi => ?_, fun i hi a ha => ?_, fun i hi f hf hl a ha => ?_⟩
  · rw [List.range_succ, List.map_append]
    have e : (List.range k).map (fun i => Value.slice (upd R k A i) (i + 1) (upd K k c i)) = (List.range k).map fun i => .slice (R i) (i + 1) (K i) := List.map_congr_left fun i hi => by
      have : i ≠ k := by have := List.mem_range.1 hi; omega
      rw [upd_ne _ _ this, upd_ne _ _ this]
    rw [e]
    simp only [List.map_cons, List.map_nil, upd_at]
    exact hown
  · by_cases e : i = k
    · subst e
      rw [upd_at, upd_at]
      exact (nrow_grown (wid hr) hg (fun a ha e2 => by have := vlt _ e2; have := (r1 a ha).1; omega) (fun f hf hl a ha e2 => by have := vlt _ e2; have := hr.fr f hf a ha; omega)).wide hbase (Nat.le_refl _)
    · rw [upd_ne _ _ e, upd_ne _ _ e]
      exact nrow_grown (wid (h2.row i (by omega))) hg (h.nr i (by omega)) (fun f hf => h.nn i (by omega) f (by omega))
  · by_cases e : i = k
    · subst e
      rw [upd_at] at ha
      exact new _ (r1 a ha).2 (fun e2 => by have := vlt _ e2; have := (r1 a ha).1; omega)
    · rw [upd_ne _ _ e] at ha
      obtain ⟨b, off, e2, _, h4, _⟩ := (h2.row i (by omega)).arr (Nat.succ_pos _)
      rw [ha] at e2; injection e2 with e2; subst e2
      exact new _ h4 (h.nr i (by omega) _ ha)
  · by_cases e : i = k
    · subst e
      rw [upd_at] at ha
      exact new _ (rlm_blk (hr.num f (by omega)) hl ha) (fun e2 => by have := vlt _ e2; have := hr.fr f (by omega) a ha; omega)
    · rw [upd_ne _ _ e] at ha
      exact new _ (rlm_blk ((h2.row i (by omega)).num f (by omega)) hl ha) (h.nn i (by omega) f hf hl a ha)
theorem RTab.tab (h : RTab w base v k L R K Q) : ∃ A c, v = .slice A k c ∧ NTab w base w.heap.size A k L R K Q := by
  obtain ⟨A, c, e, _, _, hc⟩ := own_form h.own
  refine ⟨A, c, e, fun hk => ?_, h.row⟩
  obtain ⟨b, e2, hb, hlt, hcell⟩ := hc hk
  exact ⟨b, 0, e2, hb, hlt, fun j hj => by rw [Nat.zero_add, hcell j (by omega)]; simp [hj]⟩
end
/-- what the reference's Paths leaves -/
def RPth (w : World) (n : Nat) (L : Nat → Nat → List Int) (v : Value) (w' : World) : Prop := ∃ A c R K Q, v = .slice A n c ∧ NTab w' w.heap.size w'.heap.size A n L R K Q ∧ Below w.heap.size w w'
set_option maxHeartbeats 4000000 in
set_option maxRecDepth 100000 in
theorem rpaths_any (t : Tst) (q : TstP) (w : World) (h : RTst w w.heap.size t q) (hbd : TBd t) (hv : validE t = 0) (h8 : t.acc.length ≤ 8) :
    Calls Try.prog 12 #[tstV t q] w (Ret (RPth w (t.acc.length + 1) (fun i f => lim (U (VT t) i f)))) := by
  obtain ⟨qa, qc, qb, qd⟩ := q
  have HO := Lib.hid (fun (n k : Nat) w' (hn : n ≤ 8) => by
    have := outcomes_any n (k : Int) (by omega) (by omega) w'
    rw [outc_bdg] at this
    exact this)
  have HD := Lib.hid (fun (n k : Nat) A c w' (hn : n ≤ 8) (h' : Below w.heap.size w w') (hl : Arr w' w'.heap.size A (bdg k n).length (bv (bdg k n))) => by
    have := rdecide_any t ⟨qa, qc, qb, qd⟩ A (bdg k n) c w' (h.to h') hbd hl (by simp [bdg]; omega)
    rw [decR_decL hv, hv] at this
    exact this)
  have HF := Lib.hid (fun (n k : Nat) A c w' (hn : n ≤ 8) (hl : Arr w' w'.heap.size A (bdg k n).length (bv (bdg k n))) => failures_any A (bdg k n) c w' hl (by simp [bdg]; omega))
  have HN := Lib.hid (fun (m : Nat) w' (hm : m < 18446744073709551616) => by
    have := rof_any (m : Int) w' (by omega) (by omega)
    rw [Int.toNat_natCast] at this
    exact this)
  have hfl : Hid (∀ n k, fails (bdg k n) ≤ n) := Lib.hid fun n k => by have := fails_len (bdg k n); simp [bdg] at this ⊢; exact this
  have hB0 := TBox.new (w := w) (e := 25) (t := t) (q := ⟨qa, qc, qb, qd⟩)
  have hb0 := Lib.hid ((Below.refl w.heap.size w).alloc (Nat.le_refl _) (.cells #[.slice qa t.acc.length qc, .slice qb t.rej.length qd] 25))
  have hsz : Hid ((w.alloc (.cells #[.slice qa t.acc.length qc, .slice qb t.rej.length qd] 25)).heap.size = w.heap.size + 1) := Lib.hid (by simp)
  clear h hbd hv
  go_enter Try.func12, Try.ntmps12
  go_wp2
  generalize w.alloc (.cells #[.slice qa t.acc.length qc, .slice qb t.rej.length qd] 25) = w0 at hB0 hb0 hsz ⊢
  have hBt : Hid (∀ W, Below w0.heap.size w0 W → TBox W w.heap.size t ⟨qa, qc, qb, qd⟩) := Lib.hid fun W hb => hB0.to hb
  clear hB0
  go_loopw [3, 4] (fun v i wr => ∃ (n : Nat) (R : Nat → Option Addr) (K : Nat → Nat) (Q : Nat → Nat → LmP), n ≤ t.acc.length + 1 ∧ i = .int .i64 (n : Int) ∧ Hid (RTab wr w0.heap.size v n (fun i f => lim (undK t i (2 ^ i) f)) R K Q) ∧ Hid (Below w0.heap.size w0 wr)) (fun _ i _ => t.acc.length + 1 - (intOf i).toNat)
  case atStart => exact ⟨0, fun _ => none, fun _ => 0, fun _ _ => ⟨none, 0⟩, Nat.zero_le _, rfl, Lib.hid ⟨World.ownsRow_nil _ _ _ _, fun i hi => by omega, fun i hi => by omega, fun i hi => by omega⟩, Lib.hid (Below.refl _ _)⟩
  case round =>
    rename World => wo
    obtain ⟨n, R, K, Q, hn, rfl, hT, hbel⟩ := hrel
    have hww := Lib.hid (hb0.out.trans (hbel.out.mono hb0.out.size))
    obtain ⟨z, y0, y1⟩ := hBt.out _ hbel.out
    dsimp only at y0 y1
    by_cases hlt : n ≤ t.acc.length
    · have hd : decide ((n : Int) ≤ (t.acc.length : Int)) = true := decide_eq_true (by omega)
      have n8 : n ≤ 8 := by omega
      obtain ⟨O, mk, BL⟩ := mk_u64 (n + 1) (by omega) (x := (n : Int) + 1) (by omega)
      have hB1 : Hid (Blk (wo.alloc O) wo.heap.size 50 (n + 1) (uv (undK t n 0))) := Lib.hid (BL wo)
      have hb1 : Hid (Below wo.heap.size wo (wo.alloc O)) := Lib.hid ((Below.refl _ _).alloc (Nat.le_refl _) O)
      clear BL
      go_wp2_with fail
      clear mk
      go_loopw [6] (fun i wr => ∃ k : Nat, k ≤ 2 ^ n ∧ i = .int .i64 (k : Int) ∧ Hid (Blk wr wo.heap.size 50 (n + 1) (uv (undK t n k))) ∧ Hid (Below wo.heap.size wo wr)) (fun i _ => 2 ^ n - (intOf i).toNat)
      case atStart => exact ⟨0, Nat.zero_le _, rfl, hB1, hb1⟩
      case round =>
        clear hB1 hb1 z y0 y1
        obtain ⟨k, hk, rfl, hB, hbl⟩ := hrel
        by_cases hlk : k < 2 ^ n
        · have hd2 : decide ((k : Int) < wrap64 (2 ^ n)) = true := by rw [w64 n8]; exact decide_eq_true (Int.ofNat_lt.2 hlk)
          have hP : 2 ^ n ≤ 256 := Nat.pow_le_pow_right (by decide) n8
          have hsucc := Lib.hid (fun f => undK_succ t n k f)
          have hub := Lib.hid (fun f => undK_le t n k f)
          have hwr := Lib.hid (hww.out.trans (hbl.out.mono hww.out.size))
          have LO := Lib.hid (fun w' => HO.out n k w' n8)
          have LD := Lib.hid (fun A c w' h1 h2 => HD.out n k A c w' n8 h1 h2)
          have LF := Lib.hid (fun A c w' h1 => HF.out n k A c w' n8 h1)
          have hfn := hfl.out n k
          obtain ⟨l, hl⟩ : ∃ l, bdg k n = l := ⟨_, rfl⟩
          rw [hl] at LO LD LF hsucc hfn
          obtain ⟨V, hV⟩ : ∃ V, (decL (VT t) l).1 = V := ⟨_, rfl⟩
          obtain ⟨n2, hn2⟩ : ∃ V, (decL (VT t) l).2 = V := ⟨_, rfl⟩
          obtain ⟨f, hf⟩ : ∃ V, fails l = V := ⟨_, rfl⟩
          rw [hV, hn2] at LD
          rw [hV, hf] at hsucc
          rw [hf] at LF hfn
          obtain ⟨x, hx⟩ : ∃ x, undK t n k f = x := ⟨_, rfl⟩
          have hxb := hub.out f
          rw [hx] at hxb
          clear hl hV hn2 hf hub
          obtain ⟨z, y0, y1⟩ := hBt.out _ (hbel.out.trans (hbl.out.mono hbel.out.size))
          dsimp only at y0 y1
          go_wp2_with fail
          refine (LO.out wr).mono ?_
          rintro e w4 ⟨_, rfl, A, c, rfl, -, hA, hb⟩
          replace hB := Lib.hid (hB.out.to hb)
          replace hwr := Lib.hid (hwr.out.trans (hb.mono hwr.out.size))
          replace hbl := Lib.hid (hbl.out.trans (hb.mono hbl.out.size))
          clear hb z y0 y1
          obtain ⟨z, y0, y1⟩ := hBt.out _ (hbel.out.trans (hbl.out.mono hbel.out.size))
          dsimp only at y0 y1
          go_wp2_with fail
          refine (LD.out A c _ hwr.out hA).mono ?_
          rintro e w5 ⟨rfl, hb⟩
          replace hB := Lib.hid (hB.out.to hb)
          replace hbl := Lib.hid (hbl.out.trans (hb.mono hbl.out.size))
          replace hA := (hA.below hb).more hb.size
          clear hb z y0 y1 hwr
          have hf1 : (f : Int) < (n : Int) + 1 := by omega
          by_cases c1 : V = 0
          · have hx1 : (V == 0) = true := by rw [beq_iff_eq]; exact c1
            have r2 : IntKind.u64.wrap ((x : Int) + 1) = (x : Int) + 1 := by simp [IntKind.wrap, IntKind.bits, IntKind.signed]; omega
            replace c1 := Lib.hid c1
            have hF2 := Lib.hid (LF.out A c _ hA)
            go_wp2_with fail
            refine hF2.out.mono ?_
            rintro e w6 ⟨rfl, hb⟩
            replace hB := Lib.hid (hB.out.to hb)
            replace hbl := Lib.hid (hbl.out.trans (hb.mono hbl.out.size))
            clear hb hA hF2
            have yB := hB.out.cell (show f < n + 1 by omega)
            have fB := hB.out.frozen
            have zB := hB.out.lt
            unfold uv at yB
            rw [hx] at yB
            have hbl6 : Hid (Below wo.heap.size wo (w6.setCell ⟨wo.heap.size, f, none⟩ (.int .u64 ((x : Int) + 1)))) := Lib.hid (hbl.out.setCell (show wo.heap.size ≤ wo.heap.size from Nat.le_refl _) _)
            have hB6 : Hid (Blk (w6.setCell ⟨wo.heap.size, f, none⟩ (.int .u64 ((x : Int) + 1))) wo.heap.size 50 (n + 1) (uv (undK t n (k + 1)))) := Lib.hid ((hB.out.set f (.int .u64 ((x : Int) + 1))).congr (fun j hj => by
              have e := hsucc.out j
              unfold uv
              rw [e]
              by_cases c2 : j = f
              · subst c2
                rw [if_pos rfl, if_pos ⟨c1.out, rfl⟩, hx]
                rfl
              · rw [if_neg c2, if_neg (fun c3 => c2 c3.2.symm)]
                rfl))
            clear hB hsucc hx hbl
            go_wp2
            go_roundw
            case rel => exact ⟨k + 1, hlk, by go_num, hB6, hbl6⟩
            case measure => simp [intOf]; omega
          · have hx1 : (V == 0) = false := by rw [beq_eq_false_iff_ne]; exact c1
            have hB6 : Hid (Blk w5 wo.heap.size 50 (n + 1) (uv (undK t n (k + 1)))) := Lib.hid (hB.out.congr (fun j hj => by
              have e := hsucc.out j
              rw [if_neg (fun c3 => c1 c3.1)] at e
              unfold uv
              rw [e]
              rfl))
            clear hB hsucc hx hA c1
            go_wp2
            go_roundw
            case rel => exact ⟨k + 1, hlk, by go_num, hB6, hbl⟩
            case measure => simp [intOf]; omega
        · have hd2 : decide ((k : Int) < wrap64 (2 ^ n)) = false := by rw [w64 n8, decide_eq_false_iff_not]; intro e; exact hlk (Int.ofNat_lt.1 e)
          have hkk : k = 2 ^ n := Nat.le_antisymm hk (Nat.le_of_not_lt hlk)
          have hP : 2 ^ n ≤ 256 := Nat.pow_le_pow_right (by decide) n8
          rw [hkk] at hB
          have hub := Lib.hid (fun f => Nat.le_trans (undK_le t n (2 ^ n) f) hP)
          clear hkk hk hlk hP HO HD HF
          have eF : ∀ f, undK t n (2 ^ n) f = undK t n (2 ^ n) f := fun _ => rfl
          obtain ⟨F, hF⟩ : ∃ F, undK t n (2 ^ n) = F := ⟨_, rfl⟩
          rw [hF] at hB hub
          clear eF
          replace hF := Lib.hid hF
          go_wp2_with fail
          rename World => w9
          go_loopw [11, 12] (fun v i wr => ∃ (m : Nat) (q : Nat → LmP), m ≤ n + 1 ∧ i = .int .i64 (m : Int) ∧ Hid (NOwn wr wo.heap.size v m (fun f => lim (F f)) q) ∧ Hid (Blk wr wo.heap.size 50 (n + 1) (uv F)) ∧ Hid (Below wo.heap.size wo wr)) (fun _ i _ => n + 1 - (intOf i).toNat)
          case atStart => exact ⟨0, fun _ => ⟨none, 0⟩, Nat.zero_le _, rfl, Lib.hid ⟨World.ownsRow_nil _ _ _ _, fun i hi => by omega, fun i hi => by omega, fun i hi => by omega⟩, hB, hbl⟩
          case round =>
            clear hB hbl
            obtain ⟨m, q, hm, rfl, hO, hB, hbl⟩ := hrel
            by_cases hlm : m ≤ n
            · have hd3 : decide ((m : Int) ≤ (n : Int)) = true := decide_eq_true (by omega)
              have yB := hB.out.cell (show m < n + 1 by omega)
              obtain ⟨x, hx⟩ : ∃ x, F m = x := ⟨_, rfl⟩
              have hxb := hub.out m
              unfold uv at yB
              rw [hx] at yB hxb
              have hm1 : (m : Int) < (n : Int) + 1 := by omega
              have LN := Lib.hid (fun w' => HN.out x w' (by omega))
              have hpush := Lib.hid (fun (W W1 : World) (v' : Value) (q1 : LmP) (h : NOwn W wo.heap.size u11 m (fun f => lim (F f)) q) (hr : RLm W W.heap.size (lim (F m)) q1) (hf : Fr wo.heap.size q1) hq hown hg hor => NOwn.push (w1 := W1) (v' := v') h hr hf hq hown hg hor)
              rw [hx] at hpush
              obtain ⟨Xv, hX⟩ : ∃ v, lim x = v := ⟨_, rfl⟩
              rw [hX] at LN hpush
              clear hx hX
              go_wp2_with fail
              refine (LN.out _).mono ?_
              rintro e w6 ⟨_, rfl, q1, rfl, hr, hf, hb⟩
              have fG := Lib.hid (hf.le hbl.out.size)
              have nG : Hid (0 < Xv.length → ∀ a, q1.a = some a → u11.ownBlock ≠ some a.block) := Lib.hid (fun hl a ha e => by
                have := (hO.out.own.lt _ e).2
                have := hf a ha
                omega)
              replace hO := Lib.hid (hO.out.to hb)
              replace hB := Lib.hid (hB.out.to hb)
              replace hbl := Lib.hid (hbl.out.trans (hb.mono hbl.out.size))
              have hs6 := hbl.out.size
              have r6 := Lib.hid hr
              clear hr hf hb yB
              have al : Below w6.heap.size w6 (w6.alloc (.cells #[.slice q1.a Xv.length q1.c] 41)) := (Below.refl _ _).alloc (Nat.le_refl _) _
              have al' := Lib.hid al
              clear al
              have hown6 := Lib.hid hO.out.own
              go_wp2_with (at_builtin; refine push_own elNats rfl _ _ rfl wo.heap.size _ m (numsV (fun f => lim (F f)) q m) hown6.out rfl _ rfl rfl rfl (by omega) (by omega) hs6 ?_)
              intro v' w7 hown7 hg7 hb7 hs7 hor7
              have hO7 := Lib.hid (hpush.out (w6.alloc (.cells #[.slice q1.a Xv.length q1.c] 41)) w7 v' q1 (hO.out.to al'.out) (r6.out.to al'.out) fG.out (fun hl a ha e => nG.out hl a ha e) hown7 hg7 (by simpa using hor7))
              have hB7 := Lib.hid (blk_other (hB.out.to al'.out) (hO.out.to al'.out).own (by decide) hg7)
              have hbl7 := Lib.hid (hbl.out.trans hb7)
              clear hown7 hg7 hb7 hs7 hor7 hO hB hbl hown6 al' r6 fG nG hpush
              go_wp2
              go_roundw
              case rel => exact ⟨m + 1, _, by omega, by go_num, hO7, hB7, hbl7⟩
              case measure => simp [intOf]; omega
            · have hd3 : decide ((m : Int) ≤ (n : Int)) = false := by rw [decide_eq_false_iff_not]; omega
              obtain rfl : m = n + 1 := by omega
              obtain ⟨Ar, cr, hu, hrow⟩ := hO.out.row
              have hown8 := Lib.hid (own_to hT.out.own hbl.out)
              have hs8 : w0.heap.size ≤ wr.heap.size := Nat.le_trans hbel.out.size hbl.out.size
              have hso := hbel.out.size
              have hrow2 := Lib.hid (hrow.congr (L' := fun f => lim (undK t n (2 ^ n) f)) (fun j hj => by rw [hF.out]))
              clear hO hB hrow
              subst hu
              go_wp2_with (at_builtin; refine push_own elRows rfl _ _ rfl w0.heap.size _ n ((List.range n).map fun i => .slice (R i) (i + 1) (K i)) hown8.out rfl _ rfl rfl rfl (by omega) (by omega) hs8 ?_)
              intro v' w7 hown7 hg7 hb7 hs7 hor7
              have hT7 := Lib.hid (RTab.push hT.out hbl.out hrow2.out hso hown7 hg7 hor7)
              have hbl7 := Lib.hid ((hbel.out.trans (hbl.out.mono hbel.out.size)).trans hb7)
              clear hown7 hg7 hb7 hs7 hor7 hown8 hrow2
              go_wp2
              go_roundw
              case rel => exact ⟨n + 1, _, _, _, by omega, by go_num, hT7, hbl7⟩
              case measure => simp [intOf]; omega
    · have hd : decide ((n : Int) ≤ (t.acc.length : Int)) = false := by rw [decide_eq_false_iff_not]; omega
      obtain rfl : n = t.acc.length + 1 := by omega
      have hF : Hid (RPth w (t.acc.length + 1) (fun i f => lim (U (VT t) i f)) u3 wo) := Lib.hid (by
        obtain ⟨A, c, e, hn⟩ := hT.out.tab
        exact ⟨A, c, R, K, Q, e, (hn.wide (Nat.le_of_lt (by rw [hsz.out]; omega)) (Nat.le_refl _)).congr (fun i _ f _ => by rw [undK_all]), hww.out⟩)
      clear hT
      go_wp2
      go_ret
      exact Ret.mk hF.out
end Go.Proofs.Ytpoddmkimhkmoaa
