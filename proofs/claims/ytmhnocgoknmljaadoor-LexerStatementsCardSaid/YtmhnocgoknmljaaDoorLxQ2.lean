/-
  CONTRACT of the program's Tokens.
  Conditions: those that each theorem names.
-/
import Derived.Test.YtmhnocgoknmljaaDoorLxP2
namespace Go.Proofs.YtmhnocgoknmljaaDoor
open Go.RowKit Go.Sv Go.Lx
def tkCells (t : Tok) : List Value := [.int .i64 t.kind, .string (bS t.text), .int .i64 t.int, .string (bS t.str), .int .i64 t.line]
def tkRow (l : List Tok) : List Value := l.flatMap tkCells
theorem tkRow_snoc (l : List Tok) (t : Tok) : tkRow (l ++ [t]) = tkRow l ++ tkCells t := by simp [tkRow]
theorem elTok : ElemT Tryd.prog 27 25 (.agg #[.int .i64 0, .string ⟨#[]⟩, .int .i64 0, .string ⟨#[]⟩, .int .i64 0]) 5 56 := ⟨Tryd.underlying27, by kernel_rfl, by kernel_rfl, by omega⟩
/-- what Tokens hands back -/
def TsR (l : Bs) (w : World) (e : Ending) (w' : World) : Prop := match tk 1 l with
  | .ok m => ∃ v, e = .returned (.tuple #[v, .int .i64 0, .int .i64 0]) ∧ w'.ownsRow w.heap.size 25 5 v m.length (tkRow m) ∧ Below w.heap.size w w'
  | .error n => e = .returned (.tuple #[.slice none 0 0, .int .i64 n, .int .i64 2]) ∧ Below w.heap.size w w'
theorem TsR.ok {l : Bs} {w w' : World} {m : List Tok} {v : Value} (h : tk 1 l = .ok m) (ho : w'.ownsRow w.heap.size 25 5 v m.length (tkRow m)) (hb : Below w.heap.size w w') : TsR l w (.returned (.tuple #[v, .int .i64 0, .int .i64 0])) w' := by
  unfold TsR; rw [h]; exact ⟨v, rfl, ho, hb⟩
theorem TsR.err {l : Bs} {w w' : World} {n : Int} (h : tk 1 l = .error n) (hb : Below w.heap.size w w') : TsR l w (.returned (.tuple #[.slice none 0 0, .int .i64 n, .int .i64 2])) w' := by
  unfold TsR; rw [h]; exact ⟨rfl, hb⟩
theorem ib_spec (c : UInt8) : ∀ r : Bs, (Lib.indexByte r c = -1 ∧ ∀ k (h : k < r.length), r[k] ≠ c) ∨ ∃ j, ∃ h : j < r.length, Lib.indexByte r c = (j : Int) ∧ r[j] = c ∧ ∀ k (h : k < r.length), k < j → r[k] ≠ c
  | [] => Or.inl ⟨rfl, fun k h => absurd h (Nat.not_lt_zero _)⟩
  | d :: r => by
    by_cases hd : d = c
    · refine Or.inr ⟨0, by simp, ?_, hd, fun k _ h => absurd h (Nat.not_lt_zero _)⟩
      unfold Lib.indexByte; rw [if_pos (by simpa using hd)]; rfl
    · rcases ib_spec c r with ⟨h1, h2⟩ | ⟨j, hj, h1, h2, h3⟩
      · refine Or.inl ⟨?_, fun k hk => ?_⟩
        · unfold Lib.indexByte; rw [if_neg (by simpa using hd), h1]; rfl
        · cases k with
          | zero => exact hd
          | succ k => exact h2 k (by simpa using hk)
      · refine Or.inr ⟨j + 1, by simpa using hj, ?_, h2, fun k hk hkj => ?_⟩
        · unfold Lib.indexByte
          rw [if_neg (by simpa using hd), h1, if_neg (by simp)]; rfl
        · cases k with
          | zero => exact hd
          | succ k => exact h3 k (by simpa using hk) (by omega)
theorem ixl_any (r : Bs) (w : World) : Calls Tryd.prog 41 #[.string (bS r), .int .u8 10] w fun e w' => e = .returned (.int .i64 (Lib.indexByte r 10)) ∧ w = w' :=
  (Tryd.strings_IndexByte (bS r) 10 w).mono fun _ _ ⟨h1, h2⟩ => ⟨h1, h2.symm⟩
theorem pre_cm {l : Bs} {i : Nat} (h : i < l.length) : ([47, 47] : Bs).isPrefixOf (l.drop i) = true ↔ (l[i].toNat = 47 ∧ ∃ h' : i + 1 < l.length, l[i + 1].toNat = 47) := by
  rw [List.drop_eq_getElem_cons h]
  by_cases h' : i + 1 < l.length
  · rw [List.drop_eq_getElem_cons h']
    have e : ([47, 47] : Bs).isPrefixOf (l[i] :: l[i + 1] :: l.drop (i + 1 + 1)) = ((47 : UInt8) == l[i] && ((47 : UInt8) == l[i + 1])) := by simp [List.isPrefixOf]
    rw [e]
    simp only [Bool.and_eq_true, beq_iff_eq]
    constructor
    · rintro ⟨h1, h2⟩; exact ⟨by rw [← h1]; rfl, h', by rw [← h2]; rfl⟩
    · rintro ⟨h1, _, h2⟩; exact ⟨(u8_eq h1).symm, (u8_eq h2).symm⟩
  · rw [List.drop_eq_nil_of_le (by omega)]
    constructor
    · intro e; simp [List.isPrefixOf] at e
    · rintro ⟨_, h'', _⟩; exact absurd h'' h'
def strLen : Value → Nat
  | .string s => s.size
  | _ => 0
theorem less_drop {l r : Bs} {i j : Nat} (hr : r.length = l.length - i) (h1 : i < j) (h2 : i < l.length) : strLen (.string (bS (l.drop j))) < strLen (.string (bS r)) := by
  show (bS (l.drop j)).size < (bS r).size
  rw [bS_size, bS_size, List.length_drop]
  omega
theorem tokens_big (l : Bs) (w : World) (h : 65536 < l.length) :
    Calls Tryd.prog 19 #[.string (bS l)] w fun e w' => e = .returned (.tuple #[.slice none 0 0, .int .i64 0, .int .i64 3]) ∧ w = w' := by
  have i1 : decide ((65536 : Int) < (l.length : Int)) = true := decide_eq_true (by omega)
  have i2 : decide (65536 < l.length) = true := decide_eq_true h
  clear h
  go_enter Tryd.func19, Tryd.ntmps19
  go_wp2
  refine bodyPost_ret (v := .tuple #[.slice none 0 0, .int .i64 0, .int .i64 3]) (by simp [results, Tryd.results19, go_sem]) rfl ?_
  exact ⟨rfl, rfl⟩
set_option maxHeartbeats 2000000 in
set_option maxRecDepth 100000 in
theorem tokens_any (l : Bs) (w : World) (ht : Tb w) (hn : l.length ≤ 65536) :
    Calls Tryd.prog 19 #[.string (bS l)] w (TsR l w) := by
  have j1 : decide ((65536 : Int) < (l.length : Int)) = false := decide_eq_false (by omega)
  have j2 : decide (65536 < l.length) = false := decide_eq_false (by omega)
  have HT := Lib.hid (fun r w h1 h2 h3 => token_any r w h1 h2 h3)
  have HP := Lib.hid (fun r w => pre_any r [47, 47] w)
  have HI := Lib.hid (fun r w => ixl_any r w)
  have hOk := Lib.hid (fun m v w' h1 h2 h3 => TsR.ok (l := l) (w := w) (w' := w') (m := m) (v := v) h1 h2 h3)
  have hEr := Lib.hid (fun n w' h1 h2 => TsR.err (l := l) (w := w) (w' := w') (n := n) h1 h2)
  go_enter Tryd.func19, Tryd.ntmps19
  go_wp2
  clear j1 j2
  go_loopw [0, 5, 6] (fun s0 s5 s6 wr => ∃ (i : Nat) (line : Int) (out : List Tok), s0 = .string (bS (l.drop i)) ∧ s6 = .int .i64 line ∧ TI l i line out ∧ wr.ownsRow w.heap.size 25 5 s5 out.length (tkRow out) ∧ Below w.heap.size w wr) (fun s0 _ _ _ => strLen s0)
  case atStart => exact ⟨0, 1, [], rfl, rfl, TI.start l, World.ownsRow_nil _ _ _ _, Below.refl _ _⟩
  case round =>
    obtain ⟨i, line, out, rfl, rfl, q, hown, hbel⟩ := hrel
    have hB := hbel.size
    have q1 := q.lo
    have q2 := q.hi
    have q3 := q.le
    have q4 := q.len
    have hrl : (l.drop i).length = l.length - i := List.length_drop
    replace q := Lib.hid q
    by_cases hlt : i < l.length
    · obtain ⟨c, hc⟩ : ∃ c, l[i] = c := ⟨_, rfl⟩
      obtain ⟨r, hr⟩ : ∃ r, l.drop i = r := ⟨_, rfl⟩
      have hdr : Hid (∀ k, r.drop k = l.drop (i + k)) := Lib.hid fun k => by rw [← hr, List.drop_drop]
      have g0 : ∀ h : 0 < (bS r).size, ((bS r)[0]'h) = c := fun h => by
        have h' : 0 < r.length := by rwa [bS_size] at h
        show r[0]'h' = c
        subst hr
        rw [List.getElem_drop]
        simpa using hc
      have hl0 : 0 < r.length := by rw [← hr, hrl]; omega
      have g0 := g0 (by rw [bS_size]; exact hl0)
      have e1 : r.isEmpty = false := isE_false (by intro h; subst h; simp at hl0)
      have hx := bS_from r
      have hsz := bS_size r
      have hcm := pre_cm hlt
      rw [hr] at hrl hcm ⊢
      have hr6 : r.length ≤ 1000000 := by rw [hrl]; omega
      by_cases c10 : (c.toNat : Int) = 10
      · have t1 : ((c.toNat : Int) == 10) = true := by simp [c10]
        have q' := Lib.hid (q.out.nl hlt (by rw [hc]; omega))
        have hx1 : (bS r).extract 1 r.length = bS (l.drop (i + 1)) := by rw [← hdr.out 1, ← hx 1, hsz]
        have w1 : IntKind.i64.wrap (line + 1) = line + 1 := by simp [IntKind.wrap, IntKind.bits, IntKind.signed]; omega
        have hm := Lib.hid (less_drop hrl (Nat.lt_succ_self i) hlt)
        replace hx := Lib.hid hx
        replace hsz := Lib.hid hsz
        replace hrl := Lib.hid hrl
        replace hbel := Lib.hid hbel
        replace hown := Lib.hid hown
        clear c10 hc hr hcm
        go_wp2
        go_roundw
        case rel => exact ⟨i + 1, line + 1, out, rfl, rfl, q'.out, hown.out, hbel.out⟩
        case measure => exact hm.out
      have t1 : ((c.toNat : Int) == 10) = false := by simp [c10]
      have key : ((c.toNat : Int) == 32) = true ∨ (((c.toNat : Int) == 32) = false ∧ ((c.toNat : Int) == 9) = true) ∨ (((c.toNat : Int) == 32) = false ∧ ((c.toNat : Int) == 9) = false ∧ ¬ (c.toNat : Int) = 32 ∧ ¬ (c.toNat : Int) = 9) := by
        by_cases a : (c.toNat : Int) = 32
        · exact Or.inl (by simp [a])
        · by_cases b : (c.toNat : Int) = 9
          · exact Or.inr (Or.inl ⟨by simp [a], by simp [b]⟩)
          · exact Or.inr (Or.inr ⟨by simp [a], by simp [b], a, b⟩)
      rcases key with t2 | ⟨t2, t3⟩ | ⟨t2, t3, n32, n9⟩
      · have q' := Lib.hid (q.out.sp hlt (Or.inl (by rw [hc]; have := beq_iff_eq.1 t2; omega)))
        have hx1 : (bS r).extract 1 r.length = bS (l.drop (i + 1)) := by rw [← hdr.out 1, ← hx 1, hsz]
        have hm := Lib.hid (less_drop hrl (Nat.lt_succ_self i) hlt)
        replace hx := Lib.hid hx
        replace hsz := Lib.hid hsz
        replace hrl := Lib.hid hrl
        replace hbel := Lib.hid hbel
        replace hown := Lib.hid hown
        clear c10 hc hr hcm
        go_wp2
        go_roundw
        case rel => exact ⟨i + 1, line, out, rfl, rfl, q'.out, hown.out, hbel.out⟩
        case measure => exact hm.out
      · have q' := Lib.hid (q.out.sp hlt (Or.inr (by rw [hc]; have := beq_iff_eq.1 t3; omega)))
        have hx1 : (bS r).extract 1 r.length = bS (l.drop (i + 1)) := by rw [← hdr.out 1, ← hx 1, hsz]
        have hm := Lib.hid (less_drop hrl (Nat.lt_succ_self i) hlt)
        replace hx := Lib.hid hx
        replace hsz := Lib.hid hsz
        replace hrl := Lib.hid hrl
        replace hbel := Lib.hid hbel
        replace hown := Lib.hid hown
        clear c10 hc hr hcm
        go_wp2
        go_roundw
        case rel => exact ⟨i + 1, line, out, rfl, rfl, q'.out, hown.out, hbel.out⟩
        case measure => exact hm.out
      have HP1 := Lib.hid (HP.out r wr)
      cases hp : ([47, 47] : Bs).isPrefixOf r with
      | true =>
        rw [hp] at HP1
        obtain ⟨a47, h1, b47⟩ := hcm.1 hp
        have HI1 := Lib.hid (HI.out r wr)
        rcases ib_spec 10 r with ⟨hi, hno⟩ | ⟨j, hj, hi, hjc, hno⟩
        · have q' := Lib.hid (q.out.cm (j := l.length) h1 a47 b47 (by omega) (Nat.le_refl _) (fun k hk h2 _ => by
            have h3 := hno (k - i) (by omega)
            subst hr
            rw [List.getElem_drop] at h3
            simp only [show i + (k - i) = k by omega] at h3
            intro e; exact h3 (u8_eq e)) (fun h => absurd h (Nat.lt_irrefl _)))
          rw [hi] at HI1
          have hx1 : (bS r).extract r.length r.length = bS (l.drop l.length) := by
            have := hx r.length
            rw [hsz] at this
            rw [this, List.drop_length, List.drop_length]
          have hm := Lib.hid (less_drop (j := l.length) hrl hlt hlt)
          have hem : Hid (ByteArray.empty = bS (l.drop l.length)) := Lib.hid (by rw [List.drop_length]; rfl)
          replace hx := Lib.hid hx
          replace hsz := Lib.hid hsz
          replace hrl := Lib.hid hrl
          replace hbel := Lib.hid hbel
          replace hown := Lib.hid hown
          clear c10 hc hr hcm hp a47 h1 b47 hi hno n32 n9
          go_wp2_with fail
          refine HP1.out.mono ?_
          rintro e w' ⟨rfl, rfl⟩
          go_wp2_with fail
          refine HI1.out.mono ?_
          rintro e w' ⟨rfl, rfl⟩
          clear HP1 HI1
          go_wp2
          go_roundw
          case rel => exact ⟨l.length, line, out, congrArg _ hem.out, rfl, q'.out, hown.out, hbel.out⟩
          case measure => exact (show strLen (.string ByteArray.empty) < _ by rw [hem.out]; exact hm.out)
        · have hj2 : 2 ≤ j := by
            rcases Nat.lt_or_ge j 2 with h | h
            · exfalso
              subst hr
              rw [List.getElem_drop] at hjc
              match j, h with
              | 0, _ => simp only [Nat.add_zero] at hjc; rw [hjc] at a47; exact absurd a47 (by decide)
              | 1, _ => rw [hjc] at b47; exact absurd b47 (by decide)
            · exact h
          have q' := Lib.hid (q.out.cm (j := i + j) h1 a47 b47 (by omega) (by omega) (fun k hk h2 h4 => by
            have h3 := hno (k - i) (by omega) (by omega)
            subst hr
            rw [List.getElem_drop] at h3
            simp only [show i + (k - i) = k by omega] at h3
            intro e; exact h3 (u8_eq e)) (fun h => by
            subst hr
            rw [List.getElem_drop] at hjc
            rw [hjc]; rfl))
          rw [hi] at HI1
          have hx1 : (bS r).extract j r.length = bS (l.drop (i + j)) := by rw [← hdr.out j, ← hx j, hsz]
          have hm := Lib.hid (less_drop (j := i + j) hrl (by omega) hlt)
          have d5 : decide ((j : Int) < 0) = false := decide_eq_false (by omega)
          have d6 : (j : Int) ≤ (r.length : Int) := by omega
          replace hx := Lib.hid hx
          replace hsz := Lib.hid hsz
          replace hrl := Lib.hid hrl
          replace hbel := Lib.hid hbel
          replace hown := Lib.hid hown
          clear c10 hc hr hcm hp a47 h1 b47 hi hno hjc n32 n9
          go_wp2_with fail
          refine HP1.out.mono ?_
          rintro e w' ⟨rfl, rfl⟩
          go_wp2_with fail
          refine HI1.out.mono ?_
          rintro e w' ⟨rfl, rfl⟩
          clear HP1 HI1
          go_wp2
          go_roundw
          case rel => exact ⟨i + j, line, out, rfl, rfl, q'.out, hown.out, hbel.out⟩
          case measure => exact hm.out
      | false =>
        rw [hp] at HP1
        have htb : tokB (l.drop i) = true := tokB_at hlt (by rw [hc]; omega) (by rw [hc]; omega) (by rw [hc]; omega) (fun h => by rw [hcm.2 h] at hp; cases hp)
        have HT1 := Lib.hid (HT.out r wr (ht.to hbel) hl0 hr6)
        have hEr1 : Hid (nextT r = none → tk 1 l = .error line) := Lib.hid fun h => q.out.bad htb (by rw [hr]; exact h)
        have hYs : Hid (∀ t n, nextT r = some (t, n) → TI l (i + n) line (out ++ [{ t with line := line }]) ∧ 1 ≤ n ∧ n ≤ r.length) := Lib.hid fun t n h => ⟨q.out.tok htb (by rw [hr]; exact h), nextT_pos h, nextT_le h⟩
        replace hrl := Lib.hid hrl
        clear c10 hc hr hcm hp n32 n9 htb
        go_wp2_with fail
        refine HP1.out.mono ?_
        rintro e w' ⟨rfl, rfl⟩
        go_wp2_with fail
        refine HT1.out.mono ?_
        rintro e w2 ⟨t, n, o, rfl, ho0, ho1, hb2⟩
        have hbel2 := Lib.hid (hbel.trans (hb2.mono hB))
        have hB2 : w.heap.size ≤ w2.heap.size := hbel2.out.size
        clear HP1 HT1
        cases o with
        | false =>
          have hF := Lib.hid (hEr.out line _ (hEr1.out (ho0 rfl)) (hbel2.out.alloc hB2 (.cells #[.int .i64 t.kind, .string (bS t.text), .int .i64 t.int, .string (bS t.str), .int .i64 t.line] 25)))
          clear ho0 ho1 hEr1 hYs hown hbel hb2 hx hsz
          dsimp only [tokV]
          go_wp2
          refine bodyPost_ret (v := .tuple #[.slice none 0 0, .int .i64 line, .int .i64 2]) (by simp [results, Tryd.results19, go_sem]) rfl ?_
          exact hF.out
        | true =>
          obtain ⟨q', n1, n2⟩ := hYs.out t n (ho1 rfl)
          replace q' := Lib.hid q'
          have hx1 : (bS r).extract n r.length = bS (l.drop (i + n)) := by rw [← hdr.out n, ← hx n, hsz]
          have hm := Lib.hid (less_drop (j := i + n) hrl.out (by omega) hlt)
          have d6 : (n : Int) ≤ (r.length : Int) := by omega
          have hown2 := Lib.hid (own_to hown hb2)
          have hB3 : w.heap.size ≤ (w2.alloc (.cells #[.int .i64 t.kind, .string (bS t.text), .int .i64 t.int, .string (bS t.str), .int .i64 line] 25)).heap.size := by rw [World.size_alloc]; omega
          have hbel3 := Lib.hid (hbel2.out.alloc hB2 (.cells #[.int .i64 t.kind, .string (bS t.text), .int .i64 t.int, .string (bS t.str), .int .i64 line] 25))
          replace hx := Lib.hid hx
          replace hsz := Lib.hid hsz
          replace hbel := Lib.hid hbel
          clear ho0 ho1 hEr1 hYs hown hb2
          dsimp only [tokV]
          go_wp2_with (at_builtin; refine push_own' elTok rfl _ _ rfl w.heap.size _ out.length (tkRow out) (by exact hown2.out.alloc _) rfl _ [.int .i64 t.kind, .string (bS t.text), .int .i64 t.int, .string (bS t.str), .int .i64 line] rfl (by simp) rfl rfl (by omega) (by omega) hB3 ?_)
          intro v' w5 hown5 hg5 hb5 _ _
          have hO : Hid (w5.ownsRow w.heap.size 25 5 v' (out ++ [{ t with line := line }]).length (tkRow (out ++ [{ t with line := line }]))) := Lib.hid (by rw [tkRow_snoc, List.length_append]; exact hown5)
          have hF := Lib.hid (hbel3.out.trans hb5)
          clear hown5 hg5 hb5
          go_wp2
          go_roundw
          case rel => exact ⟨i + n, line, out ++ [{ t with line := line }], rfl, rfl, q'.out, hO.out, hF.out⟩
          case measure => exact hm.out
    · obtain rfl : i = l.length := by omega
      have e := Lib.hid (q.out.fin)
      rw [List.drop_length] at *
      have hF := Lib.hid (hOk.out _ _ _ e.out hown hbel)
      clear hown hbel e q hlt
      go_wp2
      refine bodyPost_ret (v := .tuple #[_, .int .i64 0, .int .i64 0]) (by simp [results, Tryd.results19, go_sem]; rfl) rfl ?_
      exact hF.out
end Go.Proofs.YtmhnocgoknmljaaDoor
