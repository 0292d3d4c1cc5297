/-
  CONTRACTS of a strings.Builder's WriteByte and WriteString that keep other memory; the program's Join.
  Conditions: those that each theorem names.
-/
import Derived.Test.YtmhnocgoknmljaaDoorLyD
import Derived.Lib.OthersKept
namespace Go.Proofs.YtmhnocgoknmljaaDoor
open Go.RowKit Go.Sv Go.Lx
theorem cc_k (B b : Nat) (bs : List Value) (w : World) (h : Lib.IsBuilderF 56 5 B b bs w) :
    Calls Tryd.prog 62 #[.pointer (some ⟨b, 0, none⟩)] w fun e w' => e = .returned (.tuple #[]) ∧ (Lib.BuilderAtF 56 5 B b (.pointer (some ⟨b, 0, none⟩)) bs w' ∧ Below B w w' ∧ Lib.OthersKept 5 (some b) w w') := by
  rcases h with h | h
  · refine (cc_fresh b w h.cell0 h.shape h.frozen0).mono ?_
    rintro e w' ⟨rfl, rfl⟩
    exact ⟨rfl, h.used _, (Below.refl B w).setCell (p := ⟨b, 0, none⟩) h.1 _, (Lib.OthersKept.refl _ _ w).setCell ⟨b, 0, none⟩ rfl _⟩
  · refine (cc_used b w h.cell0).mono ?_
    rintro e w' ⟨rfl, rfl⟩
    exact ⟨rfl, h, Below.refl B _, Lib.OthersKept.refl _ _ _⟩
set_option maxHeartbeats 2000000 in
set_option maxRecDepth 100000 in
theorem wbyte_k (B b : Nat) (l : Bs) (c : UInt8) (w : World) (h : BldF B b l w) (hlen : l.length ≤ 100000000) (hBw : B ≤ w.heap.size) :
    Calls Tryd.prog 44 #[.pointer (some ⟨b, 0, none⟩), .int .u8 (c.toNat : Int)] w fun e w' => e = .returned .nilIface ∧ BldF B b (l ++ [c]) w' ∧ Below B w w' ∧ Lib.OthersKept 5 (some b) w w' := by
  obtain ⟨i0, hi, hz0, hz1, hz2⟩ := info_parts (show (Tryd.prog.info? 5).map (fun i => (i.zero, i.size, i.bytes)) = some (some (.int .u8 0), 1, 1) from by kernel_rfl)
  have hbl := Lib.byteCells_length l
  obtain ⟨bs, hbs⟩ : ∃ bs, Lib.byteCells l = bs := ⟨_, rfl⟩
  have hfin : Lib.byteCells (l ++ [c]) = bs ++ [.int .u8 (c.toNat : Int)] := by rw [Lib.byteCells_append, hbs]; rfl
  unfold BldF at h ⊢
  rw [hbs] at h hbl
  rw [hfin]
  clear hfin hbs
  replace hbl := Lib.hid hbl
  have HC := Lib.hid (cc_k B b bs w h)
  clear h
  go_enter Tryd.func44, Tryd.ntmps44
  go_wp2_with fail
  refine HC.out.mono ?_
  rintro e w1 ⟨rfl, h1, hb1, hk1⟩
  obtain ⟨hB, v, hbk, hown, hne⟩ := h1
  have c0 : w1.cell? ⟨b, 0, none⟩ = some (.pointer (some ⟨b, 0, none⟩)) := by rw [Lib.cell_of_heap hbk]; rfl
  have c1 : w1.cell? ⟨b, 1, none⟩ = some v := by rw [Lib.cell_of_heap hbk]; rfl
  go_wp2_with (at_builtin; refine wpList_append_ownF _ rfl _ _ 28 rfl B 5 i0 (.int .u8 0) 1 1 Tryd.underlying28 hi hz0 hz1 hz2 rfl (by decide) _ _ _ rfl (hown.alloc _) ⟨w1.heap.size, 0, none⟩ 1 1 [.int .u8 (c.toNat : Int)] rfl rfl ?c1 ?c2 ?c3 ?c4 ?c5 ?_)
  case c1 =>
    intro j u hj
    match j, hj with
    | 0, hj => simp at hj; subst hj; simp [Addr.add]
  case c2 => intro u hu; simp at hu; subst hu; rfl
  case c3 => have := hbl.out; unfold maxLen; omega
  case c4 => have := hbl.out; omega
  case c5 => have := hb1.size; simp; omega
  intro v' w2 hown' hgrow _
  have hlt : b < w1.heap.size := by
    rcases Nat.lt_or_ge b w1.heap.size with h' | h'
    · exact h'
    · simp [Array.getElem?_eq_none h'] at hbk
  have hb2 : w2.heap[b]? = some (.cells #[.pointer (some ⟨b, 0, none⟩), v] 56 (0, 0)) := by
    rw [hgrow.block b (by simp; omega) (fun e => hne e.symm), Lib.alloc_old w1 _ b hlt]
    exact hbk
  have d0 : w2.cell? ⟨b, 0, none⟩ = some (.pointer (some ⟨b, 0, none⟩)) := by rw [Lib.cell_of_heap hb2]; rfl
  have d1 : w2.cell? ⟨b, 1, none⟩ = some v := by rw [Lib.cell_of_heap hb2]; rfl
  have f1 : w2.frozen? ⟨b, 1, none⟩ = false := Lib.frozen_of_heap hb2 1
  obtain ⟨g, cap, rfl⟩ : ∃ g cap, v' = .slice (some ⟨g, 0, none⟩) (bs.length + 1) cap := by
    rcases hown'.2 with ⟨_, h0⟩ | ⟨g, cap, cur, fz, hv, _⟩
    · omega
    · exact ⟨g, cap, hv⟩
  go_wp2
  go_ret
  refine ⟨rfl, Or.inr ?_, ?_, ((hk1.alloc _).grown hgrow (Lib.ownsRowF_kind (hown.alloc _))).setCell ⟨b, 1, none⟩ rfl _⟩
  · exact Lib.BuilderAtF.put (T := 56) (e := 5) hB hb2 (bs' := bs ++ [.int .u8 (c.toNat : Int)]) (by simpa using hown') (by decide)
  · exact ((hb1.alloc (by have := hb1.size; omega) _).grown hgrow (by have := hb1.size; simp; omega) (fun k hk => (hown.lt k hk).1)).setCell (p := ⟨b, 1, none⟩) hB _
set_option maxHeartbeats 2000000 in
set_option maxRecDepth 100000 in
theorem wstr_k (B b : Nat) (l t : Bs) (w : World) (h : BldF B b l w) (hlen : l.length ≤ 100000000) (hlen2 : t.length ≤ 100000000) (hBw : B ≤ w.heap.size) :
    Calls Tryd.prog 45 #[.pointer (some ⟨b, 0, none⟩), .string (bS t)] w fun e w' => e = .returned (.tuple #[.int .i64 t.length, .nilIface]) ∧ BldF B b (l ++ t) w' ∧ Below B w w' ∧ Lib.OthersKept 5 (some b) w w' := by
  obtain ⟨i0, hi, hz0, hz1, hz2⟩ := info_parts (show (Tryd.prog.info? 5).map (fun i => (i.zero, i.size, i.bytes)) = some (some (.int .u8 0), 1, 1) from by kernel_rfl)
  have hbl := Lib.byteCells_length l
  obtain ⟨bs, hbs⟩ : ∃ bs, Lib.byteCells l = bs := ⟨_, rfl⟩
  have hfin : Lib.byteCells (l ++ t) = bs ++ Lib.strCells (bS t) := by rw [Lib.byteCells_append, hbs]; rfl
  have hts := bS_size t
  unfold BldF at h ⊢
  rw [hbs] at h hbl
  rw [hfin]
  clear hfin hbs
  obtain ⟨s, hs⟩ : ∃ s, bS t = s := ⟨_, rfl⟩
  rw [hs] at hts ⊢
  rw [← hts]
  clear hs
  replace hbl := Lib.hid hbl
  replace hts := Lib.hid hts
  have HC := Lib.hid (cc_k B b bs w h)
  clear h
  go_enter Tryd.func45, Tryd.ntmps45
  go_wp2_with fail
  refine HC.out.mono ?_
  rintro e w1 ⟨rfl, h1, hb1, hk1⟩
  obtain ⟨hB, v, hbk, hown, hne⟩ := h1
  have c0 : w1.cell? ⟨b, 0, none⟩ = some (.pointer (some ⟨b, 0, none⟩)) := by rw [Lib.cell_of_heap hbk]; rfl
  have c1 : w1.cell? ⟨b, 1, none⟩ = some v := by rw [Lib.cell_of_heap hbk]; rfl
  go_wp2_with (at_builtin; refine Lib.wpList_append_own_stringF _ rfl _ _ 28 9 rfl B 5 i0 Tryd.underlying28 Tryd.underlying9 hi hz0 hz1 hz2 _ _ _ rfl hown s rfl ?c3 ?c4 ?c5 ?_)
  case c3 => have := hbl.out; have := hts.out; unfold maxLen; omega
  case c4 => have := hbl.out; have := hts.out; omega
  case c5 => have := hb1.size; omega
  intro v' w2 hown' hgrow _
  have hlt : b < w1.heap.size := by
    rcases Nat.lt_or_ge b w1.heap.size with h' | h'
    · exact h'
    · simp [Array.getElem?_eq_none h'] at hbk
  have hb2 : w2.heap[b]? = some (.cells #[.pointer (some ⟨b, 0, none⟩), v] 56 (0, 0)) := by
    rw [hgrow.block b hlt (fun e => hne e.symm)]
    exact hbk
  have d0 : w2.cell? ⟨b, 0, none⟩ = some (.pointer (some ⟨b, 0, none⟩)) := by rw [Lib.cell_of_heap hb2]; rfl
  have d1 : w2.cell? ⟨b, 1, none⟩ = some v := by rw [Lib.cell_of_heap hb2]; rfl
  have f1 : w2.frozen? ⟨b, 1, none⟩ = false := Lib.frozen_of_heap hb2 1
  obtain ⟨ao, n', cap, rfl⟩ : ∃ ao n' cap, v' = .slice ao n' cap := by
    rcases hown'.2 with ⟨hv, _⟩ | ⟨g, cap, cur, fz, hv, _⟩
    · exact ⟨_, _, _, hv⟩
    · exact ⟨_, _, _, hv⟩
  go_wp2
  go_ret2
  refine ⟨rfl, Or.inr ?_, ?_, (hk1.grown hgrow (Lib.ownsRowF_kind hown)).setCell ⟨b, 1, none⟩ rfl _⟩
  · exact Lib.BuilderAtF.put (T := 56) (e := 5) hB hb2 (bs' := bs ++ Lib.strCells s) (by simpa [Lib.strCells_length] using hown') (by decide)
  · exact (hb1.grown hgrow (by have := hb1.size; omega) (fun k hk => (hown.lt k hk).1)).setCell (p := ⟨b, 1, none⟩) hB _
/-- boxes beside the builder are kept -/
theorem whole_kept {w w' : World} {b g : Nat} {t : TypeId} {cs : Array Value} (h : Whole w b t cs) (hk : Lib.OthersKept 5 (some g) w w') (hne : b ≠ g) (ht : t ≠ 5) : Whole w' b t cs :=
  hk b _ h (fun e => hne (Option.some.inj e)) (fun c fz e => by cases e; exact ht rfl)
theorem bld_to {B b : Nat} {l : Bs} {W W' : World} (h : BldF B b l W) (hb : Below W.heap.size W W') : BldF B b l W' := by
  have key : ∀ p, Lib.BuilderAtF 56 5 B b p (Lib.byteCells l) W → Lib.BuilderAtF 56 5 B b p (Lib.byteCells l) W' := by
    intro p hp
    have hlt := hp.lt
    obtain ⟨hB, v, hbk, hown, hne⟩ := hp
    exact ⟨hB, v, (hb.block b hlt).trans hbk, hown.kept (row := none) ⟨hb.os, hb.tape, hb.output, hb.size, fun k hk _ => hb.block k hk⟩ (by cases hv : v.ownBlock <;> simp), hne⟩
  exact h.imp (key _) (key _)
theorem bld_set {B b c k : Nat} {l : Bs} {W : World} {T : TypeId} {cs : Array Value} {x : Value} (h : BldF B b l W) (hw : Whole W c T cs) (hT : T ≠ 5) (hne : c ≠ b) : BldF B b l (W.setCell ⟨c, k, none⟩ x) := by
  have key : ∀ p, Lib.BuilderAtF 56 5 B b p (Lib.byteCells l) W → Lib.BuilderAtF 56 5 B b p (Lib.byteCells l) (W.setCell ⟨c, k, none⟩ x) := by
    intro p hp
    obtain ⟨hB, v, hbk, hown, hn⟩ := hp
    have h2 := Lib.ownBlock_neF hown hw hT
    refine ⟨hB, v, (Below.heap_setCell _ _ _ _ (fun e => hne e.symm)).trans hbk, hown.kept (row := some c) ⟨rfl, rfl, rfl, by simp [World.setCell], fun k _ hk => Below.heap_setCell _ _ _ _ (fun e => hk (by simp [e]))⟩ (Or.inr h2), hn⟩
  exact h.imp (key _) (key _)
/-- the builder and the boxes beside it -/
structure JB (w W : World) (acc : Bs) (bs : List Bx) : Prop where
  bl : BldF w.heap.size w.heap.size acc W
  fm : Fm w W bs []
  ty : ∀ x ∈ bs, x.t = 25 ∧ x.b ≠ w.heap.size
theorem JB.call {w W W' : World} {acc : Bs} {bs : List Bx} (h : JB w W acc bs) (hb : Below W.heap.size W W') : JB w W' acc bs := ⟨bld_to h.bl hb, h.fm.call hb, h.ty⟩
theorem JB.lt {w W : World} {acc : Bs} {bs : List Bx} (h : JB w W acc bs) : w.heap.size < W.heap.size := by
  rcases h.bl with x | x <;> exact x.lt
theorem JB.box {w W : World} {acc : Bs} {bs : List Bx} (h : JB w W acc bs) (cs : List Value) : JB w (W.alloc (.cells cs.toArray 25)) acc (⟨W.heap.size, 25, cs⟩ :: bs) :=
  ⟨bld_to h.bl ((Below.refl _ _).alloc (Nat.le_refl _) _), h.fm.box _ cs, fun x hx => by
    rcases List.mem_cons.1 hx with rfl | hx
    · exact ⟨rfl, by have := h.lt; show W.heap.size ≠ _; omega⟩
    · exact h.ty x hx⟩
theorem JB.set {w W : World} {acc : Bs} {bs : List Bx} (h : JB w W acc bs) (i : Nat) {x : Bx} (hi : bs[i]? = some x) (k : Nat) (v : Value) : JB w (W.setCell ⟨x.b, k, none⟩ v) acc (bs.set i ⟨x.b, x.t, x.cs.set k v⟩) := by
  have hx : x ∈ bs := List.mem_of_getElem? hi
  have hty := h.ty x hx
  refine ⟨bld_set h.bl (allB_at h.fm.bx x hx) (by rw [hty.1]; decide) hty.2, h.fm.set i hi k v, fun y hy => ?_⟩
  rcases List.mem_or_eq_of_mem_set hy with hy | rfl
  · exact h.ty y hy
  · exact hty
theorem JB.drop {w W : World} {acc : Bs} {bs : List Bx} (h : JB w W acc bs) (bs' : List Bx) (hb : bs'.Sublist bs) : JB w W acc bs' := ⟨h.bl, h.fm.drop bs' [] hb (List.Sublist.refl _), fun x hx => h.ty x (hb.subset hx)⟩
theorem JB.keep {w W W' : World} {acc acc' : Bs} {bs : List Bx} (h : JB w W acc bs) (hbl : BldF w.heap.size w.heap.size acc' W') (hb : Below w.heap.size W W') (hk : Lib.OthersKept 5 (some w.heap.size) W W') : JB w W' acc' bs :=
  ⟨hbl, ⟨h.fm.bel.trans hb, allB_of fun x hx => whole_kept (allB_at h.fm.bx x hx) hk (h.ty x hx).2 (by rw [(h.ty x hx).1]; decide), trivial, h.fm.lo, fun r hr => (by cases hr), h.fm.dis⟩, h.ty⟩
theorem JB.byte {w W : World} {acc : Bs} {bs : List Bx} (h : JB w W acc bs) (c : UInt8) (hl : acc.length ≤ 100000000) :
    Calls Tryd.prog 44 #[.pointer (some ⟨w.heap.size, 0, none⟩), .int .u8 (c.toNat : Int)] W fun e w' => e = .returned .nilIface ∧ JB w w' (acc ++ [c]) bs :=
  (wbyte_k w.heap.size w.heap.size acc c W h.bl hl h.fm.bel.size).mono fun _ _ ⟨h1, h2, h3, h4⟩ => ⟨h1, h.keep h2 h3 h4⟩
theorem JB.str {w W : World} {acc : Bs} {bs : List Bx} (h : JB w W acc bs) (t : Bs) (hl : acc.length ≤ 100000000) (ht : t.length ≤ 100000000) :
    Calls Tryd.prog 45 #[.pointer (some ⟨w.heap.size, 0, none⟩), .string (bS t)] W fun e w' => e = .returned (.tuple #[.int .i64 t.length, .nilIface]) ∧ JB w w' (acc ++ t) bs :=
  (wstr_k w.heap.size w.heap.size acc t W h.bl hl ht h.fm.bel.size).mono fun _ _ ⟨h1, h2, h3, h4⟩ => ⟨h1, h.keep h2 h3 h4⟩
theorem JB.fin {w W : World} {acc : Bs} {bs : List Bx} (h : JB w W acc bs) :
    Calls Tryd.prog 47 #[.pointer (some ⟨w.heap.size, 0, none⟩)] W fun e w' => e = .returned (.string (bS acc)) ∧ Below w.heap.size w w' :=
  (bstr_any w.heap.size w.heap.size acc W h.bl h.fm.bel.size).mono fun _ _ ⟨h1, h2⟩ => ⟨h1, h.fm.bel.trans h2⟩
theorem JB.new (w : World) : JB w (w.alloc (.cells #[.pointer none, .slice none 0 0] 56)) [] [] :=
  ⟨Lib.IsBuilderF.of (Lib.fresh_isBuilder 56 5 w), (Fm.init w).obj _, fun x hx => (by cases hx)⟩

/-! ### Join -/
/-- the joined text, said by what is left -/
structure JI (l : List Tok) (k : Nat) (last : Tok) (acc : Bs) : Prop where
  le : k ≤ l.length
  len : acc.length ≤ 3001 * k
  eq : joinV rd0 (l.filter validT) = acc ++ joinV last ((l.drop k).filter validT)
theorem JI.start (l : List Tok) : JI l 0 rd0 [] := ⟨Nat.zero_le _, Nat.zero_le _, rfl⟩
theorem JI.skip {l : List Tok} {k : Nat} {last : Tok} {acc : Bs} (q : JI l k last acc) (h : k < l.length) (hv : validT (tkAt l k) = false) : JI l (k + 1) last acc := by
  refine ⟨h, by have := q.len; omega, ?_⟩
  rw [q.eq, List.drop_eq_getElem_cons h, List.filter_cons_of_neg (by rw [← tkAt_get h, hv]; decide)]
theorem JI.take {l : List Tok} {k : Nat} {last : Tok} {acc : Bs} (q : JI l k last acc) (h : k < l.length) (hv : validT (tkAt l k) = true) (hw : (word (tkAt l k)).length ≤ 3000) : JI l (k + 1) (tkAt l k) (acc ++ (if apartB last (tkAt l k) = true then [32] else []) ++ word (tkAt l k)) := by
  refine ⟨h, ?_, ?_⟩
  · have := q.len
    have h1 : (if apartB last (tkAt l k) = true then ([32] : Bs) else []).length ≤ 1 := by split <;> simp
    rw [List.length_append, List.length_append, Nat.mul_add]
    omega
  · rw [q.eq, List.drop_eq_getElem_cons h, List.filter_cons_of_pos (by rw [← tkAt_get h]; exact hv), ← tkAt_get h]
    conv => lhs; rw [joinV]
    simp only [List.append_assoc]
theorem JI.fin {l : List Tok} {last : Tok} {acc : Bs} (q : JI l l.length last acc) : acc = joinV rd0 (l.filter validT) := by
  rw [q.eq, List.drop_length]; simp [joinV]
end Go.Proofs.YtmhnocgoknmljaaDoor
