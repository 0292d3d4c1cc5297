/-
  GENERAL: slices in memory: what reads as a list; what the call itself made and grows by append.
  Conditions: none of its own.
-/
import Derived.Test.YtpoddmkimhkmoaaGreatLib
import Derived.Maps.AppendAt
namespace Go.Sv
open Go.RowKit

/-- An integer of a list, by its number; a name of its own, so that the walk does not turn it. -/
def gi (l : List Int) (k : Nat) : Int := l.getD k 0
theorem gi_get {l : List Int} {k : Nat} (h : k < l.length) : l[k]? = some (gi l k) := by simp [gi, h]
theorem gi_mem {l : List Int} {k : Nat} (h : k < l.length) : gi l k ∈ l := by simp [gi, h]
theorem gi_snoc_lt {l : List Int} {x : Int} {k : Nat} (h : k < l.length) : gi (l ++ [x]) k = gi l k := by simp [gi, List.getElem?_append_left h]
theorem gi_snoc_last {l : List Int} {x : Int} : gi (l ++ [x]) l.length = x := by simp [gi]
theorem gi_ext {l m : List Int} (hl : l.length = m.length) (h : ∀ k, k < l.length → gi l k = gi m k) : l = m := by
  apply List.ext_getElem hl
  intro k h1 h2
  have := h k h1
  simpa [gi, h1, h2] using this

/-- One-cell elements that read as f 0, f 1, .. below block B. -/
def Arr (w : World) (B : Nat) (A : Option Addr) (n : Nat) (f : Nat → Value) : Prop :=
  0 < n → ∃ b off, A = some ⟨b, off, none⟩ ∧ b < B ∧ ∀ k, k < n → w.cell? ⟨b, off + k, none⟩ = some (f k)
theorem Arr.keep {w w' : World} {B n : Nat} {A : Option Addr} {f : Nat → Value} (h : Arr w B A n f) (hk : ∀ p : Addr, p.block < B → w'.cell? p = w.cell? p) : Arr w' B A n f := fun hn => by
  obtain ⟨b, off, e, hb, hc⟩ := h hn
  exact ⟨b, off, e, hb, fun k hkn => (hk ⟨b, off + k, none⟩ hb).trans (hc k hkn)⟩
theorem Arr.below {w w' : World} {B n : Nat} {A : Option Addr} {f : Nat → Value} (h : Arr w B A n f) (hb : Below B w w') : Arr w' B A n f := h.keep fun _ hp => hb.cell hp
theorem Arr.more {w : World} {B B' n : Nat} {A : Option Addr} {f : Nat → Value} (h : Arr w B A n f) (hB : B ≤ B') : Arr w B' A n f := fun hn => by
  obtain ⟨b, off, e, hb, hc⟩ := h hn
  exact ⟨b, off, e, by omega, hc⟩
theorem Arr.fewer {w : World} {B n m : Nat} {A : Option Addr} {f : Nat → Value} (h : Arr w B A n f) (hm : m ≤ n) : Arr w B A m f := fun hn => by
  obtain ⟨b, off, e, hb, hc⟩ := h (by omega)
  exact ⟨b, off, e, hb, fun k hk => hc k (by omega)⟩
theorem Arr.congr {w : World} {B n : Nat} {A : Option Addr} {f g : Nat → Value} (h : Arr w B A n f) (hfg : ∀ k, k < n → f k = g k) : Arr w B A n g := fun hn => by
  obtain ⟨b, off, e, hb, hc⟩ := h hn
  exact ⟨b, off, e, hb, fun k hk => by rw [← hfg k hk]; exact hc k hk⟩
theorem Arr.drawn {w w' : World} {B n : Nat} {A : Option Addr} {f : Nat → Value} (h : Arr w B A n f) (hd : Drawn w w') : Arr w' B A n f := h.keep fun p _ => hd.cell p

/-- Elements of s cells. -/
def ArrN (w : World) (B s : Nat) (A : Option Addr) (n : Nat) (f : Nat → Nat → Value) : Prop :=
  0 < n → ∃ b off, A = some ⟨b, off, none⟩ ∧ b < B ∧ ∀ k, k < n → ∀ i, i < s → w.cell? ⟨b, off + k * s + i, none⟩ = some (f k i)
theorem ArrN.keep {w w' : World} {B s n : Nat} {A : Option Addr} {f : Nat → Nat → Value} (h : ArrN w B s A n f) (hk : ∀ p : Addr, p.block < B → w'.cell? p = w.cell? p) : ArrN w' B s A n f := fun hn => by
  obtain ⟨b, off, e, hb, hc⟩ := h hn
  exact ⟨b, off, e, hb, fun k hkn i hi => (hk ⟨b, off + k * s + i, none⟩ hb).trans (hc k hkn i hi)⟩
theorem ArrN.below {w w' : World} {B s n : Nat} {A : Option Addr} {f : Nat → Nat → Value} (h : ArrN w B s A n f) (hb : Below B w w') : ArrN w' B s A n f := h.keep fun _ hp => hb.cell hp
theorem ArrN.more {w : World} {B B' s n : Nat} {A : Option Addr} {f : Nat → Nat → Value} (h : ArrN w B s A n f) (hB : B ≤ B') : ArrN w B' s A n f := fun hn => by
  obtain ⟨b, off, e, hb, hc⟩ := h hn
  exact ⟨b, off, e, by omega, hc⟩
theorem ArrN.drawn {w w' : World} {B s n : Nat} {A : Option Addr} {f : Nat → Nat → Value} (h : ArrN w B s A n f) (hd : Drawn w w') : ArrN w' B s A n f := h.keep fun p _ => hd.cell p

/-- What the call owns reads. -/
theorem own_form {w : World} {base : Nat} {e : TypeId} {size : Nat} {v : Value} {n : Nat} {xs : List Value} (h : w.ownsRow base e size v n xs) :
    ∃ A c, v = .slice A n c ∧ n ≤ c ∧ c ≤ maxLen ∧ (0 < n → ∃ b, A = some ⟨b, 0, none⟩ ∧ base ≤ b ∧ b < w.heap.size ∧ ∀ j, j < n * size → w.cell? ⟨b, j, none⟩ = xs[j]?) := by
  have h' := h
  obtain ⟨hl, h⟩ := h
  rcases h with ⟨rfl, rfl⟩ | ⟨g, cap, cur, rfl, hb, hh, hnc, hcm, hcs, htk⟩
  · exact ⟨none, 0, rfl, Nat.le_refl _, Nat.zero_le _, fun h => by omega⟩
  · refine ⟨_, _, rfl, hnc, hcm, fun _ => ⟨g, rfl, hb, ?_, fun j hj => ?_⟩⟩
    · rcases Nat.lt_or_ge g w.heap.size with hlt | hge
      · exact hlt
      · rw [Array.getElem?_eq_none hge] at hh; cases hh
    · exact World.ownsRow.cellAt h' j hj
theorem own_arr {w : World} {base : Nat} {e : TypeId} {v : Value} {n : Nat} {xs : List Value} {f : Nat → Value} (h : w.ownsRow base e 1 v n xs) (hf : ∀ k, k < n → xs[k]? = some (f k)) :
    ∃ A c, v = .slice A n c ∧ n ≤ c ∧ c ≤ maxLen ∧ Arr w w.heap.size A n f := by
  obtain ⟨A, c, hv, h1, h2, h3⟩ := own_form h
  refine ⟨A, c, hv, h1, h2, fun hn => ?_⟩
  obtain ⟨b, e, _, hb, hc⟩ := h3 hn
  exact ⟨b, 0, e, hb, fun k hk => by rw [Nat.zero_add, hc k (by omega), hf k hk]⟩
theorem own_arrN {w : World} {base : Nat} {e : TypeId} {s : Nat} {v : Value} {n : Nat} {xs : List Value} {f : Nat → Nat → Value} (h : w.ownsRow base e s v n xs) (hf : ∀ k, k < n → ∀ i, i < s → xs[k * s + i]? = some (f k i)) :
    ∃ A c, v = .slice A n c ∧ n ≤ c ∧ c ≤ maxLen ∧ ArrN w w.heap.size s A n f := by
  obtain ⟨A, c, hv, h1, h2, h3⟩ := own_form h
  refine ⟨A, c, hv, h1, h2, fun hn => ?_⟩
  obtain ⟨b, e, _, hb, hc⟩ := h3 hn
  refine ⟨b, 0, e, hb, fun k hk i hi => ?_⟩
  have hlt : k * s + i < n * s := by
    have : (k + 1) * s ≤ n * s := Nat.mul_le_mul_right s hk
    rw [Nat.add_mul] at this
    omega
  rw [Nat.zero_add, hc _ hlt, hf k hk i hi]

/-- An element type of slices, with its row of the table. -/
structure ElemT (P : Program) (t e : TypeId) (z : Value) (size bytes : Nat) : Prop where
  ht : P.underlying t = some (.slice e)
  hi : (P.info? e).map (fun i => (i.zero, i.size, i.bytes)) = some (some z, size, bytes)
  hz : z.cells.size = size
  hs : 0 < size

theorem own_below {w w' : World} {base : Nat} {e : TypeId} {size : Nat} {v : Value} {n : Nat} {xs : List Value} (h : w.ownsRow base e size v n xs) (hg : w.grownBy w' v.ownBlock) (hB : base ≤ w.heap.size) : Below base w w' :=
  (Below.refl _ _).grown hg hB (fun k hk => (h.lt k hk).1)

/-- 'out = append(out, x)': x lies in a new block of its own. -/
theorem push_own {P : Program} {t e : TypeId} {z : Value} {size bytes : Nat} (E : ElemT P t e z size bytes) {w : World} {ops : Array Oper} {rest : List Oper} {o : Oper} {a : Act} {Q : Exit → Act → World → Prop}
    (hgd : o.guard = none) (s x : Operand) (ho : o.op = .call { callee := .builtin .append, args := #[s, x], argTypes := #[t, t] })
    (base : Nat) (v : Value) (n : Nat) (xs : List Value) (hown : w.ownsRow base e size v n xs) (hs : a.eval s = v)
    (cs : List Value) (hx : a.eval x = .slice (some ⟨w.heap.size, 0, none⟩) 1 1) (hcl : cs.length = size) (h1 : cs.all (·.oneCell') = true)
    (hn : n ≤ 1073741824) (hby : bytes ≤ 4096) (hbase : base ≤ w.heap.size)
    (h : ∀ v' w', w'.ownsRow base e size v' (n + 1) (xs ++ cs) → (w.alloc (.cells cs.toArray e)).grownBy w' v.ownBlock → Below base w w' → w.heap.size < w'.heap.size →
      (v'.ownBlock = v.ownBlock ∨ v'.ownBlock = some (w.heap.size + 1)) → wpList P ops Q rest (a.put o.dst v') w') : wpList P ops Q (o :: rest) a (w.alloc (.cells cs.toArray e)) := by
  obtain ⟨i, hi, e1, e2, e3⟩ := info_parts E.hi
  have hsz : (w.alloc (.cells cs.toArray e)).heap.size = w.heap.size + 1 := by simp
  refine wpList_append_own_at _ hgd s x t ho base e i z size bytes E.ht hi e1 e2 e3 E.hz E.hs v n xs hs (hown.alloc _) ⟨w.heap.size, 0, none⟩ 1 1 cs hx (by rw [hcl, Nat.one_mul]) ?_
    (fun u hu => List.all_eq_true.1 h1 u hu) (by unfold maxLen; omega) ?_ (by omega) ?_
  · intro j u hu
    have : (⟨w.heap.size, 0, none⟩ : Addr).add j = ⟨w.heap.size, j, none⟩ := by
      unfold Addr.add
      split
      · rename_i h0; rw [h0]
      · simp
    rw [this, World.cell?_alloc_new]
    simpa using hu
  · have : (n + 1) * bytes ≤ (1073741824 + 1) * 4096 := Nat.mul_le_mul (by omega) hby
    omega
  · intro v' w' hown' hg _ hor
    have hb : Below base w w' := ((Below.refl base w).alloc hbase _).trans (own_below (hown.alloc _) hg (by omega))
    exact h v' w' hown' hg hb (by have := hg.size; omega) (by rw [hsz] at hor; exact hor)

/-- The same behind earlier blocks: the new block's number as the walk spells it. -/
theorem push_own' {P : Program} {t e : TypeId} {z : Value} {size bytes : Nat} (E : ElemT P t e z size bytes) {w : World} {ops : Array Oper} {rest : List Oper} {o : Oper} {a : Act} {Q : Exit → Act → World → Prop}
    (hgd : o.guard = none) (s x : Operand) (ho : o.op = .call { callee := .builtin .append, args := #[s, x], argTypes := #[t, t] })
    (base : Nat) (v : Value) (n : Nat) (xs : List Value) (hown : w.ownsRow base e size v n xs) (hs : a.eval s = v) (g : Nat)
    (cs : List Value) (hx : a.eval x = .slice (some ⟨g, 0, none⟩) 1 1) (hg : g = w.heap.size) (hcl : cs.length = size) (h1 : cs.all (·.oneCell') = true)
    (hn : n ≤ 1073741824) (hby : bytes ≤ 4096) (hbase : base ≤ w.heap.size)
    (h : ∀ v' w', w'.ownsRow base e size v' (n + 1) (xs ++ cs) → (w.alloc (.cells cs.toArray e)).grownBy w' v.ownBlock → Below base w w' → w.heap.size < w'.heap.size →
      (v'.ownBlock = v.ownBlock ∨ v'.ownBlock = some (w.heap.size + 1)) → wpList P ops Q rest (a.put o.dst v') w') : wpList P ops Q (o :: rest) a (w.alloc (.cells cs.toArray e)) := by
  subst hg
  exact push_own E hgd s x ho base v n xs hown hs cs hx hcl h1 hn hby hbase h

/-- The whole of another slice, appended: 'append(out, xs...)', xs nil, empty or not. -/
theorem run_append_arr {P : Program} {t e : TypeId} {z : Value} {size bytes : Nat} (E : ElemT P t e z size bytes) (w : World) (ty : TypeId)
    (base : Nat) (v : Value) (n : Nat) (xs : List Value) (hown : w.ownsRow base e size v n xs)
    (A : Option Addr) (m c : Nat) (news : List Value) (hnl : news.length = m * size) (h1 : ∀ u ∈ news, u.oneCell' = true)
    (hA : A = none → m = 0) (hc : ∀ ad, A = some ad → ∀ j u, news[j]? = some u → w.cell? (ad.add j) = some u)
    (hn : n + m ≤ 1073741824) (hby : bytes ≤ 4096) (hbase : base ≤ w.heap.size) :
    ∃ v' w', (Builtin.append_ #[t, t] ty #[v, .slice A m c]).run P w = .ok v' w' ∧ w'.ownsRow base e size v' (n + m) (xs ++ news) ∧ w.grownBy w' v.ownBlock ∧ (v'.ownBlock = v.ownBlock ∨ v'.ownBlock = some w.heap.size) := by
  obtain ⟨i, hi, e1, e2, e3⟩ := info_parts E.hi
  cases A with
  | none =>
    have hm := hA rfl
    subst hm
    have hnn : news = [] := List.eq_nil_of_length_eq_zero (by simpa using hnl)
    subst hnn
    refine ⟨v, w, ?_, by simpa using hown, World.grownBy.refl _ _, .inl rfl⟩
    rcases hown.2 with ⟨rfl, rfl⟩ | ⟨g, cap, cur, rfl, _, _, hnc, _⟩
    · simp [Builtin.append_, run_underlying E.ht, sizeOf, typeInfo, hi, Builtin.lenOf, Builtin.firstCells]
    · simp [Builtin.append_, run_underlying E.ht, sizeOf, typeInfo, hi, Builtin.lenOf, Builtin.firstCells, hnc, storeCells]
  | some ad =>
    have hb2 : (n + m) * bytes ≤ 140737488355328 := by
      have : (n + m) * bytes ≤ 1073741824 * 4096 := Nat.mul_le_mul hn hby
      omega
    obtain ⟨v', w', hr, h2, h3, _, h5⟩ := run_append_own_at (P := P) w base t ty e i z size bytes E.ht hi e1 e2 e3 E.hz E.hs v n xs hown ad m c news hnl (hc ad rfl) h1 (by unfold maxLen; omega) hb2 hbase
    exact ⟨v', w', hr, h2, h3, h5⟩
theorem append_arr {P : Program} {t e : TypeId} {z : Value} {size bytes : Nat} (E : ElemT P t e z size bytes) {w : World} {ops : Array Oper} {rest : List Oper} {o : Oper} {a : Act} {Q : Exit → Act → World → Prop}
    (hgd : o.guard = none) (s x : Operand) (ho : o.op = .call { callee := .builtin .append, args := #[s, x], argTypes := #[t, t] })
    (base : Nat) (v : Value) (n : Nat) (xs : List Value) (hown : w.ownsRow base e size v n xs) (hs : a.eval s = v)
    (A : Option Addr) (m c : Nat) (news : List Value) (hx : a.eval x = .slice A m c) (hnl : news.length = m * size) (h1 : ∀ u ∈ news, u.oneCell' = true)
    (hA : A = none → m = 0) (hc : ∀ ad, A = some ad → ∀ j u, news[j]? = some u → w.cell? (ad.add j) = some u)
    (hn : n + m ≤ 1073741824) (hby : bytes ≤ 4096) (hbase : base ≤ w.heap.size)
    (h : ∀ v' w', w'.ownsRow base e size v' (n + m) (xs ++ news) → w.grownBy w' v.ownBlock → Below base w w' → (v'.ownBlock = v.ownBlock ∨ v'.ownBlock = some w.heap.size) → wpList P ops Q rest (a.put o.dst v') w') :
    wpList P ops Q (o :: rest) a w := by
  refine wpList_plain hgd fun K hK => ?_
  obtain ⟨v', w', hr, h2, h3, h4⟩ := run_append_arr E w o.type base v n xs hown A m c news hnl h1 hA hc hn hby hbase
  unfold Oper.wp execOp
  simp only [ho, resolve, invoke, builtin, Sem.run_bind, Sem.run_pure, Result.andThen_ok, List.map_toArray, List.map_cons, List.map_nil, hs, hx, hr]
  exact hK _ _ (h v' w' h2 h3 (own_below hown h3 hbase) h4)

/-- What an Arr hands to 'append(.., xs...)'. -/
theorem arr_cells {w : World} {B n : Nat} {A : Option Addr} {f : Nat → Value} (h : Arr w B A n f) : ∀ ad, A = some ad → ∀ j u, ((List.range n).map f)[j]? = some u → w.cell? (ad.add j) = some u := by
  intro ad hA j u hu
  have hj : j < n := by
    have := (List.getElem?_eq_some_iff.1 hu).1
    simpa using this
  obtain ⟨b, off, e, _, hc⟩ := h (by omega)
  rw [hA] at e
  injection e with e
  subst e
  have : (⟨b, off, none⟩ : Addr).add j = ⟨b, off + j, none⟩ := by
    unfold Addr.add
    split
    · rename_i h0; rw [h0]; rfl
    · rfl
  rw [this, hc j hj]
  simpa [hj] using hu
/-- The cells of an ArrN, in a row. -/
def rowN (s n : Nat) (f : Nat → Nat → Value) : List Value := (List.range (n * s)).map fun j => f (j / s) (j % s)
theorem rowN_length (s n : Nat) (f : Nat → Nat → Value) : (rowN s n f).length = n * s := by simp [rowN]
theorem rowN_get {s n : Nat} {f : Nat → Nat → Value} {k i : Nat} (hk : k < n) (hi : i < s) : (rowN s n f)[k * s + i]? = some (f k i) := by
  have hlt : k * s + i < n * s := by
    have : (k + 1) * s ≤ n * s := Nat.mul_le_mul_right s hk
    rw [Nat.add_mul] at this
    omega
  have e1 : (k * s + i) / s = k := by rw [Nat.mul_comm, Nat.mul_add_div (by omega), Nat.div_eq_of_lt hi, Nat.add_zero]
  have e2 : (k * s + i) % s = i := by rw [Nat.mul_comm, Nat.mul_add_mod, Nat.mod_eq_of_lt hi]
  simp [rowN, hlt, e1, e2]
theorem arrN_cells {w : World} {B s n : Nat} {A : Option Addr} {f : Nat → Nat → Value} (hs : 0 < s) (h : ArrN w B s A n f) : ∀ ad, A = some ad → ∀ j u, (rowN s n f)[j]? = some u → w.cell? (ad.add j) = some u := by
  intro ad hA j u hu
  have hj : j < n * s := by
    have := (List.getElem?_eq_some_iff.1 hu).1
    simpa [rowN] using this
  have hn : 0 < n := by
    rcases Nat.eq_zero_or_pos n with h0 | h0
    · subst h0; omega
    · exact h0
  obtain ⟨b, off, e, _, hc⟩ := h hn
  rw [hA] at e
  injection e with e
  subst e
  have h2 : (⟨b, off, none⟩ : Addr).add j = ⟨b, off + j, none⟩ := by
    unfold Addr.add
    split
    · rename_i h0; rw [h0]; rfl
    · rfl
  have hk : j / s < n := Nat.div_lt_of_lt_mul (by rw [Nat.mul_comm]; exact hj)
  have hm : j % s < s := Nat.mod_lt _ hs
  have h3 := hc (j / s) hk (j % s) hm
  have h4 : off + j / s * s + j % s = off + j := by rw [Nat.add_assoc, Nat.mul_comm (j / s), Nat.div_add_mod]
  rw [h4] at h3
  rw [h2, h3]
  simpa [rowN, hj] using hu

/-- What a call leaves that hands back a slice: the value reads, and nothing that was there has turned. -/
def RArr (w : World) (n : Nat) (f : Nat → Value) (v : Value) (w' : World) : Prop :=
  ∃ A c, v = .slice A n c ∧ (A = none → n = 0 ∧ c = 0) ∧ Arr w' w'.heap.size A n f ∧ Below w.heap.size w w'
def RArrN (w : World) (s n : Nat) (f : Nat → Nat → Value) (v : Value) (w' : World) : Prop :=
  ∃ A c, v = .slice A n c ∧ (A = none → n = 0 ∧ c = 0) ∧ ArrN w' w'.heap.size s A n f ∧ Below w.heap.size w w'
theorem own_nil {w : World} {base : Nat} {e : TypeId} {size : Nat} {A : Option Addr} {n c : Nat} {xs : List Value} (h : w.ownsRow base e size (.slice A n c) n xs) : A = none → n = 0 ∧ c = 0 := by
  rintro rfl
  rcases h.2 with ⟨h, h0⟩ | ⟨g, cap, cur, h, _⟩
  · injection h with _ _ h
    exact ⟨h0, h⟩
  · injection h with h
    cases h
theorem own_RArrN {w w' : World} {base : Nat} {e : TypeId} {s : Nat} {v : Value} {n : Nat} {xs : List Value} {f : Nat → Nat → Value} (h : w'.ownsRow base e s v n xs) (hf : ∀ k, k < n → ∀ i, i < s → xs[k * s + i]? = some (f k i)) (hb : Below w.heap.size w w') :
    RArrN w s n f v w' := by
  obtain ⟨A, c, rfl, _, _, ha⟩ := own_arrN h hf
  exact ⟨A, c, rfl, own_nil h, ha, hb⟩
theorem own_RArr {w w' : World} {base : Nat} {e : TypeId} {v : Value} {n : Nat} {xs : List Value} {f : Nat → Value} (h : w'.ownsRow base e 1 v n xs) (hf : ∀ k, k < n → xs[k]? = some (f k)) (hb : Below w.heap.size w w') :
    RArr w n f v w' := by
  obtain ⟨A, c, rfl, _, _, ha⟩ := own_arr h hf
  exact ⟨A, c, rfl, own_nil h, ha, hb⟩

end Go.Sv
