/-
  CONTRACT of the law RatioField.
  Conditions: those that each theorem names.
-/
import Derived.Test.YtoiokopmpcogbaaGreatDoorRbF
import Derived.Test.YtoiokopmpcogbaaGreatDoorRegJ
namespace Go.Proofs.YtoiokopmpcogbaaGreatDoor
open Go.RowKit Go.Sv
def ratN (n d : List Int) : Value → List Bx → List Rd → Prop := fun v _ rs => ∃ q r, v = ratV n q d r ∧ rowRd n q ∈ rs ∧ rowRd d r ∈ rs
set_option maxHeartbeats 2000000 in
set_option maxRecDepth 100000 in
theorem small_c (a b : Nat) (w : World) (ha : a < 4294967296) (hb : b < 4294967296) :
    Calls Tryz.prog 37 #[.agg #[.int .u32 (a : Int), .int .u32 (b : Int)]] w (Ret (RRes w (rdN a (b + 1)) (rdD a (b + 1)))) := by
  have HO := Lib.hid (fun w' => by
    have := xrof_any (a : Int) ((b + 1 : Nat) : Int) w' (by omega) (by omega) (by omega) (by omega)
    rw [Int.toNat_natCast, Int.toNat_natCast, (mak_lim (a := a) (b := b + 1) (sm_s (by omega)) (sm_s (by omega)) (by omega)).1, (mak_lim (a := a) (b := b + 1) (sm_s (by omega)) (sm_s (by omega)) (by omega)).2.1, (mak_lim (a := a) (b := b + 1) (sm_s (by omega)) (sm_s (by omega)) (by omega)).2.2, show ((b + 1 : Nat) : Int) = (b : Int) + 1 from rfl] at this
    exact this)
  obtain ⟨N, hN⟩ : ∃ V, rdN a (b + 1) = V := ⟨_, rfl⟩
  obtain ⟨D, hD⟩ : ∃ V, rdD a (b + 1) = V := ⟨_, rfl⟩
  rw [hN, hD] at HO
  rw [hN, hD]
  have a0 : (0 : Int) ≤ (a : Int) := by omega
  have a1 : (a : Int) < 4294967296 := by omega
  have b0 : (0 : Int) ≤ (b : Int) := by omega
  have b1 : (b : Int) < 4294967296 := by omega
  have c1 : IntKind.u64.wrap (a : Int) = (a : Int) := by simp [IntKind.wrap, IntKind.bits, IntKind.signed]; omega
  have c2 : IntKind.u64.wrap (b : Int) = (b : Int) := by simp [IntKind.wrap, IntKind.bits, IntKind.signed]; omega
  have c3 : IntKind.u64.wrap ((b : Int) + 1) = (b : Int) + 1 := by simp [IntKind.wrap, IntKind.bits, IntKind.signed]; omega
  clear hN hD
  have S := Lib.hid ((Fm.init w).box 48 [.int .u32 (a : Int), .int .u32 (b : Int)])
  replace S := Lib.hid (S.out.box' 28 [.slice none 0 0, .slice none 0 0] (K := w.heap.size + 1) (by simp))
  go_enter Tryz.func37, Tryz.ntmps37
  go_wp2_with fail
  refine (HO.out _).mono ?_
  rintro e w1 ⟨_, rfl, q1, q2, rfl, hr, hr2, hf, hf2, hb⟩
  have fr1 := Lib.hid (hf.le S.out.size)
  have fr2 := Lib.hid (hf2.le S.out.size)
  replace S := Lib.hid (natRes2 S.out hr hr2 hf hf2 hb)
  clear hr hr2 hf hf2 hb
  obtain ⟨⟨z1, f1, y1, y1a, -⟩, ⟨z0, f0, y0, y0a, -⟩, -⟩ := S.out.facts
  replace S := Lib.hid (S.out.set 0 rfl 0 (.slice q1.a N.length q1.c))
  replace S := Lib.hid (S.out.set 0 rfl 1 (.slice q2.a D.length q2.c))
  replace S := Lib.hid (S.out.box' 28 [.slice q1.a N.length q1.c, .slice q2.a D.length q2.c] (K := w1.heap.size) (by simp))
  go_wp2
  refine bodyPost_ret (v := ratV N q1 D q2) (by simp [results, Tryz.results37, go_sem, y1, y1a, z1]) rfl ?_
  exact Ret.mk (fm_rres S.out (by simp) (by simp) fr1.out fr2.out)
set_option maxHeartbeats 4000000 in
set_option maxRecDepth 100000 in
theorem law_field (w : World) (x0 x1 u0 u1 v0 v1 : Nat) (hx0 : x0 < 4294967296) (hx1 : x1 < 4294967296) (hu0 : u0 < 4294967296) (hu1 : u1 < 4294967296) (hv0 : v0 < 4294967296) (hv1 : v1 < 4294967296) (ht : Tab w) (hm : MaxL w) :
    Calls Tryz.prog 12 #[.agg #[.int .u32 (x0 : Int), .int .u32 (x1 : Int)], .agg #[.int .u32 (u0 : Int), .int .u32 (u1 : Int)], .agg #[.int .u32 (v0 : Int), .int .u32 (v1 : Int)]] w fun e w' => e = .returned (.bool true) ∧ Below w.heap.size w w' := by
  obtain ⟨An, Ad, Bn, Bd, Cn, Cd, Sn, Sd, Pn, Pd, Un, Ud, Vn, Vd, ⟨lAn, lAd, lBn, lBd, lCn, lCd, lSn, lSd, lPn, lPd, lUn, lUd, lVn, lVd⟩, kA, kB, kC, kAB, kBA, kBk, kP, kU, kV, kT, kc, kc'⟩ := field_key x0 x1 u0 u1 v0 v1 hx0 hx1 hu0 hu1 hv0 hv1
  have RA := Lib.hid (fun w' => small_c x0 x1 w' hx0 hx1)
  rw [kA.1, kA.2] at RA
  have RB := Lib.hid (fun w' => small_c u0 u1 w' hu0 hu1)
  rw [kB.1, kB.2] at RB
  have RC := Lib.hid (fun w' => small_c v0 v1 w' hv0 hv1)
  rw [kC.1, kC.2] at RC
  have H1 := Lib.hid (fun q0 q1 q2 q3 w' (h0 : RLm w' w'.heap.size An q0) (h1 : RLm w' w'.heap.size Ad q1) (h2 : RLm w' w'.heap.size Bn q2) (h3 : RLm w' w'.heap.size Bd q3) => show Calls _ _ _ _ (Ret (RRes2 w' (addN An Ad Bn Bd) (addD An Ad Bn Bd) (addE An Ad Bn Bd))) from xadd_any w' _ q0 h0 lAn _ q1 h1 lAd _ q2 h2 lBn _ q3 h3 lBd)
  rw [kAB.1, kAB.2.1, kAB.2.2] at H1
  have H2 := Lib.hid (fun q0 q1 q2 q3 w' (h0 : RLm w' w'.heap.size Bn q0) (h1 : RLm w' w'.heap.size Bd q1) (h2 : RLm w' w'.heap.size An q2) (h3 : RLm w' w'.heap.size Ad q3) => show Calls _ _ _ _ (Ret (RRes2 w' (addN Bn Bd An Ad) (addD Bn Bd An Ad) (addE Bn Bd An Ad))) from xadd_any w' _ q0 h0 lBn _ q1 h1 lBd _ q2 h2 lAn _ q3 h3 lAd)
  rw [kBA.1, kBA.2.1, kBA.2.2] at H2
  have H3 := Lib.hid (fun q0 q1 q2 q3 w' (h0 : RLm w' w'.heap.size Sn q0) (h1 : RLm w' w'.heap.size Sd q1) (h2 : RLm w' w'.heap.size Bn q2) (h3 : RLm w' w'.heap.size Bd q3) => show Calls _ _ _ _ (Ret (RRes2 w' (subN Sn Sd Bn Bd) (subD Sn Sd Bn Bd) (subE Sn Sd Bn Bd))) from xsub_any w' _ q0 h0 lSn _ q1 h1 lSd _ q2 h2 lBn _ q3 h3 lBd)
  rw [kBk.1, kBk.2.1, kBk.2.2] at H3
  have H4 := Lib.hid (fun q0 q1 q2 q3 w' (h0 : RLm w' w'.heap.size Sn q0) (h1 : RLm w' w'.heap.size Sd q1) (h2 : RLm w' w'.heap.size Cn q2) (h3 : RLm w' w'.heap.size Cd q3) => show Calls _ _ _ _ (Ret (RRes2 w' (prdN Sn Sd Cn Cd) (prdD Sn Sd Cn Cd) (prdE Sn Sd Cn Cd))) from xmul_any w' _ q0 h0 lSn _ q1 h1 lSd _ q2 h2 lCn _ q3 h3 lCd)
  rw [kP.1, kP.2.1, kP.2.2] at H4
  have H5 := Lib.hid (fun q0 q1 q2 q3 w' (h0 : RLm w' w'.heap.size An q0) (h1 : RLm w' w'.heap.size Ad q1) (h2 : RLm w' w'.heap.size Cn q2) (h3 : RLm w' w'.heap.size Cd q3) => show Calls _ _ _ _ (Ret (RRes2 w' (prdN An Ad Cn Cd) (prdD An Ad Cn Cd) (prdE An Ad Cn Cd))) from xmul_any w' _ q0 h0 lAn _ q1 h1 lAd _ q2 h2 lCn _ q3 h3 lCd)
  rw [kU.1, kU.2.1, kU.2.2] at H5
  have H6 := Lib.hid (fun q0 q1 q2 q3 w' (h0 : RLm w' w'.heap.size Cn q0) (h1 : RLm w' w'.heap.size Cd q1) (h2 : RLm w' w'.heap.size Bn q2) (h3 : RLm w' w'.heap.size Bd q3) => show Calls _ _ _ _ (Ret (RRes2 w' (prdN Cn Cd Bn Bd) (prdD Cn Cd Bn Bd) (prdE Cn Cd Bn Bd))) from xmul_any w' _ q0 h0 lCn _ q1 h1 lCd _ q2 h2 lBn _ q3 h3 lBd)
  rw [kV.1, kV.2.1, kV.2.2] at H6
  have H7 := Lib.hid (fun q0 q1 q2 q3 w' (h0 : RLm w' w'.heap.size Un q0) (h1 : RLm w' w'.heap.size Ud q1) (h2 : RLm w' w'.heap.size Vn q2) (h3 : RLm w' w'.heap.size Vd q3) => show Calls _ _ _ _ (Ret (RRes2 w' (addN Un Ud Vn Vd) (addD Un Ud Vn Vd) (addE Un Ud Vn Vd))) from xadd_any w' _ q0 h0 lUn _ q1 h1 lUd _ q2 h2 lVn _ q3 h3 lVd)
  rw [kT.1, kT.2.1, kT.2.2] at H7
  have H8 := Lib.hid (fun q0 q1 q2 q3 w' (h0 : RLm w' w'.heap.size Pn q0) (h1 : RLm w' w'.heap.size Pd q1) (h2 : RLm w' w'.heap.size Pn q2) (h3 : RLm w' w'.heap.size Pd q3) => xcmp_any w' Pn q0 h0 lPn Pd q1 h1 lPd Pn q2 h2 lPn Pd q3 h3 lPd)
  rw [kc, kc'] at H8
  have ht' := Lib.hid (fun w' (hb : Below w.heap.size w w') => ht.to hb)
  have hm' := Lib.hid (fun w' (hb : Below w.heap.size w w') => hm.to hb)
  have HAw := Lib.hid (fun w' (h : Below w.heap.size w w') => awake_c w' (ht'.out _ h) (hm'.out _ h))
  have HS := Lib.hid (fun n d q r q2 r2 w' (h1 : RLm w' w'.heap.size n q) (h2 : RLm w' w'.heap.size d r) (h3 : RLm w' w'.heap.size n q2) (h4 : RLm w' w'.heap.size d r2) => xsame_t w' n d q r q2 r2 h1 h2 h3 h4)
  clear kA kB kC kAB kBA kBk kP kU kV kT kc kc' ht hm lAn lAd lBn lBd lCn lCd lSn lSd lPn lPd lUn lUd lVn lVd hx0 hx1 hu0 hu1 hv0 hv1
  have S := Lib.hid ((Fm.init w).box 48 [.int .u32 (x0 : Int), .int .u32 (x1 : Int)])
  replace S := Lib.hid (S.out.box' 48 [.int .u32 (u0 : Int), .int .u32 (u1 : Int)] (K := w.heap.size + 1) (by simp))
  replace S := Lib.hid (S.out.box' 48 [.int .u32 (v0 : Int), .int .u32 (v1 : Int)] (K := w.heap.size + 1 + 1) (by simp))
  go_enter Tryz.func12, Tryz.ntmps12
  go_wp2_with fail
  refine (HAw.out _ S.out.bel).mono ?_
  rintro e w1 ⟨rfl, hb⟩
  replace S := Lib.hid (S.out.call hb)
  clear hb
  obtain ⟨⟨z2, f2, y2, y2a, -⟩, ⟨z1, f1, y1, y1a, -⟩, ⟨z0, f0, y0, y0a, -⟩, -⟩ := S.out.facts
  go_wp2_with fail
  refine wp_region_any (by kernel_rfl) ?_
  change wpAny _ _ _ _ _ #[false, false, false, false, false, false, false, false, false, false, false, false] _ (World.drew _)
  replace S := Lib.hid S.out.drew
  clear z0 f0 y0 y0a z1 f1 y1 y1a z2 f2 y2 y2a
  generalize hJ : ([⟨0, 29, false, valN (.agg #[.int .u32 (x0 : Int), .int .u32 (x1 : Int)])⟩, ⟨1, 30, false, ratN An Ad⟩, ⟨2, 31, false, valN (.agg #[.int .u32 (u0 : Int), .int .u32 (u1 : Int)])⟩, ⟨3, 32, false, ratN Bn Bd⟩, ⟨4, 33, false, valN (.agg #[.int .u32 (v0 : Int), .int .u32 (v1 : Int)])⟩, ⟨5, 34, false, ratN Cn Cd⟩, ⟨6, 7, true, boxN 28 [.slice none 0 0, .slice none 0 0]⟩, ⟨7, 8, true, boxN 28 [.slice none 0 0, .slice none 0 0]⟩, ⟨8, 9, true, boxN 28 [.slice none 0 0, .slice none 0 0]⟩] : List Jb) = J
  have hI : J.map Jb.i = [0, 1, 2, 3, 4, 5, 6, 7, 8] := by subst hJ; rfl
  have hD : J.map Jb.d = [29, 30, 31, 32, 33, 34, 7, 8, 9] := by subst hJ; rfl
  refine regj_go (T := [9, 10, 11]) [0, 1, 2, 3, 4, 5, 6, 7, 8] [29, 30, 31, 32, 33, 34, 7, 8, 9] hI hD 9 _ #[true, true, true, true, true, true, true, true, true, false, false, false] (by decide) (by decide) (by kernel_rfl) (by decide) (by decide) (by kernel_rfl) (by kernel_rfl) (by decide) (by decide) (by decide) (by decide) rfl (by decide) (by kernel_rfl) (by decide) (by decide) S.out ?hmono ?hbx ?hstep ?hrest
  all_goals clear hI hD
  case hmono =>
    subst hJ
    intro j hj v bs bs' rs rs' hb hr hN
    simp only [List.mem_cons, List.not_mem_nil, or_false] at hj
    rcases hj with rfl | rfl | rfl | rfl | rfl | rfl | rfl | rfl | rfl
    · exact hN
    · obtain ⟨q, r, e, m1, m2⟩ := hN; exact ⟨q, r, e, hr _ m1, hr _ m2⟩
    · exact hN
    · obtain ⟨q, r, e, m1, m2⟩ := hN; exact ⟨q, r, e, hr _ m1, hr _ m2⟩
    · exact hN
    · obtain ⟨q, r, e, m1, m2⟩ := hN; exact ⟨q, r, e, hr _ m1, hr _ m2⟩
    · obtain ⟨g, e, m⟩ := hN; exact ⟨g, e, hb _ m⟩
    · obtain ⟨g, e, m⟩ := hN; exact ⟨g, e, hb _ m⟩
    · obtain ⟨g, e, m⟩ := hN; exact ⟨g, e, hb _ m⟩
  case hbx =>
    subst hJ
    intro j hj hx v bs rs hN
    simp only [List.mem_cons, List.not_mem_nil, or_false] at hj
    rcases hj with rfl | rfl | rfl | rfl | rfl | rfl | rfl | rfl | rfl
    · cases hx
    · cases hx
    · cases hx
    · cases hx
    · cases hx
    · cases hx
    · obtain ⟨g, e, m⟩ := hN; exact ⟨_, m, e⟩
    · obtain ⟨g, e, m⟩ := hN; exact ⟨_, m, e⟩
    · obtain ⟨g, e, m⟩ := hN; exact ⟨_, m, e⟩
  case hstep =>
    subst hJ
    intro j hj
    simp only [List.mem_cons, List.not_mem_nil, or_false] at hj
    rcases hj with rfl | rfl | rfl | rfl | rfl | rfl | rfl | rfl | rfl
    · refine ⟨_, rfl, rfl, fun a wq bs rs K hag hS hb0 hr0 hw hK => ?_⟩
      have hwh := allB_at hS.bx ⟨w.heap.size, 48, [.int .u32 (x0 : Int), .int .u32 (x1 : Int)]⟩ (hb0 _ (by simp))
      have yy0 : wq.cell? ⟨w.heap.size, 0, none⟩ = some (.int .u32 (x0 : Int)) := hwh.cell 0
      have yy1 : wq.cell? ⟨w.heap.size, 1, none⟩ = some (.int .u32 (x1 : Int)) := hwh.cell 1
      have e3 : a.tmps[3]?.getD undef = .pointer (some ⟨w.heap.size, 0, none⟩) := eval_raw ((hag.eval (by decide)).trans rfl)
      clear hag hw hb0 hr0 hwh
      replace hS := Lib.hid hS
      replace hK := Lib.hid hK
      go_simp
      exact hK.out _ _ _ _ hS.out (fun _ h => h) (fun _ h => h) rfl (fun h => by cases h)
    · refine ⟨_, rfl, rfl, fun a wq bs rs K hag hS hb0 hr0 hw hK => ?_⟩
      have e2 : a.eval (.tmp 29) = .agg #[.int .u32 (x0 : Int), .int .u32 (x1 : Int)] := hw _ (List.Mem.head _) (by kernel_rfl)
      have e3 := eval_raw e2
      clear e2
      clear hag hw hb0 hr0
      replace hS := Lib.hid hS
      replace hK := Lib.hid hK
      go_simp
      go_at_call 37
      refine (RA.out _).mono ?_
      rintro e w6 ⟨_, rfl, q, r, rfl, hr, hr2, hf, hf2, hb⟩
      exact hK.out _ _ _ _ (natRes2 hS.out hr hr2 hf hf2 hb) (fun _ h => h) (fun _ h => List.mem_cons_of_mem _ (List.mem_cons_of_mem _ h)) ⟨q, r, rfl, by simp, by simp⟩ (fun h => by cases h)
    · refine ⟨_, rfl, rfl, fun a wq bs rs K hag hS hb0 hr0 hw hK => ?_⟩
      have hwh := allB_at hS.bx ⟨w.heap.size + 1, 48, [.int .u32 (u0 : Int), .int .u32 (u1 : Int)]⟩ (hb0 _ (by simp))
      have yy0 : wq.cell? ⟨w.heap.size + 1, 0, none⟩ = some (.int .u32 (u0 : Int)) := hwh.cell 0
      have yy1 : wq.cell? ⟨w.heap.size + 1, 1, none⟩ = some (.int .u32 (u1 : Int)) := hwh.cell 1
      have e3 : a.tmps[4]?.getD undef = .pointer (some ⟨w.heap.size + 1, 0, none⟩) := eval_raw ((hag.eval (by decide)).trans rfl)
      clear hag hw hb0 hr0 hwh
      replace hS := Lib.hid hS
      replace hK := Lib.hid hK
      go_simp
      exact hK.out _ _ _ _ hS.out (fun _ h => h) (fun _ h => h) rfl (fun h => by cases h)
    · refine ⟨_, rfl, rfl, fun a wq bs rs K hag hS hb0 hr0 hw hK => ?_⟩
      have e2 : a.eval (.tmp 31) = .agg #[.int .u32 (u0 : Int), .int .u32 (u1 : Int)] := hw _ (List.Mem.tail _ (List.Mem.tail _ (List.Mem.head _))) (by kernel_rfl)
      have e3 := eval_raw e2
      clear e2
      clear hag hw hb0 hr0
      replace hS := Lib.hid hS
      replace hK := Lib.hid hK
      go_simp
      go_at_call 37
      refine (RB.out _).mono ?_
      rintro e w6 ⟨_, rfl, q, r, rfl, hr, hr2, hf, hf2, hb⟩
      exact hK.out _ _ _ _ (natRes2 hS.out hr hr2 hf hf2 hb) (fun _ h => h) (fun _ h => List.mem_cons_of_mem _ (List.mem_cons_of_mem _ h)) ⟨q, r, rfl, by simp, by simp⟩ (fun h => by cases h)
    · refine ⟨_, rfl, rfl, fun a wq bs rs K hag hS hb0 hr0 hw hK => ?_⟩
      have hwh := allB_at hS.bx ⟨w.heap.size + 1 + 1, 48, [.int .u32 (v0 : Int), .int .u32 (v1 : Int)]⟩ (hb0 _ (by simp))
      have yy0 : wq.cell? ⟨w.heap.size + 1 + 1, 0, none⟩ = some (.int .u32 (v0 : Int)) := hwh.cell 0
      have yy1 : wq.cell? ⟨w.heap.size + 1 + 1, 1, none⟩ = some (.int .u32 (v1 : Int)) := hwh.cell 1
      have e3 : a.tmps[5]?.getD undef = .pointer (some ⟨w.heap.size + 1 + 1, 0, none⟩) := eval_raw ((hag.eval (by decide)).trans rfl)
      clear hag hw hb0 hr0 hwh
      replace hS := Lib.hid hS
      replace hK := Lib.hid hK
      go_simp
      exact hK.out _ _ _ _ hS.out (fun _ h => h) (fun _ h => h) rfl (fun h => by cases h)
    · refine ⟨_, rfl, rfl, fun a wq bs rs K hag hS hb0 hr0 hw hK => ?_⟩
      have e2 : a.eval (.tmp 33) = .agg #[.int .u32 (v0 : Int), .int .u32 (v1 : Int)] := hw _ (List.Mem.tail _ (List.Mem.tail _ (List.Mem.tail _ (List.Mem.tail _ (List.Mem.head _))))) (by kernel_rfl)
      have e3 := eval_raw e2
      clear e2
      clear hag hw hb0 hr0
      replace hS := Lib.hid hS
      replace hK := Lib.hid hK
      go_simp
      go_at_call 37
      refine (RC.out _).mono ?_
      rintro e w6 ⟨_, rfl, q, r, rfl, hr, hr2, hf, hf2, hb⟩
      exact hK.out _ _ _ _ (natRes2 hS.out hr hr2 hf hf2 hb) (fun _ h => h) (fun _ h => List.mem_cons_of_mem _ (List.mem_cons_of_mem _ h)) ⟨q, r, rfl, by simp, by simp⟩ (fun h => by cases h)
    · refine ⟨_, rfl, rfl, fun a wq bs rs K hag hS hb0 hr0 hw hK => ?_⟩
      clear hag hw hb0 hr0
      replace hS := Lib.hid hS
      replace hK := Lib.hid hK
      go_simp
      exact hK.out _ _ _ _ (hS.out.box 28 [.slice none 0 0, .slice none 0 0]) (fun _ h => List.mem_cons_of_mem _ h) (fun _ h => h) ⟨_, rfl, List.mem_cons_self ..⟩ (fun _ => boxN.fresh hS.out)
    · refine ⟨_, rfl, rfl, fun a wq bs rs K hag hS hb0 hr0 hw hK => ?_⟩
      clear hag hw hb0 hr0
      replace hS := Lib.hid hS
      replace hK := Lib.hid hK
      go_simp
      exact hK.out _ _ _ _ (hS.out.box 28 [.slice none 0 0, .slice none 0 0]) (fun _ h => List.mem_cons_of_mem _ h) (fun _ h => h) ⟨_, rfl, List.mem_cons_self ..⟩ (fun _ => boxN.fresh hS.out)
    · refine ⟨_, rfl, rfl, fun a wq bs rs K hag hS hb0 hr0 hw hK => ?_⟩
      clear hag hw hb0 hr0
      replace hS := Lib.hid hS
      replace hK := Lib.hid hK
      go_simp
      exact hK.out _ _ _ _ (hS.out.box 28 [.slice none 0 0, .slice none 0 0]) (fun _ h => List.mem_cons_of_mem _ h) (fun _ h => h) ⟨_, rfl, List.mem_cons_self ..⟩ (fun _ => boxN.fresh hS.out)
  case hrest =>
    subst hJ
    intro f w2 bs rs S2 hb0 hr0 hN hne
    obtain ⟨X0, e0⟩ : ∃ x, f 29 = x := ⟨_, rfl⟩
    obtain ⟨X1, e1⟩ : ∃ x, f 31 = x := ⟨_, rfl⟩
    obtain ⟨X2, e2⟩ : ∃ x, f 33 = x := ⟨_, rfl⟩
    obtain ⟨q1, r1, e30, m1, n1⟩ := hN _ (List.Mem.tail _ (List.Mem.head _))
    obtain ⟨q2, r2, e32, m2, n2⟩ := hN _ (List.Mem.tail _ (List.Mem.tail _ (List.Mem.tail _ (List.Mem.head _))))
    obtain ⟨q3, r3, e34, m3, n3⟩ := hN _ (List.Mem.tail _ (List.Mem.tail _ (List.Mem.tail _ (List.Mem.tail _ (List.Mem.tail _ (List.Mem.head _))))))
    obtain ⟨g1, e7, b1⟩ := hN _ (List.Mem.tail _ (List.Mem.tail _ (List.Mem.tail _ (List.Mem.tail _ (List.Mem.tail _ (List.Mem.tail _ (List.Mem.head _)))))))
    obtain ⟨g2, e8, b2⟩ := hN _ (List.Mem.tail _ (List.Mem.tail _ (List.Mem.tail _ (List.Mem.tail _ (List.Mem.tail _ (List.Mem.tail _ (List.Mem.tail _ (List.Mem.head _))))))))
    obtain ⟨g3, e9, b3⟩ := hN _ (List.Mem.tail _ (List.Mem.tail _ (List.Mem.tail _ (List.Mem.tail _ (List.Mem.tail _ (List.Mem.tail _ (List.Mem.tail _ (List.Mem.tail _ (List.Mem.head _)))))))))
    replace e30 : f 30 = ratV An q1 Ad r1 := e30
    replace e32 : f 32 = ratV Bn q2 Bd r2 := e32
    replace e34 : f 34 = ratV Cn q3 Cd r3 := e34
    replace e7 : f 7 = .pointer (some ⟨g1, 0, none⟩) := e7
    replace e8 : f 8 = .pointer (some ⟨g2, 0, none⟩) := e8
    replace e9 : f 9 = .pointer (some ⟨g3, 0, none⟩) := e9
    have h12 : g1 ≠ g2 := fun e => hne _ (List.Mem.tail _ (List.Mem.tail _ (List.Mem.tail _ (List.Mem.tail _ (List.Mem.tail _ (List.Mem.tail _ (List.Mem.head _))))))) _ (List.Mem.tail _ (List.Mem.tail _ (List.Mem.tail _ (List.Mem.tail _ (List.Mem.tail _ (List.Mem.tail _ (List.Mem.tail _ (List.Mem.head _)))))))) rfl rfl (by decide) (show f 7 = f 8 by rw [e7, e8, e])
    have h13 : g1 ≠ g3 := fun e => hne _ (List.Mem.tail _ (List.Mem.tail _ (List.Mem.tail _ (List.Mem.tail _ (List.Mem.tail _ (List.Mem.tail _ (List.Mem.head _))))))) _ (List.Mem.tail _ (List.Mem.tail _ (List.Mem.tail _ (List.Mem.tail _ (List.Mem.tail _ (List.Mem.tail _ (List.Mem.tail _ (List.Mem.tail _ (List.Mem.head _))))))))) rfl rfl (by decide) (show f 7 = f 9 by rw [e7, e9, e])
    have h23 : g2 ≠ g3 := fun e => hne _ (List.Mem.tail _ (List.Mem.tail _ (List.Mem.tail _ (List.Mem.tail _ (List.Mem.tail _ (List.Mem.tail _ (List.Mem.tail _ (List.Mem.head _)))))))) _ (List.Mem.tail _ (List.Mem.tail _ (List.Mem.tail _ (List.Mem.tail _ (List.Mem.tail _ (List.Mem.tail _ (List.Mem.tail _ (List.Mem.tail _ (List.Mem.head _))))))))) rfl rfl (by decide) (show f 8 = f 9 by rw [e8, e9, e])
    have h21 := Ne.symm h12
    have h31 := Ne.symm h13
    have h32 := Ne.symm h23
    replace S := Lib.hid (S2.pick [⟨g3, 28, [.slice none 0 0, .slice none 0 0]⟩, ⟨g2, 28, [.slice none 0 0, .slice none 0 0]⟩, ⟨g1, 28, [.slice none 0 0, .slice none 0 0]⟩] [rowRd Cd r3, rowRd Cn q3, rowRd Bd r2, rowRd Bn q2, rowRd Ad r1, rowRd An q1]
      (fun x hx => by
        simp only [List.mem_cons, List.not_mem_nil, or_false] at hx
        rcases hx with rfl | rfl | rfl
        · exact b3
        · exact b2
        · exact b1)
      (fun x hx => by
        simp only [List.mem_cons, List.not_mem_nil, or_false] at hx
        rcases hx with rfl | rfl | rfl | rfl | rfl | rfl
        · exact n3
        · exact m3
        · exact n2
        · exact m2
        · exact n1
        · exact m1)
      (by simp only [List.pairwise_cons, List.mem_cons, List.not_mem_nil, or_false, forall_eq_or_imp, forall_eq]; exact ⟨⟨h32, h31⟩, h21, fun _ h => h.elim, List.Pairwise.nil⟩))
    simp only [List.foldl_cons, List.foldl_nil, List.drop_succ_cons, List.drop_zero, e0, e1, e2, e30, e32, e34, e7, e8, e9]
    clear hb0 hr0 hN hne e0 e1 e2 e30 e32 e34 e7 e8 e9 m1 n1 m2 n2 m3 n3 b1 b2 b3 S2
    clear f bs rs RA RB RC
    obtain ⟨⟨z2, f2, y2, y2a, -⟩, ⟨z1, f1, y1, y1a, -⟩, ⟨z0, f0, y0, y0a, -⟩, -⟩ := S.out.facts
    clear HAw ht' hm'
    replace S := Lib.hid (S.out.set 2 rfl 0 (.slice q1.a An.length q1.c))
    replace S := Lib.hid (S.out.set 2 rfl 1 (.slice r1.a Ad.length r1.c))
    replace S := Lib.hid (S.out.set 1 rfl 0 (.slice q2.a Bn.length q2.c))
    replace S := Lib.hid (S.out.set 1 rfl 1 (.slice r2.a Bd.length r2.c))
    replace S := Lib.hid (S.out.set 0 rfl 0 (.slice q3.a Cn.length q3.c))
    replace S := Lib.hid (S.out.set 0 rfl 1 (.slice r3.a Cd.length r3.c))
    go_wp2_with fail
    refine (H1.out _ _ _ _ _ S.out.r5 S.out.r4 S.out.r3 S.out.r2).mono ?_
    rintro e w3 ⟨_, rfl, q4, r4, rfl, hr, hr2, hf, hf2, hb⟩
    replace S := Lib.hid (natRes2 S.out hr hr2 hf hf2 hb)
    clear hr hr2 hf hf2 hb z0 f0 y0 y0a z1 f1 y1 y1a z2 f2 y2 y2a
    obtain ⟨⟨z2, f2, y2, y2a, -⟩, ⟨z1, f1, y1, y1a, -⟩, ⟨z0, f0, y0, y0a, -⟩, -⟩ := S.out.facts
    replace S := Lib.hid (S.out.box 28 [.slice q4.a (Sn).length q4.c, .slice r4.a (Sd).length r4.c])
    go_wp2_with fail
    refine (H2.out _ _ _ _ _ S.out.r5 S.out.r4 S.out.r7 S.out.r6).mono ?_
    rintro e w4 ⟨_, rfl, q5, r5, rfl, hr, hr2, hf, hf2, hb⟩
    replace S := Lib.hid (natRes2 S.out hr hr2 hf hf2 hb)
    clear hr hr2 hf hf2 hb z0 f0 y0 y0a z1 f1 y1 y1a z2 f2 y2 y2a
    obtain ⟨⟨z3, f3, y3, y3a, -⟩, ⟨z2, f2, y2, y2a, -⟩, ⟨z1, f1, y1, y1a, -⟩, ⟨z0, f0, y0, y0a, -⟩, -⟩ := S.out.facts
    replace S := Lib.hid (S.out.box 28 [.slice q5.a (Sn).length q5.c, .slice r5.a (Sd).length r5.c])
    go_wp2_with fail
    refine (H3.out _ _ _ _ _ S.out.r3 S.out.r2 S.out.r7 S.out.r6).mono ?_
    rintro e w5 ⟨_, rfl, q6, r6, rfl, hr, hr2, hf, hf2, hb⟩
    replace S := Lib.hid (natRes2 S.out hr hr2 hf hf2 hb)
    clear hr hr2 hf hf2 hb z0 f0 y0 y0a z1 f1 y1 y1a z2 f2 y2 y2a z3 f3 y3 y3a
    obtain ⟨⟨z4, f4, y4, y4a, -⟩, ⟨z3, f3, y3, y3a, -⟩, ⟨z2, f2, y2, y2a, -⟩, ⟨z1, f1, y1, y1a, -⟩, ⟨z0, f0, y0, y0a, -⟩, -⟩ := S.out.facts
    replace S := Lib.hid (S.out.box 28 [.slice q6.a (An).length q6.c, .slice r6.a (Ad).length r6.c])
    go_wp2_with fail
    refine (H4.out _ _ _ _ _ S.out.r5 S.out.r4 S.out.r7 S.out.r6).mono ?_
    rintro e w6 ⟨_, rfl, q7, r7, rfl, hr, hr2, hf, hf2, hb⟩
    replace S := Lib.hid (natRes2 S.out hr hr2 hf hf2 hb)
    clear hr hr2 hf hf2 hb z0 f0 y0 y0a z1 f1 y1 y1a z2 f2 y2 y2a z3 f3 y3 y3a z4 f4 y4 y4a
    obtain ⟨⟨z5, f5, y5, y5a, -⟩, ⟨z4, f4, y4, y4a, -⟩, ⟨z3, f3, y3, y3a, -⟩, ⟨z2, f2, y2, y2a, -⟩, ⟨z1, f1, y1, y1a, -⟩, ⟨z0, f0, y0, y0a, -⟩, -⟩ := S.out.facts
    replace S := Lib.hid (S.out.box 28 [.slice q7.a (Pn).length q7.c, .slice r7.a (Pd).length r7.c])
    go_wp2_with fail
    refine (H5.out _ _ _ _ _ S.out.rd.2.2.2.2.2.2.2.2.2.2.2.2.2.1 S.out.rd.2.2.2.2.2.2.2.2.2.2.2.2.1 S.out.rd.2.2.2.2.2.2.2.2.2.1 S.out.rd.2.2.2.2.2.2.2.2.1).mono ?_
    rintro e w7 ⟨_, rfl, q8, r8, rfl, hr, hr2, hf, hf2, hb⟩
    replace S := Lib.hid (natRes2 S.out hr hr2 hf hf2 hb)
    clear hr hr2 hf hf2 hb z0 f0 y0 y0a z1 f1 y1 y1a z2 f2 y2 y2a z3 f3 y3 y3a z4 f4 y4 y4a z5 f5 y5 y5a
    obtain ⟨⟨z6, f6, y6, y6a, -⟩, ⟨z5, f5, y5, y5a, -⟩, ⟨z4, f4, y4, y4a, -⟩, ⟨z3, f3, y3, y3a, -⟩, ⟨z2, f2, y2, y2a, -⟩, ⟨z1, f1, y1, y1a, -⟩, ⟨z0, f0, y0, y0a, -⟩, -⟩ := S.out.facts
    replace S := Lib.hid (S.out.box 28 [.slice q8.a (Un).length q8.c, .slice r8.a (Ud).length r8.c])
    go_wp2_with fail
    refine (H6.out _ _ _ _ _ S.out.rd.2.2.2.2.2.2.2.2.2.2.2.1 S.out.rd.2.2.2.2.2.2.2.2.2.2.1 S.out.rd.2.2.2.2.2.2.2.2.2.2.2.2.2.1 S.out.rd.2.2.2.2.2.2.2.2.2.2.2.2.1).mono ?_
    rintro e w8 ⟨_, rfl, q9, r9, rfl, hr, hr2, hf, hf2, hb⟩
    replace S := Lib.hid (natRes2 S.out hr hr2 hf hf2 hb)
    clear hr hr2 hf hf2 hb z0 f0 y0 y0a z1 f1 y1 y1a z2 f2 y2 y2a z3 f3 y3 y3a z4 f4 y4 y4a z5 f5 y5 y5a z6 f6 y6 y6a
    obtain ⟨⟨z7, f7, y7, y7a, -⟩, ⟨z6, f6, y6, y6a, -⟩, ⟨z5, f5, y5, y5a, -⟩, ⟨z4, f4, y4, y4a, -⟩, ⟨z3, f3, y3, y3a, -⟩, ⟨z2, f2, y2, y2a, -⟩, ⟨z1, f1, y1, y1a, -⟩, ⟨z0, f0, y0, y0a, -⟩, -⟩ := S.out.facts
    replace S := Lib.hid (S.out.box 28 [.slice q9.a (Vn).length q9.c, .slice r9.a (Vd).length r9.c])
    go_wp2_with fail
    refine (H7.out _ _ _ _ _ S.out.r3 S.out.r2 S.out.r1 S.out.r0).mono ?_
    rintro e w9 ⟨_, rfl, q10, r10, rfl, hr, hr2, hf, hf2, hb⟩
    replace S := Lib.hid (natRes2 S.out hr hr2 hf hf2 hb)
    clear hr hr2 hf hf2 hb z0 f0 y0 y0a z1 f1 y1 y1a z2 f2 y2 y2a z3 f3 y3 y3a z4 f4 y4 y4a z5 f5 y5 y5a z6 f6 y6 y6a z7 f7 y7 y7a
    obtain ⟨⟨z8, f8, y8, y8a, -⟩, ⟨z7, f7, y7, y7a, -⟩, ⟨z6, f6, y6, y6a, -⟩, ⟨z5, f5, y5, y5a, -⟩, ⟨z4, f4, y4, y4a, -⟩, ⟨z3, f3, y3, y3a, -⟩, ⟨z2, f2, y2, y2a, -⟩, ⟨z1, f1, y1, y1a, -⟩, ⟨z0, f0, y0, y0a, -⟩, -⟩ := S.out.facts
    replace S := Lib.hid (S.out.box 28 [.slice q10.a (Pn).length q10.c, .slice r10.a (Pd).length r10.c])
    go_wp2_with fail
    refine (H8.out _ _ _ _ _ S.out.r7 S.out.r6 S.out.r1 S.out.r0).mono ?_
    rintro e w10 ⟨rfl, hb⟩
    replace S := Lib.hid (S.out.call hb)
    clear hb z0 f0 y0 y0a z1 f1 y1 y1a z2 f2 y2 y2a z3 f3 y3 y3a z4 f4 y4 y4a z5 f5 y5 y5a z6 f6 y6 y6a z7 f7 y7 y7a z8 f8 y8 y8a
    obtain ⟨⟨z9, f9, y9, y9a, -⟩, ⟨z8, f8, y8, y8a, -⟩, ⟨z7, f7, y7, y7a, -⟩, ⟨z6, f6, y6, y6a, -⟩, ⟨z5, f5, y5, y5a, -⟩, ⟨z4, f4, y4, y4a, -⟩, ⟨z3, f3, y3, y3a, -⟩, ⟨z2, f2, y2, y2a, -⟩, ⟨z1, f1, y1, y1a, -⟩, ⟨z0, f0, y0, y0a, -⟩, -⟩ := S.out.facts
    go_wp2_with fail
    refine (HS.out _ _ _ _ _ _ _ S.out.rd.2.2.2.2.2.2.2.2.2.2.2.2.2.1 S.out.rd.2.2.2.2.2.2.2.2.2.2.2.2.1 S.out.rd.2.2.2.2.2.2.2.2.2.2.2.1 S.out.rd.2.2.2.2.2.2.2.2.2.2.1).mono ?_
    rintro e w11 ⟨rfl, hb⟩
    replace S := Lib.hid (S.out.call hb)
    clear hb z0 f0 y0 y0a z1 f1 y1 y1a z2 f2 y2 y2a z3 f3 y3 y3a z4 f4 y4 y4a z5 f5 y5 y5a z6 f6 y6 y6a z7 f7 y7 y7a z8 f8 y8 y8a z9 f9 y9 y9a
    obtain ⟨⟨z9, f9, y9, y9a, -⟩, ⟨z8, f8, y8, y8a, -⟩, ⟨z7, f7, y7, y7a, -⟩, ⟨z6, f6, y6, y6a, -⟩, ⟨z5, f5, y5, y5a, -⟩, ⟨z4, f4, y4, y4a, -⟩, ⟨z3, f3, y3, y3a, -⟩, ⟨z2, f2, y2, y2a, -⟩, ⟨z1, f1, y1, y1a, -⟩, ⟨z0, f0, y0, y0a, -⟩, -⟩ := S.out.facts
    go_wp2_with fail
    refine (HS.out _ _ _ _ _ _ _ S.out.rd.2.2.2.2.2.2.2.2.2.1 S.out.rd.2.2.2.2.2.2.2.2.1 S.out.rd.2.2.2.2.2.2.2.2.2.2.2.2.2.2.2.2.2.2.2.1 S.out.rd.2.2.2.2.2.2.2.2.2.2.2.2.2.2.2.2.2.2.1).mono ?_
    rintro e w12 ⟨rfl, hb⟩
    replace S := Lib.hid (S.out.call hb)
    clear hb z0 f0 y0 y0a z1 f1 y1 y1a z2 f2 y2 y2a z3 f3 y3 y3a z4 f4 y4 y4a z5 f5 y5 y5a z6 f6 y6 y6a z7 f7 y7 y7a z8 f8 y8 y8a z9 f9 y9 y9a
    obtain ⟨⟨z9, f9, y9, y9a, -⟩, ⟨z8, f8, y8, y8a, -⟩, ⟨z7, f7, y7, y7a, -⟩, ⟨z6, f6, y6, y6a, -⟩, ⟨z5, f5, y5, y5a, -⟩, ⟨z4, f4, y4, y4a, -⟩, ⟨z3, f3, y3, y3a, -⟩, ⟨z2, f2, y2, y2a, -⟩, ⟨z1, f1, y1, y1a, -⟩, ⟨z0, f0, y0, y0a, -⟩, -⟩ := S.out.facts
    go_wp2_with fail
    refine (HS.out _ _ _ _ _ _ _ S.out.r7 S.out.r6 S.out.r1 S.out.r0).mono ?_
    rintro e w13 ⟨rfl, hb⟩
    replace S := Lib.hid (S.out.call hb)
    clear hb z0 f0 y0 y0a z1 f1 y1 y1a z2 f2 y2 y2a z3 f3 y3 y3a z4 f4 y4 y4a z5 f5 y5 y5a z6 f6 y6 y6a z7 f7 y7 y7a z8 f8 y8 y8a z9 f9 y9 y9a
    obtain ⟨⟨z9, f9, y9, y9a, -⟩, ⟨z8, f8, y8, y8a, -⟩, ⟨z7, f7, y7, y7a, -⟩, ⟨z6, f6, y6, y6a, -⟩, ⟨z5, f5, y5, y5a, -⟩, ⟨z4, f4, y4, y4a, -⟩, ⟨z3, f3, y3, y3a, -⟩, ⟨z2, f2, y2, y2a, -⟩, ⟨z1, f1, y1, y1a, -⟩, ⟨z0, f0, y0, y0a, -⟩, -⟩ := S.out.facts
    go_wp2
    go_ret
    exact ⟨rfl, S.out.bel⟩
end Go.Proofs.YtoiokopmpcogbaaGreatDoor
