/- Package close: Why and Do. -/
import Derived.Test.YtnndmdfjdodiiaaGreatTtX
namespace Go.Proofs.YtnndmdfjdodiiaaGreat
open Go.ChangeShapes Go.WideShapes Go.RowKit Go.Maps
set_option linter.unusedVariables false
set_option linter.unusedSimpArgs false

set_option maxRecDepth 100000 in
set_option maxHeartbeats 16000000 in
theorem cwhy_any (w : World) (ot op : Option Addr) (ct cp : Nat) (terms : List Cl.Tm) (same : List (Int × Int)) (a b : Nat) (ht : IsTerms w (.slice ot terms.length ct) terms) (hp : IsPairs w (.slice op same.length cp) same) (hv : TmV terms) (hpk : PrOK terms.length same) (hpl : same.length ≤ 120) (ha : a < terms.length) (hb : b < terms.length) (hr : Cl.relB terms same a b = true) :
    Calls Tryz.prog 82 #[.slice ot terms.length ct, .slice op same.length cp, .int .i64 (a : Int), .int .i64 (b : Int)] w fun e w' => ∃ v, e = .returned (.tuple #[v, .agg #[.int .i64 0, .int .i64 0]]) ∧ OwnI w' w.heap.size v (natI (Cl.whyF terms same a b same.length (List.range same.length))) ∧ Keep NoS w w' := by
  have CW := Lib.hid (fun w' (k : Keep NoS w w') => why_any w' ot op ct cp terms same a b (ht.keep k) (hp.keep k) hv.ok hpk (by omega) ha hb)
  have CR := Lib.hid (fun w' (k : Keep NoS w w') => related_any w' ot op ct cp terms same a b (ht.keep k) (hp.keep k) hv.ok hpk (by omega) ha hb)
  rw [hr] at CR
  have CC := Lib.hid (fun w' (k : Keep NoS w w') (bl : Nat) (hbl : bl < w'.heap.size) (hc : w'.cell? ⟨bl, 0, none⟩ = some (.slice op same.length cp)) => ccheck_any w' ot ct terms (ht.keep k) hv bl 1 1 hbl (by omega) (fun _ => .slice op same.length cp) (fun _ => same) fun j hj => by
    obtain rfl : j = 0 := by omega
    exact ⟨hc, hp.keep k, hpl, hpk⟩)
  have C1 := fun w' => Lib.hid (term_any w' ot terms.length ct a ha)
  have C2 := fun w' => Lib.hid (term_any w' ot terms.length ct b hb)
  generalize natI (Cl.whyF terms same a b same.length (List.range same.length)) = wl at *
  generalize terms.length = n at *
  generalize same.length = m at *
  clear ht hp hv hpk hr ha hb
  have KA : Hid (Keep NoS w (w.alloc (.cells #[.int .i64 0, .int .i64 0] TFa))) := Lib.hid ((Keep.refl _ _).alloc _)
  have HB2 : Hid ((w.alloc (.cells #[.int .i64 0, .int .i64 0] TFa)).heap[w.heap.size]? = some (.cells #[.int .i64 0, .int .i64 0] TFa (0, 0))) := Lib.hid (heap_alloc_at _ _ _ rfl)
  obtain ⟨w2, hw2⟩ : ∃ w2 : World, w2 = w.alloc (.cells #[.int .i64 0, .int .i64 0] TFa) := ⟨_, rfl⟩
  rw [← hw2] at KA HB2
  go_enter Tryz.func82, Tryz.ntmps82
  go_upto_region 1 with fail
  rw [← hw2]
  clear hw2
  obtain ⟨b2, hb2⟩ : ∃ b2, b2 = w.heap.size := ⟨_, rfl⟩
  rw [← hb2] at HB2 ⊢
  have HL := Lib.hid (Nat.le_of_eq hb2.symm)
  clear hb2
  have k3 : Keep NoS w2 (w2.alloc (.cells #[.slice op m cp] 32)) := (Keep.refl _ _).alloc _
  have hB3 : (w2.alloc (.cells #[.slice op m cp] 32)).heap[w2.heap.size]? = some (.cells #[.slice op m cp] 32 (0, 0)) := heap_alloc_at _ _ _ rfl
  have CC := Lib.hid (CC.out _ (KA.out.both k3) w2.heap.size (lt_of_heap hB3) (cell_of_heap (o := 0) hB3 rfl))
  have K3 := Lib.hid k3
  clear k3 hB3
  go_wp2_with fail
  refine CC.out.mono ?_
  rintro e w4 ⟨rfl, hk4⟩
  have K4 := Lib.hid (K3.out.both hk4)
  clear hk4 CC
  have K5 : Hid (Keep NoS w2 (w4.alloc (.cells #[.int .i64 0, .int .i64 0] TFa))) := Lib.hid (K4.out.both ((Keep.refl _ _).alloc _))
  go_wp2_with fail
  refine (C1 _).out.mono ?_
  rintro e w5 ⟨rfl, rfl⟩
  go_wp2_with fail
  refine (C2 _).out.mono ?_
  rintro e w5 ⟨rfl, rfl⟩
  have CR := Lib.hid (CR.out _ (KA.out.both K5.out))
  go_wp2_with fail
  refine CR.out.mono ?_
  rintro e w6 ⟨rfl, hk6⟩
  have K6 := Lib.hid (K5.out.both hk6)
  clear hk6 CR K5
  have CW := Lib.hid (CW.out _ (KA.out.both K6.out))
  go_wp2_with fail
  refine CW.out.mono ?_
  rintro e w7 ⟨v, rfl, ho, hk7⟩
  have HO := Lib.hid ho
  have K7 := Lib.hid (K6.out.both hk7)
  have HB7 := Lib.hid ((K7.out.block b2 (lt_of_heap HB2.out) fun _ h => h).trans HB2.out)
  obtain ⟨ov, cv, rfl⟩ := ho.len
  have u0 := cell_of_heap (o := 0) HB7.out rfl
  have u1 := cell_of_heap (o := 1) HB7.out rfl
  have f0 := Blk.free (A := _) ⟨_, HB7.out⟩ 0
  have f1 := Blk.free (A := _) ⟨_, HB7.out⟩ 1
  have ul := lt_of_heap HB7.out
  have hne : (Value.slice ov wl.length cv).ownBlock ≠ some b2 := ho.neT HB7.out (by decide)
  clear ho hk7 CW
  go_wp2
  refine bodyPost_ret (by simp [results, Tryz.results82, go_sem, u0, u1, ul]; rfl) rfl ?_
  exact ⟨_, rfl, World.ownsRow_mono (HO.out.same fun k hk => (heap_setCell_other _ ⟨b2, 1, none⟩ _ k fun e => hne (hk.trans (congrArg some e))).trans (heap_setCell_other _ ⟨b2, 0, none⟩ _ k fun e => hne (hk.trans (congrArg some e)))) (KA.out.both K6.out).size, keep_at (keep_at (KA.out.both K7.out) _ HL.out) _ HL.out⟩
/-- What Do tells: the classes; or the first pair that is to be apart and is not. -/
def CDoP (terms : List Cl.Tm) (same apart : List (Int × Int)) (w : World) (e : Ending) (w' : World) : Prop :=
      ((∃ g, e = .returned (.tuple #[.agg #[.int .i64 1, .slice (some ⟨g, 0, none⟩) terms.length terms.length, .slice none 0 0, .int .i64 0], .agg #[.int .i64 0, .int .i64 0]]) ∧ ∀ p ∈ apart, Cl.relB terms same p.1 p.2 = false) ∨
       (∃ (i : Nat) (v : Value) (p : Int × Int), apart[i]? = some p ∧ Cl.relB terms same p.1 p.2 = true ∧ (∀ j q, j < i → apart[j]? = some q → Cl.relB terms same q.1 q.2 = false) ∧ e = .returned (.tuple #[.agg #[.int .i64 2, .slice none 0 0, v, .int .i64 (i : Int)], .agg #[.int .i64 0, .int .i64 0]]) ∧ OwnI w' w.heap.size v (natI (Cl.whyF terms same p.1 p.2 same.length (List.range same.length))))) ∧ Keep NoS w w'
set_option maxRecDepth 100000 in
set_option maxHeartbeats 16000000 in
/-- The first pair that is to be apart and is not; or the classes. -/
theorem cdo_any (w : World) (ot op oa : Option Addr) (ct cp ca : Nat) (terms : List Cl.Tm) (same apart : List (Int × Int)) (ht : IsTerms w (.slice ot terms.length ct) terms) (hp : IsPairs w (.slice op same.length cp) same) (ha : IsPairs w (.slice oa apart.length ca) apart) (hv : TmV terms) (hpk : PrOK terms.length same) (hpl : same.length ≤ 120) (hak : PrOK terms.length apart) (hal : apart.length ≤ 120) :
    Calls Tryz.prog 6 #[.slice ot terms.length ct, .slice op same.length cp, .slice oa apart.length ca] w fun e w' => CDoP terms same apart w e w' := by
  have HA := Lib.hid ha
  have HAK := Lib.hid hak
  have CW := Lib.hid (fun w' (k : Keep NoS w w') (a b : Nat) (h1 : a < terms.length) (h2 : b < terms.length) => why_any w' ot op ct cp terms same a b (ht.keep k) (hp.keep k) hv.ok hpk (by omega) h1 h2)
  have CL := Lib.hid (fun w' (k : Keep NoS w w') => classes_any w' ot op ct cp terms same (ht.keep k) (hp.keep k) hv.ok hpk (by omega))
  have hcl := (Cl.class_ok (terms := terms) (pairs := same) hpk).len
  have CC := Lib.hid (fun w' (k : Keep NoS w w') (bl : Nat) (hbl : bl < w'.heap.size) (hc0 : w'.cell? ⟨bl, 0, none⟩ = some (.slice op same.length cp)) (hc1 : w'.cell? ⟨bl, 1, none⟩ = some (.slice oa apart.length ca)) => ccheck_any w' ot ct terms (ht.keep k) hv bl 2 2 hbl (by omega) (fun j => if j = 0 then .slice op same.length cp else .slice oa apart.length ca) (fun j => if j = 0 then same else apart) fun j hj => by
    rcases Nat.lt_or_ge j 1 with q | q
    · obtain rfl : j = 0 := by omega
      exact ⟨hc0, hp.keep k, hpl, hpk⟩
    · obtain rfl : j = 1 := by omega
      exact ⟨hc1, ha.keep k, hal, hak⟩)
  have HRB : Hid (∀ a b : Int, Cl.relB terms same a b = decide (Cl.clAt (Cl.classF terms same) a = Cl.clAt (Cl.classF terms same) b)) := Lib.hid (fun a b => rfl)
  have hn60 := hv.n
  obtain ⟨n, hn⟩ : ∃ n, terms.length = n := ⟨_, rfl⟩
  obtain ⟨m, hm⟩ : ∃ m, same.length = m := ⟨_, rfl⟩
  obtain ⟨q, hq⟩ : ∃ q, apart.length = q := ⟨_, rfl⟩
  have HN := Lib.hid hn
  have HM := Lib.hid hm
  have HQ := Lib.hid hq
  rw [hn] at CW CL CC hcl hn60 ⊢
  rw [hm] at CW CL CC ⊢
  rw [hq] at HA CC hal ⊢
  generalize Cl.classF terms same = cl at *
  have HCL := Lib.hid hcl
  clear ht hp ha hv hpk hak hn hm hq hcl
  obtain ⟨w2, hw2⟩ : ∃ w2 : World, w2 = (w.alloc (.cells #[.int .i64 0, .slice none 0 0, .slice none 0 0, .int .i64 0] 39)).alloc (.cells #[.int .i64 0, .int .i64 0] TFa) := ⟨_, rfl⟩
  obtain ⟨b2, hb2⟩ : ∃ b2, b2 = w.heap.size + 1 := ⟨_, rfl⟩
  have K2 : Hid (Keep NoS w w2) := Lib.hid (by rw [hw2]; exact ((Keep.refl _ _).alloc _).alloc _)
  have HB1 : Hid (w2.heap[w.heap.size]? = some (.cells #[.int .i64 0, .slice none 0 0, .slice none 0 0, .int .i64 0] 39 (0, 0))) := Lib.hid (by rw [hw2, heap_alloc_old _ _ _ (by simp)]; exact heap_alloc_at _ _ _ rfl)
  have HB2 : Hid (w2.heap[b2]? = some (.cells #[.int .i64 0, .int .i64 0] TFa (0, 0))) := Lib.hid (by rw [hw2, hb2]; exact heap_alloc_at _ _ _ (by simp))
  go_enter Tryz.func6, Tryz.ntmps6
  go_upto_region 1 with fail
  rw [← hw2, ← hb2]
  have HLW : Hid (w.heap.size ≤ b2) := Lib.hid (by omega)
  have HN12 : Hid (¬ w.heap.size = b2) := Lib.hid (by omega)
  clear hw2 hb2
  generalize hg1 : w.heap.size = b1 at *
  have HG1 := Lib.hid hg1
  clear hg1
  have k3 : Keep NoS w2 (w2.alloc (.cells #[.slice op m cp, .slice oa q ca] 32)) := (Keep.refl _ _).alloc _
  have hB3 : (w2.alloc (.cells #[.slice op m cp, .slice oa q ca] 32)).heap[w2.heap.size]? = some (.cells #[.slice op m cp, .slice oa q ca] 32 (0, 0)) := heap_alloc_at _ _ _ rfl
  have CC := Lib.hid (CC.out _ (K2.out.both k3) w2.heap.size (lt_of_heap hB3) (cell_of_heap (o := 0) hB3 rfl) (cell_of_heap (o := 1) hB3 rfl))
  have K3 := Lib.hid k3
  clear k3 hB3
  go_wp2_with fail
  refine CC.out.mono ?_
  rintro e w4 ⟨rfl, hk4⟩
  have K4 := Lib.hid (K3.out.both hk4)
  have K5 : Hid (Keep NoS w2 (w4.alloc (.cells #[.int .i64 0, .int .i64 0] TFa))) := Lib.hid (K4.out.both ((Keep.refl _ _).alloc _))
  have CL := Lib.hid (CL.out _ (K2.out.both K5.out))
  clear hk4 CC
  go_wp2_with fail
  refine CL.out.mono ?_
  rintro e w6 ⟨g, rfl, hg, hgw, hk6⟩
  have HG := Lib.hid hg
  have K6 := Lib.hid (K5.out.both hk6)
  clear hg hgw hk6 CL
  go_wp2
  go_loopw [27] (fun s wr => ∃ k : Nat, k ≤ q ∧ s = .int .i64 k ∧ Keep NoS w6 wr ∧ ∀ j p, j < k → apart[j]? = some p → Cl.clAt cl p.1 ≠ Cl.clAt cl p.2) (fun s _ => (q - intOf s).toNat)
  case atStart => exact ⟨0, by omega, rfl, by (repeat' (with_reducible first | assumption | exact HK.out | exact keR | refine keA ?_ | refine keS ?_ fun h => absurd h (by omega) | refine keN ?_ | refine keD ?_)), fun j p hj => absurd hj (by omega)⟩
  case round =>
  obtain ⟨k, hk, rfl, hkr, hno⟩ := hrel
  have KR := Lib.hid hkr
  have HNO := Lib.hid hno
  clear hkr hno
  by_cases hkl : k < q
  case neg =>
    have hlt : ¬ (k : Int) < (q : Int) := by omega
    have KE := Lib.hid (K6.out.both KR.out)
    have HB1e := Lib.hid ((KE.out.block b1 (lt_of_heap HB1.out) fun _ h => h).trans HB1.out)
    have HB2e := Lib.hid ((KE.out.block b2 (lt_of_heap HB2.out) fun _ h => h).trans HB2.out)
    have u0 := cell_of_heap (o := 0) HB1e.out rfl
    have u1 := cell_of_heap (o := 1) HB1e.out rfl
    have u2 := cell_of_heap (o := 2) HB1e.out rfl
    have u3 := cell_of_heap (o := 3) HB1e.out rfl
    have t0 := cell_of_heap (o := 0) HB2e.out rfl
    have t1 := cell_of_heap (o := 1) HB2e.out rfl
    have f0 := Blk.free (A := _) ⟨_, HB1e.out⟩ 0
    have f1 := Blk.free (A := _) ⟨_, HB1e.out⟩ 1
    have f2 := Blk.free (A := _) ⟨_, HB1e.out⟩ 2
    have f3 := Blk.free (A := _) ⟨_, HB1e.out⟩ 3
    have f4 := Blk.free (A := _) ⟨_, HB2e.out⟩ 0
    have f5 := Blk.free (A := _) ⟨_, HB2e.out⟩ 1
    have ul := lt_of_heap HB1e.out
    have tl := lt_of_heap HB2e.out
    have n12 := HN12.out
    have n21 : ¬ b2 = b1 := fun e => n12 e.symm
    go_wp2
    refine bodyPost_ret (by simp [results, Tryz.results6, go_sem, u0, u1, u2, u3, t0, t1, ul, tl, n12, n21]; rfl) rfl ?_
    unfold CDoP
    rw [HN.out]
    refine ⟨.inl ⟨g, rfl, fun p hp => ?_⟩, (keep_at (keep_at (keep_at (keep_at (keep_at (keep_at (K2.out.both KE.out) _ (by rw [HG1.out]; exact Nat.le_refl _)) _ (by rw [HG1.out]; exact Nat.le_refl _)) _ (by rw [HG1.out]; exact Nat.le_refl _)) _ (by rw [HG1.out]; exact Nat.le_refl _)) _ (by rw [HG1.out]; exact HLW.out)) _ (by rw [HG1.out]; exact HLW.out))⟩
    obtain ⟨j, hj⟩ := List.getElem?_of_mem hp
    rw [HRB.out]
    exact decide_eq_false (HNO.out j p (by have := (List.getElem?_eq_some_iff.1 hj).1; have := HQ.out; omega) hj)
  case pos =>
  have hlt : (k : Int) < (q : Int) := by omega
  have hkp : k < apart.length := by rw [HQ.out]; exact hkl
  obtain ⟨bp, fp, rfl, hbp, p0, p1⟩ := (HA.out.keep ((K2.out.both K6.out).both KR.out)).at hkp
  have hq := HAK.out _ (List.getElem_mem hkp)
  rw [HN.out] at hq
  have HGP : Hid (apart[k]? = some apart[k]) := Lib.hid (List.getElem?_eq_getElem hkp)
  generalize apart[k] = pr at *
  obtain ⟨pa, pb⟩ := pr
  simp only at p0 p1 hq
  obtain ⟨ia, rfl⟩ : ∃ i : Nat, pa = i := ⟨pa.toNat, by omega⟩
  obtain ⟨ib, rfl⟩ : ∃ i : Nat, pb = i := ⟨pb.toNat, by omega⟩
  have hia : ia < n := by omega
  have hib : ib < n := by omega
  have hiaI : (ia : Int) < (n : Int) := by omega
  have hibI : (ib : Int) < (n : Int) := by omega
  have ka : Keep NoS wr (wr.alloc (.cells #[.int .i64 (ia : Int), .int .i64 (ib : Int)] T2)) := (Keep.refl _ _).alloc _
  have hgr := ((KR.out.both ka).block g (lt_of_heap HG.out) fun _ h => h).trans HG.out
  have p2 := blk_cl hgr HCL.out hia
  have p3 := blk_cl hgr HCL.out hib
  have gl := lt_of_heap hgr
  have hB : (wr.alloc (.cells #[.int .i64 (ia : Int), .int .i64 (ib : Int)] T2)).heap[wr.heap.size]? = some (.cells #[.int .i64 (ia : Int), .int .i64 (ib : Int)] T2 (0, 0)) := heap_alloc_at _ _ _ rfl
  have HB11 := Lib.hid hB
  have K7 := Lib.hid ((K6.out.both KR.out).both ka)
  have K7R := Lib.hid (KR.out.both ka)
  clear hq hB hgr ka
  go_upto_region 8 with fail
  generalize wr.alloc (.cells #[.int .i64 (ia : Int), .int .i64 (ib : Int)] T2) = w7 at *
  generalize wr.heap.size = b11 at *
  have v0 := cell_of_heap (o := 0) HB11.out rfl
  have v1 := cell_of_heap (o := 1) HB11.out rfl
  have vl := lt_of_heap HB11.out
  clear p0 p1 hbp
  obtain ⟨x, hx⟩ : ∃ x, Cl.clAt cl (ia : Int) = x := ⟨_, rfl⟩
  obtain ⟨y, hy⟩ : ∃ y, Cl.clAt cl (ib : Int) = y := ⟨_, rfl⟩
  rw [hx] at p2
  rw [hy] at p3
  have HX := Lib.hid hx
  have HY := Lib.hid hy
  clear hx hy
  by_cases hxy : x = y
  case neg =>
    have e1 : (x == y) = false := by rw [beq_eq_false_iff_ne]; exact hxy
    have HNX : Hid (∀ j p, j < k + 1 → apart[j]? = some p → Cl.clAt cl p.1 ≠ Cl.clAt cl p.2) := Lib.hid (fun j p hj hp => by
      rcases Nat.lt_or_ge j k with h | h
      · exact HNO.out j p h hp
      · obtain rfl : j = k := by omega
        rw [HGP.out] at hp
        cases hp
        show Cl.clAt cl (ia : Int) ≠ Cl.clAt cl (ib : Int)
        rw [HX.out, HY.out]
        exact hxy)
    clear hxy
    go_quiet (fail)
    have K9 : Hid (Keep NoS w6 (w7.drewN nq)) := Lib.hid (K7R.out.both (Keep.drewN (Keep.refl _ _) _))
    generalize w7.drewN nq = w9 at *
    clear p2 p3 gl v0 v1 vl
    go_wp2
    go_roundw
    case rel => exact ⟨k + 1, by omega, by go_num, K9.out, HNX.out⟩
    case measure => simp [intOf]; omega
  case pos =>
    have e1 : (x == y) = true := by rw [beq_iff_eq]; exact hxy
    have HEQ : Hid (Cl.clAt cl (ia : Int) = Cl.clAt cl (ib : Int)) := Lib.hid (by rw [HX.out, HY.out]; exact hxy)
    clear hxy
    go_quiet (fail)
    have K9 : Hid (Keep NoS w2 (w7.drewN nq)) := Lib.hid (K7.out.both (Keep.drewN (Keep.refl _ _) _))
    have HB9 : Hid ((w7.drewN nq).heap[b11]? = some (.cells #[.int .i64 (ia : Int), .int .i64 (ib : Int)] T2 (0, 0))) := Lib.hid HB11.out
    have CW := Lib.hid (CW.out _ (K2.out.both K9.out) ia ib hia hib)
    generalize w7.drewN nq = w9 at *
    clear p2 p3 gl v0 v1 vl
    have v0 := cell_of_heap (o := 0) HB9.out rfl
    have v1 := cell_of_heap (o := 1) HB9.out rfl
    have vl := lt_of_heap HB9.out
    go_wp2_with fail
    refine CW.out.mono ?_
    rintro e wx ⟨v, rfl, ho, hkx⟩
    have HO := Lib.hid ho
    have KE := Lib.hid (K9.out.both hkx)
    have HB1e := Lib.hid ((KE.out.block b1 (lt_of_heap HB1.out) fun _ h => h).trans HB1.out)
    have HB2e := Lib.hid ((KE.out.block b2 (lt_of_heap HB2.out) fun _ h => h).trans HB2.out)
    have u0 := cell_of_heap (o := 0) HB1e.out rfl
    have u1 := cell_of_heap (o := 1) HB1e.out rfl
    have u2 := cell_of_heap (o := 2) HB1e.out rfl
    have u3 := cell_of_heap (o := 3) HB1e.out rfl
    have t0 := cell_of_heap (o := 0) HB2e.out rfl
    have t1 := cell_of_heap (o := 1) HB2e.out rfl
    have f0 := Blk.free (A := _) ⟨_, HB1e.out⟩ 0
    have f1 := Blk.free (A := _) ⟨_, HB1e.out⟩ 1
    have f2 := Blk.free (A := _) ⟨_, HB1e.out⟩ 2
    have f3 := Blk.free (A := _) ⟨_, HB1e.out⟩ 3
    have f4 := Blk.free (A := _) ⟨_, HB2e.out⟩ 0
    have f5 := Blk.free (A := _) ⟨_, HB2e.out⟩ 1
    have ul := lt_of_heap HB1e.out
    have tl := lt_of_heap HB2e.out
    have n12 := HN12.out
    have n21 : ¬ b2 = b1 := fun e => n12 e.symm
    have hn1 : v.ownBlock ≠ some b1 := ho.neT HB1e.out (by decide)
    have hn2 : v.ownBlock ≠ some b2 := ho.neT HB2e.out (by decide)
    obtain ⟨ov, cv, rfl⟩ := ho.len
    clear ho hkx CW v0 v1 vl
    go_wp2
    refine bodyPost_ret (by simp [results, Tryz.results6, go_sem, u0, u1, u2, u3, t0, t1, ul, tl, n12, n21]; rfl) rfl ?_
    unfold CDoP
    rw [HM.out]
    refine ⟨.inr ⟨k, _, _, HGP.out, by rw [HRB.out]; exact decide_eq_true HEQ.out, fun j p hj hp => by rw [HRB.out]; exact decide_eq_false (HNO.out j p hj hp), rfl, ?_⟩, (keep_at (keep_at (keep_at (keep_at (keep_at (keep_at (K2.out.both KE.out) _ (by rw [HG1.out]; exact Nat.le_refl _)) _ (by rw [HG1.out]; exact Nat.le_refl _)) _ (by rw [HG1.out]; exact Nat.le_refl _)) _ (by rw [HG1.out]; exact Nat.le_refl _)) _ (by rw [HG1.out]; exact HLW.out)) _ (by rw [HG1.out]; exact HLW.out))⟩
    refine World.ownsRow_mono (HO.out.same fun k hk => ?_) (K2.out.both K9.out).size
    have g1 : k ≠ b1 := fun e => hn1 (hk.trans (congrArg some e))
    have g2 : k ≠ b2 := fun e => hn2 (hk.trans (congrArg some e))
    rw [heap_setCell_other _ ⟨b2, 1, none⟩ _ k g2, heap_setCell_other _ ⟨b2, 0, none⟩ _ k g2, heap_setCell_other _ ⟨b1, 3, none⟩ _ k g1, heap_setCell_other _ ⟨b1, 2, none⟩ _ k g1, heap_setCell_other _ ⟨b1, 1, none⟩ _ k g1, heap_setCell_other _ ⟨b1, 0, none⟩ _ k g1]
end Go.Proofs.YtnndmdfjdodiiaaGreat
