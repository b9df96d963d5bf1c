/- Package judge: Take. Package cdcl: options; the search as it lies. Package cdcl: propagate at level 0. Package cdcl: decide where all variables have values. -/
import Derived.Test.YtnndmdfjdodiiaaGreatTtJh
namespace Go.Proofs.YtnndmdfjdodiiaaGreat
open Go.ChangeShapes Go.WideShapes Go.RowKit Go.Maps
set_option linter.unusedVariables false
set_option linter.unusedSimpArgs false

set_option maxRecDepth 100000 in
set_option maxHeartbeats 16000000 in
theorem jtake_any (w : World) (L : FmL) (f : Sv.Frm) (v : Value) (l : List Sv.Stp) (hf : IsForm w L f) (hok : FmOK f) (hv : IsSteps w v l) (hs : ∀ x ∈ l, StOK f.atoms.length x) (hcl : f.cls.length + l.length ≤ 100000) (hln : l.length ≤ 3000) :
    Calls Tryz.prog 10 #[L.v f, v] w fun e w' => e = .returned (.tuple #[.bool (Sv.takeJ f l), .agg #[.int .i64 0, .int .i64 0]]) ∧ Keep NoS w w' := by
  have CW := Lib.hid (fun w' (k : Keep NoS w w') => jwhy_any w' L f v l (hf.keep k) hok (hv.keep k) hs hcl hln)
  obtain ⟨os, cs, rfl, _⟩ := hv.len
  unfold Sv.takeJ
  generalize Sv.whyJ f l 0 f.cls = z at *
  obtain ⟨w2, hw2⟩ : ∃ w2 : World, w2 = (w.alloc (.cells #[.slice L.ot f.terms.length L.ct, .slice none 0 0, .slice L.oa f.atoms.length L.ca, .slice L.oc f.cls.length L.cc] TFm)).alloc (.cells #[.int .i64 0, .int .i64 0] TFa) := ⟨_, rfl⟩
  have K2 : Hid (Keep NoS w w2) := Lib.hid (by rw [hw2]; exact ((Keep.refl _ _).alloc _).alloc _)
  have B1 : Hid (Blk w2 w.heap.size #[.slice L.ot f.terms.length L.ct, .slice none 0 0, .slice L.oa f.atoms.length L.ca, .slice L.oc f.cls.length L.cc]) := Lib.hid (by rw [hw2]; exact Blk.old (blk_at _ _ rfl) _)
  have B2 : Hid (Blk w2 (w.heap.size + 1) #[.int .i64 0, .int .i64 0]) := Lib.hid (by rw [hw2]; exact blk_at _ _ (by simp))
  unfold FmL.v at CW ⊢
  clear hf hok hv hs hcl hln
  go_enter Tryz.func10, Tryz.ntmps10
  go_upto_region 1 with fail
  rw [← hw2]
  clear hw2
  generalize hg1 : w.heap.size = g1 at *
  have HG1 := Lib.hid hg1
  clear hg1
  have x0 := B1.out.cell 0
  have x1 := B1.out.cell 1
  have x2 := B1.out.cell 2
  have x3 := B1.out.cell 3
  have xl := B1.out.lt
  simp at x0 x1 x2 x3
  have CW := Lib.hid (CW.out w2 K2.out)
  go_wp2_with fail
  refine CW.out.mono ?_
  rintro e w3 ⟨rfl, hk3⟩
  have K4 : Keep NoS w2 (w3.alloc (.cells #[.int .i64 0, .int .i64 0] TFa)) := Keep.both hk3 ((Keep.refl _ _).alloc _)
  have B3 := B2.out.keep hk3
  have c0 := B3.cell 0
  have c1 := B3.cell 1
  have f0 := B3.free 0
  have f1 := B3.free 1
  have rl := B3.lt
  simp at c0 c1
  have K5 := Lib.hid (K2.out.both hk3)
  clear K4 hk3 CW B3 x0 x1 x2 x3 xl
  by_cases hz : z = -1
  case pos =>
    subst hz
    go_wp2
    refine bodyPost_ret (by simp [results, Tryz.results10, go_sem, c0, c1, rl]; rfl) rfl ?_
    exact ⟨rfl, ((K5.out.setCell _ fun hh => absurd hh (by have := HG1.out; omega)).setCell _ fun hh => absurd hh (by have := HG1.out; omega)).alloc _⟩
  case neg =>
    have hd : decide (z = -1) = false := decide_eq_false hz
    go_wp2
    refine bodyPost_ret (by simp [results, Tryz.results10, go_sem, c0, c1, rl]; rfl) rfl ?_
    exact ⟨by rw [show (z == -1) = decide (z = -1) by rw [Bool.eq_iff_iff]; simp], ((K5.out.setCell _ fun hh => absurd hh (by have := HG1.out; omega)).setCell _ fun hh => absurd hh (by have := HG1.out; omega)).alloc _⟩
end Go.Proofs.YtnndmdfjdodiiaaGreat

namespace Go.Proofs.YtnndmdfjdodiiaaGreat
open Go.ChangeShapes Go.WideShapes Go.RowKit Go.Maps
set_option linter.unusedVariables false
set_option linter.unusedSimpArgs false

abbrev TOp : TypeId := 53
theorem copt1_any (w : World) (x m : Int) (h0 : 0 ≤ x) (h1 : x ≤ m) : Calls Tryz.prog 50 #[.int .i64 x, .int .i64 m] w fun e w' => e = .returned (.bool true) ∧ Keep NoS w w' := by
  have d0 : decide (0 ≤ x) = true := decide_eq_true h0
  have d1 : decide (x ≤ m) = true := decide_eq_true h1
  go_enter Tryz.func50, Tryz.ntmps50
  go_wp2
  go_ret
  exact ⟨rfl, by (repeat' (with_reducible first | assumption | exact HK.out | exact keR | refine keA ?_ | refine keS ?_ fun h => absurd h (by omega) | refine keN ?_ | refine keD ?_))⟩
set_option maxRecDepth 100000 in
set_option maxHeartbeats 8000000 in
theorem copts_any (w : World) (a b c d fuel : Int) (ha : 0 ≤ a ∧ a ≤ 1000) (hb : 0 ≤ b ∧ b ≤ 1000000) (hc : 0 ≤ c ∧ c ≤ 1000000) (hd : 0 ≤ d ∧ d ≤ 2) (hf : 0 ≤ fuel ∧ fuel ≤ 2000) :
    Calls Tryz.prog 23 #[.agg #[.int .i64 a, .int .i64 b, .int .i64 c, .int .i64 d], .int .i64 fuel] w fun e w' => e = .returned (.agg #[.int .i64 0, .int .i64 0]) ∧ Keep NoS w w' := by
  have Ca := fun w' => Lib.hid (copt1_any w' a 1000 ha.1 ha.2)
  have Cb := fun w' => Lib.hid (copt1_any w' b 1000000 hb.1 hb.2)
  have Cc := fun w' => Lib.hid (copt1_any w' c 1000000 hc.1 hc.2)
  have Cd := fun w' => Lib.hid (copt1_any w' d 2 hd.1 hd.2)
  have Cf := fun w' => Lib.hid (copt1_any w' fuel 2000 hf.1 hf.2)
  obtain ⟨w2, hw2⟩ : ∃ w2 : World, w2 = (w.alloc (.cells #[.int .i64 a, .int .i64 b, .int .i64 c, .int .i64 d] TOp)).alloc (.cells #[.int .i64 0, .int .i64 0] TFa) := ⟨_, rfl⟩
  have K2 : Hid (Keep NoS w w2) := Lib.hid (by rw [hw2]; exact ((Keep.refl _ _).alloc _).alloc _)
  have B1 : Hid (Blk w2 w.heap.size #[.int .i64 a, .int .i64 b, .int .i64 c, .int .i64 d]) := Lib.hid (by rw [hw2]; exact Blk.old (blk_at _ _ rfl) _)
  have B2 : Hid (Blk w2 (w.heap.size + 1) #[.int .i64 0, .int .i64 0]) := Lib.hid (by rw [hw2]; exact blk_at _ _ (by simp))
  clear ha hb hc hd hf
  go_enter Tryz.func23, Tryz.ntmps23
  go_upto_region 1 with fail
  rw [← hw2]
  clear hw2
  generalize hg1 : w.heap.size = g1 at *
  have HG1 := Lib.hid hg1
  clear hg1
  have x0 : w2.cell? ⟨g1, 0, none⟩ = some (.int .i64 a) := B1.out.cell 0
  have xl := B1.out.lt
  go_wp2_with fail
  refine (Ca _).out.mono ?_
  rintro e w3 ⟨rfl, hk3⟩
  have B13 := Lib.hid (B1.out.keep hk3)
  have x1 : w3.cell? ⟨g1, 1, none⟩ = some (.int .i64 b) := B13.out.cell 1
  have xl := B13.out.lt
  go_wp2_with fail
  refine (Cb _).out.mono ?_
  rintro e w4 ⟨rfl, hk4⟩
  have B14 := Lib.hid (B13.out.keep hk4)
  have x2 : w4.cell? ⟨g1, 2, none⟩ = some (.int .i64 c) := B14.out.cell 2
  have xl := B14.out.lt
  go_wp2_with fail
  refine (Cc _).out.mono ?_
  rintro e w5 ⟨rfl, hk5⟩
  have B15 := Lib.hid (B14.out.keep hk5)
  have x3 : w5.cell? ⟨g1, 3, none⟩ = some (.int .i64 d) := B15.out.cell 3
  have xl := B15.out.lt
  go_wp2_with fail
  refine (Cd _).out.mono ?_
  rintro e w6 ⟨rfl, hk6⟩
  go_wp2_with fail
  refine (Cf _).out.mono ?_
  rintro e w7 ⟨rfl, hk7⟩
  have K7 := Lib.hid ((((hk3.both hk4).both hk5).both hk6).both hk7)
  have B8 := B2.out.keep K7.out
  have c0 : w7.cell? ⟨g1 + 1, 0, none⟩ = some (.int .i64 0) := B8.cell 0
  have c1 : w7.cell? ⟨g1 + 1, 1, none⟩ = some (.int .i64 0) := B8.cell 1
  have f0 := B8.free 0
  have f1 := B8.free 1
  have rl := B8.lt
  clear hk3 hk4 hk5 hk6 hk7 x0 x1 x2 x3 xl B8
  go_wp2
  refine bodyPost_ret (by simp [results, Tryz.results23, go_sem, c0, c1, rl]; rfl) rfl ?_
  exact ⟨rfl, ((K2.out.both K7.out).setCell _ fun hh => absurd hh (by have := HG1.out; omega)).setCell _ fun hh => absurd hh (by have := HG1.out; omega)⟩
end Go.Proofs.YtnndmdfjdodiiaaGreat

namespace Go.Proofs.YtnndmdfjdodiiaaGreat
open Go.ChangeShapes Go.WideShapes Go.RowKit Go.Maps
set_option linter.unusedVariables false
set_option linter.unusedSimpArgs false

abbrev TSe : TypeId := 136
/-- The search's cells at level 0. -/
def csC (vars : Nat) (ph : Bool) (b : Nat) (vlev : Value) : Array Value := #[.int .i64 (vars : Int), .slice none 0 0, .bool ph, .pointer (some ⟨b, 0, none⟩), vlev, .int .i64 0, .slice none 0 0]
theorem own_same {w w' : World} {base : Nat} {e : TypeId} {size : Nat} {v : Value} {n : Nat} {xs : List Value} (h : w.ownsRow base e size v n xs) (hb : ∀ k, v.ownBlock = some k → w'.heap[k]? = w.heap[k]?) : w'.ownsRow base e size v n xs := by
  obtain ⟨hl, h | ⟨g, cap, cur, hv, hb', hg, hl', hm, hs, ht⟩⟩ := h
  · exact ⟨hl, .inl h⟩
  · exact ⟨hl, .inr ⟨g, cap, cur, hv, hb', by rw [hb g (by rw [hv]; rfl)]; exact hg, hl', hm, hs, ht⟩⟩
theorem LTr.fr {w0 w w' : World} {b gm : Nat} {vc vl vw : Value} {t : Cd.Tr} (h : LTr w0 w b gm vc vl vw t) {c : Nat} (k : Fr (fun n => n = c) w w') (hc : ¬ TrS b gm vl vw c) (hk : Keep NoS w0 w') : LTr w0 w' b gm vc vl vw t := by
  have hx : ∀ n, n < w.heap.size → n ≠ c → w'.heap[n]? = w.heap[n]? := fun n hn hne => k.block n hn hne
  unfold TrS at hc
  exact ⟨hk, h.hb, h.hm, (hx b (lt_of_heap h.tb) (by rintro rfl; exact hc (.inl rfl))).trans h.tb, own_same h.l fun q hq => hx q (World.ownsRow.lt h.l q hq).2 (by rintro rfl; exact hc (.inr (.inr (.inl hq)))), own_same h.y fun q hq => hx q (World.ownsRow.lt h.y q hq).2 (by rintro rfl; exact hc (.inr (.inr (.inr hq)))), h.m.same (hx gm h.m.lt (by rintro rfl; exact hc (.inr (.inl rfl)))), h.ap⟩
theorem csC_cells {w : World} {c vars b : Nat} {ph : Bool} {vl : Value} (h : Blk w c (csC vars ph b vl)) : w.cell? ⟨c, 0, none⟩ = some (.int .i64 (vars : Int)) ∧ w.cell? ⟨c, 1, none⟩ = some (.slice none 0 0) ∧ w.cell? ⟨c, 2, none⟩ = some (.bool ph) ∧ w.cell? ⟨c, 3, none⟩ = some (.pointer (some ⟨b, 0, none⟩)) ∧ w.cell? ⟨c, 4, none⟩ = some vl ∧ w.cell? ⟨c, 5, none⟩ = some (.int .i64 0) ∧ w.cell? ⟨c, 6, none⟩ = some (.slice none 0 0) ∧ w.frozen? ⟨c, 4, none⟩ = false ∧ c < w.heap.size :=
  ⟨h.cell 0, h.cell 1, h.cell 2, h.cell 3, h.cell 4, h.cell 5, h.cell 6, h.free 4, h.lt⟩
def zerosL (n : Nat) : List Int := List.replicate n 0
set_option maxRecDepth 100000 in
set_option maxHeartbeats 16000000 in
theorem cprop0_any (P : Nat → Prop) (vars : Nat) (w0 w : World) (b gm bS : Nat) (oc : Option Addr) (cc : Nat) (vl vw : Value) (cls : List (List Int)) (ph : Bool) (h : LTr w0 w b gm (.slice oc cls.length cc) vl vw ⟨[], []⟩) (hP : OffT P w b gm vl vw) (hc : ClsIn P w (.slice oc cls.length cc) cls) (hok : Cd.ClsOK vars cls) (hv : vars ≤ 1000) (hB : Blk w bS (csC vars ph b (.slice none 0 0))) (hn : ¬ TrS b gm vl vw bS) (hs : w0.heap.size ≤ bS) (t : Cd.Tr) (r : Int) (hr : Cd.runF (vars + 1) cls ⟨[], []⟩ = (t, r)) (ht : t.lits.length ≤ vars) :
    Calls Tryz.prog 70 #[.pointer (some ⟨bS, 0, none⟩)] w fun e w' => e = .returned (.int .i64 r) ∧ ∃ vl' vw' vlev, LTr w0 w' b gm (.slice oc cls.length cc) vl' vw' t ∧ Blk w' bS (csC vars ph b vlev) ∧ ¬ TrS b gm vl' vw' bS := by
  have CR := Lib.hid (run_any P vars w0 w b gm oc cc vl vw ⟨[], []⟩ cls (vars + 1) h hP hc hok hv ⟨by simp, by simp⟩ rfl (by simp))
  rw [hr] at CR
  have HB := Lib.hid hB
  have HN := Lib.hid hn
  have HSB := Lib.hid hs
  obtain ⟨x0, x1, x2, x3, x4, x5, x6, f4, xl⟩ := csC_cells hB
  clear h hP hc hok hB hn hs hr
  go_enter Tryz.func70, Tryz.ntmps70
  go_wp2_with fail
  refine CR.out.mono ?_
  rintro e w6 ⟨rfl, vl', vw', hl6, ht6⟩
  have HN6 : Hid (¬ TrS b gm vl' vw' bS) := Lib.hid (by
    have h0 := HN.out
    have hq := HB.out.lt
    unfold TrS at h0 ⊢
    rintro (h | h | h | h)
    · exact h0 (.inl h)
    · exact h0 (.inr (.inl h))
    · rcases ht6.l with e | ⟨k, e, hk⟩
      · exact h0 (.inr (.inr (.inl (e ▸ h))))
      · rw [h] at e; injection e with e; omega
    · rcases ht6.y with e | ⟨k, e, hk⟩
      · exact h0 (.inr (.inr (.inr (e ▸ h))))
      · rw [h] at e; injection e with e; omega)
  have HB6 : Hid (Blk w6 bS (csC vars ph b (.slice none 0 0))) := Lib.hid (by
    obtain ⟨tt, htt⟩ := HB.out
    exact ⟨tt, (ht6.k.block bS (lt_of_heap htt) HN.out).trans htt⟩)
  have HL6 := Lib.hid hl6
  obtain ⟨ol, cl, rfl⟩ := hl6.l.len
  clear x0 x1 x2 x3 x4 x5 x6 f4 xl CR HB HN ht6 hl6
  generalize hnn : t.lits.length = n at *
  go_wp2
  go_loopg [] n (fun gk wr => ∃ (j : Nat) (ov : Option Addr) (cv : Nat), j + gk = n ∧ Keep NoS w0 wr ∧ OwnI wr w6.heap.size (.slice ov j cv) (zerosL j) ∧ Blk wr bS (csC vars ph b (.slice ov j cv)) ∧ Fr (fun k => k = bS) w6 wr)
  case atStart => exact ⟨0, none, 0, by omega, HL6.out.k, OwnI.nil _ _, HB6.out, Fr.refl _ _⟩
  case round =>
  obtain ⟨j, ov, cv, hj, hkw, hown, hbl, hfr⟩ := hrel
  have HL := Lib.hid (HL6.out.fr hfr HN6.out hkw)
  have HO := Lib.hid hown
  have HBL := Lib.hid hbl
  have HKW := Lib.hid hkw
  have HFR := Lib.hid hfr
  have y1 : wr.cell? ⟨b, 1, none⟩ = some (.slice ol n cl) := by have := cell_of_heap (o := 1) HL.out.tb rfl; exact this
  have yl := lt_of_heap HL.out.tb
  obtain ⟨x0, x1, x2, x3, x4, x5, x6, f4, xl⟩ := csC_cells hbl
  clear hown hbl hkw hfr
  by_cases hjn : j < n
  case neg =>
    have hlt : ¬ (j : Int) < (n : Int) := by omega
    have hd : decide ((j : Int) < (n : Int)) = false := decide_eq_false hlt
    go_wp2
    go_quiet (fail)
    go_wp2
    refine bodyPost_ret (by simp [results, Tryz.results70, go_sem]; rfl) rfl ?_
    exact ⟨rfl, _, _, _, HL.out.keep (Keep.drewN (Keep.refl _ _) _), HBL.out.keep (Keep.drewN (Keep.refl _ _) _), HN6.out⟩
  case pos =>
    have hlt : (j : Int) < (n : Int) := by omega
    have hd : decide ((j : Int) < (n : Int)) = true := decide_eq_true hlt
    go_wp2
    go_quiet (fail)
    obtain ⟨w7, hw7⟩ : ∃ w7 : World, w7 = wr.drewN nq := ⟨_, rfl⟩
    have k7 : Keep NoS wr w7 := by rw [hw7]; exact Keep.drewN (Keep.refl _ _) _
    rw [← hw7]
    have HBL7 := Lib.hid (HBL.out.keep k7)
    have HO7 : Hid (OwnI w7 w6.heap.size (.slice ov j cv) (zerosL j)) := Lib.hid (HO.out.keep k7)
    have HKW7 := Lib.hid (HKW.out.both k7)
    have HFR7 := Lib.hid (HFR.out.then k7)
    clear hw7 k7 x0 x1 x2 x3 x4 x5 x6 f4 xl y1 yl
    obtain ⟨x0, x1, x2, x3, x4, x5, x6, f4, xl⟩ := csC_cells HBL7.out
    go_upto_region 3 with fail
    refine wp_region_by (fun w' => Keep NoS w7 w') [0, 10, 11, 12, 13] [([0, 1, 2, 3, 4, 5, 6, 7, 8], 9), ([], 10), ([11, 12], 13)] [] (by kernel_rfl) (by kernel_rfl) (Keep.refl _ _).drew ?_
    intro X W hne hF hcl
    have HCL := Lib.hid hcl
    have z4 := fun x => ((hF x).cell xl).trans x4
    have z5 := fun x => ((hF x).cell xl).trans x5
    have zl := fun x => Nat.lt_of_lt_of_le xl (hF x).size
    clear hF hcl
    simp only [wpPlan, pickOps, List.getElem?_toArray, List.getElem?_cons_zero, List.getElem?_cons_succ, clsOf, Bool.false_eq_true, if_false]
    (repeat (quiet_step (fail))); refine wpQuiet_nil ?_
    refine wpAt rfl rfl fun K hK => ?_
    go_simp
    have k8 : Keep NoS w7 (w7.alloc (.cells #[.int .i64 0] TI)).drew := ((Keep.refl _ _).alloc _).drew
    refine hK _ _ ⟨fun _ => HCL.out _ k8, ?_⟩
    have ho8 : OwnI (w7.alloc (.cells #[.int .i64 0] TI)).drew w6.heap.size (.slice ov j cv) (zerosL j) := HO7.out.keep k8
    have hzl : (zerosL j).length = j := List.length_replicate ..
    obtain ⟨v9, w9, hr9, ho9, hg9, hb9⟩ := app_oneI ho8 (b := w7.heap.size) (x := 0) (Blk.keep (blk_at _ _ rfl) (Keep.refl _ _).drew) (by rw [hzl]; omega) (Nat.le_trans HFR7.out.size k8.size)
    have hzz : zerosL (j + 1) = zerosL j ++ [0] := List.replicate_succ' ..
    rw [← hzz] at ho9
    obtain ⟨o9, c9, hs9⟩ := ho9.len
    have hzl1 : (zerosL (j + 1)).length = j + 1 := List.length_replicate ..
    rw [hzl1] at hs9
    subst hs9
    have hlo : ∀ q, (Value.slice ov j cv).ownBlock = some q → w6.heap.size ≤ q := fun q hq => OwnI.block HO7.out q hq
    have hbS : bS < w6.heap.size := HB6.out.lt
    have HB9 : Blk w9 bS (csC vars ph b (.slice ov j cv)) := by
      obtain ⟨tt, htt⟩ := HBL7.out.keep k8
      exact ⟨tt, (hg9.block bS (lt_of_heap htt) fun e => by have := hlo bS e.symm; omega).trans htt⟩
    have HKN : Hid (Keep NoS w0 (w9.setCell ⟨bS, 4, none⟩ (.slice o9 (j + 1) c9))) := Lib.hid (keep_at ((HKW7.out.both k8).grown hg9 fun q hq => Nat.le_trans HL6.out.k.size (hlo q hq)) _ HSB.out)
    have HFN : Hid (Fr (fun k => k = bS) w6 (w9.setCell ⟨bS, 4, none⟩ (.slice o9 (j + 1) c9))) := Lib.hid (((HFR7.out.then k8).grown hg9 fun q hq hl => by have := hlo q hq; omega).set _ rfl)
    have HBN : Hid (Blk (w9.setCell ⟨bS, 4, none⟩ (.slice o9 (j + 1) c9)) bS (csC vars ph b (.slice o9 (j + 1) c9))) := Lib.hid (HB9.set 4 _)
    have HON : Hid (OwnI (w9.setCell ⟨bS, 4, none⟩ (.slice o9 (j + 1) c9)) w6.heap.size (.slice o9 (j + 1) c9) (zerosL (j + 1))) := Lib.hid (World.ownsRow_set_other ho9 fun q hq => by have := OwnI.block ho9 q hq; omega)
    have f9 := HB9.free 4
    have g9 : w9.cell? ⟨bS, 4, none⟩ = some (.slice ov j cv) := HB9.cell 4
    have gl := HB9.lt
    clear hK k8 ho8 ho9 HB9 HCL hg9 hb9 hlo hbS hzl hzl1 hzz
    (repeat (quiet_step (fail))); refine wpQuiet_nil ?_
    refine wpAt rfl rfl fun K hK => ?_
    refine wp_app_run _ _ 22 _ _ rfl rfl rfl hr9 ?_
    refine hK _ _ ⟨fun h => (by simp at h), ?_⟩
    clear hK hr9
    (repeat (quiet_step (fail))); refine wpQuiet_nil ?_
    refine wpAt rfl rfl fun K hK => ?_
    go_simp
    refine hK _ _ ⟨fun h => (by simp at h), ?_⟩
    clear hK
    (repeat (quiet_step (fail))); refine wpQuiet_nil ?_
    refine NoPanic.normal ?_
    go_wp2
    obtain ⟨g, rfl⟩ : ∃ g, gk = g + 1 := ⟨gk - 1, by omega⟩
    go_roundg g
    case measure => omega
    case rel => exact ⟨j + 1, o9, c9, by omega, HKN.out, HON.out, HBN.out, HFN.out⟩
end Go.Proofs.YtnndmdfjdodiiaaGreat

namespace Go.Proofs.YtnndmdfjdodiiaaGreat
open Go.ChangeShapes Go.WideShapes Go.RowKit Go.Maps
set_option linter.unusedVariables false
set_option linter.unusedSimpArgs false

set_option maxRecDepth 100000 in
set_option maxHeartbeats 16000000 in
theorem cdec0_any (vars : Nat) (w0 w : World) (b gm bS : Nat) (vc vl vw vlev : Value) (ph : Bool) (t : Cd.Tr) (h : LTr w0 w b gm vc vl vw t) (hv : vars ≤ 1000) (hB : Blk w bS (csC vars ph b vlev)) (hall : ∀ v : Nat, 1 ≤ v → v ≤ vars → (v : Int) ∈ t.lits ∨ -(v : Int) ∈ t.lits) :
    Calls Tryz.prog 75 #[.pointer (some ⟨bS, 0, none⟩)] w fun e w' => e = .returned (.tuple #[.bool true, .int .i64 0]) ∧ w' = w := by
  have CH := Lib.hid (fun w' (e : w' = w) x (hx : I64 x) => has_any w0 w' b gm vc vl vw t (e ▸ h) x hx)
  have HA := Lib.hid hall
  obtain ⟨x0, x1, x2, x3, x4, x5, x6, f4, xl⟩ := csC_cells hB
  clear h hall hB
  go_enter Tryz.func75, Tryz.ntmps75
  go_wp2
  go_loopw [13, 4] (fun s t wr => s = .int .i64 0 ∧ t = .int .i64 0 ∧ wr = w) (fun _ _ _ => 0)
  case atStart => exact ⟨rfl, rfl, rfl⟩
  case round =>
  obtain ⟨rfl, rfl, hw⟩ := hrel
  have hw : w = wr := hw.symm
  subst hw
  go_wp2
  go_loopw [7, 4] (fun s t wr => ∃ v : Nat, 1 ≤ v ∧ v ≤ vars + 1 ∧ s = .int .i64 (v : Int) ∧ t = .int .i64 0 ∧ wr = w) (fun s _ _ => (vars + 1 - intOf s).toNat)
  case atStart => exact ⟨1, by omega, by omega, rfl, rfl, rfl⟩
  case round =>
  obtain ⟨v, hv1, hv2, rfl, rfl, hw⟩ := hrel
  have hw : w = wr := hw.symm
  subst hw
  by_cases hvl : v ≤ vars
  case neg =>
    have hlt : ¬ (v : Int) ≤ (vars : Int) := by omega
    have hd : decide ((v : Int) ≤ (vars : Int)) = false := decide_eq_false hlt
    go_wp2
    refine bodyPost_ret (by simp [results, Tryz.results75, go_sem]; rfl) rfl ?_
    exact ⟨rfl, rfl⟩
  case pos =>
    have hlt : (v : Int) ≤ (vars : Int) := by omega
    have hd : decide ((v : Int) ≤ (vars : Int)) = true := decide_eq_true hlt
    have C1 := Lib.hid (CH.out w rfl (v : Int) (by unfold I64; omega))
    have C2 := Lib.hid (CH.out w rfl (-(v : Int)) (by unfold I64; omega))
    have HV := HA.out v hv1 hvl
    by_cases m1 : (v : Int) ∈ t.lits
    case pos =>
      rw [decide_eq_true m1] at C1
      clear m1 HV C2
      go_wp2_with fail
      refine C1.out.mono ?_
      rintro e w1 ⟨rfl, rfl⟩
      go_wp2
      go_roundw
      case rel => exact ⟨v + 1, by omega, by omega, by go_num, rfl, by first | trivial | rfl⟩
      case measure => simp [intOf]; omega
    case neg =>
      rw [decide_eq_false m1] at C1
      rw [decide_eq_true (HV.resolve_left m1)] at C2
      clear m1 HV
      go_wp2_with fail
      refine C1.out.mono ?_
      rintro e w1 ⟨rfl, rfl⟩
      go_wp2_with fail
      refine C2.out.mono ?_
      rintro e w1 ⟨rfl, rfl⟩
      go_wp2
      go_roundw
      case rel => exact ⟨v + 1, by omega, by omega, by go_num, rfl, by first | trivial | rfl⟩
      case measure => simp [intOf]; omega
end Go.Proofs.YtnndmdfjdodiiaaGreat
