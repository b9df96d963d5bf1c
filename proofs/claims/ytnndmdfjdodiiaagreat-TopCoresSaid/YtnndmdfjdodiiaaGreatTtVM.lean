/- Package cdcl: Do as a plain run, one round. Package cdcl: Do. -/
import Derived.Test.YtnndmdfjdodiiaaGreatTtVk
import Derived.Test.YtnndmdfjdodiiaaGreatTtVj
namespace Go.Proofs.YtnndmdfjdodiiaaGreat
open Go.ChangeShapes Go.WideShapes Go.RowKit Go.Maps
set_option linter.unusedVariables false
set_option linter.unusedSimpArgs false

namespace Cd
/-- A search under way: what it will answer is known. -/
structure RunI (vars : Nat) (ph : Bool) (fuel : Nat) (base : List (List Int)) (ans : Ans) (n : Nat) (s : SS) (used : Nat) : Prop where
  inv : InvT vars s
  lrn : Lrn vars base s
  us : used = s.learned.length
  bd : (3 ^ vars + 1 - used) * (vars + 2) + (vars - s.t.lits.length) < n
  res : doF vars ph fuel n s used = ans
theorem level_at {vars : Nat} {s : SS} (h : InvT vars s) : ∀ k : Nat, 1 ≤ k → k ≤ s.level → ∃ j : Nat, s.levels[j]? = some k ∧ k ≤ j + 1 := by
  intro k
  induction k with
  | zero => intro h1; omega
  | succ k ih =>
    intro _ hk
    obtain ⟨j, -, hj⟩ := h.all (k + 1) (by omega) hk
    refine ⟨j, hj, ?_⟩
    rcases Nat.eq_zero_or_pos k with rfl | hp
    · omega
    · obtain ⟨i, hi, hki⟩ := ih hp (by omega)
      have : i < j := by
        apply Classical.byContradiction
        intro hge
        have := h.mono j i _ _ (by omega) hj hi
        omega
      omega
theorem level_le {vars : Nat} {s : SS} (h : InvT vars s) : s.level ≤ vars := by
  rcases Nat.eq_zero_or_pos s.level with e | hp
  · omega
  · obtain ⟨j, hj, hk⟩ := level_at h s.level hp (Nat.le_refl _)
    have h1 := (List.getElem?_eq_some_iff.1 hj).1
    have h2 := h.good.le
    have h3 := h.len
    omega
/-- What a round of a search does. -/
structure RndQ (vars : Nat) (ph : Bool) (fuel : Nat) (base : List (List Int)) (ans : Ans) (n : Nat) (s : SS) (used : Nat) (r : SS × Int) (m : Nat) : Prop where
  n : n = m + 1
  inv : InvT vars r.1
  cls : r.1.cls = s.cls
  lvl : r.1.level = s.level
  lrn : r.1.learned = s.learned
  len : s.t.lits.length ≤ r.1.t.lits.length
  fu : used < fuel
  ul : used = s.learned.length
  cl : s.cls.length = base.length + s.learned.length
  bad : r.2 ≠ -1 → ∃ k : Nat, r.2 = k ∧ ∃ c, r.1.cls[k]? = some c ∧ (∀ l ∈ c, -l ∈ r.1.t.lits) ∧ (s.level = 0 → ans = .no (s.learned ++ [[]]) (used + 1)) ∧ (s.level ≠ 0 → (anF r.1 k).2 ≤ vars ∧ (anF r.1 k).1.length ≤ vars ∧ (∀ l ∈ (anF r.1 k).1, -l ∈ r.1.t.lits) ∧ RunI vars ph fuel base ans m (backF (learnF r.1 (anF r.1 k).1) (anF r.1 k).2) (used + 1))
  good : r.2 = -1 → (nextF r.1.t.lits vars vars = none → ans = .yes r.1.t.lits used) ∧ ∀ v, nextF r.1.t.lits vars vars = some v → RunI vars ph fuel base ans m (decF r.1 (if ph then (v : Int) else -(v : Int))) used
theorem run_round {vars : Nat} {ph : Bool} {fuel : Nat} {base : List (List Int)} {ans : Ans} {n : Nat} {s : SS} {used : Nat} (hf : 3 ^ vars < fuel) (h : RunI vars ph fuel base ans n s used) : ∃ m, RndQ vars ph fuel base ans n s used (propF vars s) m := by
  obtain ⟨hI, hL, hu, hn, hr⟩ := h
  obtain ⟨m, rfl⟩ : ∃ m, n = m + 1 := ⟨n - 1, by omega⟩
  have hle := hL.le
  obtain ⟨p1, p2, p3, p4, p5, p6, p7⟩ := prop_told hI
  unfold doF at hr
  simp only at hr
  have pL : Lrn vars base (propF vars s).1 := ⟨by rw [p2, p4]; exact hL.cls, by rw [p4]; exact hL.rup, by rw [p4]; exact hL.diff⟩
  refine ⟨m, rfl, p1, p2, p3, p4, p5, by omega, hu, by rw [hL.cls, List.length_append], fun hb => ?_, fun hb => ⟨fun hx => ?_, fun v hx => ?_⟩⟩
  · obtain ⟨k, hk, c, hc, hcf⟩ := p6 hb
    rw [if_pos hb, if_neg (by omega)] at hr
    refine ⟨k, hk, c, by rw [p2]; exact hc, hcf, fun h0 => ?_, fun h0 => ?_⟩
    · rw [if_pos h0] at hr
      exact hr.symm
    · rw [if_neg h0, hk, Int.toNat_natCast] at hr
      have hA := an_told p1 (by rw [p3]; omega) (k := k) (c := c) (by rw [p2]; exact hc) hcf
      have hlv := level_le p1
      refine ⟨by have := hA.lt; omega, ?_, hA.neg, back_inv p1 hA, lrn_back p1 pL hA, by show used + 1 = ((propF vars s).1.learned ++ [_]).length; rw [p4]; simp [hu], ?_, hr⟩
      · have h1 := neg_inj p1.good hA.no hA.neg
        have := nodup_le (n := vars) h1 fun x hx => by
          obtain ⟨l, hl, rfl⟩ := List.mem_map.1 hx
          have := p1.good.2 _ (hA.neg l hl)
          omega
        simpa using this
      · have h1 : vars - (backF (learnF (propF vars s).1 (anF (propF vars s).1 k).1) (anF (propF vars s).1 k).2).t.lits.length ≤ vars := Nat.sub_le ..
        have h2 : (3 ^ vars + 1 - used) = (3 ^ vars + 1 - (used + 1)) + 1 := by omega
        rw [h2, Nat.add_mul] at hn
        omega
  · rw [if_neg (fun h => h hb), hx] at hr
    exact hr.symm
  · rw [if_neg (fun h => h hb), hx] at hr
    have hcl := p7 hb
    have hv := hx
    have hx := nextF_told (T := (propF vars s).1.t.lits) (vars := vars) vars (Nat.le_refl _)
    rw [hv] at hx
    obtain ⟨h1, h2, h3, h4⟩ := hx
    have hg := p1.good.le
    refine ⟨dec_inv p1 (by rw [p2]; exact hcl) (x := if ph then (v : Int) else -(v : Int)) ?_ ?_ ?_ ?_, ⟨pL.cls, pL.rup, pL.diff⟩, by show used = (propF vars s).1.learned.length; rw [p4]; exact hu, ?_, hr⟩
    · split <;> omega
    · split <;> omega
    · split <;> assumption
    · split
      · exact h4
      · rw [Int.neg_neg]; exact h3
    · have h5 := (p1.good.push (x := (v : Int)) (by omega) (by omega) h3 h4).le
      have : (decF (propF vars s).1 (if ph then (v : Int) else -(v : Int))).t.lits.length = (propF vars s).1.t.lits.length + 1 := by unfold decF; simp
      rw [this]
      rw [List.length_append, List.length_singleton] at h5
      omega
end Cd
end Go.Proofs.YtnndmdfjdodiiaaGreat

namespace Go.Proofs.YtnndmdfjdodiiaaGreat
open Go.ChangeShapes Go.WideShapes Go.RowKit Go.Maps
set_option linter.unusedVariables false
set_option linter.unusedSimpArgs false

theorem why_64 {s : Cd.SS} (hw : Cd.WhyT s.cls s.t) (hcl : s.cls.length ≤ 10000) : ∀ y ∈ s.t.why, I64 y := fun y hy => by
  obtain ⟨i, hi⟩ := List.mem_iff_getElem?.1 hy
  have hil := (List.getElem?_eq_some_iff.1 hi).1
  rw [hw.1] at hil
  obtain ⟨y', e, hy'⟩ := hw.2 i _ (List.getElem?_eq_getElem hil)
  rw [hi] at e
  cases e
  rcases hy' with rfl | ⟨k, rfl, c, hc, -⟩
  · unfold I64; omega
  · have := (List.getElem?_eq_some_iff.1 hc).1
    unfold I64
    omega
theorem run_begin {vars : Nat} {ph : Bool} {fuel : Nat} {cls : List (List Int)} (h : Cd.ClsOK vars cls) (hf : 3 ^ vars < fuel) : Cd.RunI vars ph fuel cls (Sv.doC vars ph fuel cls) ((fuel + 1) * (vars + 2) + 1) ⟨⟨[], []⟩, cls, [], 0, []⟩ 0 := by
  refine ⟨Sv.inv_start h, Sv.lrn_start vars cls, rfl, ?_, rfl⟩
  have h1 : (3 ^ vars + 1) * (vars + 2) ≤ fuel * (vars + 2) := Nat.mul_le_mul_right _ hf
  rw [Nat.add_mul fuel 1]
  show (3 ^ vars + 1) * (vars + 2) + (vars - 0) < _
  omega
set_option maxRecDepth 100000 in
set_option maxHeartbeats 16000000 in
theorem cdclDo_any (vars : Nat) (w : World) (oc : Option Addr) (cc : Nat) (cls : List (List Int)) (o1 o2 o3 ph fuel : Int) (hc : IsCls w (.slice oc cls.length cc) cls) (hok : CnfOK vars cls) (h1 : 0 ≤ o1 ∧ o1 ≤ 1000) (h2 : 0 ≤ o2 ∧ o2 ≤ 1000000) (h3 : 0 ≤ o3 ∧ o3 ≤ 1000000) (hph : 0 ≤ ph ∧ ph ≤ 2) (hfu : fuel ≤ 2000) (hf : 3 ^ vars < fuel.toNat) :
    Calls Tryz.prog 39 #[.agg #[.int .i64 (vars : Int), .slice oc cls.length cc], .slice none 0 0, .agg #[.int .i64 o1, .int .i64 o2, .int .i64 o3, .int .i64 ph], .int .i64 fuel] w (AnsP vars (Sv.doC vars (ph == 1) fuel.toNat cls) w) := by
  have hf0 : 0 ≤ fuel := by
    apply Classical.byContradiction
    intro h
    rw [Int.toNat_of_nonpos (by omega)] at hf
    exact absurd hf (Nat.not_lt_zero _)
  have CB := Lib.hid (fun w' (k : Keep NoS w w') => both_any vars w' oc cc cls (hc.keep k) hok)
  have CO := fun w' => Lib.hid (copts_any w' o1 o2 o3 ph fuel h1 h2 h3 hph (by omega))
  have CN := fun w' => Lib.hid (new_any w' oc cls.length cc)
  obtain ⟨w2, hw2⟩ : ∃ w2 : World, w2 = (((w.alloc (.cells #[.int .i64 (vars : Int), .slice oc cls.length cc] TCn)).alloc (.cells #[.int .i64 o1, .int .i64 o2, .int .i64 o3, .int .i64 ph] TOp)).alloc (.cells #[.int .i64 0, .slice none 0 0, .slice none 0 0, .slice none 0 0, .int .i64 0] TAn)).alloc (.cells #[.int .i64 0, .int .i64 0] TFa) := ⟨_, rfl⟩
  have K2 : Hid (Keep NoS w w2) := Lib.hid (by rw [hw2]; exact ((((Keep.refl _ _).alloc _).alloc _).alloc _).alloc _)
  have B1 : Hid (Blk w2 w.heap.size #[.int .i64 (vars : Int), .slice oc cls.length cc]) := Lib.hid (by rw [hw2]; exact Blk.old (Blk.old (Blk.old (blk_at _ _ rfl) _) _) _)
  have B2 : Hid (Blk w2 (w.heap.size + 1) #[.int .i64 o1, .int .i64 o2, .int .i64 o3, .int .i64 ph]) := Lib.hid (by rw [hw2]; exact Blk.old (Blk.old (blk_at _ _ (by simp)) _) _)
  have B3 : Hid (Blk w2 (w.heap.size + 1 + 1) #[.int .i64 0, .slice none 0 0, .slice none 0 0, .slice none 0 0, .int .i64 0]) := Lib.hid (by rw [hw2]; exact Blk.old (blk_at _ _ (by simp)) _)
  have B4 : Hid (Blk w2 (w.heap.size + 1 + 1 + 1) #[.int .i64 0, .int .i64 0]) := Lib.hid (by rw [hw2]; exact blk_at _ _ (by simp))
  have HC := Lib.hid hc
  have hv : vars ≤ 120 := hok.v
  have hclo : Cd.ClsOK vars cls := fun c h => (hok.c c h).1
  have HNC := Lib.hid hok.n
  have HB0 := Lib.hid (run_begin (ph := ph == 1) hclo hf)
  generalize Sv.doC vars (ph == 1) fuel.toNat cls = ans at *
  have HRR := Lib.hid (fun n s used (h : Cd.RunI vars (ph == 1) fuel.toNat cls ans n s used) => Cd.run_round hf h)
  have HFU := Lib.hid (show fuel ≤ 2000 ∧ 0 ≤ fuel from ⟨hfu, hf0⟩)
  clear hc hok hph hfu hclo hf hf0 h1 h2 h3
  go_enter Tryz.func39, Tryz.ntmps39
  go_upto_region 1 with fail
  rw [← hw2]
  have T3 : Hid (TyB w2 (w.heap.size + 1 + 1) TAn) := Lib.hid ⟨_, by rw [hw2, heap_alloc_old _ _ _ (by simp)]; exact heap_alloc_at _ _ _ (by simp)⟩
  have T4 : Hid (TyB w2 (w.heap.size + 1 + 1 + 1) TFa) := Lib.hid ⟨_, by rw [hw2]; exact heap_alloc_at _ _ _ (by simp)⟩
  clear hw2
  generalize hg1 : w.heap.size = g1 at *
  have HG1 := Lib.hid hg1
  clear hg1
  have x0 : w2.cell? ⟨g1, 0, none⟩ = some (.int .i64 (vars : Int)) := B1.out.cell 0
  have x1 : w2.cell? ⟨g1, 1, none⟩ = some (.slice oc cls.length cc) := B1.out.cell 1
  have xl := B1.out.lt
  have CB := Lib.hid (CB.out w2 K2.out)
  go_wp2_with fail
  refine CB.out.mono ?_
  rintro e w3 ⟨rfl, hk3⟩
  have K4 : Hid (Keep NoS w2 (w3.alloc (.cells #[.int .i64 0, .int .i64 0] TFa))) := Lib.hid (Keep.both hk3 ((Keep.refl _ _).alloc _))
  have B24 := Lib.hid (B2.out.keep K4.out)
  have y0 : (w3.alloc (.cells #[.int .i64 0, .int .i64 0] TFa)).cell? ⟨g1 + 1, 0, none⟩ = some (.int .i64 o1) := B24.out.cell 0
  have y1 : (w3.alloc (.cells #[.int .i64 0, .int .i64 0] TFa)).cell? ⟨g1 + 1, 1, none⟩ = some (.int .i64 o2) := B24.out.cell 1
  have y2 : (w3.alloc (.cells #[.int .i64 0, .int .i64 0] TFa)).cell? ⟨g1 + 1, 2, none⟩ = some (.int .i64 o3) := B24.out.cell 2
  have y3 : (w3.alloc (.cells #[.int .i64 0, .int .i64 0] TFa)).cell? ⟨g1 + 1, 3, none⟩ = some (.int .i64 ph) := B24.out.cell 3
  have yl := B24.out.lt
  clear x0 x1 xl hk3 CB
  go_upto_region 4 with fail
  generalize w3.alloc (.cells #[.int .i64 0, .int .i64 0] TFa) = w4 at *
  go_wp2_with fail
  refine (CO _).out.mono ?_
  rintro e w5 ⟨rfl, hk5⟩
  have K6 : Hid (Keep NoS w4 (w5.alloc (.cells #[.int .i64 0, .int .i64 0] TFa))) := Lib.hid (Keep.both hk5 ((Keep.refl _ _).alloc _))
  clear y0 y1 y2 y3 yl hk5 CO
  go_upto_region 7 with fail
  generalize w5.alloc (.cells #[.int .i64 0, .int .i64 0] TFa) = w6 at *
  have B16 := Lib.hid (B1.out.keep (K4.out.both K6.out))
  have B26 := Lib.hid (B24.out.keep K6.out)
  have x0 : w6.cell? ⟨g1, 0, none⟩ = some (.int .i64 (vars : Int)) := B16.out.cell 0
  have x1 : w6.cell? ⟨g1, 1, none⟩ = some (.slice oc cls.length cc) := B16.out.cell 1
  have xl := B16.out.lt
  have y3 : w6.cell? ⟨g1 + 1, 3, none⟩ = some (.int .i64 ph) := B26.out.cell 3
  have yl := B26.out.lt
  refine wp_region_by (fun w' => Keep NoS w6 w') [] [([0, 1, 2, 3, 4, 5, 6, 7], 8), ([9], 10)] [11] (by kernel_rfl) (by kernel_rfl) (Keep.refl _ _).drew ?_
  intro X W hne hF hcl
  have HCL := Lib.hid hcl
  have z0 := fun x => ((hF x).cell xl).trans x0
  have z1 := fun x => ((hF x).cell xl).trans x1
  have z3 := fun x => ((hF x).cell yl).trans y3
  have zl := fun x => Nat.lt_of_lt_of_le xl (hF x).size
  have zm := fun x => Nat.lt_of_lt_of_le yl (hF x).size
  clear hF hcl
  simp only [wpPlan, pickOps, List.getElem?_toArray, List.getElem?_cons_zero, List.getElem?_cons_succ, clsOf, Bool.false_eq_true, if_false]
  (repeat (quiet_step (fail))); refine wpQuiet_nil ?_
  refine wpAt rfl rfl fun K hK => ?_
  go_simp
  refine (CN _).out.mono ?_
  rintro e w7 ⟨b, gm, rfl, hl7⟩
  have k7 : Keep NoS w6 w7 := Keep.both (Keep.refl _ _).drew hl7.k
  refine hK _ _ ⟨fun _ => HCL.out _ k7, ?_⟩
  clear hK K
  (repeat (quiet_step (fail))); refine wpQuiet_nil ?_
  refine wpAt rfl rfl fun K hK => ?_
  go_simp
  have k8 : Keep NoS w6 (w7.alloc (.cells (csC vars (ph == 1) b (.slice none 0 0)) TSe)) := k7.alloc _
  have HL8 := Lib.hid (hl7.keep ((Keep.refl _ _).alloc (.cells (csC vars (ph == 1) b (.slice none 0 0)) TSe)))
  have BS8 : Hid (Blk (w7.alloc (.cells (csC vars (ph == 1) b (.slice none 0 0)) TSe)) w7.heap.size (csC vars (ph == 1) b (.slice none 0 0))) := Lib.hid (blk_at _ _ rfl)
  refine hK _ _ ⟨fun _ => HCL.out _ k8, ?_⟩
  clear hK K
  (repeat (quiet_step (fail))); refine wpQuiet_nil ?_
  refine NoPanic.normal ?_
  obtain ⟨bS, hbS⟩ : ∃ bS, bS = w7.heap.size := ⟨_, rfl⟩
  obtain ⟨w8, hw8⟩ : ∃ w8 : World, w8 = w7.alloc (.cells #[.int .i64 (vars : Int), .slice none 0 0, .bool (ph == 1), .pointer (some ⟨b, 0, none⟩), .slice none 0 0, .int .i64 0, .slice none 0 0] TSe) := ⟨_, rfl⟩
  rw [← hbS, ← hw8]
  have hl7w := lt_of_heap hl7.tb
  have hl7m := hl7.m.lt
  have hw8' : w8 = w7.alloc (.cells (csC vars (ph == 1) b (.slice none 0 0)) TSe) := hw8
  rw [← hw8'] at HL8
  rw [← hw8', ← hbS] at BS8
  have HSB : Hid (w6.drew.heap.size ≤ bS) := Lib.hid (by rw [hbS]; exact hl7.k.size)
  have HKW : Hid (Keep NoS w w6) := Lib.hid ((K2.out.both K4.out).both K6.out)
  have hbx8 : w8.heap[bS]? = some (.cells (csG vars (ph == 1) b (.slice none 0 0) 0 (.slice none 0 0)) TSe (0, 0)) := by rw [hw8, hbS]; exact heap_alloc_at _ _ _ rfl
  have HS8 : Hid (CSr (fun k => k < w6.drew.heap.size) w6.drew w8 vars (ph == 1) bS b gm (.slice oc cls.length cc) (.slice none 0 0) (.slice none 0 0) (.slice none 0 0) (.slice none 0 0) ⟨⟨[], []⟩, cls, [], 0, []⟩) := Lib.hid
    ⟨HL8.out, hbx8, HSB.out, OwnI.nil _ _, StIn.nil _ _ _, (((HC.out.keep HKW.out).keep ((Keep.refl NoS w6).drew)).inn).keep HL8.out.k, HL8.out.offW, fun k hk => (by cases hk), fun k hk => (by cases hk), fun h => by have := HSB.out; omega⟩
  clear hw8 hw8' hl7 k7 k8 HCL hne z0 z1 z3 zl zm hl7w hl7m hbS hbx8 HL8 BS8
  generalize hN : (fuel.toNat + 1) * (vars + 2) + 1 = N at *
  go_wp2
  go_loopg [13] N (fun gk s wr => ∃ (P : Nat → Prop) (b gm : Nat) (vc vl vw vlev vlr : Value) (ss : Cd.SS) (used : Nat), s = .int .i64 (used : Int) ∧ CSr P w6.drew wr vars (ph == 1) bS b gm vc vl vw vlev vlr ss ∧ Cd.RunI vars (ph == 1) fuel.toNat cls ans gk ss used)
  case atStart => exact ⟨_, _, _, _, _, _, _, _, _, 0, rfl, HS8.out, HB0.out⟩
  case round =>
  obtain ⟨P, b, gm, vc, vl, vw, vlev, vlr, ss, used, rfl, hs, hrun⟩ := hrel
  obtain ⟨m, hQ⟩ := HRR.out _ _ _ hrun
  obtain ⟨oc', cc', hvc, -⟩ := hs.cls.cls.len
  subst hvc
  have hI := hrun.inv
  have hq2 := hQ.inv.good.le
  have CP := Lib.hid (cprop_any P vars w6.drew wr (ph == 1) bS b gm oc' _ cc' vl vw vlev vlr ss hs hI.ok (by omega) hI.good hI.why.1 (by rw [hI.len]; exact Nat.le_refl _) (by omega) hQ.len)
  have hgm := hQ.n
  have huf := hQ.fu
  have HQ := Lib.hid hQ
  have HFUo := HFU.out
  have hused : used < 2000 := by omega
  have hne : ((used : Int) == fuel) = false := by rw [beq_eq_false_iff_ne]; omega
  clear hs hrun hI hq2 hQ
  generalize Cd.propF vars ss = rr at *
  obtain ⟨s1, bad⟩ := rr
  simp only at CP
  go_wp2_with fail
  refine CP.out.mono ?_
  rintro e w9 ⟨rfl, vl', vw', vlev', hs9⟩
  have HS9 := Lib.hid hs9
  clear hs9 CP
  have K69 : Hid (Keep NoS w6 w9) := Lib.hid ((Keep.refl _ _).drew.both HS9.out.tr.k)
  by_cases hr : bad = -1
  case neg =>
    obtain ⟨k, hk, c, hkc, hcn, hz, hnz⟩ := HQ.out.bad hr
    simp only at hk
    subst hk
    have hge : (0 : Int) ≤ (k : Int) := by omega
    have hgd : decide ((k : Int) ≥ 0) = true := decide_eq_true hge
    clear hr
    have x5 : w9.cell? ⟨bS, 5, none⟩ = some (.int .i64 (s1.level : Int)) := HS9.out.blk.cell 5
    have xl := HS9.out.blk.lt
    by_cases hlv : ss.level = 0
    case pos =>
      have hans := hz hlv
      subst hans
      have hl1 : s1.level = 0 := HQ.out.lvl.trans hlv
      have hl2 : ((s1.level : Int) == 0) = true := by rw [beq_iff_eq]; omega
      have hll : s1.learned.length = used := by rw [HQ.out.lrn]; exact HQ.out.ul.symm
      have CNO := Lib.hid (cno_any P w6.drew w9 vars (ph == 1) bS b gm _ vl' vw' vlev' vlr s1 ((used : Int) + 1) HS9.out (by omega))
      rw [hll, HQ.out.lrn] at CNO
      clear hz hnz hcn hkc
      go_wp2_with fail
      refine CNO.out.mono ?_
      rintro e w10 ⟨o, c, rfl, hst, hk10⟩
      have HST := Lib.hid hst
      have HLS : Hid ((ss.learned ++ [[]]).length = used + 1) := Lib.hid (by rw [List.length_append, HQ.out.ul]; rfl)
      have K610 : Hid (Keep NoS w6 w10) := Lib.hid ((Keep.refl _ _).drew.both hk10)
      have K210 : Hid (Keep NoS w2 w10) := Lib.hid ((K4.out.both K6.out).both K610.out)
      have HKWS := HKW.out.size
      clear hst hk10 CNO x5 xl
      have B310 := B3.out.keep K210.out
      have B410 := B4.out.keep K210.out
      have c0 := B310.cell 0
      have c1 := B310.cell 1
      have c2 := B310.cell 2
      have c3 := B310.cell 3
      have c4 := B310.cell 4
      have f0 := B310.free 0
      have f1 := B310.free 1
      have f2 := B310.free 2
      have f3 := B310.free 3
      have f4 := B310.free 4
      have d0 := B410.cell 0
      have d1 := B410.cell 1
      have e1 := B410.free 0
      have e2 := B410.free 1
      have bl := B310.lt
      have dl := B410.lt
      have HBL := Lib.hid bl
      have HDL := Lib.hid (B4.out.lt)
      simp at c0 c1 c2 c3 c4 d0 d1
      go_wp2
      refine bodyPost_ret (by simp [results, Tryz.results39, go_sem, c0, c1, c2, c3, c4, d0, d1, bl, dl]; rfl) rfl ?_
      have hg1 := HG1.out
      have hd2 := HDL.out
      have hd6 : g1 + 1 + 1 + 1 < w6.heap.size := Nat.lt_of_lt_of_le hd2 (K4.out.both K6.out).size
      have hdr : w6.drew.heap.size = w6.heap.size := rfl
      unfold AnsP
      refine ⟨keep2 (keep5 (K2.out.both K210.out) (by omega) _ _ _ _ _) (by omega) _ _, o, c, by rw [HLS.out]; rfl, ?_⟩
      rw [HLS.out]
      have q5 := set5_B (T3.out.keep K210.out) ⟨by decide, by decide⟩ (.int .i64 2) (.slice none 0 0) (.slice o (used + 1) c) (.slice none 0 0) (.int .i64 ((used : Int) + 1))
      have s5 := q5.steps HST.out fun j hj => by have := (HST.out.lt j hj).1; omega
      have hsep : g1 + 1 + 1 + 1 ≠ g1 + 1 + 1 := by omega
      have t5 : TyB _ (g1 + 1 + 1 + 1) TFa := (((((T4.out.keep K210.out).other hsep 0 (.int .i64 2)).other hsep 1 (.slice none 0 0)).other hsep 2 (.slice o (used + 1) c)).other hsep 3 (.slice none 0 0)).other hsep 4 (.int .i64 ((used : Int) + 1))
      exact ((set2_B t5 ⟨by decide, by decide⟩ _ _).steps s5 fun j hj => by have := (HST.out.lt j hj).1; omega).mono (by omega)
    case neg =>
      obtain ⟨hb1, hb2, hb3, hrn⟩ := hnz hlv
      have hl1 : 1 ≤ s1.level := by have := HQ.out.lvl; simp only at this; omega
      have hl2 : ((s1.level : Int) == 0) = false := by rw [beq_eq_false_iff_ne]; omega
      have hll : s1.learned.length ≤ 10000 := by have h1 := HQ.out.lrn; have h2 := HQ.out.ul; simp only at h1; rw [h1]; omega
      have hcl : s1.cls.length ≤ 9999 := by have h1 := HQ.out.cls; have h2 := HQ.out.cl; have h3 := HQ.out.ul; have h4 := HNC.out; simp only at h1; rw [h1]; omega
      have hI1 := HQ.out.inv
      simp only at hI1
      have hlvs : ∀ a ∈ s1.levels, a ≤ 1000 := fun a ha => by have h1 := hI1.top a ha; have h2 := Cd.level_le hI1; omega
      have CA := Lib.hid (canal_any P w6.drew w9 vars (ph == 1) bS b gm _ vl' vw' vlev' vlr s1 HS9.out hI1 (by omega) hlvs (by omega) k c hkc hcn hl1)
      have HB3 := Lib.hid hb3
      have HRN := Lib.hid hrn
      have HI1 := Lib.hid hI1
      have HLVS := Lib.hid hlvs
      generalize Cd.anF s1 k = an at *
      obtain ⟨ac, ab⟩ := an
      simp only at hb1 hb2 HB3 HRN CA
      clear hz hnz hcn hkc hb3 hrn hI1 hlvs
      go_wp2_with fail
      refine CA.out.mono ?_
      rintro e w10 ⟨v10, rfl, ho10, hk10⟩
      have h64 : ∀ x ∈ ac, I64 x := fun x hx => by
        have := good_64 (by omega) HI1.out.good _ (HB3.out x hx)
        rw [Int.neg_neg] at this
        exact this.2
      have CL := Lib.hid (clearn_any P vars w6.drew w10 (ph == 1) bS b gm _ vl' vw' vlev' vlr s1 v10 ac (HS9.out.keep hk10) (ho10.intsT h64) h64 (by omega) hll (by omega))
      clear ho10 hk10 CA x5 xl
      go_wp2_with fail
      refine CL.out.mono ?_
      rintro e w11 ⟨rfl, P2, vc2, vlr2, hs11⟩
      have CK := Lib.hid (cback_any P2 vars w6.drew w11 (ph == 1) bS b gm vc2 vl' vw' vlev' vlr2 (Cd.learnF s1 ac) ab hs11 (by omega) HI1.out.good HI1.out.why.1 (why_64 (s := s1) HI1.out.why (by omega)) HI1.out.len HLVS.out (by omega))
      clear hs11 CL
      go_wp2_with fail
      refine CK.out.mono ?_
      rintro e w12 ⟨rfl, b2, gm2, vl2, vw2, vlev2, hs12⟩
      have HS12 := Lib.hid hs12
      clear hs12 CK
      subst hgm
      go_wp2
      go_roundg m
      case measure => omega
      case rel => exact ⟨_, _, _, _, _, _, _, _, _, _, rfl, HS12.out, HRN.out⟩
  case pos =>
    subst hr
    obtain ⟨hn0, hnv⟩ := HQ.out.good rfl
    simp only at hn0 hnv
    have hge : ¬ (0 : Int) ≤ (-1 : Int) := by omega
    have hI1 := HQ.out.inv
    simp only at hI1
    have hlvs : s1.level ≤ 1000 := by have h2 := Cd.level_le hI1; omega
    have CD := Lib.hid (cdec_any P vars w6.drew w9 (ph == 1) bS b gm _ vl' vw' vlev' vlr s1 HS9.out (by omega) hI1.good hI1.why.1 hI1.len hlvs)
    have HI1 := Lib.hid hI1
    have HNV := Lib.hid hnv
    have hn0 := Lib.hid hn0
    clear hI1 hlvs hnv
    go_wp2_with fail
    refine CD.out.mono ?_
    intro e w10 hdq
    generalize Cd.nextF s1.t.lits vars vars = nx at *
    rcases nx with _ | v
    case some =>
      obtain ⟨rfl, vl2, vw2, vlev2, hs10⟩ := hdq
      have HS10 := Lib.hid hs10
      have HRN := Lib.hid (HNV.out v rfl)
      clear hs10 CD hn0 HNV
      subst hgm
      go_wp2
      go_roundg m
      case measure => omega
      case rel => exact ⟨_, _, _, _, _, _, _, _, _, _, rfl, HS10.out, HRN.out⟩
    case none =>
      obtain ⟨rfl, vl2, vw2, vlev2, hs10⟩ := hdq
      have hans := hn0.out rfl
      subst hans
      have HS10 := Lib.hid hs10
      have K610 : Hid (Keep NoS w6 w10) := Lib.hid ((Keep.refl _ _).drew.both HS10.out.tr.k)
      obtain ⟨w11, hr11, hb11, hk11⟩ := make_boolsT w10 vars (by omega)
      have B19 := B16.out.keep K610.out
      have x0 : w10.cell? ⟨g1, 0, none⟩ = some (.int .i64 (vars : Int)) := B19.cell 0
      have xl := B19.lt
      have htl : s1.t.lits.length ≤ vars := HI1.out.good.le
      clear hs10 CD hn0 HNV
      generalize hg9 : w10.heap.size = g9 at *
      have HG9 := Lib.hid hg9
      have K11 := Lib.hid hk11
      have HBL11 : Hid (BoolsT w11 g9 (Sv.holdsT vars (s1.t.lits.take 0))) := Lib.hid (by rw [List.take_zero, holdsT_nil]; exact hb11)
      have HGD := Lib.hid HI1.out.good
      clear hb11 hk11 B19 hg9
      have HB11 := Lib.hid (HS10.out.blk.keep K11.out)
      have HL11 := Lib.hid (HS10.out.tr.keep K11.out)
      obtain ⟨y0, y1, y2, y3, y4, y5, y6, f3, f4, f5, f6, yl⟩ := csG_cells HB11.out
      obtain ⟨ol, cl, rfl⟩ := HL11.out.l.len
      have u1 : w11.cell? ⟨b, 1, none⟩ = some (.slice ol s1.t.lits.length cl) := by have := cell_of_heap (o := 1) HL11.out.tb rfl; exact this
      have ul := lt_of_heap HL11.out.tb
      have HIN : Hid (IsInts w11 (.slice ol s1.t.lits.length cl) s1.t.lits) := Lib.hid (HL11.out.l.ints fun x hx => by have := (HGD.out.2 x hx).2; unfold I64; omega)
      clear y0 y1 y2 y4 y5 y6 f3 f4 f5 f6
      generalize hn : s1.t.lits.length = n at *
      have HNN := Lib.hid hn
      clear hn
      go_wp2
      go_loopw [108] (fun s wr => ∃ k : Nat, k ≤ n ∧ s = .int .i64 k ∧ BoolsT wr g9 (Sv.holdsT vars (s1.t.lits.take k)) ∧ Keep NoS w10 wr ∧ (∀ j, j < w11.heap.size → j ≠ g9 → wr.heap[j]? = w11.heap[j]?) ∧ w11.heap.size ≤ wr.heap.size) (fun s _ => (n - intOf s).toNat)
      case atStart => exact ⟨0, by omega, rfl, HBL11.out, K11.out, fun j _ _ => rfl, Nat.le_refl _⟩
      case round =>
      obtain ⟨k, hk, rfl, hbr, hkr, hor, hsr⟩ := hrel
      have HBR := Lib.hid hbr
      have KR := Lib.hid hkr
      have HOR := Lib.hid hor
      have HSR := Lib.hid hsr
      clear hbr hkr hor hsr u1 ul y3 yl x0 xl
      have h9 := HG9.out
      have h11 : g9 < w11.heap.size := lt_of_heap HBL11.out.1
      by_cases hkl : k < n
      case pos =>
        have hlt : (k : Int) < (n : Int) := by omega
        have hkT : k < s1.t.lits.length := by rw [HNN.out]; exact hkl
        have HIR : Hid (IsInts wr (.slice ol n cl) s1.t.lits) := Lib.hid (by
          have hI := HIN.out
          have hO := HL11.out.l
          obtain ⟨oa, cap, e1, e2, e3, e4⟩ := hI
          refine ⟨oa, cap, e1, e2, e3, fun hne => ?_⟩
          obtain ⟨bb, oo, q1, q2, q3⟩ := e4 hne
          injection e1 with z1 z2 z3
          have hob : (Value.slice ol n cl).ownBlock = some bb := by rw [z1, q1]; rfl
          have hne9 : bb ≠ g9 := by
            rintro rfl
            obtain ⟨A, hA⟩ := own_atT hO hob
            rw [HBL11.out.1] at hA
            injection hA with hA
            injection hA with _ hA
            exact absurd hA (by decide)
          refine ⟨bb, oo, q1, Nat.lt_of_lt_of_le q2 HSR.out, fun i x hx => ?_⟩
          rw [← q3 i x hx]
          exact World.cell?_of_block (HOR.out bb q2 hne9))
        obtain ⟨bc, fc, cap, hv', hbc, p0⟩ := HIR.out.at hkT
        injection hv' with q1 q2 q3
        clear q2
        subst q1
        subst q3
        have hx1 := HIR.out.all _ (List.getElem_mem hkT)
        have hx2 := HGD.out.2 _ (List.getElem_mem hkT)
        have HST := Lib.hid (holdsT_step HGD.out hkT)
        have hlen : (Sv.holdsT vars (s1.t.lits.take k)).length = vars := by simp [Sv.holdsT]
        generalize Sv.holdsT vars (s1.t.lits.take k) = H0 at *
        generalize s1.t.lits[k] = x at *
        obtain ⟨j, hj⟩ : ∃ j, x.natAbs = j + 1 := ⟨x.natAbs - 1, by omega⟩
        have CV := Lib.hid (var_any wr x hx1 (by unfold I64; omega))
        rw [hj] at CV HST
        have hjv : j < vars := by omega
        have e5 : ((j + 1 : Nat) : Int) - 1 = (j : Int) := by omega
        have e6 : ((j : Int) + 1) - 1 = (j : Int) := by omega
        rw [Nat.add_sub_cancel] at HST
        have hjl : (j : Int) < (vars : Int) := by omega
        obtain ⟨m, m0⟩ : ∃ y, wr.cell? ⟨g9, j, none⟩ = some (.bool y) := ⟨H0[j]'(by omega), cell_of_heap (o := j) HBR.out.1 (by simp [hlen, hjv])⟩
        have m1 : wr.frozen? ⟨g9, j, none⟩ = false := free_of_heap HBR.out.1
        have ml := lt_of_heap HBR.out.1
        have HNX := Lib.hid (HBR.out.set j (decide (0 < x)))
        have KNX := Lib.hid (keep_at KR.out (b := g9) (i := j) (.bool (decide (0 < x))) (by omega))
        have hj9 : j ≤ 1000 := by omega
        clear hx1 hx2 hj hlen
        go_wp2_with fail
        refine CV.out.mono ?_
        rintro e w12 ⟨rfl, hw⟩
        subst hw
        go_wp2
        go_roundw
        case rel => exact ⟨k + 1, by omega, by go_num, by rw [HST.out]; exact HNX.out, KNX.out, fun q hq hne => (heap_setCell_other _ ⟨g9, j, none⟩ _ q hne).trans (HOR.out q hq hne), by simpa using HSR.out⟩
        case measure => simp [intOf]; omega
      case neg =>
        have hlt : ¬ (k : Int) < (n : Int) := by omega
        have HBE : Hid (BoolsT wr g9 (Sv.holdsT vars s1.t.lits)) := Lib.hid (by have := HBR.out; rwa [List.take_of_length_le (by rw [HNN.out]; omega)] at this)
        have K2r : Hid (Keep NoS w2 wr) := Lib.hid (((K4.out.both K6.out).both K610.out).both KR.out)
        clear HBR
        have B310 := B3.out.keep K2r.out
        have B410 := B4.out.keep K2r.out
        have c0 := B310.cell 0
        have c1 := B310.cell 1
        have c2 := B310.cell 2
        have c3 := B310.cell 3
        have c4 := B310.cell 4
        have f0 := B310.free 0
        have f1 := B310.free 1
        have f2 := B310.free 2
        have f3 := B310.free 3
        have f4 := B310.free 4
        have d0 := B410.cell 0
        have d1 := B410.cell 1
        have e1 := B410.free 0
        have e2 := B410.free 1
        have bl := B310.lt
        have dl := B410.lt
        have HDL := Lib.hid (B4.out.lt)
        simp at c0 c1 c2 c3 c4 d0 d1
        clear h9 h11
        go_wp2
        refine bodyPost_ret (by simp [results, Tryz.results39, go_sem, c0, c1, c2, c3, c4, d0, d1, bl, dl]; rfl) rfl ?_
        have hg1 := HG1.out
        have hd2 := HDL.out
        have h9 := HG9.out
        have hd9 : g1 + 1 + 1 + 1 < g9 := by have := ((K4.out.both K6.out).both K610.out).size; omega
        unfold AnsP
        refine ⟨keep2 (keep5 (K2.out.both K2r.out) (by omega) _ _ _ _ _) (by omega) _ _, g9, by omega, rfl, ?_⟩
        have q5 := set5_B (T3.out.keep K2r.out) ⟨by decide, by decide⟩ (.int .i64 1) (.slice (some ⟨g9, 0, none⟩) vars vars) (.slice none 0 0) (.slice none 0 0) (.int .i64 (used : Int))
        have hsep : g1 + 1 + 1 + 1 ≠ g1 + 1 + 1 := by omega
        have t5 : TyB _ (g1 + 1 + 1 + 1) TFa := (((((T4.out.keep K2r.out).other hsep 0 (.int .i64 1)).other hsep 1 (.slice (some ⟨g9, 0, none⟩) vars vars)).other hsep 2 (.slice none 0 0)).other hsep 3 (.slice none 0 0)).other hsep 4 (.int .i64 (used : Int))
        exact (HBE.out.fr q5.fr).fr (set2_B t5 ⟨by decide, by decide⟩ _ _).fr
end Go.Proofs.YtnndmdfjdodiiaaGreat
