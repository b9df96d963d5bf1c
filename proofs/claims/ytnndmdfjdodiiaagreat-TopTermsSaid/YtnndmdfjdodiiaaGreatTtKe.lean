/- Package cdcl: Do where all is forced. -/
import Derived.Test.YtnndmdfjdodiiaaGreatTtKd
import Derived.Test.YtnndmdfjdodiiaaGreatTtPP
namespace Go.Proofs.YtnndmdfjdodiiaaGreat
open Go.ChangeShapes Go.WideShapes Go.RowKit Go.Maps
set_option linter.unusedVariables false
set_option linter.unusedSimpArgs false

abbrev TAn : TypeId := 97
abbrev TCn : TypeId := 62
def ansV (st : Int) (h s : Value) (u : Int) : Value := .agg #[.int .i64 st, h, s, .slice none 0 0, .int .i64 u]
def fa0 : Value := .agg #[.int .i64 0, .int .i64 0]
/-- The answer of a search. -/
def AnsP (vars : Nat) (a : Cd.Ans) (w : World) (e : Ending) (w' : World) : Prop := Keep NoS w w' ∧ match a with
  | .yes T u => ∃ g, w.heap.size ≤ g ∧ e = .returned (.tuple #[ansV 1 (.slice (some ⟨g, 0, none⟩) vars vars) (.slice none 0 0) u, fa0]) ∧ BoolsT w' g (Sv.holdsT vars T)
  | .no st u => ∃ o c, e = .returned (.tuple #[ansV 2 (.slice none 0 0) (.slice o st.length c) u, fa0]) ∧ StepsT w' w.heap.size (.slice o st.length c) (st.map fun c => ⟨1, c⟩)
  | .hungry u => e = .returned (.tuple #[ansV 3 (.slice none 0 0) (.slice none 0 0) u, fa0])
/-- A block of a type. -/
def TyB (w : World) (b : Nat) (t : TypeId) : Prop := ∃ A, w.heap[b]? = some (.cells A t (0, 0))
theorem TyB.keep {w w' : World} {b : Nat} {t : TypeId} (h : TyB w b t) (k : Keep NoS w w') : TyB w' b t := by
  obtain ⟨A, h⟩ := h
  exact ⟨A, (k.block b (lt_of_heap h) fun _ h => h).trans h⟩
theorem TyB.set {w : World} {b : Nat} {t : TypeId} (h : TyB w b t) (i : Nat) (v : Value) : TyB (w.setCell ⟨b, i, none⟩ v) b t := by
  obtain ⟨A, h⟩ := h
  exact ⟨_, Go.Joins.block_setCell h v⟩
theorem TyB.other {w : World} {b : Nat} {t : TypeId} (h : TyB w b t) {c : Nat} (hne : b ≠ c) (i : Nat) (v : Value) : TyB (w.setCell ⟨c, i, none⟩ v) b t := by
  obtain ⟨A, h⟩ := h
  exact ⟨A, (heap_setCell_other w ⟨c, i, none⟩ v b hne).trans h⟩
/-- What a store into a typed block leaves. -/
structure OneB (w w' : World) (b : Nat) (t : TypeId) : Prop where
  fr : FrI w w'
  ty : TyB w' b t
  other : ∀ k, k ≠ b → w'.heap[k]? = w.heap[k]?
theorem OneB.refl {w : World} {b : Nat} {t : TypeId} (h : TyB w b t) : OneB w w b t := ⟨FrI.refl _, h, fun _ _ => rfl⟩
theorem OneB.set {w w' : World} {b : Nat} {t : TypeId} (h : OneB w w' b t) (ht : t ≠ TI ∧ t ≠ TBo) (i : Nat) (v : Value) : OneB w (w'.setCell ⟨b, i, none⟩ v) b t := by
  obtain ⟨A, hA⟩ := h.ty
  exact ⟨h.fr.trans (FrI.set hA ht), h.ty.set i v, fun k hk => (heap_setCell_other w' ⟨b, i, none⟩ v k hk).trans (h.other k hk)⟩
theorem set2_B {w : World} {b : Nat} {t : TypeId} (h : TyB w b t) (ht : t ≠ TI ∧ t ≠ TBo) (a0 a1 : Value) : OneB w ((w.setCell ⟨b, 0, none⟩ a0).setCell ⟨b, 1, none⟩ a1) b t := ((OneB.refl h).set ht 0 a0).set ht 1 a1
theorem set5_B {w : World} {b : Nat} {t : TypeId} (h : TyB w b t) (ht : t ≠ TI ∧ t ≠ TBo) (a0 a1 a2 a3 a4 : Value) : OneB w (((((w.setCell ⟨b, 0, none⟩ a0).setCell ⟨b, 1, none⟩ a1).setCell ⟨b, 2, none⟩ a2).setCell ⟨b, 3, none⟩ a3).setCell ⟨b, 4, none⟩ a4) b t := (((((OneB.refl h).set ht 0 a0).set ht 1 a1).set ht 2 a2).set ht 3 a3).set ht 4 a4
theorem OneB.steps {w w' : World} {b : Nat} {t : TypeId} (h : OneB w w' b t) {base : Nat} {v : Value} {l : List Sv.Stp} (hs : StepsT w base v l) (hb : ∀ j, v.ownBlock = some j → j ≠ b) : StepsT w' base v l := hs.fr h.fr fun j hj => h.other j (hb j hj)
theorem keep2 {w0 w : World} (h : Keep NoS w0 w) {b : Nat} (hb : w0.heap.size ≤ b) (a0 a1 : Value) : Keep NoS w0 ((w.setCell ⟨b, 0, none⟩ a0).setCell ⟨b, 1, none⟩ a1) := keep_at (keep_at h _ hb) _ hb
theorem keep5 {w0 w : World} (h : Keep NoS w0 w) {b : Nat} (hb : w0.heap.size ≤ b) (a0 a1 a2 a3 a4 : Value) : Keep NoS w0 (((((w.setCell ⟨b, 0, none⟩ a0).setCell ⟨b, 1, none⟩ a1).setCell ⟨b, 2, none⟩ a2).setCell ⟨b, 3, none⟩ a3).setCell ⟨b, 4, none⟩ a4) := keep_at (keep_at (keep_at (keep_at (keep_at h _ hb) _ hb) _ hb) _ hb) _ hb
theorem infoBo : (Tryz.prog.info? TBo).map (fun i => (i.zero, i.size, i.bytes)) = some (some (.bool false), 1, 1) := by kernel_rfl
theorem made_boolsT (n : Nat) : (madeCells (Value.bool false).cells (n * 1)).toList = List.replicate n (Value.bool false) := by
  apply List.ext_getElem?
  intro i
  by_cases hi : i < n
  · have hm : i % 1 = 0 := Nat.mod_one i
    simp [madeCells, Value.cells, hi, hm]
  · rw [List.getElem?_eq_none (by simp [madeCells]; omega), List.getElem?_eq_none (by simp; omega)]
theorem make_boolsT (w : World) (n : Nat) (hn : n ≤ 1000000) : ∃ w', (Instr.makeSlice 24 (.int .i64 (n : Int)) (.int .i64 (n : Int))).run Tryz.prog w = .ok (.slice (some ⟨w.heap.size, 0, none⟩) n n) w' ∧ BoolsT w' w.heap.size (List.replicate n false) ∧ Keep NoS w w' := by
  obtain ⟨i0, hi0, hz0, hz1, hz2⟩ := info_parts infoBo
  obtain ⟨w', hr, ho, hg⟩ := run_make_full (P := Tryz.prog) w w.heap.size 24 TBo i0 (.bool false) 1 Tryz.underlying24 hi0 hz0 hz1 .i64 .i64 n (by rw [hz2]; omega) (by unfold maxLen; omega) (Nat.le_refl _)
  refine ⟨w', hr, ⟨?_, by unfold maxLen; simp; omega⟩, Keep.of_below (grown_keep hg w.heap.size (Nat.le_refl _) (by simp)) (Nat.le_refl _)⟩
  rw [List.map_replicate, ← made_boolsT]
  obtain ⟨hl, h | ⟨g, cap, cur, hv, hb, hgg, hl', hm, hs, ht⟩⟩ := ho
  · cases h.1
  · cases hv
    have e2 : cur.toList.take (n * 1) = cur.toList := List.take_of_length_le (by rw [Array.length_toList, hs]; omega)
    rw [hgg, ← ht, e2, Array.toArray_toList]
theorem holdsT_nil (vars : Nat) : Sv.holdsT vars [] = List.replicate vars false := by
  unfold Sv.holdsT
  apply List.ext_getElem
  · simp
  · intro i h1 h2; simp
theorem holdsT_step {vars : Nat} {T : List Int} (hg : Cd.GoodT vars T) {k : Nat} (hk : k < T.length) : Sv.holdsT vars (T.take (k + 1)) = (Sv.holdsT vars (T.take k)).set (T[k].natAbs - 1) (decide (0 < T[k])) := by
  have h0 := hg.2 _ (List.getElem_mem hk)
  have hm : ∀ x, x ∈ T.take (k + 1) ↔ x ∈ T.take k ∨ x = T[k] := fun x => by rw [List.take_succ_eq_append_getElem hk]; simp only [List.mem_append, List.mem_singleton]
  unfold Sv.holdsT
  apply List.ext_getElem
  · simp
  · intro i h1 h2
    rw [List.getElem_set]
    simp only [List.getElem_map, List.getElem_range]
    split
    · rename_i e
      by_cases hp : 0 < T[k]
      · rw [decide_eq_true hp]
        exact decide_eq_true ((hm _).2 (.inr (by omega)))
      · rw [decide_eq_false hp]
        refine decide_eq_false fun q => ?_
        have q1 : ((i + 1 : Nat) : Int) = -T[k] := by omega
        rw [q1] at q
        exact hg.cons (List.getElem_mem hk) (List.mem_of_mem_take q)
    · rename_i e
      refine decide_eq_decide.2 ⟨fun q => ((hm _).1 q).resolve_right fun q1 => e (by omega), fun q => (hm _).2 (.inl q)⟩
set_option maxRecDepth 100000 in
set_option maxHeartbeats 16000000 in
theorem cdoF_any (vars : Nat) (w : World) (oc : Option Addr) (cc : Nat) (cls : List (List Int)) (ph fuel : Int) (hc : IsCls w (.slice oc cls.length cc) cls) (hok : CnfOK vars cls) (hph : 0 ≤ ph ∧ ph ≤ 2) (hfu : 0 < fuel ∧ fuel ≤ 2000) (hU : ∀ t, Cd.runF (vars + 1) cls ⟨[], []⟩ = (t, -1) → ∀ v : Nat, 1 ≤ v → v ≤ vars → (v : Int) ∈ t.lits ∨ -(v : Int) ∈ t.lits) :
    Calls Tryz.prog 39 #[.agg #[.int .i64 (vars : Int), .slice oc cls.length cc], .slice none 0 0, .agg #[.int .i64 0, .int .i64 0, .int .i64 0, .int .i64 ph], .int .i64 fuel] w (AnsP vars (Sv.doC vars (ph == 1) fuel.toNat cls) w) := by
  have CB := Lib.hid (fun w' (k : Keep NoS w w') => both_any vars w' oc cc cls (hc.keep k) hok)
  have CO := fun w' => Lib.hid (copts_any w' 0 0 0 ph fuel (by omega) (by omega) (by omega) hph (by omega))
  have CN := fun w' => Lib.hid (new_any w' oc cls.length cc)
  obtain ⟨w2, hw2⟩ : ∃ w2 : World, w2 = (((w.alloc (.cells #[.int .i64 (vars : Int), .slice oc cls.length cc] TCn)).alloc (.cells #[.int .i64 0, .int .i64 0, .int .i64 0, .int .i64 ph] TOp)).alloc (.cells #[.int .i64 0, .slice none 0 0, .slice none 0 0, .slice none 0 0, .int .i64 0] TAn)).alloc (.cells #[.int .i64 0, .int .i64 0] TFa) := ⟨_, rfl⟩
  have K2 : Hid (Keep NoS w w2) := Lib.hid (by rw [hw2]; exact ((((Keep.refl _ _).alloc _).alloc _).alloc _).alloc _)
  have B1 : Hid (Blk w2 w.heap.size #[.int .i64 (vars : Int), .slice oc cls.length cc]) := Lib.hid (by rw [hw2]; exact Blk.old (Blk.old (Blk.old (blk_at _ _ rfl) _) _) _)
  have B2 : Hid (Blk w2 (w.heap.size + 1) #[.int .i64 0, .int .i64 0, .int .i64 0, .int .i64 ph]) := Lib.hid (by rw [hw2]; exact Blk.old (Blk.old (blk_at _ _ (by simp)) _) _)
  have B3 : Hid (Blk w2 (w.heap.size + 1 + 1) #[.int .i64 0, .slice none 0 0, .slice none 0 0, .slice none 0 0, .int .i64 0]) := Lib.hid (by rw [hw2]; exact Blk.old (blk_at _ _ (by simp)) _)
  have B4 : Hid (Blk w2 (w.heap.size + 1 + 1 + 1) #[.int .i64 0, .int .i64 0]) := Lib.hid (by rw [hw2]; exact blk_at _ _ (by simp))
  have HC := Lib.hid hc
  have HOK := Lib.hid hok
  have hv : vars ≤ 120 := hok.v
  obtain ⟨t, r, hrun⟩ : ∃ t r, Cd.runF (vars + 1) cls ⟨[], []⟩ = (t, r) := ⟨_, _, rfl⟩
  have hclo : Cd.ClsOK vars cls := fun c h => (hok.c c h).1
  have HR := Sv.run_start hclo
  rw [hrun] at HR
  rw [Sv.doC_unit (ph := ph == 1) (fuel := fuel.toNat) (by omega) hrun fun e => hU t (by rw [hrun, e])]
  generalize hans : (if r ≠ -1 then Cd.Ans.no [[]] 1 else Cd.Ans.yes t.lits 0) = ans
  have HAN := Lib.hid hans
  have HRUN := Lib.hid hrun
  have HRQ := Lib.hid HR
  have HUU := Lib.hid (show r = -1 → ∀ v : Nat, 1 ≤ v → v ≤ vars → (v : Int) ∈ t.lits ∨ -(v : Int) ∈ t.lits from fun e => hU t (by rw [hrun, e]))
  have HCLO := Lib.hid hclo
  have htl : t.lits.length ≤ vars := HR.good.le
  have e0 : ((0 : Int) == fuel) = false := by rw [beq_eq_false_iff_ne]; omega
  clear hc hok hph hfu hU hrun HR hclo hans
  go_enter Tryz.func39, Tryz.ntmps39
  go_upto_region 1 with fail
  rw [← hw2]
  have T3 : Hid (TyB w2 (w.heap.size + 1 + 1) TAn) := Lib.hid ⟨_, by rw [hw2, heap_alloc_old _ _ _ (by simp)]; exact heap_alloc_at _ _ _ (by simp)⟩
  have T4 : Hid (TyB w2 (w.heap.size + 1 + 1 + 1) TFa) := Lib.hid ⟨_, by rw [hw2]; exact heap_alloc_at _ _ _ (by simp)⟩
  clear hw2
  generalize hg1 : w.heap.size = g1 at *
  have HG1 := Lib.hid hg1
  clear hg1
  have x0 : w2.cell? ⟨g1, 0, none⟩ = some (.int .i64 (vars : Int)) := B1.out.cell 0
  have x1 : w2.cell? ⟨g1, 1, none⟩ = some (.slice oc cls.length cc) := B1.out.cell 1
  have xl := B1.out.lt
  have CB := Lib.hid (CB.out w2 K2.out)
  go_wp2_with fail
  refine CB.out.mono ?_
  rintro e w3 ⟨rfl, hk3⟩
  have K4 : Hid (Keep NoS w2 (w3.alloc (.cells #[.int .i64 0, .int .i64 0] TFa))) := Lib.hid (Keep.both hk3 ((Keep.refl _ _).alloc _))
  have B24 := Lib.hid (B2.out.keep K4.out)
  have y0 : (w3.alloc (.cells #[.int .i64 0, .int .i64 0] TFa)).cell? ⟨g1 + 1, 0, none⟩ = some (.int .i64 0) := B24.out.cell 0
  have y1 : (w3.alloc (.cells #[.int .i64 0, .int .i64 0] TFa)).cell? ⟨g1 + 1, 1, none⟩ = some (.int .i64 0) := B24.out.cell 1
  have y2 : (w3.alloc (.cells #[.int .i64 0, .int .i64 0] TFa)).cell? ⟨g1 + 1, 2, none⟩ = some (.int .i64 0) := B24.out.cell 2
  have y3 : (w3.alloc (.cells #[.int .i64 0, .int .i64 0] TFa)).cell? ⟨g1 + 1, 3, none⟩ = some (.int .i64 ph) := B24.out.cell 3
  have yl := B24.out.lt
  clear x0 x1 xl hk3 CB
  go_upto_region 4 with fail
  generalize w3.alloc (.cells #[.int .i64 0, .int .i64 0] TFa) = w4 at *
  go_wp2_with fail
  refine (CO _).out.mono ?_
  rintro e w5 ⟨rfl, hk5⟩
  have K6 : Hid (Keep NoS w4 (w5.alloc (.cells #[.int .i64 0, .int .i64 0] TFa))) := Lib.hid (Keep.both hk5 ((Keep.refl _ _).alloc _))
  clear y0 y1 y2 y3 yl hk5 CO
  go_upto_region 7 with fail
  generalize w5.alloc (.cells #[.int .i64 0, .int .i64 0] TFa) = w6 at *
  have B16 := Lib.hid (B1.out.keep (K4.out.both K6.out))
  have B26 := Lib.hid (B24.out.keep K6.out)
  have x0 : w6.cell? ⟨g1, 0, none⟩ = some (.int .i64 (vars : Int)) := B16.out.cell 0
  have x1 : w6.cell? ⟨g1, 1, none⟩ = some (.slice oc cls.length cc) := B16.out.cell 1
  have xl := B16.out.lt
  have y3 : w6.cell? ⟨g1 + 1, 3, none⟩ = some (.int .i64 ph) := B26.out.cell 3
  have yl := B26.out.lt
  refine wp_region_by (fun w' => Keep NoS w6 w') [] [([0, 1, 2, 3, 4, 5, 6, 7], 8), ([9], 10)] [11] (by kernel_rfl) (by kernel_rfl) (Keep.refl _ _).drew ?_
  intro X W hne hF hcl
  have HCL := Lib.hid hcl
  have z0 := fun x => ((hF x).cell xl).trans x0
  have z1 := fun x => ((hF x).cell xl).trans x1
  have z3 := fun x => ((hF x).cell yl).trans y3
  have zl := fun x => Nat.lt_of_lt_of_le xl (hF x).size
  have zm := fun x => Nat.lt_of_lt_of_le yl (hF x).size
  clear hF hcl
  simp only [wpPlan, pickOps, List.getElem?_toArray, List.getElem?_cons_zero, List.getElem?_cons_succ, clsOf, Bool.false_eq_true, if_false]
  (repeat (quiet_step (fail))); refine wpQuiet_nil ?_
  refine wpAt rfl rfl fun K hK => ?_
  go_simp
  refine (CN _).out.mono ?_
  rintro e w7 ⟨b, gm, rfl, hl7⟩
  have k7 : Keep NoS w6 w7 := Keep.both (Keep.refl _ _).drew hl7.k
  refine hK _ _ ⟨fun _ => HCL.out _ k7, ?_⟩
  clear hK K
  (repeat (quiet_step (fail))); refine wpQuiet_nil ?_
  refine wpAt rfl rfl fun K hK => ?_
  go_simp
  have k8 : Keep NoS w6 (w7.alloc (.cells (csC vars (ph == 1) b (.slice none 0 0)) TSe)) := k7.alloc _
  have HL8 := Lib.hid (hl7.keep ((Keep.refl _ _).alloc (.cells (csC vars (ph == 1) b (.slice none 0 0)) TSe)))
  have BS8 : Hid (Blk (w7.alloc (.cells (csC vars (ph == 1) b (.slice none 0 0)) TSe)) w7.heap.size (csC vars (ph == 1) b (.slice none 0 0))) := Lib.hid (blk_at _ _ rfl)
  refine hK _ _ ⟨fun _ => HCL.out _ k8, ?_⟩
  clear hK K
  (repeat (quiet_step (fail))); refine wpQuiet_nil ?_
  refine NoPanic.normal ?_
  obtain ⟨bS, hbS⟩ : ∃ bS, bS = w7.heap.size := ⟨_, rfl⟩
  obtain ⟨w8, hw8⟩ : ∃ w8 : World, w8 = w7.alloc (.cells #[.int .i64 (vars : Int), .slice none 0 0, .bool (ph == 1), .pointer (some ⟨b, 0, none⟩), .slice none 0 0, .int .i64 0, .slice none 0 0] TSe) := ⟨_, rfl⟩
  rw [← hbS, ← hw8]
  have hl7w := lt_of_heap hl7.tb
  have hl7m := hl7.m.lt
  have hw8' : w8 = w7.alloc (.cells (csC vars (ph == 1) b (.slice none 0 0)) TSe) := hw8
  rw [← hw8'] at HL8
  rw [← hw8', ← hbS] at BS8
  have HN8 : Hid (¬ TrS b gm (.slice none 0 0) (.slice none 0 0) bS) := Lib.hid (by unfold TrS; rintro (h | h | h | h) <;> first | omega | cases h)
  have K8 : Hid (Keep NoS w6 w8) := Lib.hid (by rw [hw8]; exact k7.alloc _)
  have HSB : Hid (w6.drew.heap.size ≤ bS) := Lib.hid (by rw [hbS]; exact hl7.k.size)
  have HKW : Hid (Keep NoS w w6) := Lib.hid ((K2.out.both K4.out).both K6.out)
  have CP := Lib.hid (cprop0_any (fun k => k < w6.drew.heap.size) vars w6.drew w8 b gm bS oc cc _ _ cls (ph == 1) HL8.out HL8.out.offW ((((HC.out.keep HKW.out).keep ((Keep.refl NoS w6).drew)).inn).keep HL8.out.k) HCLO.out (by omega) BS8.out HN8.out HSB.out t r HRUN.out htl)
  clear hw8 hw8' hl7 k7 k8 HCL hne z0 z1 z3 zl zm hl7w hl7m hbS
  go_wp2
  go_loopg [13] 0 (fun gk s wr => s = .int .i64 0 ∧ wr = w8)
  case atStart => exact ⟨rfl, rfl⟩
  case round =>
  obtain ⟨rfl, hw⟩ := hrel
  have hw : w8 = wr := hw.symm
  subst hw
  go_wp2_with fail
  refine CP.out.mono ?_
  rintro e w9 ⟨rfl, vl', vw', vlev, hl9, hb9, hn9⟩
  have HL9 := Lib.hid hl9
  have HB9 := Lib.hid hb9
  clear hl9 hb9 hn9 CP
  have K9 : Hid (Keep NoS w w9) := Lib.hid ((HKW.out.both (Keep.refl _ _).drew).both HL9.out.k)
  by_cases hr : r = -1
  case neg =>
    obtain ⟨k, hk, -⟩ := HRQ.out.bad hr
    simp only at hk
    subst hk
    have hge : (0 : Int) ≤ (k : Int) := by omega
    obtain rfl : ans = Cd.Ans.no [[]] 1 := HAN.out.symm.trans (if_pos hr)
    clear hr
    have K69 : Hid (Keep NoS w6 w9) := Lib.hid ((Keep.refl _ _).drew.both HL9.out.k)
    have CNO := Lib.hid (cno0_any w6 w9 vars b bS (ph == 1) vlev 1 K69.out HSB.out HB9.out)
    obtain ⟨x0, x1, x2, x3, x4, x5, x6, f4, xl⟩ := csC_cells HB9.out
    go_wp2_with fail
    refine CNO.out.mono ?_
    rintro e w10 ⟨o, c, rfl, hst, hk10⟩
    have HST := Lib.hid hst
    have K10 := Lib.hid hk10
    have K210 : Hid (Keep NoS w2 w10) := Lib.hid ((K4.out.both K6.out).both hk10)
    have HS9 := K9.out.size
    clear hst hk10 CNO x0 x1 x2 x3 x4 x5 x6 f4 xl
    have B310 := B3.out.keep K210.out
    have B410 := B4.out.keep K210.out
    have c0 := B310.cell 0
    have c1 := B310.cell 1
    have c2 := B310.cell 2
    have c3 := B310.cell 3
    have c4 := B310.cell 4
    have f0 := B310.free 0
    have f1 := B310.free 1
    have f2 := B310.free 2
    have f3 := B310.free 3
    have f4 := B310.free 4
    have d0 := B410.cell 0
    have d1 := B410.cell 1
    have e1 := B410.free 0
    have e2 := B410.free 1
    have bl := B310.lt
    have dl := B410.lt
    have HBL := Lib.hid bl
    have HDL := Lib.hid (B4.out.lt)
    simp at c0 c1 c2 c3 c4 d0 d1
    go_wp2
    refine bodyPost_ret (by simp [results, Tryz.results39, go_sem, c0, c1, c2, c3, c4, d0, d1, bl, dl]; rfl) rfl ?_
    have hg1 := HG1.out
    have hd2 := HDL.out
    have hd9 : g1 + 1 + 1 + 1 < w9.heap.size := Nat.lt_of_lt_of_le hd2 ((K4.out.both K6.out).both K69.out).size
    refine ⟨keep2 (keep5 (K2.out.both K210.out) (by omega) _ _ _ _ _) (by omega) _ _, o, c, rfl, ?_⟩
    have q5 := set5_B (T3.out.keep K210.out) ⟨by decide, by decide⟩ (.int .i64 2) (.slice none 0 0) (.slice o 1 c) (.slice none 0 0) (.int .i64 1)
    have s5 := q5.steps HST.out fun j hj => by have := (HST.out.lt j hj).1; omega
    have hsep : g1 + 1 + 1 + 1 ≠ g1 + 1 + 1 := by omega
    have t5 : TyB _ (g1 + 1 + 1 + 1) TFa := (((((T4.out.keep K210.out).other hsep 0 (.int .i64 2)).other hsep 1 (.slice none 0 0)).other hsep 2 (.slice o 1 c)).other hsep 3 (.slice none 0 0)).other hsep 4 (.int .i64 1)
    exact ((set2_B t5 ⟨by decide, by decide⟩ _ _).steps s5 fun j hj => by have := (HST.out.lt j hj).1; omega).mono (by omega)
  case pos =>
    subst hr
    obtain rfl : ans = Cd.Ans.yes t.lits 0 := HAN.out.symm.trans (if_neg (by simp))
    have K69 : Hid (Keep NoS w6 w9) := Lib.hid ((Keep.refl _ _).drew.both HL9.out.k)
    have CD := Lib.hid (cdec0_any vars w6.drew w9 b gm bS _ _ _ _ (ph == 1) t HL9.out (by omega) HB9.out (HUU.out rfl))
    obtain ⟨w11, hr11, hb11, hk11⟩ := make_boolsT w9 vars (by omega)
    have B19 := B16.out.keep K69.out
    have x0 : w9.cell? ⟨g1, 0, none⟩ = some (.int .i64 (vars : Int)) := B19.cell 0
    have xl := B19.lt
    go_wp2_with fail
    refine CD.out.mono ?_
    rintro e w10 ⟨rfl, hw⟩
    subst hw
    generalize hg9 : w10.heap.size = g9 at *
    have HG9 := Lib.hid hg9
    have K11 := Lib.hid hk11
    have HBL11 : Hid (BoolsT w11 g9 (Sv.holdsT vars (t.lits.take 0))) := Lib.hid (by rw [List.take_zero, holdsT_nil]; exact hb11)
    have HGD := Lib.hid HRQ.out.good
    clear hb11 hk11 CD B19 hg9
    have HB11 := Lib.hid (HB9.out.keep K11.out)
    have HL11 := Lib.hid (HL9.out.keep K11.out)
    obtain ⟨y0, y1, y2, y3, y4, y5, y6, f4, yl⟩ := csC_cells HB11.out
    obtain ⟨ol, cl, rfl⟩ := HL11.out.l.len
    have u1 : w11.cell? ⟨b, 1, none⟩ = some (.slice ol t.lits.length cl) := by have := cell_of_heap (o := 1) HL11.out.tb rfl; exact this
    have ul := lt_of_heap HL11.out.tb
    have HIN : Hid (IsInts w11 (.slice ol t.lits.length cl) t.lits) := Lib.hid (HL11.out.l.ints fun x hx => by have := (HGD.out.2 x hx).2; unfold I64; omega)
    clear y0 y1 y2 y4 y5 y6 f4
    generalize hn : t.lits.length = n at *
    have HNN := Lib.hid hn
    clear hn
    go_wp2
    go_loopw [108] (fun s wr => ∃ k : Nat, k ≤ n ∧ s = .int .i64 k ∧ BoolsT wr g9 (Sv.holdsT vars (t.lits.take k)) ∧ Keep NoS w10 wr ∧ (∀ j, j < w11.heap.size → j ≠ g9 → wr.heap[j]? = w11.heap[j]?) ∧ w11.heap.size ≤ wr.heap.size) (fun s _ => (n - intOf s).toNat)
    case atStart => exact ⟨0, by omega, rfl, HBL11.out, K11.out, fun j _ _ => rfl, Nat.le_refl _⟩
    case round =>
    obtain ⟨k, hk, rfl, hbr, hkr, hor, hsr⟩ := hrel
    have HBR := Lib.hid hbr
    have KR := Lib.hid hkr
    have HOR := Lib.hid hor
    have HSR := Lib.hid hsr
    clear hbr hkr hor hsr u1 ul y3 yl x0 xl
    have h9 := HG9.out
    have h11 : g9 < w11.heap.size := lt_of_heap HBL11.out.1
    by_cases hkl : k < n
    case pos =>
      have hlt : (k : Int) < (n : Int) := by omega
      have hkT : k < t.lits.length := by rw [HNN.out]; exact hkl
      have HIR : Hid (IsInts wr (.slice ol n cl) t.lits) := Lib.hid (by
        have hI := HIN.out
        have hO := HL11.out.l
        obtain ⟨oa, cap, e1, e2, e3, e4⟩ := hI
        refine ⟨oa, cap, e1, e2, e3, fun hne => ?_⟩
        obtain ⟨bb, oo, q1, q2, q3⟩ := e4 hne
        injection e1 with z1 z2 z3
        have hob : (Value.slice ol n cl).ownBlock = some bb := by rw [z1, q1]; rfl
        have hne9 : bb ≠ g9 := by
          rintro rfl
          obtain ⟨A, hA⟩ := own_atT hO hob
          rw [HBL11.out.1] at hA
          injection hA with hA
          injection hA with _ hA
          exact absurd hA (by decide)
        refine ⟨bb, oo, q1, Nat.lt_of_lt_of_le q2 HSR.out, fun i x hx => ?_⟩
        rw [← q3 i x hx]
        exact World.cell?_of_block (HOR.out bb q2 hne9))
      obtain ⟨bc, fc, cap, hv', hbc, p0⟩ := HIR.out.at hkT
      injection hv' with q1 q2 q3
      clear q2
      subst q1
      subst q3
      have hx1 := HIR.out.all _ (List.getElem_mem hkT)
      have hx2 := HGD.out.2 _ (List.getElem_mem hkT)
      have HST := Lib.hid (holdsT_step HGD.out hkT)
      have hlen : (Sv.holdsT vars (t.lits.take k)).length = vars := by simp [Sv.holdsT]
      generalize Sv.holdsT vars (t.lits.take k) = H0 at *
      generalize t.lits[k] = x at *
      obtain ⟨j, hj⟩ : ∃ j, x.natAbs = j + 1 := ⟨x.natAbs - 1, by omega⟩
      have CV := Lib.hid (var_any wr x hx1 (by unfold I64; omega))
      rw [hj] at CV HST
      have hjv : j < vars := by omega
      have e5 : ((j + 1 : Nat) : Int) - 1 = (j : Int) := by omega
      have e6 : ((j : Int) + 1) - 1 = (j : Int) := by omega
      rw [Nat.add_sub_cancel] at HST
      have hjl : (j : Int) < (vars : Int) := by omega
      obtain ⟨m, m0⟩ : ∃ y, wr.cell? ⟨g9, j, none⟩ = some (.bool y) := ⟨H0[j]'(by omega), cell_of_heap (o := j) HBR.out.1 (by simp [hlen, hjv])⟩
      have m1 : wr.frozen? ⟨g9, j, none⟩ = false := free_of_heap HBR.out.1
      have ml := lt_of_heap HBR.out.1
      have HNX := Lib.hid (HBR.out.set j (decide (0 < x)))
      have KNX := Lib.hid (keep_at KR.out (b := g9) (i := j) (.bool (decide (0 < x))) (by omega))
      have hj9 : j ≤ 1000 := by omega
      clear hx1 hx2 hj hlen
      go_wp2_with fail
      refine CV.out.mono ?_
      rintro e w12 ⟨rfl, hw⟩
      subst hw
      go_wp2
      go_roundw
      case rel => exact ⟨k + 1, by omega, by go_num, by rw [HST.out]; exact HNX.out, KNX.out, fun q hq hne => (heap_setCell_other _ ⟨g9, j, none⟩ _ q hne).trans (HOR.out q hq hne), by simpa using HSR.out⟩
      case measure => simp [intOf]; omega
    case neg =>
      have hlt : ¬ (k : Int) < (n : Int) := by omega
      have HBE : Hid (BoolsT wr g9 (Sv.holdsT vars t.lits)) := Lib.hid (by have := HBR.out; rwa [List.take_of_length_le (by rw [HNN.out]; omega)] at this)
      have K2r : Hid (Keep NoS w2 wr) := Lib.hid (((K4.out.both K6.out).both K69.out).both KR.out)
      clear HBR
      have B310 := B3.out.keep K2r.out
      have B410 := B4.out.keep K2r.out
      have c0 := B310.cell 0
      have c1 := B310.cell 1
      have c2 := B310.cell 2
      have c3 := B310.cell 3
      have c4 := B310.cell 4
      have f0 := B310.free 0
      have f1 := B310.free 1
      have f2 := B310.free 2
      have f3 := B310.free 3
      have f4 := B310.free 4
      have d0 := B410.cell 0
      have d1 := B410.cell 1
      have e1 := B410.free 0
      have e2 := B410.free 1
      have bl := B310.lt
      have dl := B410.lt
      have HDL := Lib.hid (B4.out.lt)
      simp at c0 c1 c2 c3 c4 d0 d1
      clear h9 h11
      go_wp2
      refine bodyPost_ret (by simp [results, Tryz.results39, go_sem, c0, c1, c2, c3, c4, d0, d1, bl, dl]; rfl) rfl ?_
      have hg1 := HG1.out
      have hd2 := HDL.out
      have h9 := HG9.out
      have hd9 : g1 + 1 + 1 + 1 < g9 := by have := ((K4.out.both K6.out).both K69.out).size; omega
      refine ⟨keep2 (keep5 (K2.out.both K2r.out) (by omega) _ _ _ _ _) (by omega) _ _, g9, by omega, rfl, ?_⟩
      have q5 := set5_B (T3.out.keep K2r.out) ⟨by decide, by decide⟩ (.int .i64 1) (.slice (some ⟨g9, 0, none⟩) vars vars) (.slice none 0 0) (.slice none 0 0) (.int .i64 0)
      have hsep : g1 + 1 + 1 + 1 ≠ g1 + 1 + 1 := by omega
      have t5 : TyB _ (g1 + 1 + 1 + 1) TFa := (((((T4.out.keep K2r.out).other hsep 0 (.int .i64 1)).other hsep 1 (.slice (some ⟨g9, 0, none⟩) vars vars)).other hsep 2 (.slice none 0 0)).other hsep 3 (.slice none 0 0)).other hsep 4 (.int .i64 0)
      exact (HBE.out.fr q5.fr).fr (set2_B t5 ⟨by decide, by decide⟩ _ _).fr
end Go.Proofs.YtnndmdfjdodiiaaGreat
