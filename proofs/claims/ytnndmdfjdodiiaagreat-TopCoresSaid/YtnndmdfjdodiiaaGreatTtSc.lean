/- Package solve: step. -/
import Derived.Test.YtnndmdfjdodiiaaGreatTtSb
namespace Go.Proofs.YtnndmdfjdodiiaaGreat
open Go.ChangeShapes Go.WideShapes Go.RowKit Go.Maps
set_option linter.unusedVariables false
set_option linter.unusedSimpArgs false

set_option maxRecDepth 100000 in
set_option maxHeartbeats 16000000 in
theorem sstep_any (w0 w : World) (b : Nat) (L : FmL) (f : Sv.Frm) (fuel : Int) (M : SvM) (s : Sv.SvS) (k : Int) (o : Option Addr) (n c : Nat) (lits : List Int) (h : SvL w0 w b L f fuel M s) (hk : k = 1 ∨ k = 3) (hx : IntsT w (.slice o n c) lits) (hl : lits.length ≤ 1000) (hc : s.cls.length ≤ 10000) (hs : s.steps.length ≤ 10000) :
    Calls Tryz.prog 83 #[.pointer (some ⟨b, 0, none⟩), stV k o n c] w fun e w' => e = .returned (.tuple #[]) ∧ ∃ M' : SvM, M'.oA = M.oA ∧ M'.cA = M.cA ∧ SvL w0 w' b L f fuel M' ⟨s.cls ++ [lits], s.steps ++ [⟨k, lits⟩], s.used⟩ ∧ FrN w w' := by
  have e5 : (k != 5) = true := by rw [bne_iff_ne]; omega
  have CC := Lib.hid (fun w' (hx : IntsT w' (.slice o n c) lits) => cloneI_any w' (.slice o n c) lits hx.1.srcG (by omega))
  have HX64 := Lib.hid hx.1.all
  obtain ⟨w1, hw1⟩ : ∃ w1 : World, w1 = w.alloc (.cells (stC k o n c) TSt) := ⟨_, rfl⟩
  have k1 : Keep NoS w w1 := by rw [hw1]; exact (Keep.refl _ _).alloc _
  have HS1 := Lib.hid (h.keep k1)
  have HX1 := Lib.hid (hx.keep k1)
  have HB1 : Hid (Blk w1 w.heap.size (stC k o n c)) := Lib.hid (by rw [hw1]; exact blk_at _ _ rfl)
  have F1 := Lib.hid (FrN.of k1)
  have HBX : Hid (∀ q, (Value.slice M.oS s.steps.length M.cS).ownBlock = some q → q ≠ w.heap.size) := Lib.hid (fun q hq => by have := (h.st.lt q hq).2; omega)
  have HBB : Hid (w.heap.size ≠ b) := Lib.hid (by have := lt_of_heap h.bk; omega)
  have HL1 := Lib.hid hc
  have HL2 := Lib.hid hs
  clear h hx hk hl hc hs k1
  unfold stV
  unfold stC at hw1
  go_enter Tryz.func83, Tryz.ntmps83
  go_upto_region 1 with fail
  rw [← hw1]
  clear hw1
  generalize w.heap.size = bx at *
  obtain ⟨x0, x1, x2, x3, x4, x5, x6, x7, x8, xl⟩ := stC_cells HB1.out
  obtain ⟨y0, y1, y2, y3, y4, y5, y6, y7, y8, y9, yl⟩ := svC_cells HS1.out.bk
  clear y0 y1 y2 y3 y4 y5 y7 y8 y9
  refine wp_region_by (fun w' => Keep NoS w1 w') [0, 7, 8, 9, 10] [([0, 1, 2, 3, 4, 5], 6), ([], 7), ([8, 9], 10)] [] (by kernel_rfl) (by kernel_rfl) (Keep.refl _ _).drew ?_
  intro X W hne hF hcl
  have HCL := Lib.hid hcl
  have z0 := fun x => ((hF x).cell xl).trans x0
  have z1 := fun x => ((hF x).cell xl).trans x1
  have z2 := fun x => ((hF x).cell xl).trans x2
  have z3 := fun x => ((hF x).cell xl).trans x3
  have z4 := fun x => ((hF x).cell xl).trans x4
  have z5 := fun x => ((hF x).cell xl).trans x5
  have z6 := fun x => ((hF x).cell xl).trans x6
  have z7 := fun x => ((hF x).cell xl).trans x7
  have z8 := fun x => ((hF x).cell xl).trans x8
  have u6 := fun x => ((hF x).cell yl).trans y6
  have zl := fun x => Nat.lt_of_lt_of_le xl (hF x).size
  have ul := fun x => Nat.lt_of_lt_of_le yl (hF x).size
  clear hF hcl
  simp only [wpPlan, pickOps, List.getElem?_toArray, List.getElem?_cons_zero, List.getElem?_cons_succ, clsOf, Bool.false_eq_true, if_false]
  (repeat (quiet_step (fail))); refine wpQuiet_nil ?_
  refine wpAt rfl rfl fun K hK => ?_
  go_simp
  have k2 : Keep NoS w1 (w1.alloc (.cells (stC k o n c) TSt)).drew := ((Keep.refl _ _).alloc _).drew
  refine hK _ _ ⟨fun _ => HCL.out _ k2, ?_⟩
  obtain ⟨oS, cS, w3, hr3, hs3, hf3, g6, f6, gl, hoth⟩ := (HS1.out.keep k2).step1 (bx := w1.heap.size) (x := ⟨k, lits⟩) (Blk.keep (blk_at _ _ rfl) (Keep.refl _ _).drew) (HX1.out.keep k2) HL2.out
  have HS3 := Lib.hid hs3
  have F3 := Lib.hid ((F1.out.trans (FrN.of k2)).trans hf3)
  have HX3 := Lib.hid ((HX1.out.keep k2).fr hf3.fr)
  have HB3 : Hid (Blk (w3.setCell ⟨b, 6, none⟩ (.slice oS (s.steps.length + 1) cS)) bx (stC k o n c)) := Lib.hid (by
    have hb2 := HB1.out.keep k2
    obtain ⟨t, ht⟩ := hb2
    exact ⟨t, (hoth bx (lt_of_heap ht) HBB.out HBX.out).trans ht⟩)
  clear hK k2 HCL hs3 hf3 hoth z0 z1 z2 z3 z4 z5 z6 z7 z8 u6 zl ul x0 x1 x2 x3 x4 x5 x6 x7 x8 xl y6 yl
  (repeat (quiet_step (fail))); refine wpQuiet_nil ?_
  refine wpAt rfl rfl fun K hK => ?_
  refine wp_app_run _ _ 47 _ _ rfl rfl rfl hr3 ?_
  refine hK _ _ ⟨fun h => (by simp at h), ?_⟩
  clear hK hr3
  (repeat (quiet_step (fail))); refine wpQuiet_nil ?_
  refine wpAt rfl rfl fun K hK => ?_
  go_simp
  refine hK _ _ ⟨fun h => (by simp at h), ?_⟩
  clear hK
  (repeat (quiet_step (fail))); refine wpQuiet_nil ?_
  refine NoPanic.normal ?_
  clear g6 f6 gl
  generalize w3.setCell ⟨b, 6, none⟩ (.slice oS (s.steps.length + 1) cS) = w4 at *
  obtain ⟨x0, x1, x2, x3, x4, x5, x6, x7, x8, xl⟩ := stC_cells HB3.out
  obtain ⟨y0, y1, y2, y3, y4, y5, y6, y7, y8, y9, yl⟩ := svC_cells HS3.out.bk
  clear y0 y1 y2 y3 y4 y6 y7 y8 y9 x2 x3 x4 x5 x6 x7 x8
  simp only at y5
  go_upto_region 3 with fail
  refine wp_region_by (fun w' => Keep NoS w4 w') [0, 9, 10, 11, 12] [([0, 1, 2, 3, 4, 5, 6], 7), ([], 8), ([], 9), ([10, 11], 12)] [] (by kernel_rfl) (by kernel_rfl) (Keep.refl _ _).drew ?_
  intro X W hne hF hcl
  have HCL := Lib.hid hcl
  have z1 := fun x => ((hF x).cell xl).trans x1
  have u5 := fun x => ((hF x).cell yl).trans y5
  have zl := fun x => Nat.lt_of_lt_of_le xl (hF x).size
  have ul := fun x => Nat.lt_of_lt_of_le yl (hF x).size
  clear hF hcl
  simp only [wpPlan, pickOps, List.getElem?_toArray, List.getElem?_cons_zero, List.getElem?_cons_succ, clsOf, Bool.false_eq_true, if_false]
  (repeat (quiet_step (fail))); refine wpQuiet_nil ?_
  refine wpAt rfl rfl fun K hK => ?_
  go_simp
  refine (CC.out _ (HX3.out.keep ((Keep.refl NoS w4).drew))).mono ?_
  rintro e w5 ⟨v5, rfl, ho5, hk5⟩
  have k5 : Keep NoS w4 w5 := Keep.both (Keep.refl _ _).drew hk5
  have ho5 := own_in ho5
  have hi5 := ho5.intsT HX64.out
  obtain ⟨o5, c5, hv5, _⟩ := hi5.form
  subst hv5
  refine hK _ _ ⟨fun _ => HCL.out _ k5, ?_⟩
  clear hK hk5 ho5
  have HI5 := Lib.hid hi5
  clear hi5
  (repeat (quiet_step (fail))); refine wpQuiet_nil ?_
  refine wpAt rfl rfl fun K hK => ?_
  go_simp
  have k6 : Keep NoS w5 (w5.alloc (.cells #[.slice o5 lits.length c5] TLi)) := (Keep.refl _ _).alloc _
  refine hK _ _ ⟨fun _ => HCL.out _ (k5.both k6), ?_⟩
  obtain ⟨oC, cC, w7, hr7, hs7, hf7, g5, f5, gl⟩ := ((HS3.out.keep k5).keep k6).cls1 (bx := w5.heap.size) (x := .slice o5 lits.length c5) (c := lits) (blk_at _ _ rfl) (HI5.out.keep k6) HL1.out
  have HS7 := Lib.hid hs7
  have F7 := Lib.hid ((F3.out.trans (FrN.of (k5.both k6))).trans hf7)
  clear hK k5 k6 HCL hs7 hf7 z1 u5 zl ul x0 x1 xl y5 yl
  simp only at hr7 g5
  (repeat (quiet_step (fail))); refine wpQuiet_nil ?_
  refine wpAt rfl rfl fun K hK => ?_
  refine wp_app_run _ _ 26 _ _ rfl rfl rfl hr7 ?_
  refine hK _ _ ⟨fun h => (by simp at h), ?_⟩
  clear hK hr7
  (repeat (quiet_step (fail))); refine wpQuiet_nil ?_
  refine wpAt rfl rfl fun K hK => ?_
  go_simp
  refine hK _ _ ⟨fun h => (by simp at h), ?_⟩
  clear hK
  (repeat (quiet_step (fail))); refine wpQuiet_nil ?_
  refine NoPanic.normal ?_
  go_wp2
  refine bodyPost_end (by simp [results, Tryz.results83, go_sem]; rfl) rfl ?_
  refine ⟨rfl, _, ?_, ?_, HS7.out, F7.out⟩ <;> rfl
end Go.Proofs.YtnndmdfjdodiiaaGreat
