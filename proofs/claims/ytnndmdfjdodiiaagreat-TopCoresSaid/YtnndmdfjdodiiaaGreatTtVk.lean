/- Package cdcl: no, with all that was learned. -/
import Derived.Test.YtnndmdfjdodiiaaGreatTtVB
namespace Go.Proofs.YtnndmdfjdodiiaaGreat
open Go.ChangeShapes Go.WideShapes Go.RowKit Go.Maps
set_option linter.unusedVariables false
set_option linter.unusedSimpArgs false

set_option maxRecDepth 100000 in
set_option maxHeartbeats 16000000 in
theorem cno_any (P : Nat → Prop) (w0 w : World) (vars : Nat) (ph : Bool) (bS b gm : Nat) (vc vl vw vlev vlr : Value) (s : Cd.SS) (used : Int) (h : CSr P w0 w vars ph bS b gm vc vl vw vlev vlr s) (hll : s.learned.length ≤ 10000) :
    Calls Tryz.prog 71 #[.pointer (some ⟨bS, 0, none⟩), .slice none 0 0, .int .i64 used] w fun e w' => ∃ o c, e = .returned (.agg #[.int .i64 2, .slice none 0 0, .slice o (s.learned.length + 1) c, .slice none 0 0, .int .i64 used]) ∧ StepsT w' w0.heap.size (.slice o (s.learned.length + 1) c) (stp1 (s.learned ++ [[]])) ∧ Keep NoS w0 w' := by
  have CN := fun w' => Lib.hid (negated_any w' (.slice none 0 0) [] ⟨none, 0, rfl, by simp, by simp, fun h => absurd rfl h⟩ (by simp) (by simp))
  obtain ⟨w2, hw2⟩ : ∃ w2 : World, w2 = w.alloc (.cells #[.int .i64 0, .slice none 0 0, .slice none 0 0, .slice none 0 0, .int .i64 0] TAn) := ⟨_, rfl⟩
  have K2 : Keep NoS w w2 := by rw [hw2]; exact (Keep.refl _ _).alloc _
  have HA2 : Hid (w2.heap[w.heap.size]? = some (.cells #[.int .i64 0, .slice none 0 0, .slice none 0 0, .slice none 0 0, .int .i64 0] TAn (0, 0))) := Lib.hid (by rw [hw2]; exact heap_alloc_at _ _ _ rfl)
  have HS := Lib.hid (h.keep K2)
  have HLL := Lib.hid hll
  obtain ⟨ol, nl, hvl, -⟩ := h.lrn.steps.form
  subst hvl
  have hbl := h.blk.lt
  have hw0 := h.tr.k.size
  clear h hll K2
  rw [show (stp1 s.learned).length = s.learned.length from List.length_map ..] at *
  generalize hnl : s.learned.length = n at *
  have HNL := Lib.hid hnl
  clear hnl
  go_enter Tryz.func71, Tryz.ntmps71
  go_upto_region 1 with fail
  rw [← hw2]
  clear hw2
  generalize hg1 : w.heap.size = g1 at *
  clear hg1
  obtain ⟨x0, x1, x2, x3, x4, x5, x6, f3, f4, f5, f6, xl⟩ := csG_cells HS.out.blk
  refine wp_region_by (fun w' => Keep NoS w2 w') [0, 9, 10, 11, 12] [([0, 1, 2, 3, 4, 5], 6), ([7], 8), ([], 9), ([10, 11], 12)] [] (by kernel_rfl) (by kernel_rfl) (Keep.refl _ _).drew ?_
  intro X W hne hF hcl
  have HCL := Lib.hid hcl
  have z6 := fun x => ((hF x).cell xl).trans x6
  have zl := fun x => Nat.lt_of_lt_of_le xl (hF x).size
  clear hF hcl
  simp only [wpPlan, pickOps, List.getElem?_toArray, List.getElem?_cons_zero, List.getElem?_cons_succ, clsOf, Bool.false_eq_true, if_false]
  (repeat (quiet_step (fail))); refine wpQuiet_nil ?_
  refine wpAt rfl rfl fun K hK => ?_
  go_simp
  refine (CN _).out.mono ?_
  rintro e w3 ⟨v3, rfl, ho3, hk3⟩
  obtain ⟨o3, c3, hv3⟩ := ho3.len
  rw [show (Sv.negF []).length = 0 from rfl] at hv3
  subst hv3
  have k3 : Keep NoS w2 w3 := Keep.both (Keep.refl _ _).drew hk3
  refine hK _ _ ⟨fun _ => HCL.out _ k3, ?_⟩
  clear hK K hk3
  (repeat (quiet_step (fail))); refine wpQuiet_nil ?_
  refine wpAt rfl rfl fun K hK => ?_
  go_simp
  have hsz : w2.drew.heap.size = w2.heap.size := rfl
  have hN3 : ∀ q, (Value.slice o3 0 c3).ownBlock = some q → w2.heap.size ≤ q ∧ q < w3.heap.size := fun q hq => ⟨hsz ▸ OwnI.block ho3 q hq, ho3.ltT q hq⟩
  have hs3 := HS.out.widen k3 hN3
  have a4 : Keep NoS w3 (w3.alloc (.cells #[.int .i64 1, .slice o3 0 c3, .slice none 0 0, .int .i64 0, .int .i64 0, .int .i64 0, .slice none 0 0, .int .i64 0, .int .i64 0] TSt)) := (Keep.refl _ _).alloc _
  have k4 : Keep NoS w2 (w3.alloc (.cells #[.int .i64 1, .slice o3 0 c3, .slice none 0 0, .int .i64 0, .int .i64 0, .int .i64 0, .slice none 0 0, .int .i64 0, .int .i64 0] TSt)) := k3.alloc _
  refine hK _ _ ⟨fun _ => HCL.out _ k4, ?_⟩
  clear hK K
  (repeat (quiet_step (fail))); refine wpQuiet_nil ?_
  refine wpAt rfl rfl fun K hK => ?_
  have hs4 := hs3.keep a4
  have hl4 := ((ints_own (xs := []) ho3 (fun x hx => by cases hx)).fr (w' := (w3.alloc (.cells #[.int .i64 1, .slice o3 0 c3, .slice none 0 0, .int .i64 0, .int .i64 0, .int .i64 0, .slice none 0 0, .int .i64 0, .int .i64 0] TSt))) a4.size fun q hq _ => a4.block q hq fun _ h => h).mono (P' := fun q => P q ∨ (Value.slice o3 0 c3).ownBlock = some q) fun q hq => .inr hq
  obtain ⟨v5, w5, hr5, ho5, hg5, hb5⟩ := StIn.app hs4.lrn (x := ⟨1, []⟩) (o := o3) (n := 0) (c := c3) (b := w3.heap.size) (blk_at _ _ rfl) hl4 (by have := HLL.out; rw [show (stp1 s.learned).length = s.learned.length from List.length_map .., HNL.out]; omega) hs4.tr.k.size hs4.ro
  have hzz : stp1 s.learned ++ [⟨1, []⟩] = stp1 (s.learned ++ [[]]) := by unfold stp1; rw [List.map_append]; rfl
  rw [hzz] at ho5
  have HS5 := Lib.hid (hs4.lrs ho5 hg5 hb5)
  obtain ⟨o5, c5, hv5, -⟩ := ho5.steps.form
  rw [show (stp1 (s.learned ++ [[]])).length = n + 1 by unfold stp1; rw [List.length_map, List.length_append, HNL.out]; rfl] at hv5
  subst hv5
  have hbx5 : w5.heap[bS]? = some (.cells (csG vars ph b vlev s.level (.slice ol n nl)) TSe (0, 0)) := (hg5.block bS (lt_of_heap hs4.bx) fun e => by obtain ⟨A, hA⟩ := hs4.lrn.ty bS e.symm; exact ty_ne hA hs4.bx (by decide) rfl).trans hs4.bx
  have HB5 : Blk w5 bS (csG vars ph b vlev s.level (.slice ol n nl)) := ⟨_, hbx5⟩
  have hA4 := (k4.block g1 (lt_of_heap HA2.out) fun _ h => h).trans HA2.out
  have hA5 := (hg5.block g1 (lt_of_heap hA4) fun e => by obtain ⟨A, hA⟩ := hs4.lrn.ty g1 e.symm; exact ty_ne hA hA4 (by decide) rfl).trans hA4
  have HA6 : Hid ((w5.setCell ⟨bS, 6, none⟩ (.slice o5 (n + 1) c5)).heap[g1]? = some (.cells #[.int .i64 0, .slice none 0 0, .slice none 0 0, .slice none 0 0, .int .i64 0] TAn (0, 0))) := Lib.hid ((heap_setCell_other _ ⟨bS, 6, none⟩ _ g1 (show g1 ≠ bS by omega)).trans hA5)
  have f6' := HB5.free 6
  have g6 : w5.cell? ⟨bS, 6, none⟩ = some (.slice ol n nl) := HB5.cell 6
  have gl := HB5.lt
  refine wp_app_run _ _ 47 _ _ rfl rfl rfl hr5 ?_
  refine hK _ _ ⟨fun h => (by simp at h), ?_⟩
  clear hr5 hs3 a4 k4 k3 hs4 hl4 ho5 hg5 hb5 HCL z6 zl x0 x1 x2 x3 x4 x5 x6 f3 f4 f5 f6 xl hbx5 HB5 hN3 ho3 hzz hA4 hA5
  (repeat (quiet_step (fail))); refine wpQuiet_nil ?_
  refine wpAt rfl rfl fun K hK => ?_
  go_simp
  refine hK _ _ ⟨fun h => (by simp at h), ?_⟩
  clear hK
  (repeat (quiet_step (fail))); refine wpQuiet_nil ?_
  refine NoPanic.normal ?_
  generalize w5.setCell ⟨bS, 6, none⟩ (.slice o5 (n + 1) c5) = w6 at *
  have BA6 : Blk w6 g1 #[.int .i64 0, .slice none 0 0, .slice none 0 0, .slice none 0 0, .int .i64 0] := ⟨_, HA6.out⟩
  have y6 : w6.cell? ⟨bS, 6, none⟩ = some (.slice o5 (n + 1) c5) := HS5.out.blk.cell 6
  have yl := HS5.out.blk.lt
  have c0 := BA6.cell 0
  have c1 := BA6.cell 1
  have c2 := BA6.cell 2
  have c3' := BA6.cell 3
  have c4 := BA6.cell 4
  have d0 := BA6.free 0
  have d1 := BA6.free 1
  have d2 := BA6.free 2
  have d3 := BA6.free 3
  have d4 := BA6.free 4
  have dl := BA6.lt
  simp at c0 c1 c2 c3' c4
  clear f6' g6 gl
  go_wp2
  refine bodyPost_ret (by simp [results, Tryz.results71, go_sem, c0, c1, c2, c3', c4, dl]; rfl) rfl ?_
  have q5 := set5_B (w := w6) (b := g1) (t := TAn) ⟨_, HA6.out⟩ ⟨by decide, by decide⟩ (.int .i64 2) (.slice none 0 0) (.slice o5 (n + 1) c5) (.slice none 0 0) (.int .i64 used)
  exact ⟨o5, c5, rfl, q5.steps HS5.out.lrn.steps (fun j hj e => by obtain ⟨A, hA⟩ := HS5.out.lrn.ty j hj; exact ty_ne hA HA6.out (by decide) e), keep5 HS5.out.tr.k (by omega) _ _ _ _ _⟩
end Go.Proofs.YtnndmdfjdodiiaaGreat
