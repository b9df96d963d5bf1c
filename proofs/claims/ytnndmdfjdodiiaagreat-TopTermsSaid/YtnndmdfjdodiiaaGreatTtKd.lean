/- Package cdcl: no at level 0. -/
import Derived.Test.YtnndmdfjdodiiaaGreatTtKy
namespace Go.Proofs.YtnndmdfjdodiiaaGreat
open Go.ChangeShapes Go.WideShapes Go.RowKit Go.Maps
set_option linter.unusedVariables false
set_option linter.unusedSimpArgs false

set_option maxRecDepth 100000 in
set_option maxHeartbeats 16000000 in
theorem cno0_any (w0 w : World) (vars b bS : Nat) (ph : Bool) (vlev : Value) (used : Int) (hk0 : Keep NoS w0 w) (hs : w0.heap.size ≤ bS) (hB : Blk w bS (csC vars ph b vlev)) :
    Calls Tryz.prog 71 #[.pointer (some ⟨bS, 0, none⟩), .slice none 0 0, .int .i64 used] w fun e w' => ∃ o c, e = .returned (.agg #[.int .i64 2, .slice none 0 0, .slice o 1 c, .slice none 0 0, .int .i64 used]) ∧ StepsT w' w.heap.size (.slice o 1 c) [⟨1, []⟩] ∧ Keep NoS w0 w' := by
  have CN := fun w' => Lib.hid (negated_any w' (.slice none 0 0) [] ⟨none, 0, rfl, by simp, by simp, fun h => absurd rfl h⟩ (by simp) (by simp))
  have HB := Lib.hid hB
  have HK0 := Lib.hid hk0
  have HSB := Lib.hid hs
  obtain ⟨w2, hw2⟩ : ∃ w2 : World, w2 = w.alloc (.cells #[.int .i64 0, .slice none 0 0, .slice none 0 0, .slice none 0 0, .int .i64 0] 97) := ⟨_, rfl⟩
  have K2 : Hid (Keep NoS w w2) := Lib.hid (by rw [hw2]; exact (Keep.refl _ _).alloc _)
  have BA : Hid (Blk w2 w.heap.size #[.int .i64 0, .slice none 0 0, .slice none 0 0, .slice none 0 0, .int .i64 0]) := Lib.hid (by rw [hw2]; exact blk_at _ _ rfl)
  have HB2 := Lib.hid (HB.out.keep K2.out)
  clear hk0 hs hB
  go_enter Tryz.func71, Tryz.ntmps71
  go_upto_region 1 with fail
  rw [← hw2]
  clear hw2
  generalize hg1 : w.heap.size = g1 at *
  have HG1 := Lib.hid hg1
  clear hg1
  obtain ⟨x0, x1, x2, x3, x4, x5, x6, f4, xl⟩ := csC_cells HB2.out
  refine wp_region_by (fun w' => Keep NoS w2 w') [12] [([0, 1, 2, 3, 4, 5], 6), ([7], 8), ([], 9), ([10, 11], 12)] [] (by kernel_rfl) (by kernel_rfl) (Keep.refl _ _).drew ?_
  intro X W hne hF hcl
  have HCL := Lib.hid hcl
  have z6 := fun x => ((hF x).cell xl).trans x6
  have zl := fun x => Nat.lt_of_lt_of_le xl (hF x).size
  clear hF hcl
  simp only [wpPlan, pickOps, List.getElem?_toArray, List.getElem?_cons_zero, List.getElem?_cons_succ, clsOf, Bool.false_eq_true, if_false]
  (repeat (quiet_step (fail))); refine wpQuiet_nil ?_
  refine wpAt rfl rfl fun K hK => ?_
  go_simp
  refine (CN _).out.mono ?_
  rintro e w3 ⟨v3, rfl, ho3, hk3⟩
  obtain ⟨o3, c3, hv3⟩ := ho3.len
  rw [show (Sv.negF []).length = 0 from rfl] at hv3
  subst hv3
  have HO3 := Lib.hid ho3
  clear ho3
  have k3 : Keep NoS w2 w3 := Keep.both (Keep.refl _ _).drew hk3
  refine hK _ _ ⟨fun _ => HCL.out _ k3, ?_⟩
  clear hK K hk3
  (repeat (quiet_step (fail))); refine wpQuiet_nil ?_
  refine wpAt rfl rfl fun K hK => ?_
  go_simp
  have k4 : Keep NoS w2 (w3.alloc (.cells #[.int .i64 1, .slice o3 0 c3, .slice none 0 0, .int .i64 0, .int .i64 0, .int .i64 0, .slice none 0 0, .int .i64 0, .int .i64 0] TSt)) := k3.alloc _
  refine hK _ _ ⟨fun _ => HCL.out _ k4, ?_⟩
  clear hK K
  (repeat (quiet_step (fail))); refine wpQuiet_nil ?_
  refine wpAt rfl rfl fun K hK => ?_
  obtain ⟨v5, w5, hr5, ho5, hg5, hb5⟩ := app_step (base := w2.heap.size) (x := ⟨1, o3, 0, c3⟩) (b := w3.heap.size) (OwnG.nil _ _) (blk_at _ _ rfl) (by simp) k4.size
  have k5 : Keep NoS w2 w5 := k4.grown hg5 fun q hq => by cases hq
  obtain ⟨o5, c5, hv5, _⟩ := ho5.len
  replace hv5 : v5 = .slice o5 1 c5 := hv5
  subst hv5
  have HO5 := Lib.hid ho5
  have k35 : Keep NoS w3 w5 := ((Keep.refl NoS w3).alloc (.cells #[.int .i64 1, .slice o3 0 c3, .slice none 0 0, .int .i64 0, .int .i64 0, .int .i64 0, .slice none 0 0, .int .i64 0, .int .i64 0] TSt)).grown hg5 fun q hq => by cases hq
  have HO35 : Hid (OwnI w5 w2.heap.size (.slice o3 0 c3) []) := Lib.hid (World.ownsRow_mono (OwnI.keep HO3.out k35) (by first | exact (Keep.refl _ _).drew.size | simp))
  have hbS : bS < g1 := by have := HB.out.lt; have := HG1.out; omega
  have HB5 := Lib.hid (HB2.out.keep k5)
  have BA5 := Lib.hid (BA.out.keep k5)
  have K5 := Lib.hid ((HK0.out.both K2.out).both k5)
  have f6 : w5.frozen? ⟨bS, 6, none⟩ = false := HB5.out.free 6
  have g6 : w5.cell? ⟨bS, 6, none⟩ = some (.slice none 0 0) := HB5.out.cell 6
  have gl := HB5.out.lt
  refine wp_app_run _ _ 47 _ _ rfl rfl rfl hr5 ?_
  refine hK _ _ ⟨fun _ => HCL.out _ k5, ?_⟩
  clear hK hr5 k35 HO3 k3 k4 hg5 hb5 HCL z6 zl x0 x1 x2 x3 x4 x5 x6 f4 xl CN
  (repeat (quiet_step (fail))); refine wpQuiet_nil ?_
  refine wpAt rfl rfl fun K hK => ?_
  go_simp
  refine hK _ _ ⟨fun h => (by simp at h), ?_⟩
  clear hK
  (repeat (quiet_step (fail))); refine wpQuiet_nil ?_
  refine NoPanic.normal ?_
  have HB6 := Lib.hid (HB5.out.set 6 (.slice o5 1 c5))
  have BA6 := Lib.hid (BA5.out.setOther 6 (.slice o5 1 c5) (show g1 ≠ bS by omega))
  have hlo : ∀ q, (Value.slice o5 1 c5).ownBlock = some q → w2.heap.size ≤ q := fun q hq => OwnG.block HO5.out q hq
  have hg2 : g1 < w2.heap.size := BA.out.lt
  have HO6 := Lib.hid (World.ownsRow_set_other (b := bS) (i := 6) (u := .slice o5 1 c5) HO5.out fun q hq => by have := hlo q hq; omega)
  have HO36 := Lib.hid (World.ownsRow_set_other (b := bS) (i := 6) (u := .slice o5 1 c5) HO35.out fun q hq => by have := OwnI.block HO35.out q hq; omega)
  have K6 := Lib.hid (keep_at K5.out (b := bS) (i := 6) (.slice o5 1 c5) HSB.out)
  have y6 : (w5.setCell ⟨bS, 6, none⟩ (.slice o5 1 c5)).cell? ⟨bS, 6, none⟩ = some (.slice o5 1 c5) := HB6.out.cell 6
  have yl := HB6.out.lt
  have c0 := BA6.out.cell 0
  have c1 := BA6.out.cell 1
  have c2 := BA6.out.cell 2
  have c3' := BA6.out.cell 3
  have c4 := BA6.out.cell 4
  have d0 := BA6.out.free 0
  have d1 := BA6.out.free 1
  have d2 := BA6.out.free 2
  have d3 := BA6.out.free 3
  have d4 := BA6.out.free 4
  have dl := BA6.out.lt
  simp at c0 c1 c2 c3' c4
  clear f6 g6 gl HB6
  generalize w5.setCell ⟨bS, 6, none⟩ (.slice o5 1 c5) = w6 at *
  go_wp2
  refine bodyPost_ret (by simp [results, Tryz.results71, go_sem, c0, c1, c2, c3', c4, dl]; rfl) rfl ?_
  have hne : ∀ q, (Value.slice o5 1 c5).ownBlock = some q → q ≠ g1 := fun q hq => by have := hlo q hq; omega
  have hl3 : ∀ q, (Value.slice o3 0 c3).ownBlock = some q → w2.heap.size ≤ q := fun q hq => OwnI.block HO35.out q hq
  have hn3 : ∀ q, (Value.slice o3 0 c3).ownBlock = some q → q ≠ g1 := fun q hq => by have := hl3 q hq; omega
  have hwg : w0.heap.size ≤ g1 := by have := HG1.out; have := HK0.out.size; omega
  have hw2 : w.heap.size ≤ w2.heap.size := K2.out.size
  refine ⟨o5, c5, rfl, ⟨[⟨1, o3, 0, c3⟩], rfl, World.ownsRow_mono (World.ownsRow_set_other (World.ownsRow_set_other (World.ownsRow_set_other (World.ownsRow_set_other (World.ownsRow_set_other HO6.out hne) hne) hne) hne) hne) hw2, fun i r x hr hx => ?_⟩, keep_at (keep_at (keep_at (keep_at (keep_at K6.out _ hwg) _ hwg) _ hwg) _ hwg) _ hwg⟩
  have hi0 : i = 0 := by have := (List.getElem?_eq_some_iff.1 hr).1; simp at this; exact this
  subst hi0
  simp at hr hx
  subst hr
  subst hx
  refine ⟨rfl, rfl, OwnI.intsT (base := w2.heap.size) (World.ownsRow_set_other (World.ownsRow_set_other (World.ownsRow_set_other (World.ownsRow_set_other (World.ownsRow_set_other HO36.out hn3) hn3) hn3) hn3) hn3) fun x hx => by cases hx⟩
end Go.Proofs.YtnndmdfjdodiiaaGreat
