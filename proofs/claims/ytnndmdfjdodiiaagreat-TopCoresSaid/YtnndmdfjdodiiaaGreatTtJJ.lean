/- Package judge: the parts of a step's check. Package judge: same. Package judge: same, whole. Package judge: formed, step. Package judge: clauses of one's own; step. -/
import Derived.Test.YtnndmdfjdodiiaaGreatTtFe
namespace Go.Proofs.YtnndmdfjdodiiaaGreat
open Go.ChangeShapes Go.WideShapes Go.RowKit Go.Maps
set_option linter.unusedVariables false
set_option linter.unusedSimpArgs false

abbrev TSj : TypeId := 120
abbrev TSt : TypeId := 57
@[go_sem] theorem at_field0 (a b c : Int) (w : World) : (Instr.field 36 (.agg #[.int .i64 a, .int .i64 b, .int .i64 c, .slice none 0 0, .int .i64 0, .int .i64 0]) 0).run Tryz.prog w = .ok (.int .i64 a) w := by kernel_rfl
@[go_sem] theorem at_field1 (a b c : Int) (w : World) : (Instr.field 36 (.agg #[.int .i64 a, .int .i64 b, .int .i64 c, .slice none 0 0, .int .i64 0, .int .i64 0]) 1).run Tryz.prog w = .ok (.int .i64 b) w := by kernel_rfl
@[go_sem] theorem at_field2 (a b c : Int) (w : World) : (Instr.field 36 (.agg #[.int .i64 a, .int .i64 b, .int .i64 c, .slice none 0 0, .int .i64 0, .int .i64 0]) 2).run Tryz.prog w = .ok (.int .i64 c) w := by kernel_rfl
theorem zero0_any (w : World) : Calls Tryz.prog 130 #[.agg #[.int .i64 0, .int .i64 0, .int .i64 0, .slice none 0 0, .int .i64 0, .int .i64 0]] w fun e w' => e = .returned (.bool true) ∧ Keep NoS w w' := by
  go_enter Tryz.func130, Tryz.ntmps130
  go_wp2
  go_ret
  exact ⟨rfl, by (repeat' (with_reducible first | assumption | exact HK.out | exact keR | refine keA ?_ | refine keS ?_ fun h => absurd h (by omega) | refine keN ?_ | refine keD ?_))⟩
theorem keepS6 {w0 w : World} {b : Nat} (h : Keep NoS w0 w) (hb : w0.heap.size ≤ b) (p q r s t u : Value) : Keep NoS w0 ((((((w.setCell ⟨b, 0, none⟩ p).setCell ⟨b, 1, none⟩ q).setCell ⟨b, 2, none⟩ r).setCell ⟨b, 3, none⟩ s).setCell ⟨b, 4, none⟩ t).setCell ⟨b, 5, none⟩ u) :=
  (((((h.setCell _ fun hh => absurd hh (by omega)).setCell _ fun hh => absurd hh (by omega)).setCell _ fun hh => absurd hh (by omega)).setCell _ fun hh => absurd hh (by omega)).setCell _ fun hh => absurd hh (by omega)).setCell _ fun hh => absurd hh (by omega)
set_option maxRecDepth 100000 in
set_option maxHeartbeats 8000000 in
theorem jatom_any (w : World) (b : Nat) (oa : Option Addr) (ca : Nat) (atoms : List Sv.At) (l : Int) (hb : w.cell? ⟨b, 2, none⟩ = some (.slice oa atoms.length ca)) (hl : b < w.heap.size) (ha : IsAtoms w (.slice oa atoms.length ca) atoms) (h0 : l ≠ 0) (hn : l.natAbs ≤ atoms.length) (hm : atoms.length ≤ 1000) :
    Calls Tryz.prog 133 #[.pointer (some ⟨b, 0, none⟩), .int .i64 l] w fun e w' => e = .returned (atV (Sv.atomOf atoms l)) ∧ Keep NoS w w' := by
  obtain ⟨k, hk⟩ : ∃ k : Nat, l.natAbs = k + 1 := ⟨l.natAbs - 1, by omega⟩
  have hkl : k < atoms.length := by omega
  have CV := fun w => Lib.hid (var_any w l (by unfold I64; omega) (by unfold I64; omega))
  have e1 : Sv.atomOf atoms l = atoms[k] := by
    unfold Sv.atomOf
    rw [hk, Nat.add_sub_cancel, List.getD_eq_getElem?_getD, List.getElem?_eq_getElem hkl]; rfl
  rw [e1]
  obtain ⟨g, o, hg, gl, c0, c1, c2, c3, c4, c5⟩ := ha.at hkl
  subst hg
  rw [show ((l.natAbs : Nat) : Int) = (k : Int) + 1 by omega] at CV
  generalize atoms[k] = a at *
  generalize atoms.length = n at *
  obtain ⟨ak, aa, ab⟩ := a
  have hs : IntKind.i64.wrap (k : Int) = (k : Int) := by rw [IntKind.wrap_i64]; omega
  have i1 : (k : Int) < (n : Int) := by omega
  have i2 : ¬ (k : Int) < 0 := by omega
  have B0 : Hid (Blk (w.alloc (.cells #[.int .i64 0, .int .i64 0, .int .i64 0, .slice none 0 0, .int .i64 0, .int .i64 0] TAt)) w.heap.size #[.int .i64 0, .int .i64 0, .int .i64 0, .slice none 0 0, .int .i64 0, .int .i64 0]) := Lib.hid (blk_at _ _ rfl)
  clear ha e1 hk hm h0 hn
  unfold atV
  simp only at c0 c1 c2 ⊢
  go_enter Tryz.func133, Tryz.ntmps133
  go_upto_region 1 with fail
  have K0 : Keep NoS w (w.alloc (.cells #[.int .i64 0, .int .i64 0, .int .i64 0, .slice none 0 0, .int .i64 0, .int .i64 0] TAt)) := (Keep.refl _ _).alloc _
  have x2 := (K0.cell hl).trans hb
  have xl := Nat.lt_of_lt_of_le hl K0.size
  have d0 := (K0.cell gl).trans c0
  have d1 := (K0.cell gl).trans c1
  have d2 := (K0.cell gl).trans c2
  have d3 := (K0.cell gl).trans c3
  have d4 := (K0.cell gl).trans c4
  have d5 := (K0.cell gl).trans c5
  have dl := Nat.lt_of_lt_of_le gl K0.size
  have HK0 := Lib.hid K0
  have HBL := Lib.hid (Nat.le_refl w.heap.size)
  clear K0 c0 c1 c2 c3 c4 c5 hb
  generalize hw0 : w.alloc (.cells #[.int .i64 0, .int .i64 0, .int .i64 0, .slice none 0 0, .int .i64 0, .int .i64 0] TAt) = w1 at *
  have hbb : ∃ bb, bb = w.heap.size := ⟨_, rfl⟩
  obtain ⟨bb, hbb⟩ := hbb
  rw [← hbb] at B0 ⊢
  have HBB := Lib.hid hbb
  clear hw0 hbb gl hl HBL
  refine wp_region_by (fun w' => Keep NoS w1 w') [10] [([0, 1, 2, 3, 4, 5], 6), ([7, 8, 9], 10)] [] (by kernel_rfl) (by kernel_rfl) (by (repeat' (with_reducible first | assumption | exact HK.out | exact keR | refine keA ?_ | refine keS ?_ fun h => absurd h (by omega) | refine keN ?_ | refine keD ?_))) ?_
  intro X W hne hF hcl
  have HCL := Lib.hid hcl
  have y2 := fun x => ((hF x).cell xl).trans x2
  have yl := fun x => Nat.lt_of_lt_of_le xl (hF x).size
  have z0 := fun x => ((hF x).cell dl).trans d0
  have z1 := fun x => ((hF x).cell dl).trans d1
  have z2 := fun x => ((hF x).cell dl).trans d2
  have z3 := fun x => ((hF x).cell dl).trans d3
  have z4 := fun x => ((hF x).cell dl).trans d4
  have z5 := fun x => ((hF x).cell dl).trans d5
  have zl := fun x => Nat.lt_of_lt_of_le dl (hF x).size
  clear hF hcl
  simp only [wpPlan, pickOps, List.getElem?_toArray, List.getElem?_cons_zero, List.getElem?_cons_succ, clsOf, Bool.false_eq_true, if_false]
  (repeat (quiet_step (fail))); refine wpQuiet_nil ?_
  refine wpAt rfl rfl fun K hK => ?_
  go_simp
  refine (CV _).out.mono ?_
  rintro e w2 ⟨rfl, rfl⟩
  have k2 : Keep NoS w1 w1.drew := (Keep.refl _ _).drew
  refine hK _ _ ⟨fun _ => HCL.out _ k2, ?_⟩
  clear hK K
  have f0 := B0.out.free 0
  have f1 := B0.out.free 1
  have f2 := B0.out.free 2
  have f3 := B0.out.free 3
  have f4 := B0.out.free 4
  have f5 := B0.out.free 5
  have r0 := B0.out.cell 0
  have r1 := B0.out.cell 1
  have r2 := B0.out.cell 2
  have r3 := B0.out.cell 3
  have r4 := B0.out.cell 4
  have r5 := B0.out.cell 5
  simp at r0 r1 r2 r3 r4 r5
  have rl := B0.out.lt
  clear k2
  (repeat (quiet_step (fail))); refine wpQuiet_nil ?_
  refine wpAt rfl rfl fun K hK => ?_
  go_simp
  refine hK _ _ ⟨fun h => (by simp at h), ?_⟩
  clear hK K
  (repeat (quiet_step (fail))); refine wpQuiet_nil ?_
  refine NoPanic.normal ?_
  go_wp2
  refine bodyPost_ret (by simp [results, Tryz.results133, go_sem, r0, r1, r2, r3, r4, r5, rl]; rfl) rfl ?_
  exact ⟨rfl, (keepS6 HK0.out (by have := HBB.out; omega) _ _ _ _ _ _).drew⟩
theorem cfa1 (a : Array Value) (w : World) : Sem.run Tryz.prog (callFunc 162 a) w = .ok (.enter 162 a) w := by kernel_rfl
set_option maxRecDepth 100000 in
set_option maxHeartbeats 8000000 in
theorem jall1_any (w : World) (b1 b2 b : Nat) (oa : Option Addr) (ca : Nat) (atoms : List Sv.At) (kind l : Int) (h1 : w.cell? ⟨b1, 0, none⟩ = some (.pointer (some ⟨b, 0, none⟩))) (l1 : b1 < w.heap.size) (h2 : w.cell? ⟨b2, 0, none⟩ = some (.int .i64 kind)) (l2 : b2 < w.heap.size) (hb : w.cell? ⟨b, 2, none⟩ = some (.slice oa atoms.length ca)) (hl : b < w.heap.size) (ha : IsAtoms w (.slice oa atoms.length ca) atoms) (h0 : l ≠ 0) (hn : l.natAbs ≤ atoms.length) (hm : atoms.length ≤ 1000) :
    Calls Tryz.prog 162 #[.int .i64 l, .pointer (some ⟨b1, 0, none⟩), .pointer (some ⟨b2, 0, none⟩)] w fun e w' => e = .returned (.bool (decide ((Sv.atomOf atoms l).kind ≠ kind))) ∧ Keep NoS w w' := by
  have CA := Lib.hid (fun w' (k : Keep NoS w w') => jatom_any w' b oa ca atoms l ((k.cell hl).trans hb) (Nat.lt_of_lt_of_le hl k.size) (ha.keep k) h0 hn hm)
  generalize Sv.atomOf atoms l = a at *
  obtain ⟨ak, aa, ab⟩ := a
  unfold atV at CA
  simp only at CA ⊢
  clear ha hb hl h0 hn hm
  go_enter Tryz.func162, Tryz.ntmps162
  go_upto_region 1 with fail
  refine wp_region_by (fun w' => Keep NoS w w') [] [([0, 1, 4], 2)] [3, 5, 6] (by kernel_rfl) (by kernel_rfl) (by (repeat' (with_reducible first | assumption | exact HK.out | exact keR | refine keA ?_ | refine keS ?_ fun h => absurd h (by omega) | refine keN ?_ | refine keD ?_))) ?_
  intro X W hne hF hcl
  have HCL := Lib.hid hcl
  have y1 := fun x => ((hF x).cell l1).trans h1
  have y2 := fun x => ((hF x).cell l2).trans h2
  have z1 := fun x => Nat.lt_of_lt_of_le l1 (hF x).size
  have z2 := fun x => Nat.lt_of_lt_of_le l2 (hF x).size
  clear hF hcl
  simp only [wpPlan, pickOps, List.getElem?_toArray, List.getElem?_cons_zero, List.getElem?_cons_succ, clsOf, Bool.false_eq_true, if_false]
  (repeat (quiet_step (fail))); refine wpQuiet_nil ?_
  refine wpAt rfl rfl fun K hK => ?_
  go_simp
  refine (CA.out _ (by (repeat' (with_reducible first | assumption | exact HK.out | exact keR | refine keA ?_ | refine keS ?_ fun h => absurd h (by omega) | refine keN ?_ | refine keD ?_)))).mono ?_
  rintro e w2 ⟨rfl, hk⟩
  have k2 : Keep NoS w w2 := Keep.both (by (repeat' (with_reducible first | assumption | exact HK.out | exact keR | refine keA ?_ | refine keS ?_ fun h => absurd h (by omega) | refine keN ?_ | refine keD ?_))) hk
  refine hK _ _ ⟨fun _ => HCL.out _ k2, ?_⟩
  clear hK K hk
  (repeat (quiet_step (fail))); refine wpQuiet_nil ?_
  refine NoPanic.normal ?_
  go_wp2
  go_ret
  exact ⟨congrArg (fun b : Bool => Ending.returned (.bool b)) (by rw [Bool.eq_iff_iff]; simp), k2⟩
/-- Literals of atoms. -/
def LitsIn (n : Nat) (lits : List Int) : Prop := ∀ l ∈ lits, l ≠ 0 ∧ l.natAbs ≤ n
set_option maxRecDepth 100000 in
set_option maxHeartbeats 8000000 in
theorem jall_any (w : World) (b : Nat) (oa : Option Addr) (ca : Nat) (atoms : List Sv.At) (kind : Int) (v : Value) (lits : List Int) (hb : w.cell? ⟨b, 2, none⟩ = some (.slice oa atoms.length ca)) (hl : b < w.heap.size) (ha : IsAtoms w (.slice oa atoms.length ca) atoms) (hv : IsInts w v lits) (hn : LitsIn atoms.length lits) (hm : atoms.length ≤ 1000) :
    Calls Tryz.prog 132 #[.pointer (some ⟨b, 0, none⟩), v, .int .i64 kind] w fun e w' => e = .returned (.bool (lits.all fun l => decide ((Sv.atomOf atoms l).kind = kind))) ∧ Keep NoS w w' := by
  obtain ⟨w2, hw2⟩ : ∃ w2 : World, w2 = (w.alloc (.cells #[.pointer (some ⟨b, 0, none⟩)] 117)).alloc (.cells #[.int .i64 kind] TI) := ⟨_, rfl⟩
  have K2 : Keep NoS w w2 := by rw [hw2]; exact ((Keep.refl _ _).alloc _).alloc _
  have B1 : Blk w2 w.heap.size #[.pointer (some ⟨b, 0, none⟩)] := by rw [hw2]; exact Blk.old (blk_at _ _ rfl) _
  have B2 : Blk w2 (w.heap.size + 1) #[.int .i64 kind] := by rw [hw2]; exact blk_at _ _ (by simp)
  have CC := Lib.hid (intAny_any 162 #[.pointer (some ⟨w.heap.size, 0, none⟩), .pointer (some ⟨w.heap.size + 1, 0, none⟩)] cfa1 (fun l => decide ((Sv.atomOf atoms l).kind ≠ kind)) w2 v lits (hv.keep K2) fun w' k l hx =>
    jall1_any w' w.heap.size (w.heap.size + 1) b oa ca atoms kind l ((B1.keep k).cell 0) (B1.keep k).lt ((B2.keep k).cell 0) (B2.keep k).lt (((K2.both k).cell hl).trans hb) (Nat.lt_of_lt_of_le hl (K2.both k).size) (ha.keep (K2.both k)) (hn l hx).1 (hn l hx).2 hm)
  have e1 : (lits.all fun l => decide ((Sv.atomOf atoms l).kind = kind)) = !(lits.any fun l => decide ((Sv.atomOf atoms l).kind ≠ kind)) := by
    rw [List.not_any_eq_all_not]; congr; funext l; simp
  rw [e1]
  have HK2 := Lib.hid K2
  obtain ⟨ol, cl, rfl, _⟩ := hv.len
  generalize (lits.any fun l => decide ((Sv.atomOf atoms l).kind ≠ kind)) = r at *
  generalize lits.length = n at *
  clear ha hv hn hm hb K2 B1 B2 e1
  go_enter Tryz.func132, Tryz.ntmps132
  go_upto_region 1 with fail
  rw [← hw2]
  clear hw2
  generalize w.heap.size = g at *
  go_wp2_with fail
  refine CC.out.mono ?_
  rintro e w3 ⟨rfl, hk⟩
  have k3 := HK2.out.both hk
  cases r <;> go_wp2 <;> go_ret <;> exact ⟨rfl, k3⟩
end Go.Proofs.YtnndmdfjdodiiaaGreat

namespace Go.Proofs.YtnndmdfjdodiiaaGreat
open Go.ChangeShapes Go.WideShapes Go.RowKit Go.Maps
set_option linter.unusedVariables false
set_option linter.unusedSimpArgs false

theorem cfs1 (a : Array Value) (w : World) : Sem.run Tryz.prog (callFunc 134 a) w = .ok (.enter 134 a) w := by kernel_rfl
set_option maxRecDepth 100000 in
set_option maxHeartbeats 8000000 in
theorem jsame1_any (w : World) (b1 b2 b g n : Nat) (oa : Option Addr) (ca : Nat) (atoms : List Sv.At) (th : List Int) (l : Int) (i j : Nat) (h1 : w.cell? ⟨b1, 0, none⟩ = some (.slice (some ⟨g, 0, none⟩) n n)) (l1 : b1 < w.heap.size) (h2 : w.cell? ⟨b2, 0, none⟩ = some (.pointer (some ⟨b, 0, none⟩))) (l2 : b2 < w.heap.size) (hg : w.heap[g]? = some (.cells (iv th).toArray TI (0, 0))) (hth : th.length = n) (hi : i < n) (hj : j < n) (ei : (Sv.atomOf atoms l).a = i) (ej : (Sv.atomOf atoms l).b = j) (hn1 : n ≤ 1000)
    (hb : w.cell? ⟨b, 2, none⟩ = some (.slice oa atoms.length ca)) (hl : b < w.heap.size) (ha : IsAtoms w (.slice oa atoms.length ca) atoms) (h0 : l ≠ 0) (hn : l.natAbs ≤ atoms.length) (hm : atoms.length ≤ 1000) :
    Calls Tryz.prog 134 #[.int .i64 l, .pointer (some ⟨b1, 0, none⟩), .pointer (some ⟨b2, 0, none⟩)] w fun e w' => e = .returned (.bool (Sv.posEq atoms th l)) ∧ Keep NoS w w' := by
  have CA := Lib.hid (fun w' (k : Keep NoS w w') => jatom_any w' b oa ca atoms l ((k.cell hl).trans hb) (Nat.lt_of_lt_of_le hl k.size) (ha.keep k) h0 hn hm)
  have HP : Hid (Sv.posEq atoms th l = (decide (0 < l) && decide (Cl.clAt th (i : Int) = Cl.clAt th (j : Int)))) := Lib.hid (by unfold Sv.posEq; rw [ei, ej])
  have p1 := blk_cl hg hth hi
  have p2 := blk_cl hg hth hj
  have gl := lt_of_heap hg
  have i1 : (i : Int) < (n : Int) := by omega
  have j1 : (j : Int) < (n : Int) := by omega
  have i2 : ¬ (i : Int) < 0 := by omega
  have j2 : ¬ (j : Int) < 0 := by omega
  generalize Sv.atomOf atoms l = a at *
  obtain ⟨ak, aa, ab⟩ := a
  simp only at ei ej
  subst ei
  subst ej
  unfold atV at CA
  simp only at CA ⊢
  rw [HP.out]
  generalize Cl.clAt th (i : Int) = x at *
  generalize Cl.clAt th (j : Int) = y at *
  clear ha hb hl h0 hn hm HP hg hth hn1
  by_cases h : 0 < l
  case neg =>
    have hd : decide (0 < l) = false := decide_eq_false h
    rw [hd, Bool.false_and]
    go_enter Tryz.func134, Tryz.ntmps134
    go_wp2
    go_quiet (fail)
    go_wp2
    go_ret
    exact ⟨rfl, by (repeat' (with_reducible first | assumption | exact HK.out | exact keR | refine keA ?_ | refine keS ?_ fun h => absurd h (by omega) | refine keN ?_ | refine keD ?_))⟩
  case pos =>
    have hd : decide (0 < l) = true := decide_eq_true h
    rw [hd, Bool.true_and]
    go_enter Tryz.func134, Tryz.ntmps134
    go_upto_region 1 with fail
    refine wp_region_by (fun w' => Keep NoS w w') [] [([0, 1, 2, 3, 4, 5, 10, 11, 12], 6), ([7, 8, 9], 13)] [14, 15, 16, 17, 18, 19] (by kernel_rfl) (by kernel_rfl) (by (repeat' (with_reducible first | assumption | exact HK.out | exact keR | refine keA ?_ | refine keS ?_ fun h => absurd h (by omega) | refine keN ?_ | refine keD ?_))) ?_
    intro X W hne hF hcl
    have HCL := Lib.hid hcl
    have y1 := fun x => ((hF x).cell l1).trans h1
    have y2 := fun x => ((hF x).cell l2).trans h2
    have q1 := fun x => ((hF x).cell gl).trans p1
    have q2 := fun x => ((hF x).cell gl).trans p2
    have z1 := fun x => Nat.lt_of_lt_of_le l1 (hF x).size
    have z2 := fun x => Nat.lt_of_lt_of_le l2 (hF x).size
    have z3 := fun x => Nat.lt_of_lt_of_le gl (hF x).size
    clear hF hcl
    simp only [wpPlan, pickOps, List.getElem?_toArray, List.getElem?_cons_zero, List.getElem?_cons_succ, clsOf, Bool.false_eq_true, if_false]
    (repeat (quiet_step (fail))); refine wpQuiet_nil ?_
    refine wpWa rfl rfl fun K hK => ?_
    go_simp
    refine (CA.out _ (by (repeat' (with_reducible first | assumption | exact HK.out | exact keR | refine keA ?_ | refine keS ?_ fun h => absurd h (by omega) | refine keN ?_ | refine keD ?_)))).mono ?_
    rintro e w2 ⟨rfl, hk⟩
    have k2 : Keep NoS w w2 := Keep.both (by (repeat' (with_reducible first | assumption | exact HK.out | exact keR | refine keA ?_ | refine keS ?_ fun h => absurd h (by omega) | refine keN ?_ | refine keD ?_))) hk
    refine hK _ _ ⟨fun _ => HCL.out _ k2, ?_⟩
    clear hK K hk
    (repeat (quiet_step (fail))); refine wpQuiet_nil ?_
    refine wpWa rfl rfl fun K hK => ?_
    go_simp
    refine (CA.out _ (by (repeat' (with_reducible first | assumption | exact HK.out | exact keR | refine keA ?_ | refine keS ?_ fun h => absurd h (by omega) | refine keN ?_ | refine keD ?_)))).mono ?_
    rintro e w3 ⟨rfl, hk⟩
    have k3 : Keep NoS w w3 := Keep.both (by (repeat' (with_reducible first | assumption | exact HK.out | exact keR | refine keA ?_ | refine keS ?_ fun h => absurd h (by omega) | refine keN ?_ | refine keD ?_))) hk
    refine hK _ _ ⟨fun _ => HCL.out _ k3, ?_⟩
    clear hK K hk
    (repeat (quiet_step (fail))); refine wpQuiet_nil ?_
    refine NoPanic.normal ?_
    go_wp2
    go_ret
    exact ⟨congrArg (fun b : Bool => Ending.returned (.bool b)) (by rw [Bool.eq_iff_iff]; simp), k3⟩
end Go.Proofs.YtnndmdfjdodiiaaGreat

namespace Go.Proofs.YtnndmdfjdodiiaaGreat
open Go.ChangeShapes Go.WideShapes Go.RowKit Go.Maps
set_option linter.unusedVariables false
set_option linter.unusedSimpArgs false

theorem negPairs_take {atoms : List Sv.At} {lits : List Int} {k : Nat} (hk : k < lits.length) : Sv.negPairs atoms (lits.take (k + 1)) = Sv.negPairs atoms (lits.take k) ++ if lits[k] < 0 then [((Sv.atomOf atoms lits[k]).a, (Sv.atomOf atoms lits[k]).b)] else [] := by
  unfold Sv.negPairs
  rw [List.take_succ_eq_append_getElem hk, List.filter_append, List.map_append]
  congr 1
  by_cases h : lits[k] < 0 <;> simp [h]
theorem negPairs_len {atoms : List Sv.At} {lits : List Int} : (Sv.negPairs atoms lits).length ≤ lits.length := by
  unfold Sv.negPairs
  rw [List.length_map]
  exact List.length_filter_le _ _
theorem atomOf_mem {atoms : List Sv.At} {l : Int} (h0 : l ≠ 0) (hn : l.natAbs ≤ atoms.length) : Sv.atomOf atoms l ∈ atoms := by
  unfold Sv.atomOf
  have h : l.natAbs - 1 < atoms.length := by omega
  rw [List.getD_eq_getElem?_getD, List.getElem?_eq_getElem h]
  exact List.getElem_mem h
theorem negPairs_ok {n : Nat} {atoms : List Sv.At} {lits : List Int} (hl : LitsIn atoms.length lits) (ha : ∀ a ∈ atoms, AtOK n a) (hk : ∀ l ∈ lits, (Sv.atomOf atoms l).kind = 2) : PrOK n (Sv.negPairs atoms lits) := by
  intro p hp
  obtain ⟨l, hm, rfl⟩ := List.mem_map.1 hp
  have hm := (List.mem_filter.1 hm).1
  have := ha _ (atomOf_mem (hl l hm).1 (hl l hm).2)
  have hk := hk l hm
  unfold AtOK at this
  simp only
  omega
theorem app_pair {w : World} {base : Nat} {v : Value} {l : List (Int × Int)} (hown : OwnP w base v l) {b : Nat} {x y : Int} (hbk : Blk w b #[.int .i64 x, .int .i64 y]) (hl : l.length ≤ 100000) (hbase : base ≤ w.heap.size) :
    ∃ v' w', (Builtin.append_ #[32, 32] 32 #[v, .slice (some ⟨b, 0, none⟩) 1 1]).run Tryz.prog w = .ok v' w' ∧ OwnP w' base v' (l ++ [(x, y)]) ∧ w.grownBy w' v.ownBlock ∧ (v'.ownBlock = v.ownBlock ∨ v'.ownBlock = some w.heap.size) := by
  obtain ⟨i, hi, hz, hs, hb⟩ := info_parts infoP
  exact OwnG.app (T := T2) (K := 2) (c := prC) prC_len Tryz.underlying32 hi hz hs hb rfl (by omega) hown hbk (by intro u hu; simp [prC] at hu; rcases hu with rfl | rfl <;> rfl) (by unfold maxLen; omega) (by omega) hbase
set_option maxRecDepth 100000 in
set_option maxHeartbeats 16000000 in
theorem jsame_any (w : World) (b : Nat) (ot oa : Option Addr) (ct ca : Nat) (f : Sv.Frm) (v : Value) (lits : List Int) (hb0 : w.cell? ⟨b, 0, none⟩ = some (.slice ot f.terms.length ct)) (hb : w.cell? ⟨b, 2, none⟩ = some (.slice oa f.atoms.length ca)) (hl : b < w.heap.size) (ht : IsTerms w (.slice ot f.terms.length ct) f.terms) (ha : IsAtoms w (.slice oa f.atoms.length ca) f.atoms) (hv : IsInts w v lits) (hn : LitsIn f.atoms.length lits) (hm : f.atoms.length ≤ 1000) (hat : ∀ a ∈ f.atoms, AtOK f.terms.length a) (hok : TmOK f.terms) (hll : lits.length ≤ 1000) :
    Calls Tryz.prog 95 #[.pointer (some ⟨b, 0, none⟩), v] w fun e w' => e = .returned (.bool (Sv.sameJ f lits)) ∧ Keep NoS w w' := by
  have CA := Lib.hid (fun w' (k : Keep NoS w w') => jall_any w' b oa ca f.atoms 2 v lits ((k.cell hl).trans hb) (Nat.lt_of_lt_of_le hl k.size) (ha.keep k) (hv.keep k) hn hm)
  have CT := Lib.hid (fun w' (k : Keep NoS w w') l (hm' : l ∈ lits) => jatom_any w' b oa ca f.atoms l ((k.cell hl).trans hb) (Nat.lt_of_lt_of_le hl k.size) (ha.keep k) (hn l hm').1 (hn l hm').2 hm)
  have CL := Lib.hid (fun (hk : ∀ l ∈ lits, (Sv.atomOf f.atoms l).kind = 2) w' (k : Keep NoS w w') op cp (hp : IsPairs w' (.slice op (Sv.negPairs f.atoms lits).length cp) (Sv.negPairs f.atoms lits)) => classes_any w' ot op ct cp f.terms _ (ht.keep k) hp hok (negPairs_ok hn hat hk) (Nat.le_trans negPairs_len hll))
  obtain ⟨w2, hw2⟩ : ∃ w2 : World, w2 = w.alloc (.cells #[.pointer (some ⟨b, 0, none⟩)] 117) := ⟨_, rfl⟩
  have K2 : Keep NoS w w2 := by rw [hw2]; exact (Keep.refl _ _).alloc _
  have B1 : Hid (Blk w2 w.heap.size #[.pointer (some ⟨b, 0, none⟩)]) := Lib.hid (by rw [hw2]; exact blk_at _ _ rfl)
  have HK2 := Lib.hid K2
  have HV := Lib.hid hv
  have CF := Lib.hid (fun (hk : ∀ l ∈ lits, (Sv.atomOf f.atoms l).kind = 2) w' (k : Keep NoS w2 w') b1 g (hb1 : Blk w' b1 #[.slice (some ⟨g, 0, none⟩) f.terms.length f.terms.length]) (hg : w'.heap[g]? = some (.cells (iv (Cl.classF f.terms (Sv.negPairs f.atoms lits))).toArray TI (0, 0))) =>
    intAny_any 134 #[.pointer (some ⟨b1, 0, none⟩), .pointer (some ⟨w.heap.size, 0, none⟩)] cfs1 (Sv.posEq f.atoms (Cl.classF f.terms (Sv.negPairs f.atoms lits))) w' v lits (hv.keep (K2.both k)) fun w'' k' l hx => by
      have h2 := hk l hx
      have h3 := hat _ (atomOf_mem (hn l hx).1 (hn l hx).2)
      unfold AtOK at h3
      have h4 := hok.n
      exact jsame1_any w'' b1 w.heap.size b g f.terms.length oa ca f.atoms _ l (Sv.atomOf f.atoms l).a.toNat (Sv.atomOf f.atoms l).b.toNat ((hb1.keep k').cell 0) (hb1.keep k').lt ((B1.out.keep (k.both k')).cell 0) (B1.out.keep (k.both k')).lt ((k'.block g (lt_of_heap hg) fun _ h => h).trans hg) (Cl.class_ok (negPairs_ok hn hat hk)).len (by omega) (by omega) (by omega) (by omega) (by omega) (((K2.both (k.both k')).cell hl).trans hb) (Nat.lt_of_lt_of_le hl (K2.both (k.both k')).size) (ha.keep (K2.both (k.both k'))) (hn l hx).1 (hn l hx).2 hm)
  unfold Sv.sameJ
  obtain ⟨ol, cl, rfl, _⟩ := hv.len
  have HN : Hid (∀ l ∈ lits, ((lits.all fun l => decide ((Sv.atomOf f.atoms l).kind = 2)) = true → (Sv.atomOf f.atoms l).kind = 2)) := Lib.hid (fun l hx h => by simpa using List.all_eq_true.1 h l hx)
  obtain ⟨R, hR⟩ : ∃ R, R = ((lits.all fun l => decide ((Sv.atomOf f.atoms l).kind = 2)) && lits.any (Sv.posEq f.atoms (Cl.classF f.terms (Sv.negPairs f.atoms lits)))) := ⟨_, rfl⟩
  rw [← hR]
  have HR := Lib.hid hR
  clear hR
  generalize (lits.all fun l => decide ((Sv.atomOf f.atoms l).kind = 2)) = r at *
  have y0 := (K2.cell (i := 0) hl).trans hb0
  have yl := Nat.lt_of_lt_of_le hl K2.size
  have HLL := Lib.hid hll
  clear ha ht hv hn hm hb hb0 K2 hat hok hll hl
  go_enter Tryz.func95, Tryz.ntmps95
  go_upto_region 1 with fail
  rw [← hw2]
  clear hw2
  generalize w.heap.size = g1 at *
  have x1 := B1.out.cell 0
  have x1l := B1.out.lt
  simp at x1
  have CA := Lib.hid (CA.out w2 HK2.out)
  go_wp2_with fail
  refine CA.out.mono ?_
  rintro e w3 ⟨rfl, hk⟩
  have K3 := Lib.hid hk
  clear hk CA
  cases r
  case false =>
    go_wp2
    go_ret
    exact ⟨by rw [HR.out, Bool.false_and]; rfl, HK2.out.both K3.out⟩
  case true =>
  have HA : Hid (∀ l ∈ lits, (Sv.atomOf f.atoms l).kind = 2) := Lib.hid (fun l hx => HN.out l hx rfl)
  have CF := Lib.hid (CF.out HA.out)
  have CL := Lib.hid (CL.out HA.out)
  clear HN
  have HR := Lib.hid (HR.out.trans (Bool.true_and _))
  generalize Sv.posEq f.atoms (Cl.classF f.terms (Sv.negPairs f.atoms lits)) = pe at *
  go_wp2
  go_loopw [16, 5] (fun s t wr => ∃ k : Nat, k ≤ lits.length ∧ s = .int .i64 k ∧ Keep NoS w3 wr ∧ OwnP wr w3.heap.size t (Sv.negPairs f.atoms (lits.take k))) (fun s _ _ => (lits.length - intOf s).toNat)
  case atStart => exact ⟨0, by omega, rfl, Keep.refl _ _, OwnG.nil _ _⟩
  case round =>
  obtain ⟨k, hk, rfl, hkr, hown⟩ := hrel
  have KR := Lib.hid hkr
  have HO := Lib.hid hown
  have HKW : Hid (Keep NoS w2 wr) := Lib.hid (K3.out.both hkr)
  have HKZ : Hid (Keep NoS w wr) := Lib.hid (HK2.out.both HKW.out)
  have BR := Lib.hid (B1.out.keep HKW.out)
  clear hkr hown x1 x1l
  have x1 := BR.out.cell 0
  have x1l := BR.out.lt
  simp at x1
  by_cases hkl : k < lits.length
  case pos =>
    have hlt : (k : Int) < (lits.length : Int) := by omega
    obtain ⟨lb, lo, cap, hv, hbl, p0⟩ := (HV.out.keep HKZ.out).at hkl
    injection hv with q1 q2 q3
    clear q2
    subst q1
    subst q3
    have CT := Lib.hid (CT.out wr HKZ.out lits[k] (List.getElem_mem hkl))
    have HNP := Lib.hid (negPairs_take (atoms := f.atoms) hkl)
    have HL1 : Hid ((Sv.negPairs f.atoms (lits.take k)).length ≤ 1000) := Lib.hid (Nat.le_trans negPairs_len (by rw [List.length_take]; have := HLL.out; omega))
    generalize Sv.negPairs f.atoms (lits.take k) = np at *
    generalize Sv.atomOf f.atoms lits[k] = a at *
    generalize lits[k] = x at *
    obtain ⟨ak, aa, ab⟩ := a
    unfold atV at CT
    simp only at CT HNP
    go_wp2_with fail
    refine CT.out.mono ?_
    rintro e w4 ⟨rfl, hk4⟩
    have K4 := Lib.hid hk4
    clear hk4 CT
    by_cases hx : x < 0
    case neg =>
      have hd : decide (x < 0) = false := decide_eq_false hx
      have HE := Lib.hid (HNP.out.trans (by rw [if_neg hx, List.append_nil]))
      clear HNP
      have hl1000 := HLL.out
      go_wp2
      go_roundw
      case rel => exact ⟨k + 1, by omega, by go_num, (KR.out.both K4.out).alloc _, by rw [HE.out]; exact OwnG.keep HO.out (K4.out.alloc _)⟩
      case measure => simp [intOf]; omega
    case pos =>
      have hd : decide (x < 0) = true := decide_eq_true hx
      have HE := Lib.hid (HNP.out.trans (by rw [if_pos hx]))
      clear HNP
      have hl1000 := HLL.out
      have k6 : Keep NoS w4 ((w4.alloc (.cells #[.int .i64 ak, .int .i64 aa, .int .i64 ab, .slice none 0 0, .int .i64 0, .int .i64 0] TAt)).alloc (.cells #[.int .i64 aa, .int .i64 ab] T2)) := ((Keep.refl _ _).alloc _).alloc _
      have hown4 : OwnP w4 w3.heap.size _ np := OwnG.keep HO.out K4.out
      obtain ⟨v7, w7, hr7, ho7, hg7, hb7⟩ := app_pair (x := aa) (y := ab) (b := w4.heap.size + 1) (OwnG.keep hown4 k6) (by (repeat (first | (refine blk_at _ _ ?_; simp; done) | (refine Blk.old ?_ _)))) (by have := HL1.out; omega) (Nat.le_trans (KR.out.both K4.out).size k6.size)
      have hblk := fun kk hh => OwnG.block hown4 kk hh
      have K7 := Lib.hid (((KR.out.both K4.out).both k6).grown hg7 fun kk hh => hblk kk hh)
      have HO7 := Lib.hid ho7
      obtain ⟨o7, c7, hs7, _⟩ := (show OwnG T2 2 prC w7 _ v7 _ from ho7).len
      subst hs7
      obtain ⟨o5, c5, hs5, _⟩ := (show OwnG T2 2 prC w4 _ _ np from hown4).len
      subst hs5
      clear k6 ho7 hg7 hblk hown4
      go_wp2_with (at_builtin; refine wpList_app_run _ _ 32 _ _ rfl rfl rfl rfl hr7 ?_)
      go_roundw
      case rel => exact ⟨k + 1, by omega, by go_num, K7.out, by rw [HE.out]; have h := HO7.out; rw [List.length_append, List.length_singleton] at h; exact h⟩
      case measure => simp [intOf]; omega
  case neg =>
    have hlt : ¬ (k : Int) < (lits.length : Int) := by omega
    have HOA : Hid (OwnP wr w3.heap.size u5 (Sv.negPairs f.atoms lits)) := Lib.hid (by have h := HO.out; rw [List.take_of_length_le (by omega)] at h; exact h)
    have HPP := Lib.hid (OwnP.pairs HOA.out)
    obtain ⟨op, cp, hs5, _⟩ := HPP.out.len
    subst hs5
    have CL := Lib.hid (CL.out wr HKZ.out op cp HPP.out)
    have y0 := (HKW.out.cell (i := 0) yl).trans y0
    have yl := Nat.lt_of_lt_of_le yl HKW.out.size
    clear HO HOA HPP
    generalize (Sv.negPairs f.atoms lits).length = np at *
    go_wp2_with fail
    refine CL.out.mono ?_
    rintro e w4 ⟨g, rfl, hg, -, hk4⟩
    have K5 : Keep NoS w4 (w4.alloc (.cells #[.slice (some ⟨g, 0, none⟩) f.terms.length f.terms.length] 22)) := (Keep.refl _ _).alloc _
    have CF := Lib.hid (CF.out _ ((HKW.out.both hk4).both K5) w4.heap.size g (blk_at _ _ rfl) ((K5.block g (lt_of_heap hg) fun _ h => h).trans hg))
    have B4 := BR.out.keep hk4
    have x1 := B4.cell 0
    have x1l := B4.lt
    simp at x1
    have HKZ4 := Lib.hid ((HKZ.out.both hk4).both K5)
    clear K5 hg hk4 B4 CL
    generalize lits.any pe = r at *
    go_wp2_with fail
    refine CF.out.mono ?_
    rintro e w5 ⟨rfl, hk5⟩
    have K6 := HKZ4.out.both hk5
    go_wp2
    go_ret
    exact ⟨by rw [HR.out]; rfl, K6⟩
end Go.Proofs.YtnndmdfjdodiiaaGreat

namespace Go.Proofs.YtnndmdfjdodiiaaGreat
open Go.ChangeShapes Go.WideShapes Go.RowKit Go.Maps
set_option linter.unusedVariables false
set_option linter.unusedSimpArgs false

/-- A step without numbers, its literals at o. -/
def stV (k : Int) (o : Option Addr) (n c : Nat) : Value := .agg #[.int .i64 k, .slice o n c, .slice none 0 0, .int .i64 0, .int .i64 0, .int .i64 0, .slice none 0 0, .int .i64 0, .int .i64 0]
def stC (k : Int) (o : Option Addr) (n c : Nat) : Array Value := #[.int .i64 k, .slice o n c, .slice none 0 0, .int .i64 0, .int .i64 0, .int .i64 0, .slice none 0 0, .int .i64 0, .int .i64 0]
theorem stC_cells {w : World} {b : Nat} {k : Int} {o : Option Addr} {n c : Nat} (h : Blk w b (stC k o n c)) : w.cell? ⟨b, 0, none⟩ = some (.int .i64 k) ∧ w.cell? ⟨b, 1, none⟩ = some (.slice o n c) ∧ w.cell? ⟨b, 2, none⟩ = some (.slice none 0 0) ∧ w.cell? ⟨b, 3, none⟩ = some (.int .i64 0) ∧ w.cell? ⟨b, 4, none⟩ = some (.int .i64 0) ∧ w.cell? ⟨b, 5, none⟩ = some (.int .i64 0) ∧ w.cell? ⟨b, 6, none⟩ = some (.slice none 0 0) ∧ w.cell? ⟨b, 7, none⟩ = some (.int .i64 0) ∧ w.cell? ⟨b, 8, none⟩ = some (.int .i64 0) ∧ b < w.heap.size :=
  ⟨h.cell 0, h.cell 1, h.cell 2, h.cell 3, h.cell 4, h.cell 5, h.cell 6, h.cell 7, h.cell 8, h.lt⟩
set_option maxRecDepth 100000 in
set_option maxHeartbeats 16000000 in
theorem jformed_any (w : World) (b : Nat) (oa : Option Addr) (na ca : Nat) (k : Int) (o : Option Addr) (c : Nat) (lits : List Int) (hk : k = 1 ∨ k = 3) (hb : w.cell? ⟨b, 2, none⟩ = some (.slice oa na ca)) (hl : b < w.heap.size) (hv : IsInts w (.slice o lits.length c) lits) (hc : lits.length ≤ c) (hok : ValidC na lits) (hm : na ≤ 1000) :
    Calls Tryz.prog 93 #[.pointer (some ⟨b, 0, none⟩), stV k o lits.length c] w fun e w' => e = .returned (.bool true) ∧ Keep NoS w w' := by
  have CZ := fun w' => Lib.hid (zero0_any w')
  have CB := Lib.hid (fun w' (k : Keep NoS w w') => bad_any na w' o c lits (hv.keep k) hc hok hm)
  have e9 : k = 1 ∨ k = 3 := hk
  obtain ⟨w2, hw2⟩ : ∃ w2 : World, w2 = w.alloc (.cells (stC k o lits.length c) TSt) := ⟨_, rfl⟩
  have K2 : Keep NoS w w2 := by rw [hw2]; exact (Keep.refl _ _).alloc _
  have B1 : Blk w2 w.heap.size (stC k o lits.length c) := by rw [hw2]; exact blk_at _ _ rfl
  obtain ⟨x0, x1, x2, x3, x4, x5, x6, x7, x8, xl⟩ := stC_cells B1
  have y2 := (K2.cell (i := 2) hl).trans hb
  have yl := Nat.lt_of_lt_of_le hl K2.size
  have HK2 := Lib.hid K2
  unfold stC at hw2
  generalize lits.length = n at *
  clear K2 B1 hb hv hc hok hm hl hk
  unfold stV
  rcases e9 with rfl | rfl
  all_goals
    go_enter Tryz.func93, Tryz.ntmps93
    go_upto_region 1 with fail
    rw [← hw2]
    clear hw2
    generalize w.heap.size = g at *
    go_wp2_with fail
    refine (CZ _).out.mono ?_
    rintro e w3 ⟨rfl, hk3⟩
    have K3 := Lib.hid (HK2.out.both hk3)
    have x1 := (hk3.cell xl).trans x1
    have x0 := (hk3.cell xl).trans x0
    have y2 := (hk3.cell yl).trans y2
    have xl := Nat.lt_of_lt_of_le xl hk3.size
    have yl := Nat.lt_of_lt_of_le yl hk3.size
    clear hk3 CZ
    go_upto_region 5 with fail
    refine wp_region_by (fun w' => Keep NoS w3 w') [] [([0, 1, 2, 3, 4, 5, 6, 7], 8)] [9, 10, 11, 12, 13] (by kernel_rfl) (by kernel_rfl) (Keep.refl _ _).drew ?_
    intro X W hne hF hcl
    have HCL := Lib.hid hcl
    have z1 := fun x => ((hF x).cell xl).trans x1
    have z2 := fun x => ((hF x).cell yl).trans y2
    have zl := fun x => Nat.lt_of_lt_of_le xl (hF x).size
    have zm := fun x => Nat.lt_of_lt_of_le yl (hF x).size
    clear hF hcl
    simp only [wpPlan, pickOps, List.getElem?_toArray, List.getElem?_cons_zero, List.getElem?_cons_succ, clsOf, Bool.false_eq_true, if_false]
    (repeat (quiet_step (fail))); refine wpQuiet_nil ?_
    refine wpAt rfl rfl fun K hK => ?_
    go_simp
    refine (CB.out _ (Keep.both K3.out (by (repeat' (with_reducible first | assumption | exact HK.out | exact keR | refine keA ?_ | refine keS ?_ fun h => absurd h (by omega) | refine keN ?_ | refine keD ?_))))).mono ?_
    rintro e w4 ⟨rfl, hk⟩
    have k4 : Keep NoS w3 w4 := Keep.both (Keep.refl _ _).drew hk
    refine hK _ _ ⟨fun _ => HCL.out _ k4, ?_⟩
    clear hK K hk
    (repeat (quiet_step (fail))); refine wpQuiet_nil ?_
    refine NoPanic.normal ?_
    go_wp2
    go_ret
    exact ⟨rfl, K3.out.both k4⟩
end Go.Proofs.YtnndmdfjdodiiaaGreat

namespace Go.Proofs.YtnndmdfjdodiiaaGreat
open Go.ChangeShapes Go.WideShapes Go.RowKit Go.Maps
set_option linter.unusedVariables false
set_option linter.unusedSimpArgs false

abbrev TLi : TypeId := 22
theorem infoLi : (Tryz.prog.info? TLi).map (fun i => (i.zero, i.size, i.bytes)) = some (some (.slice none 0 0), 1, 24) := by kernel_rfl
def vC (v : Value) : List Value := [v]
theorem vC_len (v : Value) : (vC v).length = 1 := rfl
/-- Clauses in a list of one's own, the clauses themselves of w0. -/
def OwnCls (w0 w : World) (v : Value) (cls : List (List Int)) : Prop :=
  ∃ vs : List Value, vs.length = cls.length ∧ OwnG TLi 1 vC w w0.heap.size v vs ∧ ∀ (i : Nat) (x : Value) (c : List Int), vs[i]? = some x → cls[i]? = some c → IsInts w0 x c ∧ CapS x
theorem OwnCls.keep {w0 w w' : World} {v : Value} {cls : List (List Int)} (h : OwnCls w0 w v cls) (k : Keep NoS w w') : OwnCls w0 w' v cls := by
  obtain ⟨vs, h1, h2, h3⟩ := h
  exact ⟨vs, h1, OwnG.keep h2 k, h3⟩
theorem OwnCls.len {w0 w : World} {v : Value} {cls : List (List Int)} (h : OwnCls w0 w v cls) : ∃ oa cap, v = .slice oa cls.length cap ∧ cls.length ≤ cap ∧ cap ≤ maxLen := by
  obtain ⟨vs, h1, h2, h3⟩ := h
  obtain ⟨oa, cap, e, a, b⟩ := OwnG.len h2
  rw [h1] at e a
  exact ⟨oa, cap, e, a, b⟩
theorem OwnCls.cls {w0 w : World} {v : Value} {cls : List (List Int)} (h : OwnCls w0 w v cls) (k : Keep NoS w0 w) : IsCls w v cls := by
  obtain ⟨oa, cap, e, a, b⟩ := h.len
  obtain ⟨vs, h1, h2, h3⟩ := h
  refine ⟨oa, cap, e, a, b, fun hne => ?_⟩
  obtain ⟨g, cap', e', hb, hl, hc⟩ := OwnG.cells vC_len h2 (by intro h; subst h; cases cls <;> simp_all)
  rw [e] at e'
  injection e' with q1 q2 q3
  refine ⟨g, 0, q1, hl, fun i c hi => ?_⟩
  have hi' : i < vs.length := by rw [h1]; exact (List.getElem?_eq_some_iff.1 hi).1
  have hx := List.getElem?_eq_getElem hi'
  obtain ⟨p, q⟩ := h3 i _ c hx hi
  refine ⟨vs[i], ?_, p.keep k, q⟩
  have := hc i _ hx 0 _ rfl
  simpa using this
theorem OwnCls.block {w0 w : World} {v : Value} {cls : List (List Int)} (h : OwnCls w0 w v cls) : ∀ k, v.ownBlock = some k → w0.heap.size ≤ k ∧ k < w.heap.size := by
  obtain ⟨vs, h1, h2, h3⟩ := h
  exact fun k hk => ⟨OwnG.block h2 k hk, OwnG.lt h2 k hk⟩
theorem OwnCls.app {w0 w : World} {v : Value} {cls : List (List Int)} (h : OwnCls w0 w v cls) {b : Nat} {x : Value} {c : List Int} (hbk : Blk w b #[x]) (hx : IsInts w0 x c) (hcx : CapS x) (hl : cls.length ≤ 100000) (hs : w0.heap.size ≤ w.heap.size) :
    ∃ v' w', (Builtin.append_ #[26, 26] 26 #[v, .slice (some ⟨b, 0, none⟩) 1 1]).run Tryz.prog w = .ok v' w' ∧ OwnCls w0 w' v' (cls ++ [c]) ∧ w.grownBy w' v.ownBlock ∧ (v'.ownBlock = v.ownBlock ∨ v'.ownBlock = some w.heap.size) := by
  obtain ⟨i, hi, hz, hs', hb⟩ := info_parts infoLi
  obtain ⟨vs, h1, h2, h3⟩ := h
  have h1c : ∀ u ∈ vC x, u.oneCell' = true := by
    intro u hu
    obtain ⟨o, n, cc, rfl, _⟩ := hcx
    simp [vC] at hu
    subst hu
    rfl
  obtain ⟨v', w', hr, ho, hg, hv⟩ := OwnG.app (T := TLi) (K := 1) (c := vC) vC_len Tryz.underlying26 hi hz hs' hb rfl (by omega) h2 (x := x) hbk h1c (by unfold maxLen; omega) (by omega) hs
  refine ⟨v', w', hr, ⟨vs ++ [x], by simp [h1], ho, fun j y d hy hd => ?_⟩, hg, hv⟩
  by_cases hj : j < vs.length
  · rw [List.getElem?_append_left hj] at hy
    rw [List.getElem?_append_left (by omega)] at hd
    exact h3 j y d hy hd
  · have hj2 : j = vs.length := by
      have := (List.getElem?_eq_some_iff.1 hy).1
      simp at this
      omega
    subst hj2
    rw [List.getElem?_append_right (Nat.le_refl _)] at hy
    rw [h1, List.getElem?_append_right (Nat.le_refl _)] at hd
    simp at hy hd
    subst hy
    subst hd
    exact ⟨hx, hcx⟩
/-- The checker, as it lies. -/
structure JS (w0 w : World) (b : Nat) (L : FmL) (f : Sv.Frm) (cls : List (List Int)) : Prop where
  k : Keep NoS w0 w
  s : w0.heap.size ≤ b
  m : ∃ ov cv, Blk w b #[.slice L.ot f.terms.length L.ct, .slice none 0 0, .slice L.oa f.atoms.length L.ca, .slice L.oc f.cls.length L.cc, .slice ov cls.length cv] ∧ OwnCls w0 w (.slice ov cls.length cv) cls ∧ ∀ k, (Value.slice ov cls.length cv).ownBlock = some k → k ≠ b
end Go.Proofs.YtnndmdfjdodiiaaGreat
