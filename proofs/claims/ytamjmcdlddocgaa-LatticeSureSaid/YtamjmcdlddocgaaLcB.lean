/- Package lattice's less, scaled and ints. -/
import Derived.Test.YtamjmcdlddocgaaLcA
import Derived.Test.YtamjmcdlddocgaaFkB
namespace Go.Proofs.Ytamjmcdlddocgaa
open Go.ChangeShapes Go.WideShapes Go.RowKit
set_option linter.unusedVariables false
set_option linter.unusedSimpArgs false

/-- Only a block may change. -/
def OnlyG (g : Nat) : Nat → Nat → Prop := fun b _ => b = g
/-- Four cells of a block. -/
def q4 (w : World) (g o : Nat) (x : NV) : World := (((w.setCell ⟨g, o, none⟩ (.bool x.nb)).setCell ⟨g, o + 1, none⟩ (.string x.nS)).setCell ⟨g, o + 2, none⟩ (.bool x.db)).setCell ⟨g, o + 3, none⟩ (.string x.dS)
theorem q4_only {w0 w : World} {g o : Nat} {x : NV} (h : Keep (OnlyG g) w0 w) : Keep (OnlyG g) w0 (q4 w g o x) := by
  unfold q4
  exact (((h.setCell _ fun _ => rfl).setCell _ fun _ => rfl).setCell _ fun _ => rfl).setCell _ fun _ => rfl
theorem q4_other {w : World} {g o : Nat} {x : NV} {b : Nat} (h : b ≠ g) : (q4 w g o x).heap[b]? = w.heap[b]? := by
  unfold q4
  rw [heap_setCell_other _ _ _ _ h, heap_setCell_other _ _ _ _ h, heap_setCell_other _ _ _ _ h, heap_setCell_other _ _ _ _ h]
theorem q4_keep {w0 w : World} {g o : Nat} {x : NV} (h : Keep NoS w0 w) (hg : w0.heap.size ≤ g) : Keep NoS w0 (q4 w g o x) := by
  unfold q4
  exact (((h.setCell _ fun hh => absurd hh (by omega)).setCell _ fun hh => absurd hh (by omega)).setCell _ fun hh => absurd hh (by omega)).setCell _ fun hh => absurd hh (by omega)
theorem NumBlk.setQ {w : World} {g : Nat} {qs : List Rat} (h : NumBlk w g qs) {k : Nat} {x : NV} {q : Rat} (hq : IsNum x.v q) : NumBlk (q4 w g (k * 4) x) g (qs.set k q) := h.set hq
theorem NumBlk.sameZ {w w' : World} {g : Nat} {qs : List Rat} (h : NumBlk w g qs) (e : w'.heap[g]? = w.heap[g]?) : NumBlk w' g qs := by
  obtain ⟨A, l, h, h'⟩ := h
  exact ⟨A, l, h.sameZ e, h'⟩
theorem Keep.sameG {g : Nat} {w w' : World} (h : Keep (OnlyG g) w w') {b : Nat} (hb : b < w.heap.size) (hne : b ≠ g) : w'.heap[b]? = w.heap[b]? := h.block b hb fun o ho => hne ho
theorem Keep.onlyG {g : Nat} {a b c : World} (h : Keep (OnlyG g) a b) (k : Keep NoS b c) : Keep (OnlyG g) a c := h.trans k fun _ _ _ h => h.elim
theorem ratZ {l : List Rat} {i : Nat} (h : i < l.length) : l.getD i 0 = l[i] := by rw [List.getD_eq_getElem?_getD, List.getElem?_eq_getElem h]; rfl
/-- A line less so many times another; the first j of it. -/
theorem OwnN.lower {w : World} {base base' : Nat} {v : Value} {qs : List Rat} (h : OwnN w base v qs) (hb : base' ≤ base) : OwnN w base' v qs := by
  obtain ⟨l, hA, hl, h⟩ := h
  refine ⟨l, hA, hl, ?_⟩
  rcases h with h | ⟨g, cap, cur, hv, hb', hr⟩
  · exact .inl h
  · exact .inr ⟨g, cap, cur, hv, Nat.le_trans hb hb', hr⟩
def lessL (q row : List Rat) (c : Rat) (j : Nat) : List Rat := (List.range q.length).map fun k => if k < j then q.getD k 0 - row.getD k 0 * c else q.getD k 0
def lessQ (q row : List Rat) (c : Rat) : List Rat := (List.range q.length).map fun k => q.getD k 0 - row.getD k 0 * c
theorem lessL_len {q row : List Rat} {c : Rat} {j : Nat} : (lessL q row c j).length = q.length := by simp [lessL]
theorem lessQ_len {q row : List Rat} {c : Rat} : (lessQ q row c).length = q.length := by simp [lessQ]
theorem lessL_zero {q row : List Rat} {c : Rat} : lessL q row c 0 = q := by
  apply List.ext_getElem
  · simp [lessL]
  · intro i h1 h2
    simp only [lessL, List.getElem_map, List.getElem_range, Nat.not_lt_zero, if_false, ratZ h2]
theorem lessL_all {q row : List Rat} {c : Rat} : lessL q row c q.length = lessQ q row c := by
  unfold lessL lessQ
  apply List.map_congr_left
  intro k hk
  rw [if_pos (List.mem_range.1 hk)]
theorem lessL_at {q row : List Rat} {c : Rat} {j : Nat} (hk : j < q.length) : (lessL q row c j)[j]'(by rw [lessL_len]; exact hk) = q[j] := by
  simp only [lessL, List.getElem_map, List.getElem_range, Nat.lt_irrefl, if_false, ratZ hk]
theorem lessL_step {q row : List Rat} {c : Rat} {j : Nat} (hj : j < q.length) (hr : j < row.length) : (lessL q row c j).set j (q[j] - row[j] * c) = lessL q row c (j + 1) := by
  apply List.ext_getElem
  · simp [lessL]
  · intro i h1 h2
    have hi : i < q.length := by simpa [lessL] using h2
    rw [List.getElem_set]
    simp only [lessL, List.getElem_map, List.getElem_range]
    by_cases e : j = i
    · subst e
      rw [if_pos rfl, if_pos (Nat.lt_succ_self j), ratZ hj, ratZ hr]
    · rw [if_neg e]
      by_cases h1 : i < j
      · rw [if_pos h1, if_pos (by omega)]
      · rw [if_neg h1, if_neg (by omega)]

set_option maxRecDepth 100000 in
set_option maxHeartbeats 32000000 in
theorem ltLess_any (w : World) (gl cl gr cr : Nat) (q row : List Rat) (vc : Value) (c : Rat) (hq : NumBlk w gl q) (hr : NumBlk w gr row) (hc : IsNum vc c) (hlen : row.length = q.length) (hK : q.length ≤ 1000)
    (hcl : q.length ≤ cl ∧ cl ≤ maxLen) (hcr : row.length ≤ cr ∧ cr ≤ maxLen) (n1 : gr ≠ gl) (nq : ∀ x ∈ q, NB 300 x) (nr : ∀ x ∈ row, NB 300 x) (nc : NB 600 c) :
    Calls Try.prog 86 #[.slice (some ⟨gl, 0, none⟩) q.length cl, .slice (some ⟨gr, 0, none⟩) row.length cr, vc] w fun e w' => e = .returned (.tuple #[]) ∧ NumBlk w' gl (lessQ q row c) ∧ Keep (OnlyG gl) w w' := by
  obtain ⟨⟨cb, cS, cc, cU⟩, rfl⟩ := isNum_nv hc
  have HLEN := Lib.hid hlen
  have HC := Lib.hid hc
  have HNQ := Lib.hid nq
  have HNR := Lib.hid nr
  have HNC := Lib.hid nc
  unfold maxLen at hcl hcr
  unfold NV.v
  simp only
  have ka : Keep NoS w (w.alloc (.cells #[.bool cb, .string cS, .bool cc, .string cU] 77)) := (Keep.refl _ _).alloc _
  have HB0 : Hid (Blk (w.alloc (.cells #[.bool cb, .string cS, .bool cc, .string cU] 77)) w.heap.size #[.bool cb, .string cS, .bool cc, .string cU]) := Lib.hid (blk_at _ _ rfl)
  have HQ0 := Lib.hid (hq.keep ka)
  have HR0 := Lib.hid (hr.keep ka)
  have HK0 : Hid (Keep (OnlyG gl) w (w.alloc (.cells #[.bool cb, .string cS, .bool cc, .string cU] 77))) := Lib.hid (Keep.onlyG (Keep.refl _ _) ka)
  have hglw : gl ≠ w.heap.size := by have := hq.lt; omega
  clear hc hq hr nq nr nc hlen
  go_enter Try.func86, Try.ntmps86
  go_upto_region 1 with fail
  clear ka
  generalize w.alloc (.cells #[.bool cb, .string cS, .bool cc, .string cU] 77) = w1 at *
  generalize hb5 : w.heap.size = b5 at *
  clear hb5
  go_wp2
  go_loopw [9] (fun s wr => ∃ j : Nat, j ≤ q.length ∧ s = .int .i64 j ∧ NumBlk wr gl (lessL q row c j) ∧ NumBlk wr gr row ∧ Blk wr b5 #[.bool cb, .string cS, .bool cc, .string cU] ∧ Keep (OnlyG gl) w wr) (fun s _ => (q.length - intOf s).toNat)
  case atStart => exact ⟨0, by omega, rfl, by rw [lessL_zero]; exact HQ0.out, HR0.out, HB0.out, HK0.out⟩
  case round =>
    obtain ⟨j, hj, rfl, hq', hr', hb', hk'⟩ := hrel
    have HQ := Lib.hid hq'
    have HR := Lib.hid hr'
    have HB := Lib.hid hb'
    have HK := Lib.hid hk'
    clear hq' hr' hb' hk' HQ0 HR0 HB0 HK0
    by_cases hjl : j < q.length
    case neg =>
      have hlt : ¬ (j : Int) < (q.length : Int) := by omega
      obtain rfl : j = q.length := by omega
      have HSA := Lib.hid (lessL_all (q := q) (row := row) (c := c))
      go_simp
      repeat go_step
      refine bodyPost_end (by simp [results, Try.results86, go_sem]; rfl) rfl ?_
      exact ⟨rfl, by rw [← HSA.out]; exact HQ.out, HK.out⟩
    case pos =>
      have hlt : (j : Int) < (q.length : Int) := by omega
      have hjr : j < row.length := by have := HLEN.out; omega
      have hltr : (j : Int) < (row.length : Int) := by have := HLEN.out; omega
      have hjq : j < (lessL q row c j).length := by rw [lessL_len]; exact hjl
      obtain ⟨xb, xS, xc, xU, p0, p1, p2, p3, hx, _⟩ := HR.out.at (k := j) hjr
      obtain ⟨yb, yS, yc, yU, m0, m1, m2, m3, hy, _⟩ := HQ.out.at (k := j) hjq
      rw [lessL_at hjl] at hy
      have hgr := HR.out.lt
      have hgl := HQ.out.lt
      have nX : NB 300 row[j] := HNR.out _ (List.getElem_mem hjr)
      have nY : NB 300 q[j] := HNQ.out _ (List.getElem_mem hjl)
      have CT := fun w => Lib.hid (exTimes_any w _ _ hx (nX.mono (by omega)) _ c HC.out (HNC.out.mono (by omega)))
      obtain ⟨⟨tb, tS, tc, tU⟩, htq, htn⟩ := numQ_nv (row[j] * c)
      rw [htq] at CT
      have CP := fun w => Lib.hid (exMinus_any w _ _ hy (nY.mono (by omega)) _ _ htn ((nX.mul HNC.out).mono (by omega)))
      obtain ⟨⟨rb, rS, rc, rU⟩, hrq, hrn⟩ := numQ_nv (q[j] - row[j] * c)
      rw [hrq] at CP
      have HRN := Lib.hid hrn
      unfold NV.v at CT CP
      simp only at CT CP
      have HJQ := Lib.hid hjq
      have HSTEP := Lib.hid (lessL_step (c := c) hjl hjr)
      clear hx hy nX nY htq htn hrq hrn
      go_upto_region 4 with fail
      refine wp_region_by (fun w' => Keep NoS wr w') [14] [([0, 1, 2, 3, 4, 5, 6, 7, 8, 9, 10], 11), ([], 12), ([13], 14)] [] (by kernel_rfl) (by kernel_rfl) (by (repeat' (with_reducible first | assumption | exact HK.out | exact keR | refine keA ?_ | refine keS ?_ fun h => absurd h (by omega) | refine keN ?_ | refine keD ?_))) ?_
      intro X W hne' hF hcls
      have HCL := Lib.hid hcls
      have y0 := fun x => ((hF x).cell hgl).trans m0
      have y1 := fun x => ((hF x).cell hgl).trans m1
      have y2 := fun x => ((hF x).cell hgl).trans m2
      have y3 := fun x => ((hF x).cell hgl).trans m3
      have x0 := fun x => ((hF x).cell hgr).trans p0
      have x1 := fun x => ((hF x).cell hgr).trans p1
      have x2 := fun x => ((hF x).cell hgr).trans p2
      have x3 := fun x => ((hF x).cell hgr).trans p3
      have z0 := fun x => (HB.out.keep (hF x)).four
      clear hF hcls p0 p1 p2 p3 m0 m1 m2 m3
      simp only [wpPlan, pickOps, List.getElem?_toArray, List.getElem?_cons_zero, List.getElem?_cons_succ, clsOf, Bool.false_eq_true, if_false]
      (repeat (go_big_quiet_step (fail))); refine wpQuiet_nil ?_
      refine wpAt rfl rfl fun K hK => ?_
      go_simp
      refine (CT _).out.mono ?_
      rintro e w5 ⟨rfl, hk⟩
      have k5 : Keep NoS wr w5 := Keep.trans (by (repeat' (with_reducible first | assumption | exact HK.out | exact keR | refine keA ?_ | refine keS ?_ fun h => absurd h (by omega) | refine keN ?_ | refine keD ?_))) hk fun _ _ _ h => h
      refine hK _ _ ⟨fun _ => HCL.out _ k5, ?_⟩
      clear hK K hk CT
      (repeat (go_big_quiet_step (fail))); refine wpQuiet_nil ?_
      refine wpAt rfl rfl fun K hK => ?_
      go_simp
      refine (CP _).out.mono ?_
      rintro e w6 ⟨rfl, hk⟩
      have k6 : Keep NoS wr w6 := k5.both hk
      refine hK _ _ ⟨fun _ => HCL.out _ k6, ?_⟩
      clear hK K hk CP k5
      have HQ6 := Lib.hid (HQ.out.keep k6)
      have HR6 := Lib.hid (HR.out.keep k6)
      have HB6 := Lib.hid (HB.out.keep k6)
      have K6 := Lib.hid (HK.out.onlyG k6)
      obtain ⟨_, _, _, _, g0, g1, g2, g3, _, f0, f1, f2, f3⟩ := HQ6.out.at (k := j) HJQ.out
      have hg6 := HQ6.out.lt
      (repeat (go_big_quiet_step (fail))); refine wpQuiet_nil ?_
      refine wpAt rfl rfl fun K hK => ?_
      go_simp
      refine hK _ _ ⟨fun h => (by simp at h), ?_⟩
      clear hK K y0 y1 y2 y3 z0 x0 x1 x2 x3
      have HQ7 : Hid (NumBlk (q4 w6 gl (j * 4) ⟨rb, rS, rc, rU⟩) gl (lessL q row c (j + 1))) := Lib.hid (by rw [← HSTEP.out]; exact HQ6.out.setQ HRN.out)
      have K7 : Hid (Keep (OnlyG gl) w (q4 w6 gl (j * 4) ⟨rb, rS, rc, rU⟩)) := Lib.hid (q4_only K6.out)
      have HR7 := Lib.hid (HR6.out.sameZ (q4_other (w := w6) (o := j * 4) (x := ⟨rb, rS, rc, rU⟩) n1))
      have HB7 := Lib.hid (HB6.out.sameZ (q4_other (w := w6) (o := j * 4) (x := ⟨rb, rS, rc, rU⟩) (Ne.symm hglw)))
      rw [show ((((w6.setCell ⟨gl, j * 4, none⟩ (.bool rb)).setCell ⟨gl, j * 4 + 1, none⟩ (.string rS)).setCell ⟨gl, j * 4 + 2, none⟩ (.bool rc)).setCell ⟨gl, j * 4 + 3, none⟩ (.string rU)) = q4 w6 gl (j * 4) ⟨rb, rS, rc, rU⟩ from rfl]
      generalize q4 w6 gl (j * 4) ⟨rb, rS, rc, rU⟩ = w7 at *
      clear g0 g1 g2 g3 f0 f1 f2 f3 hg6 HQ6 HR6 HB6 K6
      (repeat (go_big_quiet_step (fail))); refine wpQuiet_nil ?_
      refine NoPanic.normal ?_
      go_wp2
      go_roundw
      case rel => exact ⟨j + 1, by omega, by go_num, HQ7.out, HR7.out, HB7.out, K7.out⟩
      case measure => simp [intOf]; omega

set_option maxRecDepth 100000 in
set_option maxHeartbeats 32000000 in
theorem scaled_any (w : World) (v vc : Value) (l : List Rat) (c : Rat) (h : IsNums w v l) (hc : IsNum vc c) (nl : ∀ x ∈ l, NB 900 x) (nc : NB 900 c) (hl : l.length ≤ 1000) :
    Calls Try.prog 88 #[v, vc] w fun e w' => ∃ u, e = .returned u ∧ OwnN w' w.heap.size u (l.map (· * c)) ∧ Keep NoS w w' := by
  obtain ⟨⟨cb, cS, cc, cU⟩, rfl⟩ := isNum_nv hc
  have HN := Lib.hid h
  have HC := Lib.hid hc
  have HNL := Lib.hid nl
  have HNC := Lib.hid nc
  obtain ⟨oa, ca, rfl, hca, hma⟩ := h.len
  unfold NV.v
  simp only
  have ka : Keep NoS w (w.alloc (.cells #[.bool cb, .string cS, .bool cc, .string cU] 77)) := (Keep.refl _ _).alloc _
  have HB0 : Hid (Blk (w.alloc (.cells #[.bool cb, .string cS, .bool cc, .string cU] 77)) w.heap.size #[.bool cb, .string cS, .bool cc, .string cU]) := Lib.hid (blk_at _ _ rfl)
  have KA := Lib.hid ka
  have HS1 : Hid ((w.alloc (.cells #[.bool cb, .string cS, .bool cc, .string cU] 77)).heap.size = w.heap.size + 1) := Lib.hid (by simp)
  clear h hca hma hc nl nc
  go_enter Try.func88, Try.ntmps88
  go_upto_region 1 with fail
  clear ka
  generalize w.alloc (.cells #[.bool cb, .string cS, .bool cc, .string cU] 77) = w1 at *
  have HSB : Hid (w.heap.size = w.heap.size) := Lib.hid rfl
  generalize hb3 : w.heap.size = b3 at HB0 HSB ⊢
  go_wp2
  go_loopw [10, 5] (fun s u wr => ∃ k : Nat, k ≤ l.length ∧ s = .int .i64 k ∧ OwnN wr w1.heap.size u ((l.take k).map (· * c)) ∧ Keep NoS w1 wr) (fun s _ _ => (l.length - intOf s).toNat)
  case atStart => exact ⟨0, by omega, rfl, OwnN.nil _ _, Keep.refl _ _⟩
  case round =>
    obtain ⟨k, hk, rfl, hou, hkr⟩ := hrel
    have HOU := Lib.hid hou
    have HKR := Lib.hid hkr
    clear hkr
    have hlj : ((l.take k).map (· * c)).length = k := by rw [List.length_map, List.length_take]; omega
    obtain ⟨ob, cb', hu⟩ := hou.len
    rw [hlj] at hu
    subst hu
    clear hou
    by_cases hkl : k < l.length
    · have hlt : (k : Int) < (l.length : Int) := by omega
      obtain ⟨b, o, rfl, hbl, xb, xS, yb, yS, p0, p1, p2, p3, hx⟩ := ((HN.out.keep KA.out).keep HKR.out).at hkl
      have CC := fun w => Lib.hid (exTimes_any w _ _ hx ((HNL.out _ (List.getElem_mem hkl)).mono (by omega)) _ c HC.out (HNC.out.mono (by omega)))
      have HS : Hid ((l.take k).map (· * c) ++ [l[k] * c] = (l.take (k + 1)).map (· * c)) := Lib.hid (by rw [List.take_succ_eq_append_getElem hkl, List.map_append]; rfl)
      obtain ⟨⟨zb, zS, zc, zU⟩, hz, hzn⟩ := numQ_nv (l[k] * c)
      rw [hz] at CC
      unfold NV.v at CC
      simp only at CC
      have HZN := Lib.hid hzn
      generalize l[k] * c = q at *
      have kb : Keep NoS wr (wr.alloc (.cells #[.bool xb, .string xS, .bool yb, .string yS] 77)) := (Keep.refl _ _).alloc _
      have HB7 : Hid (Blk (wr.alloc (.cells #[.bool xb, .string xS, .bool yb, .string yS] 77)) wr.heap.size #[.bool xb, .string xS, .bool yb, .string yS]) := Lib.hid (blk_at _ _ rfl)
      clear hx hz hzn
      go_upto_region 5 with fail
      have HKX := Lib.hid (HKR.out.both kb)
      have HOX := Lib.hid (HOU.out.keep kb)
      clear kb p0 p1 p2 p3 hbl HOU HKR
      generalize wr.alloc (.cells #[.bool xb, .string xS, .bool yb, .string yS] 77) = wx at *
      generalize wr.heap.size = b7 at *
      obtain ⟨s0, s1, s2, s3, _, _, _, _, sl⟩ := HB7.out.four
      obtain ⟨t0, t1, t2, t3, _, _, _, _, tl⟩ := (HB0.out.keep HKX.out).four
      go_wp2_with fail
      refine (CC _).out.mono ?_
      rintro e w4 ⟨rfl, hk4⟩
      have k4 : Keep NoS wx w4 := Keep.trans (by (repeat' (with_reducible first | assumption | exact HK.out | exact keR | refine keA ?_ | refine keS ?_ fun h => absurd h (by omega) | refine keN ?_ | refine keD ?_))) hk4 fun _ _ _ h => h
      have k5 : Keep NoS wx (w4.alloc (.cells #[.bool zb, .string zS, .bool zc, .string zU] 77)) := k4.alloc _
      have hs5 : w1.heap.size ≤ (w4.alloc (.cells #[.bool zb, .string zS, .bool zc, .string zU] 77)).heap.size := Nat.le_trans HKX.out.size k5.size
      have hb5 : Blk (w4.alloc (.cells #[.bool zb, .string zS, .bool zc, .string zU] 77)) w4.heap.size #[.bool zb, .string zS, .bool zc, .string zU] := blk_at _ _ rfl
      obtain ⟨v', w', hr, ho', hg⟩ := app_num (HOX.out.keep k5) (x := ⟨zb, zS, zc, zU⟩) hb5 HZN.out (by rw [hlj]; omega) hs5
      have K' := Lib.hid ((HKX.out.both k5).grown hg fun k hk => HOX.out.block k hk)
      rw [HS.out] at ho'
      have HO' := Lib.hid ho'
      clear hg hk4 k4 k5 hs5 hb5 s0 s1 s2 s3 sl t0 t1 t2 t3 tl ho'
      go_wp2_with (at_builtin; refine wpList_app_run _ _ 66 _ _ rfl rfl rfl rfl hr ?_)
      go_roundw
      case rel => exact ⟨k + 1, by omega, by go_num, HO'.out, K'.out⟩
      case measure => simp [intOf]; omega
    · have hlt : ¬ (k : Int) < (l.length : Int) := by omega
      obtain rfl : k = l.length := by omega
      have HO : Hid (OwnN wr w1.heap.size (.slice ob l.length cb') (l.map (· * c))) := Lib.hid (by have := HOU.out; rwa [List.take_length] at this)
      go_wp2
      go_ret
      exact ⟨_, rfl, OwnN.lower HO.out (by rw [HS1.out]; omega), KA.out.both HKR.out⟩


/-- A whole number within the limits. -/
def okI (a : Rat) : Bool := decide (is64 a.num ∧ a.den = 1 ∧ -1000000 ≤ a.num ∧ a.num ≤ 1000000)
set_option maxRecDepth 100000 in
set_option maxHeartbeats 32000000 in
theorem ltInts_any (w : World) (v : Value) (l : List Rat) (h : IsNums w v l) (nl : ∀ x ∈ l, NB 500 x) (hl : l.length ≤ 1000) :
    Calls Try.prog 48 #[v] w fun e w' => ∃ u, e = .returned (.tuple #[u, .bool (l.all okI)]) ∧ (l.all okI = true → OwnI w' w.heap.size u (l.map Rat.num)) ∧ Keep NoS w w' := by
  have HN := Lib.hid h
  have HNL := Lib.hid nl
  obtain ⟨oa, ca, rfl, hca, hma⟩ := h.len
  clear h hca hma nl
  go_enter Try.func48, Try.ntmps48
  go_wp2
  go_loopw [11, 4] (fun s u wr => ∃ k : Nat, k ≤ l.length ∧ s = .int .i64 k ∧ (∀ i (h : i < l.length), i < k → okI l[i] = true) ∧ OwnI wr w.heap.size u ((l.take k).map Rat.num) ∧ Keep NoS w wr) (fun s _ _ => (l.length - intOf s).toNat)
  case atStart => exact ⟨0, by omega, rfl, fun i h h' => absurd h' (by omega), OwnI.nil _ _, Keep.refl _ _⟩
  case round =>
    obtain ⟨k, hk, rfl, hgood, hou, hkr⟩ := hrel
    have HG := Lib.hid hgood
    have HOU := Lib.hid hou
    have HKR := Lib.hid hkr
    clear hkr hgood
    have hlj : ((l.take k).map Rat.num).length = k := by rw [List.length_map, List.length_take]; omega
    obtain ⟨ob, cb', hu⟩ := hou.len
    rw [hlj] at hu
    subst hu
    clear hou
    by_cases hkl : k < l.length
    · have hlt : (k : Int) < (l.length : Int) := by omega
      obtain ⟨b, o, rfl, hbl, xb, xS, yb, yS, p0, p1, p2, p3, hx⟩ := (HN.out.keep HKR.out).at hkl
      have CS := fun w => Lib.hid (exSmall_any w _ _ hx ((HNL.out _ (List.getElem_mem hkl)).mono (by omega)))
      have HALL : Hid (okI l[k] = false → l.all okI = false) := Lib.hid fun h => by
        rw [List.all_eq_false]
        exact ⟨_, List.getElem_mem hkl, by rw [h]; simp⟩
      have kb : Keep NoS wr (wr.alloc (.cells #[.bool xb, .string xS, .bool yb, .string yS] 77)) := (Keep.refl _ _).alloc _
      have HB7 : Hid (Blk (wr.alloc (.cells #[.bool xb, .string xS, .bool yb, .string yS] 77)) wr.heap.size #[.bool xb, .string xS, .bool yb, .string yS]) := Lib.hid (blk_at _ _ rfl)
      have HS : Hid ((l.take k).map Rat.num ++ [(l[k]).num] = (l.take (k + 1)).map Rat.num) := Lib.hid (by rw [List.take_succ_eq_append_getElem hkl, List.map_append]; rfl)
      clear hx
      by_cases hok : is64 (l[k]).num ∧ (l[k]).den = 1
      · have e1 : smallV l[k] = .tuple #[.int .i64 (l[k]).num, .bool true] := by unfold smallV; rw [if_pos hok.1, decide_eq_true hok.1, decide_eq_true hok.2]; rfl
        rw [e1] at CS
        have HOK := Lib.hid hok
        by_cases h1 : (l[k]).num < -1000000
        · have HBAD : Hid (okI l[k] = false) := Lib.hid (decide_eq_false fun h => by omega)
          clear hok e1
          generalize (l[k]).num = m at *
          go_upto_region 5 with fail
          have HKX := Lib.hid (HKR.out.both kb)
          have HOX := Lib.hid (HOU.out.keep kb)
          clear kb p0 p1 p2 p3 hbl HOU HKR
          generalize wr.alloc (.cells #[.bool xb, .string xS, .bool yb, .string yS] 77) = wx at *
          generalize wr.heap.size = b7 at *
          obtain ⟨s0, s1, s2, s3, _, _, _, _, sl⟩ := HB7.out.four
          go_wp2_with fail
          refine (CS _).out.mono ?_
          rintro e w4 ⟨rfl, hk4⟩
          have K2 := Lib.hid (HKX.out.both hk4)
          have HO2 := Lib.hid (HOX.out.keep hk4)
          clear hk4 s0 s1 s2 s3 sl CS HB7 HOX HKX
          go_simp
          repeat go_step
          refine bodyPost_ret (by simp [results, Try.results48, go_sem]; rfl) rfl ?_
          exact ⟨_, by rw [HALL.out HBAD.out], fun h => (by rw [HALL.out HBAD.out] at h; cases h), K2.out⟩
        · by_cases h2 : 1000000 < (l[k]).num
          · have HBAD : Hid (okI l[k] = false) := Lib.hid (decide_eq_false fun h => by omega)
            clear hok e1
            generalize (l[k]).num = m at *
            go_upto_region 5 with fail
            have HKX := Lib.hid (HKR.out.both kb)
            have HOX := Lib.hid (HOU.out.keep kb)
            clear kb p0 p1 p2 p3 hbl HOU HKR
            generalize wr.alloc (.cells #[.bool xb, .string xS, .bool yb, .string yS] 77) = wx at *
            generalize wr.heap.size = b7 at *
            obtain ⟨s0, s1, s2, s3, _, _, _, _, sl⟩ := HB7.out.four
            go_wp2_with fail
            refine (CS _).out.mono ?_
            rintro e w4 ⟨rfl, hk4⟩
            have K2 := Lib.hid (HKX.out.both hk4)
            have HO2 := Lib.hid (HOX.out.keep hk4)
            clear hk4 s0 s1 s2 s3 sl CS HB7 HOX HKX
            go_simp
            repeat go_step
            refine bodyPost_ret (by simp [results, Try.results48, go_sem]; rfl) rfl ?_
            exact ⟨_, by rw [HALL.out HBAD.out], fun h => (by rw [HALL.out HBAD.out] at h; cases h), K2.out⟩
          · have HGK : Hid (okI l[k] = true) := Lib.hid (decide_eq_true ⟨hok.1, hok.2, by omega, by omega⟩)
            clear hok e1
            generalize (l[k]).num = m at *
            go_upto_region 5 with fail
            have HKX := Lib.hid (HKR.out.both kb)
            have HOX := Lib.hid (HOU.out.keep kb)
            clear kb p0 p1 p2 p3 hbl HOU HKR
            generalize wr.alloc (.cells #[.bool xb, .string xS, .bool yb, .string yS] 77) = wx at *
            generalize wr.heap.size = b7 at *
            obtain ⟨s0, s1, s2, s3, _, _, _, _, sl⟩ := HB7.out.four
            go_wp2_with fail
            refine (CS _).out.mono ?_
            rintro e w4 ⟨rfl, hk4⟩
            have K2 := Lib.hid (HKX.out.both hk4)
            have HO2 := Lib.hid (HOX.out.keep hk4)
            clear hk4 s0 s1 s2 s3 sl CS HB7 HOX HKX
            have k5 : Keep NoS w (w4.alloc (.cells #[.int .i64 m] TI)) := K2.out.alloc _
            obtain ⟨v', w', hr, ho', hg⟩ := app_ints (HO2.out.keep ((Keep.refl NoS w4).alloc (.cells #[.int .i64 m] TI))) (one_int w4 m (by unfold I64; omega)) (by rw [hlj]; simp; omega) (by have := K2.out.size; simp; omega)
            have K' := Lib.hid (k5.grown hg fun k hk => HO2.out.block k hk)
            rw [HS.out] at ho'
            have HO' := Lib.hid ho'
            clear hg k5 ho'
            go_wp2_with (at_builtin; refine wpList_app_run _ _ 40 _ _ rfl rfl rfl rfl hr ?_)
            go_roundw
            case rel => exact ⟨k + 1, by omega, by go_num, fun i hi hik => (by
              by_cases e : i = k
              · subst e; exact HGK.out
              · exact HG.out i hi (by omega)), HO'.out, K'.out⟩
            case measure => simp [intOf]; omega
      · obtain ⟨m, e1⟩ : ∃ m : Int, smallV l[k] = .tuple #[.int .i64 m, .bool false] := ⟨_, by
          unfold smallV
          rw [show (decide (is64 (l[k]).num) && decide ((l[k]).den = 1)) = false by rw [Bool.and_eq_false_iff]; rcases Decidable.not_and_iff_or_not.1 hok with h | h; exact .inl (decide_eq_false h); exact .inr (decide_eq_false h)]⟩
        rw [e1] at CS
        have HBAD : Hid (okI l[k] = false) := Lib.hid (decide_eq_false fun h => hok ⟨h.1, h.2.1⟩)
        clear hok e1
        go_upto_region 5 with fail
        have HKX := Lib.hid (HKR.out.both kb)
        have HOX := Lib.hid (HOU.out.keep kb)
        clear kb p0 p1 p2 p3 hbl HOU HKR
        generalize wr.alloc (.cells #[.bool xb, .string xS, .bool yb, .string yS] 77) = wx at *
        generalize wr.heap.size = b7 at *
        obtain ⟨s0, s1, s2, s3, _, _, _, _, sl⟩ := HB7.out.four
        go_wp2_with fail
        refine (CS _).out.mono ?_
        rintro e w4 ⟨rfl, hk4⟩
        have K2 := Lib.hid (HKX.out.both hk4)
        have HO2 := Lib.hid (HOX.out.keep hk4)
        clear hk4 s0 s1 s2 s3 sl CS HB7 HOX HKX
        go_simp
        repeat go_step
        refine bodyPost_ret (by simp [results, Try.results48, go_sem]; rfl) rfl ?_
        exact ⟨_, by rw [HALL.out HBAD.out], fun h => (by rw [HALL.out HBAD.out] at h; cases h), K2.out⟩
    · have hlt : ¬ (k : Int) < (l.length : Int) := by omega
      obtain rfl : k = l.length := by omega
      have HO : Hid (OwnI wr w.heap.size (.slice ob l.length cb') (l.map Rat.num)) := Lib.hid (by have := HOU.out; rwa [List.take_length] at this)
      have HALL : Hid (l.all okI = true) := Lib.hid (by
        rw [List.all_eq_true]
        intro x hx
        obtain ⟨i, hi, rfl⟩ := List.getElem_of_mem hx
        exact HG.out i hi hi)
      go_wp2
      go_ret2
      exact ⟨_, by rw [HALL.out]; rfl, fun _ => HO.out, HKR.out⟩
end Go.Proofs.Ytamjmcdlddocgaa
