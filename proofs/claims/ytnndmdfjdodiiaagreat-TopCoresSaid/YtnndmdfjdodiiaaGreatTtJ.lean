/- Package cnf: List, Both. -/
import Derived.Test.YtnndmdfjdodiiaaGreatTtFF
namespace Go.Proofs.YtnndmdfjdodiiaaGreat
open Go.ChangeShapes Go.WideShapes Go.RowKit Go.Maps
set_option linter.unusedVariables false
set_option linter.unusedSimpArgs false

theorem nil_ints (w : World) : IsInts w (.slice none 0 0) [] := ⟨none, 0, rfl, by simp, by simp, fun h => absurd rfl h⟩
set_option maxRecDepth 100000 in
set_option maxHeartbeats 8000000 in
theorem list_any (vars : Nat) (w : World) (hv : vars ≤ 1000) :
    Calls Tryz.prog 106 #[.slice none 0 0, .int .i64 (vars : Int)] w fun e w' => e = .returned (.agg #[.int .i64 0, .int .i64 0]) ∧ Keep NoS w w' := by
  have CB := fun w' => Lib.hid (bad_any vars w' none 0 [] (nil_ints w') (Nat.le_refl _) ⟨List.nodup_nil, fun l hl => by cases hl⟩ hv)
  have KA : Hid (Keep NoS w (w.alloc (.cells #[.int .i64 0, .int .i64 0] TFa))) := Lib.hid ((Keep.refl _ _).alloc _)
  have HB2 : Hid ((w.alloc (.cells #[.int .i64 0, .int .i64 0] TFa)).heap[w.heap.size]? = some (.cells #[.int .i64 0, .int .i64 0] TFa (0, 0))) := Lib.hid (heap_alloc_at _ _ _ rfl)
  obtain ⟨w2, hw2⟩ : ∃ w2 : World, w2 = w.alloc (.cells #[.int .i64 0, .int .i64 0] TFa) := ⟨_, rfl⟩
  rw [← hw2] at KA HB2
  go_enter Tryz.func106, Tryz.ntmps106
  go_upto_region 1 with fail
  rw [← hw2]
  clear hw2
  obtain ⟨b2, hb2⟩ : ∃ b2, b2 = w.heap.size := ⟨_, rfl⟩
  rw [← hb2] at HB2 ⊢
  have HL := Lib.hid (Nat.le_of_eq hb2.symm)
  clear hb2
  go_wp2_with fail
  refine (CB _).out.mono ?_
  rintro e w3 ⟨rfl, hk3⟩
  have HB3 := Lib.hid ((hk3.block b2 (lt_of_heap HB2.out) fun _ h => h).trans HB2.out)
  have u0 := cell_of_heap (o := 0) HB3.out rfl
  have u1 := cell_of_heap (o := 1) HB3.out rfl
  have f0 := Blk.free (A := _) ⟨_, HB3.out⟩ 0
  have f1 := Blk.free (A := _) ⟨_, HB3.out⟩ 1
  have ul := lt_of_heap HB3.out
  have K3 := Lib.hid (KA.out.both hk3)
  clear hk3 CB
  go_wp2
  refine bodyPost_ret (by simp [results, Tryz.results106, go_sem, u0, u1, ul]; rfl) rfl ?_
  exact ⟨rfl, keep_at (keep_at K3.out _ HL.out) _ HL.out⟩
/-- Bools, as they lie. -/
def IsBools (w : World) (v : Value) (l : List Bool) : Prop :=
  ∃ oa cap, v = .slice oa l.length cap ∧ l.length ≤ cap ∧ cap ≤ maxLen ∧ (l ≠ [] → ∃ b o, oa = some ⟨b, o, none⟩ ∧ b < w.heap.size ∧ ∀ i x, l[i]? = some x → w.cell? ⟨b, o + i, none⟩ = some (.bool x))
theorem IsBools.keep {w w' : World} {v : Value} {l : List Bool} (h : IsBools w v l) (k : Keep NoS w w') : IsBools w' v l := by
  obtain ⟨oa, cap, h1, h2, h3, h4⟩ := h
  refine ⟨oa, cap, h1, h2, h3, fun hne => ?_⟩
  obtain ⟨b, o, e, hb, hc⟩ := h4 hne
  exact ⟨b, o, e, Nat.lt_of_lt_of_le hb k.size, fun i x hx => (k.cell hb).trans (hc i x hx)⟩
theorem IsBools.len {w : World} {v : Value} {l : List Bool} (h : IsBools w v l) : ∃ oa cap, v = .slice oa l.length cap ∧ l.length ≤ cap ∧ cap ≤ maxLen := by
  obtain ⟨oa, cap, h1, h2, h3, _⟩ := h
  exact ⟨oa, cap, h1, h2, h3⟩
theorem IsBools.at {w : World} {oa : Option Addr} {n cap : Nat} {l : List Bool} (h : IsBools w (.slice oa n cap) l) {k : Nat} (hk : k < l.length) : ∃ b o, oa = some ⟨b, o, none⟩ ∧ b < w.heap.size ∧ w.cell? ⟨b, o + k, none⟩ = some (.bool l[k]) := by
  obtain ⟨oa', cap', hv, _, _, h4⟩ := h
  cases hv
  obtain ⟨b, o, e, hb, hc⟩ := h4 (by rintro rfl; simp at hk)
  exact ⟨b, o, e, hb, hc k _ (List.getElem?_eq_getElem hk)⟩
set_option maxRecDepth 100000 in
set_option maxHeartbeats 8000000 in
theorem both_any (vars : Nat) (w : World) (oc : Option Addr) (cc : Nat) (cls : List (List Int)) (hc : IsCls w (.slice oc cls.length cc) cls) (hok : CnfOK vars cls) :
    Calls Tryz.prog 68 #[.agg #[.int .i64 (vars : Int), .slice oc cls.length cc], .slice none 0 0] w fun e w' => e = .returned (.agg #[.int .i64 0, .int .i64 0]) ∧ Keep NoS w w' := by
  have CC := Lib.hid (fun w' (k : Keep NoS w w') => check_any vars w' oc cc cls (hc.keep k) hok)
  have CL := fun w' => Lib.hid (list_any vars w' (by have := hok.v; omega))
  generalize cls.length = m at *
  clear hc hok
  obtain ⟨w2, hw2⟩ : ∃ w2 : World, w2 = (w.alloc (.cells #[.int .i64 (vars : Int), .slice oc m cc] 62)).alloc (.cells #[.int .i64 0, .int .i64 0] TFa) := ⟨_, rfl⟩
  obtain ⟨b2, hb2⟩ : ∃ b2, b2 = w.heap.size + 1 := ⟨_, rfl⟩
  have K2 : Hid (Keep NoS w w2) := Lib.hid (by rw [hw2]; exact ((Keep.refl _ _).alloc _).alloc _)
  have HB1 : Hid (w2.heap[w.heap.size]? = some (.cells #[.int .i64 (vars : Int), .slice oc m cc] 62 (0, 0))) := Lib.hid (by rw [hw2, heap_alloc_old _ _ _ (by simp)]; exact heap_alloc_at _ _ _ rfl)
  have HB2 : Hid (w2.heap[b2]? = some (.cells #[.int .i64 0, .int .i64 0] TFa (0, 0))) := Lib.hid (by rw [hw2, hb2]; exact heap_alloc_at _ _ _ (by simp))
  go_enter Tryz.func68, Tryz.ntmps68
  go_upto_region 1 with fail
  rw [← hw2, ← hb2]
  have HLW : Hid (w.heap.size ≤ b2) := Lib.hid (by omega)
  clear hw2 hb2
  generalize hg1 : w.heap.size = b1 at *
  have HG1 := Lib.hid hg1
  clear hg1
  have x0 := cell_of_heap (o := 0) HB1.out rfl
  have x1 := cell_of_heap (o := 1) HB1.out rfl
  have xl := lt_of_heap HB1.out
  have CC := Lib.hid (CC.out w2 K2.out)
  go_wp2_with fail
  refine CC.out.mono ?_
  rintro e w3 ⟨rfl, hk3⟩
  have z0 := (hk3.cell (i := 0) xl).trans x0
  have zl := Nat.lt_of_lt_of_le xl hk3.size
  have HB3 := Lib.hid ((hk3.block b2 (lt_of_heap HB2.out) fun _ h => h).trans HB2.out)
  have K3 := Lib.hid (K2.out.both hk3)
  have K4 : Hid (Keep NoS w3 (w3.alloc (.cells #[.int .i64 0, .int .i64 0] TFa))) := Lib.hid ((Keep.refl _ _).alloc _)
  have y0 := (K4.out.cell (i := 0) zl).trans z0
  have yl := Nat.lt_of_lt_of_le zl K4.out.size
  clear hk3 CC x0 x1 xl z0 HB2
  have CL := Lib.hid (CL (w3.alloc (.cells #[.int .i64 0, .int .i64 0] TFa))).out
  go_wp2_with fail
  refine CL.out.mono ?_
  rintro e w5 ⟨rfl, hk5⟩
  have K5 := Lib.hid (K4.out.both hk5)
  have HB5 := Lib.hid ((K5.out.block b2 (lt_of_heap HB3.out) fun _ h => h).trans HB3.out)
  have u0 := cell_of_heap (o := 0) HB5.out rfl
  have u1 := cell_of_heap (o := 1) HB5.out rfl
  have f0 := Blk.free (A := _) ⟨_, HB5.out⟩ 0
  have f1 := Blk.free (A := _) ⟨_, HB5.out⟩ 1
  have ul := lt_of_heap HB5.out
  clear hk5 CL y0 yl
  go_wp2
  refine bodyPost_ret (by simp [results, Tryz.results68, go_sem, u0, u1, ul]; rfl) rfl ?_
  exact ⟨rfl, keep_at (keep_at (K3.out.both K5.out) _ (by rw [HG1.out]; exact HLW.out)) _ (by rw [HG1.out]; exact HLW.out)⟩
/-- A literal under values. -/
theorem litB_eq (holds : List Bool) (l : Int) (hl : l.natAbs - 1 < holds.length) : Sv.litB holds l = (holds[l.natAbs - 1] == decide (0 < l)) := by
  unfold Sv.litB
  rw [List.getD_eq_getElem?_getD, List.getElem?_eq_getElem hl]; rfl
set_option maxRecDepth 100000 in
theorem true_any (w : World) (v : Value) (holds : List Bool) (h : IsBools w v holds) (x : Int) (h0 : x ≠ 0) (hx : x.natAbs ≤ holds.length) (hl : holds.length ≤ 1000) :
    Calls Tryz.prog 105 #[.int .i64 x, v] w fun e w' => e = .returned (.bool (Sv.litB holds x)) ∧ Keep NoS w w' := by
  have hk : x.natAbs - 1 < holds.length := by omega
  rw [litB_eq holds x hk]
  obtain ⟨oa, ca, rfl, hca, hcm⟩ := h.len
  obtain ⟨b, o, rfl, hb, p0⟩ := h.at hk
  have CV := Lib.hid (var_any w x (by unfold I64; omega) (by unfold I64; omega))
  have e1 : ((x.natAbs : Nat) : Int) - 1 = ((x.natAbs - 1 : Nat) : Int) := by omega
  have hlt : ((x.natAbs - 1 : Nat) : Int) < (holds.length : Int) := by omega
  have hge : 0 ≤ ((x.natAbs - 1 : Nat) : Int) := by omega
  have hv1 : (x.natAbs : Int) ≤ 1000 := by omega
  have hv0 : 0 ≤ (x.natAbs : Int) := by omega
  generalize x.natAbs - 1 = k at *
  generalize holds[k] = bb at *
  clear h
  by_cases hp : 0 < x
  · rw [decide_eq_true hp]
    go_enter Tryz.func105, Tryz.ntmps105
    go_wp2_with fail
    refine CV.out.mono ?_
    rintro e w1 ⟨rfl, rfl⟩
    go_wp2
    go_ret
    exact ⟨by cases bb <;> rfl, by (repeat' (with_reducible first | assumption | exact HK.out | exact keR | refine keA ?_ | refine keS ?_ fun h => absurd h (by omega) | refine keN ?_ | refine keD ?_))⟩
  · rw [decide_eq_false hp]
    go_enter Tryz.func105, Tryz.ntmps105
    go_wp2_with fail
    refine CV.out.mono ?_
    rintro e w1 ⟨rfl, rfl⟩
    go_wp2
    go_ret
    exact ⟨by rw [decide_eq_false (show ¬ 0 < x by omega)]; cases bb <;> rfl, by (repeat' (with_reducible first | assumption | exact HK.out | exact keR | refine keA ?_ | refine keS ?_ fun h => absurd h (by omega) | refine keN ?_ | refine keD ?_))⟩
theorem cfnSat1 (a : Array Value) (w : World) : Sem.run Tryz.prog (callFunc 104 a) w = .ok (.enter 104 a) w := by kernel_rfl
theorem cfnAll1 (a : Array Value) (w : World) : Sem.run Tryz.prog (callFunc 127 a) w = .ok (.enter 127 a) w := by kernel_rfl
set_option maxRecDepth 100000 in
theorem sat1_any (w : World) (b : Nat) (v : Value) (holds : List Bool) (h : IsBools w v holds) (hb : w.cell? ⟨b, 0, none⟩ = some v) (hlb : b < w.heap.size) (x : Int) (h0 : x ≠ 0) (hx : x.natAbs ≤ holds.length) (hl : holds.length ≤ 1000) :
    Calls Tryz.prog 104 #[.int .i64 x, .pointer (some ⟨b, 0, none⟩)] w fun e w' => e = .returned (.bool (Sv.litB holds x)) ∧ Keep NoS w w' := by
  have CT := Lib.hid (true_any w v holds h x h0 hx hl)
  obtain ⟨oa, ca, rfl, _⟩ := h.len
  generalize Sv.litB holds x = r at *
  clear h
  go_enter Tryz.func104, Tryz.ntmps104
  go_wp2_with fail
  refine CT.out.mono ?_
  rintro e w1 ⟨rfl, hk⟩
  have K1 := Lib.hid hk
  clear hk
  go_wp2
  go_ret
  exact ⟨rfl, K1.out⟩
set_option maxRecDepth 100000 in
theorem sat_any (w : World) (v u : Value) (c : List Int) (holds : List Bool) (hc : IsInts w v c) (h : IsBools w u holds) (hx : ∀ x ∈ c, x ≠ 0 ∧ x.natAbs ≤ holds.length) (hl : holds.length ≤ 1000) :
    Calls Tryz.prog 65 #[v, u] w fun e w' => e = .returned (.bool (c.any (Sv.litB holds))) ∧ Keep NoS w w' := by
  obtain ⟨oc, cc, rfl, _⟩ := hc.len
  obtain ⟨oa, ca, rfl, _⟩ := h.len
  have ka : Keep NoS w (w.alloc (.cells #[.slice oa holds.length ca] 24)) := (Keep.refl _ _).alloc _
  have hB : (w.alloc (.cells #[.slice oa holds.length ca] 24)).heap[w.heap.size]? = some (.cells #[.slice oa holds.length ca] 24 (0, 0)) := heap_alloc_at _ _ _ rfl
  have m0 := cell_of_heap (o := 0) hB rfl
  have ml := lt_of_heap hB
  have CI := Lib.hid (intAny_any 104 #[.pointer (some ⟨w.heap.size, 0, none⟩)] cfnSat1 (Sv.litB holds) _ (.slice oc c.length cc) c (hc.keep ka) fun w' kk y hy => sat1_any w' w.heap.size _ holds (h.keep (ka.both kk)) ((kk.cell ml).trans m0) (Nat.lt_of_lt_of_le ml kk.size) y (hx y hy).1 (hx y hy).2 hl)
  have KA := Lib.hid ka
  generalize c.any (Sv.litB holds) = r at *
  clear hc h hB m0 ml ka
  go_enter Tryz.func65, Tryz.ntmps65
  go_wp2_with fail
  refine CI.out.mono ?_
  rintro e w1 ⟨rfl, hk⟩
  have K1 := Lib.hid (KA.out.both hk)
  clear hk CI
  go_wp2
  go_ret
  exact ⟨rfl, K1.out⟩
set_option maxRecDepth 100000 in
theorem all1_any (w : World) (b : Nat) (v u : Value) (c : List Int) (holds : List Bool) (hc : IsInts w u c) (h : IsBools w v holds) (hb : w.cell? ⟨b, 0, none⟩ = some v) (hlb : b < w.heap.size) (hx : ∀ x ∈ c, x ≠ 0 ∧ x.natAbs ≤ holds.length) (hl : holds.length ≤ 1000) :
    Calls Tryz.prog 127 #[u, .pointer (some ⟨b, 0, none⟩)] w fun e w' => e = .returned (.bool (!c.any (Sv.litB holds))) ∧ Keep NoS w w' := by
  have CT := Lib.hid (sat_any w u v c holds hc h hx hl)
  obtain ⟨oc, cc, rfl, _⟩ := hc.len
  obtain ⟨oa, ca, rfl, _⟩ := h.len
  generalize c.any (Sv.litB holds) = r at *
  clear h hc
  go_enter Tryz.func127, Tryz.ntmps127
  go_wp2_with fail
  refine CT.out.mono ?_
  rintro e w1 ⟨rfl, hk⟩
  have K1 := Lib.hid hk
  clear hk
  go_wp2
  go_ret
  exact ⟨rfl, K1.out⟩
set_option maxRecDepth 100000 in
theorem all_any (w : World) (v u : Value) (cls : List (List Int)) (holds : List Bool) (hc : IsCls w v cls) (h : IsBools w u holds) (hx : ∀ c ∈ cls, ∀ x ∈ c, x ≠ 0 ∧ x.natAbs ≤ holds.length) (hl : holds.length ≤ 1000) :
    Calls Tryz.prog 90 #[v, u] w fun e w' => e = .returned (.bool (cls.all fun c => c.any (Sv.litB holds))) ∧ Keep NoS w w' := by
  obtain ⟨oc, cc, rfl, _⟩ := hc.len
  obtain ⟨oa, ca, rfl, _⟩ := h.len
  have ka : Keep NoS w (w.alloc (.cells #[.slice oa holds.length ca] 24)) := (Keep.refl _ _).alloc _
  have hB : (w.alloc (.cells #[.slice oa holds.length ca] 24)).heap[w.heap.size]? = some (.cells #[.slice oa holds.length ca] 24 (0, 0)) := heap_alloc_at _ _ _ rfl
  have m0 := cell_of_heap (o := 0) hB rfl
  have ml := lt_of_heap hB
  have CI := Lib.hid (clsAny_any 127 #[.pointer (some ⟨w.heap.size, 0, none⟩)] cfnAll1 (fun c => !c.any (Sv.litB holds)) _ (.slice oc cls.length cc) cls (hc.keep ka) fun w' kk c hcc sv hs => all1_any w' w.heap.size _ sv c holds hs (h.keep (ka.both kk)) ((kk.cell ml).trans m0) (Nat.lt_of_lt_of_le ml kk.size) (hx c hcc) hl)
  have KA := Lib.hid ka
  have hr : (cls.all fun c => c.any (Sv.litB holds)) = !(cls.any fun c => !c.any (Sv.litB holds)) := by rw [List.all_eq_not_any_not]
  rw [hr]
  generalize (cls.any fun c => !c.any (Sv.litB holds)) = r at *
  clear hc h hB m0 ml ka hr
  go_enter Tryz.func90, Tryz.ntmps90
  go_wp2_with fail
  refine CI.out.mono ?_
  rintro e w1 ⟨rfl, hk⟩
  have K1 := Lib.hid (KA.out.both hk)
  clear hk CI
  go_wp2
  go_ret
  exact ⟨rfl, K1.out⟩
end Go.Proofs.YtnndmdfjdodiiaaGreat
