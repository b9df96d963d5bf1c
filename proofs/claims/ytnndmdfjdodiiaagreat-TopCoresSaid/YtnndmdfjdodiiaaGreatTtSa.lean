/- Package slices: Clone, Grow, Concat. -/
import Derived.Lib.AppendZerosOnto
import Derived.Lib.Walk
import Derived.Test.YtnndmdfjdodiiaaGreatTtKe
namespace Go.Proofs.YtnndmdfjdodiiaaGreat
open Go.ChangeShapes Go.WideShapes Go.RowKit Go.Maps
set_option linter.unusedVariables false
set_option linter.unusedSimpArgs false

/-- A list that may be copied from where it lies. -/
def SrcG {α : Type} (c : α → List Value) (w : World) (v : Value) (l : List α) : Prop := ∃ oa cap, v = .slice oa l.length cap ∧ (0 < l.length → ∃ a, oa = some a ∧ ∀ j u, (l.flatMap c)[j]? = some u → w.cell? (a.add j) = some u)
theorem src_cells {α : Type} {c : α → List Value} {K : Nat} (hK : ∀ x, (c x).length = K) {w : World} {l : List α} {b o : Nat} (h : ∀ (i : Nat) (x : α), l[i]? = some x → ∀ (j : Nat) (u : Value), (c x)[j]? = some u → w.cell? ⟨b, o + i * K + j, none⟩ = some u) : ∀ (m : Nat) (u : Value), (l.flatMap c)[m]? = some u → w.cell? ((⟨b, o, none⟩ : Addr).add m) = some u := by
  intro m u hm
  have hml := (List.getElem?_eq_some_iff.1 hm).1
  rw [flat_len hK] at hml
  have h0 : 0 < K := by
    rcases Nat.eq_zero_or_pos K with q | q
    · rw [q, Nat.mul_zero] at hml; omega
    · exact q
  have hi : m / K < l.length := Nat.div_lt_of_lt_mul (by rw [Nat.mul_comm]; exact hml)
  have hj := Nat.mod_lt m h0
  have e : m / K * K + m % K = m := by rw [Nat.mul_comm]; exact Nat.div_add_mod m K
  have hx := List.getElem?_eq_getElem hi
  have hg := flat_get hK l (m / K) _ hx (m % K) hj
  rw [e, hm] at hg
  rw [show (⟨b, o, none⟩ : Addr).add m = ⟨b, o + m, none⟩ from by unfold Addr.add; split <;> simp_all]
  have := h (m / K) _ hx (m % K) u hg.symm
  rwa [Nat.add_assoc, e] at this
theorem OwnG.src {α : Type} {T : TypeId} {c : α → List Value} {K : Nat} (hK : ∀ x, (c x).length = K) {w : World} {base : Nat} {v : Value} {l : List α} (h : OwnG T K c w base v l) : SrcG c w v l := by
  obtain ⟨oa, cap, e, _, _⟩ := OwnG.len h
  refine ⟨oa, cap, e, fun h0 => ?_⟩
  obtain ⟨g, cap', e', _, _, hc⟩ := OwnG.cells hK h (by rintro rfl; simp at h0)
  rw [e] at e'
  injection e' with q1
  exact ⟨_, q1, src_cells hK hc⟩
theorem app_G {α : Type} {T : TypeId} {c : α → List Value} {K : Nat} (hK : ∀ x, (c x).length = K) (h1 : ∀ x, ∀ u ∈ c x, u.oneCell' = true) {sl : TypeId} {i : TypeInfo} {z : Value} {bytes : Nat} (hu : Tryz.prog.underlying sl = some (.slice T)) (hi : Tryz.prog.info? T = some i) (hz : i.zero = some z) (hs : i.size = K) (hb : i.bytes = bytes) (hzs : z.cells.size = K) (h0 : 0 < K)
    {w : World} {base : Nat} {v u : Value} {xs ys : List α} (hown : OwnG T K c w base v xs) (hsr : SrcG c w u ys) (hmx : xs.length + ys.length ≤ 100000) (hby : bytes ≤ 1000) (hbase : base ≤ w.heap.size) :
    ∃ v' w', (Builtin.append_ #[sl, sl] sl #[v, u]).run Tryz.prog w = .ok v' w' ∧ OwnG T K c w' base v' (xs ++ ys) ∧ w.grownBy w' v.ownBlock := by
  obtain ⟨oa, cap, rfl, hsrc⟩ := hsr
  have hbb : (xs.length + ys.length) * bytes ≤ 100000 * 1000 := Nat.mul_le_mul hmx hby
  obtain ⟨v', w', hr, ho, hg⟩ := app_run (P := Tryz.prog) (w := w) (ty := sl) hu hi hz hs hb hzs h0 base v xs.length (xs.flatMap c) hown oa ys.length cap (ys.flatMap c) (flat_len hK ys) hsrc (fun u hu => by obtain ⟨x, _, hx⟩ := List.mem_flatMap.1 hu; exact h1 x u hx) (by unfold maxLen; omega) (by omega) hbase
  exact ⟨v', w', hr, by unfold OwnG; rw [List.flatMap_append, List.length_append]; exact ho, hg⟩
def inC (x : Int) : List Value := [.int .i64 x]
def boC (x : Bool) : List Value := [.bool x]
theorem inC_len (x : Int) : (inC x).length = 1 := rfl
theorem boC_len (x : Bool) : (boC x).length = 1 := rfl
theorem flat_in (l : List Int) : l.flatMap inC = iv l := by
  induction l with
  | nil => rfl
  | cons x l ih => rw [List.flatMap_cons, ih]; rfl
theorem own_in {w : World} {base : Nat} {v : Value} {l : List Int} (h : OwnG TI 1 inC w base v l) : OwnI w base v l := by
  unfold OwnG at h
  rw [flat_in] at h
  exact h
theorem IsInts.srcG {w : World} {v : Value} {l : List Int} (h : IsInts w v l) : SrcG inC w v l := by
  obtain ⟨oa, cap, e, hc⟩ := h.src
  exact ⟨oa, cap, e, by rw [flat_in]; exact hc⟩
theorem IsAtoms.srcG {w : World} {v : Value} {l : List Sv.At} (h : IsAtoms w v l) : SrcG atC w v l := by
  obtain ⟨oa, cap, e, _, _, hc⟩ := h
  refine ⟨oa, cap, e, fun h0 => ?_⟩
  obtain ⟨b, o, q, _, h4⟩ := hc (by rintro rfl; simp at h0)
  exact ⟨_, q, src_cells atC_len h4⟩
theorem IsBools.srcG {w : World} {v : Value} {l : List Bool} (h : IsBools w v l) : SrcG boC w v l := by
  obtain ⟨oa, cap, e, _, _, hc⟩ := h
  refine ⟨oa, cap, e, fun h0 => ?_⟩
  obtain ⟨b, o, q, _, h4⟩ := hc (by rintro rfl; simp at h0)
  refine ⟨_, q, src_cells boC_len fun i x hx j u hj => ?_⟩
  have hj0 : j = 0 := by have := (List.getElem?_eq_some_iff.1 hj).1; rw [boC_len] at this; omega
  subst hj0
  simp [boC] at hj
  subst hj
  have := h4 i x hx
  simpa using this
theorem infoAt : (Tryz.prog.info? TAt).map (fun i => (i.zero, i.size, i.bytes)) = some (some (.agg #[.int .i64 0, .int .i64 0, .int .i64 0, .slice none 0 0, .int .i64 0, .int .i64 0]), 6, 64) := by kernel_rfl
theorem atC_one (x : Sv.At) : ∀ u ∈ atC x, u.oneCell' = true := by
  intro u hu; simp [atC] at hu; rcases hu with rfl | rfl | rfl | rfl | rfl | rfl <;> rfl
theorem inC_one (x : Int) : ∀ u ∈ inC x, u.oneCell' = true := by
  intro u hu; simp [inC] at hu; rcases hu with rfl; rfl
theorem boC_one (x : Bool) : ∀ u ∈ boC x, u.oneCell' = true := by
  intro u hu; simp [boC] at hu; rcases hu with rfl; rfl
theorem src_keep {α : Type} {c : α → List Value} {K : Nat} {w w' : World} {v : Value} {l : List α} (h : SrcG c w v l) (hk : Keep NoS w w') : SrcG c w' v l := by
  obtain ⟨oa, cap, e, hc⟩ := h
  refine ⟨oa, cap, e, fun h0 => ?_⟩
  obtain ⟨a, q, h4⟩ := hc h0
  refine ⟨a, q, fun j u hj => ?_⟩
  have := h4 j u hj
  rw [← this]
  have hl : (a.add j).block < w.heap.size := by
    apply Classical.byContradiction
    intro h'
    rw [World.cell?, Array.getElem?_eq_none (Nat.le_of_not_lt h')] at this
    cases this
  exact World.cell?_of_block (hk.block _ hl fun _ h => h)

set_option maxRecDepth 100000 in
set_option maxHeartbeats 4000000 in
theorem cloneI_any (w : World) (v : Value) (l : List _) (h : SrcG inC w v l) (hl : l.length ≤ 10000) : Calls Tryz.prog 25 #[v] w fun e w' => ∃ v', e = .returned v' ∧ OwnG TI 1 inC w' w.heap.size v' l ∧ Keep NoS w w' := by
  have H := Lib.hid h
  obtain ⟨oa, cap, hv, hc⟩ := h
  subst hv
  have hn := fun w => Go.Lib.run_eql_slice_nil (P := Tryz.prog) w 22 TI oa l.length cap 0 0 Tryz.underlying22
  rcases oa with _ | a
  · have hl0 : l = [] := by
      rcases l with _ | ⟨x, l⟩
      · rfl
      · obtain ⟨_, h, _⟩ := hc (by simp); cases h
    subst hl0
    clear hc
    simp only [List.length_nil, Option.isNone_none, Option.isNone_some] at hn ⊢
    go_enter Tryz.func25, Tryz.ntmps25
    go_wp2
    refine bodyPost_ret (by simp [results, Tryz.results25, go_sem]; rfl) rfl ?_
    exact ⟨_, rfl, OwnG.nil _ _, Keep.refl _ _⟩
  · clear hc
    simp only [Option.isNone_none, Option.isNone_some] at hn
    have k1 : Keep NoS w (w.alloc (.cells #[] TI)) := (Keep.refl _ _).alloc _
    obtain ⟨i, hi, hz, hs, hb⟩ := info_parts infoI
    have hown : OwnG TI 1 inC (w.alloc (.cells #[] TI)) w.heap.size (.slice (some ⟨w.heap.size, 0, none⟩) 0 0) [] := by unfold OwnG; exact own_noneT (Nat.le_refl _)
    obtain ⟨v', w', hr, ho', hg⟩ := app_G inC_len inC_one (T := TI) Tryz.underlying22 hi hz hs hb rfl (by decide) hown (src_keep (K := 1) H.out k1) (by simp; omega) (by decide) k1.size
    have HO := Lib.hid ho'
    have HK : Hid (Keep NoS w w') := Lib.hid (k1.grown hg fun k hk => by cases hk; exact Nat.le_refl _)
    clear ho' hg k1 hown
    go_enter Tryz.func25, Tryz.ntmps25
    go_wp2_with (at_builtin; refine wpList_app_run _ _ 22 _ _ rfl rfl rfl rfl hr ?_)
    refine bodyPost_ret (by simp [results, Tryz.results25, go_sem]; rfl) rfl ?_
    exact ⟨_, rfl, HO.out, HK.out⟩
set_option maxRecDepth 100000 in
set_option maxHeartbeats 4000000 in
theorem cloneA_any (w : World) (v : Value) (l : List _) (h : SrcG atC w v l) (hl : l.length ≤ 10000) : Calls Tryz.prog 24 #[v] w fun e w' => ∃ v', e = .returned v' ∧ OwnG TAt 6 atC w' w.heap.size v' l ∧ Keep NoS w w' := by
  have H := Lib.hid h
  obtain ⟨oa, cap, hv, hc⟩ := h
  subst hv
  have hn := fun w => Go.Lib.run_eql_slice_nil (P := Tryz.prog) w 25 TAt oa l.length cap 0 0 Tryz.underlying25
  rcases oa with _ | a
  · have hl0 : l = [] := by
      rcases l with _ | ⟨x, l⟩
      · rfl
      · obtain ⟨_, h, _⟩ := hc (by simp); cases h
    subst hl0
    clear hc
    simp only [List.length_nil, Option.isNone_none, Option.isNone_some] at hn ⊢
    go_enter Tryz.func24, Tryz.ntmps24
    go_wp2
    refine bodyPost_ret (by simp [results, Tryz.results24, go_sem]; rfl) rfl ?_
    exact ⟨_, rfl, OwnG.nil _ _, Keep.refl _ _⟩
  · clear hc
    simp only [Option.isNone_none, Option.isNone_some] at hn
    have k1 : Keep NoS w (w.alloc (.cells #[] TAt)) := (Keep.refl _ _).alloc _
    obtain ⟨i, hi, hz, hs, hb⟩ := info_parts infoAt
    have hown : OwnG TAt 6 atC (w.alloc (.cells #[] TAt)) w.heap.size (.slice (some ⟨w.heap.size, 0, none⟩) 0 0) [] := by unfold OwnG; exact own_noneT (Nat.le_refl _)
    obtain ⟨v', w', hr, ho', hg⟩ := app_G atC_len atC_one (T := TAt) Tryz.underlying25 hi hz hs hb rfl (by decide) hown (src_keep (K := 6) H.out k1) (by simp; omega) (by decide) k1.size
    have HO := Lib.hid ho'
    have HK : Hid (Keep NoS w w') := Lib.hid (k1.grown hg fun k hk => by cases hk; exact Nat.le_refl _)
    clear ho' hg k1 hown
    go_enter Tryz.func24, Tryz.ntmps24
    go_wp2_with (at_builtin; refine wpList_app_run _ _ 25 _ _ rfl rfl rfl rfl hr ?_)
    refine bodyPost_ret (by simp [results, Tryz.results24, go_sem]; rfl) rfl ?_
    exact ⟨_, rfl, HO.out, HK.out⟩
set_option maxRecDepth 100000 in
set_option maxHeartbeats 4000000 in
theorem cloneB_any (w : World) (v : Value) (l : List _) (h : SrcG boC w v l) (hl : l.length ≤ 10000) : Calls Tryz.prog 58 #[v] w fun e w' => ∃ v', e = .returned v' ∧ OwnG TBo 1 boC w' w.heap.size v' l ∧ Keep NoS w w' := by
  have H := Lib.hid h
  obtain ⟨oa, cap, hv, hc⟩ := h
  subst hv
  have hn := fun w => Go.Lib.run_eql_slice_nil (P := Tryz.prog) w 24 TBo oa l.length cap 0 0 Tryz.underlying24
  rcases oa with _ | a
  · have hl0 : l = [] := by
      rcases l with _ | ⟨x, l⟩
      · rfl
      · obtain ⟨_, h, _⟩ := hc (by simp); cases h
    subst hl0
    clear hc
    simp only [List.length_nil, Option.isNone_none, Option.isNone_some] at hn ⊢
    go_enter Tryz.func58, Tryz.ntmps58
    go_wp2
    refine bodyPost_ret (by simp [results, Tryz.results58, go_sem]; rfl) rfl ?_
    exact ⟨_, rfl, OwnG.nil _ _, Keep.refl _ _⟩
  · clear hc
    simp only [Option.isNone_none, Option.isNone_some] at hn
    have k1 : Keep NoS w (w.alloc (.cells #[] TBo)) := (Keep.refl _ _).alloc _
    obtain ⟨i, hi, hz, hs, hb⟩ := info_parts infoBo
    have hown : OwnG TBo 1 boC (w.alloc (.cells #[] TBo)) w.heap.size (.slice (some ⟨w.heap.size, 0, none⟩) 0 0) [] := by unfold OwnG; exact own_noneT (Nat.le_refl _)
    obtain ⟨v', w', hr, ho', hg⟩ := app_G boC_len boC_one (T := TBo) Tryz.underlying24 hi hz hs hb rfl (by decide) hown (src_keep (K := 1) H.out k1) (by simp; omega) (by decide) k1.size
    have HO := Lib.hid ho'
    have HK : Hid (Keep NoS w w') := Lib.hid (k1.grown hg fun k hk => by cases hk; exact Nat.le_refl _)
    clear ho' hg k1 hown
    go_enter Tryz.func58, Tryz.ntmps58
    go_wp2_with (at_builtin; refine wpList_app_run _ _ 24 _ _ rfl rfl rfl rfl hr ?_)
    refine bodyPost_ret (by simp [results, Tryz.results58, go_sem]; rfl) rfl ?_
    exact ⟨_, rfl, HO.out, HK.out⟩
theorem cloneF_any (w : World) : Calls Tryz.prog 57 #[.slice none 0 0] w fun e w' => e = .returned (.slice none 0 0) ∧ w' = w := by
  have e1 : ∀ w, Sem.run Tryz.prog (binOp BinOp.eql 44 (.slice none 0 0) (.slice none 0 0)) w = .ok (.bool true) w := fun w => by kernel_rfl
  go_enter Tryz.func57, Tryz.ntmps57
  go_wp2
  refine bodyPost_ret (by simp [results, Tryz.results57, go_sem]; rfl) rfl ?_
  exact ⟨rfl, rfl⟩
theorem app_st {w : World} {base : Nat} {v u : Value} {xs ys : List StR} (hown : OwnG TSt 9 stL w base v xs) (hu : SrcG stL w u ys) (hl : xs.length + ys.length ≤ 100000) (hb : base ≤ w.heap.size) :
    ∃ v' w', (Builtin.append_ #[47, 47] 47 #[v, u]).run Tryz.prog w = .ok v' w' ∧ OwnG TSt 9 stL w' base v' (xs ++ ys) ∧ w.grownBy w' v.ownBlock := by
  obtain ⟨i, hi, hz, hs, hbb⟩ := info_parts infoSt
  exact app_G stL_len stL_one Tryz.underlying47 hi hz hs hbb rfl (by decide) hown hu hl (by decide) hb
theorem appS_zeros (w : World) (ty : TypeId) (n : Nat) (h0 : 0 < n) (hn : n ≤ 1000000) : ∃ w' G, (Builtin.append_ #[47, 3] ty #[.slice none 0 0, .int .i64 (n : Int)]).run Tryz.prog w = .ok (.slice (some ⟨w.heap.size, 0, none⟩) n G) w' ∧ n ≤ G ∧ G ≤ 9223372036854775807 ∧ OwnG TSt 9 stL w' w.heap.size (.slice (some ⟨w.heap.size, 0, none⟩) 0 G) [] ∧ Keep NoS w w' := by
  obtain ⟨i0, hi0, hz0, hz1, hz2⟩ := info_parts infoSt
  have hGn : n ≤ grownCap w n 0 TSt := grownCap_ge w _ _ _
  have hGm := grownCap_le_maxLen w n 0 TSt (by unfold maxLen; omega)
  have hold : (Builtin.firstCells i0.size 0 (.slice none 0 0)).run Tryz.prog w.drew = .ok ([] : List Value).toArray w.drew := run_firstCells_none w.drew i0.size 0 0 0
  have h := Lib.run_append_grow_zeros w 47 3 ty TSt i0 (.agg #[.int .i64 0, .slice none 0 0, .slice none 0 0, .int .i64 0, .int .i64 0, .int .i64 0, .slice none 0 0, .int .i64 0, .int .i64 0]) .i64 .i64 Tryz.underlying47 Tryz.underlying3 hi0 hz0 none 0 0 [] hold n h0 (by rw [hz1]; decide) (by omega) (by omega) (by rw [hz2]; omega) (growslice_fits (by omega) (by rw [hz2]; omega))
  rw [Nat.zero_add] at h
  refine ⟨_, _, h, hGn, hGm, ⟨rfl, .inr ⟨w.heap.size, _, _, rfl, Nat.le_refl _, heap_alloc_at _ _ _ rfl, Nat.zero_le _, hGm, ?_, by simp⟩⟩, ((Keep.refl _ _).drew).alloc _⟩
  simp [size_zeroCells, Value.cells]
  omega
set_option maxRecDepth 100000 in
theorem growS_any (w : World) (n : Nat) (hn : n ≤ 1000000) : Calls Tryz.prog 81 #[.slice none 0 0, .int .i64 (n : Int)] w fun e w' => ∃ v, e = .returned v ∧ OwnG TSt 9 stL w' w.heap.size v [] ∧ Keep NoS w w' := by
  by_cases h0 : 0 < n
  · obtain ⟨w2, G, hr, h1, h2, h3, h4⟩ := appS_zeros w 47 n h0 hn
    have HO := Lib.hid h3
    have HK := Lib.hid h4
    have hp : (n : Int) > 0 := by omega
    have hp' : ¬ (n : Int) < 0 := by omega
    clear h3 h4
    go_enter Tryz.func81, Tryz.ntmps81
    go_wp2_with (at_builtin; refine Lib.wpList_append_run _ rfl _ _ _ _ rfl _ _ rfl rfl _ _ hr ?_)
    refine bodyPost_ret (by simp [results, Tryz.results81, go_sem]; rfl) rfl ?_
    exact ⟨_, rfl, HO.out, HK.out⟩
  · obtain rfl : n = 0 := by omega
    go_enter Tryz.func81, Tryz.ntmps81
    go_wp2
    refine bodyPost_ret (by simp [results, Tryz.results81, go_sem]; rfl) rfl ?_
    exact ⟨_, rfl, OwnG.nil _ _, Keep.refl _ _⟩
set_option maxRecDepth 100000 in
theorem concatS_any (w : World) (b : Nat) (v1 v2 : Value) (l1 l2 : List StR) (hb : Blk w b #[v1, v2]) (h1 : SrcG stL w v1 l1) (h2 : SrcG stL w v2 l2) (hl1 : l1.length ≤ 10000) (hl2 : l2.length ≤ 10000) :
    Calls Tryz.prog 52 #[.slice (some ⟨b, 0, none⟩) 2 2] w fun e w' => ∃ v, e = .returned v ∧ OwnG TSt 9 stL w' w.heap.size v (l1 ++ l2) ∧ Keep NoS w w' := by
  have H1 := Lib.hid h1
  have H2 := Lib.hid h2
  obtain ⟨o1, c1, rfl, _⟩ := h1
  obtain ⟨o2, c2, rfl, _⟩ := h2
  obtain ⟨p0, p1, f0, f1, lb⟩ := hb.two
  have CG := fun w' => Lib.hid (growS_any w' (l1.length + l2.length) (by omega))
  have P0 := Lib.hid p0
  have P1 := Lib.hid p1
  clear hb
  go_enter Tryz.func52, Tryz.ntmps52
  go_wp2
  go_loopw [11, 3] (fun s z wr => ∃ k : Nat, k ≤ 2 ∧ s = .int .i64 k ∧ z = .int .i64 (((if k = 0 then 0 else if k = 1 then l1.length else l1.length + l2.length) : Nat) : Int) ∧ Keep NoS w wr) (fun s _ _ => (2 - intOf s).toNat)
  case atStart => exact ⟨0, by omega, rfl, rfl, by (repeat' (with_reducible first | assumption | exact HK.out | exact keR | refine keA ?_ | refine keS ?_ fun h => absurd h (by omega) | refine keN ?_ | refine keD ?_))⟩
  case round =>
    obtain ⟨k, hk, rfl, rfl, hkr⟩ := hrel
    have KR := Lib.hid hkr
    have x0 := (hkr.cell lb).trans p0
    have x1 := (hkr.cell lb).trans p1
    have lbr := Nat.lt_of_lt_of_le lb hkr.size
    clear hkr
    obtain rfl | rfl | rfl : k = 0 ∨ k = 1 ∨ k = 2 := by omega
    · have hn : ¬ ((0 : Int) + (l1.length : Int) < 0) := by omega
      go_wp2
      go_roundw
      case rel => exact ⟨1, by omega, rfl, by simp, KR.out⟩
      case measure => simp [intOf]
    · have hn : ¬ ((l1.length : Int) + (l2.length : Int) < 0) := by omega
      go_wp2
      go_roundw
      case rel => exact ⟨2, by omega, rfl, by simp, KR.out⟩
      case measure => simp [intOf]
    · have e2 : (((if 2 = 0 then 0 else if 2 = 1 then l1.length else l1.length + l2.length) : Nat) : Int) = ((l1.length + l2.length : Nat) : Int) := rfl
      rw [e2]
      go_wp2_with fail
      refine (CG _).out.mono ?_
      rintro e w3 ⟨v, rfl, ho3, hk3⟩
      have K3 := Lib.hid (KR.out.both hk3)
      have HO3 := Lib.hid (World.ownsRow_mono ho3 KR.out.size)
      obtain ⟨o3, c3, hv3, _⟩ := OwnG.len ho3
      subst hv3
      have y0 := (hk3.cell lbr).trans x0
      have y1 := (hk3.cell lbr).trans x1
      have lb3 := Nat.lt_of_lt_of_le lbr hk3.size
      clear ho3 hk3 CG x0 x1 p0 p1
      go_wp2
      go_loopw [27, 6] (fun s u wr => ∃ k : Nat, k ≤ 2 ∧ s = .int .i64 k ∧ OwnG TSt 9 stL wr w.heap.size u (if k = 0 then [] else if k = 1 then l1 else l1 ++ l2) ∧ Keep NoS w wr ∧ wr.cell? ⟨b, 0, none⟩ = some (.slice o1 l1.length c1) ∧ wr.cell? ⟨b, 1, none⟩ = some (.slice o2 l2.length c2) ∧ b < wr.heap.size) (fun s _ _ => (2 - intOf s).toNat)
      case atStart => exact ⟨0, by omega, rfl, HO3.out, K3.out, y0, y1, lb3⟩
      case round =>
        obtain ⟨k, hk, rfl, hou, hkr, z0, z1, lbz⟩ := hrel
        have KR := Lib.hid hkr
        obtain rfl | rfl | rfl : k = 0 ∨ k = 1 ∨ k = 2 := by omega
        · obtain ⟨v4, w4, hr4, ho4, hg4⟩ := app_st (show OwnG TSt 9 stL wr w.heap.size u6 [] from hou) (src_keep (K := 9) H1.out hkr) (by simp; omega) hkr.size
          have K4 := Lib.hid (hkr.grown hg4 fun k hk => OwnG.block hou k hk)
          have HO4 := Lib.hid ho4
          obtain ⟨o4, c4, hv4, _⟩ := OwnG.len ho4
          subst hv4
          have q0 := (K4.out.cell lb).trans (show w.cell? ⟨b, 0, none⟩ = some (.slice o1 l1.length c1) from P0.out)
          have q1 := (K4.out.cell lb).trans (show w.cell? ⟨b, 1, none⟩ = some (.slice o2 l2.length c2) from P1.out)
          have lb4 := Nat.lt_of_lt_of_le lb K4.out.size
          clear hou hkr ho4 hg4
          go_wp2_with (at_builtin; refine wpList_app_run _ _ 47 _ _ rfl rfl rfl rfl hr4 ?_)
          go_roundw
          case rel => exact ⟨1, by omega, rfl, HO4.out, K4.out, q0, q1, lb4⟩
          case measure => simp [intOf]
        · obtain ⟨v4, w4, hr4, ho4, hg4⟩ := app_st (show OwnG TSt 9 stL wr w.heap.size u6 l1 from hou) (src_keep (K := 9) H2.out hkr) (by omega) hkr.size
          have K4 := Lib.hid (hkr.grown hg4 fun k hk => OwnG.block hou k hk)
          have HO4 := Lib.hid ho4
          obtain ⟨o4, c4, hv4, _⟩ := OwnG.len ho4
          subst hv4
          have q0 := (K4.out.cell lb).trans (show w.cell? ⟨b, 0, none⟩ = some (.slice o1 l1.length c1) from P0.out)
          have q1 := (K4.out.cell lb).trans (show w.cell? ⟨b, 1, none⟩ = some (.slice o2 l2.length c2) from P1.out)
          have lb4 := Nat.lt_of_lt_of_le lb K4.out.size
          clear hou hkr ho4 hg4
          go_wp2_with (at_builtin; refine wpList_app_run _ _ 47 _ _ rfl rfl rfl rfl hr4 ?_)
          go_roundw
          case rel => exact ⟨2, by omega, rfl, (by have h := HO4.out; rw [List.length_append] at h; exact h), K4.out, q0, q1, lb4⟩
          case measure => simp [intOf]
        · have HOU := Lib.hid (show OwnG TSt 9 stL wr w.heap.size u6 (l1 ++ l2) from hou)
          clear hou hkr
          go_wp2
          refine bodyPost_ret (by simp [results, Tryz.results52, go_sem]; rfl) rfl ?_
          exact ⟨_, rfl, HOU.out, KR.out⟩
end Go.Proofs.YtnndmdfjdodiiaaGreat
