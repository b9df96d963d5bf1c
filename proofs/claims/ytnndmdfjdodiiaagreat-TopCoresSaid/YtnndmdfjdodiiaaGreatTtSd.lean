/- Package solve: things. -/
import Derived.Test.YtnndmdfjdodiiaaGreatTtSc
namespace Go.Proofs.YtnndmdfjdodiiaaGreat
open Go.ChangeShapes Go.WideShapes Go.RowKit Go.Maps
set_option linter.unusedVariables false
set_option linter.unusedSimpArgs false

theorem markS_false {S : Nat → Bool} {e d : Nat} (h : mark S e d = false) : S d = false := by
  unfold mark at h
  split at h
  · cases h
  · exact h
theorem markS_self (S : Nat → Bool) (e : Nat) : mark S e e = true := by unfold mark; rw [if_pos rfl]
theorem OwnG.atoms {w : World} {base : Nat} {v : Value} {l : List Sv.At} (h : OwnG TAt 6 atC w base v l) : IsAtoms w v l := by
  obtain ⟨oa, cap, e, h1, h2⟩ := OwnG.len h
  refine ⟨oa, cap, e, h1, h2, fun hne => ?_⟩
  obtain ⟨g, cap', e', hb, hl, hc⟩ := OwnG.cells atC_len h hne
  rw [e] at e'
  injection e' with q1
  exact ⟨g, 0, q1, hl, hc⟩
/-- The atoms ahead of a place that are to be the same. -/
def idxK (atoms : List Sv.At) (holds : List Bool) (k : Nat) : List Nat := (List.range k).filter fun i => decide ((atoms.getD i ⟨0, 0, 0⟩).kind = 2) && holds.getD i false
def litK (i : Nat) : Int := -((i + 1 : Nat) : Int)
theorem idxK_succ (atoms : List Sv.At) (holds : List Bool) (k : Nat) : idxK atoms holds (k + 1) = idxK atoms holds k ++ if (decide ((atoms.getD k ⟨0, 0, 0⟩).kind = 2) && holds.getD k false) = true then [k] else [] := by
  unfold idxK
  rw [List.range_succ, List.filter_append]
  congr 1
  by_cases h : (decide ((atoms.getD k ⟨0, 0, 0⟩).kind = 2) && holds.getD k false) = true
  · rw [if_pos h, List.filter_cons, if_pos h]; rfl
  · rw [if_neg h, List.filter_cons, if_neg h]; rfl
theorem idxK_lt {atoms : List Sv.At} {holds : List Bool} {k : Nat} : ∀ i ∈ idxK atoms holds k, i < k := fun i hi => List.mem_range.1 (List.mem_filter.1 hi).1
theorem idxK_len (atoms : List Sv.At) (holds : List Bool) (k : Nat) : (idxK atoms holds k).length ≤ k := by
  have := List.length_filter_le (fun i => decide ((atoms.getD i ⟨0, 0, 0⟩).kind = 2) && holds.getD i false) (List.range k)
  rw [List.length_range] at this
  exact this
theorem atoms_pr {f : Sv.Frm} (hok : FmOK f) {holds : List Bool} {k : Nat} (hk : k ≤ f.atoms.length) : PrOK f.terms.length ((idxK f.atoms holds k).map (Sv.pairAt f.atoms)) := by
  intro p hp
  obtain ⟨i, hi, rfl⟩ := List.mem_map.1 hp
  have hl : i < f.atoms.length := Nat.lt_of_lt_of_le (idxK_lt i hi) hk
  have h2 := (List.mem_filter.1 hi).2
  rw [Bool.and_eq_true] at h2
  have h3 := of_decide_eq_true h2.1
  unfold Sv.pairAt
  have e : f.atoms.getD i ⟨0, 0, 0⟩ = f.atoms[i] := by rw [List.getD_eq_getElem?_getD, List.getElem?_eq_getElem hl]; rfl
  rw [e] at h3 ⊢
  rcases hok.a _ (List.getElem_mem hl) with q | ⟨_, q1, q2, q3⟩
  · omega
  · simp only; omega
theorem find_range {n i : Nat} {p : Nat → Bool} (hi : i < n) (hp : p i = true) (hlt : ∀ j, j < i → p j = false) : (List.range n).find? p = some i := by
  rw [List.find?_range_eq_some]
  exact ⟨hp, List.mem_range.2 hi, fun j hj => by rw [hlt j hj]; rfl⟩
theorem own_lit (w : World) (base : Nat) (x : Int) (hb : base ≤ w.heap.size) : OwnI (w.alloc (.cells #[.int .i64 x] TI)) base (.slice (some ⟨w.heap.size, 0, none⟩) 1 1) [x] :=
  ⟨rfl, .inr ⟨w.heap.size, 1, #[.int .i64 x], rfl, hb, heap_alloc_at _ _ _ rfl, Nat.le_refl _, by unfold maxLen; omega, rfl, rfl⟩⟩
/-- What things tells. -/
def ThP (w0 w : World) (b : Nat) (L : FmL) (f : Sv.Frm) (fuel : Int) (M : SvM) (s : Sv.SvS) (holds : List Bool) (e : Ending) (w' : World) : Prop :=
  FrN w w' ∧ ∃ M' : SvM, M'.oA = M.oA ∧ M'.cA = M.cA ∧ match Sv.violF f holds with
    | none => ∃ gc, e = .returned (.slice (some ⟨gc, 0, none⟩) f.terms.length f.terms.length) ∧ w'.heap[gc]? = some (.cells (iv (Sv.classOf f holds)).toArray TI (0, 0)) ∧ SvL w0 w' b L f fuel M' s
    | some c => e = .returned (.slice none 0 0) ∧ SvL w0 w' b L f fuel M' ⟨s.cls ++ [c], s.steps ++ [⟨3, c⟩], s.used⟩
def pstT14 (wA : World) (b g11 : Nat) (tv pv : Value) (ia ib : Int) (base : Nat) (kl : List Int) (S : Nat → Bool) : Nat → Value → World → Prop
  | 0, v, _ => v = .pointer (some ⟨b, 0, none⟩)
  | 1, v, _ => v = .pointer (some ⟨b, 0, none⟩)
  | 2, v, _ => v = .pointer (some ⟨b, 0, none⟩)
  | 3, v, _ => v = .pointer (some ⟨b, 0, none⟩)
  | 4, v, _ => v = tv
  | 5, v, _ => v = pv
  | 6, v, _ => v = .pointer (some ⟨g11, 1, none⟩)
  | 7, v, _ => v = .int .i64 ia
  | 8, v, _ => v = .pointer (some ⟨g11, 2, none⟩)
  | 9, v, _ => v = .int .i64 ib
  | 10, v, w => ∃ ov cv, v = .tuple #[.slice ov kl.length cv, fa0] ∧ OwnI w base (.slice ov kl.length cv) kl
  | 11, v, w => ∃ ov cv, v = .tuple #[.slice ov kl.length cv, fa0] ∧ OwnI w base (.slice ov kl.length cv) kl
  | 12, v, w => ∃ ov cv, v = .slice ov kl.length cv ∧ OwnI w base (.slice ov kl.length cv) kl
  | 13, v, _ => v = fa0
  | 14, v, w => ∃ b', v = .pointer (some ⟨b', 0, none⟩) ∧ wA.heap.size ≤ b' ∧ TyB w b' TFa ∧ (S 16 = false → Blk w b' #[.int .i64 0, .int .i64 0])
  | 15, v, w => ∃ ov cv, v = .slice ov kl.length cv ∧ OwnI w base (.slice ov kl.length cv) kl
  | 16, _, _ => True
  | _, _, _ => True
theorem pstT14_keep {wA : World} {b g11 : Nat} {tv pv : Value} {ia ib : Int} {base : Nat} {kl : List Int} {S : Nat → Bool} {w w' : World} {e : Nat} (he : e ≠ 16) (k : Keep NoS w w') : ∀ (d : Nat) (v : Value), pstT14 wA b g11 tv pv ia ib base kl S d v w → pstT14 wA b g11 tv pv ia ib base kl (mark S e) d v w'
  | 0, v, h => h
  | 1, v, h => h
  | 2, v, h => h
  | 3, v, h => h
  | 4, v, h => h
  | 5, v, h => h
  | 6, v, h => h
  | 7, v, h => h
  | 8, v, h => h
  | 9, v, h => h
  | 10, v, h => by
    obtain ⟨ov, cv, e1, h1⟩ := h
    exact ⟨ov, cv, e1, h1.keep k⟩
  | 11, v, h => by
    obtain ⟨ov, cv, e1, h1⟩ := h
    exact ⟨ov, cv, e1, h1.keep k⟩
  | 12, v, h => by
    obtain ⟨ov, cv, e1, h1⟩ := h
    exact ⟨ov, cv, e1, h1.keep k⟩
  | 13, v, h => h
  | 14, v, h => by
    obtain ⟨b', e1, h0, h1, h2⟩ := h
    exact ⟨b', e1, h0, h1.keep k, fun hm => (h2 (markS_false hm)).keep k⟩
  | 15, v, h => by
    obtain ⟨ov, cv, e1, h1⟩ := h
    exact ⟨ov, cv, e1, h1.keep k⟩
  | 16, v, h => h
  | n + 17, v, h => trivial
theorem pstT14_store {wA : World} {b g11 : Nat} {tv pv : Value} {ia ib : Int} {base : Nat} {kl : List Int} {S : Nat → Bool} {w w' : World} {b' : Nat} (hb : TyB w b' TFa) (o : OneB w w' b' TFa) : ∀ (d : Nat) (v : Value), d ≠ 16 → pstT14 wA b g11 tv pv ia ib base kl S d v w → pstT14 wA b g11 tv pv ia ib base kl (mark S 16) d v w'
  | 0, v, _, h => h
  | 1, v, _, h => h
  | 2, v, _, h => h
  | 3, v, _, h => h
  | 4, v, _, h => h
  | 5, v, _, h => h
  | 6, v, _, h => h
  | 7, v, _, h => h
  | 8, v, _, h => h
  | 9, v, _, h => h
  | 10, v, _, h => by
    obtain ⟨ov, cv, e1, h1⟩ := h
    exact ⟨ov, cv, e1, own_same h1 fun q hq => o.other q (own_neT h1 hb (by decide) q hq)⟩
  | 11, v, _, h => by
    obtain ⟨ov, cv, e1, h1⟩ := h
    exact ⟨ov, cv, e1, own_same h1 fun q hq => o.other q (own_neT h1 hb (by decide) q hq)⟩
  | 12, v, _, h => by
    obtain ⟨ov, cv, e1, h1⟩ := h
    exact ⟨ov, cv, e1, own_same h1 fun q hq => o.other q (own_neT h1 hb (by decide) q hq)⟩
  | 13, v, _, h => h
  | 14, v, _, h => by
    obtain ⟨b2, e1, h0, h1, h2⟩ := h
    refine ⟨b2, e1, h0, ?_, fun hm => by rw [markS_self] at hm; cases hm⟩
    by_cases e : b2 = b'
    · subst e; exact o.ty
    · obtain ⟨A, hA⟩ := h1
      exact ⟨A, (o.other b2 e).trans hA⟩
  | 15, v, _, h => by
    obtain ⟨ov, cv, e1, h1⟩ := h
    exact ⟨ov, cv, e1, own_same h1 fun q hq => o.other q (own_neT h1 hb (by decide) q hq)⟩
  | 16, v, hd, h => absurd rfl hd
  | n + 17, v, _, h => trivial
set_option maxRecDepth 100000 in
set_option maxHeartbeats 16000000 in
theorem things_any (w0 w : World) (b : Nat) (L : FmL) (f : Sv.Frm) (fuel : Int) (M : SvM) (s : Sv.SvS) (g : Nat) (holds : List Bool) (h : SvL w0 w b L f fuel M s) (hF : IsForm w0 L f) (hok : FmOK f) (hg : BoolsT w g holds) (hhl : holds.length = f.atoms.length) (hc : s.cls.length ≤ 10000) (hs : s.steps.length ≤ 10000) :
    Calls Tryz.prog 53 #[.pointer (some ⟨b, 0, none⟩), .slice (some ⟨g, 0, none⟩) f.atoms.length f.atoms.length] w (ThP w0 w b L f fuel M s holds) := by
  have HS := Lib.hid h
  have HOK := Lib.hid hok
  have HG := Lib.hid hg
  have HHL := Lib.hid hhl
  have HCL := Lib.hid hc
  have HSL := Lib.hid hs
  have hm20 : f.atoms.length ≤ 20 := hok.n
  have hn60 : f.terms.length ≤ 60 := hok.t.n
  have HT := Lib.hid (hF.t.keep h.k)
  have HA := Lib.hid (OwnG.atoms h.a)
  obtain ⟨y0, y1, y2, y3, y4, y5, y6, y7, y8, y9, yl⟩ := svC_cells h.bk
  have Y0 := Lib.hid y0
  have Y4 := Lib.hid y4
  have YL := Lib.hid yl
  obtain ⟨Q, hQ⟩ : ∃ Q, Q = ThP w0 w b L f fuel M s holds := ⟨_, rfl⟩
  have HQ := Lib.hid hQ
  rw [← hQ]
  obtain ⟨m, hm⟩ : ∃ m, f.atoms.length = m := ⟨_, rfl⟩
  have HM := Lib.hid hm
  rw [hm] at HA y4 Y4 hm20 HHL ⊢
  obtain ⟨n, hn⟩ : ∃ n, f.terms.length = n := ⟨_, rfl⟩
  have HN := Lib.hid hn
  rw [hn] at HT y0 Y0 hn60
  clear h hF hok hg hhl hc hs hQ hm hn y1 y2 y3 y5 y6 y7 y8 y9 y0
  go_enter Tryz.func53, Tryz.ntmps53
  go_wp2
  go_loopw [22, 5, 6] (fun s vp vl wr => ∃ k : Nat, k ≤ m ∧ s = .int .i64 k ∧ OwnP wr w.heap.size vp ((idxK f.atoms holds k).map (Sv.pairAt f.atoms)) ∧ OwnI wr w.heap.size vl ((idxK f.atoms holds k).map litK) ∧ Keep NoS w wr) (fun s _ _ _ => (m - intOf s).toNat)
  case atStart => exact ⟨0, by omega, rfl, OwnG.nil _ _, OwnI.nil _ _, by (repeat' (with_reducible first | assumption | exact HK.out | exact keR | refine keA ?_ | refine keS ?_ fun h => absurd h (by omega) | refine keN ?_ | refine keD ?_))⟩
  case round =>
  obtain ⟨k, hk, rfl, hop, hol, hkr⟩ := hrel
  have HOP := Lib.hid hop
  have HOL := Lib.hid hol
  have KR := Lib.hid hkr
  obtain ⟨po, pc, hpv, _⟩ := OwnG.len (show OwnG T2 2 prC _ _ _ _ from hop)
  obtain ⟨lo, lc, hlv⟩ := hol.len
  rw [List.length_map] at hpv hlv
  subst hpv
  subst hlv
  clear hop hol hkr y4 yl
  by_cases hkl : k < m
  case pos =>
    have hlt : (k : Int) < (m : Int) := by omega
    have hkm : k < f.atoms.length := by rw [HM.out]; exact hkl
    have hkh : k < holds.length := by rw [HHL.out]; exact hkl
    obtain ⟨ba, fa, hoa, hba, p0, p1, p2, p3, p4, p5⟩ := (HA.out.keep KR.out).at hkm
    rw [hoa]
    have HIX := Lib.hid (idxK_succ f.atoms holds k)
    have ea : f.atoms.getD k ⟨0, 0, 0⟩ = f.atoms[k] := by rw [List.getD_eq_getElem?_getD, List.getElem?_eq_getElem hkm]; rfl
    have eh : holds.getD k false = holds[k] := by rw [List.getD_eq_getElem?_getD, List.getElem?_eq_getElem hkh]; rfl
    rw [ea, eh] at HIX
    have HPA : Hid (Sv.pairAt f.atoms k = ((f.atoms[k]).a, (f.atoms[k]).b)) := Lib.hid (by unfold Sv.pairAt; rw [ea])
    have HAO := Lib.hid (HOK.out.a _ (List.getElem_mem hkm))
    have hq0 : wr.cell? ⟨g, k, none⟩ = some (.bool holds[k]) := cell_of_heap (o := k) ((HG.out.fr (FrI.of KR.out)).1) (by simp [hkh])
    have hql := lt_of_heap (HG.out.fr (FrI.of KR.out)).1
    have hil := idxK_len f.atoms holds k
    have ka : Keep NoS wr (wr.alloc (.cells #[.int .i64 (f.atoms[k]).kind, .int .i64 (f.atoms[k]).a, .int .i64 (f.atoms[k]).b, .slice none 0 0, .int .i64 0, .int .i64 0] TAt)) := (Keep.refl _ _).alloc _
    have HBA : Hid ((wr.alloc (.cells #[.int .i64 (f.atoms[k]).kind, .int .i64 (f.atoms[k]).a, .int .i64 (f.atoms[k]).b, .slice none 0 0, .int .i64 0, .int .i64 0] TAt)).heap[wr.heap.size]? = some (.cells #[.int .i64 (f.atoms[k]).kind, .int .i64 (f.atoms[k]).a, .int .i64 (f.atoms[k]).b, .slice none 0 0, .int .i64 0, .int .i64 0] TAt (0, 0))) := Lib.hid (heap_alloc_at _ _ _ rfl)
    have K6 := Lib.hid (KR.out.both ka)
    have hq6 := (ka.cell hql).trans hq0
    have hql6 := Nat.lt_of_lt_of_le hql ka.size
    have HOP6 : Hid (OwnP _ w.heap.size _ _) := Lib.hid (OwnG.keep (show OwnG T2 2 prC _ _ _ _ from HOP.out) ka)
    have HOL6 := Lib.hid (HOL.out.keep ka)
    generalize f.atoms[k] = at1 at *
    generalize holds[k] = is at *
    obtain ⟨kd, xa, xb⟩ := at1
    simp only at p0 p1 p2 K6 HBA HPA HAO HIX hq6 hql6 HOP6 HOL6
    clear ka hq0 hql HOP HOL ea eh
    go_upto_region 6 with fail
    generalize wr.alloc (.cells #[.int .i64 kd, .int .i64 xa, .int .i64 xb, .slice none 0 0, .int .i64 0, .int .i64 0] TAt) = w6 at *
    generalize wr.heap.size = b6 at *
    clear p0 p1 p2 p3 p4 p5 hba
    have a0 := cell_of_heap (o := 0) HBA.out rfl
    have a1 := cell_of_heap (o := 1) HBA.out rfl
    have a2 := cell_of_heap (o := 2) HBA.out rfl
    have al := lt_of_heap HBA.out
    by_cases hboth : kd = 2 ∧ is = true
    case neg =>
      have HIN : Hid (idxK f.atoms holds (k + 1) = idxK f.atoms holds k) := Lib.hid (HIX.out.trans (by rw [if_neg (by simpa using hboth), List.append_nil]))
      by_cases hkd : kd = 2
      · subst hkd
        have his : is = false := by cases is <;> simp_all
        subst his
        clear HIX hboth
        go_wp2
        go_roundw
        case rel => exact ⟨k + 1, by omega, by go_num, by rw [HIN.out]; exact HOP6.out, by rw [HIN.out]; exact HOL6.out, K6.out⟩
        case measure => simp [intOf]; omega
      · have e1 : (kd == 2) = false := by rw [beq_eq_false_iff_ne]; exact hkd
        clear HIX hboth hkd
        go_wp2
        go_roundw
        case rel => exact ⟨k + 1, by omega, by go_num, by rw [HIN.out]; exact HOP6.out, by rw [HIN.out]; exact HOL6.out, K6.out⟩
        case measure => simp [intOf]; omega
    case pos =>
      obtain ⟨rfl, rfl⟩ := hboth
      have HIN : Hid (idxK f.atoms holds (k + 1) = idxK f.atoms holds k ++ [k]) := Lib.hid (HIX.out.trans (by rw [if_pos (by simp)]))
      have HI1 : Hid ((idxK f.atoms holds (k + 1)).map (Sv.pairAt f.atoms) = (idxK f.atoms holds k).map (Sv.pairAt f.atoms) ++ [(xa, xb)]) := Lib.hid (by rw [HIN.out, List.map_append, List.map_singleton, HPA.out])
      have HI2 : Hid ((idxK f.atoms holds (k + 1)).map litK = (idxK f.atoms holds k).map litK ++ [litK k]) := Lib.hid (by rw [HIN.out, List.map_append]; rfl)
      have elk : litK k = -((k : Int) + 1) := by unfold litK; omega
      rw [elk] at HI2
      have kb : Keep NoS w6 (w6.alloc (.cells #[.int .i64 xa, .int .i64 xb] T2)) := (Keep.refl _ _).alloc _
      obtain ⟨vp7, w7, hr7, ho7, hg7, _⟩ := app_pair (x := xa) (y := xb) (show OwnP _ _ _ _ from OwnG.keep (show OwnG T2 2 prC _ _ _ _ from HOP6.out) kb) (b := w6.heap.size) (blk_at _ _ rfl) (by rw [List.length_map]; omega) (K6.out.both kb).size
      have KP7 : Keep NoS w w7 := (K6.out.both kb).grown hg7 fun q hq => OwnG.block (show OwnG T2 2 prC _ _ _ _ from HOP6.out) q hq
      obtain ⟨po7, pc7, hpv7, _⟩ := OwnG.len (show OwnG T2 2 prC _ _ _ _ from ho7)
      subst hpv7
      have HOL7 : OwnI w7 w.heap.size (.slice lo (idxK f.atoms holds k).length lc) ((idxK f.atoms holds k).map litK) := by
        refine own_same (HOL6.out.keep kb) fun q hq => hg7.block q ((HOL6.out.keep kb).ltT q hq) fun e => ?_
        obtain ⟨A, hA⟩ := own_atT (show OwnG T2 2 prC _ _ _ _ from HOP6.out) e.symm
        exact own_neT HOL6.out ⟨A, hA⟩ (by decide) q hq rfl
      have kc : Keep NoS w7 (w7.alloc (.cells #[.int .i64 (-((k : Int) + 1))] TI)) := (Keep.refl _ _).alloc _
      obtain ⟨vl9, w9, hr9, ho9, hg9, _⟩ := app_oneI (HOL7.keep kc) (b := w7.heap.size) (blk_at _ _ rfl) (by rw [List.length_map]; omega) (KP7.both kc).size
      have HP9 : Hid (OwnP w9 w.heap.size (.slice po7 _ pc7) _) := Lib.hid (by
        refine own_same (OwnG.keep (show OwnG T2 2 prC _ _ _ _ from ho7) kc) fun q hq => hg9.block q (OwnG.lt (OwnG.keep (show OwnG T2 2 prC _ _ _ _ from ho7) kc) q hq) fun e => ?_
        obtain ⟨A, hA⟩ := own_atT (HOL7.keep kc) e.symm
        exact own_neT (OwnG.keep (show OwnG T2 2 prC _ _ _ _ from ho7) kc) ⟨A, hA⟩ (by decide) q hq rfl)
      have HL9 := Lib.hid ho9
      have K9 := Lib.hid ((KP7.both kc).grown hg9 fun q hq => HOL7.block q hq)
      obtain ⟨lo9, lc9, hlv9⟩ := ho9.len
      subst hlv9
      rw [List.length_append, List.length_map, List.length_singleton] at hr7 hr9 HP9 HL9
      clear kb ho7 hg7 KP7 HOL7 kc ho9 hg9 HIX HPA HIN elk HOP6 HOL6
      go_wp2_with (at_builtin; first | refine wpList_app_run _ _ 32 _ _ rfl rfl rfl rfl hr7 ?_ | refine wpList_app_run _ _ 22 _ _ rfl rfl rfl rfl hr9 ?_)
      go_roundw
      case rel => exact ⟨k + 1, by omega, by go_num, by rw [HI1.out]; exact HP9.out, by rw [HI2.out]; exact HL9.out, K9.out⟩
      case measure => simp [intOf]; omega
  case neg =>
    have hlt : ¬ (k : Int) < (m : Int) := by omega
    obtain rfl : m = k := by omega
    have HSI : Hid (Sv.sameIdx f.atoms holds = idxK f.atoms holds m) := Lib.hid (by unfold Sv.sameIdx idxK; rw [HM.out])
    have HPR := Lib.hid (atoms_pr HOK.out (holds := holds) (k := m) (by rw [HM.out]; exact Nat.le_refl _))
    have hil := idxK_len f.atoms holds m
    have HXL : Hid (∀ i ∈ idxK f.atoms holds m, i < m) := Lib.hid (fun i hi => idxK_lt i hi)
    generalize idxK f.atoms holds m = idx at *
    have hpl : (idx.map (Sv.pairAt f.atoms)).length = idx.length := List.length_map _
    have CL := Lib.hid (classes_any wr L.ot po L.ct pc f.terms (idx.map (Sv.pairAt f.atoms)) (by rw [HN.out]; exact HT.out.keep KR.out) (by rw [hpl]; exact HOP.out.pairs) HOK.out.t.ok HPR.out (by rw [hpl]; omega))
    have HCE : Hid (Sv.classOf f holds = Cl.classF f.terms (idx.map (Sv.pairAt f.atoms))) := Lib.hid (by unfold Sv.classOf; rw [HSI.out])
    have HVF : Hid (Sv.violF f holds = ((List.range m).find? (Sv.violB f.atoms holds (Cl.classF f.terms (idx.map (Sv.pairAt f.atoms))))).map fun i => ((i + 1 : Nat) : Int) :: (Cl.whyF f.terms (idx.map (Sv.pairAt f.atoms)) (Sv.pairAt f.atoms i).1 (Sv.pairAt f.atoms i).2 idx.length (List.range idx.length)).map fun k => litK (idx.getD k 0)) := Lib.hid (by
      unfold Sv.violF
      simp only
      rw [HSI.out, HM.out, hpl]
      rfl)
    have HRB : Hid (∀ a b : Int, Cl.relB f.terms (idx.map (Sv.pairAt f.atoms)) a b = decide (Cl.clAt (Cl.classF f.terms (idx.map (Sv.pairAt f.atoms))) a = Cl.clAt (Cl.classF f.terms (idx.map (Sv.pairAt f.atoms))) b)) := Lib.hid (fun a b => rfl)
    have HCLN : Hid ((Cl.classF f.terms (idx.map (Sv.pairAt f.atoms))).length = n) := Lib.hid ((Cl.class_ok HPR.out).len.trans HN.out)
    have CW := Lib.hid (fun w' (kk : Keep NoS wr w') (a b : Nat) (ha : a < f.terms.length) (hb : b < f.terms.length) (hr : Cl.relB f.terms (idx.map (Sv.pairAt f.atoms)) a b = true) => cwhy_any w' L.ot po L.ct pc f.terms (idx.map (Sv.pairAt f.atoms)) a b (by rw [HN.out]; exact (HT.out.keep KR.out).keep kk) (by rw [hpl]; exact (HOP.out.pairs).keep kk) HOK.out.t HPR.out (by rw [hpl]; omega) ha hb hr)
    rw [hpl, HN.out] at CL
    have HWS := Lib.hid (fun (a b : Int) => Cl.why_sub (terms := f.terms) (same := idx.map (Sv.pairAt f.atoms)) (a := a) (b := b) idx.length (List.range idx.length))
    rw [hpl, HN.out] at CW
    generalize Cl.classF f.terms (idx.map (Sv.pairAt f.atoms)) = cl at *
    generalize idx.map (Sv.pairAt f.atoms) = ps at *
    have y0 := (KR.out.cell YL.out).trans Y0.out
    have yl := Nat.lt_of_lt_of_le YL.out KR.out.size
    have HLI : Hid (IsInts wr (.slice lo idx.length lc) (idx.map litK)) := Lib.hid (HOL.out.ints fun x hx => by
      obtain ⟨i, hi, rfl⟩ := List.mem_map.1 hx
      have := HXL.out i hi
      unfold litK I64
      omega)
    clear hk hkl hpl HOP HOL HSI
    have hnI := hil
    generalize hnn : idx.length = nI at *
    have HNI := Lib.hid hnn
    clear hnn hil
    go_wp2_with fail
    refine CL.out.mono ?_
    rintro e w6 ⟨gc, rfl, hgc, hgw, hk6⟩
    have HGC := Lib.hid hgc
    have K6 := Lib.hid hk6
    have KW6 := Lib.hid (KR.out.both hk6)
    have y4 := (KW6.out.cell YL.out).trans Y4.out
    have yl := Nat.lt_of_lt_of_le YL.out KW6.out.size
    clear hgc hgw hk6 CL y0
    obtain ⟨wr0, hwr0⟩ : ∃ wr0, wr0 = wr := ⟨_, rfl⟩
    subst hwr0
    go_wp2
    clear y4 yl
    go_loopw [63] (fun s wr => ∃ k : Nat, k ≤ m ∧ s = .int .i64 k ∧ Keep NoS w6 wr ∧ ∀ j, j < k → Sv.violB f.atoms holds cl j = false) (fun s _ => (m - intOf s).toNat)
    case atStart => exact ⟨0, by omega, rfl, by (repeat' (with_reducible first | assumption | exact HK.out | exact keR | refine keA ?_ | refine keS ?_ fun h => absurd h (by omega) | refine keN ?_ | refine keD ?_)), fun j hj => by omega⟩
    case round =>
    obtain ⟨k, hk, rfl, hkr, hno⟩ := hrel
    have K2 := Lib.hid hkr
    have HNO := Lib.hid hno
    clear hkr hno
    by_cases hkl : k < m
    case neg =>
      have hlt : ¬ (k : Int) < (m : Int) := by omega
      obtain rfl : m = k := by omega
      have HVN : Hid (Sv.violF f holds = none) := Lib.hid (HVF.out.trans (by
        rw [List.find?_eq_none.2 fun i hi => by rw [HNO.out i (List.mem_range.1 hi)]; decide]
        rfl))
      go_wp2
      rw [HQ.out]
      refine ⟨FrN.of (KW6.out.both K2.out), M, rfl, rfl, ?_⟩
      rw [HVN.out, HN.out]
      exact ⟨gc, rfl, by rw [HCE.out]; exact (K2.out.block gc (lt_of_heap HGC.out) fun _ h => h).trans HGC.out, HS.out.keep (KW6.out.both K2.out)⟩
    case pos =>
    have hlt : (k : Int) < (m : Int) := by omega
    have hkm : k < f.atoms.length := by rw [HM.out]; exact hkl
    have hkh : k < holds.length := by rw [HHL.out]; exact hkl
    obtain ⟨ba, fa, hoa, hba, p0, p1, p2, p3, p4, p5⟩ := (HA.out.keep (KW6.out.both K2.out)).at hkm
    rw [hoa]
    have ea : f.atoms.getD k ⟨0, 0, 0⟩ = f.atoms[k] := by rw [List.getD_eq_getElem?_getD, List.getElem?_eq_getElem hkm]; rfl
    have eh : holds.getD k false = holds[k] := by rw [List.getD_eq_getElem?_getD, List.getElem?_eq_getElem hkh]; rfl
    have HVB : Hid (Sv.violB f.atoms holds cl k = (decide ((f.atoms[k]).kind = 2) && (!holds[k] && decide (Cl.clAt cl (f.atoms[k]).a = Cl.clAt cl (f.atoms[k]).b)))) := Lib.hid (by unfold Sv.violB; rw [ea, eh])
    have HPA : Hid (Sv.pairAt f.atoms k = ((f.atoms[k]).a, (f.atoms[k]).b)) := Lib.hid (by unfold Sv.pairAt; rw [ea])
    have HAO := Lib.hid (HOK.out.a _ (List.getElem_mem hkm))
    have hgr := HG.out.fr (FrI.of (KW6.out.both K2.out))
    have hq0 : wr.cell? ⟨g, k, none⟩ = some (.bool holds[k]) := cell_of_heap (o := k) hgr.1 (by simp [hkh])
    have hql := lt_of_heap hgr.1
    have ka : Keep NoS wr (wr.alloc (.cells #[.int .i64 (f.atoms[k]).kind, .int .i64 (f.atoms[k]).a, .int .i64 (f.atoms[k]).b, .slice none 0 0, .int .i64 0, .int .i64 0] TAt)) := (Keep.refl _ _).alloc _
    have HBA : Hid ((wr.alloc (.cells #[.int .i64 (f.atoms[k]).kind, .int .i64 (f.atoms[k]).a, .int .i64 (f.atoms[k]).b, .slice none 0 0, .int .i64 0, .int .i64 0] TAt)).heap[wr.heap.size]? = some (.cells #[.int .i64 (f.atoms[k]).kind, .int .i64 (f.atoms[k]).a, .int .i64 (f.atoms[k]).b, .slice none 0 0, .int .i64 0, .int .i64 0] TAt (0, 0))) := Lib.hid (heap_alloc_at _ _ _ rfl)
    have K7 := Lib.hid (K2.out.both ka)
    have hq7 := (ka.cell hql).trans hq0
    have hql7 := Nat.lt_of_lt_of_le hql ka.size
    have hgc := ((K2.out.both ka).block gc (lt_of_heap HGC.out) fun _ h => h).trans HGC.out
    generalize f.atoms[k] = at1 at *
    generalize holds[k] = is at *
    obtain ⟨kd, xa, xb⟩ := at1
    simp only at p0 p1 p2 K7 HBA HPA HAO HVB hq7 hql7 hgc
    clear ka hq0 hql ea eh hgr
    go_upto_region 13 with fail
    generalize wr.alloc (.cells #[.int .i64 kd, .int .i64 xa, .int .i64 xb, .slice none 0 0, .int .i64 0, .int .i64 0] TAt) = w7 at *
    generalize wr.heap.size = g11 at *
    clear p0 p1 p2 p3 p4 p5 hba
    have a0 := cell_of_heap (o := 0) HBA.out rfl
    have a1 := cell_of_heap (o := 1) HBA.out rfl
    have a2 := cell_of_heap (o := 2) HBA.out rfl
    have al := lt_of_heap HBA.out
    rcases HAO.out with ⟨g1, g2, g3⟩ | ⟨g1, g2, g3, g4⟩
    · simp only at g1
      subst g1
      have HNX : Hid (∀ j, j < k + 1 → Sv.violB f.atoms holds cl j = false) := Lib.hid (fun j hj => by
        rcases Nat.lt_or_ge j k with q | q
        · exact HNO.out j q
        · obtain rfl : j = k := by omega
          rw [HVB.out]; rfl)
      clear HVB HNO g2 g3 hgc HAO
      go_quiet (fail)
      have K8 := Lib.hid (K7.out.drewN nq)
      go_wp2
      go_roundw
      case rel => exact ⟨k + 1, by omega, by go_num, K8.out, HNX.out⟩
      case measure => simp [intOf]; omega
    · simp only at g1 g2 g3 g4
      subst g1
      cases is
      case true =>
        have HNX : Hid (∀ j, j < k + 1 → Sv.violB f.atoms holds cl j = false) := Lib.hid (fun j hj => by
          rcases Nat.lt_or_ge j k with q | q
          · exact HNO.out j q
          · obtain rfl : j = k := by omega
            rw [HVB.out]; simp)
        clear HVB HNO g2 g3 g4 hgc HAO
        go_quiet (fail)
        have K8 := Lib.hid (K7.out.drewN nq)
        go_wp2
        go_roundw
        case rel => exact ⟨k + 1, by omega, by go_num, K8.out, HNX.out⟩
        case measure => simp [intOf]; omega
      case false =>
        obtain ⟨ia, rfl⟩ : ∃ i : Nat, xa = i := ⟨xa.toNat, by omega⟩
        obtain ⟨ib, rfl⟩ : ∃ i : Nat, xb = i := ⟨xb.toNat, by omega⟩
        rw [HN.out] at g4
        have hia : ia < n := by omega
        have hib : ib < n := by omega
        have hiaI : (ia : Int) < (n : Int) := by omega
        have hibI : (ib : Int) < (n : Int) := by omega
        have c0 := blk_cl hgc HCLN.out hia
        have c1 := blk_cl hgc HCLN.out hib
        have cgl := lt_of_heap hgc
        have HAB := Lib.hid (HRB.out (ia : Int) (ib : Int))
        generalize Cl.clAt cl (ia : Int) = za at *
        generalize Cl.clAt cl (ib : Int) = zb at *
        by_cases hz : za = zb
        case neg =>
          have e1 : (za != zb) = true := by rw [bne_iff_ne]; exact hz
          have HNX : Hid (∀ j, j < k + 1 → Sv.violB f.atoms holds cl j = false) := Lib.hid (fun j hj => by
            rcases Nat.lt_or_ge j k with q | q
            · exact HNO.out j q
            · obtain rfl : j = k := by omega
              rw [HVB.out]; simp [hz])
          clear HVB HNO g2 g3 g4 hgc HAO hz HAB
          go_quiet (fail)
          have K8 := Lib.hid (K7.out.drewN nq)
          go_wp2
          go_roundw
          case rel => exact ⟨k + 1, by omega, by go_num, K8.out, HNX.out⟩
          case measure => simp [intOf]; omega
        case pos =>
          subst hz
          have HVS : Hid (Sv.violF f holds = some (((k + 1 : Nat) : Int) :: (Cl.whyF f.terms ps (ia : Int) (ib : Int) nI (List.range nI)).map fun k => litK (idx.getD k 0))) := Lib.hid (HVF.out.trans (by
            rw [find_range hkl (by rw [HVB.out]; simp) HNO.out, Option.map_some, HPA.out]))
          have CW := Lib.hid (fun w' (kk : Keep NoS w6 w') => CW.out w' (K6.out.both kk) ia ib hia hib (by rw [HAB.out]; simp))
          have HWS := Lib.hid (HWS.out (ia : Int) (ib : Int))
          clear HVB HNO g2 g3 g4 hgc HAO HAB HRB HVF
          generalize Cl.whyF f.terms ps (ia : Int) (ib : Int) nI (List.range nI) = whyL at *
          go_quiet (fail)
          have K8 := Lib.hid (K7.out.drewN nq)
          obtain ⟨wA, hwA⟩ : ∃ wA : World, wA = w7.drewN nq := ⟨_, rfl⟩
          rw [← hwA] at K8 ⊢
          have k8 : Keep NoS w7 wA := by rw [hwA]; exact (Keep.refl _ _).drewN _
          have a1 := (k8.cell al).trans a1
          have a2 := (k8.cell al).trans a2
          have al := Nat.lt_of_lt_of_le al k8.size
          have y0 := ((KW6.out.both K8.out).cell YL.out).trans Y0.out
          have yl := Nat.lt_of_lt_of_le YL.out (KW6.out.both K8.out).size
          clear hwA k8 hq7 hql7 c0 c1 cgl a0
          have KA := K8
          go_upto_region 14 with fail
          refine wp_region_inv (fun w' => Keep NoS wA w') (pstT14 wA b g11 (.slice L.ot n L.ct) (.slice po nI pc) (ia : Int) (ib : Int) w6.heap.size (natI whyL)) (by kernel_rfl) (by kernel_rfl) (by kernel_rfl) (by kernel_rfl) (Keep.refl _ _).drew _ (fun σ => by
            show putAll _ σ [0, 1, 2, 3, 4, 5, 6, 7, 8, 9, 10, 11, 12, 13, 14, 15, 16] _ = _
            simp only [putAll, List.getElem?_toArray, List.getElem?_cons_zero, List.getElem?_cons_succ, Act.put, List.setIfInBounds_toArray, List.set_cons_zero, List.set_cons_succ]
            rfl) ?_ ?_
          · intro S σ w1 hC e he HK
            have he : e < 17 := he
            have hC : Keep NoS wA w1 := hC
            obtain rfl | rfl | rfl | rfl | rfl | rfl | rfl | rfl | rfl | rfl | rfl | rfl | rfl | rfl | rfl | rfl | rfl : e = 0 ∨ e = 1 ∨ e = 2 ∨ e = 3 ∨ e = 4 ∨ e = 5 ∨ e = 6 ∨ e = 7 ∨ e = 8 ∨ e = 9 ∨ e = 10 ∨ e = 11 ∨ e = 12 ∨ e = 13 ∨ e = 14 ∨ e = 15 ∨ e = 16 := by omega
            · refine wpAt rfl rfl fun K hK => ?_
              go_simp
              exact hK _ _ ⟨hC, fun d hd hs h => pstT14_keep (by decide) (Keep.refl _ _) d _ h, _, rfl, rfl⟩
            · have h0 : σ 0 = .pointer (some ⟨b, 0, none⟩) := HK.post 0 (by kernel_rfl)
              rw [h0]
              have y0' := (hC.cell yl).trans y0
              have yl' := Nat.lt_of_lt_of_le yl hC.size
              refine wpAt rfl rfl fun K hK => ?_
              go_simp
              exact hK _ _ ⟨hC, fun d hd hs h => pstT14_keep (by decide) (Keep.refl _ _) d _ h, _, rfl, rfl⟩
            · have h1 : σ 1 = .pointer (some ⟨b, 0, none⟩) := HK.post 1 (by kernel_rfl)
              rw [h1]
              have y0' := (hC.cell yl).trans y0
              have yl' := Nat.lt_of_lt_of_le yl hC.size
              refine wpAt rfl rfl fun K hK => ?_
              go_simp
              exact hK _ _ ⟨hC, fun d hd hs h => pstT14_keep (by decide) (Keep.refl _ _) d _ h, _, rfl, rfl⟩
            · have h2 : σ 2 = .pointer (some ⟨b, 0, none⟩) := HK.post 2 (by kernel_rfl)
              rw [h2]
              have y0' := (hC.cell yl).trans y0
              have yl' := Nat.lt_of_lt_of_le yl hC.size
              refine wpAt rfl rfl fun K hK => ?_
              go_simp
              exact hK _ _ ⟨hC, fun d hd hs h => pstT14_keep (by decide) (Keep.refl _ _) d _ h, _, rfl, rfl⟩
            · have h3 : σ 3 = .pointer (some ⟨b, 0, none⟩) := HK.post 3 (by kernel_rfl)
              rw [h3]
              have y0' := (hC.cell yl).trans y0
              have yl' := Nat.lt_of_lt_of_le yl hC.size
              refine wpAt rfl rfl fun K hK => ?_
              go_simp
              exact hK _ _ ⟨hC, fun d hd hs h => pstT14_keep (by decide) (Keep.refl _ _) d _ h, _, rfl, rfl⟩
            · refine wpAt rfl rfl fun K hK => ?_
              go_simp
              exact hK _ _ ⟨hC, fun d hd hs h => pstT14_keep (by decide) (Keep.refl _ _) d _ h, _, rfl, rfl⟩
            · have a1' := (hC.cell al).trans a1
              have a2' := (hC.cell al).trans a2
              have al' := Nat.lt_of_lt_of_le al hC.size
              refine wpAt rfl rfl fun K hK => ?_
              go_simp
              exact hK _ _ ⟨hC, fun d hd hs h => pstT14_keep (by decide) (Keep.refl _ _) d _ h, _, rfl, rfl⟩
            · have h6 : σ 6 = .pointer (some ⟨g11, 1, none⟩) := HK.post 6 (by kernel_rfl)
              rw [h6]
              have a1' := (hC.cell al).trans a1
              have a2' := (hC.cell al).trans a2
              have al' := Nat.lt_of_lt_of_le al hC.size
              refine wpAt rfl rfl fun K hK => ?_
              go_simp
              exact hK _ _ ⟨hC, fun d hd hs h => pstT14_keep (by decide) (Keep.refl _ _) d _ h, _, rfl, rfl⟩
            · have a1' := (hC.cell al).trans a1
              have a2' := (hC.cell al).trans a2
              have al' := Nat.lt_of_lt_of_le al hC.size
              refine wpAt rfl rfl fun K hK => ?_
              go_simp
              exact hK _ _ ⟨hC, fun d hd hs h => pstT14_keep (by decide) (Keep.refl _ _) d _ h, _, rfl, rfl⟩
            · have h8 : σ 8 = .pointer (some ⟨g11, 2, none⟩) := HK.post 8 (by kernel_rfl)
              rw [h8]
              have a1' := (hC.cell al).trans a1
              have a2' := (hC.cell al).trans a2
              have al' := Nat.lt_of_lt_of_le al hC.size
              refine wpAt rfl rfl fun K hK => ?_
              go_simp
              exact hK _ _ ⟨hC, fun d hd hs h => pstT14_keep (by decide) (Keep.refl _ _) d _ h, _, rfl, rfl⟩
            · have h4 : σ 4 = .slice L.ot n L.ct := HK.post 4 (by kernel_rfl)
              rw [h4]
              have h5 : σ 5 = .slice po nI pc := HK.post 5 (by kernel_rfl)
              rw [h5]
              have h7 : σ 7 = .int .i64 ia := HK.post 7 (by kernel_rfl)
              rw [h7]
              have h9 : σ 9 = .int .i64 ib := HK.post 9 (by kernel_rfl)
              rw [h9]
              refine wpAt rfl rfl fun K hK => ?_
              go_simp
              refine (CW.out _ (KA.out.both hC)).mono ?_
              rintro e w2 ⟨v2, rfl, ho2, hk2⟩
              obtain ⟨o2, c2, rfl⟩ := ho2.len
              exact hK _ _ ⟨hC.both hk2, fun d hd hs h => pstT14_keep (by decide) (hk2) d _ h, _, rfl, ⟨o2, c2, rfl, World.ownsRow_mono ho2 (KA.out.both hC).size⟩⟩
            · obtain ⟨ov, cv, e1, ho1⟩ := HK.post 10 (by kernel_rfl)
              rw [e1]
              refine wpAt rfl rfl fun K hK => ?_
              go_simp
              exact hK _ _ ⟨hC, fun d hd hs h => pstT14_keep (by decide) (Keep.refl _ _) d _ h, _, rfl, ⟨ov, cv, rfl, ho1⟩⟩
            · obtain ⟨ov, cv, e1, ho1⟩ := HK.post 11 (by kernel_rfl)
              rw [e1]
              refine wpAt rfl rfl fun K hK => ?_
              go_simp
              exact hK _ _ ⟨hC, fun d hd hs h => pstT14_keep (by decide) (Keep.refl _ _) d _ h, _, rfl, ⟨ov, cv, rfl, ho1⟩⟩
            · obtain ⟨ov, cv, e1, ho1⟩ := HK.post 11 (by kernel_rfl)
              rw [e1]
              refine wpAt rfl rfl fun K hK => ?_
              go_simp
              exact hK _ _ ⟨hC, fun d hd hs h => pstT14_keep (by decide) (Keep.refl _ _) d _ h, _, rfl, rfl⟩
            · refine wpAt rfl rfl fun K hK => ?_
              go_simp
              exact hK _ _ ⟨hC.alloc _, fun d hd hs h => pstT14_keep (by decide) ((Keep.refl _ _).alloc _) d _ h, _, rfl, ⟨w1.heap.size, rfl, hC.size, ⟨_, heap_alloc_at _ _ _ rfl⟩, fun _ => blk_at _ _ rfl⟩⟩
            · obtain ⟨ov, cv, e1, ho1⟩ := HK.post 12 (by kernel_rfl)
              rw [e1]
              refine wpAt rfl rfl fun K hK => ?_
              go_simp
              exact hK _ _ ⟨hC, fun d hd hs h => pstT14_keep (by decide) (Keep.refl _ _) d _ h, _, rfl, ⟨ov, cv, rfl, ho1⟩⟩
            · have h13 : σ 13 = fa0 := HK.post 13 (by kernel_rfl)
              rw [h13]
              obtain ⟨b2, e1, g1, t1, h1⟩ := HK.post 14 (by kernel_rfl)
              have h1 := h1 HK.self
              rw [e1]
              unfold fa0
              obtain ⟨p0, p1, f0, f1, pl⟩ := h1.two
              refine wpAt rfl rfl fun K hK => ?_
              go_simp
              refine hK _ _ ⟨?_, ?_, undef, ?_, ?_⟩
              · exact keep_at (keep_at hC _ g1) _ g1
              · intro d hd hs h
                exact pstT14_store t1 (set2_B t1 ⟨by decide, by decide⟩ _ _) d _ hd h
              · rfl
              · trivial
          · intro S σ w9 hC hS hP
            have hC : Keep NoS wA w9 := hC
            obtain ⟨ov, cv, e15, ho15⟩ : ∃ ov cv, σ 15 = .slice ov (natI whyL).length cv ∧ OwnI w9 w6.heap.size (.slice ov (natI whyL).length cv) (natI whyL) := hP 15 (by show 15 < 17; omega)
            have HW9 := Lib.hid ho15
            have K9 := Lib.hid (K8.out.both hC)
            rw [e15]
            refine NoPanic.normal ?_
            clear hC hS hP ho15 e15 a1 a2 al y0 yl CW KA
            rw [natI_len] at HW9 ⊢
            have hwlt : ∀ j ∈ whyL, j < nI := fun j hj => List.mem_range.1 (HWS.out.subset hj)
            have HWI : Hid (IsInts w9 (.slice ov whyL.length cv) (natI whyL)) := Lib.hid (HW9.out.ints fun x hx => by
              obtain ⟨j, hj, rfl⟩ := List.mem_map.1 hx
              have := hwlt j hj
              unfold I64
              omega)
            have hwl20 : whyL.length ≤ 20 := by
              have := HWS.out.length_le
              rw [List.length_range] at this
              omega
            have HLT := Lib.hid hwlt
            have HO10 := Lib.hid (own_lit w9 w9.heap.size ((k : Int) + 1) (Nat.le_refl _))
            have K10 : Hid (Keep NoS w9 (w9.alloc (.cells #[.int .i64 ((k : Int) + 1)] TI))) := Lib.hid ((Keep.refl _ _).alloc _)
            have HL9 := Lib.hid (HLI.out.keep (K6.out.both K9.out))
            have KW9 := Lib.hid (KW6.out.both K9.out)
            clear hwlt HW9
            generalize hwn : whyL.length = nW at *
            have HWN := Lib.hid hwn
            clear hwn
            go_wp2
            go_loopw [109, 14] (fun s vc wr => ∃ q : Nat, q ≤ nW ∧ s = .int .i64 q ∧ OwnI wr w9.heap.size vc (((k : Int) + 1) :: (whyL.take q).map fun j => litK (idx.getD j 0)) ∧ Keep NoS w9 wr) (fun s _ _ => (nW - intOf s).toNat)
            case atStart => exact ⟨0, by omega, rfl, HO10.out, K10.out⟩
            case round =>
            obtain ⟨q, hq, rfl, hoc, hkq⟩ := hrel
            have HOC := Lib.hid hoc
            have KQ := Lib.hid hkq
            obtain ⟨co, cc, hcv⟩ := hoc.len
            have hcl : (((k : Int) + 1) :: (whyL.take q).map fun j => litK (idx.getD j 0)).length = q + 1 := by simp [HWN.out]; omega
            rw [hcl] at hcv
            subst hcv
            have HCX : Hid (∀ x ∈ (((k : Int) + 1) :: (whyL.take q).map fun j => litK (idx.getD j 0)), I64 x) := Lib.hid (fun x hx => by
              unfold I64
              rcases List.mem_cons.1 hx with rfl | hx
              · omega
              · obtain ⟨j, hj, rfl⟩ := List.mem_map.1 hx
                have h1 := HLT.out j (List.mem_of_mem_take hj)
                have h2 := HXL.out (idx.getD j 0) (by rw [List.getD_eq_getElem?_getD, List.getElem?_eq_getElem (by rw [HNI.out]; exact h1)]; exact List.getElem_mem _)
                unfold litK
                omega)
            clear hoc hkq hcl
            by_cases hqn : q < nW
            case pos =>
              have hqlt : (q : Int) < (nW : Int) := by omega
              have hqW : q < whyL.length := by rw [HWN.out]; exact hqn
              have hqN : q < (natI whyL).length := by rw [natI_len]; exact hqW
              obtain ⟨wb, wf, wc, hwv, hwb, w0'⟩ := (HWI.out.keep KQ.out).at hqN
              injection hwv with q1 q2 q3
              clear q2
              subst q1
              subst q3
              have hjn := HLT.out _ (List.getElem_mem hqW)
              have ejx : (natI whyL)[q] = ((whyL[q] : Nat) : Int) := by simp [natI]
              rw [ejx] at w0'
              have HTK : Hid ((whyL.take (q + 1)).map (fun j => litK (idx.getD j 0)) = (whyL.take q).map (fun j => litK (idx.getD j 0)) ++ [litK (idx.getD whyL[q] 0)]) := Lib.hid (by rw [List.take_succ_eq_append_getElem hqW, List.map_append]; rfl)
              generalize whyL[q] = j at *
              have hjI : (j : Int) < (nI : Int) := by omega
              have hjl : j < (idx.map litK).length := by rw [List.length_map, HNI.out]; exact hjn
              obtain ⟨lb, lf, lc', hlv, hlb, l0⟩ := (HL9.out.keep KQ.out).at hjl
              injection hlv with q1 q2 q3
              clear q2
              subst q1
              subst q3
              have elx : (idx.map litK)[j] = litK (idx.getD j 0) := by
                rw [List.getElem_map, List.getD_eq_getElem?_getD, List.getElem?_eq_getElem (by rw [HNI.out]; exact hjn)]; rfl
              rw [elx] at l0
              generalize litK (idx.getD j 0) = lx at *
              have ka : Keep NoS wr (wr.alloc (.cells #[.int .i64 lx] TI)) := (Keep.refl _ _).alloc _
              obtain ⟨v', w', hr, ho', hg, _⟩ := app_oneI (HOC.out.keep ka) (b := wr.heap.size) (blk_at _ _ rfl) (by simp [HWN.out]; omega) (KQ.out.both ka).size
              have HO' : Hid (OwnI w' w9.heap.size v' (((k : Int) + 1) :: (whyL.take (q + 1)).map fun j => litK (idx.getD j 0))) := Lib.hid (by rw [HTK.out]; exact ho')
              have K' := Lib.hid ((KQ.out.both ka).grown hg fun z hz => HOC.out.block z hz)
              clear ka ho' hg HOC HTK HCX ejx elx hjl hqN
              go_wp2_with (at_builtin; refine wpList_app_run _ _ 22 _ _ rfl rfl rfl rfl hr ?_)
              go_roundw
              case rel => exact ⟨q + 1, by omega, by go_num, HO'.out, K'.out⟩
              case measure => simp [intOf]; omega
            case neg =>
              have hqlt : ¬ (q : Int) < (nW : Int) := by omega
              obtain rfl : nW = q := by omega
              rw [List.take_of_length_le (by rw [HWN.out]; exact Nat.le_refl _)] at HOC HCX
              have HVS2 : Hid (Sv.violF f holds = some (((k : Int) + 1) :: whyL.map fun j => litK (idx.getD j 0))) := Lib.hid (HVS.out.trans rfl)
              have hcl : (((k : Int) + 1) :: whyL.map fun j => litK (idx.getD j 0)).length ≤ 1000 := by simp [HWN.out]; omega
              generalize ((k : Int) + 1) :: whyL.map (fun j => litK (idx.getD j 0)) = c at *
              have CS := Lib.hid (sstep_any w0 wr b L f fuel M s 3 co (nW + 1) cc c (HS.out.keep (KW9.out.both KQ.out)) (.inr rfl) (HOC.out.intsT HCX.out) hcl HCL.out HSL.out)
              unfold stV at CS
              clear hcl HOC HCX HVS
              go_wp2_with fail
              refine CS.out.mono ?_
              rintro e w12 ⟨rfl, M', m1, m2, hs12, hf12⟩
              have HS12 := Lib.hid hs12
              have F12 := Lib.hid hf12
              have M1 := Lib.hid m1
              have M2 := Lib.hid m2
              clear hs12 hf12 m1 m2 CS
              go_wp2
              rw [HQ.out]
              refine ⟨(FrN.of (KW9.out.both KQ.out)).trans F12.out, M', M1.out, M2.out, ?_⟩
              rw [HVS2.out]
              exact ⟨rfl, HS12.out⟩
end Go.Proofs.YtnndmdfjdodiiaaGreat
