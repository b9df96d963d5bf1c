/- The law TopTerms: the form. -/
import Derived.Test.YtnndmdfjdodiiaaGreatTtTc
import Derived.Deep.CutBlock
namespace Go.Proofs.YtnndmdfjdodiiaaGreat
open Go.ChangeShapes Go.WideShapes Go.RowKit Go.Maps
set_option linter.unusedVariables false
set_option linter.unusedSimpArgs false

def headsT (k : Nat) : List Cl.Tm := (List.range k).map fun i : Nat => ⟨(i : Int), []⟩
theorem headsT_succ (k : Nat) : headsT (k + 1) = headsT k ++ [⟨(k : Int), []⟩] := by unfold headsT; rw [List.range_succ, List.map_append]; rfl
theorem headsT_len (k : Nat) : (headsT k).length = k := by unfold headsT; rw [List.length_map, List.length_range]
theorem TmV.snoc {l : List Cl.Tm} (h : TmV l) (hl : l.length ≤ 50) {t : Cl.Tm} (h0 : 0 ≤ t.head ∧ t.head ≤ 1000) (hk : t.kids.length ≤ 8) (hx : ∀ x ∈ t.kids, 0 ≤ x ∧ x < (l.length : Int)) : TmV (l ++ [t]) := by
  refine ⟨by rw [List.length_append, List.length_singleton]; omega, fun i hi => ?_⟩
  by_cases hil : i < l.length
  · rw [List.getElem_append_left hil]
    exact h.t i hil
  · rw [List.length_append, List.length_singleton] at hi
    have e : i = l.length := by omega
    subst e
    rw [List.getElem_append_right (Nat.le_refl _)]
    simp only [Nat.sub_self, List.getElem_cons_zero]
    exact ⟨h0.1, by omega, hk, hx⟩
theorem TmV.heads (k : Nat) (hk : k ≤ 40) : TmV (headsT k) := by
  induction k with
  | zero => exact ⟨by simp [headsT], fun i hi => absurd hi (by simp [headsT])⟩
  | succ k ih =>
    rw [headsT_succ]
    exact (ih (by omega)).snoc (by rw [headsT_len]; omega) ⟨by simp only; omega, by simp only; omega⟩ (by simp) (fun x hx => by cases hx)
theorem same_le (E : List Sv.En) : (Sv.sameE E).length ≤ E.length := by unfold Sv.sameE; rw [List.length_map]; exact List.length_filter_le _ _
theorem apart_le (E : List Sv.En) : (Sv.apartE E).length ≤ E.length := by unfold Sv.apartE; rw [List.length_map]; exact List.length_filter_le _ _
/-- Pairs that are told. -/
def EnOK (n : Nat) (E : List Sv.En) : Prop := ∀ e ∈ E, 0 ≤ e.a ∧ e.a < e.b ∧ e.b < (n : Int)
theorem tdiv_64 {x k : Int} (hk : 2 ≤ k) (hx : I64 x) : I64 (x.tdiv k) := by
  unfold I64 at *
  have h : (x.tdiv k).natAbs = x.natAbs / k.natAbs := Int.natAbs_tdiv x k
  have h2 : x.natAbs / k.natAbs ≤ x.natAbs / 2 := Nat.div_le_div_left (by omega) (by omega)
  omega
set_option maxRecDepth 100000 in
set_option maxHeartbeats 32000000 in
theorem topTerms_any (w : World) (vr vq : Value) (raw ps : List Int) (hr : IsInts w vr raw) (hp : IsInts w vq ps) :
    Calls Tryz.prog 3 #[vr, vq] w fun e w' => e = .returned (.bool true) ∧ Keep NoS w w' := by
  have HR := Lib.hid hr
  have HP := Lib.hid hp
  obtain ⟨ro, rc, rfl, hrm⟩ := hr.len
  obtain ⟨qo, qc, rfl, hqm⟩ := hp.len
  have CPK := fun w' x n h1 h2 h3 => Lib.hid (picked_any w' x n h1 h2 h3)
  obtain ⟨w1, hw1⟩ : ∃ w1 : World, w1 = w.alloc (.cells #[.slice none 0 0, .slice none 0 0, .slice none 0 0, .slice none 0 0] TFm) := ⟨_, rfl⟩
  have k1 : Keep NoS w w1 := by rw [hw1]; exact (Keep.refl _ _).alloc _
  have HT1 : Hid (TmF w w1 w.heap.size [] (.slice none 0 0)) := Lib.hid ⟨k1, Nat.le_refl _, by rw [hw1]; exact heap_alloc_at _ _ _ rfl, TermsT.nil _ _⟩
  clear hr hp k1
  go_enter Tryz.func3, Tryz.ntmps3
  go_upto_region 2 with fail
  rw [← hw1]
  clear hw1
  have HGB : Hid (w.heap.size ≤ w.heap.size) := Lib.hid (Nat.le_refl _)
  generalize w.heap.size = b at HT1 HGB ⊢
  go_wp2
  go_loopw [6] (fun s wr => ∃ (k : Nat) (v : Value), k ≤ 3 ∧ s = .int .i64 k ∧ TmF w wr b (headsT k) v) (fun s _ => (3 - intOf s).toNat)
  case atStart => exact ⟨0, _, by omega, rfl, HT1.out⟩
  case round =>
  obtain ⟨k, v, hk, rfl, ht⟩ := hrel
  have HT := Lib.hid ht
  clear ht
  by_cases hkl : k < 3
  case pos =>
    have hlt : (k : Int) < 3 := by omega
    obtain ⟨o, c, hv, _⟩ := HT.out.t.form
    rw [headsT_len] at hv
    subst hv
    have x0 := cell_of_heap (o := 0) HT.out.bk rfl
    have xl := lt_of_heap HT.out.bk
    have ka : Keep NoS wr (wr.alloc (.cells #[.int .i64 (k : Int), .slice none 0 0] TTm)) := (Keep.refl _ _).alloc _
    obtain ⟨v', w', hr, ht', g0, f0, gl⟩ := (HT.out.keep ka).app (bx := wr.heap.size) (t := ⟨(k : Int), []⟩) (blk_at _ _ rfl) (IntsT.nil _) (by rw [headsT_len]; omega)
    rw [← headsT_succ] at ht'
    have HT' := Lib.hid ht'
    obtain ⟨o', c', hv', _⟩ := HT'.out.t.form
    rw [headsT_len] at hv'
    subst hv'
    clear ka ht'
    go_wp2_with (at_builtin; refine wpList_app_run _ _ 23 _ _ rfl rfl rfl rfl hr ?_)
    go_roundw
    case rel => exact ⟨k + 1, _, by omega, by go_num, HT'.out⟩
    case measure => simp [intOf]; omega
  case neg =>
  have hlt : ¬ (k : Int) < 3 := by omega
  obtain rfl : k = 3 := by omega
  have HT3 := HT
  clear HT
  obtain ⟨wB, hwB⟩ : ∃ W : World, W = wr := ⟨_, rfl⟩
  subst hwB
  go_upto_block 2 with fail
  go_cut [7] (fun _ wx => ∃ (v : Value) (l : List Cl.Tm), 3 ≤ l.length ∧ l.length ≤ 7 ∧ TmV l ∧ TmF w wx b l v)
  case first =>
    go_wp2
    go_loopw [7] (fun s wr => ∃ (k : Nat) (v : Value) (l : List Cl.Tm), k ≤ 4 ∧ k ≤ raw.length ∧ s = .int .i64 k ∧ l.length = 3 + k ∧ TmV l ∧ TmF w wr b l v) (fun s _ => (4 - intOf s).toNat)
    case atStart => exact ⟨0, _, _, by omega, by omega, rfl, headsT_len 3, TmV.heads 3 (by omega), HT3.out⟩
    case round =>
    obtain ⟨k, v, l, hk, hkr, rfl, hll, hlv, ht⟩ := hrel
    have HT := Lib.hid ht
    have HLL := Lib.hid hll
    have HLV := Lib.hid hlv
    clear ht hlv
    by_cases hkl : k < raw.length ∧ k < 4
    case pos =>
      obtain ⟨hk1, hk2⟩ := hkl
      have hlt : (k : Int) < (raw.length : Int) := by omega
      have hlt4 : (k : Int) < 4 := by omega
      obtain ⟨o, c, hv, _⟩ := HT.out.t.form
      rw [hll] at hv
      subst hv
      obtain ⟨bc, fc, cap, hv', hbc, p0⟩ := (HR.out.keep HT.out.k).at hk1
      injection hv' with q1 q2 q3
      clear q2
      subst q1
      subst q3
      have hx64 := HR.out.all _ (List.getElem_mem hk1)
      generalize raw[k] = x at *
      have HX1 := Lib.hid hx64
      have HX2 := Lib.hid (tdiv_64 (x := x) (k := 2) (by omega) hx64)
      unfold I64 at hx64
      have x0 := cell_of_heap (o := 0) HT.out.bk rfl
      have xl := lt_of_heap HT.out.bk
      clear hll
      go_upto_region 9 with fail
      refine wp_region_by (fun w' => Keep NoS wr w') [19, 20, 21] [([0, 1, 2, 3, 4, 5, 8, 9, 10, 11, 12, 13, 14], 6), ([7], 15), ([], 16), ([17], 18), ([], 19), ([20], 21)] [] (by kernel_rfl) (by kernel_rfl) (Keep.refl _ _).drew ?_
      intro X W hne hF hcl
      have HCLS := Lib.hid hcl
      have z0 := fun x => ((hF x).cell xl).trans x0
      have zp := fun x => ((hF x).cell hbc).trans p0
      have zl := fun x => Nat.lt_of_lt_of_le xl (hF x).size
      have zm := fun x => Nat.lt_of_lt_of_le hbc (hF x).size
      clear hF hcl
      simp only [wpPlan, pickOps, List.getElem?_toArray, List.getElem?_cons_zero, List.getElem?_cons_succ, clsOf, Bool.false_eq_true, if_false]
      (repeat (quiet_step (fail))); refine wpQuiet_nil ?_
      refine wpAt rfl rfl fun K hK => ?_
      go_simp
      refine (CPK _ x 2 HX1.out (by omega) (by omega)).out.mono ?_
      rintro e w2 ⟨r1, h11, h12, rfl, hw2⟩
      subst hw2
      refine hK _ _ ⟨fun _ => HCLS.out _ (Keep.refl _ _).drew, ?_⟩
      clear hK
      (repeat (quiet_step (fail))); refine wpQuiet_nil ?_
      refine wpAt rfl rfl fun K hK => ?_
      go_simp
      rw [IntWalk.i64_in _ HX2.out, IntWalk.i64_in (3 + (k : Int)) (by omega)]
      refine (CPK _ (x.tdiv 2) (3 + (k : Int)) HX2.out (by omega) (by omega)).out.mono ?_
      rintro e w2 ⟨r2, h21, h22, rfl, hw2⟩
      subst hw2
      refine hK _ _ ⟨fun _ => HCLS.out _ (Keep.refl _ _).drew, ?_⟩
      clear hK
      (repeat (quiet_step (fail))); refine wpQuiet_nil ?_
      refine wpAt rfl rfl fun K hK => ?_
      go_simp
      have k3 : Keep NoS wr (wr.alloc (.cells #[.int .i64 r2] TI)).drew := ((Keep.refl _ _).alloc _).drew
      refine hK _ _ ⟨fun _ => HCLS.out _ k3, ?_⟩
      clear hK k3
      (repeat (quiet_step (fail))); refine wpQuiet_nil ?_
      refine wpAt rfl rfl fun K hK => ?_
      go_simp
      rw [IntWalk.i64_in (7 + r1) (by omega)]
      obtain ⟨w5, hw5⟩ : ∃ w5 : World, w5 = ((wr.alloc (.cells #[.int .i64 r2] TI)).alloc (.cells #[.int .i64 (7 + r1), .slice (some ⟨wr.heap.size, 0, none⟩) 1 1] TTm)).drew := ⟨_, rfl⟩
      rw [← hw5]
      have k5 : Keep NoS wr w5 := by rw [hw5]; exact (((Keep.refl _ _).alloc _).alloc _).drew
      have hb5 : Blk w5 (wr.heap.size + 1) #[.int .i64 (7 + r1), .slice (some ⟨wr.heap.size, 0, none⟩) 1 1] := by rw [hw5]; exact Blk.keep (blk_at _ _ (by simp)) (Keep.refl _ _).drew
      have hi5 : IntsT w5 (.slice (some ⟨wr.heap.size, 0, none⟩) 1 1) [r2] := by
        rw [hw5]
        exact (((own_lit wr 0 r2 (Nat.zero_le _)).intsT (fun y hy => by obtain rfl := List.mem_singleton.1 hy; unfold I64; omega)).keep ((Keep.refl _ _).alloc _)).keep (Keep.refl _ _).drew
      obtain ⟨v', w', hr, ht', g0, f0, gl⟩ := (HT.out.keep k5).app (bx := wr.heap.size + 1) (t := ⟨7 + r1, [r2]⟩) hb5 hi5 (by have := HLL.out; omega)
      refine hK _ _ ⟨fun _ => HCLS.out _ k5, ?_⟩
      have HT' := Lib.hid ht'
      have HLV' := Lib.hid (HLV.out.snoc (by have := HLL.out; omega) (t := ⟨7 + r1, [r2]⟩) ⟨by simp only; omega, by simp only; omega⟩ (by simp) (fun y hy => by obtain rfl := List.mem_singleton.1 hy; have := HLL.out; omega))
      obtain ⟨o', c', hv', _⟩ := HT'.out.t.form
      rw [List.length_append, HLL.out, List.length_singleton] at hv'
      subst hv'
      clear hK ht' hb5 hi5 k5 hw5 HCLS z0 zp zl zm
      (repeat (quiet_step (fail))); refine wpQuiet_nil ?_
      refine wpAt rfl rfl fun K hK => ?_
      refine wp_app_run _ _ 23 _ _ rfl rfl rfl hr ?_
      refine hK _ _ ⟨fun h => (by simp at h), ?_⟩
      clear hK hr
      (repeat (quiet_step (fail))); refine wpQuiet_nil ?_
      refine wpAt rfl rfl fun K hK => ?_
      go_simp
      refine hK _ _ ⟨fun h => (by simp at h), ?_⟩
      clear hK
      (repeat (quiet_step (fail))); refine wpQuiet_nil ?_
      refine NoPanic.normal ?_
      go_wp2
      go_roundw
      case rel => exact ⟨k + 1, _, _, by omega, by omega, by go_num, by rw [List.length_append, HLL.out]; rfl, HLV'.out, HT'.out⟩
      case measure => simp [intOf]; omega
    case neg =>
      by_cases hk1 : k < raw.length
      case pos =>
        have hlt : (k : Int) < (raw.length : Int) := by omega
        have hlt4 : ¬ (k : Int) < 4 := by omega
        clear hll
        go_wp2
        go_meet
        case rel => exact ⟨_, l, by have := HLL.out; omega, by have := HLL.out; omega, HLV.out, HT.out⟩
      case neg =>
        have hlt : ¬ (k : Int) < (raw.length : Int) := by omega
        clear hll
        go_wp2
        go_meet
        case rel => exact ⟨_, l, by have := HLL.out; omega, by have := HLL.out; omega, HLV.out, HT.out⟩
  case rest =>
  obtain ⟨v, l, hn3, hn7, hlv, ht⟩ := hcut
  have HT := Lib.hid ht
  have HLV := Lib.hid hlv
  clear ht hlv
  obtain ⟨o, c, hv, _⟩ := HT.out.t.form
  subst hv
  have HTM := Lib.hid HT.out.t.terms
  obtain ⟨n, hn⟩ : ∃ n, l.length = n := ⟨_, rfl⟩
  have HN := Lib.hid hn
  rw [hn] at HT HTM hn3 hn7
  obtain ⟨wm, hwm⟩ : ∃ W : World, W = wc := ⟨_, rfl⟩
  subst hwm
  have x0 := cell_of_heap (o := 0) HT.out.bk rfl
  have xl := lt_of_heap HT.out.bk
  have HL0 : Hid (TpL w wm wm b (.slice o n c) [] [] [] [] [] (.slice none 0 0) (.slice none 0 0) (.slice none 0 0) (.slice none 0 0) (.slice none 0 0)) := Lib.hid ⟨Fr.refl _ _, lt_of_heap HT.out.bk, HT.out.bk, OwnG.nil _ _, ⟨[], rfl, OwnG.nil _ _, fun i x c h => by simp at h⟩, OwnG.nil _ _, OwnG.nil _ _, fun q hq => (by cases hq), OwnI.nil _ _, HT.out.k, HT.out.hb, HT.out.k.size⟩
  clear hn
  go_upto_block 4 with fail
  go_cut [9, 10, 11] (fun s9 s10 s11 wx => ∃ (E : List Sv.En) (vA vD : Value), E.length ≤ 6 ∧ EnOK n E ∧ TpL w wm wx b (.slice o n c) (Sv.atomsE E) (Sv.clsE E) (Sv.sameE E) (Sv.apartE E) (Sv.placesE E) vA vD s9 s10 s11)
  case first =>
    clear x0 xl
    go_wp2
    go_loopw [12, 9, 10, 11] (fun s s9 s10 s11 wr => ∃ (k : Nat) (E : List Sv.En) (vA vD : Value), k ≤ 6 ∧ k ≤ ps.length ∧ s = .int .i64 k ∧ E.length ≤ k ∧ EnOK n E ∧ TpL w wm wr b (.slice o n c) (Sv.atomsE E) (Sv.clsE E) (Sv.sameE E) (Sv.apartE E) (Sv.placesE E) vA vD s9 s10 s11) (fun s _ _ _ _ => (6 - intOf s).toNat)
    case atStart => exact ⟨0, [], _, _, by omega, by omega, rfl, by simp, fun e he => (by cases he), HL0.out⟩
    case round =>
    obtain ⟨k, E, vA, vD, hk6, hkp, rfl, hEl, hEo, htp⟩ := hrel
    have HTP := Lib.hid htp
    have HEO := Lib.hid hEo
    obtain ⟨oA, cA, hvA, _⟩ := OwnG.len htp.a
    rw [Sv.atomsE_len] at hvA
    subst hvA
    clear htp hEo
    by_cases hc1 : k < ps.length
    case neg =>
      have hlt : ¬ (k : Int) < (ps.length : Int) := by omega
      go_wp2
      go_meet
      case rel => exact ⟨E, _, _, by omega, HEO.out, HTP.out⟩
    case pos =>
    have hlt : (k : Int) < (ps.length : Int) := by omega
    by_cases hc2 : k < 6
    case neg =>
      have hlt6 : ¬ (k : Int) < 6 := by omega
      go_wp2
      go_meet
      case rel => exact ⟨E, _, _, by omega, HEO.out, HTP.out⟩
    case pos =>
    have hlt6 : (k : Int) < 6 := by omega
    obtain ⟨bc, fc, cap, hv', hbcw, p0w⟩ := HP.out.at hc1
    injection hv' with q1 q2 q3
    clear q2
    subst q1
    subst q3
    have hx64 := HP.out.all _ (List.getElem_mem hc1)
    generalize ps[k] = x at *
    have P0 := Lib.hid p0w
    have HBC := Lib.hid hbcw
    have p0 := (HTP.out.kw.cell hbcw).trans p0w
    have hbc := Nat.lt_of_lt_of_le hbcw HTP.out.kw.size
    clear p0w hbcw
    have HX1 := Lib.hid hx64
    have HX10 := Lib.hid (tdiv_64 (x := x) (k := 10) (by omega) hx64)
    have HX100 := Lib.hid (tdiv_64 (x := x) (k := 100) (by omega) hx64)
    obtain ⟨t1, t2⟩ := HX10.out
    obtain ⟨t3, t4⟩ := HX100.out
    unfold I64 at hx64
    go_wp2_with fail
    refine (CPK _ x ((n : Int) - 1) HX1.out (by omega) (by omega)).out.mono ?_
    rintro e w2 ⟨r1, h11, h12, rfl, hw2⟩
    subst hw2
    go_wp2_with fail
    refine (CPK _ (x.tdiv 10) (1 + r1) HX10.out (by omega) (by omega)).out.mono ?_
    rintro e w3 ⟨r2, h21, h22, rfl, hw3⟩
    subst hw3
    obtain ⟨wq, hwq⟩ : ∃ W : World, W = w3 := ⟨_, rfl⟩
    subst hwq
    have hEn := Sv.atomsE_len E
    have HAT := Lib.hid (OwnG.atoms HTP.out.a)
    have x2 := cell_of_heap (o := 2) HTP.out.bk rfl
    have x2l := lt_of_heap HTP.out.bk
    have hEl6 : E.length ≤ 6 := by omega
    generalize hEN : E.length = m at *
    have HEN := Lib.hid hEN
    have HAN := Lib.hid hEn
    clear hEN hEn p0 hbc
    go_wp2
    go_loopw [16, 15] (fun s t wx => ∃ (j : Nat) (had : Bool), j ≤ m ∧ s = .int .i64 j ∧ t = .bool had ∧ wx = wq) (fun s _ _ => (m - intOf s).toNat)
    case atStart => exact ⟨0, false, by omega, rfl, rfl, rfl⟩
    case round =>
    obtain ⟨j, had, hj, rfl, rfl, hwx⟩ := hrel
    have hwx : wq = wr := hwx.symm
    subst hwx
    by_cases hjm : j < m
    case pos =>
      have hjlt : (j : Int) < (m : Int) := by omega
      have hjA : j < (Sv.atomsE E).length := by rw [HAN.out]; exact hjm
      obtain ⟨ba, fa, hoa, hba, a0, a1, a2, a3, a4, a5⟩ := HAT.out.at hjA
      subst hoa
      generalize (Sv.atomsE E)[j] = at1 at *
      obtain ⟨kd, xa, xb⟩ := at1
      simp only at a0 a1 a2
      cases had
      case true =>
        go_wp2
        go_roundw
        case rel => exact ⟨j + 1, true, by omega, by go_num, rfl, by trivial⟩
        case measure => simp [intOf]; omega
      case false =>
        cases hqa : (xa == r2)
        case false =>
          go_wp2
          go_roundw
          case rel => exact ⟨j + 1, false, by omega, by go_num, rfl, by trivial⟩
          case measure => simp [intOf]; omega
        case true =>
          cases hqb : (xb == 1 + r1)
          case false =>
            go_wp2
            go_roundw
            case rel => exact ⟨j + 1, false, by omega, by go_num, rfl, by trivial⟩
            case measure => simp [intOf]; omega
          case true =>
            go_wp2
            go_roundw
            case rel => exact ⟨j + 1, true, by omega, by go_num, rfl, by trivial⟩
            case measure => simp [intOf]; omega
    case neg =>
    have hjlt : ¬ (j : Int) < (m : Int) := by omega
    cases had
    case true =>
      go_wp2
      go_roundw
      case rel => exact ⟨k + 1, E, _, _, by omega, by omega, by go_num, by rw [HEN.out]; omega, HEO.out, HTP.out⟩
      case measure => simp [intOf]; omega
    case false =>
    have ka : Keep NoS wq (wq.alloc (.cells #[.int .i64 2, .int .i64 r2, .int .i64 (1 + r1), .slice none 0 0, .int .i64 0, .int .i64 0] TAt)) := (Keep.refl _ _).alloc _
    obtain ⟨vA1, w4, hr4, htp4, g4, f4, gl4⟩ := (HTP.out.keep ka).atom (bx := wq.heap.size) (x := ⟨2, r2, 1 + r1⟩) (blk_at _ _ rfl) (by rw [HAN.out]; omega)
    have HTP4 := Lib.hid htp4
    obtain ⟨oA1, cA1, hvA1, _⟩ := OwnG.len htp4.a
    obtain ⟨m1, hm1⟩ : ∃ m1, m1 = m + 1 := ⟨_, rfl⟩
    have HM1 := Lib.hid hm1
    rw [List.length_append, HAN.out, List.length_singleton, ← hm1] at hvA1
    clear hm1
    subst hvA1
    clear ka htp4 HTP HAT
    go_upto_region 25 with (at_builtin; refine wpList_app_run _ _ 25 _ _ rfl rfl rfl rfl hr4 ?_)
    clear hr4 g4 f4 gl4 x2 x2l hj hjm hjlt
    generalize w4.setCell ⟨b, 2, none⟩ (.slice oA1 m1 cA1) = w5 at *
    have p0 := (HTP4.out.kw.cell HBC.out).trans P0.out
    have hbc := Nat.lt_of_lt_of_le HBC.out HTP4.out.kw.size
    go_wp2_with fail
    refine (CPK _ (x.tdiv 100) 3 HX100.out (by omega) (by omega)).out.mono ?_
    rintro e w6 ⟨r3, h31, h32, rfl, hw6⟩
    subst hw6
    obtain ⟨w5, hw5⟩ : ∃ W : World, W = w6 := ⟨_, rfl⟩
    subst hw5
    by_cases hr3 : r3 = 0
    case pos =>
      subst hr3
      have hm1b : m1 ≤ 7 := by have := HM1.out; omega
      have kb : Keep NoS w5 (w5.alloc (.cells #[.int .i64 r2, .int .i64 (1 + r1)] T2)) := (Keep.refl _ _).alloc _
      obtain ⟨vY1, w7, hr7, htp7⟩ := (HTP4.out.keep kb).apart (bx := w5.heap.size) (x := r2) (y := 1 + r1) (blk_at _ _ rfl) (by have := apart_le E; have := HEN.out; omega)
      have HTP7 := Lib.hid htp7
      clear kb htp7 HTP4 p0 hbc
      go_upto_region 27 with (at_builtin; refine wpList_app_run _ _ 32 _ _ rfl rfl rfl rfl hr7 ?_)
      clear hr7
      have x2 := cell_of_heap (o := 2) HTP7.out.bk rfl
      have x3 := cell_of_heap (o := 3) HTP7.out.bk rfl
      have xl := lt_of_heap HTP7.out.bk
      have kc : Keep NoS w7 ((w7.alloc (.cells #[.int .i64 (-(m1 : Int))] TI)).alloc (.cells #[.slice (some ⟨w7.heap.size, 0, none⟩) 1 1] TLi)) := ((Keep.refl _ _).alloc _).alloc _
      have hi8 : IntsT ((w7.alloc (.cells #[.int .i64 (-(m1 : Int))] TI)).alloc (.cells #[.slice (some ⟨w7.heap.size, 0, none⟩) 1 1] TLi)) (.slice (some ⟨w7.heap.size, 0, none⟩) 1 1) [-(m1 : Int)] := ((own_lit w7 0 (-(m1 : Int)) (Nat.zero_le _)).intsT (fun y hy => by obtain rfl := List.mem_singleton.1 hy; unfold I64; omega)).keep ((Keep.refl _ _).alloc _)
      obtain ⟨vD1, w9, hr9, htp9, g9, f9, gl9⟩ := (HTP7.out.keep kc).clause (bx := w7.heap.size + 1) (x := .slice (some ⟨w7.heap.size, 0, none⟩) 1 1) (c := [-(m1 : Int)]) (blk_at _ _ (by simp)) hi8 (fun q hq e => by
        injection hq with hq
        have := HTP7.out.p.ltT q e.symm
        simp only at hq
        omega) (by rw [clsE_len, HEN.out]; omega)
      have HTP9 := Lib.hid htp9
      obtain ⟨oD1, cD1, hvD1, _⟩ := HTP9.out.c.cls.form
      generalize hln9 : List.length _ = n9 at hvD1
      clear hln9
      subst hvD1
      clear kc hi8 htp9 HTP7
      go_upto_region 28 with (at_builtin; refine wpList_app_run _ _ 26 _ _ rfl rfl rfl rfl hr9 ?_)
      clear hr9 g9 f9 gl9 x2 x3 xl
      generalize w9.setCell ⟨b, 3, none⟩ (.slice oD1 n9 cD1) = w10 at *
      have x2 := cell_of_heap (o := 2) HTP9.out.bk rfl
      have xl := lt_of_heap HTP9.out.bk
      have kd : Keep NoS w10 (w10.alloc (.cells #[.int .i64 (-(m1 : Int))] TI)) := (Keep.refl _ _).alloc _
      obtain ⟨vP1, w11, hr11, htp11⟩ := (HTP9.out.keep kd).place (bx := w10.heap.size) (x := -(m1 : Int)) (blk_at _ _ rfl) (by rw [Sv.places_len, HEN.out]; omega)
      have HTN : Hid (TpL w wm w11 b (.slice o n c) (Sv.atomsE (E ++ [⟨r2, 1 + r1, false⟩])) (Sv.clsE (E ++ [⟨r2, 1 + r1, false⟩])) (Sv.sameE (E ++ [⟨r2, 1 + r1, false⟩])) (Sv.apartE (E ++ [⟨r2, 1 + r1, false⟩])) (Sv.placesE (E ++ [⟨r2, 1 + r1, false⟩])) _ _ _ _ _) := Lib.hid (by
        have e1 : Sv.atomsE (E ++ [⟨r2, 1 + r1, false⟩]) = Sv.atomsE E ++ [⟨2, r2, 1 + r1⟩] := List.map_append
        have e2 : Sv.litE ⟨r2, 1 + r1, false⟩ E.length = -(m1 : Int) := by
          unfold Sv.litE
          rw [if_neg (by simp)]
          have := HM1.out
          have := HEN.out
          omega
        rw [e1, Sv.cls_snoc, Sv.same_snoc, Sv.apart_snoc, Sv.places_snoc, e2]
        simpa [Sv.prE] using htp11)
      have HEN2 : Hid (EnOK n (E ++ [⟨r2, 1 + r1, false⟩])) := Lib.hid (fun e he => by
        rcases List.mem_append.1 he with he | he
        · exact HEO.out e he
        · obtain rfl := List.mem_singleton.1 he
          simp only
          omega)
      clear kd htp11 HTP9
      go_wp2_with (at_builtin; refine wpList_app_run _ _ 22 _ _ rfl rfl rfl rfl hr11 ?_)
      go_roundw
      case rel => exact ⟨k + 1, E ++ [⟨r2, 1 + r1, false⟩], _, _, by omega, by omega, by go_num, by rw [List.length_append, HEN.out, List.length_singleton]; omega, HEN2.out, HTN.out⟩
      case measure => simp [intOf]; omega
    case neg =>
      have hr3b : (r3 == 0) = false := by rw [beq_eq_false_iff_ne]; exact hr3
      clear hr3
      have hm1b : m1 ≤ 7 := by have := HM1.out; omega
      have kb : Keep NoS w5 (w5.alloc (.cells #[.int .i64 r2, .int .i64 (1 + r1)] T2)) := (Keep.refl _ _).alloc _
      obtain ⟨vY1, w7, hr7, htp7⟩ := (HTP4.out.keep kb).same (bx := w5.heap.size) (x := r2) (y := 1 + r1) (blk_at _ _ rfl) (by have := same_le E; have := HEN.out; omega)
      have HTP7 := Lib.hid htp7
      clear kb htp7 HTP4 p0 hbc
      go_upto_region 30 with (at_builtin; refine wpList_app_run _ _ 32 _ _ rfl rfl rfl rfl hr7 ?_)
      clear hr7
      have x2 := cell_of_heap (o := 2) HTP7.out.bk rfl
      have x3 := cell_of_heap (o := 3) HTP7.out.bk rfl
      have xl := lt_of_heap HTP7.out.bk
      have kc : Keep NoS w7 ((w7.alloc (.cells #[.int .i64 ((m1 : Int))] TI)).alloc (.cells #[.slice (some ⟨w7.heap.size, 0, none⟩) 1 1] TLi)) := ((Keep.refl _ _).alloc _).alloc _
      have hi8 : IntsT ((w7.alloc (.cells #[.int .i64 ((m1 : Int))] TI)).alloc (.cells #[.slice (some ⟨w7.heap.size, 0, none⟩) 1 1] TLi)) (.slice (some ⟨w7.heap.size, 0, none⟩) 1 1) [(m1 : Int)] := ((own_lit w7 0 ((m1 : Int)) (Nat.zero_le _)).intsT (fun y hy => by obtain rfl := List.mem_singleton.1 hy; unfold I64; omega)).keep ((Keep.refl _ _).alloc _)
      obtain ⟨vD1, w9, hr9, htp9, g9, f9, gl9⟩ := (HTP7.out.keep kc).clause (bx := w7.heap.size + 1) (x := .slice (some ⟨w7.heap.size, 0, none⟩) 1 1) (c := [(m1 : Int)]) (blk_at _ _ (by simp)) hi8 (fun q hq e => by
        injection hq with hq
        have := HTP7.out.p.ltT q e.symm
        simp only at hq
        omega) (by rw [clsE_len, HEN.out]; omega)
      have HTP9 := Lib.hid htp9
      obtain ⟨oD1, cD1, hvD1, _⟩ := HTP9.out.c.cls.form
      generalize hln9 : List.length _ = n9 at hvD1
      clear hln9
      subst hvD1
      clear kc hi8 htp9 HTP7
      go_upto_region 31 with (at_builtin; refine wpList_app_run _ _ 26 _ _ rfl rfl rfl rfl hr9 ?_)
      clear hr9 g9 f9 gl9 x2 x3 xl
      generalize w9.setCell ⟨b, 3, none⟩ (.slice oD1 n9 cD1) = w10 at *
      have x2 := cell_of_heap (o := 2) HTP9.out.bk rfl
      have xl := lt_of_heap HTP9.out.bk
      have kd : Keep NoS w10 (w10.alloc (.cells #[.int .i64 ((m1 : Int))] TI)) := (Keep.refl _ _).alloc _
      obtain ⟨vP1, w11, hr11, htp11⟩ := (HTP9.out.keep kd).place (bx := w10.heap.size) (x := (m1 : Int)) (blk_at _ _ rfl) (by rw [Sv.places_len, HEN.out]; omega)
      have HTN : Hid (TpL w wm w11 b (.slice o n c) (Sv.atomsE (E ++ [⟨r2, 1 + r1, true⟩])) (Sv.clsE (E ++ [⟨r2, 1 + r1, true⟩])) (Sv.sameE (E ++ [⟨r2, 1 + r1, true⟩])) (Sv.apartE (E ++ [⟨r2, 1 + r1, true⟩])) (Sv.placesE (E ++ [⟨r2, 1 + r1, true⟩])) _ _ _ _ _) := Lib.hid (by
        have e1 : Sv.atomsE (E ++ [⟨r2, 1 + r1, true⟩]) = Sv.atomsE E ++ [⟨2, r2, 1 + r1⟩] := List.map_append
        have e2 : Sv.litE ⟨r2, 1 + r1, true⟩ E.length = (m1 : Int) := by
          unfold Sv.litE
          rw [if_pos rfl]
          have := HM1.out
          have := HEN.out
          omega
        rw [e1, Sv.cls_snoc, Sv.same_snoc, Sv.apart_snoc, Sv.places_snoc, e2]
        simpa [Sv.prE] using htp11)
      have HEN2 : Hid (EnOK n (E ++ [⟨r2, 1 + r1, true⟩])) := Lib.hid (fun e he => by
        rcases List.mem_append.1 he with he | he
        · exact HEO.out e he
        · obtain rfl := List.mem_singleton.1 he
          simp only
          omega)
      clear kd htp11 HTP9
      go_wp2_with (at_builtin; refine wpList_app_run _ _ 22 _ _ rfl rfl rfl rfl hr11 ?_)
      go_roundw
      case rel => exact ⟨k + 1, E ++ [⟨r2, 1 + r1, true⟩], _, _, by omega, by omega, by go_num, by rw [List.length_append, HEN.out, List.length_singleton]; omega, HEN2.out, HTN.out⟩
      case measure => simp [intOf]; omega
  case rest =>
  obtain ⟨E, vA, vD, hE6, hEo, htp⟩ := hcut
  have HTP := Lib.hid htp
  have HEO := Lib.hid hEo
  have hTt : TermsT wm w.heap.size (.slice o n c) l := HT.out.t
  have HTE := Lib.hid (hTt.fr (⟨htp.k.size, fun q A t hq ht => (htp.k.block q (lt_of_heap hq) (by
    rintro rfl
    rw [HT.out.bk] at hq
    injection hq with hq
    injection hq with _ hq
    subst hq
    exact absurd ht (by decide))).trans hq⟩ : FrI wm wc) fun q hq => htp.k.block q (hTt.lt q hq).2 (by
    rintro rfl
    obtain ⟨A, hA⟩ := hTt.ty _ hq
    rw [HT.out.bk] at hA
    injection hA with hA
    injection hA with _ hA
    exact absurd hA (by decide)))
  obtain ⟨oA, cA, hvA, _⟩ := OwnG.len htp.a
  obtain ⟨oD, cD, hvD, _⟩ := htp.c.cls.form
  obtain ⟨oS, cS, hvS, _⟩ := OwnG.len (show OwnG T2 2 prC _ _ _ _ from htp.s)
  obtain ⟨oX, cX, hvX, _⟩ := OwnG.len (show OwnG T2 2 prC _ _ _ _ from htp.x)
  obtain ⟨oP, cP, hvP⟩ := htp.p.len
  subst hvA
  subst hvD
  subst hvS
  subst hvX
  subst hvP
  obtain ⟨w1, hw1⟩ : ∃ W : World, W = wc := ⟨_, rfl⟩
  subst hw1
  have hTV := HLV.out
  have hn60 : l.length ≤ 60 := by have := HN.out; omega
  have HL : Hid (IsForm w1 ⟨o, c, oA, cA, oD, cD⟩ (Sv.frmE l E)) := Lib.hid ⟨by
    show IsTerms w1 (.slice o l.length c) l
    rw [HN.out]; exact HTE.out.terms, OwnG.atoms htp.a, htp.c.cls.cls⟩
  have hcE := cnfE E (by omega) (X := []) (fun c hc => (by cases hc)) (by simp)
  rw [List.append_nil] at hcE
  have HFO : Hid (FmOK (Sv.frmE l E)) := Lib.hid ⟨hTV, by show (Sv.atomsE E).length ≤ 20; rw [Sv.atomsE_len]; omega, fun a ha => by
    obtain ⟨e, he, rfl⟩ := List.mem_map.1 (show a ∈ Sv.atomsE E from ha)
    have := HEO.out e he
    have := HN.out
    exact .inr ⟨rfl, by show 0 ≤ e.a ∧ e.a < e.b ∧ e.b < (l.length : Int); omega⟩, by
    show CnfOK (Sv.atomsE E).length (Sv.clsE E)
    rw [Sv.atomsE_len]; exact hcE⟩
  have hPR : ∀ F : List Sv.En, (∀ e ∈ F, e ∈ E) → PrOK l.length (F.map Sv.prE) := fun F hF p hp => by
    obtain ⟨e, he, rfl⟩ := List.mem_map.1 hp
    have := HEO.out e (hF e he)
    have := HN.out
    unfold Sv.prE
    simp only
    omega
  have CDO := Lib.hid (cdo_any w1 o oS oX c cS cX l (Sv.sameE E) (Sv.apartE E) (by rw [HN.out]; exact HTE.out.terms) (OwnP.pairs htp.s) (OwnP.pairs htp.x) hTV (hPR _ fun e he => (List.mem_filter.1 he).1) (by have := same_le E; omega) (hPR _ fun e he => (List.mem_filter.1 he).1) (by have := apart_le E; omega))
  rw [HN.out] at CDO
  have CSO := Lib.hid (fun w' (k : Keep NoS w1 w') => solveE_any w' ⟨o, c, oA, cA, oD, cD⟩ l E (HL.out.keep k) HFO.out (by omega))
  unfold FmL.v fa0 at CSO
  have CSU := fun w' => Lib.hid (sure_any w')
  have CAN := fun w' x y => Lib.hid (answered_any w' x y)
  clear htp hEo hTt hcE hPR
  have x0 := cell_of_heap (o := 0) HTP.out.bk rfl
  have xl := lt_of_heap HTP.out.bk
  go_wp2_with fail
  refine CDO.out.mono ?_
  rintro e w2 ⟨hcd, hk2⟩
  have K2 := Lib.hid hk2
  clear hk2 CDO x0 xl
  rcases hcd with ⟨gc, he, hno⟩ | ⟨i, vv, pp, hpi, hrel, hfst, he, hov⟩
  · rw [HN.out] at he
    subst he
    have HNO : Hid (∀ i ∈ Sv.aidx E, Cl.relB l (Sv.sameE E) (E.getD i Sv.en0).a (E.getD i Sv.en0).b = false) := Lib.hid (fun i hi => hno _ (by rw [Sv.apartE_idx]; exact List.mem_map.2 ⟨i, hi, rfl⟩))
    have ka : Keep NoS w2 ((w2.alloc (.cells #[.int .i64 1, .slice (some ⟨gc, 0, none⟩) n n, .slice none 0 0, .int .i64 0] 39)).alloc (.cells #[.int .i64 0, .int .i64 0] TFa)) := ((Keep.refl _ _).alloc _).alloc _
    have hb17 : Blk ((w2.alloc (.cells #[.int .i64 1, .slice (some ⟨gc, 0, none⟩) n n, .slice none 0 0, .int .i64 0] 39)).alloc (.cells #[.int .i64 0, .int .i64 0] TFa)) w2.heap.size #[.int .i64 1, .slice (some ⟨gc, 0, none⟩) n n, .slice none 0 0, .int .i64 0] := Blk.old (blk_at _ _ rfl) _
    have hb18 : Blk ((w2.alloc (.cells #[.int .i64 1, .slice (some ⟨gc, 0, none⟩) n n, .slice none 0 0, .int .i64 0] 39)).alloc (.cells #[.int .i64 0, .int .i64 0] TFa)) (w2.heap.size + 1) #[.int .i64 0, .int .i64 0] := blk_at _ _ (by simp)
    have K3 := Lib.hid (K2.out.both ka)
    clear hno ka
    go_upto_region 33 with fail
    generalize (w2.alloc (.cells #[.int .i64 1, .slice (some ⟨gc, 0, none⟩) n n, .slice none 0 0, .int .i64 0] 39)).alloc (.cells #[.int .i64 0, .int .i64 0] TFa) = w3 at *
    generalize w2.heap.size = b17 at *
    generalize hb18e : b17 + 1 = b18 at hb18 ⊢
    clear hb18e
    have hbf := (K3.out.block b (lt_of_heap HTP.out.bk) fun _ h => h).trans HTP.out.bk
    have x0 := cell_of_heap (o := 0) hbf rfl
    have x1 := cell_of_heap (o := 1) hbf rfl
    have x2 := cell_of_heap (o := 2) hbf rfl
    have x3 := cell_of_heap (o := 3) hbf rfl
    have xl := lt_of_heap hbf
    have CSO := Lib.hid (CSO.out w3 K3.out)
    rw [show (Sv.frmE l E).terms.length = n from HN.out] at CSO
    clear hbf
    go_wp2_with fail
    refine CSO.out.mono ?_
    rintro e w4 ⟨⟨st, p1, p2, p3, q1, q2, q3, r1, r2, r3, u, rfl, hy, -⟩, hk4⟩
    have hst : st = 1 ∨ st = 3 := hy HNO.out
    have hd : decide (st = 3 ∨ (1 : Int) = 3 ∨ st = 1) = true := decide_eq_true (by omega)
    have CA1 := fun w' => Lib.hid (show Calls Tryz.prog 9 #[.int .i64 st, .int .i64 1] w' fun e w'' => e = .returned (.bool true) ∧ w'' = w' by have := answered_any w' st 1; rwa [hd] at this)
    clear hy hst hd
    have kv : Keep NoS w4 ((w4.alloc (.cells #[.int .i64 st, .slice p1 p2 p3, .slice q1 q2 q3, .slice none 0 0, .slice r1 r2 r3, .int .i64 u] TVd)).alloc (.cells #[.int .i64 0, .int .i64 0] TFa)) := ((Keep.refl _ _).alloc _).alloc _
    have hb19 : Blk ((w4.alloc (.cells #[.int .i64 st, .slice p1 p2 p3, .slice q1 q2 q3, .slice none 0 0, .slice r1 r2 r3, .int .i64 u] TVd)).alloc (.cells #[.int .i64 0, .int .i64 0] TFa)) w4.heap.size #[.int .i64 st, .slice p1 p2 p3, .slice q1 q2 q3, .slice none 0 0, .slice r1 r2 r3, .int .i64 u] := Blk.old (blk_at _ _ rfl) _
    have hb20 : Blk ((w4.alloc (.cells #[.int .i64 st, .slice p1 p2 p3, .slice q1 q2 q3, .slice none 0 0, .slice r1 r2 r3, .int .i64 u] TVd)).alloc (.cells #[.int .i64 0, .int .i64 0] TFa)) (w4.heap.size + 1) #[.int .i64 0, .int .i64 0] := blk_at _ _ (by simp)
    have HB17 := (hb17.keep hk4).keep kv
    have HB18 := (hb18.keep hk4).keep kv
    have K5 := Lib.hid ((K3.out.both hk4).both kv)
    clear hk4 kv hb17 hb18 CSO x0 x1 x2 x3 xl
    go_upto_region 34 with fail
    generalize (w4.alloc (.cells #[.int .i64 st, .slice p1 p2 p3, .slice q1 q2 q3, .slice none 0 0, .slice r1 r2 r3, .int .i64 u] TVd)).alloc (.cells #[.int .i64 0, .int .i64 0] TFa) = w5 at *
    generalize w4.heap.size = b19 at *
    have y0 : w5.cell? ⟨b18, 0, none⟩ = some (.int .i64 0) := HB18.cell 0
    have yl := HB18.lt
    have z0 : w5.cell? ⟨b19 + 1, 0, none⟩ = some (.int .i64 0) := hb20.cell 0
    have zl := hb20.lt
    go_wp2_with fail
    refine (CSU _).out.mono ?_
    rintro e w6 ⟨rfl, hk6⟩
    have v0 : w6.cell? ⟨b19, 0, none⟩ = some (.int .i64 st) := (hb19.keep hk6).cell 0
    have vl := (hb19.keep hk6).lt
    have c0 : w6.cell? ⟨b17, 0, none⟩ = some (.int .i64 1) := (HB17.keep hk6).cell 0
    have c1 : w6.cell? ⟨b17, 1, none⟩ = some (.slice (some ⟨gc, 0, none⟩) n n) := (HB17.keep hk6).cell 1
    have cl := (HB17.keep hk6).lt
    have K6 := Lib.hid (K5.out.both hk6)
    clear hk6 HB17 HB18 hb19 hb20 y0 yl z0 zl CSU
    go_wp2_with fail
    refine (CA1 _).out.mono ?_
    rintro e w7 ⟨rfl, hw7⟩
    subst hw7
    go_wp2
    go_ret
    exact ⟨rfl, HTP.out.kw.both K6.out⟩
  · have hKl := Cl.why_sub (terms := l) (same := Sv.sameE E) (a := pp.1) (b := pp.2) (Sv.sameE E).length (List.range (Sv.sameE E).length)
    obtain ⟨ai, hai, hpp⟩ : ∃ ai, (Sv.aidx E)[i]? = some ai ∧ pp = Sv.prE (E.getD ai Sv.en0) := by
      rw [Sv.apartE_idx, List.getElem?_map] at hpi
      rcases hq : (Sv.aidx E)[i]? with _ | ai
      · rw [hq] at hpi; cases hpi
      · rw [hq] at hpi
        injection hpi with hpi
        exact ⟨ai, rfl, hpi.symm⟩
    subst hpp
    have HAI := Lib.hid hai
    have HRE : Hid (Cl.relB l (Sv.sameE E) (E.getD ai Sv.en0).a (E.getD ai Sv.en0).b = true) := Lib.hid hrel
    have HJT := Lib.hid (Sv.judge_E l E (List.mem_of_getElem? hai) hrel)
    change (Cl.whyF l (Sv.sameE E) (E.getD ai Sv.en0).a (E.getD ai Sv.en0).b (Sv.sameE E).length (List.range (Sv.sameE E).length)).Sublist _ at hKl
    change OwnI w2 w1.heap.size vv (natI (Cl.whyF l (Sv.sameE E) (E.getD ai Sv.en0).a (E.getD ai Sv.en0).b (Sv.sameE E).length (List.range (Sv.sameE E).length))) at hov
    generalize Cl.whyF l (Sv.sameE E) (E.getD ai Sv.en0).a (E.getD ai Sv.en0).b (Sv.sameE E).length (List.range (Sv.sameE E).length) = KL at *
    rw [show (Sv.sameE E).length = (Sv.sidx E).length by rw [Sv.sameE_idx, List.length_map]] at hKl
    have HKL := Lib.hid hKl
    have hsl : (Sv.sidx E).length ≤ 6 := by have := List.length_filter_le (fun i => (E.getD i Sv.en0).s) (List.range E.length); rw [List.length_range] at this; unfold Sv.sidx; omega
    have hKlen : KL.length ≤ 6 := by have := hKl.length_le; rw [List.length_range] at this; omega
    have HOV := Lib.hid hov
    obtain ⟨ov, cv, hvv⟩ := hov.len
    rw [natI_len] at hvv
    subst hvv
    subst he
    have hi6 : i < 6 := by have := (List.getElem?_eq_some_iff.1 hai).1; have := List.length_filter_le (fun i => !(E.getD i Sv.en0).s) (List.range E.length); rw [List.length_range] at this; unfold Sv.aidx at *; omega
    clear hKl hai hrel hfst hpi hov
    obtain ⟨nK, hnK⟩ : ∃ nK, KL.length = nK := ⟨_, rfl⟩
    have HNK := Lib.hid hnK
    rw [hnK] at hKlen HOV ⊢
    clear hnK
    have ka : Keep NoS w2 ((w2.alloc (.cells #[.int .i64 2, .slice none 0 0, .slice ov nK cv, .int .i64 (i : Int)] 39)).alloc (.cells #[.int .i64 0, .int .i64 0] TFa)) := ((Keep.refl _ _).alloc _).alloc _
    have hb17 : Blk ((w2.alloc (.cells #[.int .i64 2, .slice none 0 0, .slice ov nK cv, .int .i64 (i : Int)] 39)).alloc (.cells #[.int .i64 0, .int .i64 0] TFa)) w2.heap.size #[.int .i64 2, .slice none 0 0, .slice ov nK cv, .int .i64 (i : Int)] := Blk.old (blk_at _ _ rfl) _
    have hb18 : Blk ((w2.alloc (.cells #[.int .i64 2, .slice none 0 0, .slice ov nK cv, .int .i64 (i : Int)] 39)).alloc (.cells #[.int .i64 0, .int .i64 0] TFa)) (w2.heap.size + 1) #[.int .i64 0, .int .i64 0] := blk_at _ _ (by simp)
    have K3 := Lib.hid (K2.out.both ka)
    have HOV3 := Lib.hid (HOV.out.keep ka)
    clear ka
    go_upto_region 33 with fail
    generalize (w2.alloc (.cells #[.int .i64 2, .slice none 0 0, .slice ov nK cv, .int .i64 (i : Int)] 39)).alloc (.cells #[.int .i64 0, .int .i64 0] TFa) = w3 at *
    generalize w2.heap.size = b17 at *
    generalize hb18e : b17 + 1 = b18 at hb18 ⊢
    clear hb18e
    have hbf := (K3.out.block b (lt_of_heap HTP.out.bk) fun _ h => h).trans HTP.out.bk
    have x0 := cell_of_heap (o := 0) hbf rfl
    have x1 := cell_of_heap (o := 1) hbf rfl
    have x2 := cell_of_heap (o := 2) hbf rfl
    have x3 := cell_of_heap (o := 3) hbf rfl
    have xl := lt_of_heap hbf
    have CSO := Lib.hid (CSO.out w3 K3.out)
    rw [show (Sv.frmE l E).terms.length = n from HN.out] at CSO
    clear hbf
    go_wp2_with fail
    refine CSO.out.mono ?_
    rintro e w4 ⟨⟨st, p1, p2, p3, q1, q2, q3, r1, r2, r3, u, rfl, -, hy⟩, hk4⟩
    have hst : st = 2 ∨ st = 3 := hy ⟨ai, List.mem_of_getElem? HAI.out, HRE.out⟩
    have hd : decide (st = 3 ∨ (2 : Int) = 3 ∨ st = 2) = true := decide_eq_true (by omega)
    have CA1 := fun w' => Lib.hid (show Calls Tryz.prog 9 #[.int .i64 st, .int .i64 2] w' fun e w'' => e = .returned (.bool true) ∧ w'' = w' by have := answered_any w' st 2; rwa [hd] at this)
    clear hy hst hd
    have kv : Keep NoS w4 ((w4.alloc (.cells #[.int .i64 st, .slice p1 p2 p3, .slice q1 q2 q3, .slice none 0 0, .slice r1 r2 r3, .int .i64 u] TVd)).alloc (.cells #[.int .i64 0, .int .i64 0] TFa)) := ((Keep.refl _ _).alloc _).alloc _
    have hb19 : Blk ((w4.alloc (.cells #[.int .i64 st, .slice p1 p2 p3, .slice q1 q2 q3, .slice none 0 0, .slice r1 r2 r3, .int .i64 u] TVd)).alloc (.cells #[.int .i64 0, .int .i64 0] TFa)) w4.heap.size #[.int .i64 st, .slice p1 p2 p3, .slice q1 q2 q3, .slice none 0 0, .slice r1 r2 r3, .int .i64 u] := Blk.old (blk_at _ _ rfl) _
    have hb20 : Blk ((w4.alloc (.cells #[.int .i64 st, .slice p1 p2 p3, .slice q1 q2 q3, .slice none 0 0, .slice r1 r2 r3, .int .i64 u] TVd)).alloc (.cells #[.int .i64 0, .int .i64 0] TFa)) (w4.heap.size + 1) #[.int .i64 0, .int .i64 0] := blk_at _ _ (by simp)
    have HB17 := (hb17.keep hk4).keep kv
    have HB18 := (hb18.keep hk4).keep kv
    have HOV5 := Lib.hid ((HOV3.out.keep hk4).keep kv)
    have K5 := Lib.hid ((K3.out.both hk4).both kv)
    clear hk4 kv hb17 hb18 CSO x0 x1 x2 x3 xl
    go_upto_region 34 with fail
    generalize (w4.alloc (.cells #[.int .i64 st, .slice p1 p2 p3, .slice q1 q2 q3, .slice none 0 0, .slice r1 r2 r3, .int .i64 u] TVd)).alloc (.cells #[.int .i64 0, .int .i64 0] TFa) = w5 at *
    generalize w4.heap.size = b19 at *
    have y0 : w5.cell? ⟨b18, 0, none⟩ = some (.int .i64 0) := HB18.cell 0
    have yl := HB18.lt
    have z0 : w5.cell? ⟨b19 + 1, 0, none⟩ = some (.int .i64 0) := hb20.cell 0
    have zl := hb20.lt
    go_wp2_with fail
    refine (CSU _).out.mono ?_
    rintro e w6 ⟨rfl, hk6⟩
    have v0 : w6.cell? ⟨b19, 0, none⟩ = some (.int .i64 st) := (hb19.keep hk6).cell 0
    have vl := (hb19.keep hk6).lt
    have c0 : w6.cell? ⟨b17, 0, none⟩ = some (.int .i64 2) := (HB17.keep hk6).cell 0
    have cl := (HB17.keep hk6).lt
    have HC17 := Lib.hid (HB17.keep hk6)
    have HOV6 := Lib.hid (HOV5.out.keep hk6)
    have K6 := Lib.hid (K5.out.both hk6)
    clear hk6 HB17 HB18 hb19 hb20 y0 yl z0 zl CSU
    go_wp2_with fail
    refine (CA1 _).out.mono ?_
    rintro e w7 ⟨rfl, hw7⟩
    subst hw7
    clear CA1
    have HPL := Lib.hid (HTP.out.p.keep K6.out)
    have HPI : Hid (IsInts w7 (.slice oP (Sv.placesE E).length cP) (Sv.placesE E)) := Lib.hid (HPL.out.ints fun x hx => by
      obtain ⟨j, hj, rfl⟩ := Sv.places_mem hx
      have := Sv.litE_abs (E.getD j Sv.en0) j
      unfold I64; omega)
    have hpl6 : (Sv.placesE E).length ≤ 6 := by rw [Sv.places_len]; exact hE6
    generalize hplE : (Sv.placesE E).length = np at *
    have HNP := Lib.hid hplE
    clear hplE
    obtain ⟨w6, hw6⟩ : ∃ W : World, W = w7 := ⟨_, rfl⟩
    subst hw6
    go_upto_region 39 with fail
    clear c0 cl v0 vl
    go_wp2
    go_loopw [23, 21, 22] (fun s v1 v2 wr => ∃ k : Nat, k ≤ np ∧ s = .int .i64 k ∧ OwnI wr w6.heap.size v1 (((Sv.placesE E).take k).filter fun l => decide (0 < l)) ∧ OwnI wr w6.heap.size v2 ((((Sv.placesE E).take k).filter fun l => !decide (0 < l)).map fun l => -l) ∧ (∀ q, v1.ownBlock = some q → v2.ownBlock ≠ some q) ∧ Keep NoS w6 wr) (fun s _ _ _ => (np - intOf s).toNat)
    case atStart => exact ⟨0, by omega, rfl, OwnI.nil _ _, OwnI.nil _ _, fun q hq => (by cases hq), by (repeat' (with_reducible first | assumption | exact HK.out | exact keR | refine keA ?_ | refine keS ?_ fun h => absurd h (by omega) | refine keN ?_ | refine keD ?_))⟩
    case round =>
    obtain ⟨k, hk, rfl, ho1, ho2, hap, hkr⟩ := hrel
    have HO1 := Lib.hid ho1
    have HO2 := Lib.hid ho2
    have HAP := Lib.hid hap
    have KR := Lib.hid hkr
    obtain ⟨o1, c1, hv1⟩ := ho1.len
    obtain ⟨o2, c2, hv2⟩ := ho2.len
    subst hv1
    subst hv2
    clear ho1 ho2 hap hkr
    by_cases hkn : k < np
    case pos =>
      have hknlt : (k : Int) < (np : Int) := by omega
      have hkP : k < (Sv.placesE E).length := by rw [HNP.out]; exact hkn
      obtain ⟨pb, pf, pcap, hpv, hpb, a0⟩ := (HPI.out.keep KR.out).at hkP
      injection hpv with q1 q2 q3
      clear q2
      subst q1
      subst q3
      have HX64 := Lib.hid (HPI.out.all _ (List.getElem_mem hkP))
      have HTK : Hid ((Sv.placesE E).take (k + 1) = (Sv.placesE E).take k ++ [(Sv.placesE E)[k]]) := Lib.hid (List.take_succ_eq_append_getElem hkP)
      have HXB : Hid (-1000 ≤ (Sv.placesE E)[k] ∧ (Sv.placesE E)[k] ≤ 1000) := Lib.hid (by
        obtain ⟨j, hj, e⟩ := Sv.places_mem (List.getElem_mem hkP)
        have := Sv.litE_abs (E.getD j Sv.en0) j
        rw [← e] at this
        omega)
      generalize (Sv.placesE E)[k] = x at *
      have hl1 : (((Sv.placesE E).take k).filter fun l => decide (0 < l)).length ≤ 100 := by have := List.length_filter_le (fun l : Int => decide (0 < l)) ((Sv.placesE E).take k); rw [List.length_take] at this; omega
      have hl2 : ((((Sv.placesE E).take k).filter fun l => !decide (0 < l)).map fun l => -l).length ≤ 100 := by rw [List.length_map]; have := List.length_filter_le (fun l : Int => !decide (0 < l)) ((Sv.placesE E).take k); rw [List.length_take] at this; omega
      by_cases hx : 0 < x
      case pos =>
        have F1 : Hid (((Sv.placesE E).take (k + 1)).filter (fun l => decide (0 < l)) = ((Sv.placesE E).take k).filter (fun l => decide (0 < l)) ++ [x]) := Lib.hid (by rw [HTK.out, List.filter_append]; simp [hx])
        have F2 : Hid ((((Sv.placesE E).take (k + 1)).filter (fun l => !decide (0 < l))).map (fun l => -l) = (((Sv.placesE E).take k).filter (fun l => !decide (0 < l))).map (fun l => -l)) := Lib.hid (by rw [HTK.out, List.filter_append]; simp [hx])
        generalize (((Sv.placesE E).take k).filter fun l => decide (0 < l)) = L1 at *
        generalize ((((Sv.placesE E).take k).filter fun l => !decide (0 < l)).map fun l => -l) = L2 at *
        have ka : Keep NoS wr (wr.alloc (.cells #[.int .i64 x] TI)) := (Keep.refl _ _).alloc _
        obtain ⟨v1', w', hr, ho', hg, hvv⟩ := app_oneI (HO1.out.keep ka) (b := wr.heap.size) (blk_at _ _ rfl) (by omega) (KR.out.both ka).size
        have HO1' : Hid (OwnI w' w6.heap.size v1' (((Sv.placesE E).take (k + 1)).filter fun l => decide (0 < l))) := Lib.hid (by rw [F1.out]; exact ho')
        have HO2' : Hid (OwnI w' w6.heap.size (.slice o2 L2.length c2) ((((Sv.placesE E).take (k + 1)).filter fun l => !decide (0 < l)).map fun l => -l)) := Lib.hid (by
          rw [F2.out]
          exact own_same (HO2.out.keep ka) fun q hq => hg.block q ((HO2.out.keep ka).ltT q hq) fun e => HAP.out q e.symm hq)
        have HAP' : Hid (∀ q, v1'.ownBlock = some q → (Value.slice o2 L2.length c2).ownBlock ≠ some q) := Lib.hid (fun q hq e => by
          rcases hvv with h | h
          · exact HAP.out q (h ▸ hq) e
          · rw [h] at hq
            injection hq with hq
            have := (HO2.out.keep ka).ltT q e
            omega)
        have K' := Lib.hid ((KR.out.both ka).grown hg fun q hq => HO1.out.block q hq)
        clear ka ho' hg hvv HO1 HO2 HAP F1 F2
        go_wp2_with (at_builtin; refine wpList_app_run _ _ 22 _ _ rfl rfl rfl rfl hr ?_)
        go_roundw
        case rel => exact ⟨k + 1, by omega, by go_num, HO1'.out, HO2'.out, HAP'.out, K'.out⟩
        case measure => simp [intOf]; omega
      case neg =>
        have F1 : Hid (((Sv.placesE E).take (k + 1)).filter (fun l => decide (0 < l)) = ((Sv.placesE E).take k).filter (fun l => decide (0 < l))) := Lib.hid (by rw [HTK.out, List.filter_append]; simp [hx])
        have F2 : Hid ((((Sv.placesE E).take (k + 1)).filter (fun l => !decide (0 < l))).map (fun l => -l) = (((Sv.placesE E).take k).filter (fun l => !decide (0 < l))).map (fun l => -l) ++ [-x]) := Lib.hid (by rw [HTK.out, List.filter_append, List.map_append]; simp [hx])
        generalize (((Sv.placesE E).take k).filter fun l => decide (0 < l)) = L1 at *
        generalize ((((Sv.placesE E).take k).filter fun l => !decide (0 < l)).map fun l => -l) = L2 at *
        have ka : Keep NoS wr (wr.alloc (.cells #[.int .i64 (-x)] TI)) := (Keep.refl _ _).alloc _
        obtain ⟨v2', w', hr, ho', hg, hvv⟩ := app_oneI (HO2.out.keep ka) (b := wr.heap.size) (blk_at _ _ rfl) (by omega) (KR.out.both ka).size
        have HO2' : Hid (OwnI w' w6.heap.size v2' ((((Sv.placesE E).take (k + 1)).filter fun l => !decide (0 < l)).map fun l => -l)) := Lib.hid (by rw [F2.out]; exact ho')
        have HO1' : Hid (OwnI w' w6.heap.size (.slice o1 L1.length c1) (((Sv.placesE E).take (k + 1)).filter fun l => decide (0 < l))) := Lib.hid (by
          rw [F1.out]
          exact own_same (HO1.out.keep ka) fun q hq => hg.block q ((HO1.out.keep ka).ltT q hq) fun e => HAP.out q hq e.symm)
        have HAP' : Hid (∀ q, (Value.slice o1 L1.length c1).ownBlock = some q → v2'.ownBlock ≠ some q) := Lib.hid (fun q hq e => by
          rcases hvv with h | h
          · exact HAP.out q hq (h ▸ e)
          · rw [h] at e
            injection e with e
            have := (HO1.out.keep ka).ltT q hq
            omega)
        have K' := Lib.hid ((KR.out.both ka).grown hg fun q hq => HO2.out.block q hq)
        obtain ⟨xb1, xb2⟩ := HXB.out
        clear ka ho' hg hvv HO1 HO2 HAP F1 F2
        go_wp2_with (at_builtin; refine wpList_app_run _ _ 22 _ _ rfl rfl rfl rfl hr ?_)
        go_roundw
        case rel => exact ⟨k + 1, by omega, by go_num, HO1'.out, HO2'.out, HAP'.out, K'.out⟩
        case measure => simp [intOf]; omega
    case neg =>
    have hknlt : ¬ (k : Int) < (np : Int) := by omega
    obtain rfl : np = k := by omega
    rw [List.take_of_length_le (by rw [HNP.out]; exact Nat.le_refl _)] at HO1 HO2 HAP ⊢
    have HS1 : Hid (OwnI wr w6.heap.size (.slice o1 (Sv.samesP E).length c1) (Sv.samesP E)) := HO1
    have HS2 : Hid (OwnI wr w6.heap.size (.slice o2 (Sv.apartsP E).length c2) (Sv.apartsP E)) := HO2
    change Hid _ at HAP
    rw [show ((Sv.placesE E).filter fun l => decide (0 < l)) = Sv.samesP E from rfl, show (((Sv.placesE E).filter fun l => !decide (0 < l)).map fun l => -l) = Sv.apartsP E from rfl]
    clear HO1 HO2 HAP hk hkn
    obtain ⟨w9, hw9⟩ : ∃ W : World, W = wr := ⟨_, rfl⟩
    subst hw9
    go_upto_region 46 with fail
    have k10 : Keep NoS w9 (w9.alloc (.cells (stC 3 none 0 0) TSt)) := (Keep.refl _ _).alloc _
    have HB24 : Hid ((w9.alloc (.cells (stC 3 none 0 0) TSt)).heap[w9.heap.size]? = some (.cells (stC 3 none 0 0) TSt (0, 0))) := Lib.hid (heap_alloc_at _ _ _ rfl)
    have HBS : Hid (w9.heap.size < (w9.alloc (.cells (stC 3 none 0 0) TSt)).heap.size) := Lib.hid (by simp)
    have HWI : Hid (IsInts w6 (.slice ov nK cv) (natI KL)) := Lib.hid (HOV6.out.ints fun y hy => by
      obtain ⟨j, hj, rfl⟩ := List.mem_map.1 hy
      have := List.mem_range.1 (HKL.out.subset hj)
      unfold I64; omega)
    have HW9 := Lib.hid (HWI.out.keep KR.out)
    have HC9 := Lib.hid (HC17.out.keep KR.out)
    have h64 : ∀ y ∈ Sv.placesE E, I64 y ∧ I64 (-y) := fun y hy => by
      obtain ⟨j, hj, rfl⟩ := Sv.places_mem hy
      have := Sv.litE_abs (E.getD j Sv.en0) j
      have := Sv.places_len E
      unfold I64; omega
    have HI1 : Hid (IsInts w9 (.slice o1 (Sv.samesP E).length c1) (Sv.samesP E)) := Lib.hid (HS1.out.ints fun y hy => (h64 y (List.mem_filter.1 hy).1).1)
    have HI2 : Hid (IsInts w9 (.slice o2 (Sv.apartsP E).length c2) (Sv.apartsP E)) := Lib.hid (HS2.out.ints fun y hy => by
      obtain ⟨z, hz, rfl⟩ := List.mem_map.1 hy
      exact (h64 z (List.mem_filter.1 hz).1).2)
    have HK9 := Lib.hid (K6.out.both KR.out)
    have hns : (Sv.samesP E).length = (Sv.sidx E).length := by rw [Sv.samesP_idx, List.length_map]
    have hna : (Sv.apartsP E).length = (Sv.aidx E).length := by rw [Sv.apartsP_idx, List.length_map]
    have hia : i < (Sv.apartsP E).length := by rw [hna]; exact (List.getElem?_eq_some_iff.1 HAI.out).1
    have HNS := Lib.hid hns
    have HXA : Hid ((Sv.apartsP E)[i]'hia = ((ai + 1 : Nat) : Int)) := Lib.hid (by
      have h1 : (Sv.apartsP E)[i]? = some ((ai + 1 : Nat) : Int) := by rw [Sv.apartsP_idx, List.getElem?_map, HAI.out]; rfl
      rw [List.getElem?_eq_getElem hia] at h1
      injection h1)
    have hai6 : ai < 6 := by have := (Sv.aidx_lt (List.mem_of_getElem? HAI.out)).1; omega
    have hapl : (Sv.apartsP E).length ≤ 6 := by rw [hna]; have := List.length_filter_le (fun i => !(E.getD i Sv.en0).s) (List.range E.length); rw [List.length_range] at this; unfold Sv.aidx; omega
    have hsal : (Sv.samesP E).length ≤ 6 := by rw [hns]; exact hsl
    clear h64 hns hna HS1 HS2 HOV6 HC17 HPL HPI K6 KR HWI hsl
    unfold stC at k10 HB24 HBS
    generalize hw10 : w9.alloc (.cells #[.int .i64 3, .slice none 0 0, .slice none 0 0, .int .i64 0, .int .i64 0, .int .i64 0, .slice none 0 0, .int .i64 0, .int .i64 0] TSt) = w10 at *
    clear hw10
    have HK10 := Lib.hid k10
    clear k10
    have HB24 : Hid (w10.heap[w9.heap.size]? = some (.cells (stC 3 none 0 0) TSt (0, 0))) := HB24
    have HWS9 : Hid (w9.heap.size ≤ w9.heap.size) := Lib.hid (Nat.le_refl _)
    generalize hb24 : w9.heap.size = b24 at HB24 HBS HWS9 ⊢
    have HBE := Lib.hid hb24
    clear hb24
    go_wp2
    go_loopw [25] (fun s wr => ∃ (q : Nat) (ol : Option Addr) (cl : Nat), q ≤ nK ∧ s = .int .i64 q ∧ wr.heap[b24]? = some (.cells (stC 3 ol q cl) TSt (0, 0)) ∧ OwnI wr w10.heap.size (.slice ol q cl) ((KL.take q).map fun j => -((Sv.samesP E).getD j 0)) ∧ Keep NoS w9 wr ∧ w10.heap.size ≤ wr.heap.size) (fun s _ => (nK - intOf s).toNat)
    case atStart => exact ⟨0, none, 0, by omega, rfl, HB24.out, OwnI.nil _ _, HK10.out, Nat.le_refl _⟩
    case round =>
    obtain ⟨q, ol, cl, hq, rfl, hb, hol, hkr, hks⟩ := hrel
    have HKS := Lib.hid hks
    have HB := Lib.hid hb
    have HOL := Lib.hid hol
    have KR := Lib.hid hkr
    clear hb hol hkr hks
    have c2 := (HC9.out.keep KR.out).cell 2
    have c3 := (HC9.out.keep KR.out).cell 3
    have ccl := (HC9.out.keep KR.out).lt
    simp at c2 c3
    by_cases hqn : q < nK
    case pos =>
      have hqlt : (q : Int) < (nK : Int) := by omega
      have hqK : q < KL.length := by rw [HNK.out]; exact hqn
      have hqN : q < (natI KL).length := by rw [natI_len]; exact hqK
      obtain ⟨wb, wf, wcap, hwv, hwb, a0⟩ := (HW9.out.keep KR.out).at hqN
      injection hwv with q1 q2 q3
      clear q2
      subst q1
      subst q3
      have ejx : (natI KL)[q] = ((KL[q] : Nat) : Int) := by simp [natI]
      rw [ejx] at a0
      have hjn : KL[q] < (Sv.samesP E).length := by rw [HNS.out]; exact List.mem_range.1 (HKL.out.subset (List.getElem_mem hqK))
      have HTK : Hid ((KL.take (q + 1)).map (fun j => -((Sv.samesP E).getD j 0)) = (KL.take q).map (fun j => -((Sv.samesP E).getD j 0)) ++ [-((Sv.samesP E).getD KL[q] 0)]) := Lib.hid (by rw [List.take_succ_eq_append_getElem hqK, List.map_append]; rfl)
      generalize KL[q] = j at *
      obtain ⟨sb, sf, scap, hsv, hsb, s0⟩ := (HI1.out.keep KR.out).at hjn
      injection hsv with q1 q2 q3
      clear q2
      subst q1
      subst q3
      have esx : (Sv.samesP E)[j] = (Sv.samesP E).getD j 0 := by rw [List.getD_eq_getElem?_getD, List.getElem?_eq_getElem hjn]; rfl
      have hxb : -1000 ≤ (Sv.samesP E)[j] ∧ (Sv.samesP E)[j] ≤ 1000 := by
        have hm := (List.mem_filter.1 (List.getElem_mem hjn)).1
        obtain ⟨z, hz, e⟩ := Sv.places_mem hm
        have := Sv.litE_abs (E.getD z Sv.en0) z
        rw [← e] at this
        omega
      rw [esx] at s0 hxb
      clear esx ejx
      generalize (Sv.samesP E).getD j 0 = x at *
      obtain ⟨xb1, xb2⟩ := hxb
      generalize (Sv.samesP E).length = ns at *
      have hj0 : ¬ (j : Int) < 0 := by omega
      have hj1 : (j : Int) < (ns : Int) := by omega
      have hj2 : ¬ (ns : Int) ≤ (j : Int) := by omega
      have b1 := cell_of_heap (o := 1) HB.out rfl
      have bl := lt_of_heap HB.out
      clear hqN
      go_upto_region 51 with fail
      refine wp_region_by (fun w' => Keep NoS wr w') [12, 13, 14] [([0, 1, 2, 3, 4, 5, 6, 7, 8, 9, 10], 11), ([], 12), ([13], 14)] [] (by kernel_rfl) (by kernel_rfl) (Keep.refl _ _).drew ?_
      intro X W hne hF hcl
      have HCLS := Lib.hid hcl
      have zb := fun x => ((hF x).cell bl).trans b1
      have zc := fun x => ((hF x).cell ccl).trans c2
      have zw := fun x => ((hF x).cell hwb).trans a0
      have zs := fun x => ((hF x).cell hsb).trans s0
      have lb := fun x => Nat.lt_of_lt_of_le bl (hF x).size
      have lc := fun x => Nat.lt_of_lt_of_le ccl (hF x).size
      have lw := fun x => Nat.lt_of_lt_of_le hwb (hF x).size
      have ls := fun x => Nat.lt_of_lt_of_le hsb (hF x).size
      clear hF hcl
      simp only [wpPlan, pickOps, List.getElem?_toArray, List.getElem?_cons_zero, List.getElem?_cons_succ, clsOf, Bool.false_eq_true, if_false]
      (repeat (quiet_step (fail))); refine wpQuiet_nil ?_
      refine wpAt rfl rfl fun K hK => ?_
      go_simp
      rw [IntWalk.i64_in (-x) (by omega)]
      have ka : Keep NoS wr (wr.alloc (.cells #[.int .i64 (-x)] TI)).drew := ((Keep.refl _ _).alloc _).drew
      obtain ⟨vl', w', hr, ho', hg, hvv⟩ := app_oneI (HOL.out.keep ka) (b := wr.heap.size) (Blk.keep (blk_at _ _ rfl) (Keep.refl _ _).drew) (by rw [List.length_map, List.length_take]; omega) (Nat.le_trans HKS.out ka.size)
      refine hK _ _ ⟨fun _ => HCLS.out _ ka, ?_⟩
      obtain ⟨ol', cl', hvl'⟩ := ho'.len
      rw [List.length_append, List.length_singleton, List.length_map, List.length_take, HNK.out, Nat.min_eq_left hq] at hvl'
      subst hvl'
      have hb' : w'.heap[b24]? = some (.cells (stC 3 ol q cl) TSt (0, 0)) := (hg.block b24 (Nat.lt_of_lt_of_le (lt_of_heap HB.out) ka.size) fun e => by
        have := HOL.out.block b24 e.symm
        have := HBS.out
        omega).trans ((ka.block b24 (lt_of_heap HB.out) fun _ h => h).trans HB.out)
      have HBN : Hid ((w'.setCell ⟨b24, 1, none⟩ (.slice ol' (q + 1) cl')).heap[b24]? = some (.cells (stC 3 ol' (q + 1) cl') TSt (0, 0))) := Lib.hid (by rw [Go.Joins.block_setCell hb' _]; rfl)
      have HON : Hid (OwnI (w'.setCell ⟨b24, 1, none⟩ (.slice ol' (q + 1) cl')) w10.heap.size (.slice ol' (q + 1) cl') _) := Lib.hid (World.ownsRow_set_other ho' fun z hz => by
        have := ho'.block z hz
        have := HBS.out
        omega)
      have KN : Hid (Keep NoS w9 (w'.setCell ⟨b24, 1, none⟩ (.slice ol' (q + 1) cl'))) := Lib.hid (keep_at ((KR.out.both ka).grown hg fun z hz => by
        have := HOL.out.block z hz
        have := HK10.out.size
        omega) _ (by have := HBE.out; omega))
      have HKN : Hid (w10.heap.size ≤ (w'.setCell ⟨b24, 1, none⟩ (.slice ol' (q + 1) cl')).heap.size) := Lib.hid (by
        have := hg.size
        have := ka.size
        have := HKS.out
        have e : (w'.setCell ⟨b24, 1, none⟩ (.slice ol' (q + 1) cl')).heap.size = w'.heap.size := by simp
        omega)
      have g1 := cell_of_heap (o := 1) hb' rfl
      have f1 := free_of_heap (o := 1) hb'
      have gl := lt_of_heap hb'
      clear zw lw hK ka ho' hg hvv hb' HCLS zb zc zs lb lc ls
      (repeat (quiet_step (fail))); refine wpQuiet_nil ?_
      refine wpAt rfl rfl fun K hK => ?_
      refine wp_app_run _ _ 22 _ _ rfl rfl rfl hr ?_
      refine hK _ _ ⟨fun h => (by simp at h), ?_⟩
      clear hK hr
      (repeat (quiet_step (fail))); refine wpQuiet_nil ?_
      refine wpAt rfl rfl fun K hK => ?_
      go_simp
      refine hK _ _ ⟨fun h => (by simp at h), ?_⟩
      clear hK
      (repeat (quiet_step (fail))); refine wpQuiet_nil ?_
      refine NoPanic.normal ?_
      go_wp2
      go_roundw
      case rel => exact ⟨q + 1, ol', cl', by omega, by go_num, HBN.out, by rw [HTK.out]; exact HON.out, KN.out, HKN.out⟩
      case measure => simp [intOf]; omega
    case neg =>
    have hqlt : ¬ (q : Int) < (nK : Int) := by omega
    obtain rfl : nK = q := by omega
    rw [List.take_of_length_le (by rw [HNK.out]; exact Nat.le_refl _)] at HOL
    have HNG : Hid (KL.map (fun j => -((Sv.samesP E).getD j 0)) = Sv.negsE E KL) := Lib.hid (by
      unfold Sv.negsE
      refine List.map_congr_left fun j hj => ?_
      have hj := List.mem_range.1 (HKL.out.subset hj)
      rw [Sv.samesP_idx, List.getD_eq_getElem?_getD, List.getElem?_map, List.getD_eq_getElem?_getD, List.getElem?_eq_getElem hj]
      rfl)
    rw [HNG.out] at HOL
    have hnl : (Sv.negsE E KL).length = nK := by unfold Sv.negsE; rw [List.length_map, HNK.out]
    obtain ⟨sb, sf, scap, hsv, hsb, s0⟩ := (HI2.out.keep KR.out).at hia
    injection hsv with q1 q2 q3
    clear q2
    subst q1
    subst q3
    rw [HXA.out] at s0
    have hai0 : ((ai + 1 : Nat) : Int) = (ai : Int) + 1 := by omega
    rw [hai0] at s0
    clear HXA
    generalize hna : (Sv.apartsP E).length = na at *
    have hi0 : ¬ (i : Int) < 0 := by omega
    have hi1 : (i : Int) < (na : Int) := by omega
    have hi2 : ¬ (na : Int) ≤ (i : Int) := by omega
    clear hna
    have b1 := cell_of_heap (o := 1) HB.out rfl
    have bl := lt_of_heap HB.out
    clear hq hqn hai0
    go_upto_region 54 with fail
    refine wp_region_by (fun w' => Keep NoS wr w') [8, 9, 10] [([0, 1, 2, 3, 4, 5, 6], 7), ([], 8), ([9], 10)] [] (by kernel_rfl) (by kernel_rfl) (Keep.refl _ _).drew ?_
    intro X W hne hF hcl
    have HCLS := Lib.hid hcl
    have zb := fun x => ((hF x).cell bl).trans b1
    have zc := fun x => ((hF x).cell ccl).trans c3
    have zs := fun x => ((hF x).cell hsb).trans s0
    have lb := fun x => Nat.lt_of_lt_of_le bl (hF x).size
    have lc := fun x => Nat.lt_of_lt_of_le ccl (hF x).size
    have ls := fun x => Nat.lt_of_lt_of_le hsb (hF x).size
    clear hF hcl
    simp only [wpPlan, pickOps, List.getElem?_toArray, List.getElem?_cons_zero, List.getElem?_cons_succ, clsOf, Bool.false_eq_true, if_false]
    (repeat (quiet_step (fail))); refine wpQuiet_nil ?_
    refine wpAt rfl rfl fun K hK => ?_
    go_simp
    have ka : Keep NoS wr (wr.alloc (.cells #[.int .i64 ((ai : Int) + 1)] TI)).drew := ((Keep.refl _ _).alloc _).drew
    obtain ⟨vl', w', hr, ho', hg, hvv⟩ := app_oneI (HOL.out.keep ka) (b := wr.heap.size) (Blk.keep (blk_at _ _ rfl) (Keep.refl _ _).drew) (by rw [hnl]; omega) (Nat.le_trans HKS.out ka.size)
    refine hK _ _ ⟨fun _ => HCLS.out _ ka, ?_⟩
    obtain ⟨ol', cl', hvl'⟩ := ho'.len
    rw [List.length_append, List.length_singleton, hnl] at hvl'
    subst hvl'
    have hb' : w'.heap[b24]? = some (.cells (stC 3 ol nK cl) TSt (0, 0)) := (hg.block b24 (Nat.lt_of_lt_of_le (lt_of_heap HB.out) ka.size) fun e => by
      have := HOL.out.block b24 e.symm
      have := HBS.out
      omega).trans ((ka.block b24 (lt_of_heap HB.out) fun _ h => h).trans HB.out)
    have HBN : Hid ((w'.setCell ⟨b24, 1, none⟩ (.slice ol' (nK + 1) cl')).heap[b24]? = some (.cells (stC 3 ol' (nK + 1) cl') TSt (0, 0))) := Lib.hid (by rw [Go.Joins.block_setCell hb' _]; rfl)
    have HON : Hid (OwnI (w'.setCell ⟨b24, 1, none⟩ (.slice ol' (nK + 1) cl')) w10.heap.size (.slice ol' (nK + 1) cl') _) := Lib.hid (World.ownsRow_set_other ho' fun z hz => by
      have := ho'.block z hz
      have := HBS.out
      omega)
    have KN : Hid (Keep NoS w9 (w'.setCell ⟨b24, 1, none⟩ (.slice ol' (nK + 1) cl'))) := Lib.hid (keep_at ((KR.out.both ka).grown hg fun z hz => by
      have := HOL.out.block z hz
      have := HK10.out.size
      omega) _ (by have := HBE.out; omega))
    have HKN : Hid (w10.heap.size ≤ (w'.setCell ⟨b24, 1, none⟩ (.slice ol' (nK + 1) cl')).heap.size) := Lib.hid (by
      have := hg.size
      have := ka.size
      have := HKS.out
      have e : (w'.setCell ⟨b24, 1, none⟩ (.slice ol' (nK + 1) cl')).heap.size = w'.heap.size := by simp
      omega)
    have g1 := cell_of_heap (o := 1) hb' rfl
    have f1 := free_of_heap (o := 1) hb'
    have gl := lt_of_heap hb'
    clear hK ka ho' hg hvv hb' HCLS zb zc zs lb lc ls
    (repeat (quiet_step (fail))); refine wpQuiet_nil ?_
    refine wpAt rfl rfl fun K hK => ?_
    refine wp_app_run _ _ 22 _ _ rfl rfl rfl hr ?_
    refine hK _ _ ⟨fun h => (by simp at h), ?_⟩
    clear hK hr
    (repeat (quiet_step (fail))); refine wpQuiet_nil ?_
    refine wpAt rfl rfl fun K hK => ?_
    go_simp
    refine hK _ _ ⟨fun h => (by simp at h), ?_⟩
    clear hK
    (repeat (quiet_step (fail))); refine wpQuiet_nil ?_
    refine NoPanic.normal ?_
    have hbF := (HK9.out.both KN.out).block b (lt_of_heap HTP.out.bk) fun _ h => h
    have hbF := hbF.trans HTP.out.bk
    have HCN := (HC9.out.keep KN.out)
    clear g1 f1 gl
    generalize w'.setCell ⟨b24, 1, none⟩ (.slice ol' (nK + 1) cl') = w11 at *
    have x0 := cell_of_heap (o := 0) hbF rfl
    have x1 := cell_of_heap (o := 1) hbF rfl
    have x2 := cell_of_heap (o := 2) hbF rfl
    have x3 := cell_of_heap (o := 3) hbF rfl
    have xl := lt_of_heap hbF
    obtain ⟨y0, y1, y2, y3, y4, y5, y6, y7, y8, yl⟩ := stC_cells (⟨_, HBN.out⟩ : Blk _ _ _)
    go_upto_region 55 with fail
    have k12 : Keep NoS w11 (w11.alloc (.cells #[.int .i64 3, .slice ol' (nK + 1) cl', .slice none 0 0, .int .i64 0, .int .i64 0, .int .i64 0, .slice none 0 0, .int .i64 0, .int .i64 0, .int .i64 1, .slice none 0 0, .slice none 0 0, .int .i64 0, .int .i64 0, .int .i64 0, .slice none 0 0, .int .i64 0, .int .i64 0] TSt)) := (Keep.refl _ _).alloc _
    have hb12 : (w11.alloc (.cells #[.int .i64 3, .slice ol' (nK + 1) cl', .slice none 0 0, .int .i64 0, .int .i64 0, .int .i64 0, .slice none 0 0, .int .i64 0, .int .i64 0, .int .i64 1, .slice none 0 0, .slice none 0 0, .int .i64 0, .int .i64 0, .int .i64 0, .slice none 0 0, .int .i64 0, .int .i64 0] TSt)).heap[w11.heap.size]? = some (.cells #[.int .i64 3, .slice ol' (nK + 1) cl', .slice none 0 0, .int .i64 0, .int .i64 0, .int .i64 0, .slice none 0 0, .int .i64 0, .int .i64 0, .int .i64 1, .slice none 0 0, .slice none 0 0, .int .i64 0, .int .i64 0, .int .i64 0, .slice none 0 0, .int .i64 0, .int .i64 0] TSt (0, 0)) := heap_alloc_at _ _ _ rfl
    obtain ⟨kv1, kv2⟩ := Sv.clause_E HKL.out (List.mem_of_getElem? HAI.out) (c := Sv.negsE E KL ++ [((ai + 1 : Nat) : Int)]) (List.perm_append_singleton _ _)
    have e64 : ((ai + 1 : Nat) : Int) = (ai : Int) + 1 := by omega
    have hcap1 : nK + 1 ≤ cl' ∧ cl' ≤ maxLen := by
      obtain ⟨o', n', c', e, h1, h2⟩ := own_capS HON.out
      injection e with q1 q2 q3
      omega
    have hIN := HON.out.keep k12
    rw [← e64] at hIN
    have hin := hIN.ints fun y hy => by have := (kv1.2 y hy).2; unfold I64; omega
    have hlen : (Sv.negsE E KL ++ [((ai + 1 : Nat) : Int)]).length = nK + 1 := by rw [List.length_append, hnl]; rfl
    obtain ⟨LS, hLS⟩ : ∃ LS, LS = Sv.negsE E KL ++ [((ai + 1 : Nat) : Int)] := ⟨_, rfl⟩
    rw [← hLS] at hin hlen kv1 kv2 HJT
    clear hLS hIN
    have hst : IsSteps (w11.alloc (.cells #[.int .i64 3, .slice ol' (nK + 1) cl', .slice none 0 0, .int .i64 0, .int .i64 0, .int .i64 0, .slice none 0 0, .int .i64 0, .int .i64 0, .int .i64 1, .slice none 0 0, .slice none 0 0, .int .i64 0, .int .i64 0, .int .i64 0, .slice none 0 0, .int .i64 0, .int .i64 0] TSt)) (.slice (some ⟨w11.heap.size, 0, none⟩) 2 2) [⟨3, LS⟩, ⟨1, []⟩] := by
      refine ⟨_, 2, rfl, Nat.le_refl _, by unfold maxLen; omega, fun _ => ⟨w11.heap.size, 0, rfl, lt_of_heap hb12, fun j x hj => ?_⟩⟩
      match j, hj with
      | 0, hj =>
        simp at hj
        subst hj
        refine ⟨ol', cl', by rw [hlen]; exact hin, by rw [hlen]; exact hcap1.1, hcap1.2, fun z u hz => ?_⟩
        rw [hlen] at hz
        refine cell_of_heap hb12 ?_
        have hz9 : z < 9 := (List.getElem?_eq_some_iff.1 (by simpa [stC] using hz) : ∃ h, _).1
        rw [show (0 + 0 * 9 + z) = z by omega]
        match z, hz9, hz with
        | 0, _, hz => exact hz
        | 1, _, hz => exact hz
        | 2, _, hz => exact hz
        | 3, _, hz => exact hz
        | 4, _, hz => exact hz
        | 5, _, hz => exact hz
        | 6, _, hz => exact hz
        | 7, _, hz => exact hz
        | 8, _, hz => exact hz
      | 1, hj =>
        simp at hj
        subst hj
        refine ⟨none, 0, (IntsT.nil _).1, Nat.le_refl _, Nat.zero_le _, fun z u hz => ?_⟩
        refine cell_of_heap hb12 ?_
        have hz9 : z < 9 := (List.getElem?_eq_some_iff.1 (by simpa [stC] using hz) : ∃ h, _).1
        match z, hz9, hz with
        | 0, _, hz => exact hz
        | 1, _, hz => exact hz
        | 2, _, hz => exact hz
        | 3, _, hz => exact hz
        | 4, _, hz => exact hz
        | 5, _, hz => exact hz
        | 6, _, hz => exact hz
        | 7, _, hz => exact hz
        | 8, _, hz => exact hz
    have CT := Lib.hid (jtake_any _ ⟨o, c, oA, cA, oD, cD⟩ (Sv.frmE l E) _ _ (HL.out.keep ((HK9.out.both KN.out).both k12)) HFO.out hst (fun x hx => by
      rw [show (Sv.frmE l E).atoms.length = E.length from Sv.atomsE_len E]
      rcases List.mem_cons.1 hx with rfl | hx
      · exact ⟨.inr rfl, kv1⟩
      · obtain rfl := List.mem_singleton.1 hx
        exact ⟨.inl rfl, by simp, fun y hy => by cases hy⟩) (by rw [show (Sv.frmE l E).cls.length = E.length from clsE_len E]; simp; omega) (by simp))
    rw [HJT.out] at CT
    unfold FmL.v at CT
    rw [show (Sv.frmE l E).terms.length = n from HN.out] at CT
    have HC12 := HCN.keep k12
    have K12 := Lib.hid ((HK9.out.both KN.out).both k12)
    clear k12 hb12 kv1 kv2 e64 hcap1 hin hlen hst HCN
    simp only [List.length_cons, List.length_nil, Nat.zero_add] at CT
    go_wp2_with fail
    refine CT.out.mono ?_
    rintro e w13 ⟨rfl, hk13⟩
    have c0 : (w13.alloc (.cells #[.int .i64 0, .int .i64 0] TFa)).cell? ⟨b17, 0, none⟩ = some (.int .i64 2) := ((HC12.keep hk13).keep ((Keep.refl _ _).alloc _)).cell 0
    have cl0 := ((HC12.keep hk13).keep ((Keep.refl NoS w13).alloc (.cells #[.int .i64 0, .int .i64 0] TFa))).lt
    have K13 := Lib.hid (K12.out.both hk13)
    clear hk13 HC12 CT x0 x1 x2 x3 xl y0 y1 y2 y3 y4 y5 y6 y7 y8 yl
    go_wp2
    go_ret
    exact ⟨rfl, (HTP.out.kw.both K13.out).alloc _⟩
end Go.Proofs.YtnndmdfjdodiiaaGreat
