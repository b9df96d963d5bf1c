/- Package close: why. -/
import Derived.Test.YtnndmdfjdodiiaaGreatTtOO
namespace Go.Proofs.YtnndmdfjdodiiaaGreat
open Go.ChangeShapes Go.WideShapes Go.RowKit Go.Maps
set_option linter.unusedVariables false
set_option linter.unusedSimpArgs false

def prC (p : Int × Int) : List Value := [.int .i64 p.1, .int .i64 p.2]
theorem prC_len (p : Int × Int) : (prC p).length = 2 := rfl
def natI (l : List Nat) : List Int := l.map fun k : Nat => (k : Int)
theorem natI_app (l m : List Nat) : natI (l ++ m) = natI l ++ natI m := List.map_append
theorem natI_len (l : List Nat) : (natI l).length = l.length := List.length_map _
/-- Pairs of one's own. -/
def OwnP (w : World) (base : Nat) (v : Value) (l : List (Int × Int)) : Prop := w.ownsRow base T2 2 v l.length (l.flatMap prC)
theorem OwnP.pairs {w : World} {base : Nat} {v : Value} {l : List (Int × Int)} (h : OwnP w base v l) : IsPairs w v l := by
  have h' : OwnG T2 2 prC w base v l := h
  obtain ⟨oa, cap, hv, h1, h2⟩ := h'.len
  refine ⟨oa, cap, hv, h1, h2, fun hne => ?_⟩
  obtain ⟨g, cap', hv', hb, hlt, hc⟩ := OwnG.cells prC_len h' hne
  rw [hv] at hv'
  cases hv'
  refine ⟨g, 0, rfl, hlt, fun i p hi => ⟨?_, ?_⟩⟩
  · have := hc i p hi 0 _ rfl
    exact this
  · have := hc i p hi 1 _ rfl
    exact this
theorem pickP_app (same : List (Int × Int)) (l m : List Nat) : Cl.pickP same (l ++ m) = Cl.pickP same l ++ Cl.pickP same m := List.map_append
theorem pickP_len (same : List (Int × Int)) (l : List Nat) : (Cl.pickP same l).length = l.length := List.length_map _
theorem pick_ok {n : Nat} {same : List (Int × Int)} (h : PrOK n same) {l : List Nat} (hl : ∀ x ∈ l, x < same.length) : PrOK n (Cl.pickP same l) := by
  intro p hp
  obtain ⟨k, hk, rfl⟩ := List.mem_map.1 hp
  have := hl k hk
  rw [List.getD_eq_getElem?_getD, List.getElem?_eq_getElem this]
  exact h _ (List.getElem_mem this)
theorem filt_take {l : List Nat} {i q : Nat} (hq : q < l.length) : (l.take (q + 1)).filter (· ≠ i) = (l.take q).filter (· ≠ i) ++ if l[q] ≠ i then [l[q]] else [] := by
  rw [List.take_succ_eq_append_getElem hq, List.filter_append]
  congr 1
  by_cases h : l[q] = i <;> simp [h]

def pvW (vA vB vP : Value) (x : Int) (aP : Addr) (y z : Int) : Nat → Value → Prop
  | 0, v => v = vA
  | 1, v => v = .int .i64 x
  | 4, v => v = vB
  | 5, v => v = vP
  | 6, v => v = .int .i64 x
  | 7, v => v = .pointer (some aP)
  | 8, v => v = .agg #[.int .i64 y, .int .i64 z]
  | _, _ => True
set_option maxRecDepth 100000 in
set_option maxHeartbeats 16000000 in
theorem why_any (w : World) (ot op : Option Addr) (ct cp : Nat) (terms : List Cl.Tm) (same : List (Int × Int)) (a b : Nat) (ht : IsTerms w (.slice ot terms.length ct) terms) (hp : IsPairs w (.slice op same.length cp) same) (hok : TmOK terms) (hpk : PrOK terms.length same) (hpl : same.length ≤ 1000) (ha : a < terms.length) (hb : b < terms.length) :
    Calls Tryz.prog 21 #[.slice ot terms.length ct, .slice op same.length cp, .int .i64 (a : Int), .int .i64 (b : Int)] w fun e w' => ∃ v, e = .returned v ∧ OwnI w' w.heap.size v (natI (Cl.whyF terms same a b same.length (List.range same.length))) ∧ Keep NoS w w' := by
  have HP := Lib.hid hp
  have CR := Lib.hid (fun w' (k : Keep NoS w w') op' cp' (l : List Nat) (hl : ∀ x ∈ l, x < same.length) (hq : IsPairs w' (.slice op' l.length cp') (Cl.pickP same l)) (hll : l.length ≤ 1000) => by
    have := related_any w' ot op' ct cp' terms (Cl.pickP same l) a b (ht.keep k) (by rw [pickP_len]; exact hq) hok (pick_ok hpk hl) (by rw [pickP_len]; exact hll) ha hb
    rw [pickP_len] at this
    exact this)
  obtain ⟨m, hm⟩ : ∃ m, same.length = m := ⟨_, rfl⟩
  have HM := Lib.hid hm
  rw [hm] at HP hpl CR ⊢
  clear ht hp hok hpk ha hb hm
  go_enter Tryz.func21, Tryz.ntmps21
  go_wp2
  go_loopw [18, 9] (fun s v wr => ∃ k : Nat, k ≤ m ∧ s = .int .i64 k ∧ OwnI wr w.heap.size v (natI (List.range k)) ∧ Keep NoS w wr) (fun s _ _ => (m - intOf s).toNat)
  case atStart => exact ⟨0, by omega, rfl, OwnI.nil _ _, by (repeat' (with_reducible first | assumption | exact HK.out | exact keR | refine keA ?_ | refine keS ?_ fun h => absurd h (by omega) | refine keN ?_ | refine keD ?_))⟩
  case round =>
  obtain ⟨k, hk, rfl, ho, hkr⟩ := hrel
  have HO := Lib.hid ho
  have KR := Lib.hid hkr
  obtain ⟨ao, ac, rfl⟩ := ho.len
  clear ho hkr
  by_cases hkl : k < m
  case pos =>
    have hlt : (k : Int) < (m : Int) := by omega
    have hnl : (natI (List.range k)).length = k := by rw [natI_len, List.length_range]
    have HT : Hid (natI (List.range (k + 1)) = natI (List.range k) ++ [(k : Int)]) := Lib.hid (by rw [List.range_succ, natI_app]; rfl)
    generalize natI (List.range k) = acc at *
    have ka : Keep NoS wr (wr.alloc (.cells #[.int .i64 (k : Int)] TI)) := (Keep.refl _ _).alloc _
    have KA := Lib.hid (KR.out.both ka)
    obtain ⟨v', w', hr, ho', hg, _⟩ := app_oneI (HO.out.keep ka) (b := wr.heap.size) (blk_at _ _ rfl) (by omega) KA.out.size
    have HO' := Lib.hid ho'
    have K' := Lib.hid (KA.out.grown hg fun j hj => HO.out.block j hj)
    clear ka ho' hg HO
    go_wp2_with (at_builtin; refine wpList_app_run _ _ 22 _ _ rfl rfl rfl rfl hr ?_)
    go_roundw
    case rel => exact ⟨k + 1, by omega, by go_num, by rw [HT.out]; exact HO'.out, K'.out⟩
    case measure => simp [intOf]; omega
  case neg =>
  have hlt : ¬ (k : Int) < (m : Int) := by omega
  obtain rfl : m = k := by omega
  have HRM : Hid (∀ x ∈ List.range m, x < m) := Lib.hid (fun x hx => List.mem_range.1 hx)
  have HRL : Hid ((List.range m).length = m) := Lib.hid List.length_range
  generalize hR : List.range m = R at *
  have HRQ := Lib.hid hR
  clear hR hk hkl
  rw [natI_len, HRL.out] at HO
  have hrl : (natI R).length = m := by rw [natI_len, HRL.out]
  go_wp2
  go_loopw [11, 9] (fun s v wr => ∃ (j : Nat) (left : List Nat), j ≤ m ∧ s = .int .i64 ((j : Int) - 1) ∧ OwnI wr w.heap.size v (natI left) ∧ Keep NoS w wr ∧ (∀ x ∈ left, x < m) ∧ left.length ≤ m ∧ Cl.whyF terms same a b m R = Cl.whyF terms same a b j left) (fun s _ _ => (intOf s + 1).toNat)
  case atStart => exact ⟨m, R, by omega, by go_num, by first | exact HO.out | (rw [hrl]; exact HO.out), KR.out, HRM.out, by rw [HRL.out]; exact Nat.le_refl _, rfl⟩
  case round =>
  obtain ⟨j, left, hj, rfl, ho, hkr, hlm, hll, hw⟩ := hrel
  have HOL := Lib.hid ho
  have K2 := Lib.hid hkr
  have HLM := Lib.hid hlm
  have HW := Lib.hid hw
  obtain ⟨ol, cl, rfl⟩ := ho.len
  rw [natI_len] at HOL ⊢
  clear ho hkr hlm hw HO KR HRM HRL hrl
  rcases j with _ | i
  · have HE : Hid (Cl.whyF terms same a b m R = left) := Lib.hid HW.out
    have hge : ¬ (0 : Int) ≤ ((0 : Nat) : Int) - 1 := by omega
    go_wp2
    go_ret
    exact ⟨_, rfl, by rw [HRQ.out, HE.out]; exact HOL.out, K2.out⟩
  have hge : (0 : Int) ≤ ((i + 1 : Nat) : Int) - 1 := by omega
  have hie : ((i + 1 : Nat) : Int) - 1 = (i : Int) := by omega
  rw [hie] at hge ⊢
  have him : i < m := by omega
  have HWS : Hid (Cl.whyF terms same a b m R = Cl.whyF terms same a b i (if Cl.relB terms (Cl.pickP same (left.filter (· ≠ i))) a b then left.filter (· ≠ i) else left)) := Lib.hid HW.out
  clear HW hie
  obtain ⟨w3, hw3⟩ : ∃ W : World, W = wr := ⟨_, rfl⟩
  subst hw3
  go_wp2
  go_loopw [35, 12, 13] (fun s f p wr => ∃ q : Nat, q ≤ left.length ∧ s = .int .i64 q ∧ OwnI wr w3.heap.size f (natI ((left.take q).filter (· ≠ i))) ∧ OwnP wr w3.heap.size p (Cl.pickP same ((left.take q).filter (· ≠ i))) ∧ Keep NoS w3 wr) (fun s _ _ _ => (left.length - intOf s).toNat)
  case atStart => exact ⟨0, by omega, rfl, OwnI.nil _ _, World.ownsRow_nil _ _ _ _, by (repeat' (with_reducible first | assumption | exact HK.out | exact keR | refine keA ?_ | refine keS ?_ fun h => absurd h (by omega) | refine keN ?_ | refine keD ?_))⟩
  case round =>
  obtain ⟨q, hq, rfl, hf, hpq, hkr⟩ := hrel
  have HF := Lib.hid hf
  have HQ := Lib.hid hpq
  have K3 := Lib.hid hkr
  clear hf hpq hkr
  by_cases hql : q < left.length
  case pos =>
    have hlt : (q : Int) < (left.length : Int) := by omega
    have HTK := Lib.hid (filt_take (i := i) hql)
    have hx := HLM.out _ (List.getElem_mem hql)
    obtain ⟨bl, fl, cap, hv', hbl, u0⟩ := (HOL.out.ints (fun x hx => by obtain ⟨k, hk, rfl⟩ := List.mem_map.1 hx; have := HLM.out k hk; unfold I64; omega)).at (k := q) (by rw [natI_len]; exact hql)
    injection hv' with q1 q2 q3
    clear q2
    subst q1
    subst q3
    have e0 : (natI left)[q]'(by rw [natI_len]; exact hql) = (left[q] : Int) := List.getElem_map ..
    rw [e0] at u0
    have u0 := (K3.out.cell hbl).trans u0
    have ul := Nat.lt_of_lt_of_le hbl K3.out.size
    have hxs : left[q] < same.length := by rw [HM.out]; exact hx
    obtain ⟨bs, os, rfl, hbs, p0, p1⟩ := (HP.out.keep K2.out).at hxs
    generalize left[q] = x at *
    obtain ⟨fw, hfw⟩ : ∃ fw, (left.take q).filter (· ≠ i) = fw := ⟨_, rfl⟩
    rw [hfw] at HTK HF HQ
    have HPX : Hid (Cl.pickP same (fw ++ [x]) = Cl.pickP same fw ++ [same[x]]) := Lib.hid (by rw [pickP_app]; unfold Cl.pickP; simp [List.getD_eq_getElem?_getD, hxs])
    generalize same[x] = yz at *
    obtain ⟨y, z⟩ := yz
    simp only at p0 p1
    have lp := hbs
    clear e0 hbl hxs
    by_cases hxi : x = i
    · have e1 : ((x : Int) != (i : Int)) = false := by rw [hxi]; simp
      have HTK := Lib.hid (HTK.out.trans (by rw [if_neg (by simp [hxi]), List.append_nil]))
      clear hxi
      go_wp2
      go_roundw
      case rel => exact ⟨q + 1, by omega, by go_num, by rw [HTK.out]; exact HF.out, by rw [HTK.out]; exact HQ.out, K3.out⟩
      case measure => simp [intOf]; omega
    · have e1 : ((x : Int) != (i : Int)) = true := by rw [bne_iff_ne]; omega
      have HTK := Lib.hid (HTK.out.trans (by rw [if_pos hxi]))
      have hfl : fw.length ≤ 1000 := by
        rw [← hfw]
        exact Nat.le_trans (List.length_filter_le _ _) (by rw [List.length_take]; omega)
      obtain ⟨nf, hnf⟩ : ∃ nf, fw.length = nf := ⟨_, rfl⟩
      have HNF := Lib.hid hnf
      obtain ⟨of, cf, rfl⟩ := HF.out.len
      obtain ⟨oq, cq, hvq⟩ := owns_form HQ.out
      subst hvq
      rw [natI_len, hnf] at HF ⊢
      rw [pickP_len, hnf] at HQ ⊢
      rw [hnf] at hfl
      have HFA : Hid (wr.ownsRow w3.heap.size TI 1 (.slice of nf cf) nf (iv (natI fw))) := Lib.hid (by have := HF.out; unfold OwnI at this; rwa [natI_len, HNF.out] at this)
      have HQA : Hid (wr.ownsRow w3.heap.size T2 2 (.slice oq nf cq) nf ((Cl.pickP same fw).flatMap prC)) := Lib.hid (by have := HQ.out; unfold OwnP at this; rwa [pickP_len, HNF.out] at this)
      clear hxi hfw hnf HF HQ
      go_upto_region 16 with fail
      refine wp_region_rel (fun S σ w' => TwoS w3 TI 1 nf T2 2 nf (.slice of nf cf) (.slice oq nf cq) (iv (natI fw)) [.int .i64 (x : Int)] ((Cl.pickP same fw).flatMap prC) [.int .i64 y, .int .i64 z] (S 2) (S 3) (S 9) (S 10) (σ 2) (σ 3) (σ 9) (σ 10) w' ∧ (S 11 = true → σ 11 = σ 3) ∧ (S 12 = true → σ 12 = σ 10)) (fun S d v w => pvW (.slice of nf cf) (.slice oq nf cq) (.slice (some ⟨bs, os, none⟩) m cp) (x : Int) ⟨bs, os + x * 2, none⟩ y z d v) (by kernel_rfl) (by kernel_rfl) (by kernel_rfl) (by kernel_rfl) (fun S σ hS => ⟨TwoS.start (hS 2) (hS 3) (hS 9) (hS 10) rfl rfl (⟨K3.out, HFA.out, HQA.out⟩), fun h => (by rw [hS 11] at h; cases h), fun h => (by rw [hS 12] at h; cases h)⟩) _ (fun σ => by
        show putAll _ σ [0, 1, 2, 3, 4, 5, 6, 7, 8, 9, 10, 11, 12] _ = _
        simp only [putAll, List.getElem?_toArray, List.getElem?_cons_zero, List.getElem?_cons_succ, Act.put, List.setIfInBounds_toArray, List.set_cons_zero, List.set_cons_succ]
        rfl) ?_ ?_
      · intro S σ wz hC hall e he HK
        have he : e < 13 := he
        obtain rfl | rfl | rfl | rfl | rfl | rfl | rfl | rfl | rfl | rfl | rfl | rfl | rfl : e = 0 ∨ e = 1 ∨ e = 2 ∨ e = 3 ∨ e = 4 ∨ e = 5 ∨ e = 6 ∨ e = 7 ∨ e = 8 ∨ e = 9 ∨ e = 10 ∨ e = 11 ∨ e = 12 := by omega
        · refine wpAt rfl rfl fun K hK => ?_
          go_simp
          exact hK _ _ ⟨_, hC, fun d _ _ h => h, rfl, HK.init 11 (HK.down 11 (by kernel_rfl))⟩
        · refine wpAt rfl rfl fun K hK => ?_
          go_simp
          exact hK _ _ ⟨_, hC, fun d _ _ h => h, rfl, rfl⟩
        · have h1 : σ 1 = .int .i64 (x : Int) := HK.post 1 (by kernel_rfl)
          rw [h1]
          refine wpAt rfl rfl fun K hK => ?_
          go_simp
          exact hK _ _ ⟨_, ⟨hC.1.buildA ((Keep.refl _ _).alloc _) (b := wz.heap.size) (blk_at _ _ rfl) (Nat.le_refl _), hC.2⟩, fun d _ _ h => h, rfl, trivial⟩
        · obtain ⟨v', w2, hr, hc2⟩ := hC.1.appA appOK_i (by decide) rfl (by intro u hu; simp at hu; subst hu; rfl) (by omega) (HK.up 2 (by kernel_rfl)) HK.self rfl
          have h0 : σ 0 = (.slice of nf cf) := HK.post 0 (by kernel_rfl)
          rw [h0]
          refine wpAt rfl rfl fun K hK => ?_
          refine wp_app_run _ _ 22 _ _ rfl rfl rfl hr ?_
          exact hK _ _ ⟨_, ⟨hc2, fun h => absurd (show S 11 = true from h) (by rw [HK.down 11 (by kernel_rfl)]; decide), hC.2.2⟩, fun d _ _ h => h, rfl, trivial⟩
        · refine wpAt rfl rfl fun K hK => ?_
          go_simp
          exact hK _ _ ⟨_, hC, fun d _ _ h => h, rfl, HK.init 12 (HK.down 12 (by kernel_rfl))⟩
        · refine wpAt rfl rfl fun K hK => ?_
          go_simp
          exact hK _ _ ⟨_, hC, fun d _ _ h => h, rfl, rfl⟩
        · refine wpAt rfl rfl fun K hK => ?_
          go_simp
          exact hK _ _ ⟨_, hC, fun d _ _ h => h, rfl, rfl⟩
        · have h5 : σ 5 = (.slice (some ⟨bs, os, none⟩) m cp) := HK.post 5 (by kernel_rfl)
          rw [h5]
          have h6 : σ 6 = .int .i64 (x : Int) := HK.post 6 (by kernel_rfl)
          rw [h6]
          refine wpAt rfl rfl fun K hK => ?_
          go_simp
          exact hK _ _ ⟨_, hC, fun d _ _ h => h, rfl, rfl⟩
        · have h7 : σ 7 = .pointer (some ⟨bs, os + x * 2, none⟩) := HK.post 7 (by kernel_rfl)
          rw [h7]
          have m0 := (hC.1.k.cell lp).trans p0
          have m1 := (hC.1.k.cell lp).trans p1
          refine wpAt rfl rfl fun K hK => ?_
          go_simp
          exact hK _ _ ⟨_, hC, fun d _ _ h => h, rfl, rfl⟩
        · have h8 : σ 8 = .agg #[.int .i64 y, .int .i64 z] := HK.post 8 (by kernel_rfl)
          rw [h8]
          refine wpAt rfl rfl fun K hK => ?_
          go_simp
          exact hK _ _ ⟨_, ⟨hC.1.buildB ((Keep.refl _ _).alloc _) (b := wz.heap.size) (blk_at _ _ rfl) (Nat.le_refl _), hC.2⟩, fun d _ _ h => h, rfl, trivial⟩
        · obtain ⟨v', w2, hr, hc2⟩ := hC.1.appB appOK_p (by decide) rfl (by intro u hu; simp at hu; rcases hu with rfl | rfl <;> rfl) (by omega) (HK.up 9 (by kernel_rfl)) HK.self rfl
          have h4 : σ 4 = (.slice oq nf cq) := HK.post 4 (by kernel_rfl)
          rw [h4]
          refine wpAt rfl rfl fun K hK => ?_
          refine wp_app_run _ _ 32 _ _ rfl rfl rfl hr ?_
          exact hK _ _ ⟨_, ⟨hc2, hC.2.1, fun h => absurd (show S 12 = true from h) (by rw [HK.down 12 (by kernel_rfl)]; decide)⟩, fun d _ _ h => h, rfl, trivial⟩
        · refine wpAt rfl rfl fun K hK => ?_
          go_simp
          exact hK _ _ ⟨_, ⟨hC.1, fun _ => rfl, hC.2.2⟩, fun d _ _ h => h, rfl, trivial⟩
        · refine wpAt rfl rfl fun K hK => ?_
          go_simp
          exact hK _ _ ⟨_, ⟨hC.1, hC.2.1, fun _ => rfl⟩, fun d _ _ h => h, rfl, trivial⟩
      · intro S σ w9 hCC hS hP
        have hT := hCC.1.done (hS 2 (show 2 < 13 by omega)) (hS 3 (show 3 < 13 by omega)) (hS 9 (show 9 < 13 by omega)) (hS 10 (show 10 < 13 by omega))
        obtain ⟨oA, cA', hvA⟩ := owns_form hT.a
        obtain ⟨oB, cB', hvB⟩ := owns_form hT.b
        have qasA : σ 11 = _ := (hCC.2.1 (hS 11 (show 11 < 13 by omega))).trans hvA
        have qasB : σ 12 = _ := (hCC.2.2 (hS 12 (show 12 < 13 by omega))).trans hvB
        refine NoPanic.normal ?_
        rw [qasA, qasB]
        have K9 := Lib.hid hT.k
        have HA9 : Hid (OwnI w9 w3.heap.size (.slice oA (nf + 1) cA') (natI (fw ++ [x]))) := Lib.hid (by rw [← hvA]; unfold OwnI; rw [natI_len, List.length_append, HNF.out, natI_app, iv_app]; exact hT.a)
        have HB9 : Hid (OwnP w9 w3.heap.size (.slice oB (nf + 1) cB') (Cl.pickP same (fw ++ [x]))) := Lib.hid (by rw [← hvB, HPX.out]; unfold OwnP; rw [List.length_append, pickP_len, HNF.out, List.flatMap_append]; exact hT.b)
        clear hT hvA hvB qasA qasB hP hS hCC
        go_wp2
        go_roundw
        case rel => exact ⟨q + 1, by omega, by go_num, by rw [HTK.out]; exact HA9.out, by rw [HTK.out]; exact HB9.out, K9.out⟩
        case measure => simp [intOf]; omega
  case neg =>
    have hlt : ¬ (q : Int) < (left.length : Int) := by omega
    have HFE : Hid ((left.take q).filter (· ≠ i) = left.filter (· ≠ i)) := Lib.hid (by rw [List.take_of_length_le (by omega)])
    rw [HFE.out] at HF HQ
    have hfm : ∀ x ∈ left.filter (· ≠ i), x < m := fun x hx => HLM.out x (List.mem_filter.1 hx).1
    have hfl : (left.filter (· ≠ i)).length ≤ m := Nat.le_trans (List.length_filter_le _ _) hll
    have HFM := Lib.hid hfm
    obtain ⟨of, cf, rfl⟩ := HF.out.len
    obtain ⟨oq, cq, hvq⟩ := owns_form HQ.out
    subst hvq
    generalize left.filter (· ≠ i) = fw at *
    rw [natI_len] at HF ⊢
    rw [pickP_len] at HQ ⊢
    have CR2 := Lib.hid (CR.out wr (K2.out.both K3.out) oq cq fw hfm (by have := HQ.out.pairs; exact this) (by omega))
    have HF2 : Hid (OwnI wr w.heap.size (.slice of fw.length cf) (natI fw)) := Lib.hid (World.ownsRow_mono HF.out K2.out.size)
    have K5 := Lib.hid (K2.out.both K3.out)
    have HOL5 := Lib.hid (HOL.out.keep K3.out)
    generalize Cl.relB terms (Cl.pickP same fw) a b = r at *
    clear hfm HFE HF HQ hq hql
    go_wp2_with fail
    refine CR2.out.mono ?_
    rintro e w6 ⟨rfl, hk6⟩
    have K6 := Lib.hid (K5.out.both hk6)
    have HF6 := Lib.hid (HF2.out.keep hk6)
    have HO6 := Lib.hid (HOL5.out.keep hk6)
    clear hk6 CR2
    cases r
    · have HW6 := Lib.hid (HWS.out.trans (by rw [if_neg (by decide)]))
      clear HWS
      go_wp2
      go_roundw
      case rel => exact ⟨i, left, by omega, by go_num, HO6.out, K6.out, HLM.out, hll, HW6.out⟩
      case measure => simp [intOf]
    · have HW6 := Lib.hid (HWS.out.trans (by rw [if_pos rfl]))
      clear HWS
      go_wp2
      go_roundw
      case rel => exact ⟨i, fw, by omega, by go_num, HF6.out, K6.out, HFM.out, hfl, HW6.out⟩
      case measure => simp [intOf]
end Go.Proofs.YtnndmdfjdodiiaaGreat
