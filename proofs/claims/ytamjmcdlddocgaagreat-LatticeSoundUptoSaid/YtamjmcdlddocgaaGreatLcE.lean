/- Package lattice's clear. -/
import Derived.Test.YtamjmcdlddocgaaGreatLcD
import Derived.Deep.LoopGhost
namespace Go.Proofs.YtamjmcdlddocgaaGreat
open Go.ChangeShapes Go.WideShapes Go.RowKit
set_option linter.unusedVariables false
set_option linter.unusedSimpArgs false
theorem clearR_succ {n i fr f : Nat} {c : List (List Rat)} {r : Bool × List (List Rat)} (h : clearR n i fr (f + 1) c = some r) :
  ((scanS c i fr (n - fr)).2 = 0 → r = (false, c)) ∧ ((scanS c i fr (n - fr)).2 = 1 → r = (true, swpQ c fr (scanS c i fr (n - fr)).1)) ∧ ((scanS c i fr (n - fr)).2 ≠ 0 → (scanS c i fr (n - fr)).2 ≠ 1 → bdC (redK (swpQ c fr (scanS c i fr (n - fr)).1) i fr (n - (fr + 1))) = true ∧ clearR n i fr f (redK (swpQ c fr (scanS c i fr (n - fr)).1) i fr (n - (fr + 1))) = some r) := by
 simp only [clearR] at h
 refine ⟨fun h0 => ?_, fun h1 => ?_, fun h0 h1 => ?_⟩
 ·rw [if_pos h0] at h; exact (Option.some.inj h).symm
 ·rw [if_neg (by omega), if_pos h1] at h; exact (Option.some.inj h).symm
 ·rw [if_neg h0, if_neg h1] at h
  split at h
  ·rename_i hb; exact ⟨hb, h⟩
  ·cases h
theorem lt_signZ {a b : Rat} : (a.num * b.den - b.num * a.den).sign < 0 ↔ a < b := by
 rw [Rat.lt_iff, Int.sign_neg_iff]
 omega
theorem cellQ_at {c : List (List Rat)} {k i : Nat} {q : List Rat} (h : c.getD k [] = q) (hi : i < q.length) : cellQ c k i = q[i] := by
 unfold cellQ
 rw [h, ratZ hi]
theorem bdC_col {c : List (List Rat)} (h : bdC c = true) {k : Nat} {q : List Rat} (hq : c.getD k [] = q) : ∀ x ∈ q, NB 300 x := by
 have := bdC_get h k
 rw [hq] at this
 exact fun x hx => bdQ_nb (List.all_eq_true.1 this x hx)
theorem absQ_nb {a : Rat} {k : Nat} (h : NB k a) : NB k (absQ a) := by
 unfold absQ
 split
 ·exact h.neg
 ·exact h
theorem YC.num {w0 w : World} {hi bY gc n L cc : Nat} {vr : Value} {xs : List ColV} (h : YC w0 w hi bY gc vr n L cc xs) {k i : Nat} (hk : k < n) (hi' : i < L) :
  ∃ g, w.cell? ⟨gc, k, none⟩ = some (.slice (some ⟨g, 0, none⟩) L L) ∧ gc < w.heap.size ∧ g < w.heap.size ∧ ∃ nb nS db dS, w.cell? ⟨g, i * 4, none⟩ = some (.bool nb) ∧ w.cell? ⟨g, i * 4 + 1, none⟩ = some (.string nS) ∧ w.cell? ⟨g, i * 4 + 2, none⟩ = some (.bool db) ∧ w.cell? ⟨g, i * 4 + 3, none⟩ = some (.string dS) ∧ IsNum (.agg #[.bool nb, .string nS, .bool db, .string dS]) (cellQ (xs.map ColV.q) k i) := by
 obtain ⟨g, q, _, hg, h1, _, h3, h4, h5, _⟩ := h.at hk
 have hiq : i < q.length := by rw [h5]; exact hi'
 obtain ⟨nb, nS, db, dS, p0, p1, p2, p3, hn, _⟩ := h4.at hiq
 exact ⟨g, h1, h3, h4.lt, nb, nS, db, dS, p0, p1, p2, p3, by rw [cellQ_at hg hiq]; exact hn⟩
theorem swpQ_fr {c : List (List Rat)} {a b : Nat} (ha : a < c.length) (hb : b < c.length) : (swpQ c a b).getD a [] = c.getD b [] := by
 unfold swpQ
 rw [List.getD_eq_getElem?_getD, List.getElem?_set]
 by_cases e : b = a
 ·subst e
  rw [if_pos rfl, if_pos (by simpa using ha)]
  rfl
 ·rw [if_neg e, List.getElem?_set, if_pos rfl, if_pos ha]
  rfl
theorem cellQ_nb {c : List (List Rat)} (h : bdC c = true) (k i : Nat) : NB 300 (cellQ c k i) := by
 unfold cellQ
 by_cases hi : i < (c.getD k []).length
 ·rw [ratZ hi]; exact bdC_col h rfl _ (List.getElem_mem hi)
 ·rw [List.getD_eq_getElem?_getD, List.getElem?_eq_none (by omega)]; exact nb_zero.mono (by omega)
set_option maxRecDepth 100000 in
set_option maxHeartbeats 64000000 in
theorem clear_any (w0 w : World) (hi bY gc : Nat) (vr : Value) (n L cc : Nat) (xs : List ColV) (h : YC w0 w hi bY gc vr n L cc xs) (i fr f : Nat) (hiL : i < L) (hfr : fr ≤ n) (hn : n ≤ 100) (hL : L ≤ 1000) (hb : bdC (xs.map ColV.q) = true) (r : Bool × List (List Rat)) (hrun : clearR n i fr f (xs.map ColV.q) = some r) :
  Calls Tryz.prog 118 #[.pointer (some ⟨bY, 0, none⟩), .int .i64 (i : Int), .int .i64 (fr : Int)] w fun e w' => e = .returned (.bool r.1) ∧ (∃ xs', YC w0 w' hi bY gc vr n L cc xs' ∧ xs'.map ColV.q = r.2) ∧ Keep (Mid w0.heap.size hi) w w' := by
 have HIL := Lib.hid hiL
 have hLI : (i : Int) < (L : Int) := by omega
 have hcc := h.cc
 unfold maxLen at hcc
 have HI := Lib.hid (And.intro h (And.intro hb hrun))
 clear h hb hrun
 go_enter Tryz.func118, Tryz.ntmps118
 go_wp2
 go_loopg [] f (fun gk wr => ∃ xs, YC w0 wr hi bY gc vr n L cc xs ∧ bdC (xs.map ColV.q) = true ∧ clearR n i fr gk (xs.map ColV.q) = some r ∧ Keep (Mid w0.heap.size hi) w wr)
 case atStart => exact ⟨xs, HI.out.1, HI.out.2.1, HI.out.2.2, Keep.refl _ _⟩
 case round =>
  obtain ⟨xs', hy, hbd, hrun, hk⟩ := hrel
  obtain ⟨C, hC⟩ : ∃ C, xs'.map ColV.q = C := ⟨_, rfl⟩
  rw [hC] at hbd hrun
  obtain ⟨f, rfl⟩ : ∃ f, gk = f + 1 := by
   rcases gk with _ | f
   ·cases hrun
   ·exact ⟨f, rfl⟩
  have HXQ := Lib.hid hC
  have HY := Lib.hid hy
  have HBD := Lib.hid hbd
  have HRUN := Lib.hid (clearR_succ hrun)
  have HK := Lib.hid hk
  clear hy hbd hrun hk hC HI
  obtain ⟨wo, hwo⟩ : ∃ wo : World, wo = wr := ⟨_, rfl⟩
  subst hwo
  go_wp2
  go_loopw [9, 7, 8] (fun s t u wr => ∃ d : Nat, d ≤ n - fr ∧ s = .int .i64 ((fr + d : Nat) : Int) ∧ t = .int .i64 (bestI (scanS C i fr d)) ∧ u = .int .i64 ((scanS C i fr d).2 : Nat) ∧ Keep NoS wo wr) (fun s _ _ _ => (n - intOf s).toNat)
  case atStart => exact ⟨0, by omega, rfl, rfl, rfl, Keep.refl _ _⟩
  case round =>
   obtain ⟨d, hd, rfl, rfl, rfl, hkd⟩ := hrel
   have HKD := Lib.hid hkd
   have HD := Lib.hid hd
   clear hkd hd
   have HYD := Lib.hid (HY.out.keep HKD.out)
   obtain ⟨kk, hkk⟩ : ∃ kk, fr + d = kk := ⟨_, rfl⟩
   have HKK := Lib.hid hkk
   obtain ⟨bi, hbi⟩ : ∃ bi, bestI (scanS C i fr d) = bi := ⟨_, rfl⟩
   obtain ⟨ct, hct⟩ : ∃ ct, (scanS C i fr d).2 = ct := ⟨_, rfl⟩
   have HBI := Lib.hid hbi
   have HCT := Lib.hid hct
   rw [hbi, hct, hkk]
   clear hbi hct hkk
   have hkle : kk ≤ n := by have := HKK.out; have := HD.out; omega
   by_cases hkn : kk < n
   case pos =>
    have hltk : (kk : Int) < (n : Int) := by omega
    have HDD : Hid (d < n - fr) := Lib.hid (by have := HKK.out; omega)
    have hct9 : ct ≤ 100 := by have := (scan_bd (c := C) (i := i) (fr := fr) d).1; have := HCT.out; have := HDD.out; omega
    obtain ⟨y0, y1, y2, _, _, _, yl⟩ := HYD.out.y.three
    obtain ⟨g, c0, cl, gl, xb, xS, xc, xU, p0, p1, p2, p3, hx⟩ := HYD.out.num hkn HIL.out
    rw [HXQ.out] at hx
    have HX := Lib.hid hx
    have HNX := Lib.hid (cellQ_nb HBD.out kk i)
    have HSC : Hid (scanS C i fr (d + 1) = if cellQ C kk i = 0 then scanS C i fr d else (if (scanS C i fr d).2 = 0 ∨ absQ (cellQ C kk i) < absQ (cellQ C (scanS C i fr d).1 i) then kk else (scanS C i fr d).1, (scanS C i fr d).2 + 1)) := Lib.hid (by rw [← HKK.out]; rfl)
    have CS := fun w => Lib.hid (exSign_num hx w)
    generalize cellQ C kk i = x at *
    have ka : Keep NoS wr (wr.alloc (.cells #[.bool xb, .string xS, .bool xc, .string xU] 92)) := (Keep.refl _ _).alloc _
    have HB : Hid (Blk (wr.alloc (.cells #[.bool xb, .string xS, .bool xc, .string xU] 92)) wr.heap.size #[.bool xb, .string xS, .bool xc, .string xU]) := Lib.hid (blk_at _ _ rfl)
    clear hx
    go_upto_region 7 with fail
    have HYX := Lib.hid (HYD.out.keep ka)
    have HKX := Lib.hid (HKD.out.both ka)
    clear ka y0 y1 y2 yl c0 cl gl p0 p1 p2 p3 HYD HKD
    generalize wr.alloc (.cells #[.bool xb, .string xS, .bool xc, .string xU] 92) = wx at *
    generalize wr.heap.size = b10 at *
    obtain ⟨s0, s1, s2, s3, _, _, _, _, sl⟩ := HB.out.four
    by_cases hx0 : x = 0
    case pos =>
     have e0 := num_zero_of hx0
     rw [e0] at CS
     have HSS : Hid (scanS C i fr (d + 1) = scanS C i fr d) := Lib.hid (by rw [HSC.out, if_pos hx0])
     clear hx0 e0
     go_wp2_with fail
     refine (CS _).out.mono ?_
     rintro e w2 ⟨rfl, hk⟩
     have K2 := Lib.hid (HKX.out.both hk)
     clear s0 s1 s2 s3 sl hk CS
     go_wp2
     go_roundw
     case rel => exact ⟨d + 1, HDD.out, by have := HKK.out; go_num, by rw [HSS.out, HBI.out], by rw [HSS.out, HCT.out], K2.out⟩
     case measure => simp [intOf]; omega
    case neg =>
     have e0 := num_sign_ne hx0
     have e1' : (x.num.sign != 0) = true := by rw [bne_iff_ne]; exact e0
     have HSS : Hid (scanS C i fr (d + 1) = (if (scanS C i fr d).2 = 0 ∨ absQ x < absQ (cellQ C (scanS C i fr d).1 i) then kk else (scanS C i fr d).1, (scanS C i fr d).2 + 1)) := Lib.hid (by rw [HSC.out, if_neg hx0])
     clear hx0 e0 HSC
     go_wp2_with fail
     refine (CS _).out.mono ?_
     rintro e w2 ⟨rfl, hk⟩
     have HY2 := Lib.hid (HYX.out.keep hk)
     have K2 := Lib.hid (HKX.out.both hk)
     have HB2 := Lib.hid (HB.out.keep hk)
     clear s0 s1 s2 s3 sl hk CS HYX HKX HB
     go_upto_region 9 with fail
     by_cases hc0 : ct = 0
     case pos =>
      have HBE : Hid (bestI (scanS C i fr (d + 1)) = (kk : Int) ∧ (scanS C i fr (d + 1)).2 = 1) := Lib.hid (by
       have := HCT.out
       rw [HSS.out]
       unfold bestI
       simp only
       rw [if_neg (by omega), if_pos (.inl (by omega))]
       exact ⟨rfl, by omega⟩)
      have hb1 : bi = -1 := by
       have h1 := HBI.out
       unfold bestI at h1
       rw [HCT.out, if_pos hc0] at h1
       exact h1.symm
      subst hb1
      subst hc0
      refine wp_region_by (fun w' => Keep NoS w2 w') [] [([0, 1, 2, 3, 5, 6, 7, 8, 9, 10, 11, 12, 13, 14], 4), ([], 15), ([], 16)] [17, 18] (by kernel_rfl) (by kernel_rfl) (by (repeat' (with_reducible first | assumption | exact HK.out | exact keR | refine keA ?_ | refine keS ?_ fun h => absurd h (by omega) | refine keN ?_ | refine keD ?_))) ?_
      intro X W hne hF hcl
      have HCL := Lib.hid hcl
      clear hF hcl
      simp only [wpPlan, pickOps, List.getElem?_toArray, List.getElem?_cons_zero, List.getElem?_cons_succ, clsOf, Bool.false_eq_true, if_false]
      (repeat (go_big_quiet_step (fail))); refine wpQuiet_nil ?_
      refine wpOp_unwanted (by simp only [List.getElem?_toArray, List.getElem?_cons_zero, List.getElem?_cons_succ]; rfl) (by rfl) ?_
      simp only [Act.put, List.setIfInBounds_toArray, List.set_cons_zero, List.set_cons_succ]
      refine ⟨fun _ => HCL.out _ (Keep.refl NoS w2).drew, ?_⟩
      (repeat (go_big_quiet_step (fail))); refine wpQuiet_nil ?_
      refine wpOp_unwanted (by simp only [List.getElem?_toArray, List.getElem?_cons_zero, List.getElem?_cons_succ]; rfl) (by rfl) ?_
      simp only [Act.put, List.setIfInBounds_toArray, List.set_cons_zero, List.set_cons_succ]
      refine ⟨fun _ => HCL.out _ (Keep.refl NoS w2).drew, ?_⟩
      (repeat (go_big_quiet_step (fail))); refine wpQuiet_nil ?_
      refine wpOp_unwanted (by simp only [List.getElem?_toArray, List.getElem?_cons_zero, List.getElem?_cons_succ]; rfl) (by rfl) ?_
      simp only [Act.put, List.setIfInBounds_toArray, List.set_cons_zero, List.set_cons_succ]
      refine ⟨fun _ => HCL.out _ (Keep.refl NoS w2).drew, ?_⟩
      (repeat (go_big_quiet_step (fail))); refine wpQuiet_nil ?_
      refine NoPanic.normal ?_
      have K3 := Lib.hid (K2.out.drew)
      clear HCL
      go_wp2
      go_roundw
      case rel => exact ⟨d + 1, HDD.out, by have := HKK.out; go_num, by rw [HBE.out.1], by rw [HBE.out.2]; go_num, K3.out⟩
      case measure => simp [intOf]; omega
     case neg =>
      obtain ⟨b, hb⟩ : ∃ b, (scanS C i fr d).1 = b := ⟨_, rfl⟩
      have hbn : b < n := by
       have := (scan_bd (c := C) (i := i) (fr := fr) d).2 (by have := HCT.out; omega)
       have := HDD.out
       omega
      have hb1 : bi = (b : Int) := by
       have h1 := HBI.out
       unfold bestI at h1
       rw [HCT.out, if_neg hc0, hb] at h1
       exact h1.symm
      subst hb1
      have hltb : (b : Int) < (n : Int) := by omega
      have hb0 : ¬ ((b : Int) < 0) := by omega
      have HSS : Hid (scanS C i fr (d + 1) = (if absQ x < absQ (cellQ C b i) then kk else b, ct + 1)) := Lib.hid (by
       rw [HSS.out, hb, HCT.out]
       congr 1
       by_cases h : absQ x < absQ (cellQ C b i)
       ·rw [if_pos (.inr h), if_pos h]
       ·rw [if_neg (fun hh => hh.elim hc0 h), if_neg h])
      clear hb
      obtain ⟨y0, y1, y2, _, _, _, yl⟩ := HY2.out.y.three
      obtain ⟨g', c0, cl, gl, ub, uS, uc, uU, p0, p1, p2, p3, hu⟩ := HY2.out.num hbn HIL.out
      rw [HXQ.out] at hu
      have HNU := Lib.hid (cellQ_nb HBD.out b i)
      generalize cellQ C b i = u at *
      have CA := fun w => Lib.hid (ltAbs_any w _ _ HX.out (HNX.out.mono (by omega)))
      have CB := fun w => Lib.hid (ltAbs_any w _ _ hu (HNU.out.mono (by omega)))
      have CC := fun w va vb (ha : IsNum va (absQ x)) (hb : IsNum vb (absQ u)) => Lib.hid (exCmp_any w _ _ ha ((absQ_nb HNX.out).mono (by omega)) _ _ hb ((absQ_nb HNU.out).mono (by omega)))
      have HLT : Hid (((absQ x).num * ((absQ u).den : Int) - (absQ u).num * ((absQ x).den : Int)).sign < 0 ↔ absQ x < absQ u) := Lib.hid lt_signZ
      generalize ((absQ x).num * ((absQ u).den : Int) - (absQ u).num * ((absQ x).den : Int)).sign = sg at *
      clear hu
      refine wp_region_by (fun w' => Keep NoS w2 w') [] [([0, 1, 2, 3, 5, 6, 7, 8, 9, 10, 11, 12, 13, 14], 4), ([], 15), ([], 16)] [17, 18] (by kernel_rfl) (by kernel_rfl) (by (repeat' (with_reducible first | assumption | exact HK.out | exact keR | refine keA ?_ | refine keS ?_ fun h => absurd h (by omega) | refine keN ?_ | refine keD ?_))) ?_
      intro X W hne hF hcl
      have HCL := Lib.hid hcl
      have x0 := fun x => ((hF x).cell yl).trans y2
      have x1 := fun x => ((hF x).cell cl).trans c0
      have x2 := fun x => ((hF x).cell gl).trans p0
      have x3 := fun x => ((hF x).cell gl).trans p1
      have x4 := fun x => ((hF x).cell gl).trans p2
      have x5 := fun x => ((hF x).cell gl).trans p3
      have z0 := fun x => (HB2.out.keep (hF x)).four
      clear hF hcl y0 y1 y2 yl c0 cl gl p0 p1 p2 p3
      simp only [wpPlan, pickOps, List.getElem?_toArray, List.getElem?_cons_zero, List.getElem?_cons_succ, clsOf, Bool.false_eq_true, if_false]
      (repeat (go_big_quiet_step (fail))); refine wpQuiet_nil ?_
      refine wpWa rfl rfl fun K hK => ?_
      go_simp
      refine (CA _).out.mono ?_
      rintro e w3 ⟨za, rfl, hza, hk⟩
      have k3 : Keep NoS w2 w3 := Keep.trans (by (repeat' (with_reducible first | assumption | exact HK.out | exact keR | refine keA ?_ | refine keS ?_ fun h => absurd h (by omega) | refine keN ?_ | refine keD ?_))) hk fun _ _ _ h => h
      refine hK _ _ ⟨fun _ => HCL.out _ k3, ?_⟩
      clear hK K hk CA
      (repeat (go_big_quiet_step (fail))); refine wpQuiet_nil ?_
      refine wpWa rfl rfl fun K hK => ?_
      go_simp
      refine (CB _).out.mono ?_
      rintro e w4 ⟨zb, rfl, hzb, hk⟩
      have k4 : Keep NoS w2 w4 := k3.both hk
      refine hK _ _ ⟨fun _ => HCL.out _ k4, ?_⟩
      clear hK K hk CB
      have CC := fun w => CC w za zb hza hzb
      clear hza hzb
      (repeat (go_big_quiet_step (fail))); refine wpQuiet_nil ?_
      refine wpWa rfl rfl fun K hK => ?_
      go_simp
      refine (CC _).out.mono ?_
      rintro e w5 ⟨rfl, hk⟩
      have k5 : Keep NoS w2 w5 := k4.both hk
      refine hK _ _ ⟨fun _ => HCL.out _ k5, ?_⟩
      clear hK K hk CC x0 x1 x2 x3 x4 x5 z0
      (repeat (go_big_quiet_step (fail))); refine wpQuiet_nil ?_
      refine NoPanic.normal ?_
      have K5 := Lib.hid (K2.out.both k5)
      clear k3 k4 k5 HCL
      by_cases hsg : sg < 0
      ·have HBE : Hid (bestI (scanS C i fr (d + 1)) = (kk : Int) ∧ (scanS C i fr (d + 1)).2 = ct + 1) := Lib.hid (by
        rw [HSS.out, if_pos (HLT.out.1 hsg)]
        unfold bestI
        simp only
        rw [if_neg (by omega)]
        exact ⟨rfl, trivial⟩)
       go_wp2
       go_roundw
       case rel => exact ⟨d + 1, HDD.out, by have := HKK.out; go_num, by rw [HBE.out.1], by rw [HBE.out.2]; go_num, K5.out⟩
       case measure => simp [intOf]; omega
      ·have HBE : Hid (bestI (scanS C i fr (d + 1)) = (b : Int) ∧ (scanS C i fr (d + 1)).2 = ct + 1) := Lib.hid (by
        rw [HSS.out, if_neg (fun h => hsg (HLT.out.2 h))]
        unfold bestI
        simp only
        rw [if_neg (by omega)]
        exact ⟨rfl, trivial⟩)
       go_wp2
       go_roundw
       case rel => exact ⟨d + 1, HDD.out, by have := HKK.out; go_num, by rw [HBE.out.1], by rw [HBE.out.2]; go_num, K5.out⟩
       case measure => simp [intOf]; omega
   case neg =>
    have hltk : ¬ (kk : Int) < (n : Int) := by omega
    have hdn : d = n - fr := by have := HKK.out; have := HD.out; omega
    subst hdn
    obtain ⟨y0, y1, y2, _, _, _, yl⟩ := HYD.out.y.three
    by_cases hc0 : ct = 0
    case pos =>
     subst hc0
     have HR0 := Lib.hid (HRUN.out.1 HCT.out)
     go_simp
     repeat go_step
     refine bodyPost_ret (by simp [results, Tryz.results118, go_sem]; rfl) rfl ?_
     exact ⟨by rw [HR0.out], ⟨xs', HYD.out, by rw [HR0.out]; exact HXQ.out⟩, HK.out.midN HKD.out⟩
    case neg =>
     have hs := (scan_bd (c := C) (i := i) (fr := fr) (n - fr)).2 (by rw [HCT.out]; exact hc0)
     have hle := (scan_bd (c := C) (i := i) (fr := fr) (n - fr)).1
     rw [HCT.out] at hle
     obtain ⟨b, hb⟩ : ∃ b, (scanS C i fr (n - fr)).1 = b := ⟨_, rfl⟩
     rw [hb] at hs
     have HRU : Hid ((ct = 1 → r = (true, swpQ C fr b)) ∧ (ct ≠ 1 → bdC (redK (swpQ C fr b) i fr (n - (fr + 1))) = true ∧ clearR n i fr f (redK (swpQ C fr b) i fr (n - (fr + 1))) = some r)) := Lib.hid (by
      have h := HRUN.out.2
      rw [HCT.out, hb] at h
      exact ⟨h.1, h.2 hc0⟩)
     have hb1 : bi = (b : Int) := by
      have h1 := HBI.out
      unfold bestI at h1
      rw [HCT.out, if_neg hc0, hb] at h1
      exact h1.symm
     have HBN := Lib.hid hs.2.2
     have hbn : b < n := by omega
     have hfn : fr < n := by omega
     have hltb : (b : Int) < (n : Int) := by omega
     have hltf : (fr : Int) < (n : Int) := by omega
     have hct0 : ¬ (ct : Int) = 0 := by omega
     have HLE := Lib.hid hle
     clear hs hb hle
     subst hb1
     obtain ⟨ga, qa, ha, hca, a0, af, al, hna, hqa, _⟩ := HYD.out.at hfn
     obtain ⟨gb, qb, hbx, hcb, c0, cf, _, hnb, hqb, _⟩ := HYD.out.at hbn
     have hdw : Keep NoS wr wr.drew := (Keep.refl _ _).drew
     have HYS := Lib.hid ((HYD.out.keep hdw).swap ha hbx)
     have HKS := Lib.hid (((HK.out.midN HKD.out).midN hdw).mids ((HYD.out.keep hdw).swapKeep fr b (.slice (some ⟨gb, 0, none⟩) L L) (.slice (some ⟨ga, 0, none⟩) L L)))
     have HF5 : Hid (∃ u, (wr.drew.setCell ⟨gc, fr, none⟩ (.slice (some ⟨gb, 0, none⟩) L L)).cell? ⟨gc, b, none⟩ = some u ∧ (wr.drew.setCell ⟨gc, fr, none⟩ (.slice (some ⟨gb, 0, none⟩) L L)).frozen? ⟨gc, b, none⟩ = false ∧ gc < (wr.drew.setCell ⟨gc, fr, none⟩ (.slice (some ⟨gb, 0, none⟩) L L)).heap.size) := Lib.hid (by
      obtain ⟨A, h1, h2⟩ := (HYD.out.keep hdw).c
      have h3 := h1.set fr (.slice (some ⟨gb, 0, none⟩) L L)
      have hbs : b < A.size := (Array.getElem?_eq_some_iff.1 (h2 b hbx.1)).1
      refine ⟨(A.setIfInBounds fr (.slice (some ⟨gb, 0, none⟩) L L))[b]'(by simpa using hbs), ?_, h3.free _, h3.lt⟩
      rw [h3.cell]
      exact Array.getElem?_eq_getElem _)
     have HE5 : Hid ((wr.setCell ⟨gc, fr, none⟩ (.slice (some ⟨gb, 0, none⟩) L L)).drew = wr.drew.setCell ⟨gc, fr, none⟩ (.slice (some ⟨gb, 0, none⟩) L L)) := Lib.hid rfl
     clear hdw
     have HQS : Hid ((swpL xs' fr b ha.1 hbx.1).map ColV.q = swpQ C fr b) := Lib.hid (by rw [swpL_map, swpQ_eq, HXQ.out])
     generalize swpL xs' fr b ha.1 hbx.1 = xs2 at *
     have HXL := Lib.hid HYD.out.xl
     have hyc := HYD.out.yc
     clear hna hqa hnb hqb hca hcb HRUN
     go_upto_region 13 with fail
     refine wp_region_by (fun w' => Keep NoS wr w') [9, 25, 26, 27] [([9, 0, 1, 2, 3, 4, 5, 6, 7, 8, 10, 11, 12, 13, 14, 15, 16, 17, 18, 19, 20, 21, 22, 23, 24], 25), ([26], 27)] [] (by kernel_rfl) (by kernel_rfl) (by (repeat' (with_reducible first | assumption | exact HK.out | exact keR | refine keA ?_ | refine keS ?_ fun h => absurd h (by omega) | refine keN ?_ | refine keD ?_))) ?_
     intro X W hne hF hcl
     have HCL := Lib.hid hcl
     have x0 := fun x => ((hF x).cell yl).trans y2
     have x1 := fun x => ((hF x).cell al).trans a0
     have x2 := fun x => ((hF x).cell al).trans c0
     clear hF hcl
     simp only [wpPlan, pickOps, List.getElem?_toArray, List.getElem?_cons_zero, List.getElem?_cons_succ, clsOf, Bool.false_eq_true, if_false]
     (repeat (go_big_quiet_step (fail))); refine wpQuiet_nil ?_
     refine wpAt rfl rfl fun K hK => ?_
     go_simp
     refine hK _ _ ⟨fun h => (by simp at h), ?_⟩
     clear hK K
     rw [HE5.out]
     clear HE5
     obtain ⟨w5, hw5⟩ : ∃ w5, wr.drew.setCell ⟨gc, fr, none⟩ (.slice (some ⟨gb, 0, none⟩) L L) = w5 := ⟨_, rfl⟩
     rw [hw5] at HYS HKS HF5 ⊢
     clear hw5
     obtain ⟨u5, d0, df, dl⟩ := HF5.out
     (repeat (go_big_quiet_step (fail))); refine wpQuiet_nil ?_
     refine wpAt rfl rfl fun K hK => ?_
     go_simp
     refine hK _ _ ⟨fun h => (by simp at h), ?_⟩
     clear hK K
     obtain ⟨w6, hw6⟩ : ∃ w6, w5.setCell ⟨gc, b, none⟩ (.slice (some ⟨ga, 0, none⟩) L L) = w6 := ⟨_, rfl⟩
     rw [hw6] at HYS HKS ⊢
     clear hw6 d0 df dl HF5 x0 x1 x2 y0 y1 y2 yl a0 af al c0 cf ha hbx HYD HKD HY HK hyc
     (repeat (go_big_quiet_step (fail))); refine wpQuiet_nil ?_
     refine NoPanic.normal ?_
     by_cases hc1 : ct = 1
     case pos =>
      subst hc1
      have HR0 := Lib.hid (HRU.out.1 rfl)
      go_simp
      repeat go_step
      refine bodyPost_ret (by simp [results, Tryz.results118, go_sem]; rfl) rfl ?_
      exact ⟨by rw [HR0.out], ⟨xs2, HYS.out, by rw [HR0.out]; exact HQS.out⟩, HKS.out⟩
     case neg =>
      have hct1 : ¬ (ct : Int) = 1 := by omega
      have HRV := Lib.hid (HRU.out.2 hc1)
      have HBD1 : Hid (bdC (swpQ C fr b) = true) := Lib.hid (swpQ_bd HBD.out)
      have HCL0 : Hid (C.length = n) := Lib.hid (by rw [← HXQ.out, List.length_map]; exact HXL.out)
      have HFR : Hid ((swpQ C fr b).getD fr [] = C.getD b []) := Lib.hid (swpQ_fr (by rw [HCL0.out]; exact hfn) (by rw [HCL0.out]; exact hbn))
      have HYNE : Hid (∀ d, cellQ (redK (swpQ C fr b) i fr d) fr i ≠ 0) := Lib.hid (fun d => by
       have h := HBN.out
       unfold cellQ at h ⊢
       rw [redK_low d fr (Nat.le_refl _), HFR.out]
       exact h)
      have HFN2 : Hid (fr + 1 ≤ n) := Lib.hid hfn
      generalize swpQ C fr b = C1 at *
      clear HRU HBN HFR HCL0 HXQ HBD HBI HCT HXL
      go_wp2
      go_loopw [11] (fun s wr => ∃ (d : Nat) (xs' : List ColV), d ≤ n - (fr + 1) ∧ s = .int .i64 ((fr + 1 + d : Nat) : Int) ∧ YC w0 wr hi bY gc vr n L cc xs' ∧ xs'.map ColV.q = redK C1 i fr d ∧ Keep (Mid w0.heap.size hi) w wr) (fun s _ => (n - intOf s).toNat)
      case atStart => exact ⟨0, xs2, by omega, by go_num, HYS.out, HQS.out, HKS.out⟩
      case round =>
       obtain ⟨d, xs3, hd, rfl, hy, hxq, hkd⟩ := hrel
       have HKD := Lib.hid hkd
       have HD := Lib.hid hd
       have HYD := Lib.hid hy
       have HXQ := Lib.hid hxq
       clear hkd hd hy hxq HYS HKS HQS
       obtain ⟨kk, hkk⟩ : ∃ kk, fr + 1 + d = kk := ⟨_, rfl⟩
       have HKK := Lib.hid hkk
       rw [hkk]
       clear hkk
       have hkle : kk ≤ n := by have := HKK.out; have := HD.out; omega
       by_cases hkn : kk < n
       case pos =>
        have hltk : (kk : Int) < (n : Int) := by omega
        have HDD : Hid (d < n - (fr + 1)) := Lib.hid (by have := HKK.out; omega)
        have HBR := Lib.hid (redK_bd HBD1.out HRV.out.1 (Nat.le_of_lt HDD.out))
        have HRK : Hid (redK C1 i fr (d + 1) = if cellQ (redK C1 i fr d) kk i = 0 then redK C1 i fr d else (redK C1 i fr d).set kk (lessQ ((redK C1 i fr d).getD kk []) ((redK C1 i fr d).getD fr []) (flQ (cellQ (redK C1 i fr d) kk i / cellQ (redK C1 i fr d) fr i)))) := Lib.hid (by rw [← HKK.out]; rfl)
        have HY0 := Lib.hid (HYNE.out d)
        obtain ⟨R, hR⟩ : ∃ R, redK C1 i fr d = R := ⟨_, rfl⟩
        rw [hR] at HXQ HBR HRK HY0
        clear hR
        obtain ⟨y0, y1, y2, _, _, _, yl⟩ := HYD.out.y.three
        obtain ⟨g, c0, cl, gl, xb, xS, xc, xU, p0, p1, p2, p3, hx⟩ := HYD.out.num hkn HIL.out
        rw [HXQ.out] at hx
        have HX := Lib.hid hx
        have HNX := Lib.hid (cellQ_nb HBR.out kk i)
        have CS := fun w => Lib.hid (exSign_num hx w)
        generalize cellQ R kk i = x at *
        have ka : Keep NoS wr (wr.alloc (.cells #[.bool xb, .string xS, .bool xc, .string xU] 92)) := (Keep.refl _ _).alloc _
        have HB : Hid (Blk (wr.alloc (.cells #[.bool xb, .string xS, .bool xc, .string xU] 92)) wr.heap.size #[.bool xb, .string xS, .bool xc, .string xU]) := Lib.hid (blk_at _ _ rfl)
        clear hx
        go_upto_region 20 with fail
        have HYX := Lib.hid (HYD.out.keep ka)
        have HKX := Lib.hid (HKD.out.midN ka)
        clear ka y0 y1 y2 yl c0 cl gl p0 p1 p2 p3 HYD HKD
        generalize wr.alloc (.cells #[.bool xb, .string xS, .bool xc, .string xU] 92) = wx at *
        generalize wr.heap.size = b12 at *
        obtain ⟨s0, s1, s2, s3, _, _, _, _, sl⟩ := HB.out.four
        by_cases hx0 : x = 0
        case pos =>
         have e0 := num_zero_of hx0
         rw [e0] at CS
         have HSS : Hid (redK C1 i fr (d + 1) = R) := Lib.hid (by rw [HRK.out, if_pos hx0])
         clear hx0 e0
         go_wp2_with fail
         refine (CS _).out.mono ?_
         rintro e w2 ⟨rfl, hk⟩
         have K2 := Lib.hid (HKX.out.midN hk)
         have HY2 := Lib.hid (HYX.out.keep hk)
         clear s0 s1 s2 s3 sl hk CS
         go_wp2
         go_roundw
         case rel => exact ⟨d + 1, xs3, HDD.out, by have := HKK.out; go_num, HY2.out, by rw [HSS.out]; exact HXQ.out, K2.out⟩
         case measure => simp [intOf]; omega
        case neg =>
         have e0 := num_sign_ne hx0
         have e1' : (x.num.sign != 0) = true := by rw [bne_iff_ne]; exact e0
         have HSS : Hid (redK C1 i fr (d + 1) = R.set kk (lessQ (R.getD kk []) (R.getD fr []) (flQ (x / cellQ R fr i)))) := Lib.hid (by rw [HRK.out, if_neg hx0])
         clear hx0 e0 HRK
         go_wp2_with fail
         refine (CS _).out.mono ?_
         rintro e w2 ⟨rfl, hk⟩
         have HY2 := Lib.hid (HYX.out.keep hk)
         have K2 := Lib.hid (HKX.out.midN hk)
         have HB2 := Lib.hid (HB.out.keep hk)
         clear s0 s1 s2 s3 sl hk CS HYX HKX HB
         go_upto_region 21 with fail
         obtain ⟨y0, y1, y2, _, _, _, yl⟩ := HY2.out.y.three
         obtain ⟨gk, qk, hkx, hck, k0, _, kl, hnk, hqk, hk1, hk2, _⟩ := HY2.out.at hkn
         obtain ⟨gf, qf, hfx, hcf, f0, _, _, hnf, hqf, _⟩ := HY2.out.at hfn
         rw [HXQ.out] at hck hcf
         have hiqf : i < qf.length := by rw [hqf]; exact HIL.out
         obtain ⟨ub, uS, uc, uU, p0, p1, p2, p3, hu, _⟩ := hnf.at hiqf
         rw [← cellQ_at hcf hiqf] at hu
         have gl := hnf.lt
         have HNU := Lib.hid (cellQ_nb HBR.out fr i)
         rw [hck, hcf] at HSS
         have hgne : gf ≠ gk := by
          obtain ⟨h1, e1⟩ := hkx
          obtain ⟨h2, e2⟩ := hfx
          have := HY2.out.d fr kk h2 h1 (by have := HKK.out; omega)
          rw [e1, e2] at this
          exact this
         generalize cellQ R fr i = u at *
         have CO := fun w => Lib.hid (exOver_any w _ _ HX.out (HNX.out.mono (by omega)) _ _ hu (HNU.out.mono (by omega)) HY0.out)
         obtain ⟨⟨vb, vS, vc, vU⟩, hv, hvn⟩ := numQ_nv (x / u)
         rw [hv] at CO
         have HNV : Hid (NB 600 (x / u)) := Lib.hid ((HNX.out.div HNU.out HY0.out).mono (by omega))
         have CF := fun w => Lib.hid (exFloor_any w _ _ hvn (HNV.out.mono (by omega)))
         obtain ⟨⟨fb, fS, fc, fU⟩, hf, hfn'⟩ := numIntZ ((x / u).num / ((x / u).den : Int))
         rw [hf] at CF
         have CL := fun w (k : Keep NoS w2 w) => Lib.hid (ltLess_any w gk L gf L qk qf _ (flQ (x / u)) (hnk.keep k) (hnf.keep k) hfn' (by rw [hqk, hqf]) (by rw [hqk]; exact hL) (by rw [hqk]; unfold maxLen; omega) (by rw [hqf]; unfold maxLen; omega) hgne (bdC_col HBR.out hck) (bdC_col HBR.out hcf) (nb_fl HNV.out (by omega)))
         rw [hqk, hqf] at CL
         unfold NV.v at CO CF CL
         simp only at CO CF CL
         have HKX := Lib.hid hkx
         have HQK : Hid ((lessQ qk qf (flQ (x / u))).length = L) := Lib.hid (by rw [lessQ_len]; exact hqk)
         have HM1 := Lib.hid (And.intro hk1 hk2)
         clear hu hv hvn hf hfn' hnk hnf hck hcf hqk hqf hkx hfx hk1 hk2 hiqf
         refine wp_region_by (fun w' => Keep NoS w2 w') [27] [([0, 1, 2, 3, 4, 5, 6, 7, 8, 9, 10, 11, 12, 13, 14, 15, 16, 17, 18, 19, 20, 21, 22, 23, 24], 25), ([], 26), ([], 27)] [] (by kernel_rfl) (by kernel_rfl) (by (repeat' (with_reducible first | assumption | exact HK.out | exact keR | refine keA ?_ | refine keS ?_ fun h => absurd h (by omega) | refine keN ?_ | refine keD ?_))) ?_
         intro X W hne hF hcl
         have HCL := Lib.hid hcl
         have x0 := fun x => ((hF x).cell yl).trans y2
         have x1 := fun x => ((hF x).cell kl).trans k0
         have x2 := fun x => ((hF x).cell kl).trans f0
         have x3 := fun x => ((hF x).cell gl).trans p0
         have x4 := fun x => ((hF x).cell gl).trans p1
         have x5 := fun x => ((hF x).cell gl).trans p2
         have x6 := fun x => ((hF x).cell gl).trans p3
         have z0 := fun x => (HB2.out.keep (hF x)).four
         clear hF hcl y0 y1 y2 yl k0 kl f0 gl p0 p1 p2 p3
         simp only [wpPlan, pickOps, List.getElem?_toArray, List.getElem?_cons_zero, List.getElem?_cons_succ, clsOf, Bool.false_eq_true, if_false]
         (repeat (go_big_quiet_step (fail))); refine wpQuiet_nil ?_
         refine wpAt rfl rfl fun K hK => ?_
         go_simp
         refine (CO _).out.mono ?_
         rintro e w3 ⟨rfl, hk⟩
         have k3 : Keep NoS w2 w3 := Keep.trans (by (repeat' (with_reducible first | assumption | exact HK.out | exact keR | refine keA ?_ | refine keS ?_ fun h => absurd h (by omega) | refine keN ?_ | refine keD ?_))) hk fun _ _ _ h => h
         refine hK _ _ ⟨fun _ => HCL.out _ k3, ?_⟩
         clear hK K hk CO
         (repeat (go_big_quiet_step (fail))); refine wpQuiet_nil ?_
         refine wpAt rfl rfl fun K hK => ?_
         go_simp
         refine (CF _).out.mono ?_
         rintro e w4 ⟨rfl, hk⟩
         have k4 : Keep NoS w2 w4 := k3.both hk
         refine hK _ _ ⟨fun _ => HCL.out _ k4, ?_⟩
         clear hK K hk CF k3
         have CL := CL w4 k4
         (repeat (go_big_quiet_step (fail))); refine wpQuiet_nil ?_
         refine wpAt rfl rfl fun K hK => ?_
         go_simp
         refine CL.out.mono ?_
         rintro e w7 ⟨rfl, hnq, hko⟩
         have HY4 := Lib.hid (HY2.out.keep k4)
         have HY7 := Lib.hid (HY4.out.put HKX.out hko hnq HQK.out)
         have K7 := Lib.hid ((K2.out.midN k4).mids (hko.onlyMid HM1.out.1 HM1.out.2))
         have HXQ7 : Hid ((xs3.set kk ⟨gk, lessQ qk qf (flQ (x / u))⟩).map ColV.q = redK C1 i fr (d + 1)) := Lib.hid (by rw [List.map_set, HXQ.out, HSS.out])
         refine hK _ _ ⟨fun h => (by simp at h), ?_⟩
         clear hK K hnq hko k4 CL x0 x1 x2 x3 x4 x5 x6 z0
         (repeat (go_big_quiet_step (fail))); refine wpQuiet_nil ?_
         refine NoPanic.normal ?_
         go_wp2
         go_roundw
         case rel => exact ⟨d + 1, _, HDD.out, by have := HKK.out; go_num, HY7.out, HXQ7.out, K7.out⟩
         case measure => simp [intOf]; omega
       case neg =>
        have hltk : ¬ (kk : Int) < (n : Int) := by omega
        have hdn : d = n - (fr + 1) := by have := HKK.out; have := HD.out; omega
        subst hdn
        obtain ⟨y0, y1, y2, _, _, _, yl⟩ := HYD.out.y.three
        go_wp2
        go_roundg f
        case measure => omega
        case rel => exact ⟨xs3, HYD.out, by rw [HXQ.out]; exact HRV.out.1, by rw [HXQ.out]; exact HRV.out.2, HKD.out⟩
end Go.Proofs.YtamjmcdlddocgaaGreat
