/- The law SimplexTurn: its walk. -/
import Derived.Test.YtamjmcdlddocgaaGreatSpF
import Derived.Test.YtamjmcdlddocgaaGreatSpM
import Derived.Test.YtamjmcdlddocgaaGreatSpC
namespace Go.Proofs.YtamjmcdlddocgaaGreat
open Go.ChangeShapes Go.WideShapes Go.RowKit
set_option linter.unusedVariables false
set_option linter.unusedSimpArgs false
theorem piv_cases (t : List (List Fq)) (r c : Int) : ((pivF t r c).1 ≠ 0 ∧ pivR t r c = []) ∨
  (pivF t r c = (0, 0) ∧ ∃ rn cn : Nat, r = rn ∧ c = cn ∧ rn < t.length ∧ cn < headLen t ∧ TabOK t (headLen t) ∧ tq t rn cn ≠ 0 ∧ pvOK t rn cn (headLen t) = true ∧ pivR t r c = pvT t rn cn (headLen t)) := by
 unfold pivF pivR
 by_cases hf : (tabF t).1 = 0
 ·rw [if_pos hf, if_pos hf]
  by_cases hin : inTab t r c
  ·rw [if_pos hin, if_pos hin]
   by_cases hz : tqN t r c = 0
   ·rw [if_pos hz, if_pos hz]
    exact .inl ⟨by decide, rfl⟩
   ·rw [if_neg hz, if_neg hz]
    obtain ⟨r0, r1, q0, q1⟩ := hin
    obtain ⟨rn, rfl⟩ : ∃ rn : Nat, r = (rn : Int) := ⟨r.toNat, by omega⟩
    obtain ⟨cn, rfl⟩ : ∃ cn : Nat, c = (cn : Int) := ⟨c.toNat, by omega⟩
    have hrn : rn < t.length := by omega
    have hT := (tabF_ok hf).2 (by omega)
    have hcn : cn < t[rn].length := by rw [hT.len _ (List.getElem_mem hrn)]; omega
    have e : t.getD rn [] = t[rn] := by rw [List.getD_eq_getElem?_getD, List.getElem?_eq_getElem hrn]; rfl
    have hN : tqN t rn cn = (t[rn][cn]).N := by
     unfold tqN
     rw [Int.toNat_natCast, Int.toNat_natCast, e, List.getD_eq_getElem?_getD, List.getElem?_eq_getElem hcn]; rfl
    have h0 : tq t rn cn ≠ 0 := by
     rw [tq_at hrn hcn]
     intro h
     exact hz (by rw [hN]; exact (fq_zero (hT.ok _ (List.getElem_mem hrn) _ (List.getElem_mem hcn))).1 h)
    rw [Int.toNat_natCast, Int.toNat_natCast]
    by_cases ho : pvOK t rn cn (headLen t) = true
    ·refine .inr ⟨by unfold pvC; rw [if_pos ho], rn, cn, rfl, rfl, hrn, by omega, hT, h0, ho, rfl⟩
    ·refine .inl ⟨by unfold pvC; rw [if_neg ho]; decide, ?_⟩
     unfold pvT
     rw [if_neg ho]
  ·rw [if_neg hin, if_neg hin]
   exact .inl ⟨by decide, rfl⟩
 ·rw [if_neg hf, if_neg hf]
  exact .inl ⟨hf, rfl⟩
theorem pvT_right {t : List (List Fq)} {r c m : Nat} (h : pvOK t r c m = true) : (pvT t r c m).length = t.length ∧ (∀ l ∈ pvT t r c m, l.length = m) ∧ ∀ l ∈ pvT t r c m, ∀ g ∈ l, FracOK g.N g.D := by
 unfold pvT
 rw [if_pos h]
 refine ⟨by simp [pvLs], fun l hl => ?_, fun l hl g hg => ?_⟩
 ·obtain ⟨i, _, rfl⟩ := List.mem_map.1 hl
  simp [pvL]
 ·obtain ⟨i, hi, rfl⟩ := List.mem_map.1 hl
  obtain ⟨k, hk, rfl⟩ := List.mem_map.1 hg
  have hf : Fits (pivQ t r c i k) := of_decide_eq_true (List.all_eq_true.1 (List.all_eq_true.1 h i hi) k hk)
  unfold fqOf
  rw [if_pos hf]
  exact fits_ok hf
theorem zB_same {t : List (List Fq)} {r c m : Nat} {pt : List Fq} (hr : r < t.length) (h0 : tq t r c ≠ 0) (ho : pvOK t r c m = true) : zB (pvT t r c m) pt m (pvT t r c m).length = zB t pt m t.length := by
 rw [(pvT_right ho).1]
 have h := turn_same (m := m) (p := fun k => fqAtM pt k) hr h0
 have e : ∀ i, i < t.length → dotN (fun k => tq (pvT t r c m) i k) (fun k => fqAtM pt k) m = dotN (fun k => pivQ t r c i k) (fun k => fqAtM pt k) m := fun i hi => dotN_congr fun k hk => pvT_tq ho hi hk
 rw [Bool.eq_iff_iff, zB_yes, zB_yes, h]
 exact ⟨fun a i hi => by rw [← e i hi]; exact a i hi, fun a i hi => by rw [e i hi]; exact a i hi⟩
set_option maxRecDepth 100000 in
set_option maxHeartbeats 16000000 in
theorem turn_bad (w : World) (vt : Value) (r c : Int) (ox : Option Addr) (mx cx : Nat) (c1 c2 : Int) (hc : c1 ≠ 0)
  (CP : ∀ w', Keep NoS w w' → Hid (Calls Tryz.prog 8 #[vt, .int .i64 r, .int .i64 c] w' fun e w'' => ∃ u, e = .returned (.tuple #[u, .agg #[.int .i64 c1, .int .i64 c2]]) ∧ IsTab w'' u [] ∧ Keep NoS w' w'')) :
  Calls Tryz.prog 3 #[vt, .int .i64 r, .int .i64 c, .slice ox mx cx] w fun e w' => e = .returned (.bool true) ∧ Keep NoS w w' := by
 have e2 : (c1 != 0) = true := by rw [bne_iff_ne]; exact hc
 go_enter Tryz.func3, Tryz.ntmps3
 go_wp2_with fail
 refine (simplexFact_any _).mono ?_
 rintro e w1 ⟨rfl, hk⟩
 have K1 : Hid (Keep NoS w w1) := Lib.hid (Keep.both (by (repeat' (with_reducible first | assumption | exact HK.out | exact keR | refine keA ?_ | refine keS ?_ fun h => absurd h (by omega) | refine keN ?_ | refine keD ?_))) hk)
 clear hk
 go_wp2_with fail
 refine ((CP _ K1.out).out).mono ?_
 rintro e w2 ⟨u, rfl, hu, hk⟩
 have k2 : Keep NoS w1 w2 := Keep.trans (by (repeat' (with_reducible first | assumption | exact HK.out | exact keR | refine keA ?_ | refine keS ?_ fun h => absurd h (by omega) | refine keN ?_ | refine keD ?_))) hk fun _ _ _ h => h
 have K2 := Lib.hid (K1.out.both k2)
 obtain ⟨ou, cu, rfl, _, _⟩ := hu.len
 clear hk k2 hu CP
 have ka : Keep NoS w2 (w2.alloc (.cells #[.int .i64 c1, .int .i64 c2] 26)) := (Keep.refl _ _).alloc _
 have K3 := Lib.hid (K2.out.both ka)
 go_wp2
 go_ret
 exact ⟨rfl, K3.out⟩
set_option maxRecDepth 100000 in
set_option maxHeartbeats 16000000 in
theorem simplexTurn_walk (w : World) (v : Value) (t : List (List Fq)) (r c : Int) (vp : Value) (pt : List Fq) (h : IsTab w v t) (hr : I64 r) (hc : I64 c) (hp : IsFracs w vp pt) :
  Calls Tryz.prog 3 #[v, .int .i64 r, .int .i64 c, vp] w fun e w' => e = .returned (.bool true) ∧ Below w.heap.size w w' := by
 suffices hk : Calls Tryz.prog 3 #[v, .int .i64 r, .int .i64 c, vp] w fun e w' => e = .returned (.bool true) ∧ Keep NoS w w' from hk.mono fun e w' ⟨h1, h2⟩ => ⟨h1, h2.below (Nat.le_refl _) fun _ _ h => h.elim⟩
 have CP := fun w' (k : Keep NoS w w') => Lib.hid (pivot_any w' v t r c (h.keep k) hr hc)
 unfold fV at CP
 rcases piv_cases t r c with ⟨h1, h2⟩ | ⟨h1, rn, cn, rfl, rfl, hrn, hcn, hT, h0, ho, h2⟩
 ·rw [h2] at CP
  obtain ⟨ox, cx, rfl, _, _⟩ := hp.len
  exact turn_bad w v r c ox _ cx _ _ h1 CP
 ·rw [h1, h2] at CP
  have HTAB := Lib.hid h
  have HP := Lib.hid hp
  have HTOK := Lib.hid hT
  obtain ⟨m, hm⟩ : ∃ m, headLen t = m := ⟨_, rfl⟩
  rw [hm] at CP hcn hT ho
  have HPV := Lib.hid (pvT_right ho)
  have HZS : Hid (zB (pvT t rn cn m) pt m (pvT t rn cn m).length = zB t pt m t.length) := Lib.hid (zB_same hrn h0 ho)
  have HTOK := Lib.hid hT
  have hl0 : 0 < t.length := by omega
  obtain ⟨oa, ca, rfl, _, hma⟩ := h.len
  unfold maxLen at hma
  obtain ⟨b, o, sv, rfl, hb, hcell, hfr⟩ := h.at hl0
  obtain ⟨oh, ch, rfl, _, _⟩ := hfr.len
  have hhl : t[0].length = m := hT.len _ (List.getElem_mem hl0)
  rw [hhl, Nat.add_zero] at hcell
  have HCELL := Lib.hid hcell
  obtain ⟨ox, cx, rfl, _, hmx⟩ := hp.len
  unfold maxLen at hmx
  have hm12 := hT.h12
  clear h hp hfr hcell hT h0 ho h1 h2 hr hc hrn hcn
  obtain ⟨nt, hnt⟩ : ∃ nt, t.length = nt := ⟨_, rfl⟩
  have HNT := Lib.hid hnt
  have hpl := HPV.out.1
  rw [hnt] at hpl
  have HPL := Lib.hid hpl
  rw [hnt] at CP hl0 ⊢
  obtain ⟨np, hnp⟩ : ∃ np, pt.length = np := ⟨_, rfl⟩
  have HNP := Lib.hid hnp
  rw [hnp]
  clear hnt hnp hpl hhl hm
  go_enter Tryz.func3, Tryz.ntmps3
  go_wp2_with fail
  refine (simplexFact_any _).mono ?_
  rintro e w1 ⟨rfl, hk1⟩
  have K1 := Lib.hid hk1
  clear hk1
  go_wp2_with fail
  refine (CP _ K1.out).out.mono ?_
  rintro e w2 ⟨u, rfl, hu, hk2⟩
  obtain ⟨ou, cu, hue, _, _⟩ := hu.len
  rw [HPL.out] at hue
  subst hue
  have HU := Lib.hid hu
  have K2 := Lib.hid (K1.out.both hk2)
  have ka : Keep NoS w2 (w2.alloc (.cells #[.int .i64 0, .int .i64 0] 26)) := (Keep.refl _ _).alloc _
  have K3 := Lib.hid (K2.out.both ka)
  have HU := Lib.hid (HU.out.keep ka)
  clear hu hk2 CP
  go_upto_region 7 with fail
  clear ka
  generalize w2.alloc (.cells #[.int .i64 0, .int .i64 0] 26) = w3 at *
  have hm0 := (K3.out.cell hb).trans HCELL.out
  have hb3 := Nat.lt_of_lt_of_le hb K3.out.size
  by_cases hlen : np = m
  case neg =>
   have e3 : ((np : Int) != (m : Int)) = true := by rw [bne_iff_ne]; omega
   go_wp2
   go_ret
   exact ⟨rfl, K3.out⟩
  case pos =>
   subst hlen
   go_wp2
   clear hm0 hb3
   go_loopw [12] (fun s wr => ∃ k : Nat, k ≤ np ∧ s = .int .i64 k ∧ (∀ g ∈ pt.take k, FracOK g.N g.D) ∧ Keep NoS w3 wr) (fun s _ => (np - intOf s).toNat)
   case atStart => exact ⟨0, by omega, rfl, fun g hg => by simp at hg, Keep.refl _ _⟩
   case round =>
    obtain ⟨k, hk, rfl, hg, hkr⟩ := hrel
    have HG := Lib.hid hg
    have HKR := Lib.hid hkr
    clear hg hkr
    by_cases hkn : k < np
    case neg =>
     have hlt : ¬ (k : Int) < (np : Int) := by omega
     obtain rfl : k = np := by omega
     have HPK : Hid (∀ g ∈ pt, FracOK g.N g.D) := Lib.hid (by have := HG.out; rwa [List.take_of_length_le (by rw [HNP.out]; exact Nat.le_refl _)] at this)
     have CA := fun w' (kk : Keep NoS wr w') => Lib.hid (lines0_any w' _ t _ pt k (HTAB.out.keep (K3.out.both (HKR.out.both kk))) (HP.out.keep (K3.out.both (HKR.out.both kk))) hm12 HTOK.out.len HNP.out HTOK.out.ok HPK.out)
     have CB := fun w' (kk : Keep NoS wr w') => Lib.hid (lines0_any w' _ (pvT t rn cn k) _ pt k (HU.out.keep (HKR.out.both kk)) (HP.out.keep (K3.out.both (HKR.out.both kk))) hm12 HPV.out.2.1 HNP.out HPV.out.2.2 HPK.out)
     rw [HZS.out] at CB
     rw [HNT.out] at CA
     rw [HNT.out] at CB
     rw [HNP.out] at CA CB
     generalize zB t pt k nt = zb at *
     go_wp2_with fail
     refine (CA _ (by (repeat' (with_reducible first | assumption | exact HK.out | exact keR | refine keA ?_ | refine keS ?_ fun h => absurd h (by omega) | refine keN ?_ | refine keD ?_)))).out.mono ?_
     rintro e w5 ⟨rfl, hk5⟩
     go_wp2_with fail
     refine (CB _ hk5).out.mono ?_
     rintro e w6 ⟨rfl, hk6⟩
     have K6 := Lib.hid (K3.out.both (HKR.out.both (hk5.both hk6)))
     clear CA CB hk5 hk6
     cases zb
     ·go_wp2
      go_ret
      exact ⟨rfl, K6.out⟩
     ·go_wp2
      go_ret
      exact ⟨rfl, K6.out⟩
    case pos =>
     have hlt : (k : Int) < (np : Int) := by omega
     obtain ⟨bp, op, hox, hbp, d0, d1⟩ := HP.out.at (k := k) (by rw [HNP.out]; exact hkn)
     subst hox
     have HTK := Lib.hid (List.take_succ_eq_append_getElem (l := pt) (i := k) (by rw [HNP.out]; exact hkn))
     have p0 := ((K3.out.both HKR.out).cell hbp).trans d0
     have p1 := ((K3.out.both HKR.out).cell hbp).trans d1
     have hbr := Nat.lt_of_lt_of_le hbp (K3.out.both HKR.out).size
     clear d0 d1
     generalize pt[k]'(by rw [HNP.out]; exact hkn) = g at *
     obtain ⟨gn, gd⟩ := g
     simp only at p0 p1
     have CC := fun w => Lib.hid (refRight_any gn gd w)
     by_cases hx : FracOK gn gd
     ·rw [decide_eq_true hx] at CC
      have HG2 : Hid (∀ g ∈ pt.take (k + 1), FracOK g.N g.D) := Lib.hid (by
       rw [HTK.out]
       intro g hg
       rcases List.mem_append.1 hg with hg | hg
       ·exact HG.out g hg
       ·rw [List.mem_singleton.1 hg]; exact hx)
      clear hx
      go_wp2_with fail
      refine (CC _).out.mono ?_
      rintro e w5 ⟨rfl, hk5⟩
      have K5 := Lib.hid (HKR.out.both hk5)
      clear hk5 CC p0 p1 hbr
      go_wp2
      go_roundw
      case rel => exact ⟨k + 1, by omega, by go_num, HG2.out, K5.out⟩
      case measure => simp [intOf]; omega
     ·rw [decide_eq_false hx] at CC
      clear hx
      go_wp2_with fail
      refine (CC _).out.mono ?_
      rintro e w5 ⟨rfl, hk5⟩
      have K5 := Lib.hid (K3.out.both (HKR.out.both hk5))
      clear hk5 CC p0 p1 hbr
      go_wp2
      go_ret
      exact ⟨rfl, K5.out⟩
end Go.Proofs.YtamjmcdlddocgaaGreat
