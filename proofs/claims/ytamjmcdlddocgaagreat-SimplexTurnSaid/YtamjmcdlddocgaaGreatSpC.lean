/- Package simplex's Pivot. -/
import Derived.Test.YtamjmcdlddocgaaGreatSpB
namespace Go.Proofs.YtamjmcdlddocgaaGreat
open Go.ChangeShapes Go.WideShapes Go.RowKit
set_option linter.unusedVariables false
set_option linter.unusedSimpArgs false
theorem fq_zero {g : Fq} (h : FracOK g.N g.D) : g.q = 0 ↔ g.N = 0 := by
 have hd := h.1
 show Rat.divInt g.N g.D = 0 ↔ g.N = 0
 constructor
 ·intro h
  rw [← Rat.zero_divInt g.D, Rat.divInt_eq_divInt_iff (by omega) (by omega), Int.zero_mul] at h
  rcases Int.mul_eq_zero.1 h with h | h
  ·exact h
  ·omega
 ·intro h; rw [h, Rat.zero_divInt]
def inTab (t : List (List Fq)) (r c : Int) : Prop := 0 ≤ r ∧ r < t.length ∧ 0 ≤ c ∧ c < headLen t
instance (t : List (List Fq)) (r c : Int) : Decidable (inTab t r c) := by unfold inTab; infer_instance
def tqN (t : List (List Fq)) (r c : Int) : Int := ((t.getD r.toNat []).getD c.toNat ⟨0, 0⟩).N
def pivF (t : List (List Fq)) (r c : Int) : Int × Int :=
 if (tabF t).1 = 0 then (if inTab t r c then (if tqN t r c = 0 then (6, 0) else (pvC t r.toNat c.toNat (headLen t), 0)) else (3, -1)) else tabF t
def pivR (t : List (List Fq)) (r c : Int) : List (List Fq) :=
 if (tabF t).1 = 0 then (if inTab t r c then (if tqN t r c = 0 then [] else pvT t r.toNat c.toNat (headLen t)) else []) else []
set_option maxRecDepth 100000 in
set_option maxHeartbeats 16000000 in
theorem pivot_any (w : World) (v : Value) (t : List (List Fq)) (r c : Int) (h : IsTab w v t) (hr : I64 r) (hc : I64 c) :
  Calls Tryz.prog 8 #[v, .int .i64 r, .int .i64 c] w fun e w' => ∃ u, e = .returned (.tuple #[u, fV (pivF t r c)]) ∧ IsTab w' u (pivR t r c) ∧ Keep NoS w w' := by
 have CH := fun w' (k : Keep NoS w w') => Lib.hid (chkCells_any w' v t (h.keep k))
 have HT := Lib.hid h
 obtain ⟨oa, ca, rfl, _, hma⟩ := h.len
 unfold maxLen at hma
 clear h
 by_cases hf : (tabF t).1 = 0
 case neg =>
  have hF : pivF t r c = tabF t := by unfold pivF; rw [if_neg hf]
  have hR : pivR t r c = [] := by unfold pivR; rw [if_neg hf]
  rw [hF, hR]
  generalize tabF t = cf at *
  obtain ⟨c1, c2⟩ := cf
  simp only at hf
  unfold fV at CH ⊢
  simp only at CH ⊢
  have e1 : (c1 != 0) = true := by rw [bne_iff_ne]; exact hf
  clear hf hF hR HT
  go_enter Tryz.func8, Tryz.ntmps8
  go_wp2_with fail
  refine (CH _ (by (repeat' (with_reducible first | assumption | exact HK.out | exact keR | refine keA ?_ | refine keS ?_ fun h => absurd h (by omega) | refine keN ?_ | refine keD ?_)))).out.mono ?_
  rintro e w1 ⟨rfl, hk1⟩
  have B5 : Blk w1 w.heap.size #[.int .i64 0, .int .i64 0] := Blk.keep (by (repeat (first | (with_reducible assumption) | (refine blk_at _ _ ?_; simp; done) | (refine Blk.old ?_ _)))) hk1
  have K1 : Hid (Keep NoS w w1) := Lib.hid (Keep.both (by (repeat' (with_reducible first | assumption | exact HK.out | exact keR | refine keA ?_ | refine keS ?_ fun h => absurd h (by omega) | refine keN ?_ | refine keD ?_))) hk1)
  have HB5 := Lib.hid B5
  clear hk1 CH B5
  generalize hb5 : w.heap.size = b5 at HB5 ⊢
  have HS5 : Hid (w.heap.size ≤ b5) := Lib.hid (by omega)
  clear hb5
  go_upto_region 3 with fail
  have HK0 : Hid (Keep NoS w (w1.alloc (.cells #[.int .i64 c1, .int .i64 c2] 26))) := Lib.hid (K1.out.alloc _)
  have HB6 : Hid (Blk (w1.alloc (.cells #[.int .i64 c1, .int .i64 c2] 26)) w1.heap.size #[.int .i64 c1, .int .i64 c2]) := Lib.hid (blk_at _ _ rfl)
  have HB5 := Lib.hid (HB5.out.old (.cells #[.int .i64 c1, .int .i64 c2] 26))
  generalize w1.alloc (.cells #[.int .i64 c1, .int .i64 c2] 26) = w3 at *
  generalize w1.heap.size = b6 at *
  obtain ⟨s0, s1, t0, t1, sl⟩ := HB5.out.two
  refine wp_region_by (fun w' => Keep NoS w3 w') [2] [([0, 1], 2)] [] (by kernel_rfl) (by kernel_rfl) (by (repeat' (with_reducible first | assumption | exact HK.out | exact keR | refine keA ?_ | refine keS ?_ fun h => absurd h (by omega) | refine keN ?_ | refine keD ?_))) ?_
  intro X W hne hF hcl
  have hx0 := fun x => (HB6.out.keep (hF x)).two
  clear hF hcl
  simp only [wpPlan, pickOps, List.getElem?_toArray, List.getElem?_cons_zero, List.getElem?_cons_succ, clsOf, Bool.false_eq_true, if_false]
  (repeat (quiet_step (fail))); refine wpQuiet_nil ?_
  refine wpAt rfl rfl fun K hK => ?_
  go_simp
  refine hK _ _ ⟨fun h => (by simp at h), ?_⟩
  have HB5' : Hid (Blk ((w3.setCell ⟨b5, 0, none⟩ (.int .i64 c1)).setCell ⟨b5, 1, none⟩ (.int .i64 c2)).drew b5 #[.int .i64 c1, .int .i64 c2]) := Lib.hid ((HB5.out.set2 (.int .i64 c1) (.int .i64 c2)).keep (Keep.refl NoS _).drew)
  have K14 : Hid (Keep NoS w ((w3.setCell ⟨b5, 0, none⟩ (.int .i64 c1)).setCell ⟨b5, 1, none⟩ (.int .i64 c2)).drew) := Lib.hid (keep_set2 HK0.out HS5.out (.int .i64 c1) (.int .i64 c2)).drew
  clear hK K s0 s1 t0 t1 sl
  generalize ((w3.setCell ⟨b5, 0, none⟩ (.int .i64 c1)).setCell ⟨b5, 1, none⟩ (.int .i64 c2)).drew = w5 at *
  (repeat (quiet_step (fail))); refine wpQuiet_nil ?_
  refine NoPanic.normal ?_
  obtain ⟨s0, s1, t0, t1, sl⟩ := HB5'.out.two
  go_wp2
  refine bodyPost_ret (by simp [results, Tryz.results8, go_sem, s0, s1, sl]; rfl) rfl ?_
  exact ⟨_, rfl, nil_tab _, K14.out⟩
 case pos =>
  obtain ⟨hc0, htok⟩ := tabF_ok hf
  rw [hc0] at CH
  have hF : pivF t r c = if inTab t r c then (if tqN t r c = 0 then (6, 0) else (pvC t r.toNat c.toNat (headLen t), 0)) else (3, -1) := by unfold pivF; rw [if_pos hf]
  have hR : pivR t r c = if inTab t r c then (if tqN t r c = 0 then [] else pvT t r.toNat c.toNat (headLen t)) else [] := by unfold pivR; rw [if_pos hf]
  have HTOK := Lib.hid htok
  unfold fV at CH ⊢
  simp only at CH ⊢
  clear hf hc0 htok
  have HFR := Lib.hid (And.intro hF hR)
  clear hF hR
  unfold I64 at hr hc
  generalize hpf : pivF t r c = pf at *
  generalize hpr : pivR t r c = pr at *
  obtain ⟨pf1, pf2⟩ := pf
  simp only
  clear hpf hpr
  go_enter Tryz.func8, Tryz.ntmps8
  go_wp2_with fail
  refine (CH _ (by (repeat' (with_reducible first | assumption | exact HK.out | exact keR | refine keA ?_ | refine keS ?_ fun h => absurd h (by omega) | refine keN ?_ | refine keD ?_)))).out.mono ?_
  rintro e w1 ⟨rfl, hk1⟩
  have B7 : Blk w1 w.heap.size #[.int .i64 0, .int .i64 0] := Blk.keep (by (repeat (first | (with_reducible assumption) | (refine blk_at _ _ ?_; simp; done) | (refine Blk.old ?_ _)))) hk1
  have K1 : Hid (Keep NoS w w1) := Lib.hid (Keep.both (by (repeat' (with_reducible first | assumption | exact HK.out | exact keR | refine keA ?_ | refine keS ?_ fun h => absurd h (by omega) | refine keN ?_ | refine keD ?_))) hk1)
  have HB7 := Lib.hid (B7.old (.cells #[.int .i64 0, .int .i64 0] 26))
  have HK0 := Lib.hid (K1.out.alloc (.cells #[.int .i64 0, .int .i64 0] 26))
  clear hk1 CH B7 K1
  generalize hb7 : w.heap.size = b7 at HB7 ⊢
  have HS7 : Hid (w.heap.size ≤ b7) := Lib.hid (by omega)
  clear hb7
  obtain ⟨s0, s1, t0, t1, sl⟩ := HB7.out.two
  go_upto_region 4 with fail
  generalize w1.alloc (.cells #[.int .i64 0, .int .i64 0] 26) = w2 at *
  have HS72 : Hid (b7 < w2.heap.size) := Lib.hid HB7.out.lt
  by_cases hin : inTab t r c
  case neg =>
   have hFR := HFR.out
   rw [if_neg hin, if_neg hin] at hFR
   obtain ⟨hp1, rfl⟩ := hFR
   cases hp1
   clear HFR
   by_cases r0 : r < 0
   case pos =>
    go_wp2
    refine bodyPost_ret (by simp [results, Tryz.results8, go_sem, s0, s1, sl]; rfl) rfl ?_
    exact ⟨_, rfl, nil_tab _, keep_set2 HK0.out HS7.out _ _⟩
   case neg =>
    by_cases r1 : r < (t.length : Int)
    case neg =>
     have r1' : (t.length : Int) ≤ r := by omega
     go_wp2
     refine bodyPost_ret (by simp [results, Tryz.results8, go_sem, s0, s1, sl]; rfl) rfl ?_
     exact ⟨_, rfl, nil_tab _, keep_set2 HK0.out HS7.out _ _⟩
    case pos =>
     have hl0 : 0 < t.length := by omega
     have hl0' : (0 : Int) < (t.length : Int) := by omega
     by_cases q0 : c < 0
     case pos =>
      go_wp2
      refine bodyPost_ret (by simp [results, Tryz.results8, go_sem, s0, s1, sl]; rfl) rfl ?_
      exact ⟨_, rfl, nil_tab _, keep_set2 HK0.out HS7.out _ _⟩
     case neg =>
      obtain ⟨b, o, sv, rfl, hb, hcell, hfr⟩ := HT.out.at hl0
      have hcell : w.cell? ⟨b, o, none⟩ = some sv := by simpa using hcell
      have hhl : headLen t = t[0].length := by unfold headLen; rw [List.getD_eq_getElem?_getD, List.getElem?_eq_getElem hl0]; rfl
      obtain ⟨oh, ch, rfl, _, hmh⟩ := hfr.len
      rw [← hhl] at hcell
      have hm0 := (HK0.out.cell hb).trans hcell
      have q1 : (headLen t : Int) ≤ c := by unfold inTab at hin; omega
      have q1' : ¬ c < (headLen t : Int) := by omega
      clear hhl hfr hcell
      generalize headLen t = m at *
      go_wp2
      refine bodyPost_ret (by simp [results, Tryz.results8, go_sem, s0, s1, sl]; rfl) rfl ?_
      exact ⟨_, rfl, nil_tab _, keep_set2 HK0.out HS7.out _ _⟩
  case pos =>
   have hin' := hin
   obtain ⟨r0, r1, q0, q1⟩ := hin'
   obtain ⟨rn, rfl⟩ : ∃ rn : Nat, r = (rn : Int) := ⟨r.toNat, by omega⟩
   obtain ⟨cn, rfl⟩ : ∃ cn : Nat, c = (cn : Int) := ⟨c.toNat, by omega⟩
   have hl0 : 0 < t.length := by omega
   have hrn : rn < t.length := by omega
   have hl0' : (0 : Int) < (t.length : Int) := by omega
   have hTOK := HTOK.out hl0
   obtain ⟨b, o, sv, rfl, hb, hcell, hfr⟩ := HT.out.at hl0
   have hcell : w.cell? ⟨b, o, none⟩ = some sv := by simpa using hcell
   have hhl : headLen t = t[0].length := by unfold headLen; rw [List.getD_eq_getElem?_getD, List.getElem?_eq_getElem hl0]; rfl
   obtain ⟨oh, ch, rfl, _, hmh⟩ := hfr.len
   rw [← hhl] at hcell
   have hm0 := (HK0.out.cell hb).trans hcell
   obtain ⟨b', o', sv, hbo, _, hcr, hfr'⟩ := HT.out.at hrn
   cases hbo
   obtain ⟨orr, cr, rfl, _, hmr⟩ := hfr'.len
   have hlr := hTOK.len _ (List.getElem_mem hrn)
   have hcn : cn < t[rn].length := by rw [hlr]; omega
   obtain ⟨br, o2, rfl, hbr, c0, c1⟩ := hfr'.at hcn
   rw [hlr] at hcr
   have hm1 := (HK0.out.cell hb).trans hcr
   have hm2 := (HK0.out.cell hbr).trans c0
   have hNN : tqN t rn cn = (t[rn][cn]).N := by
    unfold tqN
    rw [show ((rn : Int)).toNat = rn from by omega, show ((cn : Int)).toNat = cn from by omega]
    have e : t.getD rn [] = t[rn] := by rw [List.getD_eq_getElem?_getD, List.getElem?_eq_getElem hrn]; rfl
    rw [e, List.getD_eq_getElem?_getD, List.getElem?_eq_getElem hcn]; rfl
   have hok := hTOK.ok _ (List.getElem_mem hrn) _ (List.getElem_mem hcn)
   have htq : tq t rn cn = (t[rn][cn]).q := tq_at hrn hcn
   have hFR := HFR.out
   rw [if_pos hin, if_pos hin, hNN] at hFR
   simp only [Int.toNat_natCast] at hFR
   have hm : cn < headLen t := by omega
   have hbx := Nat.lt_of_lt_of_le hb HK0.out.size
   have hbr' := Nat.lt_of_lt_of_le hbr HK0.out.size
   generalize hg : t[rn][cn] = g at *
   generalize hhm : headLen t = m at *
   have e2 : ¬ (rn : Int) < 0 := by omega
   have e3 : ¬ (cn : Int) < 0 := by omega
   have e4 : ¬ (t.length : Int) ≤ (rn : Int) := by omega
   have e5 : ¬ (m : Int) ≤ (cn : Int) := by omega
   by_cases hz : g.N = 0
   case pos =>
    rw [if_pos hz, if_pos hz] at hFR
    obtain ⟨hp1, rfl⟩ := hFR
    cases hp1
    rw [hz] at hm2
    clear HFR hz hNN htq hok hTOK hin hg hhm hhl hfr hfr' hcell hcr c0 c1 hlr hcn HTOK HT
    go_wp2
    refine bodyPost_ret (by simp [results, Tryz.results8, go_sem, s0, s1, sl]; rfl) rfl ?_
    exact ⟨_, rfl, nil_tab _, keep_set2 HK0.out HS7.out _ _⟩
   case neg =>
    rw [if_neg hz, if_neg hz] at hFR
    obtain ⟨hp1, rfl⟩ := hFR
    cases hp1
    have e6 : (g.N == 0) = false := by rw [beq_eq_false_iff_ne]; exact hz
    have h0 : tq t rn cn ≠ 0 := by
     rw [htq]
     intro h0
     refine hz ?_
     exact (fq_zero hok).1 h0
    have CP := fun w' (k : Keep NoS w w') => Lib.hid (pivoted_any w' _ t rn cn m (HT.out.keep k) hTOK hrn hm h0)
    clear HFR hz hNN htq hok hTOK hin hg hhm hhl hfr hfr' hcell hcr c0 c1 hlr hcn HTOK HT h0
    go_wp2_with fail
    refine (CP _ HK0.out).out.mono ?_
    rintro e w5 ⟨u, rfl, hu, hk5⟩
    have HB7 := Lib.hid (HB7.out.keep hk5)
    have K5 := Lib.hid (HK0.out.both hk5)
    have HU := Lib.hid hu
    have hlt7 := HB7.out.lt
    obtain ⟨s0, s1, t0, t1, sl⟩ := HB7.out.two
    go_wp2
    refine bodyPost_ret (by simp [results, Tryz.results8, go_sem, s0, s1, sl]; rfl) rfl ?_
    exact ⟨_, rfl, (HU.out.set2 HS72.out).tab pvT_i64, keep_set2 K5.out HS7.out _ _⟩
end Go.Proofs.YtamjmcdlddocgaaGreat
