/- gap.Far. -/
import Derived.Test.YtnmklgigmmlgeaaGapFW
import Derived.Test.YtnmklgigmmlgeaaArr
namespace Go.Proofs.Ytnmklgigmmlgeaa
open Go.ChangeShapes Go.WideShapes Go.RowKit
set_option linter.unusedVariables false
set_option linter.unusedSimpArgs false

theorem infoInts : (Try.prog.info? 40).map (fun i => (i.zero, i.size, i.bytes)) = some (some (.slice none 0 0), 1, 24) := by kernel_rfl

/-- What gap.Far returns. -/
def FarRes (n : Int) (l : List Gp) (w' : World) (v : Value) : Prop :=
  (∃ c a, gapsW n l = (c, a) ∧ c ≠ 0 ∧ v = .tuple #[.slice none 0 0, .agg #[.int .i64 c, .int .i64 a]]) ∨
  (∃ N : Nat, n = (N : Int) ∧ gapsW N l = (0, 0) ∧ (∃ r, RoundOK N l r) ∧ v = .tuple #[.slice none 0 0, .agg #[.int .i64 11, .int .i64 0]]) ∨
  (∃ N : Nat, n = (N : Int) ∧ gapsW N l = (0, 0) ∧ (∃ t, (rnds N l (t + 1)).last < 0) ∧ ∃ G gs cp, Mat w' G N gs cp (tab N l N) ∧ v = .tuple #[.slice (some ⟨G, 0, none⟩) N N, .agg #[.int .i64 0, .int .i64 0]])

abbrev t0 : Nat → Nat → Int := fun a b => if a = b then 0 else 1099511627776

theorem made_at {z : Value} (hz : z.cells = #[z]) (n i : Nat) (h : i < n) : (madeCells z.cells (n * 1)).toList[i]? = some z := by
  rw [hz]
  simp [madeCells, h, Nat.mod_one]

set_option maxRecDepth 100000 in
set_option maxHeartbeats 16000000 in
theorem far_any (w : World) (n : Int) (v : Value) (l : List Gp) (h : IsGaps w v l) :
    Calls Try.prog 38 #[.int .i64 n, v] w fun e w' => ∃ v', e = .returned v' ∧ Keep NoS w w' ∧ FarRes n l w' v' := by
  have HG := Lib.hid h
  obtain ⟨oa, cap, rfl, hm, hr, _⟩ := h
  clear hr
  unfold maxLen at hm
  go_enter Try.func38, Try.ntmps38
  go_wp2_with fail
  refine (do_any _ n _ l (HG.out.keep (by (repeat' (first | (with_reducible assumption) | (with_reducible exact HK.out) | (with_reducible exact Keep.refl _ _) | (with_reducible refine Keep.alloc ?_ _) | (with_reducible refine Keep.setCell ?_ _ (fun h => absurd h (by omega))) | (with_reducible refine Keep.drewN ?_ _) | (with_reducible refine Keep.drew ?_)))))).mono ?_
  rintro e w1 ⟨v1, rfl, hk1, hd⟩
  have K1 : Keep NoS w w1 := Keep.trans (by (repeat' (first | (with_reducible assumption) | (with_reducible exact HK.out) | (with_reducible exact Keep.refl _ _) | (with_reducible refine Keep.alloc ?_ _) | (with_reducible refine Keep.setCell ?_ _ (fun h => absurd h (by omega))) | (with_reducible refine Keep.drewN ?_ _) | (with_reducible refine Keep.drew ?_)))) hk1 fun _ _ _ h => h
  have B1 : Blk w1 w.heap.size #[.int .i64 0, .int .i64 0] := Blk.keep (by (repeat (first | (with_reducible assumption) | (refine blk_at _ _ ?_; simp; done) | (refine Blk.old ?_ _)))) hk1
  clear hk1
  rcases hd.cases' with ⟨c, a, hgc, hc, rfl⟩ | ⟨N, rfl, h0, hg, t, hneg, hvl, hvb, ov, cv, hi, rfl⟩ | ⟨N, rfl, h0, hg, r, hrk, ov, cv, hi, rfl⟩
  · have ec : (c != 0) = true := bne_iff_ne.2 hc
    have E := Lib.hid hgc
    obtain ⟨c0, c1, f0, f1, l0⟩ := B1.two
    have m0 : ¬ w1.heap.size = w.heap.size := by omega
    clear hgc hd
    go_wp2
    go_region
    go_wp2
    refine bodyPost_ret (by simp [results, Try.results38, go_sem, c0, c1, f0, f1, m0, l0]; rfl) rfl ?_
    exact ⟨_, rfl, by (repeat' (first | (with_reducible assumption) | (with_reducible exact HK.out) | (with_reducible exact Keep.refl _ _) | (with_reducible refine Keep.alloc ?_ _) | (with_reducible refine Keep.setCell ?_ _ (fun h => absurd h (by omega))) | (with_reducible refine Keep.drewN ?_ _) | (with_reducible refine Keep.drew ?_))), .inl ⟨c, a, E.out, hc, rfl⟩⟩
  · have HGP := Lib.hid hg
    have E0 := Lib.hid h0
    have HT : Hid (∃ t, (rnds N l (t + 1)).last < 0) := Lib.hid ⟨t, hneg⟩
    have hN12 := hg.1
    have hl60 := hg.2.1
    clear h0 hneg hg hi hvb hvl hd
    obtain ⟨i1, hi1, hz1, hs1, hb1⟩ := info_parts infoInts
    obtain ⟨i0, hi0, hz0, hs0, hb0⟩ := info_parts infoInt
    have hl1 := B1.lt
    go_upto_region 6 with fail
    have K2 : Keep NoS w (w1.alloc (.cells #[.int .i64 0, .int .i64 0] 25)) := by (repeat' (first | (with_reducible assumption) | (with_reducible exact HK.out) | (with_reducible exact Keep.refl _ _) | (with_reducible refine Keep.alloc ?_ _) | (with_reducible refine Keep.setCell ?_ _ (fun h => absurd h (by omega))) | (with_reducible refine Keep.drewN ?_ _) | (with_reducible refine Keep.drew ?_)))
    have B2 : Blk (w1.alloc (.cells #[.int .i64 0, .int .i64 0] 25)) w.heap.size #[.int .i64 0, .int .i64 0] := by (repeat (first | (with_reducible assumption) | (refine blk_at _ _ ?_; simp; done) | (refine Blk.old ?_ _)))
    clear K1 B1 hl1
    generalize w1.alloc (.cells #[.int .i64 0, .int .i64 0] 25) = w2 at *
    have hs2 := B2.lt
    obtain ⟨w3, hr3, ho3, hg3⟩ := run_make_full (P := Try.prog) w2 w2.heap.size 67 40 i1 (.slice none 0 0) 1 Try.underlying67 hi1 hz1 hs1 .i64 .i64 N (by rw [hb1]; omega) (by unfold maxLen; omega) (by omega)
    have P3 : Arr w3 w2.heap.size TL N (fun _ => .slice none 0 0) := arr_of_own ho3 fun i hi => made_at rfl N i hi
    have L3 : Keep NoS w2 w3 := Keep.of_below (grown_keep hg3 w2.heap.size (Nat.le_refl _) (by simp)) (Nat.le_refl _)
    have K3 : Keep NoS w w3 := K2.trans L3 fun _ _ _ h => h
    have B3 := B2.keep L3
    have q3 : w.heap.size < w2.heap.size := hs2
    clear ho3 hg3 K2 B2 L3
    generalize hG : w2.heap.size = G at *
    have HP3 := Lib.hid P3
    have HB3 := Lib.hid B3
    have HK3 := Lib.hid K3
    clear P3 B3 K3
    go_wp2
    clear hr3
    go_loopw [38] (fun s wr => ∃ k : Nat, k ≤ N ∧ s = .int .i64 k ∧ Keep NoS w wr ∧ Blk wr w.heap.size #[.int .i64 0, .int .i64 0] ∧ ∃ gs vs, (∀ a, a < k → w.heap.size < gs a) ∧ Arr wr G TL N vs ∧ (∀ a, a < k → vs a = .slice (some ⟨gs a, 0, none⟩) N N) ∧ Lines wr k N gs t0) (fun s _ => (N - intOf s).toNat)
    case atStart => exact ⟨0, by omega, rfl, HK3.out, HB3.out, fun _ => 0, _, fun a ha => absurd ha (by omega), HP3.out, fun a ha => absurd ha (by omega), ⟨fun a ha => absurd ha (by omega), fun a b ha => absurd ha (by omega)⟩⟩
    case round =>
      obtain ⟨k, hk, rfl, hkp, hbk, gs, vs, hgs, har, hvs, hln⟩ := hrel
      have HGS := Lib.hid hgs
      clear hgs
      have HKP := Lib.hid hkp
      have HBK := Lib.hid hbk
      have HVS := Lib.hid hvs
      have HLN := Lib.hid hln
      have hGl := har.lt
      have HAR := Lib.hid har
      clear hkp hbk hvs hln har
      by_cases hlt0 : k < N
      · have hlt : (k : Int) < (N : Int) := by omega
        obtain ⟨w4, rfl⟩ : ∃ W : World, W = wr := ⟨_, rfl⟩
        obtain ⟨w5, hr5, ho5, hg5⟩ := run_make_full (P := Try.prog) w4 w4.heap.size 40 3 i0 (.int .i64 0) 1 Try.underlying40 hi0 hz0 hs0 .i64 .i64 N (by rw [hb0]; omega) (by unfold maxLen; omega) (by omega)
        have P5 : Line w5 w4.heap.size N (fun _ => 0) := arr_of_own ho5 fun i hi => made_at rfl N i hi
        have L5 : Keep NoS w4 w5 := Keep.of_below (grown_keep hg5 w4.heap.size (Nat.le_refl _) (by simp)) (Nat.le_refl _)
        have K5 := Lib.hid (HKP.out.trans L5 fun _ _ _ h => h)
        have B5 := Lib.hid (HBK.out.keep L5)
        have A5 := HAR.out.keep L5
        have N5 := Lib.hid (HLN.out.keep L5)
        have hfr := A5.free k
        have hGl5 := A5.lt
        have hcell := A5.cell hlt0
        have HA5 := Lib.hid A5
        have HP5 := Lib.hid P5
        have hgl5 := Arr.lt P5
        have hgG : ¬ w4.heap.size = G := by omega
        have HNE : Hid (∀ a, a < k → gs a ≠ w4.heap.size) := Lib.hid fun a ha e => by
          have := Arr.lt (HLN.out.line a ha)
          omega
        clear ho5 hg5 L5 A5 P5 HKP HBK HAR HLN
        generalize hg : w4.heap.size = g at *
        clear hg
        generalize vs k = vk at hcell
        go_wp2
        clear hr5 hcell
        have AW : Arr (w5.setCell ⟨G, k, none⟩ (.slice (some ⟨g, 0, none⟩) N N)) G TL N (fun a => if a = k then .slice (some ⟨g, 0, none⟩) N N else vs a) := HA5.out.set k _
        have PW : Line (w5.setCell ⟨G, k, none⟩ (.slice (some ⟨g, 0, none⟩) N N)) g N (fun _ => 0) := Arr.other HP5.out k _ hgG
        have LW : Lines (w5.setCell ⟨G, k, none⟩ (.slice (some ⟨g, 0, none⟩) N N)) k N gs t0 := N5.out.off HA5.out (by decide) _ _
        have KW : Keep NoS w (w5.setCell ⟨G, k, none⟩ (.slice (some ⟨g, 0, none⟩) N N)) := K5.out.setCell _ fun h => absurd h (by omega)
        have BW : Blk (w5.setCell ⟨G, k, none⟩ (.slice (some ⟨g, 0, none⟩) N N)) w.heap.size #[.int .i64 0, .int .i64 0] := B5.out.setOther _ _ (by omega)
        clear HA5 HP5 N5 K5 B5 hGl5 hgl5 hfr
        generalize w5.setCell ⟨G, k, none⟩ (.slice (some ⟨g, 0, none⟩) N N) = w6 at *
        have HAW := Lib.hid AW
        have HPW := Lib.hid PW
        have HLW := Lib.hid LW
        have HKW := Lib.hid KW
        have HBW := Lib.hid BW
        clear AW PW LW KW BW
        go_loopw [51] (fun s wr => ∃ j : Nat, j ≤ N ∧ s = .int .i64 j ∧ Keep (InB g) w6 wr ∧ Line wr g N (fun i => if i < j then 1099511627776 else 0)) (fun s _ => (N - intOf s).toNat)
        case atStart => exact ⟨0, by omega, rfl, Keep.refl _ _, HPW.out⟩
        case round =>
          obtain ⟨j, hj, rfl, hkq, hline⟩ := hrel
          have HKQ := Lib.hid hkq
          have HGa := Lib.hid (HAW.out.keepS hkq fun i h => hgG h.symm)
          have hcG := HGa.out.cell hlt0
          rw [if_pos rfl] at hcG
          have hGl6 := HGa.out.lt
          have hgl6 := Arr.lt hline
          have hfr6 := Arr.free hline
          by_cases hjl : j < N
          · have hltj : (j : Int) < (N : Int) := by omega
            have hcj := Arr.cell hline hjl
            have hfj := hfr6 j
            have HLI := Lib.hid hline
            clear hline hkq hfr6
            generalize (if j < j then (1099511627776 : Int) else 0) = z0 at hcj
            go_wp2
            go_roundw
            case rel =>
              refine ⟨j + 1, by omega, by go_num, HKQ.out.setCell _ fun _ => rfl, Arr.congr (Line.set HLI.out j 1099511627776) fun i hi => ?_⟩
              by_cases e1 : i = j
              · subst e1; simp
              · by_cases e2 : i < j
                · simp [e1, e2, show i < j + 1 by omega]
                · simp [e1, e2, show ¬ i < j + 1 by omega]
            case measure => simp [intOf]; omega
          · have hltj : ¬ (j : Int) < (N : Int) := by omega
            obtain rfl : j = N := by omega
            have hck := Arr.cell hline hlt0
            have hfk := hfr6 k
            have HLI := Lib.hid hline
            clear hline hkq hfr6
            generalize (if k < j then (1099511627776 : Int) else 0) = z0 at hck
            go_wp2
            go_roundw
            case rel =>
              have h1 := HLW.out.keepS HKQ.out fun a ha i h => HNE.out a ha h
              have h2 : Blk wr w.heap.size #[.int .i64 0, .int .i64 0] := blk_keepS HBW.out HKQ.out (fun h => by have h' : w.heap.size = g := h; have := HKW.out.size; omega)
              have h3 := (HKW.out.trans HKQ.out fun n o hn h => by have h' : n = g := h; have := HKW.out.size; omega)
              have hgw : ¬ w.heap.size = g := fun h' => by have := HKW.out.size; omega
              refine ⟨k + 1, by omega, by go_num, h3.setCell _ fun h => absurd h (by have := HKW.out.size; omega), h2.setOther _ _ hgw, fun a => if a = k then g else gs a, _, fun a ha => ?_, Arr.other HGa.out _ _ (fun e => hgG e.symm), fun a ha => ?_, ?_⟩
              · have := HKW.out.size
                by_cases e1 : a = k
                · simp only [e1, if_true]; omega
                · simp only [e1, if_false]; exact HGS.out a (by omega)
              · by_cases e1 : a = k
                · simp [e1]
                · simp only [e1, if_false]; exact HVS.out a (by omega)
              · refine Lines.congr ((h1.other HNE.out k _).more (Line.set HLI.out k 0) HNE.out) fun a b ha hb => ?_
                by_cases e1 : a = k
                · subst e1
                  by_cases e2 : b = a
                  · simp [e2]
                  · simp [e2, hb]; exact fun e => e2 e.symm
                · simp [e1]
            case measure => simp [intOf]; omega
      · have hlt : ¬ (k : Int) < (N : Int) := by omega
        obtain rfl : k = N := by omega
        have HM : Hid (Mat wr G k gs (fun _ => k) (tini l 0)) := Lib.hid ⟨HAR.out.congr HVS.out, HLN.out⟩
        obtain ⟨w4, rfl⟩ : ∃ W : World, W = wr := ⟨_, rfl⟩
        clear HAR HLN HVS
        go_wp2
        go_loopw [70] (fun s wr => ∃ j : Nat, j ≤ l.length ∧ s = .int .i64 j ∧ Keep NoS w wr ∧ Blk wr w.heap.size #[.int .i64 0, .int .i64 0] ∧ Mat wr G k gs (fun _ => k) (tini l j)) (fun s _ => (l.length - intOf s).toNat)
        case atStart => exact ⟨0, by omega, rfl, HKP.out, HBK.out, HM.out⟩
        case round =>
          obtain ⟨j, hj, rfl, hkp, hbk, hmt⟩ := hrel
          have HKJ := Lib.hid hkp
          have HBJ := Lib.hid hbk
          have HMJ := Lib.hid hmt
          have hGl := hmt.1.lt
          clear hkp hbk hmt HM HKP HBK
          by_cases hjl : j < l.length
          · have hltj : (j : Int) < (l.length : Int) := by omega
            obtain ⟨bg, og, cg, hsl, hbg, a0, a1, a2⟩ := (HG.out.keep HKJ.out).at hjl
            cases hsl
            have hgk : l.getD j ⟨0, 0, 0⟩ = l[j] := by rw [List.getD_eq_getElem?_getD, List.getElem?_eq_getElem hjl]; rfl
            have hq := HGP.out.at hjl
            have HTI : Hid (∀ x y, tini l (j + 1) x y = if l[j].A.toNat = x ∧ l[j].B.toNat = y then min (tini l j x y) l[j].By else tini l j x y) := Lib.hid fun x y => by rw [tini]; unfold gA gB gY; rw [hgk]
            unfold gA gB gY at hq
            rw [hgk] at hq
            clear hgk
            generalize l[j] = g at *
            obtain ⟨A, B, By⟩ := g
            simp only at a0 a1 a2 hq HTI
            obtain ⟨A, rfl⟩ : ∃ m : Nat, A = (m : Int) := ⟨A.toNat, by omega⟩
            obtain ⟨B, rfl⟩ : ∃ m : Nat, B = (m : Int) := ⟨B.toNat, by omega⟩
            simp only [Int.toNat_natCast] at hq HTI
            obtain ⟨hA, hB, y0, y1, _, _⟩ := hq
            have hA1 : (A : Int) < (k : Int) := by omega
            have hB1 : (B : Int) < (k : Int) := by omega
            have hcG := HMJ.out.1.cell hA
            have hgA := HGS.out A hA
            have hline := HMJ.out.2.line A hA
            have hcL := Arr.cell hline hB
            have hlL := Arr.lt hline
            have hfL := Arr.free hline B
            have hbb : ¬ wr.heap.size = bg := by omega
            have hbG : ¬ wr.heap.size = G := by omega
            have hbL : ¬ wr.heap.size = gs A := by omega
            clear hline
            generalize hz : tini l j A B = z at hcL
            have HZ := Lib.hid hz
            clear hz
            by_cases hlow : By < z
            · have e1 := dec_t hlow
              go_wp2
              refine wp_region_by (fun w' => w'.cell? ⟨wr.heap.size, 0, none⟩ = some (.int .i64 A) ∧ w'.cell? ⟨wr.heap.size, 1, none⟩ = some (.int .i64 B) ∧ w'.cell? ⟨wr.heap.size, 2, none⟩ = some (.int .i64 By) ∧
                  w'.cell? ⟨G, A, none⟩ = some (.slice (some ⟨gs A, 0, none⟩) k k) ∧ w'.cell? ⟨gs A, B, none⟩ = some (.int .i64 z))
                [20] [([0, 1, 2, 3, 4, 5, 6, 7, 8, 9, 10, 11, 12, 13, 14, 15, 16, 17, 18, 19], 20)] [] (by kernel_rfl) (by kernel_rfl) (by simp [hcG, hcL, hbG, hbL, hGl, hlL, World.cell?_alloc_lt]) ?_
              intro X W hne hF hcl
              have hx0 := fun x => (hF x).1
              have hx1 := fun x => (hF x).2.1
              have hx2 := fun x => (hF x).2.2.1
              have hx3 := fun x => (hF x).2.2.2.1
              have hx4 := fun x => (hF x).2.2.2.2
              clear hF hcl
              simp only [wpPlan, pickOps, List.getElem?_toArray, List.getElem?_cons_zero, List.getElem?_cons_succ, clsOf, Bool.false_eq_true, if_false]
              (repeat (quiet_step (fail))); refine wpQuiet_nil ?_
              refine wpOp_at (by simp only [List.getElem?_toArray, List.getElem?_cons_zero, List.getElem?_cons_succ]; rfl) (by rfl) (fun K hK => ?_)
              go_simp
              refine hK _ _ ⟨fun h => (by simp at h), ?_⟩
              clear hK K hx0 hx1 hx2 hx3 hx4
              (repeat (quiet_step (fail))); refine wpQuiet_nil ?_
              refine NoPanic.normal ?_
              go_wp2
              go_roundw
              case rel =>
                refine ⟨j + 1, by omega, by go_num, ((HKJ.out.setCell _ fun h => absurd h (by omega)).alloc _).drew, ?_, ?_⟩
                · exact ((HBJ.out.setOther _ _ (by omega)).old _).keep (Keep.refl _ _).drew
                · refine (((HMJ.out.set hA B By).old _).keep (Keep.refl _ _).drew).congr fun x y => ?_
                  rw [HTI.out]
                  by_cases e : A = x ∧ B = y
                  · rw [if_pos ⟨e.1.symm, e.2.symm⟩, if_pos e, ← e.1, ← e.2, HZ.out]; omega
                  · rw [if_neg fun h => e ⟨h.1.symm, h.2.symm⟩, if_neg e]
              case measure => simp [intOf]; omega
            · have e1 := dec_f hlow
              go_wp2
              refine wp_region_by (fun w' => w'.cell? ⟨wr.heap.size, 0, none⟩ = some (.int .i64 A) ∧ w'.cell? ⟨wr.heap.size, 1, none⟩ = some (.int .i64 B) ∧ w'.cell? ⟨wr.heap.size, 2, none⟩ = some (.int .i64 By) ∧
                  w'.cell? ⟨G, A, none⟩ = some (.slice (some ⟨gs A, 0, none⟩) k k) ∧ w'.cell? ⟨gs A, B, none⟩ = some (.int .i64 z))
                [20] [([0, 1, 2, 3, 4, 5, 6, 7, 8, 9, 10, 11, 12, 13, 14, 15, 16, 17, 18, 19], 20)] [] (by kernel_rfl) (by kernel_rfl) (by simp [hcG, hcL, hbG, hbL, hGl, hlL, World.cell?_alloc_lt]) ?_
              intro X W hne hF hcl
              have hx0 := fun x => (hF x).1
              have hx1 := fun x => (hF x).2.1
              have hx2 := fun x => (hF x).2.2.1
              have hx3 := fun x => (hF x).2.2.2.1
              have hx4 := fun x => (hF x).2.2.2.2
              clear hF hcl
              simp only [wpPlan, pickOps, List.getElem?_toArray, List.getElem?_cons_zero, List.getElem?_cons_succ, clsOf, Bool.false_eq_true, if_false]
              (repeat (quiet_step (fail))); refine wpQuiet_nil ?_
              refine wpOp_at (by simp only [List.getElem?_toArray, List.getElem?_cons_zero, List.getElem?_cons_succ]; rfl) (by rfl) (fun K hK => ?_)
              go_simp
              refine hK _ _ ⟨fun h => (by simp at h), ?_⟩
              clear hK K hx0 hx1 hx2 hx3 hx4
              (repeat (quiet_step (fail))); refine wpQuiet_nil ?_
              refine NoPanic.normal ?_
              go_wp2
              go_roundw
              case rel =>
                refine ⟨j + 1, by omega, by go_num, ((HKJ.out.setCell _ fun h => absurd h (by omega)).alloc _).drew, ?_, ?_⟩
                · exact ((HBJ.out.setOther _ _ (by omega)).old _).keep (Keep.refl _ _).drew
                · refine (((HMJ.out.set hA B z).old _).keep (Keep.refl _ _).drew).congr fun x y => ?_
                  rw [HTI.out]
                  by_cases e : A = x ∧ B = y
                  · rw [if_pos ⟨e.1.symm, e.2.symm⟩, if_pos e, ← e.1, ← e.2, HZ.out]; omega
                  · rw [if_neg fun h => e ⟨h.1.symm, h.2.symm⟩, if_neg e]
              case measure => simp [intOf]; omega
          · have hltj : ¬ (j : Int) < (l.length : Int) := by omega
            obtain rfl : j = l.length := by omega
            have HM0 : Hid (Mat wr G k gs (fun _ => k) (tab k l 0)) := HMJ
            obtain ⟨w4, rfl⟩ : ∃ W : World, W = wr := ⟨_, rfl⟩
            clear HMJ
            go_wp2
            go_loopw [96] (fun s wr => ∃ q : Nat, q ≤ k ∧ s = .int .i64 q ∧ Keep NoS w wr ∧ Blk wr w.heap.size #[.int .i64 0, .int .i64 0] ∧ Mat wr G k gs (fun _ => k) (tab k l q)) (fun s _ => (k - intOf s).toNat)
            case atStart => exact ⟨0, by omega, rfl, HKJ.out, HBJ.out, HM0.out⟩
            case round =>
              obtain ⟨q, hq, rfl, hkp, hbk, hmt⟩ := hrel
              have HKQ := Lib.hid hkp
              have HBQ := Lib.hid hbk
              have HMQ := Lib.hid hmt
              clear hkp hbk hmt HM0 HKJ HBJ
              by_cases hqk : q < k
              · have hltq : (q : Int) < (k : Int) := by omega
                obtain ⟨w5, rfl⟩ : ∃ W : World, W = wr := ⟨_, rfl⟩
                go_wp2
                go_loopw [100] (fun s wr => ∃ a : Nat, a ≤ k ∧ s = .int .i64 a ∧ Keep NoS w wr ∧ Blk wr w.heap.size #[.int .i64 0, .int .i64 0] ∧ Mat wr G k gs (fun _ => k) (fmat k (tab k l q) q a)) (fun s _ => (k - intOf s).toNat)
                case atStart => exact ⟨0, by omega, rfl, HKQ.out, HBQ.out, HMQ.out⟩
                case round =>
                  obtain ⟨a, ha, rfl, hkp, hbk, hmt⟩ := hrel
                  have HKA := Lib.hid hkp
                  have HBA := Lib.hid hbk
                  have HMA := Lib.hid hmt
                  clear hkp hbk hmt HMQ HKQ HBQ
                  by_cases hak : a < k
                  · have hlta : (a : Int) < (k : Int) := by omega
                    obtain ⟨w6, rfl⟩ : ∃ W : World, W = wr := ⟨_, rfl⟩
                    go_wp2
                    go_loopw [104] (fun s wr => ∃ b : Nat, b ≤ k ∧ s = .int .i64 b ∧ Keep NoS w wr ∧ Blk wr w.heap.size #[.int .i64 0, .int .i64 0] ∧ Mat wr G k gs (fun _ => k) (frow (fmat k (tab k l q) q a) q a b)) (fun s _ => (k - intOf s).toNat)
                    case atStart => exact ⟨0, by omega, rfl, HKA.out, HBA.out, HMA.out⟩
                    case round =>
                      obtain ⟨b, hb, rfl, hkp, hbk, hmt⟩ := hrel
                      have HKB := Lib.hid hkp
                      have HBB := Lib.hid hbk
                      have HMB := Lib.hid hmt
                      have hGl := hmt.1.lt
                      clear hkp hbk hmt HMA HKA HBA
                      by_cases hbk : b < k
                      · have hltb : (b : Int) < (k : Int) := by omega
                        have HFS : Hid (frow (fmat k (tab k l q) q a) q a (b + 1) = fstep (frow (fmat k (tab k l q) q a) q a b) q a b) := Lib.hid rfl
                        have hgA := HGS.out a hak
                        have hca := HMB.out.1.cell hak
                        have hcq := HMB.out.1.cell hqk
                        have hlA := HMB.out.2.line a hak
                        have hlQ := HMB.out.2.line q hqk
                        have haq := Arr.cell hlA hqk
                        have hab := Arr.cell hlA hbk
                        have hqb := Arr.cell hlQ hbk
                        have hlL := Arr.lt hlA
                        have hfL := Arr.free hlA b
                        clear hlA hlQ
                        generalize hT : frow (fmat k (tab k l q) q a) q a b = T at *
                        clear hT
                        have HST : Hid (fstep T q a b = if T a q < 1099511627776 ∧ T q b < 1099511627776 then upd T a b (min (T a b) (IntKind.i64.wrap (T a q + T q b))) else T) := Lib.hid rfl
                        generalize hx : T a q = x at *
                        generalize hy : T q b = y at *
                        generalize hz : T a b = z at *
                        have HX := Lib.hid hx
                        have HY := Lib.hid hy
                        have HZ := Lib.hid hz
                        clear hx hy hz
                        by_cases hx : x < 1099511627776
                        · have d1 := dec_t hx
                          by_cases hy : y < 1099511627776
                          · have d2 := dec_t hy
                            have HT' := Lib.hid (HST.out.trans (if_pos ⟨hx, hy⟩))
                            clear hx hy HST
                            by_cases hlow : IntKind.i64.wrap (x + y) < z
                            · have e1 := dec_t hlow
                              go_wp2
                              refine wp_region_by (fun w' => w'.cell? ⟨G, a, none⟩ = some (.slice (some ⟨gs a, 0, none⟩) k k) ∧ w'.cell? ⟨G, q, none⟩ = some (.slice (some ⟨gs q, 0, none⟩) k k) ∧
                                  w'.cell? ⟨gs a, q, none⟩ = some (.int .i64 x) ∧ w'.cell? ⟨gs q, b, none⟩ = some (.int .i64 y) ∧ w'.cell? ⟨gs a, b, none⟩ = some (.int .i64 z))
                                [29] [([0, 1, 2, 3, 4, 5, 6, 7, 8, 9, 10, 11, 12, 13, 14, 15, 16, 17, 18, 19, 20, 21, 22, 23, 24, 25, 26, 27, 28], 29)] [] (by kernel_rfl) (by kernel_rfl) ⟨hca, hcq, haq, hqb, hab⟩ ?_
                              intro X W hne hF hcl
                              have hx0 := fun x => (hF x).1
                              have hx1 := fun x => (hF x).2.1
                              have hx2 := fun x => (hF x).2.2.1
                              have hx3 := fun x => (hF x).2.2.2.1
                              have hx4 := fun x => (hF x).2.2.2.2
                              clear hF hcl
                              simp only [wpPlan, pickOps, List.getElem?_toArray, List.getElem?_cons_zero, List.getElem?_cons_succ, clsOf, Bool.false_eq_true, if_false]
                              (repeat (quiet_step (fail))); refine wpQuiet_nil ?_
                              refine wpOp_at (by simp only [List.getElem?_toArray, List.getElem?_cons_zero, List.getElem?_cons_succ]; rfl) (by rfl) (fun K hK => ?_)
                              go_simp
                              refine hK _ _ ⟨fun h => (by simp at h), ?_⟩
                              clear hK K hx0 hx1 hx2 hx3 hx4
                              (repeat (quiet_step (fail))); refine wpQuiet_nil ?_
                              refine NoPanic.normal ?_
                              go_wp2
                              go_roundw
                              case rel =>
                                refine ⟨b + 1, by omega, by go_num, (HKB.out.setCell _ fun h => absurd h (by omega)).drew, ?_, ?_⟩
                                · exact (HBB.out.setOther _ _ (by omega)).keep (Keep.refl _ _).drew
                                · refine ((HMB.out.set hak b _).keep (Keep.refl _ _).drew).congr fun X Y => ?_
                                  rw [HFS.out, HT'.out, upd, Int.min_eq_right (by omega), Go.IntWalk.i64_left]
                              case measure => simp [intOf]; omega
                            · have e1 := dec_f hlow
                              go_wp2
                              refine wp_region_by (fun w' => w'.cell? ⟨G, a, none⟩ = some (.slice (some ⟨gs a, 0, none⟩) k k) ∧ w'.cell? ⟨G, q, none⟩ = some (.slice (some ⟨gs q, 0, none⟩) k k) ∧
                                  w'.cell? ⟨gs a, q, none⟩ = some (.int .i64 x) ∧ w'.cell? ⟨gs q, b, none⟩ = some (.int .i64 y) ∧ w'.cell? ⟨gs a, b, none⟩ = some (.int .i64 z))
                                [29] [([0, 1, 2, 3, 4, 5, 6, 7, 8, 9, 10, 11, 12, 13, 14, 15, 16, 17, 18, 19, 20, 21, 22, 23, 24, 25, 26, 27, 28], 29)] [] (by kernel_rfl) (by kernel_rfl) ⟨hca, hcq, haq, hqb, hab⟩ ?_
                              intro X W hne hF hcl
                              have hx0 := fun x => (hF x).1
                              have hx1 := fun x => (hF x).2.1
                              have hx2 := fun x => (hF x).2.2.1
                              have hx3 := fun x => (hF x).2.2.2.1
                              have hx4 := fun x => (hF x).2.2.2.2
                              clear hF hcl
                              simp only [wpPlan, pickOps, List.getElem?_toArray, List.getElem?_cons_zero, List.getElem?_cons_succ, clsOf, Bool.false_eq_true, if_false]
                              (repeat (quiet_step (fail))); refine wpQuiet_nil ?_
                              refine wpOp_at (by simp only [List.getElem?_toArray, List.getElem?_cons_zero, List.getElem?_cons_succ]; rfl) (by rfl) (fun K hK => ?_)
                              go_simp
                              refine hK _ _ ⟨fun h => (by simp at h), ?_⟩
                              clear hK K hx0 hx1 hx2 hx3 hx4
                              (repeat (quiet_step (fail))); refine wpQuiet_nil ?_
                              refine NoPanic.normal ?_
                              go_wp2
                              go_roundw
                              case rel =>
                                refine ⟨b + 1, by omega, by go_num, (HKB.out.setCell _ fun h => absurd h (by omega)).drew, ?_, ?_⟩
                                · exact (HBB.out.setOther _ _ (by omega)).keep (Keep.refl _ _).drew
                                · refine ((HMB.out.set hak b _).keep (Keep.refl _ _).drew).congr fun X Y => ?_
                                  rw [HFS.out, HT'.out, upd, Int.min_eq_left (by omega)]
                              case measure => simp [intOf]; omega
                          · have d2 := dec_f hy
                            have HT' := Lib.hid (HST.out.trans (if_neg fun h => hy h.2))
                            clear hx hy HST
                            go_wp2
                            go_roundw
                            case rel => exact ⟨b + 1, by omega, by go_num, HKB.out, HBB.out, by rw [HFS.out, HT'.out]; exact HMB.out⟩
                            case measure => simp [intOf]; omega
                        · have d1 := dec_f hx
                          have HT' := Lib.hid (HST.out.trans (if_neg fun h => hx h.1))
                          clear hx HST
                          go_wp2
                          go_roundw
                          case rel => exact ⟨b + 1, by omega, by go_num, HKB.out, HBB.out, by rw [HFS.out, HT'.out]; exact HMB.out⟩
                          case measure => simp [intOf]; omega
                      · have hltb : ¬ (b : Int) < (k : Int) := by omega
                        obtain rfl : b = k := by omega
                        go_wp2
                        go_roundw
                        case rel => exact ⟨a + 1, by omega, by go_num, HKB.out, HBB.out, HMB.out⟩
                        case measure => simp [intOf]; omega
                  · have hlta : ¬ (a : Int) < (k : Int) := by omega
                    obtain rfl : a = k := by omega
                    go_wp2
                    go_roundw
                    case rel => exact ⟨q + 1, by omega, by go_num, HKA.out, HBA.out, HMA.out⟩
                    case measure => simp [intOf]; omega
              · have hltq : ¬ (q : Int) < (k : Int) := by omega
                obtain rfl : q = k := by omega
                obtain ⟨c0, c1, f0, f1, l0⟩ := HBQ.out.two
                have hGw : ¬ G = w.heap.size := by omega
                have hgw' : ∀ a, a < q → gs a ≠ w.heap.size := fun a ha => by have := HGS.out a ha; omega
                have HGW := Lib.hid hgw'
                clear hgw'
                go_wp2
                refine bodyPost_ret (by simp [results, Try.results38, go_sem, c0, c1, f0, f1, l0]; rfl) rfl ?_
                exact ⟨_, rfl, by have := HKQ.out; (repeat' (first | (with_reducible assumption) | (with_reducible exact HK.out) | (with_reducible exact Keep.refl _ _) | (with_reducible refine Keep.alloc ?_ _) | (with_reducible refine Keep.setCell ?_ _ (fun h => absurd h (by omega))) | (with_reducible refine Keep.drewN ?_ _) | (with_reducible refine Keep.drew ?_))), .inr (.inr ⟨q, rfl, E0.out, HT.out, G, gs, _, (HMQ.out.other hGw HGW.out _ _).other hGw HGW.out _ _, rfl⟩)⟩
  · have E0 := Lib.hid h0
    have HR : Hid (∃ r, RoundOK N l r) := Lib.hid ⟨r, hrk⟩
    have hrp := hrk.pos
    have hrp' : (0 : Int) < (r.length : Int) := by omega
    have e1 := dec_t hrp'
    obtain ⟨c0, c1, f0, f1, l0⟩ := B1.two
    have m0 : ¬ w1.heap.size = w.heap.size := by omega
    clear h0 hrk hd hi hg
    go_wp2
    refine bodyPost_ret (by simp [results, Try.results38, go_sem, c0, c1, f0, f1, m0, l0]; rfl) rfl ?_
    exact ⟨_, rfl, by (repeat' (first | (with_reducible assumption) | (with_reducible exact HK.out) | (with_reducible exact Keep.refl _ _) | (with_reducible refine Keep.alloc ?_ _) | (with_reducible refine Keep.setCell ?_ _ (fun h => absurd h (by omega))) | (with_reducible refine Keep.drewN ?_ _) | (with_reducible refine Keep.drew ?_))), .inr (.inl ⟨N, rfl, E0.out, HR.out, rfl⟩)⟩
end Go.Proofs.Ytnmklgigmmlgeaa
