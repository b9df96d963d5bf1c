/- The walk of the law GapTight. -/
import Derived.Test.YtnmklgigmmlgeaaGapApp
namespace Go.Proofs.Ytnmklgigmmlgeaa
open Go.ChangeShapes Go.WideShapes Go.RowKit
set_option linter.unusedVariables false
set_option linter.unusedSimpArgs false

set_option maxRecDepth 100000 in
set_option maxHeartbeats 16000000 in
theorem gapTight_walk (w : World) (n : Int) (v : Value) (l : List Gp) (a b : Int) (_ : I64 n) (h : IsGaps w v l) (_ : I64 a) (_ : I64 b) :
    Calls Try.prog 12 #[.int .i64 n, v, .int .i64 a, .int .i64 b] w fun e w' => e = .returned (.bool true) ∧ Below w.heap.size w w' := by
  have HG := Lib.hid h
  obtain ⟨oa, cap, rfl, hm, hr, _⟩ := h
  clear hr
  go_enter Try.func12, Try.ntmps12
  go_wp2_with fail
  refine (gapFact_any _).mono ?_
  rintro e w1 ⟨rfl, hk1⟩
  go_wp2_with fail
  refine (far_any _ n _ l (HG.out.keep (by (repeat' (first | (with_reducible assumption) | (with_reducible exact HK.out) | (with_reducible exact Keep.refl _ _) | (with_reducible refine Keep.alloc ?_ _) | (with_reducible refine Keep.setCell ?_ _ (fun h => absurd h (by omega))) | (with_reducible refine Keep.drewN ?_ _) | (with_reducible refine Keep.drew ?_)))))).mono ?_
  rintro e w2 ⟨v2, rfl, hk2, hd⟩
  have K2 : Keep NoS w w2 := Keep.trans (by (repeat' (first | (with_reducible assumption) | (with_reducible exact HK.out) | (with_reducible exact Keep.refl _ _) | (with_reducible refine Keep.alloc ?_ _) | (with_reducible refine Keep.setCell ?_ _ (fun h => absurd h (by omega))) | (with_reducible refine Keep.drewN ?_ _) | (with_reducible refine Keep.drew ?_)))) hk2 fun _ _ _ h => h
  clear hk1 hk2
  rcases hd with ⟨c', a', hgc, hc, rfl⟩ | ⟨N, rfl, h0, hr, rfl⟩ | ⟨N, rfl, h0, ht, G, gs, cp, hM, rfl⟩
  · have ec : (c' != 0) = true := bne_iff_ne.2 hc
    clear hgc hc
    go_wp2
    go_ret
    exact ⟨rfl, Keep.bel (by (repeat' (first | (with_reducible assumption) | (with_reducible exact HK.out) | (with_reducible exact Keep.refl _ _) | (with_reducible refine Keep.alloc ?_ _) | (with_reducible refine Keep.setCell ?_ _ (fun h => absurd h (by omega))) | (with_reducible refine Keep.drewN ?_ _) | (with_reducible refine Keep.drew ?_))))⟩
  · clear h0 hr
    go_wp2
    go_ret
    exact ⟨rfl, Keep.bel (by (repeat' (first | (with_reducible assumption) | (with_reducible exact HK.out) | (with_reducible exact Keep.refl _ _) | (with_reducible refine Keep.alloc ?_ _) | (with_reducible refine Keep.setCell ?_ _ (fun h => absurd h (by omega))) | (with_reducible refine Keep.drewN ?_ _) | (with_reducible refine Keep.drew ?_))))⟩
  · have HT := Lib.hid (tab_facts h0 ht)
    have HRN := Lib.hid ht
    have HM := Lib.hid hM
    clear h0 ht hM
    by_cases qa0 : a < 0
    · go_wp2
      go_ret
      exact ⟨rfl, Keep.bel (by (repeat' (first | (with_reducible assumption) | (with_reducible exact HK.out) | (with_reducible exact Keep.refl _ _) | (with_reducible refine Keep.alloc ?_ _) | (with_reducible refine Keep.setCell ?_ _ (fun h => absurd h (by omega))) | (with_reducible refine Keep.drewN ?_ _) | (with_reducible refine Keep.drew ?_))))⟩
    by_cases qa1 : (N : Int) ≤ a
    · go_wp2
      go_ret
      exact ⟨rfl, Keep.bel (by (repeat' (first | (with_reducible assumption) | (with_reducible exact HK.out) | (with_reducible exact Keep.refl _ _) | (with_reducible refine Keep.alloc ?_ _) | (with_reducible refine Keep.setCell ?_ _ (fun h => absurd h (by omega))) | (with_reducible refine Keep.drewN ?_ _) | (with_reducible refine Keep.drew ?_))))⟩
    by_cases qb0 : b < 0
    · go_wp2
      go_ret
      exact ⟨rfl, Keep.bel (by (repeat' (first | (with_reducible assumption) | (with_reducible exact HK.out) | (with_reducible exact Keep.refl _ _) | (with_reducible refine Keep.alloc ?_ _) | (with_reducible refine Keep.setCell ?_ _ (fun h => absurd h (by omega))) | (with_reducible refine Keep.drewN ?_ _) | (with_reducible refine Keep.drew ?_))))⟩
    by_cases qb1 : (N : Int) ≤ b
    · go_wp2
      go_ret
      exact ⟨rfl, Keep.bel (by (repeat' (first | (with_reducible assumption) | (with_reducible exact HK.out) | (with_reducible exact Keep.refl _ _) | (with_reducible refine Keep.alloc ?_ _) | (with_reducible refine Keep.setCell ?_ _ (fun h => absurd h (by omega))) | (with_reducible refine Keep.drewN ?_ _) | (with_reducible refine Keep.drew ?_))))⟩
    by_cases ql : (60 : Int) ≤ (l.length : Int)
    · go_wp2
      go_ret
      exact ⟨rfl, Keep.bel (by (repeat' (first | (with_reducible assumption) | (with_reducible exact HK.out) | (with_reducible exact Keep.refl _ _) | (with_reducible refine Keep.alloc ?_ _) | (with_reducible refine Keep.setCell ?_ _ (fun h => absurd h (by omega))) | (with_reducible refine Keep.drewN ?_ _) | (with_reducible refine Keep.drew ?_))))⟩
    obtain ⟨a, rfl⟩ : ∃ m : Nat, a = (m : Int) := ⟨a.toNat, by omega⟩
    obtain ⟨b, rfl⟩ : ∃ m : Nat, b = (m : Int) := ⟨b.toNat, by omega⟩
    have hA : a < N := by omega
    have hB : b < N := by omega
    have hl60 : l.length < 60 := by omega
    have hA1 : (a : Int) < (N : Int) := by omega
    have hB1 : (b : Int) < (N : Int) := by omega
    have hN12 := HT.out.1.1
    have hca := HM.out.1.cell hA
    have hab := Arr.cell (HM.out.2.line a hA) hB
    have hGl := HM.out.1.lt
    have hla := Arr.lt (HM.out.2.line a hA)
    generalize hx : tab N l N a b = x at hab
    have HX := Lib.hid hx
    clear hx qa0 qa1 qb0 qb1
    by_cases x0 : x = 1099511627776
    · have e1 : (x == 1099511627776) = true := by simpa using x0
      clear x0
      go_wp2
      go_ret
      exact ⟨rfl, Keep.bel (by (repeat' (first | (with_reducible assumption) | (with_reducible exact HK.out) | (with_reducible exact Keep.refl _ _) | (with_reducible refine Keep.alloc ?_ _) | (with_reducible refine Keep.setCell ?_ _ (fun h => absurd h (by omega))) | (with_reducible refine Keep.drewN ?_ _) | (with_reducible refine Keep.drew ?_))))⟩
    have e1 : (x == 1099511627776) = false := by simpa using x0
    by_cases x1 : 1000000 ≤ x
    · have e2 := dec_t x1
      go_wp2
      go_ret
      exact ⟨rfl, Keep.bel (by (repeat' (first | (with_reducible assumption) | (with_reducible exact HK.out) | (with_reducible exact Keep.refl _ _) | (with_reducible refine Keep.alloc ?_ _) | (with_reducible refine Keep.setCell ?_ _ (fun h => absurd h (by omega))) | (with_reducible refine Keep.drewN ?_ _) | (with_reducible refine Keep.drew ?_))))⟩
    have e2 := dec_f x1
    by_cases x2 : x < -1000000
    · have e3 := dec_t x2
      go_wp2
      go_ret
      exact ⟨rfl, Keep.bel (by (repeat' (first | (with_reducible assumption) | (with_reducible exact HK.out) | (with_reducible exact Keep.refl _ _) | (with_reducible refine Keep.alloc ?_ _) | (with_reducible refine Keep.setCell ?_ _ (fun h => absurd h (by omega))) | (with_reducible refine Keep.drewN ?_ _) | (with_reducible refine Keep.drew ?_))))⟩
    have e3 := dec_f x2
    have x3 : -1000000 ≤ x := by omega
    have x4 : x ≤ 999999 := by omega
    have HNO : Hid (∀ f, ¬ Keeps (l ++ [⟨b, a, -x - 1⟩]) f) := Lib.hid fun f => by
      have := tight_no HT.out.2.1 hA hB (by rw [HX.out]; omega) f
      rwa [HX.out] at this
    have HSM : Hid (∃ f, Keeps (l ++ [⟨a, b, x⟩]) f ∧ ∀ p q, p < N → q < N → tab N (l ++ [⟨a, b, x⟩]) N p q = tab N l N p q) := Lib.hid (by
      have := tight_same HT.out.1 HRN.out hA hB hl60 (by rw [HX.out]; omega) (by rw [HX.out]; omega)
      rwa [HX.out] at this)
    obtain ⟨i2, hi2, hz20, hz21, hz22⟩ := info_parts infoGap
    clear x0 x1 x2
    go_upto_region 12 with fail
    have hka : Keep NoS w2 (w2.alloc (.cells #[.int .i64 0, .int .i64 0] 25)) := (Keep.refl _ _).alloc _
    have hkb : Keep NoS w (w2.alloc (.cells #[.int .i64 0, .int .i64 0] 25)) := K2.alloc _
    have hBA : Blk (w2.alloc (.cells #[.int .i64 0, .int .i64 0] 25)) w2.heap.size #[.int .i64 0, .int .i64 0] := blk_at _ _ rfl
    have HMa := Lib.hid (HM.out.keep hka)
    have Ka := Lib.hid hkb
    have HBA := Lib.hid hBA
    clear HM hka hkb hBA
    generalize hwa : w2.alloc (.cells #[.int .i64 0, .int .i64 0] 25) = wa at *
    clear hwa
    obtain ⟨v1, w3, hr1, ho1, hk3⟩ := app_gaps wa _ l (HG.out.keep Ka.out) (by omega)
    have HO1 := Lib.hid (fun k hk => (ho1.lt k hk).1)
    have hs3 := hk3.size
    have HK3 := Lib.hid hk3
    clear hk3
    go_wp2_with (first
      | (at_builtin; refine wpList_app_run (.const (.slice none 0 0)) (.tmp 94) _ _ _ rfl rfl rfl rfl hr1 ?_)
      | (at_builtin; refine wpList_append_lies _ rfl (.tmp 95) (.tmp 102) 39 rfl wa.heap.size TG i2 _ 3 24 Try.underlying39 hi2 hz20 hz21 hz22 rfl (by decide) v1 l.length (gapsV l) rfl (ho1.alloc _) ⟨w3.heap.size, 0, none⟩ 1 1 (gapV ⟨b, a, -x - 1⟩) rfl rfl ?c1 ?c2 (by decide) ?c3 ?c4 ?c5 (w3.heap.size + 1) ?c6 ?_)
      | fail)
    case c1 => exact one_cells (blk_at _ _ rfl)
    case c2 => exact gapV_one _
    case c3 => unfold maxLen; omega
    case c4 => omega
    case c5 => simp; omega
    case c6 => simp
    intro g2 cap2 w4 hown2 hgrow _ _
    rw [gapsV_app] at hown2
    have hgp' : GpsOK N (l ++ [⟨b, a, -x - 1⟩]) := HT.out.1.more hl60 (by simp; omega) (by simp; omega) (by simp; omega)
    have hig := gaps_of_own hown2 (by simp) (by have := hgp'.2.1; unfold maxLen; omega) (gaps_i64 hgp')
    have K4 : Keep NoS wa w4 := Keep.of_below (((Keep.bel HK3.out).alloc hs3 _).trans (grown_keep hgrow wa.heap.size (by simp; omega) HO1.out)) (Nat.le_refl _)
    have KW4 : Keep NoS w w4 := Ka.out.trans K4 fun _ _ _ h => h
    have HI4 := Lib.hid hig
    have HM4 := Lib.hid (HMa.out.keep K4)
    have HB4 := Lib.hid (HBA.out.keep K4)
    have HGP' := Lib.hid hgp'
    clear hr1 ho1 hown2 hgrow hig hgp' K4 HO1 HK3 Ka HMa HBA hs3 hca hab hla hGl K2
    go_wp2_with fail
    refine (do_any w4 N _ (l ++ [⟨b, a, -x - 1⟩]) HI4.out).mono ?_
    rintro e w5 ⟨v5, rfl, hk5, hd⟩
    rcases hd.cases' with ⟨c, a', hgc, hc, rfl⟩ | ⟨N', hN', h0, hg, t, hneg, hvl, hvb, ov, cv, hi, rfl⟩ | ⟨N', hN', h0, hg, r, hrk, ov, cv, hi, rfl⟩
    · rw [gapsW_zero HGP'.out] at hgc
      exact absurd (congrArg Prod.fst hgc).symm hc
    · obtain rfl : N = N' := by omega
      exact absurd (rnds_keeps hg hneg) (HNO.out _)
    obtain rfl : N = N' := by omega
    have KW5 : Keep NoS w w5 := KW4.trans hk5 fun _ _ _ h => h
    have HM5 := Lib.hid (HM4.out.keep hk5)
    have hrp : 0 < r.length := hrk.pos
    have f1 : decide ((0 : Int) < (r.length : Int)) = true := dec_t (by omega)
    have f2 : ((r.length : Int) == 0) = false := by rw [beq_eq_false_iff_ne]; omega
    clear hk5 hd h0 hg hrk hi hrp HM4 HB4 HI4 KW4 HGP' HNO hN'
    go_upto_region 15 with fail
    have hkb : Keep NoS w (w5.alloc (.cells #[.int .i64 0, .int .i64 0] 25)) := KW5.alloc _
    have HM6 := Lib.hid (HM5.out.keep ((Keep.refl NoS w5).alloc (.cells #[.int .i64 0, .int .i64 0] 25)))
    have Ka := Lib.hid hkb
    clear HM5 hkb KW5 f1 f2
    generalize hwb : w5.alloc (.cells #[.int .i64 0, .int .i64 0] 25) = wb at *
    clear hwb
    obtain ⟨v6, w6, hr1, ho1, hk6⟩ := app_gaps wb _ l (HG.out.keep Ka.out) (by omega)
    have HO1 := Lib.hid (fun k hk => (ho1.lt k hk).1)
    have hs3 := hk6.size
    have HK6 := Lib.hid hk6
    clear hk6
    go_wp2_with (first
      | (at_builtin; refine wpList_app_run (.const (.slice none 0 0)) (.tmp 125) _ _ _ rfl rfl rfl rfl hr1 ?_)
      | (at_builtin; refine wpList_append_lies _ rfl (.tmp 126) (.tmp 131) 39 rfl wb.heap.size TG i2 _ 3 24 Try.underlying39 hi2 hz20 hz21 hz22 rfl (by decide) v6 l.length (gapsV l) rfl (ho1.alloc _) ⟨w6.heap.size, 0, none⟩ 1 1 (gapV ⟨a, b, x⟩) rfl rfl ?d1 ?d2 (by decide) ?d3 ?d4 ?d5 (w6.heap.size + 1) ?d6 ?_)
      | fail)
    case d1 => exact one_cells (blk_at _ _ rfl)
    case d2 => exact gapV_one _
    case d3 => unfold maxLen; omega
    case d4 => omega
    case d5 => simp; omega
    case d6 => simp
    intro g3 cap3 w7 hown3 hgrow _ _
    rw [gapsV_app] at hown3
    have hgp' : GpsOK N (l ++ [⟨a, b, x⟩]) := HT.out.1.more hl60 (by simp; omega) (by simp; omega) (by simp; omega)
    have hig := gaps_of_own hown3 (by simp) (by have := hgp'.2.1; unfold maxLen; omega) (gaps_i64 hgp')
    have K7 : Keep NoS wb w7 := Keep.of_below (((Keep.bel HK6.out).alloc hs3 _).trans (grown_keep hgrow wb.heap.size (by simp; omega) HO1.out)) (Nat.le_refl _)
    have KW7 : Keep NoS w w7 := Ka.out.trans K7 fun _ _ _ h => h
    have HI7 := Lib.hid hig
    have HM7 := Lib.hid (HM6.out.keep K7)
    have HGP' := Lib.hid hgp'
    clear hr1 ho1 hown3 hgrow hig hgp' K7 HO1 HK6 Ka hs3 HM6
    go_wp2_with fail
    refine (far_any w7 N _ (l ++ [⟨a, b, x⟩]) HI7.out).mono ?_
    rintro e w8 ⟨v8, rfl, hk8, hd⟩
    have KW8 : Keep NoS w w8 := KW7.trans hk8 fun _ _ _ h => h
    have HM8 := Lib.hid (HM7.out.keep hk8)
    clear KW7 HM7 HI7 hk8
    rcases hd with ⟨c, a', hgc, hc, rfl⟩ | ⟨N', hN', h0, ⟨r', hr'⟩, rfl⟩ | ⟨N', hN', h0, ht, G', gs', cp', hM', rfl⟩
    · rw [gapsW_zero HGP'.out] at hgc
      exact absurd (congrArg Prod.fst hgc).symm hc
    · obtain rfl : N = N' := by omega
      obtain ⟨f, hf, _⟩ := HSM.out
      exact (hr'.none HGP'.out hf).elim
    obtain rfl : N = N' := by omega
    have HM' := Lib.hid hM'
    have hbd : Hid (∀ p q, p < N → q < N → I64 (tab N l N p q)) := Lib.hid fun p q hp hq => by
      have := HT.out.2.1.bd p q hp hq
      have := HT.out.2.2.1
      unfold I64
      omega
    have HEQ : Hid (∀ p, p < N → (List.range N).map (tab N (l ++ [⟨a, b, x⟩]) N p) = (List.range N).map (tab N l N p)) := Lib.hid fun p hp => by
      obtain ⟨_, _, h⟩ := HSM.out
      exact List.map_congr_left fun q hq => h p q hp (by simpa using hq)
    have HBD' : Hid (∀ p q, p < N → q < N → I64 (tab N (l ++ [⟨a, b, x⟩]) N p q)) := Lib.hid fun p q hp hq => by
      obtain ⟨_, _, h⟩ := HSM.out
      rw [h p q hp hq]
      exact hbd.out p q hp hq
    clear h0 ht hM' HSM HGP' hN'
    generalize tab N (l ++ [⟨a, b, x⟩]) N = T' at *
    generalize tab N l N = T at *
    go_wp2
    go_loopw [18] (fun s wr => ∃ k : Nat, k ≤ N ∧ s = .int .i64 k ∧ Keep NoS w wr ∧ Mat wr G N gs cp T ∧ Mat wr G' N gs' cp' T') (fun s _ => (N - intOf s).toNat)
    case atStart => exact ⟨0, by omega, rfl, by (repeat' (first | (with_reducible assumption) | (with_reducible exact HK.out) | (with_reducible exact Keep.refl _ _) | (with_reducible refine Keep.alloc ?_ _) | (with_reducible refine Keep.setCell ?_ _ (fun h => absurd h (by omega))) | (with_reducible refine Keep.drewN ?_ _) | (with_reducible refine Keep.drew ?_))), HM8.out.keep (by (repeat' (first | (with_reducible assumption) | (with_reducible exact HK.out) | (with_reducible exact Keep.refl _ _) | (with_reducible refine Keep.alloc ?_ _) | (with_reducible refine Keep.setCell ?_ _ (fun h => absurd h (by omega))) | (with_reducible refine Keep.drewN ?_ _) | (with_reducible refine Keep.drew ?_)))), HM'.out.keep (by (repeat' (first | (with_reducible assumption) | (with_reducible exact HK.out) | (with_reducible exact Keep.refl _ _) | (with_reducible refine Keep.alloc ?_ _) | (with_reducible refine Keep.setCell ?_ _ (fun h => absurd h (by omega))) | (with_reducible refine Keep.drewN ?_ _) | (with_reducible refine Keep.drew ?_))))⟩
    case round =>
      obtain ⟨k, hk, rfl, hkp, hm1, hm2⟩ := hrel
      have HK9 := Lib.hid hkp
      have HM1 := Lib.hid hm1
      have HM2 := Lib.hid hm2
      clear hkp hm1 hm2 HM8 HM'
      by_cases hkl : k < N
      · have hlt : (k : Int) < (N : Int) := by omega
        have hc1 := HM1.out.1.cell hkl
        have hc2 := HM2.out.1.cell hkl
        have hl1 := HM1.out.1.lt
        have hl2 := HM2.out.1.lt
        have HI1 := Lib.hid ((HM1.out.2.line k hkl).ints (cp k) (by unfold maxLen; omega) (fun i hi => hbd.out k i hkl hi))
        have HI2 := Lib.hid ((HM2.out.2.line k hkl).ints (cp' k) (by unfold maxLen; omega) (fun i hi => HBD'.out k i hkl hi))
        have HD : Hid (decide ((List.range N).map (T' k) = (List.range N).map (T k)) = true) := Lib.hid (decide_eq_true (HEQ.out k hkl))
        have HQ : Hid (∀ m, Calls Try.prog 41 #[.slice (some ⟨gs' k, 0, none⟩) N (cp' k), .slice (some ⟨gs k, 0, none⟩) N (cp k)] (wr.drewN m) fun e w' => e = .returned (.bool true) ∧ ∃ j, w' = (wr.drewN m).drewN j) := Lib.hid fun m => by
          have := sameInts_quiet (wr.drewN m) _ _ _ _ (HI2.out.keep ((Keep.refl NoS wr).drewN m)) (HI1.out.keep ((Keep.refl NoS wr).drewN m))
          rw [HD.out] at this
          exact this
        go_wp2
        go_quiet ((go_at_call 41; exact Calls.quiet_of (HQ.out _)))
        go_wp2
        go_roundw
        case rel => exact ⟨k + 1, by omega, by go_num, HK9.out.drewN _, HM1.out.keep (by (repeat' (first | (with_reducible assumption) | (with_reducible exact HK.out) | (with_reducible exact Keep.refl _ _) | (with_reducible refine Keep.alloc ?_ _) | (with_reducible refine Keep.setCell ?_ _ (fun h => absurd h (by omega))) | (with_reducible refine Keep.drewN ?_ _) | (with_reducible refine Keep.drew ?_)))), HM2.out.keep (by (repeat' (first | (with_reducible assumption) | (with_reducible exact HK.out) | (with_reducible exact Keep.refl _ _) | (with_reducible refine Keep.alloc ?_ _) | (with_reducible refine Keep.setCell ?_ _ (fun h => absurd h (by omega))) | (with_reducible refine Keep.drewN ?_ _) | (with_reducible refine Keep.drew ?_))))⟩
        case measure => simp [intOf]; omega
      · have hlt : ¬ (k : Int) < (N : Int) := by omega
        go_wp2
        go_ret
        exact ⟨rfl, Keep.bel HK9.out⟩
end Go.Proofs.Ytnmklgigmmlgeaa
