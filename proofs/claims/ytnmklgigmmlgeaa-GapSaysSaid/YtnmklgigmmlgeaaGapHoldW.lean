/- The walk of the law GapHold. -/
import Derived.Test.YtnmklgigmmlgeaaGapFact
namespace Go.Proofs.Ytnmklgigmmlgeaa
open Go.ChangeShapes Go.WideShapes Go.RowKit
set_option linter.unusedVariables false
set_option linter.unusedSimpArgs false

theorem rnds_keeps {n : Nat} {l : List Gp} (hg : GpsOK n l) {t : Nat} (h : (rnds n l (t + 1)).last < 0) : Keeps l fun x => (rnds n l (t + 1)).vals.getD x 0 := turn_keeps hg h

theorem gps_of {N : Nat} {l : List Gp} (h : gapsW N l = (0, 0)) : GpsOK N l := by
  obtain ⟨_, h1, h2, h3, h4⟩ := gaps_ok (by rw [h])
  exact ⟨by omega, h3, h4⟩

/-- What gap.Do returns, in three cases. -/
theorem DoRes.cases' {n : Int} {l : List Gp} {w' : World} {v : Value} (h : DoRes n l w' v) :
    (∃ c a, gapsW n l = (c, a) ∧ c ≠ 0 ∧ v = .tuple #[.slice none 0 0, .slice none 0 0, .agg #[.int .i64 c, .int .i64 a]]) ∨
    (∃ N : Nat, n = (N : Int) ∧ gapsW N l = (0, 0) ∧ GpsOK N l ∧ ∃ t, (rnds N l (t + 1)).last < 0 ∧ (rnds N l (t + 1)).vals.length = N ∧ (∀ x, x < N → -10000000000 ≤ (rnds N l (t + 1)).vals.getD x 0 ∧ (rnds N l (t + 1)).vals.getD x 0 ≤ 0) ∧
      ∃ oa cap, IsInts w' (.slice oa N cap) (rnds N l (t + 1)).vals ∧ v = .tuple #[.slice oa N cap, .slice none 0 0, .agg #[.int .i64 0, .int .i64 0]]) ∨
    (∃ N : Nat, n = (N : Int) ∧ gapsW N l = (0, 0) ∧ GpsOK N l ∧ ∃ r, RoundOK N l r ∧ ∃ oa cap, IsInts w' (.slice oa r.length cap) r ∧ v = .tuple #[.slice none 0 0, .slice oa r.length cap, .agg #[.int .i64 0, .int .i64 0]]) := by
  rcases h with h | ⟨h0, N, rfl, ⟨t, ht, hneg, vv, hv, rfl⟩ | ⟨hall, vr, hc, rfl⟩⟩
  · exact .inl h
  · have hg := gps_of h0
    have hok := rnds_ok hg (t + 1)
    obtain ⟨oa, cap, rfl⟩ := hv.form (n := N) hok.vl.symm
    have := hg.1
    exact .inr (.inl ⟨N, rfl, h0, hg, t, hneg, hok.vl, fun x hx => by have := hok.vb x hx; omega, oa, cap, hv, rfl⟩)
  · have hg := gps_of h0
    obtain ⟨r, hr, hok⟩ := cyc_bad hg (hall N (Nat.le_refl _)) hc
    obtain ⟨oa, cap, rfl⟩ := hr.form (n := r.length) rfl
    exact .inr (.inr ⟨N, rfl, h0, hg, r, hok, oa, cap, hr, rfl⟩)

theorem RoundOK.badV {N : Nat} {l : List Gp} {r : List Int} (h : RoundOK N l r) (h0 : gapsW N l = (0, 0)) : Value.tuple #[.bool (badB N l r), faultV (badW N l r).1 (badW N l r).2] = .tuple #[.bool true, .agg #[.int .i64 0, .int .i64 0]] := by
  have h1 : badW N l r = (0, 0) := by rw [badW_go (by rw [h0])]; exact h.chk
  have h2 : badB N l r = true := by unfold badB; rw [h1]; simpa using h.bad
  rw [h1, h2]; rfl

set_option maxRecDepth 100000 in
set_option maxHeartbeats 16000000 in
theorem gapHold_walk (w : World) (n : Int) (v : Value) (l : List Gp) (_ : I64 n) (h : IsGaps w v l) :
    Calls Try.prog 10 #[.int .i64 n, v] w fun e w' => e = .returned (.bool true) ∧ Below w.heap.size w w' := by
  have HG := Lib.hid h
  obtain ⟨oa, cap, rfl, hm, hr, _⟩ := h
  clear hr
  unfold maxLen at hm
  go_enter Try.func10, Try.ntmps10
  go_wp2_with fail
  refine (gapFact_any _).mono ?_
  rintro e w1 ⟨rfl, hk1⟩
  go_wp2_with fail
  refine (do_any _ n _ l (HG.out.keep (by (repeat' (first | (with_reducible assumption) | (with_reducible exact HK.out) | (with_reducible exact Keep.refl _ _) | (with_reducible refine Keep.alloc ?_ _) | (with_reducible refine Keep.setCell ?_ _ (fun h => absurd h (by omega))) | (with_reducible refine Keep.drewN ?_ _) | (with_reducible refine Keep.drew ?_)))))).mono ?_
  rintro e w2 ⟨v2, rfl, hk2, hd⟩
  have K2 : Keep NoS w w2 := Keep.trans (by (repeat' (first | (with_reducible assumption) | (with_reducible exact HK.out) | (with_reducible exact Keep.refl _ _) | (with_reducible refine Keep.alloc ?_ _) | (with_reducible refine Keep.setCell ?_ _ (fun h => absurd h (by omega))) | (with_reducible refine Keep.drewN ?_ _) | (with_reducible refine Keep.drew ?_)))) hk2 fun _ _ _ h => h
  clear hk1 hk2
  rcases hd.cases' with ⟨c, a, hgc, hc, rfl⟩ | ⟨N, rfl, h0, hg, t, hneg, hvl, hvb, ov, cv, hi, rfl⟩ | ⟨N, rfl, h0, hg, r, hrk, ov, cv, hi, rfl⟩
  · have ec : (c != 0) = true := bne_iff_ne.2 hc
    clear hgc hc hd
    go_wp2
    go_ret
    exact ⟨rfl, Keep.bel (by (repeat' (first | (with_reducible assumption) | (with_reducible exact HK.out) | (with_reducible exact Keep.refl _ _) | (with_reducible refine Keep.alloc ?_ _) | (with_reducible refine Keep.setCell ?_ _ (fun h => absurd h (by omega))) | (with_reducible refine Keep.drewN ?_ _) | (with_reducible refine Keep.drew ?_))))⟩
  · have HKP := Lib.hid (rnds_keeps hg hneg)
    have HGP := Lib.hid hg
    have HI := Lib.hid hi
    have HVB := Lib.hid hvb
    have HVL := Lib.hid hvl
    clear h0 hneg hg hi hvb hvl hd
    generalize (rnds N l (t + 1)).vals = vs at *
    go_wp2
    go_loopw [11] (fun s wr => ∃ k : Nat, k ≤ l.length ∧ s = .int .i64 k ∧ Keep NoS w2 wr) (fun s _ => (l.length - intOf s).toNat)
    case atStart => exact ⟨0, by omega, rfl, by (repeat' (first | (with_reducible assumption) | (with_reducible exact HK.out) | (with_reducible exact Keep.refl _ _) | (with_reducible refine Keep.alloc ?_ _) | (with_reducible refine Keep.setCell ?_ _ (fun h => absurd h (by omega))) | (with_reducible refine Keep.drewN ?_ _) | (with_reducible refine Keep.drew ?_)))⟩
    case round =>
      obtain ⟨k, hk, rfl, hkp⟩ := hrel
      have KW : Keep NoS w wr := K2.trans hkp fun _ _ _ h => h
      by_cases hkl : k < l.length
      · have hlt : (k : Int) < (l.length : Int) := by omega
        obtain ⟨bg, og, cg, hsl, hbg, a0, a1, a2⟩ := (HG.out.keep KW).at hkl
        cases hsl
        have hgk : l.getD k ⟨0, 0, 0⟩ = l[k] := by rw [List.getD_eq_getElem?_getD, List.getElem?_eq_getElem hkl]; rfl
        have hq := HGP.out.at hkl
        have hkeep := HKP.out k hkl
        unfold gA gB gY at hq hkeep
        rw [hgk] at hq hkeep
        clear hgk
        generalize l[k] = g at *
        obtain ⟨A, B, By⟩ := g
        simp only at a0 a1 a2 hq hkeep
        obtain ⟨A, rfl⟩ : ∃ m : Nat, A = (m : Int) := ⟨A.toNat, by omega⟩
        obtain ⟨B, rfl⟩ : ∃ m : Nat, B = (m : Int) := ⟨B.toNat, by omega⟩
        simp only [Int.toNat_natCast] at hq hkeep
        have hA : A < vs.length := by rw [HVL.out]; exact hq.1
        have hB : B < vs.length := by rw [HVL.out]; exact hq.2.1
        have hA1 : (A : Int) < (N : Int) := by omega
        have hB1 : (B : Int) < (N : Int) := by omega
        obtain ⟨bv, o1, c1, hsl, hbv, v0⟩ := (HI.out.keep hkp).at hA
        cases hsl
        obtain ⟨bv', o2, c2, hsl, hbv', v1⟩ := (HI.out.keep hkp).at hB
        cases hsl
        have hvA := HVB.out A (by omega)
        have hvB := HVB.out B (by omega)
        rw [List.getD_eq_getElem?_getD, List.getElem?_eq_getElem hA] at hkeep hvA
        rw [List.getD_eq_getElem?_getD, List.getElem?_eq_getElem hB] at hkeep hvB
        simp only [Option.getD_some] at hkeep hvA hvB
        generalize vs[A] = x at *
        generalize vs[B] = y at *
        have e1 : decide (By < x - y) = false := dec_f (by omega)
        clear hq hkeep
        go_wp2
        go_quiet (fail)
        go_wp2
        go_roundw
        case rel => exact ⟨k + 1, by omega, by go_num, by (repeat' (first | (with_reducible assumption) | (with_reducible exact HK.out) | (with_reducible exact Keep.refl _ _) | (with_reducible refine Keep.alloc ?_ _) | (with_reducible refine Keep.setCell ?_ _ (fun h => absurd h (by omega))) | (with_reducible refine Keep.drewN ?_ _) | (with_reducible refine Keep.drew ?_)))⟩
        case measure => simp [intOf]; omega
      · have hlt : ¬ (k : Int) < (l.length : Int) := by omega
        go_wp2
        go_ret
        exact ⟨rfl, Keep.bel (by (repeat' (first | (with_reducible assumption) | (with_reducible exact HK.out) | (with_reducible exact Keep.refl _ _) | (with_reducible refine Keep.alloc ?_ _) | (with_reducible refine Keep.setCell ?_ _ (fun h => absurd h (by omega))) | (with_reducible refine Keep.drewN ?_ _) | (with_reducible refine Keep.drew ?_))))⟩
  · have HB := Lib.hid (hrk.badV h0)
    have hN : 0 < N := by have := hrk.pos; have := hrk.le; omega
    have HI := Lib.hid hi
    have e1 : ((N : Int) != 0) = true := bne_iff_ne.2 (by omega)
    have e2 : ((0 : Int) != (N : Int)) = true := bne_iff_ne.2 (by omega)
    have hrl := hrk.le
    have hN12 := hg.1
    clear h0 hd hi hrk hg
    go_wp2_with fail
    refine (gapBad_any _ N _ l _ r (HG.out.keep (by (repeat' (first | (with_reducible assumption) | (with_reducible exact HK.out) | (with_reducible exact Keep.refl _ _) | (with_reducible refine Keep.alloc ?_ _) | (with_reducible refine Keep.setCell ?_ _ (fun h => absurd h (by omega))) | (with_reducible refine Keep.drewN ?_ _) | (with_reducible refine Keep.drew ?_))))) (HI.out.keep (by (repeat' (first | (with_reducible assumption) | (with_reducible exact HK.out) | (with_reducible exact Keep.refl _ _) | (with_reducible refine Keep.alloc ?_ _) | (with_reducible refine Keep.setCell ?_ _ (fun h => absurd h (by omega))) | (with_reducible refine Keep.drewN ?_ _) | (with_reducible refine Keep.drew ?_)))))).mono ?_
    rintro e w3 ⟨rfl, hk3⟩
    have K3 : Keep NoS w w3 := Keep.trans (by (repeat' (first | (with_reducible assumption) | (with_reducible exact HK.out) | (with_reducible exact Keep.refl _ _) | (with_reducible refine Keep.alloc ?_ _) | (with_reducible refine Keep.setCell ?_ _ (fun h => absurd h (by omega))) | (with_reducible refine Keep.drewN ?_ _) | (with_reducible refine Keep.drew ?_)))) hk3 fun _ _ _ h => h
    clear hk3
    rw [HB.out]
    go_wp2
    go_ret
    exact ⟨rfl, Keep.bel (by (repeat' (first | (with_reducible assumption) | (with_reducible exact HK.out) | (with_reducible exact Keep.refl _ _) | (with_reducible refine Keep.alloc ?_ _) | (with_reducible refine Keep.setCell ?_ _ (fun h => absurd h (by omega))) | (with_reducible refine Keep.drewN ?_ _) | (with_reducible refine Keep.drew ?_))))⟩
end Go.Proofs.Ytnmklgigmmlgeaa
