/- The walk of the law GapLast. -/
import Derived.Test.YtnmklgigmmlgeaaGapHoldW
namespace Go.Proofs.Ytnmklgigmmlgeaa
open Go.ChangeShapes Go.WideShapes Go.RowKit
set_option linter.unusedVariables false
set_option linter.unusedSimpArgs false

theorem RoundOK.none {N : Nat} {l : List Gp} {r : List Int} (h : RoundOK N l r) (hg : GpsOK N l) {f : Nat → Int} (hf : Keeps l f) : False := by
  have hget : ∀ i, i < r.length → ∃ e : Nat, e < l.length ∧ gapAt l r i = l.getD e ⟨0, 0, 0⟩ := by
    intro i hi
    obtain ⟨j, hj, hjl⟩ := nth_ok h.chk hi
    exact ⟨j, hjl, by
      have e : r.getD i 0 = (j : Int) := by rw [List.getD_eq_getElem?_getD, List.getElem?_eq_getElem hi]; exact hj
      unfold gapAt posAt
      rw [e, Int.toNat_natCast]⟩
  have hlen : r.length ≤ 12 := by have := h.le; have := hg.1; omega
  have hys : ∀ i, i < r.length → -1000000 ≤ (gapAt l r i).By ∧ (gapAt l r i).By ≤ 1000000 := by
    intro i hi
    obtain ⟨e, he, b2⟩ := hget i hi
    rw [b2]
    have := hg.at he
    unfold gY at this
    omega
  have hstep : ∀ i, i < r.length → f (gapAt l r i).A.toNat - f (gapAt l r i).B.toNat ≤ (gapAt l r i).By := by
    intro i hi
    obtain ⟨e, he, b2⟩ := hget i hi
    rw [b2]
    exact hf e he
  have hlink := h.bad.1
  have key : ∀ k, k < r.length → f (gapAt l r k).B.toNat - f (gapAt l r 0).B.toNat ≤ sumTo l r k := by
    intro k
    induction k with
    | zero => intro _; simp [sumTo]
    | succ k ih =>
      intro hk
      have h1 := ih (by omega)
      rw [sumTo_succ (n := N) hlen hys k (by omega)]
      have h2 := hstep k (by omega)
      have h3 : (gapAt l r k).A = (gapAt l r (nextAt r k)).B := hlink k (by omega)
      rw [nextAt_more (by omega) (by omega)] at h3
      rw [h3] at h2
      omega
  have hp := h.pos
  have h1 := key (r.length - 1) (by omega)
  have h2 := hstep (r.length - 1) (by omega)
  have h3 : (gapAt l r (r.length - 1)).A = (gapAt l r (nextAt r (r.length - 1))).B := hlink _ (by omega)
  rw [nextAt_last (by omega) (by omega)] at h3
  rw [h3] at h2
  have h4 := sumTo_succ (n := N) hlen hys (r.length - 1) (by omega)
  rw [show r.length - 1 + 1 = r.length by omega] at h4
  have h5 := h.bad.2
  omega

/-- What gap.Do returns, for those who look at the numbers alone. -/
theorem DoRes.vals {n : Int} {l : List Gp} {w' : World} {v : Value} (h : DoRes n l w' v) :
    (∃ c a, c ≠ 0 ∧ v = .tuple #[.slice none 0 0, .slice none 0 0, .agg #[.int .i64 c, .int .i64 a]]) ∨
    (∃ N : Nat, n = (N : Int) ∧ GpsOK N l ∧ ∃ m oa cap vr vs, m = vs.length ∧ IsInts w' (.slice oa m cap) vs ∧ v = .tuple #[.slice oa m cap, vr, .agg #[.int .i64 0, .int .i64 0]] ∧
      ((m = N ∧ ∀ f : Nat → Int, Keeps l f → (∀ x, x < N → f x ≤ 0) → ∀ x, x < N → f x ≤ vs.getD x 0) ∨ ∀ f : Nat → Int, ¬ Keeps l f)) := by
  rcases h.cases' with ⟨c, a, hgc, hc, rfl⟩ | ⟨N, rfl, h0, hg, t, hneg, hvl, hvb, ov, cv, hi, rfl⟩ | ⟨N, rfl, h0, hg, r, hrk, ov, cv, hi, rfl⟩
  · exact .inl ⟨c, a, hc, rfl⟩
  · exact .inr ⟨N, rfl, hg, N, ov, cv, _, _, hvl.symm, hi, rfl, .inl ⟨rfl, fun f hf h0 => (rnds_ge hg hf h0 (t + 1)).2⟩⟩
  · exact .inr ⟨N, rfl, hg, 0, none, 0, _, [], rfl, ⟨none, 0, rfl, by simp, by simp, fun h => absurd rfl h⟩, rfl, .inr fun f hf => hrk.none hg hf⟩

set_option maxRecDepth 100000 in
set_option maxHeartbeats 16000000 in
theorem gapLast_walk (w : World) (n : Int) (v : Value) (l : List Gp) (vn : Value) (ns : List Int) (_ : I64 n) (h : IsGaps w v l) (h' : IsInts w vn ns) :
    Calls Try.prog 5 #[.int .i64 n, v, vn] w fun e w' => e = .returned (.bool true) ∧ Below w.heap.size w w' := by
  have HG := Lib.hid h
  have HN := Lib.hid h'
  obtain ⟨oa, cap, rfl, hm, hr, _⟩ := h
  obtain ⟨oa', cap', rfl, hm', hr', _⟩ := h'
  clear hr hr'
  unfold maxLen at hm hm'
  go_enter Try.func5, Try.ntmps5
  go_wp2_with fail
  refine (gapFact_any _).mono ?_
  rintro e w1 ⟨rfl, hk1⟩
  go_wp2_with fail
  refine (do_any _ n _ l (HG.out.keep (by (repeat' (first | (with_reducible assumption) | (with_reducible exact HK.out) | (with_reducible exact Keep.refl _ _) | (with_reducible refine Keep.alloc ?_ _) | (with_reducible refine Keep.setCell ?_ _ (fun h => absurd h (by omega))) | (with_reducible refine Keep.drewN ?_ _) | (with_reducible refine Keep.drew ?_)))))).mono ?_
  rintro e w2 ⟨v2, rfl, hk2, hd⟩
  have K2 : Keep NoS w w2 := Keep.trans (by (repeat' (first | (with_reducible assumption) | (with_reducible exact HK.out) | (with_reducible exact Keep.refl _ _) | (with_reducible refine Keep.alloc ?_ _) | (with_reducible refine Keep.setCell ?_ _ (fun h => absurd h (by omega))) | (with_reducible refine Keep.drewN ?_ _) | (with_reducible refine Keep.drew ?_)))) hk2 fun _ _ _ h => h
  clear hk1 hk2
  rcases hd.vals with ⟨c, a, hc, rfl⟩ | ⟨N, rfl, hg, m, ov, cv, vr, vs, hml, hi, rfl, hP⟩
  · have ec : (c != 0) = true := bne_iff_ne.2 hc
    have ec' : (c == 0) = false := by simpa using hc
    clear hc hd
    go_wp2
    go_ret
    exact ⟨rfl, Keep.bel (by (repeat' (first | (with_reducible assumption) | (with_reducible exact HK.out) | (with_reducible exact Keep.refl _ _) | (with_reducible refine Keep.alloc ?_ _) | (with_reducible refine Keep.setCell ?_ _ (fun h => absurd h (by omega))) | (with_reducible refine Keep.drewN ?_ _) | (with_reducible refine Keep.drew ?_))))⟩
  have HGP := Lib.hid hg
  have HI := Lib.hid hi
  have HP := Lib.hid hP
  have HML := Lib.hid hml
  have hN12 := hg.1
  have hm12 : m ≤ 12 ∨ 12 < m := by omega
  clear hd hg hi hP hml
  by_cases hl : ns.length = N
  · have e1 : ((ns.length : Int) != (N : Int)) = false := by simp [hl]
    have HL := Lib.hid hl
    clear hl
    go_wp2
    go_loopw [11] (fun s wr => ∃ k : Nat, k ≤ N ∧ s = .int .i64 k ∧ Keep NoS w2 wr ∧ ∀ i, i < k → ns.getD i 0 ≤ 0 ∧ -1000000 ≤ ns.getD i 0) (fun s _ => (N - intOf s).toNat)
    case atStart => exact ⟨0, by omega, rfl, by (repeat' (first | (with_reducible assumption) | (with_reducible exact HK.out) | (with_reducible exact Keep.refl _ _) | (with_reducible refine Keep.alloc ?_ _) | (with_reducible refine Keep.setCell ?_ _ (fun h => absurd h (by omega))) | (with_reducible refine Keep.drewN ?_ _) | (with_reducible refine Keep.drew ?_))), fun i hi => absurd hi (by omega)⟩
    case round =>
      obtain ⟨k, hk, rfl, hkp, hle⟩ := hrel
      have HLE := Lib.hid hle
      clear hle
      have KW : Keep NoS w wr := K2.trans hkp fun _ _ _ h => h
      by_cases hkl : k < N
      · have hlt : (k : Int) < (N : Int) := by omega
        have hkn : k < ns.length := by rw [HL.out]; exact hkl
        have hlt2 : (k : Int) < (ns.length : Int) := by omega
        obtain ⟨bn, o, cp, hsl, hb, g0⟩ := (HN.out.keep KW).at hkn
        cases hsl
        have en : ns.getD k 0 = ns[k] := by rw [List.getD_eq_getElem?_getD, List.getElem?_eq_getElem hkn]; rfl
        have EN := Lib.hid en
        clear en
        generalize ns[k] = x at *
        by_cases hx : 0 < x
        · have q1 := dec_t hx
          go_wp2
          go_ret
          exact ⟨rfl, Keep.bel (by (repeat' (first | (with_reducible assumption) | (with_reducible exact HK.out) | (with_reducible exact Keep.refl _ _) | (with_reducible refine Keep.alloc ?_ _) | (with_reducible refine Keep.setCell ?_ _ (fun h => absurd h (by omega))) | (with_reducible refine Keep.drewN ?_ _) | (with_reducible refine Keep.drew ?_))))⟩
        · have q1 := dec_f hx
          by_cases hx2 : -1000000 ≤ x
          · have hft : fits x = true := by simp [fits, hx2]; omega
            have HF : Hid (∀ i, i < k + 1 → ns.getD i 0 ≤ 0 ∧ -1000000 ≤ ns.getD i 0) := Lib.hid fun i hi => by
              by_cases hik : i = k
              · subst hik; rw [EN.out]; omega
              · exact HLE.out i (by omega)
            go_wp2_with fail
            refine (refFits_any _ x).mono ?_
            rintro e w3 ⟨rfl, hk3⟩
            have K3 : Keep NoS w2 w3 := Keep.trans (by (repeat' (first | (with_reducible assumption) | (with_reducible exact HK.out) | (with_reducible exact Keep.refl _ _) | (with_reducible refine Keep.alloc ?_ _) | (with_reducible refine Keep.setCell ?_ _ (fun h => absurd h (by omega))) | (with_reducible refine Keep.drewN ?_ _) | (with_reducible refine Keep.drew ?_)))) hk3 fun _ _ _ h => h
            rw [hft]
            clear hft hk3
            go_wp2
            go_roundw
            case rel => exact ⟨k + 1, by omega, by go_num, by (repeat' (first | (with_reducible assumption) | (with_reducible exact HK.out) | (with_reducible exact Keep.refl _ _) | (with_reducible refine Keep.alloc ?_ _) | (with_reducible refine Keep.setCell ?_ _ (fun h => absurd h (by omega))) | (with_reducible refine Keep.drewN ?_ _) | (with_reducible refine Keep.drew ?_))), HF.out⟩
            case measure => simp [intOf]; omega
          · have hft : fits x = false := by simp [fits, hx2]
            go_wp2_with fail
            refine (refFits_any _ x).mono ?_
            rintro e w3 ⟨rfl, hk3⟩
            have K3 : Keep NoS w w3 := Keep.trans (by (repeat' (first | (with_reducible assumption) | (with_reducible exact HK.out) | (with_reducible exact Keep.refl _ _) | (with_reducible refine Keep.alloc ?_ _) | (with_reducible refine Keep.setCell ?_ _ (fun h => absurd h (by omega))) | (with_reducible refine Keep.drewN ?_ _) | (with_reducible refine Keep.drew ?_)))) hk3 fun _ _ _ h => h
            rw [hft]
            clear hft hk3
            go_wp2
            go_ret
            exact ⟨rfl, Keep.bel (by (repeat' (first | (with_reducible assumption) | (with_reducible exact HK.out) | (with_reducible exact Keep.refl _ _) | (with_reducible refine Keep.alloc ?_ _) | (with_reducible refine Keep.setCell ?_ _ (fun h => absurd h (by omega))) | (with_reducible refine Keep.drewN ?_ _) | (with_reducible refine Keep.drew ?_))))⟩
      · have hlt : ¬ (k : Int) < (N : Int) := by omega
        obtain rfl : k = N := by omega
        have HNN := Lib.hid HLE.out
        clear HLE
        obtain ⟨w3, rfl⟩ : ∃ W : World, W = wr := ⟨_, rfl⟩
        go_wp2
        go_loopw [12] (fun s wr => ∃ j : Nat, j ≤ l.length ∧ s = .int .i64 j ∧ Keep NoS w2 wr ∧ ∀ i, i < j → ns.getD (gA l i) 0 - ns.getD (gB l i) 0 ≤ gY l i) (fun s _ => (l.length - intOf s).toNat)
        case atStart => exact ⟨0, by omega, rfl, by (repeat' (first | (with_reducible assumption) | (with_reducible exact HK.out) | (with_reducible exact Keep.refl _ _) | (with_reducible refine Keep.alloc ?_ _) | (with_reducible refine Keep.setCell ?_ _ (fun h => absurd h (by omega))) | (with_reducible refine Keep.drewN ?_ _) | (with_reducible refine Keep.drew ?_))), fun i hi => absurd hi (by omega)⟩
        case round =>
          obtain ⟨j, hj, rfl, hkq, hle⟩ := hrel
          have HLE := Lib.hid hle
          clear hle
          have KW' : Keep NoS w wr := K2.trans hkq fun _ _ _ h => h
          by_cases hjl : j < l.length
          · have hltj : (j : Int) < (l.length : Int) := by omega
            obtain ⟨bg, og, cg, hsl, hbg, a0, a1, a2⟩ := (HG.out.keep KW').at hjl
            cases hsl
            have hgk : l.getD j ⟨0, 0, 0⟩ = l[j] := by rw [List.getD_eq_getElem?_getD, List.getElem?_eq_getElem hjl]; rfl
            have hq := HGP.out.at hjl
            have hv : ∀ {P : Int → Int → Int → Prop}, P (ns.getD (gA l j) 0) (ns.getD (gB l j) 0) (gY l j) → P (ns.getD l[j].A.toNat 0) (ns.getD l[j].B.toNat 0) l[j].By := fun h => by unfold gA gB gY at h; rw [hgk] at h; exact h
            have hv' : ns.getD l[j].A.toNat 0 - ns.getD l[j].B.toNat 0 ≤ l[j].By → ns.getD (gA l j) 0 - ns.getD (gB l j) 0 ≤ gY l j := fun h => by unfold gA gB gY; rw [hgk]; exact h
            have HV := Lib.hid hv'
            unfold gA gB gY at hq
            rw [hgk] at hq
            clear hgk hv hv'
            generalize l[j] = g at *
            obtain ⟨A, B, By⟩ := g
            simp only at a0 a1 a2 hq
            obtain ⟨A, rfl⟩ : ∃ m : Nat, A = (m : Int) := ⟨A.toNat, by omega⟩
            obtain ⟨B, rfl⟩ : ∃ m : Nat, B = (m : Int) := ⟨B.toNat, by omega⟩
            simp only [Int.toNat_natCast] at hq HV
            have hA : A < ns.length := by rw [HL.out]; exact hq.1
            have hB : B < ns.length := by rw [HL.out]; exact hq.2.1
            have hA1 : (A : Int) < (ns.length : Int) := by omega
            have hB1 : (B : Int) < (ns.length : Int) := by omega
            obtain ⟨bv, o1, c1, hsl, hbv, v0⟩ := (HN.out.keep KW').at hA
            cases hsl
            obtain ⟨bv', o2, c2, hsl, hbv', v1⟩ := (HN.out.keep KW').at hB
            cases hsl
            have hvA := HNN.out A (by omega)
            have hvB := HNN.out B (by omega)
            rw [List.getD_eq_getElem?_getD, List.getElem?_eq_getElem hA] at hvA HV
            rw [List.getD_eq_getElem?_getD, List.getElem?_eq_getElem hB] at hvB HV
            simp only [Option.getD_some] at hvA hvB HV
            generalize ns[A] = x at *
            generalize ns[B] = y at *
            clear hq
            by_cases hbig : By < x - y
            · have e1 := dec_t hbig
              go_wp2
              go_quiet (fail)
              go_wp2
              go_ret
              exact ⟨rfl, Keep.bel (by (repeat' (first | (with_reducible assumption) | (with_reducible exact HK.out) | (with_reducible exact Keep.refl _ _) | (with_reducible refine Keep.alloc ?_ _) | (with_reducible refine Keep.setCell ?_ _ (fun h => absurd h (by omega))) | (with_reducible refine Keep.drewN ?_ _) | (with_reducible refine Keep.drew ?_))))⟩
            · have e1 := dec_f hbig
              have HF : Hid (∀ i, i < j + 1 → ns.getD (gA l i) 0 - ns.getD (gB l i) 0 ≤ gY l i) := Lib.hid fun i hi => by
                by_cases hij : i = j
                · subst hij; exact HV.out (by omega)
                · exact HLE.out i (by omega)
              clear hbig
              go_wp2
              go_quiet (fail)
              go_wp2
              go_roundw
              case rel => exact ⟨j + 1, by omega, by go_num, by (repeat' (first | (with_reducible assumption) | (with_reducible exact HK.out) | (with_reducible exact Keep.refl _ _) | (with_reducible refine Keep.alloc ?_ _) | (with_reducible refine Keep.setCell ?_ _ (fun h => absurd h (by omega))) | (with_reducible refine Keep.drewN ?_ _) | (with_reducible refine Keep.drew ?_))), HF.out⟩
              case measure => simp [intOf]; omega
          · have hltj : ¬ (j : Int) < (l.length : Int) := by omega
            obtain rfl : j = l.length := by omega
            have hkeep : Keeps l fun x => ns.getD x 0 := HLE.out
            rcases HP.out with ⟨rfl, hgr⟩ | hno
            · have HGR := Lib.hid (hgr _ hkeep fun x hx => (HNN.out x hx).1)
              have HBD := Lib.hid HNN.out
              clear hgr hkeep HP HLE HNN
              obtain ⟨w4, rfl⟩ : ∃ W : World, W = wr := ⟨_, rfl⟩
              go_wp2
              go_loopw [13] (fun s wr => ∃ k : Nat, k ≤ m ∧ s = .int .i64 k ∧ Keep NoS w2 wr) (fun s _ => (m - intOf s).toNat)
              case atStart => exact ⟨0, by omega, rfl, by (repeat' (first | (with_reducible assumption) | (with_reducible exact HK.out) | (with_reducible exact Keep.refl _ _) | (with_reducible refine Keep.alloc ?_ _) | (with_reducible refine Keep.setCell ?_ _ (fun h => absurd h (by omega))) | (with_reducible refine Keep.drewN ?_ _) | (with_reducible refine Keep.drew ?_)))⟩
              case round =>
                obtain ⟨k, hk, rfl, hkr⟩ := hrel
                have KR : Keep NoS w wr := K2.trans hkr fun _ _ _ h => h
                by_cases hkl : k < m
                · have hlt : (k : Int) < (m : Int) := by omega
                  have hkn : k < ns.length := by rw [HL.out]; exact hkl
                  have hkv : k < vs.length := by rw [← HML.out]; exact hkl
                  have hlt2 : (k : Int) < (ns.length : Int) := by omega
                  obtain ⟨bn, o, cp, hsl, hb, g0⟩ := (HN.out.keep KR).at hkn
                  cases hsl
                  obtain ⟨bn', o', cp', hsl, hb', g0'⟩ := (HI.out.keep hkr).at hkv
                  rw [← HML.out] at hsl
                  cases hsl
                  have hle := HGR.out k hkl
                  rw [List.getD_eq_getElem?_getD, List.getElem?_eq_getElem hkn, List.getD_eq_getElem?_getD, List.getElem?_eq_getElem hkv] at hle
                  simp only [Option.getD_some] at hle
                  generalize ns[k] = x at *
                  generalize vs[k] = y at *
                  have e1 : decide (y < x) = false := dec_f (by omega)
                  clear hle
                  go_wp2
                  go_quiet (fail)
                  go_wp2
                  go_roundw
                  case rel => exact ⟨k + 1, by omega, by go_num, by (repeat' (first | (with_reducible assumption) | (with_reducible exact HK.out) | (with_reducible exact Keep.refl _ _) | (with_reducible refine Keep.alloc ?_ _) | (with_reducible refine Keep.setCell ?_ _ (fun h => absurd h (by omega))) | (with_reducible refine Keep.drewN ?_ _) | (with_reducible refine Keep.drew ?_)))⟩
                  case measure => simp [intOf]; omega
                · have hlt : ¬ (k : Int) < (m : Int) := by omega
                  go_wp2
                  go_ret
                  exact ⟨rfl, Keep.bel (by (repeat' (first | (with_reducible assumption) | (with_reducible exact HK.out) | (with_reducible exact Keep.refl _ _) | (with_reducible refine Keep.alloc ?_ _) | (with_reducible refine Keep.setCell ?_ _ (fun h => absurd h (by omega))) | (with_reducible refine Keep.drewN ?_ _) | (with_reducible refine Keep.drew ?_))))⟩
            · exact absurd hkeep (hno _)
  · have e1 : ((ns.length : Int) != (N : Int)) = true := bne_iff_ne.2 fun h => hl (by omega)
    clear hl
    go_wp2
    go_ret
    exact ⟨rfl, Keep.bel (by (repeat' (first | (with_reducible assumption) | (with_reducible exact HK.out) | (with_reducible exact Keep.refl _ _) | (with_reducible refine Keep.alloc ?_ _) | (with_reducible refine Keep.setCell ?_ _ (fun h => absurd h (by omega))) | (with_reducible refine Keep.drewN ?_ _) | (with_reducible refine Keep.drew ?_))))⟩
end Go.Proofs.Ytnmklgigmmlgeaa
