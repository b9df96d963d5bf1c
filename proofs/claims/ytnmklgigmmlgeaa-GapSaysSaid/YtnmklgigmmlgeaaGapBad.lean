/- gap.Bad. -/
import Derived.Test.YtnmklgigmmlgeaaGapRef
namespace Go.Proofs.Ytnmklgigmmlgeaa
open Go.ChangeShapes Go.WideShapes Go.RowKit
set_option linter.unusedVariables false
set_option linter.unusedSimpArgs false

def rndChk (m : Nat) : List Int → Nat → Int × Int
  | [], _ => (0, 0)
  | z :: t, i => if z < 0 ∨ (m : Int) ≤ z then (3, (i : Int)) else rndChk m t (i + 1)

theorem rndChk_drop (m : Nat) (r : List Int) (k : Nat) (h : k < r.length) : rndChk m (r.drop k) k = if r[k] < 0 ∨ (m : Int) ≤ r[k] then (3, (k : Int)) else rndChk m (r.drop (k + 1)) (k + 1) := by
  rw [List.drop_eq_getElem_cons h, rndChk]

/-- The position at place i, and the gap there. -/
def posAt (r : List Int) (i : Nat) : Nat := (r.getD i 0).toNat
def gapAt (l : List Gp) (r : List Int) (i : Nat) : Gp := l.getD (posAt r i) ⟨0, 0, 0⟩
def nextAt (r : List Int) (i : Nat) : Nat := (i + 1) % r.length
def linkAt (l : List Gp) (r : List Int) (i : Nat) : Prop := (gapAt l r i).A = (gapAt l r (nextAt r i)).B
def sumTo (l : List Gp) (r : List Int) : Nat → Int
  | 0 => 0
  | k + 1 => wrap64 (sumTo l r k + (gapAt l r k).By)
def gbad (l : List Gp) (r : List Int) : Prop := (∀ i, i < r.length → linkAt l r i) ∧ sumTo l r r.length < 0

def badW (n : Int) (l : List Gp) (r : List Int) : Int × Int := if (gapsW n l).1 ≠ 0 then gapsW n l else rndChk l.length r 0

open Classical in
noncomputable def badB (n : Int) (l : List Gp) (r : List Int) : Bool := decide ((badW n l r).1 = 0 ∧ gbad l r)

theorem IsInts.at {w : World} {v : Value} {l : List Int} (h : IsInts w v l) {k : Nat} (hk : k < l.length) : ∃ b o cap, v = .slice (some ⟨b, o, none⟩) l.length cap ∧ b < w.heap.size ∧ w.cell? ⟨b, o + k, none⟩ = some (.int .i64 l[k]) := by
  obtain ⟨oa, cap, h1, h2, h3, h4⟩ := h
  obtain ⟨b, o, rfl, hb, hc⟩ := h4 (by rintro rfl; simp at hk)
  exact ⟨b, o, cap, h1, hb, hc k _ (List.getElem?_eq_getElem hk)⟩

theorem rnd_ok {m : Nat} {r : List Int} : ∀ {i : Nat}, (rndChk m r i).1 = 0 ↔ ∀ z ∈ r, 0 ≤ z ∧ z < (m : Int) := by
  induction r with
  | nil => intro i; simp [rndChk]
  | cons z t ih =>
    intro i
    rw [rndChk]
    by_cases h : z < 0 ∨ (m : Int) ≤ z
    · rw [if_pos h]
      simp
      omega
    · rw [if_neg h, ih]
      simp
      omega

theorem gap_ok {n : Int} {l : List Gp} : ∀ {i : Nat}, (gapChk n l i).1 = 0 → gapChk n l i = (0, 0) ∧ ∀ g ∈ l, gc n g = 0 := by
  induction l with
  | nil => intro i _; simp [gapChk]
  | cons g t ih =>
    intro i h
    rw [gapChk] at h ⊢
    by_cases hg : gc n g = 0
    · rw [if_pos hg] at h ⊢
      obtain ⟨h1, h2⟩ := ih h
      exact ⟨h1, by simpa using ⟨hg, h2⟩⟩
    · rw [if_neg hg] at h
      exact absurd h hg

/-- Gaps that pass. -/
theorem gaps_ok {n : Int} {l : List Gp} (h : (gapsW n l).1 = 0) : gapsW n l = (0, 0) ∧ 0 ≤ n ∧ n ≤ 12 ∧ l.length ≤ 60 ∧ ∀ g ∈ l, (0 ≤ g.A ∧ g.A < n) ∧ (0 ≤ g.B ∧ g.B < n) ∧ -1000000 ≤ g.By ∧ g.By ≤ 1000000 := by
  unfold gapsW at h ⊢
  split at h
  · simp at h
  · split at h
    · simp at h
    · rw [if_neg (by assumption), if_neg (by assumption)]
      obtain ⟨h1, h2⟩ := gap_ok h
      refine ⟨h1, by omega, by omega, by omega, fun g hg => ?_⟩
      have := h2 g hg
      unfold gc at this
      split at this
      · omega
      · split at this <;> omega

theorem gapAt_eq {l : List Gp} {r : List Int} {k j : Nat} {z : Int} {g : Gp} (h1 : r[k]? = some z) (hz : z = (j : Int)) (h2 : l[j]? = some g) : gapAt l r k = g := by
  subst hz
  unfold gapAt posAt
  rw [List.getD_eq_getElem?_getD, List.getD_eq_getElem?_getD, h1]
  simp [h2]

theorem bad_no {n : Int} {l : List Gp} {r : List Int} {c a : Int} (hw : badW n l r = (c, a)) (hc : c ≠ 0) : Ending.returned (.tuple #[.bool false, .agg #[.int .i64 c, .int .i64 a]]) = .returned (.tuple #[.bool (badB n l r), faultV (badW n l r).1 (badW n l r).2]) := by
  have : badB n l r = false := by simp [badB, hw, hc]
  rw [this, hw]
  rfl
theorem bad_is {n : Int} {l : List Gp} {r : List Int} {b : Bool} (hw : badW n l r = (0, 0)) (hb : b = true ↔ gbad l r) : Ending.returned (.tuple #[.bool b, .agg #[.int .i64 0, .int .i64 0]]) = .returned (.tuple #[.bool (badB n l r), faultV (badW n l r).1 (badW n l r).2]) := by
  have : badB n l r = b := by
    unfold badB
    rw [hw]
    cases b <;> simp_all
  rw [this, hw]
  rfl
theorem badW_go {n : Int} {l : List Gp} {r : List Int} (h : (gapsW n l).1 = 0) : badW n l r = rndChk l.length r 0 := by unfold badW; rw [if_neg (by simpa using h)]
theorem badW_no {n : Int} {l : List Gp} {r : List Int} (h : ¬ (gapsW n l).1 = 0) : badW n l r = gapsW n l := by unfold badW; rw [if_pos h]
theorem nth_ok {m : Nat} {r : List Int} (h : rndChk m r 0 = (0, 0)) {k : Nat} (hk : k < r.length) : ∃ j : Nat, r[k] = (j : Int) ∧ j < m := by
  have := (rnd_ok (i := 0)).1 (congrArg Prod.fst h) r[k] (List.getElem_mem hk)
  exact ⟨r[k].toNat, by omega, by omega⟩

set_option maxRecDepth 100000 in
set_option maxHeartbeats 16000000 in
theorem gapBad_any (w : World) (n : Int) (v : Value) (l : List Gp) (vr : Value) (r : List Int) (h : IsGaps w v l) (h' : IsInts w vr r) :
    Calls Try.prog 18 #[.int .i64 n, v, vr] w fun e w' => e = .returned (.tuple #[.bool (badB n l r), faultV (badW n l r).1 (badW n l r).2]) ∧ Keep NoS w w' := by
  have HG := Lib.hid h
  have HI := Lib.hid h'
  obtain ⟨oa, cap, rfl, hm, hr, _⟩ := h
  obtain ⟨oa', cap', rfl, hm', hr', _⟩ := h'
  clear hr hr'
  unfold maxLen at hm hm'
  by_cases h0 : (gapsW n l).1 = 0
  · obtain ⟨e0, hn0, hn1, hl, hgs⟩ := gaps_ok h0
    have H0 := Lib.hid h0
    have HS := Lib.hid hgs
    have E0 := Lib.hid e0
    have F0 := Lib.hid (by rw [e0]; rfl : faultV (gapsW n l).1 (gapsW n l).2 = .agg #[.int .i64 0, .int .i64 0])
    clear h0 hgs e0
    go_enter Try.func18, Try.ntmps18
    go_wp2_with fail
    refine (gapCheck_any _ n _ l (HG.out.keep (by (repeat' (first | (with_reducible assumption) | (with_reducible exact HK.out) | (with_reducible exact Keep.refl _ _) | (with_reducible refine Keep.alloc ?_ _) | (with_reducible refine Keep.setCell ?_ _ (fun h => absurd h (by omega))) | (with_reducible refine Keep.drewN ?_ _) | (with_reducible refine Keep.drew ?_)))))).mono ?_
    rintro e w1 ⟨rfl, hk1⟩
    have K1 : Keep NoS w w1 := Keep.trans (by (repeat' (first | (with_reducible assumption) | (with_reducible exact HK.out) | (with_reducible exact Keep.refl _ _) | (with_reducible refine Keep.alloc ?_ _) | (with_reducible refine Keep.setCell ?_ _ (fun h => absurd h (by omega))) | (with_reducible refine Keep.drewN ?_ _) | (with_reducible refine Keep.drew ?_)))) hk1 fun _ _ _ h => h
    have B1 : Blk w1 w.heap.size #[.int .i64 0, .int .i64 0] := Blk.keep (by (repeat (first | (with_reducible assumption) | (refine blk_at _ _ ?_; simp; done) | (refine Blk.old ?_ _)))) hk1
    have hlt1 := B1.lt
    clear hk1
    rw [F0.out]
    go_wp2
    go_loopw [23] (fun s wr => ∃ k : Nat, k ≤ r.length ∧ s = .int .i64 k ∧ rndChk l.length r 0 = rndChk l.length (r.drop k) k ∧ Keep NoS w1 wr) (fun s _ => (r.length - intOf s).toNat)
    case atStart => exact ⟨0, by omega, rfl, rfl, by (repeat' (first | (with_reducible assumption) | (with_reducible exact HK.out) | (with_reducible exact Keep.refl _ _) | (with_reducible refine Keep.alloc ?_ _) | (with_reducible refine Keep.setCell ?_ _ (fun h => absurd h (by omega))) | (with_reducible refine Keep.drewN ?_ _) | (with_reducible refine Keep.drew ?_)))⟩
    case round =>
      obtain ⟨k, hk, rfl, hdr, hkp⟩ := hrel
      have HD := Lib.hid hdr; clear hdr
      have KW : Keep NoS w wr := K1.trans hkp fun _ _ _ h => h
      have BW : Blk wr w.heap.size #[.int .i64 0, .int .i64 0] := B1.keep hkp
      obtain ⟨c0, c1, f0, f1, l0⟩ := BW.two
      have m0 : ¬ wr.heap.size = w.heap.size := by omega
      by_cases hkl : k < r.length
      · have hlt : (k : Int) < (r.length : Int) := by omega
        obtain ⟨b, o, cp, hsl, hb, g0⟩ := (HI.out.keep KW).at hkl
        cases hsl
        have hbb : ¬ wr.heap.size = b := by omega
        have hx := rndChk_drop l.length r k hkl
        generalize r[k] = z at *
        have HX := Lib.hid hx; clear hx
        by_cases p1 : z < 0
        · have q1 := dec_t p1
          have E := Lib.hid (HD.out.trans (HX.out.trans (if_pos (.inl p1))))
          clear HX
          go_wp2
          refine bodyPost_ret (by simp [results, Try.results18, go_sem, c0, c1, f0, f1, m0, l0]; rfl) rfl ?_
          exact ⟨bad_no ((badW_go H0.out).trans E.out) (by omega), by (repeat' (first | (with_reducible assumption) | (with_reducible exact HK.out) | (with_reducible exact Keep.refl _ _) | (with_reducible refine Keep.alloc ?_ _) | (with_reducible refine Keep.setCell ?_ _ (fun h => absurd h (by omega))) | (with_reducible refine Keep.drewN ?_ _) | (with_reducible refine Keep.drew ?_)))⟩
        have q1 := dec_f p1
        by_cases p2 : (l.length : Int) ≤ z
        · have q2 := dec_t p2
          have E := Lib.hid (HD.out.trans (HX.out.trans (if_pos (.inr p2))))
          clear HX
          go_wp2
          refine bodyPost_ret (by simp [results, Try.results18, go_sem, c0, c1, f0, f1, m0, l0]; rfl) rfl ?_
          exact ⟨bad_no ((badW_go H0.out).trans E.out) (by omega), by (repeat' (first | (with_reducible assumption) | (with_reducible exact HK.out) | (with_reducible exact Keep.refl _ _) | (with_reducible refine Keep.alloc ?_ _) | (with_reducible refine Keep.setCell ?_ _ (fun h => absurd h (by omega))) | (with_reducible refine Keep.drewN ?_ _) | (with_reducible refine Keep.drew ?_)))⟩
        have q2 := dec_f p2
        have HY := Lib.hid (HD.out.trans (HX.out.trans (if_neg (by omega))))
        clear HX
        go_wp2
        go_roundw
        case rel => exact ⟨k + 1, by omega, by go_num, HY.out, hkp⟩
        case measure => simp [intOf]; omega
      · have hlt : ¬ (k : Int) < (r.length : Int) := by omega
        obtain rfl : k = r.length := by omega
        have E := Lib.hid (by rw [HD.out, List.drop_length]; rfl : rndChk l.length r 0 = (0, 0))
        clear HD c0 c1 f0 f1 l0 m0 hk
        have B2 : Blk wr w.heap.size #[.int .i64 0, .int .i64 0] := BW
        clear BW hkp B1 K1
        obtain ⟨wa, rfl⟩ : ∃ W : World, W = wr := ⟨_, rfl⟩
        go_wp2
        go_loopw [41, 11] (fun s t wr => ∃ k : Nat, k ≤ r.length ∧ s = .int .i64 k ∧ t = .int .i64 (sumTo l r k) ∧ (∀ i, i < k → linkAt l r i) ∧ Keep NoS wa wr) (fun s _ _ => (r.length - intOf s).toNat)
        case atStart => exact ⟨0, by omega, rfl, rfl, fun i hi => absurd hi (by omega), by (repeat' (first | (with_reducible assumption) | (with_reducible exact HK.out) | (with_reducible exact Keep.refl _ _) | (with_reducible refine Keep.alloc ?_ _) | (with_reducible refine Keep.setCell ?_ _ (fun h => absurd h (by omega))) | (with_reducible refine Keep.drewN ?_ _) | (with_reducible refine Keep.drew ?_)))⟩
        case round =>
          obtain ⟨k, hk, rfl, rfl, hlk, hkp⟩ := hrel
          have HK := Lib.hid hlk; clear hlk
          have KX : Keep NoS w wr := KW.trans hkp fun _ _ _ h => h
          have BX : Blk wr w.heap.size #[.int .i64 0, .int .i64 0] := B2.keep hkp
          obtain ⟨c0, c1, f0, f1, l0⟩ := BX.two
          have m0 : ¬ wr.heap.size = w.heap.size := by omega
          by_cases hkl : k < r.length
          · have hlt : (k : Int) < (r.length : Int) := by omega
            obtain ⟨b, o, cp, hsl, hb, g0⟩ := (HI.out.keep KX).at hkl
            cases hsl
            obtain ⟨j, hj, hjl⟩ := nth_ok E.out hkl
            have hq := List.getElem?_eq_getElem hkl
            rw [hj] at g0
            have hjl' : (j : Int) < (l.length : Int) := by omega
            obtain ⟨bg, og, cg, hsl, hbg, a0, a1, a2⟩ := (HG.out.keep KX).at hjl
            cases hsl
            have hg := List.getElem?_eq_getElem hjl
            have hGA := gapAt_eq hq hj hg
            have hnl : nextAt r k < r.length := Nat.mod_lt _ (by omega)
            have hnx : ((k : Int) + 1).tmod (r.length : Int) = (nextAt r k : Int) := by unfold nextAt; simp [Int.tmod_eq_emod_of_nonneg (show (0 : Int) ≤ (k : Int) + 1 by omega)]
            have hnlt : (nextAt r k : Int) < (r.length : Int) := by omega
            obtain ⟨b', o', cp', hsl, hb', g0'⟩ := (HI.out.keep KX).at hnl
            cases hsl
            obtain ⟨j', hj', hjm⟩ := nth_ok E.out hnl
            have hq' := List.getElem?_eq_getElem hnl
            rw [hj'] at g0'
            have hjm' : (j' : Int) < (l.length : Int) := by omega
            obtain ⟨bg', og', cg', hsl, hbg', a0', a1', a2'⟩ := (HG.out.keep KX).at hjm
            cases hsl
            have hg' := List.getElem?_eq_getElem hjm
            have hGB := gapAt_eq hq' hj' hg'
            have HL : linkAt l r k ↔ l[j].A = l[j'].B := by unfold linkAt; rw [hGA, hGB]
            have HY : (gapAt l r k).By = l[j].By := by rw [hGA]
            clear hGA hGB
            generalize nextAt r k = nx at *
            have HL := Lib.hid HL
            have HY := Lib.hid HY
            clear hq hq' hg hg' hj hj'
            generalize l[j].A = X at *
            generalize l[j'].B = Y at *
            generalize l[j].By = Z at *
            by_cases hlk : X = Y
            · have e1 : (X != Y) = false := bne_eq_false_iff_eq.2 hlk
              have HN := Lib.hid (HL.out.2 hlk)
              have HZ := Lib.hid (by rw [sumTo, HY.out] : sumTo l r (k + 1) = wrap64 (sumTo l r k + Z))
              clear hlk HL HY
              generalize sumTo l r k = sk at *
              go_wp2
              go_quiet (fail)
              go_wp2
              go_roundw
              case rel => exact ⟨k + 1, by omega, by go_num, by rw [HZ.out], fun i hi => by
                by_cases hik : i = k
                · rw [hik]; exact HN.out
                · exact HK.out i (by omega), hkp.trans (by (repeat' (first | (with_reducible assumption) | (with_reducible exact HK.out) | (with_reducible exact Keep.refl _ _) | (with_reducible refine Keep.alloc ?_ _) | (with_reducible refine Keep.setCell ?_ _ (fun h => absurd h (by omega))) | (with_reducible refine Keep.drewN ?_ _) | (with_reducible refine Keep.drew ?_)))) fun _ _ _ h => h⟩
              case measure => simp [intOf]; omega
            · have e1 : (X != Y) = true := bne_iff_ne.2 hlk
              have HN := Lib.hid (fun h : gbad l r => hlk (HL.out.1 (h.1 k hkl)))
              clear hlk HL HY
              go_wp2
              go_quiet (fail)
              go_wp2
              refine bodyPost_ret (by simp [results, Try.results18, go_sem, c0, c1, f0, f1, m0, l0]; rfl) rfl ?_
              exact ⟨bad_is ((badW_go H0.out).trans E.out) ⟨fun h => by simp at h, fun h => absurd h HN.out⟩, by (repeat' (first | (with_reducible assumption) | (with_reducible exact HK.out) | (with_reducible exact Keep.refl _ _) | (with_reducible refine Keep.alloc ?_ _) | (with_reducible refine Keep.setCell ?_ _ (fun h => absurd h (by omega))) | (with_reducible refine Keep.drewN ?_ _) | (with_reducible refine Keep.drew ?_)))⟩
          · have hlt : ¬ (k : Int) < (r.length : Int) := by omega
            obtain rfl : k = r.length := by omega
            go_wp2
            refine bodyPost_ret (by simp [results, Try.results18, go_sem, c0, c1, f0, f1, m0, l0]; rfl) rfl ?_
            exact ⟨bad_is ((badW_go H0.out).trans E.out) ⟨fun h => ⟨HK.out, by simpa using h⟩, fun h => by simpa using h.2⟩, by (repeat' (first | (with_reducible assumption) | (with_reducible exact HK.out) | (with_reducible exact Keep.refl _ _) | (with_reducible refine Keep.alloc ?_ _) | (with_reducible refine Keep.setCell ?_ _ (fun h => absurd h (by omega))) | (with_reducible refine Keep.drewN ?_ _) | (with_reducible refine Keep.drew ?_)))⟩
  · obtain ⟨c, a, e0⟩ : ∃ c a, gapsW n l = (c, a) := ⟨_, _, rfl⟩
    have hc : ¬ c = 0 := by rw [e0] at h0; exact h0
    have F0 := Lib.hid (by rw [e0]; rfl : faultV (gapsW n l).1 (gapsW n l).2 = .agg #[.int .i64 c, .int .i64 a])
    have E := Lib.hid ((badW_no (r := r) h0).trans e0)
    clear h0 e0
    have hcb : (c != 0) = true := bne_iff_ne.2 hc
    go_enter Try.func18, Try.ntmps18
    go_wp2_with fail
    refine (gapCheck_any _ n _ l (HG.out.keep (by (repeat' (first | (with_reducible assumption) | (with_reducible exact HK.out) | (with_reducible exact Keep.refl _ _) | (with_reducible refine Keep.alloc ?_ _) | (with_reducible refine Keep.setCell ?_ _ (fun h => absurd h (by omega))) | (with_reducible refine Keep.drewN ?_ _) | (with_reducible refine Keep.drew ?_)))))).mono ?_
    rintro e w1 ⟨rfl, hk1⟩
    have K1 : Keep NoS w w1 := Keep.trans (by (repeat' (first | (with_reducible assumption) | (with_reducible exact HK.out) | (with_reducible exact Keep.refl _ _) | (with_reducible refine Keep.alloc ?_ _) | (with_reducible refine Keep.setCell ?_ _ (fun h => absurd h (by omega))) | (with_reducible refine Keep.drewN ?_ _) | (with_reducible refine Keep.drew ?_)))) hk1 fun _ _ _ h => h
    have B1 : Blk w1 w.heap.size #[.int .i64 0, .int .i64 0] := Blk.keep (by (repeat (first | (with_reducible assumption) | (refine blk_at _ _ ?_; simp; done) | (refine Blk.old ?_ _)))) hk1
    obtain ⟨c0, c1, f0, f1, l0⟩ := B1.two
    have m0 : ¬ w1.heap.size = w.heap.size := by omega
    clear hk1
    rw [F0.out]
    go_wp2
    go_region
    go_wp2
    refine bodyPost_ret (by simp [results, Try.results18, go_sem, c0, c1, f0, f1, m0, l0]; rfl) rfl ?_
    exact ⟨bad_no E.out hc, by (repeat' (first | (with_reducible assumption) | (with_reducible exact HK.out) | (with_reducible exact Keep.refl _ _) | (with_reducible refine Keep.alloc ?_ _) | (with_reducible refine Keep.setCell ?_ _ (fun h => absurd h (by omega))) | (with_reducible refine Keep.drewN ?_ _) | (with_reducible refine Keep.drew ?_)))⟩
end Go.Proofs.Ytnmklgigmmlgeaa
