/- The law SimplexPivots: its walk. -/
import Derived.Test.YtamjmcdlddocgaaSpD
import Derived.Test.YtamjmcdlddocgaaRfF
import Derived.Test.YtamjmcdlddocgaaLies
namespace Go.Proofs.Ytamjmcdlddocgaa
open Go.ChangeShapes Go.WideShapes Go.RowKit
set_option linter.unusedVariables false
set_option linter.unusedSimpArgs false

instance fqDec : DecidableEq Fq := fun a b => if h : a.N = b.N ∧ a.D = b.D then isTrue (by cases a; cases b; simp_all) else isFalse (by rintro rfl; exact h ⟨rfl, rfl⟩)
def told2 : List Fq := [⟨2, 1⟩, ⟨1, 1⟩]
theorem told2_fact : pivF [told2] 0 0 = (0, 0) ∧ pivR [told2] 0 0 = [[⟨1, 1⟩, ⟨1, 2⟩]] := by decide +kernel
theorem told2_i64 : ∀ g ∈ told2, I64 g.N ∧ I64 g.D := by unfold told2 I64; simp
theorem lie_tab1 {w : World} {b : Nat} {sv : Value} {l : List Fq} (h : Blk w b #[sv]) (hs : IsFracs w sv l) : IsTab w (.slice (some ⟨b, 0, none⟩) 1 1) [l] := by
  refine ⟨_, _, rfl, Nat.le_refl _, by simp [maxLen], fun hne => ⟨b, 0, rfl, h.lt, fun i r hi => ?_⟩⟩
  cases i with
  | zero =>
    simp at hi
    subst hi
    exact ⟨sv, by rw [h.cell]; rfl, hs⟩
  | succ n => simp at hi

set_option maxRecDepth 100000 in
set_option maxHeartbeats 16000000 in
theorem simplexPivots_walk (w : World) (v : Value) (t : List (List Fq)) (r c : Int) (h : IsTab w v t) (hr : I64 r) (hc : I64 c) :
    Calls Try.prog 3 #[v, .int .i64 r, .int .i64 c] w fun e w' => e = .returned (.bool true) ∧ Below w.heap.size w w' := by
  suffices hk : Calls Try.prog 3 #[v, .int .i64 r, .int .i64 c] w fun e w' => e = .returned (.bool true) ∧ Keep NoS w w' from hk.mono fun e w' ⟨h1, h2⟩ => ⟨h1, h2.below (Nat.le_refl _) fun _ _ h => h.elim⟩
  have CP := fun w' (k : Keep NoS w w') => Lib.hid (pivot_any w' v t r c (h.keep k) hr hc)
  have CR := fun w' (k : Keep NoS w w') => Lib.hid (refPivoted_any w' v t r c (h.keep k) hr hc)
  have CF := fun w' v (h : IsTab w' v [told2]) => Lib.hid (pivot_any w' v [told2] 0 0 h (by unfold I64; omega) (by unfold I64; omega))
  rw [told2_fact.1, told2_fact.2] at CF
  generalize pivF t r c = pf at *
  generalize pivR t r c = pr at *
  obtain ⟨f1, f2⟩ := pf
  unfold fV at CP CR CF
  simp only at CP CR CF
  obtain ⟨oa, ca, rfl, _, _⟩ := h.len
  clear h
  go_enter Try.func3, Try.ntmps3
  go_wp2_with fail
  refine ((CP _ (by (repeat' (first | (with_reducible assumption) | (with_reducible exact HK.out) | (with_reducible exact Keep.refl _ _) | (with_reducible refine Keep.alloc ?_ _) | (with_reducible refine Keep.setCell ?_ _ (fun h => absurd h (by omega))) | (with_reducible refine Keep.drewN ?_ _) | (with_reducible refine Keep.drew ?_))))).out).mono ?_
  rintro e w1 ⟨u, rfl, hu, hk⟩
  have K1 : Hid (Keep NoS w w1) := Lib.hid (Keep.both (by (repeat' (first | (with_reducible assumption) | (with_reducible exact HK.out) | (with_reducible exact Keep.refl _ _) | (with_reducible refine Keep.alloc ?_ _) | (with_reducible refine Keep.setCell ?_ _ (fun h => absurd h (by omega))) | (with_reducible refine Keep.drewN ?_ _) | (with_reducible refine Keep.drew ?_)))) hk)
  obtain ⟨ou, cu, rfl, _, hmu⟩ := hu.len
  have HU := Lib.hid hu
  unfold maxLen at hmu
  clear hk CP hu
  go_wp2_with fail
  refine ((CF _ _ (lie_tab1 (b := w1.heap.size + 1 + 1) (sv := .slice (some ⟨w1.heap.size + 1, 0, none⟩) 2 2) (by (repeat (first | (refine blk_at _ _ ?_; simp; done) | (refine Blk.old ?_ _)))) (lie_fracs (b := w1.heap.size + 1) (by (repeat (first | (refine blk_at _ _ ?_; simp; done) | (refine Blk.old ?_ _)))) rfl rfl told2_i64 (by simp [told2, maxLen])))).out).mono ?_
  rintro e w2 ⟨u2, rfl, hu2, hk⟩
  have Bb8 : Blk w2 (w1.heap.size) #[.int .i64 f1, .int .i64 f2] := Blk.keep (by (repeat (first | (with_reducible assumption) | (refine blk_at _ _ ?_; simp; done) | (refine Blk.old ?_ _)))) hk
  have k2 : Keep NoS w1 w2 := Keep.trans (by (repeat' (first | (with_reducible assumption) | (with_reducible exact HK.out) | (with_reducible exact Keep.refl _ _) | (with_reducible refine Keep.alloc ?_ _) | (with_reducible refine Keep.setCell ?_ _ (fun h => absurd h (by omega))) | (with_reducible refine Keep.drewN ?_ _) | (with_reducible refine Keep.drew ?_)))) hk fun _ _ _ h => h
  have K2 := Lib.hid (K1.out.both k2)
  have HU := Lib.hid (HU.out.keep k2)
  have Hb8 := Lib.hid Bb8
  obtain ⟨o2, c2, rfl, _, _⟩ := hu2.len
  obtain ⟨bt, ot, sv, rfl, hbt, ht0, hfr⟩ := hu2.at (k := 0) (by decide)
  obtain ⟨os, cs, rfl, _⟩ := hfr.len
  obtain ⟨bs, oo, rfl, hbs, y0, y1⟩ := hfr.at (k := 1) (by decide)
  have ht0 : w2.cell? ⟨bt, ot, none⟩ = some (.slice (some ⟨bs, oo, none⟩) 2 cs) := by simpa using ht0
  have y0 : w2.cell? ⟨bs, oo + 2, none⟩ = some (.int .i64 1) := by simpa using y0
  have y1 : w2.cell? ⟨bs, oo + 3, none⟩ = some (.int .i64 2) := by simpa using y1
  have ka : Keep NoS w2 (w2.alloc (.cells #[.int .i64 0, .int .i64 0] 24)) := (Keep.refl _ _).alloc _
  clear hk Bb8 k2 CF hu2 hfr
  generalize w1.heap.size = b8 at *
  obtain ⟨b80, b81, _, _, b8l⟩ := Hb8.out.two
  go_wp2_with fail
  refine ((CR _ (K2.out.alloc _)).out).mono ?_
  rintro e w3 ⟨u3, rfl, hu3, hk⟩
  have k3 : Keep NoS w2 w3 := Keep.trans (by (repeat' (first | (with_reducible assumption) | (with_reducible exact HK.out) | (with_reducible exact Keep.refl _ _) | (with_reducible refine Keep.alloc ?_ _) | (with_reducible refine Keep.setCell ?_ _ (fun h => absurd h (by omega))) | (with_reducible refine Keep.drewN ?_ _) | (with_reducible refine Keep.drew ?_)))) hk fun _ _ _ h => h
  have K3 := Lib.hid (K2.out.both k3)
  have Hb8 := Lib.hid (Hb8.out.keep k3)
  have HU := Lib.hid (HU.out.keep k3)
  obtain ⟨o3, c3, rfl, _, hm3⟩ := hu3.len
  unfold maxLen at hm3
  have HV := Lib.hid hu3
  clear b80 b81 b8l hk k3 CR hu3 ht0 y0 y1 hbt hbs ka
  have Hb12 : Hid (Blk (w3.alloc (.cells #[.int .i64 f1, .int .i64 f2] 24)) w3.heap.size #[.int .i64 f1, .int .i64 f2]) := Lib.hid (blk_at _ _ rfl)
  have K4 : Hid (Keep NoS w (w3.alloc (.cells #[.int .i64 f1, .int .i64 f2] 24))) := Lib.hid (K3.out.alloc _)
  have HU := Lib.hid (HU.out.keep ((Keep.refl NoS w3).alloc (.cells #[.int .i64 f1, .int .i64 f2] 24)))
  have HV := Lib.hid (HV.out.keep ((Keep.refl NoS w3).alloc (.cells #[.int .i64 f1, .int .i64 f2] 24)))
  have Hb8 := Lib.hid (Hb8.out.old (.cells #[.int .i64 f1, .int .i64 f2] 24))
  go_upto_region 6 with fail
  generalize w3.alloc (.cells #[.int .i64 f1, .int .i64 f2] 24) = w4 at *
  generalize w3.heap.size = b12 at *
  obtain ⟨b80, b81, _, _, b8l⟩ := Hb8.out.two
  obtain ⟨p0, p1, _, _, pl⟩ := Hb12.out.two
  go_wp2
  clear b80 b81 b8l p0 p1 pl
  go_loopw [13] (fun s wr => ∃ k : Nat, k ≤ pr.length ∧ s = .int .i64 k ∧ Keep NoS w4 wr) (fun s _ => (pr.length - intOf s).toNat)
  case atStart => exact ⟨0, by omega, rfl, Keep.refl _ _⟩
  case round =>
    obtain ⟨k, hk, rfl, hkr⟩ := hrel
    have HKR := Lib.hid hkr
    clear hkr
    by_cases hkl : k < pr.length
    case neg =>
      have hlt : ¬ (k : Int) < (pr.length : Int) := by omega
      have KE := Lib.hid (K4.out.both HKR.out)
      go_wp2
      go_ret
      exact ⟨rfl, KE.out⟩
    case pos =>
      have hlt : (k : Int) < (pr.length : Int) := by omega
      obtain ⟨b, o, sv, rfl, hbl, p0, hf⟩ := (HU.out.keep HKR.out).at hkl
      obtain ⟨b', o', sv', rfl, hbl', q0, hf'⟩ := (HV.out.keep HKR.out).at hkl
      have CS := fun w' (k : Keep NoS wr w') => Lib.hid (sameFracs_same w' sv sv' _ (hf.keep k) (hf'.keep k))
      clear hf hf'
      go_upto_region 11 with fail
      refine wp_region_by (fun w' => Keep NoS wr w') [] [([0, 1, 2, 3, 4, 5, 6, 7], 8)] [9] (by kernel_rfl) (by kernel_rfl) (by (repeat' (first | (with_reducible assumption) | (with_reducible exact HK.out) | (with_reducible exact Keep.refl _ _) | (with_reducible refine Keep.alloc ?_ _) | (with_reducible refine Keep.setCell ?_ _ (fun h => absurd h (by omega))) | (with_reducible refine Keep.drewN ?_ _) | (with_reducible refine Keep.drew ?_)))) ?_
      intro X W hne hF hcl
      have HCL := Lib.hid hcl
      have a0 := fun x => ((hF x).cell hbl).trans p0
      have a1 := fun x => ((hF x).cell hbl').trans q0
      clear hF hcl
      simp only [wpPlan, pickOps, List.getElem?_toArray, List.getElem?_cons_zero, List.getElem?_cons_succ, clsOf, Bool.false_eq_true, if_false]
      (repeat (quiet_step (fail))); refine wpQuiet_nil ?_
      refine wpOp_at (by simp only [List.getElem?_toArray, List.getElem?_cons_zero, List.getElem?_cons_succ]; rfl) (by rfl) (fun K hK => ?_)
      go_simp
      refine (CS _ (by (repeat' (first | (with_reducible assumption) | (with_reducible exact HK.out) | (with_reducible exact Keep.refl _ _) | (with_reducible refine Keep.alloc ?_ _) | (with_reducible refine Keep.setCell ?_ _ (fun h => absurd h (by omega))) | (with_reducible refine Keep.drewN ?_ _) | (with_reducible refine Keep.drew ?_))))).out.mono ?_
      rintro e w6 ⟨rfl, hk6⟩
      have k6 : Keep NoS wr w6 := Keep.trans (by (repeat' (first | (with_reducible assumption) | (with_reducible exact HK.out) | (with_reducible exact Keep.refl _ _) | (with_reducible refine Keep.alloc ?_ _) | (with_reducible refine Keep.setCell ?_ _ (fun h => absurd h (by omega))) | (with_reducible refine Keep.drewN ?_ _) | (with_reducible refine Keep.drew ?_)))) hk6 fun _ _ _ h => h
      refine hK _ _ ⟨fun _ => HCL.out _ k6, ?_⟩
      have K6 := Lib.hid (HKR.out.both k6)
      clear hK K hk6 k6 a0 a1 p0 q0 HCL CS
      (repeat (quiet_step (fail))); refine wpQuiet_nil ?_
      refine NoPanic.normal ?_
      go_wp2
      go_roundw
      case rel => exact ⟨k + 1, by omega, by go_num, K6.out⟩
      case measure => simp [intOf]; omega
end Go.Proofs.Ytamjmcdlddocgaa
