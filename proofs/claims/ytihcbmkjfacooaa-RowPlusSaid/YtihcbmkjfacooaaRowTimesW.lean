/- The law RowTimes: its walk. -/
import Derived.Test.YtihcbmkjfacooaaRowFact
import Derived.Test.YtihcbmkjfacooaaRowLawD
import Derived.Test.YtihcbmkjfacooaaRowSameW
import Derived.Test.YtihcbmkjfacooaaRefFits
namespace Go.Proofs.Ytihcbmkjfacooaa
open Go.ChangeShapes Go.WideShapes Go.RowKit
set_option linter.unusedVariables false
set_option linter.unusedSimpArgs false

theorem app_ints_big {w : World} {base : Nat} {v : Value} {xs : List Int} (hown : OwnI w base v xs) {u : Value} {ys : List Int} (hu : IsInts w u ys) (hl : (xs.length + ys.length) * 8 ≤ 140737488355328) (hb : base ≤ w.heap.size) :
    ∃ v' w', (Builtin.append_ #[22, 22] 22 #[v, u]).run Try.prog w = .ok v' w' ∧ OwnI w' base v' (xs ++ ys) ∧ w.grownBy w' v.ownBlock := by
  obtain ⟨i0, hi0, hz0, hz1, hz2⟩ := info_parts infoI
  obtain ⟨oa, cap, rfl, hsrc⟩ := hu.src
  obtain ⟨v', w', hr, ho, hg⟩ := app_run (P := Try.prog) (w := w) (ty := 22) Try.underlying22 hi0 hz0 hz1 hz2 rfl (by decide) base v xs.length (iv xs) hown oa ys.length cap (iv ys) (by simp [iv]) hsrc (iv_one ys) (by unfold maxLen; omega) hl hb
  exact ⟨v', w', hr, by unfold OwnI; rw [iv_app, List.length_append]; exact ho, hg⟩

theorem mul_fit_bd {c x : Int} (h1 : 1 ≤ c) (h2 : c ≤ 1000) (hx : fitI x) : -1000000000 ≤ c * x ∧ c * x ≤ 1000000000 := by
  unfold fitI at hx
  have e : (c * x).natAbs ≤ 1000 * 1000000 := by rw [Int.natAbs_mul]; exact Nat.mul_le_mul (by omega) (by omega)
  omega

set_option maxRecDepth 100000 in
set_option maxHeartbeats 8000000 in
theorem rowTimes_walk (w : World) (v : Value) (r : Rw) (c : Int) (h : IsRow w v r) (hc64 : I64 c) (hlen : r.of.length * 8 ≤ 140737488355328) :
    Calls Try.prog 11 #[v, .int .i64 c] w fun e w' => e = .returned (.bool true) ∧ Below w.heap.size w w' := by
  suffices hk : Calls Try.prog 11 #[v, .int .i64 c] w fun e w' => e = .returned (.bool true) ∧ Keep NoS w w' from hk.mono fun e w' ⟨h1, h2⟩ => ⟨h1, h2.below (Nat.le_refl _) fun _ _ h => h.elim⟩
  have CN := fun w' (k : Keep NoS w w') => Lib.hid (tidy_any w' v r (h.keep k))
  obtain ⟨sv, rfl, hi, hk64, hr64, hcap⟩ := h
  have HI := Lib.hid hi
  have HRI := Lib.hid (And.intro hk64 hr64)
  obtain ⟨os, cs, rfl, hls⟩ := hi.len
  unfold maxLen at hls
  clear hk64 hr64 hi hcap
  by_cases hc : c < 1 ∨ 1000 < c
  · by_cases hc1 : c < 1
    · have e1 : decide (c < 1) = true := dec_t hc1
      clear CN
      go_enter Try.func11, Try.ntmps11
      go_wp2_with fail
      have B2 : Blk (w.alloc (.cells #[.slice os r.of.length cs, .int .i64 r.kind, .int .i64 r.to] 24)) w.heap.size #[.slice os r.of.length cs, .int .i64 r.kind, .int .i64 r.to] := by (repeat (first | (refine blk_at _ _ ?_; simp; done) | (refine Blk.old ?_ _)))
      have K0 : Hid (Keep NoS w (w.alloc (.cells #[.slice os r.of.length cs, .int .i64 r.kind, .int .i64 r.to] 24))) := Lib.hid (by (repeat' (first | (with_reducible assumption) | (with_reducible exact HK.out) | (with_reducible exact Keep.refl _ _) | (with_reducible refine Keep.alloc ?_ _) | (with_reducible refine Keep.setCell ?_ _ (fun h => absurd h (by omega))) | (with_reducible refine Keep.drewN ?_ _) | (with_reducible refine Keep.drew ?_))))
      have Hb2 := Lib.hid B2
      clear B2
      generalize w.alloc (.cells #[.slice os r.of.length cs, .int .i64 r.kind, .int .i64 r.to] 24) = w0 at *
      generalize hb2 : w.heap.size = b2 at Hb2 ⊢
      clear hb2
      obtain ⟨b20, b21, b22, _, _, _, b2l⟩ := Hb2.out.three
      go_wp2_with fail
      refine (rowFact_any _).mono ?_
      rintro e w1 ⟨rfl, hk⟩
      have k1 : Keep NoS w0 w1 := Keep.trans (by (repeat' (first | (with_reducible assumption) | (with_reducible exact HK.out) | (with_reducible exact Keep.refl _ _) | (with_reducible refine Keep.alloc ?_ _) | (with_reducible refine Keep.setCell ?_ _ (fun h => absurd h (by omega))) | (with_reducible refine Keep.drewN ?_ _) | (with_reducible refine Keep.drew ?_)))) hk fun _ _ _ h => h
      have K1 := Lib.hid (K0.out.both k1)
      have Hb2 := Lib.hid (Hb2.out.keep k1)
      clear b20 b21 b22 b2l hk k1
      go_wp2
      go_ret
      exact ⟨rfl, K1.out⟩
    · have e1 : decide (c < 1) = false := dec_f hc1
      have e2 : decide (1000 < c) = true := dec_t (by omega)
      clear CN
      go_enter Try.func11, Try.ntmps11
      go_wp2_with fail
      have B2 : Blk (w.alloc (.cells #[.slice os r.of.length cs, .int .i64 r.kind, .int .i64 r.to] 24)) w.heap.size #[.slice os r.of.length cs, .int .i64 r.kind, .int .i64 r.to] := by (repeat (first | (refine blk_at _ _ ?_; simp; done) | (refine Blk.old ?_ _)))
      have K0 : Hid (Keep NoS w (w.alloc (.cells #[.slice os r.of.length cs, .int .i64 r.kind, .int .i64 r.to] 24))) := Lib.hid (by (repeat' (first | (with_reducible assumption) | (with_reducible exact HK.out) | (with_reducible exact Keep.refl _ _) | (with_reducible refine Keep.alloc ?_ _) | (with_reducible refine Keep.setCell ?_ _ (fun h => absurd h (by omega))) | (with_reducible refine Keep.drewN ?_ _) | (with_reducible refine Keep.drew ?_))))
      have Hb2 := Lib.hid B2
      clear B2
      generalize w.alloc (.cells #[.slice os r.of.length cs, .int .i64 r.kind, .int .i64 r.to] 24) = w0 at *
      generalize hb2 : w.heap.size = b2 at Hb2 ⊢
      clear hb2
      obtain ⟨b20, b21, b22, _, _, _, b2l⟩ := Hb2.out.three
      go_wp2_with fail
      refine (rowFact_any _).mono ?_
      rintro e w1 ⟨rfl, hk⟩
      have k1 : Keep NoS w0 w1 := Keep.trans (by (repeat' (first | (with_reducible assumption) | (with_reducible exact HK.out) | (with_reducible exact Keep.refl _ _) | (with_reducible refine Keep.alloc ?_ _) | (with_reducible refine Keep.setCell ?_ _ (fun h => absurd h (by omega))) | (with_reducible refine Keep.drewN ?_ _) | (with_reducible refine Keep.drew ?_)))) hk fun _ _ _ h => h
      have K1 := Lib.hid (K0.out.both k1)
      have Hb2 := Lib.hid (Hb2.out.keep k1)
      clear b20 b21 b22 b2l hk k1
      go_wp2
      go_ret
      exact ⟨rfl, K1.out⟩
  have e1 : decide (c < 1) = false := dec_f (by omega)
  have e2 : decide (1000 < c) = false := dec_f (by omega)
  have c1 : 1 ≤ c := by omega
  have c2 : c ≤ 1000 := by omega
  clear hc
  go_enter Try.func11, Try.ntmps11
  go_wp2_with fail
  have B2 : Blk (w.alloc (.cells #[.slice os r.of.length cs, .int .i64 r.kind, .int .i64 r.to] 24)) w.heap.size #[.slice os r.of.length cs, .int .i64 r.kind, .int .i64 r.to] := by (repeat (first | (refine blk_at _ _ ?_; simp; done) | (refine Blk.old ?_ _)))
  have K0 : Hid (Keep NoS w (w.alloc (.cells #[.slice os r.of.length cs, .int .i64 r.kind, .int .i64 r.to] 24))) := Lib.hid (by (repeat' (first | (with_reducible assumption) | (with_reducible exact HK.out) | (with_reducible exact Keep.refl _ _) | (with_reducible refine Keep.alloc ?_ _) | (with_reducible refine Keep.setCell ?_ _ (fun h => absurd h (by omega))) | (with_reducible refine Keep.drewN ?_ _) | (with_reducible refine Keep.drew ?_))))
  have Hb2 := Lib.hid B2
  clear B2
  generalize w.alloc (.cells #[.slice os r.of.length cs, .int .i64 r.kind, .int .i64 r.to] 24) = w0 at *
  generalize hb2 : w.heap.size = b2 at Hb2 ⊢
  clear hb2
  obtain ⟨b20, b21, b22, _, _, _, b2l⟩ := Hb2.out.three
  go_wp2_with fail
  refine (rowFact_any _).mono ?_
  rintro e w1 ⟨rfl, hk⟩
  have k1 : Keep NoS w0 w1 := Keep.trans (by (repeat' (first | (with_reducible assumption) | (with_reducible exact HK.out) | (with_reducible exact Keep.refl _ _) | (with_reducible refine Keep.alloc ?_ _) | (with_reducible refine Keep.setCell ?_ _ (fun h => absurd h (by omega))) | (with_reducible refine Keep.drewN ?_ _) | (with_reducible refine Keep.drew ?_)))) hk fun _ _ _ h => h
  have K1 := Lib.hid (K0.out.both k1)
  have Hb2 := Lib.hid (Hb2.out.keep k1)
  clear b20 b21 b22 b2l hk k1
  obtain ⟨b20, b21, b22, _, _, _, b2l⟩ := Hb2.out.three
  have hn1 : ¬ b2 = w1.heap.size := by omega
  go_wp2
  have HK0 : Hid (Keep NoS w (w1.alloc (.cells #[.slice none 0 0, .int .i64 r.kind, .int .i64 0] 24))) := Lib.hid (K1.out.alloc _)
  have HB2 := Lib.hid (Hb2.out.old (.cells #[.slice none 0 0, .int .i64 r.kind, .int .i64 0] 24))
  have HB6 : Hid (Blk (w1.alloc (.cells #[.slice none 0 0, .int .i64 r.kind, .int .i64 0] 24)) w1.heap.size #[.slice none 0 0, .int .i64 r.kind, .int .i64 0]) := Lib.hid (blk_at _ _ rfl)
  have hsz : (w1.alloc (.cells #[.slice none 0 0, .int .i64 r.kind, .int .i64 0] 24)).heap.size = w1.heap.size + 1 := by simp
  have HS6 : Hid (w.heap.size ≤ w1.heap.size) := Lib.hid K1.out.size
  have h26 : b2 < w1.heap.size := Hb2.out.lt
  clear b20 b21 b22 b2l hn1 K1
  generalize w1.alloc (.cells #[.slice none 0 0, .int .i64 r.kind, .int .i64 0] 24) = w2 at *
  generalize w1.heap.size = b6 at *
  have HB6L := Lib.hid hsz
  clear hsz Hb2
  go_loopw [7] (fun s wr => ∃ j : Nat, j ≤ r.of.length ∧ s = .int .i64 j ∧ (∀ x ∈ r.of.take j, fitI x) ∧ Keep NoS w wr ∧ b6 < wr.heap.size ∧ Blk wr b2 #[.slice os r.of.length cs, .int .i64 r.kind, .int .i64 r.to] ∧ ∃ u, Blk wr b6 #[u, .int .i64 r.kind, .int .i64 0] ∧ OwnI wr (b6 + 1) u ((r.of.take j).map fun x => c * x)) (fun s _ => (r.of.length - intOf s).toNat)
  case atStart => exact ⟨0, by omega, rfl, by simp, HK0.out, by have := HB6L.out; omega, HB2.out, _, HB6.out, OwnI.nil _ _⟩
  case round =>
    obtain ⟨j, hj, rfl, hfj, hkr, hbs, hb2, u, hb6, hou⟩ := hrel
    have HFJ := Lib.hid hfj
    have HKR := Lib.hid hkr
    have HB2 := Lib.hid hb2
    have HB6 := Lib.hid hb6
    have HOU := Lib.hid hou
    have hlj : ((r.of.take j).map fun x => c * x).length = j := by rw [List.length_map, List.length_take]; omega
    obtain ⟨ob, cb, hu⟩ := hou.len
    rw [hlj] at hu
    subst hu
    clear hfj hkr hb2 hb6 hou HK0
    obtain ⟨p0, p1, p2, q0, q1, q2, l0⟩ := HB6.out.three
    obtain ⟨s0, s1, s2, _, _, _, l1⟩ := HB2.out.three
    by_cases hjl : j < r.of.length
    · have hlt : (j : Int) < (r.of.length : Int) := by omega
      obtain ⟨b, o, cp, hsl, hb, hx⟩ := (HI.out.keep HKR.out).at hjl
      simp at hsl
      obtain ⟨rfl, rfl⟩ := hsl
      have HS : Hid ((r.of.take j).map (fun x => c * x) ++ [c * r.of[j]] = (r.of.take (j + 1)).map fun x => c * x) := Lib.hid (by rw [List.take_succ_eq_append_getElem hjl, List.map_append]; rfl)
      have HT : Hid (fitI r.of[j] → ∀ x ∈ r.of.take (j + 1), fitI x) := Lib.hid (by
        intro hf x hx
        rw [List.take_succ_eq_append_getElem hjl] at hx
        rcases List.mem_append.1 hx with h | h
        · exact HFJ.out x h
        · simp at h; rw [h]; exact hf)
      generalize r.of[j] = x at *
      by_cases hfx : fitI x
      · have CF := fun w => Lib.hid (refFit_any w x)
        rw [decide_eq_true hfx] at CF
        have HT := Lib.hid (HT.out hfx)
        obtain ⟨m1, m2⟩ := mul_fit_bd c1 c2 hfx
        have hww : IntKind.i64.wrap (c * x) = c * x := Go.IntWalk.i64_in _ (by omega)
        clear HFJ hfx
        go_wp2_with fail
        refine (CF _).out.mono ?_
        rintro e w3 ⟨rfl, hk3⟩
        have HB2 := Lib.hid (HB2.out.keep hk3)
        have HB6 := Lib.hid (HB6.out.keep hk3)
        have HOU := Lib.hid (HOU.out.keep hk3)
        have K3 := Lib.hid (HKR.out.both hk3)
        have hx3 := (hk3.cell hb).trans hx
        have hb3 := Nat.lt_of_lt_of_le hb hk3.size
        have hbs3 := Nat.lt_of_lt_of_le hbs hk3.size
        clear hk3 p0 p1 p2 q0 q1 q2 l0 s0 s1 s2 l1 CF hx hb hbs HKR
        go_wp2
        obtain ⟨p0, p1, p2, q0, q1, q2, l0⟩ := HB6.out.three
        obtain ⟨s0, s1, s2, _, _, _, l1⟩ := HB2.out.three
        refine wp_region_by (fun w' => Keep NoS w3 w') [10, 11, 12] [([0, 1, 2, 3, 4, 5, 6, 7, 8], 9), ([], 10), ([11], 12)] [] (by kernel_rfl) (by kernel_rfl) (by (repeat' (first | (with_reducible assumption) | (with_reducible exact HK.out) | (with_reducible exact Keep.refl _ _) | (with_reducible refine Keep.alloc ?_ _) | (with_reducible refine Keep.setCell ?_ _ (fun h => absurd h (by omega))) | (with_reducible refine Keep.drewN ?_ _) | (with_reducible refine Keep.drew ?_)))) ?_
        intro X W hne hF hcl
        have HCL := Lib.hid hcl
        have hx0 := fun x => (HB6.out.keep (hF x)).three
        have hx1 := fun x => (HB2.out.keep (hF x)).three
        have hx2 := fun x => ((hF x).cell hb3).trans hx3
        clear hF hcl
        simp only [wpPlan, pickOps, List.getElem?_toArray, List.getElem?_cons_zero, List.getElem?_cons_succ, clsOf, Bool.false_eq_true, if_false]
        (repeat (quiet_step (fail))); refine wpQuiet_nil ?_
        refine wpOp_at (by simp only [List.getElem?_toArray, List.getElem?_cons_zero, List.getElem?_cons_succ]; rfl) (by rfl) (fun K hK => ?_)
        go_simp
        have k4 : Keep NoS w3 ((w3.alloc (.cells #[.int .i64 (c * x)] TI)).drew) := by (repeat' (first | (with_reducible assumption) | (with_reducible exact HK.out) | (with_reducible exact Keep.refl _ _) | (with_reducible refine Keep.alloc ?_ _) | (with_reducible refine Keep.setCell ?_ _ (fun h => absurd h (by omega))) | (with_reducible refine Keep.drewN ?_ _) | (with_reducible refine Keep.drew ?_)))
        refine hK _ _ ⟨fun _ => HCL.out _ k4, ?_⟩
        have HSM : Hid (IsInts ((w3.alloc (.cells #[.int .i64 (c * x)] TI)).drew) (.slice (some ⟨w3.heap.size, 0, none⟩) 1 1) [c * x]) := Lib.hid ((one_int w3 (c * x) (by unfold I64; omega)).keep (Keep.refl NoS _).drew)
        have HOU4 := Lib.hid (HOU.out.keep k4)
        have HB24 := Lib.hid (HB2.out.keep k4)
        have HB64 := Lib.hid (HB6.out.keep k4)
        have K4 := Lib.hid (K3.out.both k4)
        have hsz4 : b6 + 1 ≤ ((w3.alloc (.cells #[.int .i64 (c * x)] TI)).drew).heap.size := by have := k4.size; omega
        clear hK K
        generalize (w3.alloc (.cells #[.int .i64 (c * x)] TI)).drew = w4 at *
        generalize w3.heap.size = g4 at *
        (repeat (quiet_step (fail))); refine wpQuiet_nil ?_
        refine wpOp_at (by simp only [List.getElem?_toArray, List.getElem?_cons_zero, List.getElem?_cons_succ]; rfl) (by rfl) (fun K hK => ?_)
        obtain ⟨v5, w5, hr5, ho5, hg5⟩ := app_ints_big HOU4.out HSM.out (by rw [hlj]; simp; omega) hsz4
        have hne : ∀ a, a < b6 + 1 → ∀ b, (Value.slice ob j cb).ownBlock = some b → b ≠ a := fun a ha b hb => by have := HOU4.out.block b hb; omega
        have K5 := Lib.hid (K4.out.grown hg5 fun k hk => by have := HOU4.out.block k hk; have := HS6.out; omega)
        have HB25 := Lib.hid (HB24.out.grown hg5 (hne _ (by omega)))
        have HB65 := Lib.hid (HB64.out.grown hg5 (hne _ (by omega)))
        have HO5 := Lib.hid ho5
        have hbs5 := Nat.lt_of_lt_of_le hsz4 hg5.size
        obtain ⟨ob', cb', hu'⟩ := ho5.len
        rw [List.length_append, hlj, List.length_singleton] at hu'
        subst hu'
        refine wp_app_run _ _ 22 _ _ rfl rfl rfl hr5 ?_
        refine hK _ _ ⟨fun h => (by simp at h), ?_⟩
        clear hK K hr5 ho5 hg5 hne
        simp only [Act.put, List.setIfInBounds_toArray, List.set_cons_zero, List.set_cons_succ]
        obtain ⟨e0, e1', e2', f0, f1, f2, l5⟩ := HB65.out.three
        (repeat (quiet_step (fail))); refine wpQuiet_nil ?_
        refine wpOp_at (by simp only [List.getElem?_toArray, List.getElem?_cons_zero, List.getElem?_cons_succ]; rfl) (by rfl) (fun K hK => ?_)
        go_simp
        refine hK _ _ ⟨fun h => (by simp at h), ?_⟩
        clear hK K hx0 hx1 hx2 e0 e1' e2' f0 f1 f2 p0 p1 p2 q0 q1 q2 s0 s1 s2
        (repeat (quiet_step (fail))); refine wpQuiet_nil ?_
        refine NoPanic.normal ?_
        go_wp2
        go_roundw
        case rel =>
          refine ⟨j + 1, by omega, by go_num, HT.out, keep_at K5.out _ HS6.out, Nat.lt_of_lt_of_le l5 (keep_setCell _ _ _ _).size, HB25.out.setOther _ _ (by omega), _, by simpa using Blk.set HB65.out 0 _, ?_⟩
          rw [← HS.out]
          exact World.ownsRow_other HO5.out (by intro hh; have := HO5.out.block _ hh; omega)
        case measure => simp [intOf]; omega
      · have CF := fun w => Lib.hid (refFit_any w x)
        rw [decide_eq_false hfx] at CF
        go_wp2_with fail
        refine (CF _).out.mono ?_
        rintro e w3 ⟨rfl, hk3⟩
        have K3 := Lib.hid (HKR.out.both hk3)
        go_wp2
        go_ret
        exact ⟨rfl, K3.out⟩
    · have hlt : ¬ (j : Int) < (r.of.length : Int) := by omega
      obtain rfl : j = r.of.length := by omega
      have hft : ∀ x ∈ r.of, fitI x := by have := HFJ.out; rwa [List.take_length] at this
      have hou := HOU.out
      rw [List.take_length] at hou
      by_cases hto : fitI r.to
      · have CF := fun w => Lib.hid (refFit_any w r.to)
        rw [decide_eq_true hto] at CF
        obtain ⟨m1, m2⟩ := mul_fit_bd c1 c2 hto
        have hww : IntKind.i64.wrap (c * r.to) = c * r.to := Go.IntWalk.i64_in _ (by omega)
        have HOC := Lib.hid hou.cap
        have HIX : Hid (∀ x ∈ r.of.map fun x => c * x, I64 x) := Lib.hid (fun x hx => by
          obtain ⟨y, hy, rfl⟩ := List.mem_map.1 hx
          have := mul_fit_bd c1 c2 (hft y hy)
          unfold I64
          omega)
        have HOW := Lib.hid hou
        have HM64 : Hid (I64 (c * r.to)) := Lib.hid (by unfold I64; omega)
        clear hft hou hto HOU HFJ
        go_wp2_with fail
        refine (CF _).out.mono ?_
        rintro e w3 ⟨rfl, hk3⟩
        have HB2 := Lib.hid (HB2.out.keep hk3)
        have HB6 := Lib.hid (HB6.out.keep hk3)
        have HOW := Lib.hid (HOW.out.keep hk3)
        have K3 := Lib.hid (HKR.out.both hk3)
        clear hk3 p0 p1 p2 q0 q1 q2 l0 s0 s1 s2 l1 CF HKR
        obtain ⟨p0, p1, p2, q0, q1, q2, l0⟩ := HB6.out.three
        obtain ⟨s0, s1, s2, _, _, _, l1⟩ := HB2.out.three
        have h62 : ¬ b2 = b6 := by omega
        go_wp2_with fail
        have HOI : Hid (IsInts (w3.setCell ⟨b6, 2, none⟩ (.int .i64 (c * r.to))) (.slice ob r.of.length cb) (timesR c r).of) := Lib.hid (OwnI.ints (base := b6 + 1) (World.ownsRow_other HOW.out (by intro hh; have := HOW.out.block _ hh; omega)) HIX.out)
        have Hb2 : Hid (Blk (w3.setCell ⟨b6, 2, none⟩ (.int .i64 (c * r.to))) b2 #[.slice os r.of.length cs, .int .i64 r.kind, .int .i64 r.to]) := Lib.hid (HB2.out.setOther _ _ h62)
        have Hb6 : Hid (Blk (w3.setCell ⟨b6, 2, none⟩ (.int .i64 (c * r.to))) b6 #[.slice ob r.of.length cb, .int .i64 r.kind, .int .i64 (c * r.to)]) := Lib.hid (by simpa using Blk.set HB6.out 2 (.int .i64 (c * r.to)))
        have K4 : Hid (Keep NoS w (w3.setCell ⟨b6, 2, none⟩ (.int .i64 (c * r.to)))) := Lib.hid (keep_at K3.out _ HS6.out)
        clear p0 p1 p2 q0 q1 q2 l0 s0 s1 s2 l1 HB2 HB6 HOW HIX K3
        generalize w3.setCell ⟨b6, 2, none⟩ (.int .i64 (c * r.to)) = w4 at *
        obtain ⟨t1, f1, ht1, hf1⟩ : ∃ t f, tidyS r = t ∧ tidyF r = f := ⟨_, _, rfl, rfl⟩
        obtain ⟨t2, f2, ht2, hf2⟩ : ∃ t f, tidyS (timesR c r) = t ∧ tidyF (timesR c r) = f := ⟨_, _, rfl, rfl⟩
        have HSAME : Hid (f1.1 = 0 → f2.1 = 0 → t1 = t2) := Lib.hid fun h1 h2 => by
          rw [← ht1, ← ht2]
          unfold tidyS
          rw [← hf1] at h1
          rw [← hf2] at h2
          rw [if_pos (show (chkRow r 12).1 = 0 from h1), if_pos (show (chkRow (timesR c r) 12).1 = 0 from h2), tidy_times (by omega)]
        rw [ht1, hf1] at CN
        have CM := fun w' (k : Keep NoS w4 w') => Lib.hid (tidy_any w' _ (timesR c r) ⟨_, rfl, HOI.out.keep k, HRI.out.1, HM64.out, HOC.out⟩)
        rw [ht2, hf2] at CM
        obtain ⟨x1, x2⟩ := f1
        obtain ⟨y1, y2⟩ := f2
        unfold RetRow fV at CN CM
        simp only at CN CM HSAME
        clear ht1 hf1 ht2 hf2
        refine (CN _ K4.out).out.mono ?_
        rintro e w5 ⟨sv, rfl, hi1, _, hk⟩
        have K5 := Lib.hid (K4.out.both hk)
        have Hb2 := Lib.hid (Hb2.out.keep hk)
        have Hb6 := Lib.hid (Hb6.out.keep hk)
        have k5 := hk
        have HI1 := Lib.hid hi1
        obtain ⟨o1, d1, rfl, _⟩ := hi1.len
        clear hi1 CN hk
        obtain ⟨b20, b21, b22, _, _, _, b2l⟩ := Hb2.out.three
        obtain ⟨b60, b61, b62, _, _, _, b6l⟩ := Hb6.out.three
        have b2n0 : ¬ b2 = w5.heap.size := by omega
        have b2n1 : ¬ b2 = w5.heap.size + 1 := by omega
        have b6n0 : ¬ b6 = w5.heap.size := by omega
        have b6n1 : ¬ b6 = w5.heap.size + 1 := by omega
        go_wp2_with fail
        refine ((CM _ (k5.both (by (repeat' (first | (with_reducible assumption) | (with_reducible exact HK.out) | (with_reducible exact Keep.refl _ _) | (with_reducible refine Keep.alloc ?_ _) | (with_reducible refine Keep.setCell ?_ _ (fun h => absurd h (by omega))) | (with_reducible refine Keep.drewN ?_ _) | (with_reducible refine Keep.drew ?_)))))).out).mono ?_
        rintro e w6 ⟨sv, rfl, hi2, _, hk⟩
        have Bb8 : Blk w6 (w5.heap.size) #[.slice o1 t1.of.length d1, .int .i64 t1.kind, .int .i64 t1.to] := Blk.keep (by (repeat (first | (with_reducible assumption) | (refine blk_at _ _ ?_; simp; done) | (refine Blk.old ?_ _)))) hk
        have Bb9 : Blk w6 (w5.heap.size + 1) #[.int .i64 x1, .int .i64 x2] := Blk.keep (by (repeat (first | (with_reducible assumption) | (refine blk_at _ _ ?_; simp; done) | (refine Blk.old ?_ _)))) hk
        have k6 : Keep NoS w5 w6 := Keep.trans (by (repeat' (first | (with_reducible assumption) | (with_reducible exact HK.out) | (with_reducible exact Keep.refl _ _) | (with_reducible refine Keep.alloc ?_ _) | (with_reducible refine Keep.setCell ?_ _ (fun h => absurd h (by omega))) | (with_reducible refine Keep.drewN ?_ _) | (with_reducible refine Keep.drew ?_)))) hk fun _ _ _ h => h
        have K6 := Lib.hid (K5.out.both k6)
        have Hb2 := Lib.hid (Hb2.out.keep k6)
        have Hb6 := Lib.hid (Hb6.out.keep k6)
        have Hb8 := Lib.hid Bb8
        have Hb9 := Lib.hid Bb9
        have HI1 := Lib.hid (HI1.out.keep k6)
        have HI2 := Lib.hid hi2
        obtain ⟨o2, d2, rfl, _⟩ := hi2.len
        clear b20 b21 b22 b2l b60 b61 b62 b6l b2n0 b2n1 b6n0 b6n1 hk Bb8 Bb9 k6 hi2 CM k5
        generalize w5.heap.size + 1 = b9 at *
        generalize w5.heap.size = b8 at *
        obtain ⟨b80, b81, b82, _, _, _, b8l⟩ := Hb8.out.three
        obtain ⟨b90, b91, _, _, b9l⟩ := Hb9.out.two
        have b8n0 : ¬ b8 = w6.heap.size := by omega
        have b8n1 : ¬ b8 = w6.heap.size + 1 := by omega
        have b9n0 : ¬ b9 = w6.heap.size := by omega
        have b9n1 : ¬ b9 = w6.heap.size + 1 := by omega
        have HK := K6
        by_cases hx : x1 = 0
        · by_cases hy : y1 = 0
          · have h12 := HSAME.out hx hy
            subst h12
            have g1 : (x1 != 0) = false := by rw [bne_eq_false_iff_eq]; exact hx
            have g2 : (y1 != 0) = false := by rw [bne_eq_false_iff_eq]; exact hy
            clear HSAME
            go_wp2_with fail
            refine (sameRow_row _ _ _ t1 t1 _ _ rfl rfl (HI1.out.keep (by (repeat' (first | (with_reducible assumption) | (with_reducible exact HK.out) | (with_reducible exact Keep.refl _ _) | (with_reducible refine Keep.alloc ?_ _) | (with_reducible refine Keep.setCell ?_ _ (fun h => absurd h (by omega))) | (with_reducible refine Keep.drewN ?_ _) | (with_reducible refine Keep.drew ?_))))) (HI2.out.keep (by (repeat' (first | (with_reducible assumption) | (with_reducible exact HK.out) | (with_reducible exact Keep.refl _ _) | (with_reducible refine Keep.alloc ?_ _) | (with_reducible refine Keep.setCell ?_ _ (fun h => absurd h (by omega))) | (with_reducible refine Keep.drewN ?_ _) | (with_reducible refine Keep.drew ?_))))) rfl).mono ?_
            rintro e w7 ⟨rfl, hk7⟩
            have K7 : Hid (Keep NoS w w7) := Lib.hid (Keep.both (by (repeat' (first | (with_reducible assumption) | (with_reducible exact HK.out) | (with_reducible exact Keep.refl _ _) | (with_reducible refine Keep.alloc ?_ _) | (with_reducible refine Keep.setCell ?_ _ (fun h => absurd h (by omega))) | (with_reducible refine Keep.drewN ?_ _) | (with_reducible refine Keep.drew ?_)))) hk7)
            go_wp2
            go_ret
            exact ⟨rfl, K7.out⟩
          · have g1 : (x1 != 0) = false := by rw [bne_eq_false_iff_eq]; exact hx
            have g2 : (y1 != 0) = true := by rw [bne_iff_ne]; exact hy
            go_wp2
            go_ret
            exact ⟨rfl, by (repeat' (first | (with_reducible assumption) | (with_reducible exact HK.out) | (with_reducible exact Keep.refl _ _) | (with_reducible refine Keep.alloc ?_ _) | (with_reducible refine Keep.setCell ?_ _ (fun h => absurd h (by omega))) | (with_reducible refine Keep.drewN ?_ _) | (with_reducible refine Keep.drew ?_)))⟩
        · have g1 : (x1 != 0) = true := by rw [bne_iff_ne]; exact hx
          go_wp2
          go_ret
          exact ⟨rfl, by (repeat' (first | (with_reducible assumption) | (with_reducible exact HK.out) | (with_reducible exact Keep.refl _ _) | (with_reducible refine Keep.alloc ?_ _) | (with_reducible refine Keep.setCell ?_ _ (fun h => absurd h (by omega))) | (with_reducible refine Keep.drewN ?_ _) | (with_reducible refine Keep.drew ?_)))⟩
      · have CF := fun w => Lib.hid (refFit_any w r.to)
        rw [decide_eq_false hto] at CF
        go_wp2_with fail
        refine (CF _).out.mono ?_
        rintro e w3 ⟨rfl, hk3⟩
        have K3 := Lib.hid (HKR.out.both hk3)
        go_wp2
        go_ret
        exact ⟨rfl, K3.out⟩
end Go.Proofs.Ytihcbmkjfacooaa
