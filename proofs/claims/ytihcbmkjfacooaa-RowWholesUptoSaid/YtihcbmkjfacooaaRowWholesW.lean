/- The law RowWholes: its walk (for a point of at most 1048576 numbers). -/
import Derived.Test.YtihcbmkjfacooaaRowFact
import Derived.Test.YtihcbmkjfacooaaRowLawG
import Derived.Test.YtihcbmkjfacooaaRefFits
import Derived.Test.YtihcbmkjfacooaaOwnG
import Derived.Test.YtihcbmkjfacooaaOkOf
namespace Go.Proofs.Ytihcbmkjfacooaa
open Go.ChangeShapes Go.WideShapes Go.RowKit
set_option linter.unusedVariables false
set_option linter.unusedSimpArgs false

theorem emptyTo_fit (k t : Int) : fitI (emptyTo k t) := by
  unfold emptyTo fitI
  split
  · split <;> omega
  · split
    · split <;> omega
    · split <;> omega
theorem whole_ok {r : Rw} {n : Int} (h : RowOK r n) (hc : (wholeS r).2.1 = 0) : RowOK (wholeS r).1 n := by
  have h12 : (chkRow r 12).1 = 0 := by rw [okRow_of ⟨by omega, by omega, h.kind, by have := h.len; have := h.n12; omega, h.fit, h.fto⟩]
  have hkk := wholeK_kind h.kind
  unfold wholeS at hc ⊢
  rw [if_pos h12] at hc ⊢
  by_cases hb : bareL r.of = []
  · rw [if_pos hb]
    exact ⟨h.n0, h.n12, by show wholeK r = 1 ∨ wholeK r = 2 ∨ wholeK r = 3; omega, by have := h.n0; simpa using this, by simp, emptyTo_fit _ _⟩
  · rw [if_neg hb] at hc ⊢
    have hg := wholeG_pos hb
    unfold wholeP at hc ⊢
    by_cases h3 : wholeK r = 3 ∧ (wholeT r).tmod (wholeG r) ≠ 0
    · rw [if_pos h3]
      exact ⟨h.n0, h.n12, .inr (.inr rfl), by have := h.n0; simpa using this, by simp, by show fitI 1; unfold fitI; omega⟩
    · rw [if_neg h3] at hc ⊢
      by_cases hm : wholeT r / (wholeG r : Int) < -1000000
      · rw [if_pos hm] at hc; simp at hc
      · rw [if_neg hm]
        have hbl : (bareL r.of).length ≤ r.of.length := by unfold bareL; rw [List.length_take]; omega
        refine ⟨h.n0, h.n12, by show wholeK r = 1 ∨ wholeK r = 2 ∨ wholeK r = 3; omega, ?_, fun y hy => ?_, ?_⟩
        · show ((turnOf (wholeK r) ((bareL r.of).map fun x => x.tdiv (wholeG r))).length : Int) ≤ n
          rw [turnOf_len, List.length_map]
          have := h.len
          omega
        · obtain ⟨x, hx, e⟩ := turnOf_mem hy
          obtain ⟨z, hz, rfl⟩ := List.mem_map.1 hx
          have h1 := h.fit z (List.mem_of_mem_take hz)
          have h2 := abs_tdiv_le z (wholeG r)
          unfold fitI at h1 ⊢
          omega
        · show fitI (turnTo (wholeK r) ((bareL r.of).map fun x => x.tdiv (wholeG r)) (wholeT r / (wholeG r : Int)))
          have h1 := turnTo_abs (wholeK r) ((bareL r.of).map fun x => x.tdiv (wholeG r)) (wholeT r / (wholeG r : Int))
          have h2 : wholeT r ≤ 1000000 := by have := h.fto; unfold fitI at this; unfold wholeT; split <;> omega
          have h3 : wholeT r / (wholeG r : Int) ≤ 1000000 := Int.ediv_le_of_le_mul (by omega) (by have : (1000000 : Int) * 1 ≤ 1000000 * (wholeG r : Int) := Int.mul_le_mul_of_nonneg_left (by omega) (by omega); omega)
          unfold fitI
          omega
theorem wholePt_take {xs : List Int} {k : Nat} (h : k < xs.length) : wholePt (xs.take (k + 1)) = wholePt (xs.take k) ++ [⟨xs[k], 1⟩] := by
  unfold wholePt
  rw [List.take_succ_eq_append_getElem h, List.map_append]; rfl
theorem wholePt_length (xs : List Int) : (wholePt xs).length = xs.length := by simp [wholePt]

set_option maxRecDepth 100000 in
set_option maxHeartbeats 16000000 in
theorem rowWholes_walk (w : World) (v : Value) (r : Rw) (vn : Value) (xs : List Int) (h : IsRow w v r) (hn : IsInts w vn xs) (hlen : xs.length ≤ 1048576) :
    Calls Try.prog 12 #[v, vn] w fun e w' => e = .returned (.bool true) ∧ Below w.heap.size w w' := by
  suffices hk : Calls Try.prog 12 #[v, vn] w fun e w' => e = .returned (.bool true) ∧ Keep NoS w w' from hk.mono fun e w' ⟨h1, h2⟩ => ⟨h1, h2.below (Nat.le_refl _) fun _ _ h => h.elim⟩
  have HR := Lib.hid h
  have HN := Lib.hid hn
  have CN := fun w' (k : Keep NoS w w') => Lib.hid (whole_all w' v r (h.keep k))
  have CH := fun w' (k : Keep NoS w w') vp (hp : IsFracs w' vp (wholePt xs)) => Lib.hid (rowHolds_any w' v r vp (wholePt xs) (h.keep k) hp)
  obtain ⟨sv, rfl, hi, _⟩ := h
  obtain ⟨os, cs, rfl, _⟩ := hi.len
  obtain ⟨oa, ca, rfl, _⟩ := hn.len
  by_cases hc : (wholeS r).2.1 = 0
  · have hck : (chkRow r 12).1 = 0 := by
      unfold wholeS at hc
      by_cases h0 : (chkRow r 12).1 = 0
      · exact h0
      · rw [if_neg h0] at hc; exact hc
    obtain ⟨_, hok⟩ := chkRow_ok hck
    obtain ⟨_, hk2, hhold⟩ := whole_holds hc (fun _ => hok.kind) xs
    have hmo := whole_ok hok hc
    have HM : Hid (I64 (wholeS r).1.kind ∧ I64 (wholeS r).1.to) := Lib.hid (by
      have h1 := hmo.kind
      have h2 := hmo.fto
      unfold fitI at h2
      unfold I64
      omega)
    have hpt : (ptF r (wholePt xs)).1 = 0 → (ptF (wholeS r).1 (wholePt xs)).1 = 0 := fun hp => by
      obtain ⟨_, h1, h2⟩ := ptF_ok hp
      rw [okPt_of (whole_ok h1 hc) h2]
    obtain ⟨x, hxo, _, hxb⟩ := holdsV_form r (wholePt xs)
    obtain ⟨y, hyo, _, hyb⟩ := holdsV_form (wholeS r).1 (wholePt xs)
    have HXY : Hid ((ptF r (wholePt xs)).1 = 0 → (ptF (wholeS r).1 (wholePt xs)).1 = 0 ∧ x = y) := Lib.hid fun hp => ⟨hpt hp, by rw [hxb hp, hyb (hpt hp), hhold]⟩
    have hf2 : (wholeS r).2 = (0, 0) := by
      unfold wholeS at hc ⊢
      rw [if_pos hck] at hc ⊢
      by_cases hb : bareL r.of = []
      · rw [if_pos hb]
      · rw [if_neg hb] at hc ⊢
        unfold wholeP at hc ⊢
        split
        · rfl
        · rename_i h3
          rw [if_neg h3] at hc
          split
          · rename_i h4
            rw [if_pos h4] at hc
            simp at hc
          · rfl
    rw [hf2] at CN
    rw [hxo] at CH
    have HYO := Lib.hid hyo
    generalize (wholeS r).1 = m at *
    generalize ptF r (wholePt xs) = p at *
    generalize ptF m (wholePt xs) = q at *
    obtain ⟨p1, p2⟩ := p
    obtain ⟨q1, q2⟩ := q
    unfold RetRow fV at CN
    unfold fV at CH HYO
    simp only at CN CH HYO HXY
    have e9 : (m.kind != 2) = true := by rw [bne_iff_ne]; exact hk2
    clear hi hn hck hok hk2 hhold hmo hpt hxo hxb hyo hyb hf2 hc
    go_enter Try.func12, Try.ntmps12
    go_wp2_with fail
    have B2 : Blk (w.alloc (.cells #[.slice os r.of.length cs, .int .i64 r.kind, .int .i64 r.to] 24)) w.heap.size #[.slice os r.of.length cs, .int .i64 r.kind, .int .i64 r.to] := by (repeat (first | (refine blk_at _ _ ?_; simp; done) | (refine Blk.old ?_ _)))
    have K0 : Hid (Keep NoS w (w.alloc (.cells #[.slice os r.of.length cs, .int .i64 r.kind, .int .i64 r.to] 24))) := Lib.hid (by (repeat' (first | (with_reducible assumption) | (with_reducible exact HK.out) | (with_reducible exact Keep.refl _ _) | (with_reducible refine Keep.alloc ?_ _) | (with_reducible refine Keep.setCell ?_ _ (fun h => absurd h (by omega))) | (with_reducible refine Keep.drewN ?_ _) | (with_reducible refine Keep.drew ?_))))
    have Hb2 := Lib.hid B2
    clear B2
    generalize w.alloc (.cells #[.slice os r.of.length cs, .int .i64 r.kind, .int .i64 r.to] 24) = w0 at *
    generalize hb2 : w.heap.size = b2 at Hb2 ⊢
    clear hb2
    obtain ⟨b20, b21, b22, _, _, _, b2l⟩ := Hb2.out.three
    go_wp2_with fail
    refine (rowFact_any _).mono ?_
    rintro e w1 ⟨rfl, hk⟩
    have k1 : Keep NoS w0 w1 := Keep.trans (by (repeat' (first | (with_reducible assumption) | (with_reducible exact HK.out) | (with_reducible exact Keep.refl _ _) | (with_reducible refine Keep.alloc ?_ _) | (with_reducible refine Keep.setCell ?_ _ (fun h => absurd h (by omega))) | (with_reducible refine Keep.drewN ?_ _) | (with_reducible refine Keep.drew ?_)))) hk fun _ _ _ h => h
    have K1 := Lib.hid (K0.out.both k1)
    have Hb2 := Lib.hid (Hb2.out.keep k1)
    clear b20 b21 b22 b2l hk k1
    obtain ⟨b20, b21, b22, _, _, _, b2l⟩ := Hb2.out.three
    go_wp2_with fail
    refine ((CN _ K1.out).out).mono ?_
    rintro e w2 ⟨sv, rfl, hi1, hcap1, hk⟩
    have k2 : Keep NoS w1 w2 := Keep.trans (by (repeat' (first | (with_reducible assumption) | (with_reducible exact HK.out) | (with_reducible exact Keep.refl _ _) | (with_reducible refine Keep.alloc ?_ _) | (with_reducible refine Keep.setCell ?_ _ (fun h => absurd h (by omega))) | (with_reducible refine Keep.drewN ?_ _) | (with_reducible refine Keep.drew ?_)))) hk fun _ _ _ h => h
    have K2 := Lib.hid (K1.out.both k2)
    have Hb2 := Lib.hid (Hb2.out.keep k2)
    have HI1 := Lib.hid hi1
    have HCP := Lib.hid hcap1
    obtain ⟨o1, c1, rfl, _⟩ := hi1.len
    clear b20 b21 b22 b2l hk k2 hi1 CN hcap1
    obtain ⟨b20, b21, b22, _, _, _, b2l⟩ := Hb2.out.three
    have n2 : ¬ b2 = w2.heap.size := by omega
    have n2' : ¬ b2 = w2.heap.size + 1 := by omega
    have HK := K2
    have K4 : Hid (Keep NoS w ((w2.alloc (.cells #[.slice o1 m.of.length c1, .int .i64 m.kind, .int .i64 m.to] 24)).alloc (.cells #[.int .i64 0, .int .i64 0] 26))) := Lib.hid (by (repeat' (first | (with_reducible assumption) | (with_reducible exact HK.out) | (with_reducible exact Keep.refl _ _) | (with_reducible refine Keep.alloc ?_ _) | (with_reducible refine Keep.setCell ?_ _ (fun h => absurd h (by omega))) | (with_reducible refine Keep.drewN ?_ _) | (with_reducible refine Keep.drew ?_))))
    have HB6 : Hid (Blk ((w2.alloc (.cells #[.slice o1 m.of.length c1, .int .i64 m.kind, .int .i64 m.to] 24)).alloc (.cells #[.int .i64 0, .int .i64 0] 26)) w2.heap.size #[.slice o1 m.of.length c1, .int .i64 m.kind, .int .i64 m.to]) := Lib.hid (by (repeat (first | (refine blk_at _ _ ?_; simp; done) | (refine Blk.old ?_ _))))
    have HB2 := Lib.hid ((Hb2.out.old (.cells #[.slice o1 m.of.length c1, .int .i64 m.kind, .int .i64 m.to] 24)).old (.cells #[.int .i64 0, .int .i64 0] 26))
    have HI4 : Hid (IsInts ((w2.alloc (.cells #[.slice o1 m.of.length c1, .int .i64 m.kind, .int .i64 m.to] 24)).alloc (.cells #[.int .i64 0, .int .i64 0] 26)) (.slice o1 m.of.length c1) m.of) := Lib.hid ((HI1.out.keep ((Keep.refl NoS _).alloc _)).keep ((Keep.refl NoS _).alloc _))
    clear HK
    go_wp2
    clear b20 b21 b22 b2l n2 n2' K2 Hb2 HI1
    generalize (w2.alloc (.cells #[.slice o1 m.of.length c1, .int .i64 m.kind, .int .i64 m.to] 24)).alloc (.cells #[.int .i64 0, .int .i64 0] 26) = w4 at *
    generalize w2.heap.size = b6 at *
    go_loopw [8, 9] (fun s z wr => ∃ j : Nat, j ≤ xs.length ∧ z = .int .i64 j ∧ Keep NoS w4 wr ∧ OwnF wr w4.heap.size s (wholePt (xs.take j)) ∧ (∀ x ∈ xs.take j, fitI x)) (fun _ s _ => (xs.length - intOf s).toNat)
    case atStart => exact ⟨0, by omega, rfl, Keep.refl _ _, OwnG.nil _ _, by simp⟩
    case round =>
      obtain ⟨j, hj, rfl, hkr, hou, hfj⟩ := hrel
      have HKR := Lib.hid hkr
      have HOU := Lib.hid hou
      have HFJ := Lib.hid hfj
      have hlj : (wholePt (xs.take j)).length = j := by rw [wholePt_length, List.length_take]; omega
      have HLJ := Lib.hid hlj
      obtain ⟨ou, cu, hu, _⟩ := hou.len
      rw [hlj] at hu
      subst hu
      clear hkr hou hfj hlj
      by_cases hjl : j < xs.length
      case pos =>
        have hlt : (j : Int) < (xs.length : Int) := by omega
        obtain ⟨b, o, cp, hsl, hbl, hx⟩ := (HN.out.keep K4.out).at hjl
        simp at hsl
        obtain ⟨rfl, rfl⟩ := hsl
        have HX := Lib.hid (And.intro hbl hx)
        have hbr := Nat.lt_of_lt_of_le hbl HKR.out.size
        have hx := (HKR.out.cell hbl).trans hx
        have HTK := Lib.hid (wholePt_take hjl)
        have HFT : Hid (fitI xs[j] → ∀ x ∈ xs.take (j + 1), fitI x) := Lib.hid (by
          intro hf x hx
          rw [List.take_succ_eq_append_getElem hjl] at hx
          rcases List.mem_append.1 hx with h | h
          · exact HFJ.out x h
          · simp at h; rw [h]; exact hf)
        generalize xs[j] = c at *
        have CF := fun w => Lib.hid (refFit_any w c)
        by_cases hfc : fitI c
        case neg =>
          rw [decide_eq_false hfc] at CF
          go_wp2_with fail
          refine (CF _).out.mono ?_
          rintro e w5 ⟨rfl, hk5⟩
          have K5 := Lib.hid (K4.out.both (HKR.out.both hk5))
          go_wp2
          go_ret
          exact ⟨rfl, K5.out⟩
        case pos =>
          rw [decide_eq_true hfc] at CF
          have HFT := Lib.hid (HFT.out hfc)
          clear hfc
          go_wp2_with fail
          refine (CF _).out.mono ?_
          rintro e w5 ⟨rfl, hk5⟩
          have K5 := Lib.hid (HKR.out.both hk5)
          have HOU5 := Lib.hid (HOU.out.keep hk5)
          have k6 : Keep NoS w5 (w5.alloc (.cells #[.int .i64 c, .int .i64 1] TF)) := (Keep.refl _ _).alloc _
          obtain ⟨v7, w7, hr7, ho7, hg7, _⟩ := app_frac (g := ⟨c, 1⟩) (HOU5.out.keep k6) (blk_at _ _ rfl) (by rw [HLJ.out]; omega) (Nat.le_trans K5.out.size k6.size)
          have K7 := Lib.hid ((K5.out.both k6).grown hg7 fun k hk => HOU5.out.block k hk)
          rw [← HTK.out] at ho7
          have HO7 := Lib.hid ho7
          obtain ⟨og', cg', hu', _⟩ := ho7.len
          rw [wholePt_length, List.length_take, Nat.min_eq_left (by omega)] at hu'
          subst hu'
          have hx5 := (K5.out.cell HX.out.1).trans HX.out.2
          have hb5 := Nat.lt_of_lt_of_le HX.out.1 K5.out.size
          clear k6 ho7 hg7 hk5 hx CF
          go_wp2_with (at_builtin; refine wpList_app_run _ _ 39 _ _ rfl rfl rfl rfl hr7 ?_)
          go_roundw
          case rel => exact ⟨j + 1, by omega, by go_num, K7.out, HO7.out, HFT.out⟩
          case measure => simp [intOf]; omega
      case neg =>
        have hlt : ¬ (j : Int) < (xs.length : Int) := by omega
        obtain rfl : j = xs.length := by omega
        have hou := HOU.out
        have hfj := HFJ.out
        rw [List.take_length] at hou hfj
        have hi64 : ∀ g ∈ wholePt xs, I64 g.N ∧ I64 g.D := fun g hg => by
          obtain ⟨x, hx, rfl⟩ := List.mem_map.1 hg
          have := hfj x hx
          unfold fitI at this
          show I64 x ∧ I64 1
          unfold I64
          omega
        have HIF := Lib.hid (OwnG.fracs hou hi64)
        have HI5 := Lib.hid (HI4.out.keep HKR.out)
        have Hb2 := Lib.hid (HB2.out.keep HKR.out)
        have Hb6 := Lib.hid (HB6.out.keep HKR.out)
        have K5 := Lib.hid (K4.out.both HKR.out)
        have CH := fun w' (k : Keep NoS w w') (k' : Keep NoS wr w') => CH w' k _ (HIF.out.keep k')
        have CM := fun w' (k' : Keep NoS wr w') => Lib.hid (rowHolds_any w' _ m _ (wholePt xs) ⟨_, rfl, HI5.out.keep k', HM.out.1, HM.out.2, HCP.out⟩ (HIF.out.keep k'))
        rw [HYO.out] at CM
        clear hou hfj hi64 HOU HFJ HI4 HB2 HB6 K4 HN HR
        obtain ⟨b20, b21, b22, _, _, _, b2l⟩ := Hb2.out.three
        obtain ⟨b60, b61, b62, _, _, _, b6l⟩ := Hb6.out.three
        go_wp2_with fail
        refine ((CH _ K5.out (Keep.refl _ _)).out).mono ?_
        rintro e w6 ⟨rfl, hk⟩
        have k6 : Keep NoS wr w6 := Keep.trans (by (repeat' (first | (with_reducible assumption) | (with_reducible exact HK.out) | (with_reducible exact Keep.refl _ _) | (with_reducible refine Keep.alloc ?_ _) | (with_reducible refine Keep.setCell ?_ _ (fun h => absurd h (by omega))) | (with_reducible refine Keep.drewN ?_ _) | (with_reducible refine Keep.drew ?_)))) hk fun _ _ _ h => h
        have K6 := Lib.hid (K5.out.both k6)
        have Hb2 := Lib.hid (Hb2.out.keep k6)
        have Hb6 := Lib.hid (Hb6.out.keep k6)
        have KR6 := Lib.hid k6
        clear b20 b21 b22 b2l b60 b61 b62 b6l hk k6 CH
        obtain ⟨b20, b21, b22, _, _, _, b2l⟩ := Hb2.out.three
        obtain ⟨b60, b61, b62, _, _, _, b6l⟩ := Hb6.out.three
        have b2n0 : ¬ b2 = w6.heap.size := by omega
        have b6n0 : ¬ b6 = w6.heap.size := by omega
        go_wp2_with fail
        refine ((CM _ (KR6.out.alloc _)).out).mono ?_
        rintro e w7 ⟨rfl, hk⟩
        have Bb11 : Blk w7 (w6.heap.size) #[.int .i64 p1, .int .i64 p2] := Blk.keep (by (repeat (first | (with_reducible assumption) | (refine blk_at _ _ ?_; simp; done) | (refine Blk.old ?_ _)))) hk
        have k7 : Keep NoS w6 w7 := Keep.trans (by (repeat' (first | (with_reducible assumption) | (with_reducible exact HK.out) | (with_reducible exact Keep.refl _ _) | (with_reducible refine Keep.alloc ?_ _) | (with_reducible refine Keep.setCell ?_ _ (fun h => absurd h (by omega))) | (with_reducible refine Keep.drewN ?_ _) | (with_reducible refine Keep.drew ?_)))) hk fun _ _ _ h => h
        have K7 := Lib.hid (K6.out.both k7)
        have Hb2 := Lib.hid (Hb2.out.keep k7)
        have Hb6 := Lib.hid (Hb6.out.keep k7)
        have Hb11 := Lib.hid Bb11
        clear b20 b21 b22 b2l b60 b61 b62 b6l b2n0 b6n0 hk Bb11 k7 CM KR6
        generalize w6.heap.size = b11 at *
        obtain ⟨b60, b61, b62, _, _, _, b6l⟩ := Hb6.out.three
        obtain ⟨b110, b111, _, _, b11l⟩ := Hb11.out.two
        have b11n : ¬ b11 = w7.heap.size := by omega
        have b6n : ¬ b6 = w7.heap.size := by omega
        have HK := K7
        by_cases hz : p1 = 0
        · obtain ⟨hq, rfl⟩ := HXY.out hz
          have e1 : (p1 != 0) = false := by rw [bne_eq_false_iff_eq]; exact hz
          have e2 : (q1 == 0) = true := by rw [beq_iff_eq]; exact hq
          cases x
          · go_wp2
            go_ret
            exact ⟨rfl, by (repeat' (first | (with_reducible assumption) | (with_reducible exact HK.out) | (with_reducible exact Keep.refl _ _) | (with_reducible refine Keep.alloc ?_ _) | (with_reducible refine Keep.setCell ?_ _ (fun h => absurd h (by omega))) | (with_reducible refine Keep.drewN ?_ _) | (with_reducible refine Keep.drew ?_)))⟩
          · go_wp2
            go_ret
            exact ⟨rfl, by (repeat' (first | (with_reducible assumption) | (with_reducible exact HK.out) | (with_reducible exact Keep.refl _ _) | (with_reducible refine Keep.alloc ?_ _) | (with_reducible refine Keep.setCell ?_ _ (fun h => absurd h (by omega))) | (with_reducible refine Keep.drewN ?_ _) | (with_reducible refine Keep.drew ?_)))⟩
        · have e1 : (p1 != 0) = true := by rw [bne_iff_ne]; exact hz
          go_wp2
          go_ret
          exact ⟨rfl, by (repeat' (first | (with_reducible assumption) | (with_reducible exact HK.out) | (with_reducible exact Keep.refl _ _) | (with_reducible refine Keep.alloc ?_ _) | (with_reducible refine Keep.setCell ?_ _ (fun h => absurd h (by omega))) | (with_reducible refine Keep.drewN ?_ _) | (with_reducible refine Keep.drew ?_)))⟩
  · have hnil : (wholeS r).1 = nilRw := by
      unfold wholeS at hc ⊢
      by_cases h0 : (chkRow r 12).1 = 0
      · rw [if_pos h0] at hc ⊢
        by_cases hb : bareL r.of = []
        · rw [if_pos hb] at hc; simp at hc
        · rw [if_neg hb] at hc ⊢
          unfold wholeP at hc ⊢
          split
          · rename_i h3; rw [if_pos h3] at hc; simp at hc
          · rename_i h3
            rw [if_neg h3] at hc
            split
            · rfl
            · rename_i h4; rw [if_neg h4] at hc; simp at hc
      · rw [if_neg h0]
    rw [hnil] at CN
    generalize (wholeS r).2 = cc at *
    obtain ⟨c1, c2⟩ := cc
    simp only at hc
    unfold RetRow fV nilRw at CN
    simp only at CN
    have e2 : (c1 != 0) = true := by rw [bne_iff_ne]; exact hc
    clear hi hn hc hnil CH
    go_enter Try.func12, Try.ntmps12
    go_wp2_with fail
    have B2 : Blk (w.alloc (.cells #[.slice os r.of.length cs, .int .i64 r.kind, .int .i64 r.to] 24)) w.heap.size #[.slice os r.of.length cs, .int .i64 r.kind, .int .i64 r.to] := by (repeat (first | (refine blk_at _ _ ?_; simp; done) | (refine Blk.old ?_ _)))
    have K0 : Hid (Keep NoS w (w.alloc (.cells #[.slice os r.of.length cs, .int .i64 r.kind, .int .i64 r.to] 24))) := Lib.hid (by (repeat' (first | (with_reducible assumption) | (with_reducible exact HK.out) | (with_reducible exact Keep.refl _ _) | (with_reducible refine Keep.alloc ?_ _) | (with_reducible refine Keep.setCell ?_ _ (fun h => absurd h (by omega))) | (with_reducible refine Keep.drewN ?_ _) | (with_reducible refine Keep.drew ?_))))
    have Hb2 := Lib.hid B2
    clear B2
    generalize w.alloc (.cells #[.slice os r.of.length cs, .int .i64 r.kind, .int .i64 r.to] 24) = w0 at *
    generalize hb2 : w.heap.size = b2 at Hb2 ⊢
    clear hb2
    obtain ⟨b20, b21, b22, _, _, _, b2l⟩ := Hb2.out.three
    go_wp2_with fail
    refine (rowFact_any _).mono ?_
    rintro e w1 ⟨rfl, hk⟩
    have k1 : Keep NoS w0 w1 := Keep.trans (by (repeat' (first | (with_reducible assumption) | (with_reducible exact HK.out) | (with_reducible exact Keep.refl _ _) | (with_reducible refine Keep.alloc ?_ _) | (with_reducible refine Keep.setCell ?_ _ (fun h => absurd h (by omega))) | (with_reducible refine Keep.drewN ?_ _) | (with_reducible refine Keep.drew ?_)))) hk fun _ _ _ h => h
    have K1 := Lib.hid (K0.out.both k1)
    have Hb2 := Lib.hid (Hb2.out.keep k1)
    clear b20 b21 b22 b2l hk k1
    obtain ⟨b20, b21, b22, _, _, _, b2l⟩ := Hb2.out.three
    go_wp2_with fail
    refine ((CN _ K1.out).out).mono ?_
    rintro e w2 ⟨sv, rfl, hi1, _, hk⟩
    have k2 : Keep NoS w1 w2 := Keep.trans (by (repeat' (first | (with_reducible assumption) | (with_reducible exact HK.out) | (with_reducible exact Keep.refl _ _) | (with_reducible refine Keep.alloc ?_ _) | (with_reducible refine Keep.setCell ?_ _ (fun h => absurd h (by omega))) | (with_reducible refine Keep.drewN ?_ _) | (with_reducible refine Keep.drew ?_)))) hk fun _ _ _ h => h
    have K2 := Lib.hid (K1.out.both k2)
    have Hb2 := Lib.hid (Hb2.out.keep k2)
    have HI1 := Lib.hid hi1
    obtain ⟨o1, c1', rfl, _⟩ := hi1.len
    clear b20 b21 b22 b2l hk k2 hi1 CN
    obtain ⟨b20, b21, b22, _, _, _, b2l⟩ := Hb2.out.three
    have b2n0 : ¬ b2 = w2.heap.size := by omega
    have b2n1 : ¬ b2 = w2.heap.size + 1 := by omega
    go_wp2_with fail
    refine ((sameRow_row _ _ _ nilRw nilRw _ _ rfl rfl (HI1.out.keep (by (repeat' (first | (with_reducible assumption) | (with_reducible exact HK.out) | (with_reducible exact Keep.refl _ _) | (with_reducible refine Keep.alloc ?_ _) | (with_reducible refine Keep.setCell ?_ _ (fun h => absurd h (by omega))) | (with_reducible refine Keep.drewN ?_ _) | (with_reducible refine Keep.drew ?_))))) ⟨none, 0, rfl, by simp [nilRw], by simp [nilRw], fun h => absurd rfl h⟩ rfl)).mono ?_
    rintro e w3 ⟨rfl, hk⟩
    have Bb6 : Blk w3 (w2.heap.size) #[.slice o1 0 c1', .int .i64 0, .int .i64 0] := Blk.keep (by (repeat (first | (with_reducible assumption) | (refine blk_at _ _ ?_; simp; done) | (refine Blk.old ?_ _)))) hk
    have Bb7 : Blk w3 (w2.heap.size + 1) #[.int .i64 c1, .int .i64 c2] := Blk.keep (by (repeat (first | (with_reducible assumption) | (refine blk_at _ _ ?_; simp; done) | (refine Blk.old ?_ _)))) hk
    have k3 : Keep NoS w2 w3 := Keep.trans (by (repeat' (first | (with_reducible assumption) | (with_reducible exact HK.out) | (with_reducible exact Keep.refl _ _) | (with_reducible refine Keep.alloc ?_ _) | (with_reducible refine Keep.setCell ?_ _ (fun h => absurd h (by omega))) | (with_reducible refine Keep.drewN ?_ _) | (with_reducible refine Keep.drew ?_)))) hk fun _ _ _ h => h
    have K3 := Lib.hid (K2.out.both k3)
    have Hb2 := Lib.hid (Hb2.out.keep k3)
    have Hb6 := Lib.hid Bb6
    have Hb7 := Lib.hid Bb7
    clear b20 b21 b22 b2l b2n0 b2n1 hk Bb6 Bb7 k3
    generalize w2.heap.size + 1 = b7 at *
    generalize w2.heap.size = b6 at *
    go_wp2
    go_ret
    exact ⟨rfl, K3.out⟩
end Go.Proofs.Ytihcbmkjfacooaa
