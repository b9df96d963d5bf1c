/- The law RowSame: its walk. -/
import Derived.Test.YtihcbmkjfacooaaRowFact
import Derived.Test.YtihcbmkjfacooaaRowLawC
namespace Go.Proofs.Ytihcbmkjfacooaa
open Go.ChangeShapes Go.WideShapes Go.RowKit
set_option linter.unusedVariables false
set_option linter.unusedSimpArgs false

theorem chk_of_ok {r : Rw} {n : Int} (h : RowOK r n) : chkRow r n = (0, 0) := by
  rw [chkRow_fit h.kind h.fit h.fto, if_neg (by have := h.n0; have := h.n12; omega), if_neg (by have := h.len; omega)]
theorem ptF_of_ok {r : Rw} {nums : List Fq} (h : RowOK r nums.length) (hq : ∀ g ∈ nums, FracOK g.N g.D) : ptF r nums = (0, 0) := by
  unfold ptF
  rw [chk_of_ok h, if_neg (by simp)]
  have : ∀ (l : List Fq) (i : Nat), (∀ g ∈ l, FracOK g.N g.D) → firstBad l i = (0, 0) := by
    intro l
    induction l with
    | nil => intro _ _; rfl
    | cons g l ih => intro i h; unfold firstBad; rw [if_pos (h g (by simp))]; exact ih _ fun x hx => h x (by simp [hx])
  exact this nums 0 hq

set_option maxRecDepth 100000 in
set_option maxHeartbeats 8000000 in
theorem rowSame_walk (w : World) (v : Value) (r : Rw) (vn : Value) (nums : List Fq) (h : IsRow w v r) (hn : IsFracs w vn nums) :
    Calls Try.prog 10 #[v, vn] w fun e w' => e = .returned (.bool true) ∧ Below w.heap.size w w' := by
  suffices hk : Calls Try.prog 10 #[v, vn] w fun e w' => e = .returned (.bool true) ∧ Keep NoS w w' from hk.mono fun e w' ⟨h1, h2⟩ => ⟨h1, h2.below (Nat.le_refl _) fun _ _ h => h.elim⟩
  have HR := Lib.hid h
  have HN := Lib.hid hn
  have CN := fun w' (k : Keep NoS w w') => Lib.hid (tidy_any w' v r (h.keep k))
  have CH := fun w' (k : Keep NoS w w') => Lib.hid (rowHolds_any w' v r vn nums (h.keep k) (hn.keep k))
  obtain ⟨hb, hho, hha, hhb⟩ := holdsV_form r nums
  obtain ⟨hb', hho', hha', hhb'⟩ := holdsV_form (tidyR r) nums
  obtain ⟨sv, rfl, hi, _⟩ := h
  have HI := Lib.hid hi
  obtain ⟨os, cs, rfl, _⟩ := hi.len
  obtain ⟨oa, ca, rfl, _, _⟩ := hn.len
  by_cases hc : (chkRow r 12).1 = 0
  · obtain ⟨hc0, hok⟩ := chkRow_ok hc
    have e1 : tidyS r = tidyR r ∧ tidyF r = (0, 0) := ⟨by unfold tidyS; rw [if_pos hc], hc0⟩
    have hmo := tidy_ok hok
    have e2 : tidyS (tidyR r) = tidyR r ∧ tidyF (tidyR r) = (0, 0) := ⟨by unfold tidyS; rw [chk_of_ok hmo, if_pos rfl, tidy_idem hok.kind], chk_of_ok hmo⟩
    rw [e1.1, e1.2] at CN
    unfold RetRow fV at CN
    simp only at CN
    have HE2 := Lib.hid e2
    have HM : Hid (I64 (tidyR r).kind ∧ I64 (tidyR r).to) := Lib.hid (by
      have h1 := hmo.kind
      have h2 := hmo.fto
      unfold fitI at h2
      unfold I64
      omega)
    have HPT : Hid ((ptF r nums).1 = 0 → (ptF (tidyR r) nums).1 = 0) := Lib.hid fun hp => by
      obtain ⟨_, h1, h2⟩ := ptF_ok hp
      rw [ptF_of_ok (tidy_ok h1) h2]
    have HBB : Hid (holdsB (tidyR r) nums = holdsB r nums) := Lib.hid (tidy_holds hok.kind nums)
    rw [hho] at CH
    have HHO' := Lib.hid hho'
    have HB1 := Lib.hid (And.intro hhb hhb')
    obtain ⟨p, hp⟩ : ∃ p : Int × Int, ptF r nums = p := ⟨_, rfl⟩
    obtain ⟨p', hp'⟩ : ∃ p : Int × Int, ptF (tidyR r) nums = p := ⟨_, rfl⟩
    rw [hp] at CH HB1 HPT
    rw [hp'] at HHO' HB1 HPT
    obtain ⟨p1, p2⟩ := p
    obtain ⟨q1, q2⟩ := p'
    unfold fV at CH HHO'
    simp only at CH HHO' HB1 HPT
    obtain ⟨m, hm⟩ : ∃ m, tidyR r = m := ⟨_, rfl⟩
    rw [hm] at CN HE2 HHO' HB1 HM HBB
    clear hi hn hho hha hhb hho' hha' hhb' e1 e2 hp hp' hc hc0 hok hmo hm
    go_enter Try.func10, Try.ntmps10
    go_wp2_with fail
    have B2 : Blk (w.alloc (.cells #[.slice os r.of.length cs, .int .i64 r.kind, .int .i64 r.to] 24)) w.heap.size #[.slice os r.of.length cs, .int .i64 r.kind, .int .i64 r.to] := by (repeat (first | (refine blk_at _ _ ?_; simp; done) | (refine Blk.old ?_ _)))
    have K0 : Hid (Keep NoS w (w.alloc (.cells #[.slice os r.of.length cs, .int .i64 r.kind, .int .i64 r.to] 24))) := Lib.hid (by (repeat' (first | (with_reducible assumption) | (with_reducible exact HK.out) | (with_reducible exact Keep.refl _ _) | (with_reducible refine Keep.alloc ?_ _) | (with_reducible refine Keep.setCell ?_ _ (fun h => absurd h (by omega))) | (with_reducible refine Keep.drewN ?_ _) | (with_reducible refine Keep.drew ?_))))
    have Hb2 := Lib.hid B2
    clear B2
    generalize w.alloc (.cells #[.slice os r.of.length cs, .int .i64 r.kind, .int .i64 r.to] 24) = w0 at *
    generalize hb2 : w.heap.size = b2 at Hb2 ⊢
    clear hb2
    obtain ⟨b20, b21, b22, _, _, _, b2l⟩ := Hb2.out.three
    go_wp2_with fail
    refine (rowFact_any _).mono ?_
    rintro e w1 ⟨rfl, hk⟩
    have k1 : Keep NoS w0 w1 := Keep.trans (by (repeat' (first | (with_reducible assumption) | (with_reducible exact HK.out) | (with_reducible exact Keep.refl _ _) | (with_reducible refine Keep.alloc ?_ _) | (with_reducible refine Keep.setCell ?_ _ (fun h => absurd h (by omega))) | (with_reducible refine Keep.drewN ?_ _) | (with_reducible refine Keep.drew ?_)))) hk fun _ _ _ h => h
    have K1 := Lib.hid (K0.out.both k1)
    have Hb2 := Lib.hid (Hb2.out.keep k1)
    clear b20 b21 b22 b2l hk k1
    obtain ⟨b20, b21, b22, _, _, _, b2l⟩ := Hb2.out.three
    go_wp2_with fail
    refine ((CN _ K1.out).out).mono ?_
    rintro e w2 ⟨sv, rfl, hi1, hcap1, hk⟩
    have k2 : Keep NoS w1 w2 := Keep.trans (by (repeat' (first | (with_reducible assumption) | (with_reducible exact HK.out) | (with_reducible exact Keep.refl _ _) | (with_reducible refine Keep.alloc ?_ _) | (with_reducible refine Keep.setCell ?_ _ (fun h => absurd h (by omega))) | (with_reducible refine Keep.drewN ?_ _) | (with_reducible refine Keep.drew ?_)))) hk fun _ _ _ h => h
    have K2 := Lib.hid (K1.out.both k2)
    have Hb2 := Lib.hid (Hb2.out.keep k2)
    have HI1 := Lib.hid hi1
    have HCP := Lib.hid hcap1
    obtain ⟨o1, c1, rfl, _⟩ := hi1.len
    clear b20 b21 b22 b2l hk k2 hi1 CN hcap1
    have CM := fun w' (k : Keep NoS w2 w') => Lib.hid (tidy_any w' _ m ⟨_, rfl, HI1.out.keep k, HM.out.1, HM.out.2, HCP.out⟩)
    rw [HE2.out.1, HE2.out.2] at CM
    unfold RetRow fV at CM
    simp only at CM
    obtain ⟨b20, b21, b22, _, _, _, b2l⟩ := Hb2.out.three
    have b2n0 : ¬ b2 = w2.heap.size := by omega
    have b2n1 : ¬ b2 = w2.heap.size + 1 := by omega
    go_wp2_with fail
    refine ((CM _ (by (repeat' (first | (with_reducible assumption) | (with_reducible exact HK.out) | (with_reducible exact Keep.refl _ _) | (with_reducible refine Keep.alloc ?_ _) | (with_reducible refine Keep.setCell ?_ _ (fun h => absurd h (by omega))) | (with_reducible refine Keep.drewN ?_ _) | (with_reducible refine Keep.drew ?_))))).out).mono ?_
    rintro e w3 ⟨sv, rfl, hi2, _, hk⟩
    have Bb6 : Blk w3 (w2.heap.size) #[.slice o1 m.of.length c1, .int .i64 m.kind, .int .i64 m.to] := Blk.keep (by (repeat (first | (with_reducible assumption) | (refine blk_at _ _ ?_; simp; done) | (refine Blk.old ?_ _)))) hk
    have Bb7 : Blk w3 (w2.heap.size + 1) #[.int .i64 0, .int .i64 0] := Blk.keep (by (repeat (first | (with_reducible assumption) | (refine blk_at _ _ ?_; simp; done) | (refine Blk.old ?_ _)))) hk
    have k3 : Keep NoS w2 w3 := Keep.trans (by (repeat' (first | (with_reducible assumption) | (with_reducible exact HK.out) | (with_reducible exact Keep.refl _ _) | (with_reducible refine Keep.alloc ?_ _) | (with_reducible refine Keep.setCell ?_ _ (fun h => absurd h (by omega))) | (with_reducible refine Keep.drewN ?_ _) | (with_reducible refine Keep.drew ?_)))) hk fun _ _ _ h => h
    have K3 := Lib.hid (K2.out.both k3)
    have Hb2 := Lib.hid (Hb2.out.keep k3)
    have Hb6 := Lib.hid Bb6
    have Hb7 := Lib.hid Bb7
    have HI1 := Lib.hid (HI1.out.keep k3)
    have HI2 := Lib.hid hi2
    obtain ⟨o2, c2, rfl, _⟩ := hi2.len
    clear b20 b21 b22 b2l b2n0 b2n1 hk Bb6 Bb7 k3 hi2 CM
    generalize w2.heap.size + 1 = b7 at *
    generalize w2.heap.size = b6 at *
    obtain ⟨b20, b21, b22, _, _, _, b2l⟩ := Hb2.out.three
    obtain ⟨b60, b61, b62, _, _, _, b6l⟩ := Hb6.out.three
    obtain ⟨b70, b71, _, _, b7l⟩ := Hb7.out.two
    have b2n0 : ¬ b2 = w3.heap.size := by omega
    have b2n1 : ¬ b2 = w3.heap.size + 1 := by omega
    have b6n0 : ¬ b6 = w3.heap.size := by omega
    have b6n1 : ¬ b6 = w3.heap.size + 1 := by omega
    have b7n0 : ¬ b7 = w3.heap.size := by omega
    have b7n1 : ¬ b7 = w3.heap.size + 1 := by omega
    go_wp2_with fail
    refine ((sameRow_row _ _ _ m m _ _ rfl rfl (HI1.out.keep (by (repeat' (first | (with_reducible assumption) | (with_reducible exact HK.out) | (with_reducible exact Keep.refl _ _) | (with_reducible refine Keep.alloc ?_ _) | (with_reducible refine Keep.setCell ?_ _ (fun h => absurd h (by omega))) | (with_reducible refine Keep.drewN ?_ _) | (with_reducible refine Keep.drew ?_))))) (HI2.out.keep (by (repeat' (first | (with_reducible assumption) | (with_reducible exact HK.out) | (with_reducible exact Keep.refl _ _) | (with_reducible refine Keep.alloc ?_ _) | (with_reducible refine Keep.setCell ?_ _ (fun h => absurd h (by omega))) | (with_reducible refine Keep.drewN ?_ _) | (with_reducible refine Keep.drew ?_))))) rfl)).mono ?_
    rintro e w4 ⟨rfl, hk⟩
    have Bb8 : Blk w4 (w3.heap.size) #[.slice o2 m.of.length c2, .int .i64 m.kind, .int .i64 m.to] := Blk.keep (by (repeat (first | (with_reducible assumption) | (refine blk_at _ _ ?_; simp; done) | (refine Blk.old ?_ _)))) hk
    have Bb9 : Blk w4 (w3.heap.size + 1) #[.int .i64 0, .int .i64 0] := Blk.keep (by (repeat (first | (with_reducible assumption) | (refine blk_at _ _ ?_; simp; done) | (refine Blk.old ?_ _)))) hk
    have k4 : Keep NoS w3 w4 := Keep.trans (by (repeat' (first | (with_reducible assumption) | (with_reducible exact HK.out) | (with_reducible exact Keep.refl _ _) | (with_reducible refine Keep.alloc ?_ _) | (with_reducible refine Keep.setCell ?_ _ (fun h => absurd h (by omega))) | (with_reducible refine Keep.drewN ?_ _) | (with_reducible refine Keep.drew ?_)))) hk fun _ _ _ h => h
    have K4 := Lib.hid (K3.out.both k4)
    have Hb2 := Lib.hid (Hb2.out.keep k4)
    have Hb6 := Lib.hid (Hb6.out.keep k4)
    have Hb7 := Lib.hid (Hb7.out.keep k4)
    have Hb8 := Lib.hid Bb8
    have Hb9 := Lib.hid Bb9
    have HI1 := Lib.hid (HI1.out.keep k4)
    clear b20 b21 b22 b2l b60 b61 b62 b6l b70 b71 b7l b2n0 b2n1 b6n0 b6n1 b7n0 b7n1 hk Bb8 Bb9 k4 HI2
    generalize w3.heap.size + 1 = b9 at *
    generalize w3.heap.size = b8 at *
    obtain ⟨b20, b21, b22, _, _, _, b2l⟩ := Hb2.out.three
    obtain ⟨b60, b61, b62, _, _, _, b6l⟩ := Hb6.out.three
    obtain ⟨b70, b71, _, _, b7l⟩ := Hb7.out.two
    obtain ⟨b80, b81, b82, _, _, _, b8l⟩ := Hb8.out.three
    obtain ⟨b90, b91, _, _, b9l⟩ := Hb9.out.two
    go_wp2_with fail
    refine ((CH _ K4.out).out).mono ?_
    rintro e w5 ⟨rfl, hk⟩
    have k5 : Keep NoS w4 w5 := Keep.trans (by (repeat' (first | (with_reducible assumption) | (with_reducible exact HK.out) | (with_reducible exact Keep.refl _ _) | (with_reducible refine Keep.alloc ?_ _) | (with_reducible refine Keep.setCell ?_ _ (fun h => absurd h (by omega))) | (with_reducible refine Keep.drewN ?_ _) | (with_reducible refine Keep.drew ?_)))) hk fun _ _ _ h => h
    have K5 := Lib.hid (K4.out.both k5)
    have Hb2 := Lib.hid (Hb2.out.keep k5)
    have Hb6 := Lib.hid (Hb6.out.keep k5)
    have Hb7 := Lib.hid (Hb7.out.keep k5)
    have Hb8 := Lib.hid (Hb8.out.keep k5)
    have Hb9 := Lib.hid (Hb9.out.keep k5)
    have HI1 := Lib.hid (HI1.out.keep k5)
    clear b20 b21 b22 b2l b60 b61 b62 b6l b70 b71 b7l b80 b81 b82 b8l b90 b91 b9l hk k5 CH
    have CHM := fun w' (k : Keep NoS w5 w') (k0 : Keep NoS w w') => Lib.hid (rowHolds_any w' _ m _ nums ⟨_, rfl, HI1.out.keep k, HM.out.1, HM.out.2, HCP.out⟩ (HN.out.keep k0))
    rw [HHO'.out] at CHM
    obtain ⟨b20, b21, b22, _, _, _, b2l⟩ := Hb2.out.three
    obtain ⟨b60, b61, b62, _, _, _, b6l⟩ := Hb6.out.three
    obtain ⟨b70, b71, _, _, b7l⟩ := Hb7.out.two
    obtain ⟨b80, b81, b82, _, _, _, b8l⟩ := Hb8.out.three
    obtain ⟨b90, b91, _, _, b9l⟩ := Hb9.out.two
    have b2n0 : ¬ b2 = w5.heap.size := by omega
    have b6n0 : ¬ b6 = w5.heap.size := by omega
    have b7n0 : ¬ b7 = w5.heap.size := by omega
    have b8n0 : ¬ b8 = w5.heap.size := by omega
    have b9n0 : ¬ b9 = w5.heap.size := by omega
    go_wp2_with fail
    refine ((CHM _ (by (repeat' (first | (with_reducible assumption) | (with_reducible exact HK.out) | (with_reducible exact Keep.refl _ _) | (with_reducible refine Keep.alloc ?_ _) | (with_reducible refine Keep.setCell ?_ _ (fun h => absurd h (by omega))) | (with_reducible refine Keep.drewN ?_ _) | (with_reducible refine Keep.drew ?_)))) (K5.out.alloc _)).out).mono ?_
    rintro e w6 ⟨rfl, hk⟩
    have Bb11 : Blk w6 (w5.heap.size) #[.int .i64 p1, .int .i64 p2] := Blk.keep (by (repeat (first | (with_reducible assumption) | (refine blk_at _ _ ?_; simp; done) | (refine Blk.old ?_ _)))) hk
    have k6 : Keep NoS w5 w6 := Keep.trans (by (repeat' (first | (with_reducible assumption) | (with_reducible exact HK.out) | (with_reducible exact Keep.refl _ _) | (with_reducible refine Keep.alloc ?_ _) | (with_reducible refine Keep.setCell ?_ _ (fun h => absurd h (by omega))) | (with_reducible refine Keep.drewN ?_ _) | (with_reducible refine Keep.drew ?_)))) hk fun _ _ _ h => h
    have K6 := Lib.hid (K5.out.both k6)
    have Hb2 := Lib.hid (Hb2.out.keep k6)
    have Hb6 := Lib.hid (Hb6.out.keep k6)
    have Hb7 := Lib.hid (Hb7.out.keep k6)
    have Hb8 := Lib.hid (Hb8.out.keep k6)
    have Hb9 := Lib.hid (Hb9.out.keep k6)
    have Hb11 := Lib.hid Bb11
    clear b20 b21 b22 b2l b60 b61 b62 b6l b70 b71 b7l b80 b81 b82 b8l b90 b91 b9l b2n0 b6n0 b7n0 b8n0 b9n0 hk Bb11 k6 CHM
    generalize w5.heap.size = b11 at *
    obtain ⟨b110, b111, _, _, b11l⟩ := Hb11.out.two
    have b11n : ¬ b11 = w6.heap.size := by omega
    by_cases hz : p1 = 0
    · have h1 := HB1.out.1 hz
      have hq := HPT.out hz
      have h2 := HB1.out.2 hq
      rw [HBB.out, ← h1] at h2
      subst h2
      have e1 : (p1 != 0) = false := by rw [bne_eq_false_iff_eq]; exact hz
      have e2 : (q1 == 0) = true := by rw [beq_iff_eq]; exact hq
      clear h1 HB1 HBB HPT
      go_wp2
      go_ret
      have HK := K6
      exact ⟨by simp, by (repeat' (first | (with_reducible assumption) | (with_reducible exact HK.out) | (with_reducible exact Keep.refl _ _) | (with_reducible refine Keep.alloc ?_ _) | (with_reducible refine Keep.setCell ?_ _ (fun h => absurd h (by omega))) | (with_reducible refine Keep.drewN ?_ _) | (with_reducible refine Keep.drew ?_)))⟩
    · have e1 : (p1 != 0) = true := by rw [bne_iff_ne]; exact hz
      go_wp2
      go_ret
      have HK := K6
      exact ⟨rfl, by (repeat' (first | (with_reducible assumption) | (with_reducible exact HK.out) | (with_reducible exact Keep.refl _ _) | (with_reducible refine Keep.alloc ?_ _) | (with_reducible refine Keep.setCell ?_ _ (fun h => absurd h (by omega))) | (with_reducible refine Keep.drewN ?_ _) | (with_reducible refine Keep.drew ?_)))⟩
  · have e1 : tidyS r = nilRw ∧ tidyF r = chkRow r 12 := ⟨by unfold tidyS; rw [if_neg hc], rfl⟩
    rw [e1.1, e1.2] at CN
    generalize chkRow r 12 = cc at *
    obtain ⟨c1, c2⟩ := cc
    simp only at hc
    unfold RetRow fV nilRw at CN
    simp only at CN
    have e2 : (c1 != 0) = true := by rw [bne_iff_ne]; exact hc
    clear hi hn hho hha hhb hho' hha' hhb' e1 hc
    go_enter Try.func10, Try.ntmps10
    go_wp2_with fail
    have B2 : Blk (w.alloc (.cells #[.slice os r.of.length cs, .int .i64 r.kind, .int .i64 r.to] 24)) w.heap.size #[.slice os r.of.length cs, .int .i64 r.kind, .int .i64 r.to] := by (repeat (first | (refine blk_at _ _ ?_; simp; done) | (refine Blk.old ?_ _)))
    have K0 : Hid (Keep NoS w (w.alloc (.cells #[.slice os r.of.length cs, .int .i64 r.kind, .int .i64 r.to] 24))) := Lib.hid (by (repeat' (first | (with_reducible assumption) | (with_reducible exact HK.out) | (with_reducible exact Keep.refl _ _) | (with_reducible refine Keep.alloc ?_ _) | (with_reducible refine Keep.setCell ?_ _ (fun h => absurd h (by omega))) | (with_reducible refine Keep.drewN ?_ _) | (with_reducible refine Keep.drew ?_))))
    have Hb2 := Lib.hid B2
    clear B2
    generalize w.alloc (.cells #[.slice os r.of.length cs, .int .i64 r.kind, .int .i64 r.to] 24) = w0 at *
    generalize hb2 : w.heap.size = b2 at Hb2 ⊢
    clear hb2
    obtain ⟨b20, b21, b22, _, _, _, b2l⟩ := Hb2.out.three
    go_wp2_with fail
    refine (rowFact_any _).mono ?_
    rintro e w1 ⟨rfl, hk⟩
    have k1 : Keep NoS w0 w1 := Keep.trans (by (repeat' (first | (with_reducible assumption) | (with_reducible exact HK.out) | (with_reducible exact Keep.refl _ _) | (with_reducible refine Keep.alloc ?_ _) | (with_reducible refine Keep.setCell ?_ _ (fun h => absurd h (by omega))) | (with_reducible refine Keep.drewN ?_ _) | (with_reducible refine Keep.drew ?_)))) hk fun _ _ _ h => h
    have K1 := Lib.hid (K0.out.both k1)
    have Hb2 := Lib.hid (Hb2.out.keep k1)
    clear b20 b21 b22 b2l hk k1
    obtain ⟨b20, b21, b22, _, _, _, b2l⟩ := Hb2.out.three
    go_wp2_with fail
    refine ((CN _ K1.out).out).mono ?_
    rintro e w2 ⟨sv, rfl, hi1, _, hk⟩
    have k2 : Keep NoS w1 w2 := Keep.trans (by (repeat' (first | (with_reducible assumption) | (with_reducible exact HK.out) | (with_reducible exact Keep.refl _ _) | (with_reducible refine Keep.alloc ?_ _) | (with_reducible refine Keep.setCell ?_ _ (fun h => absurd h (by omega))) | (with_reducible refine Keep.drewN ?_ _) | (with_reducible refine Keep.drew ?_)))) hk fun _ _ _ h => h
    have K2 := Lib.hid (K1.out.both k2)
    have Hb2 := Lib.hid (Hb2.out.keep k2)
    have HI1 := Lib.hid hi1
    obtain ⟨o1, c1', rfl, _⟩ := hi1.len
    clear b20 b21 b22 b2l hk k2 hi1 CN
    obtain ⟨b20, b21, b22, _, _, _, b2l⟩ := Hb2.out.three
    have b2n0 : ¬ b2 = w2.heap.size := by omega
    have b2n1 : ¬ b2 = w2.heap.size + 1 := by omega
    go_wp2_with fail
    refine ((sameRow_row _ _ _ nilRw nilRw _ _ rfl rfl (HI1.out.keep (by (repeat' (first | (with_reducible assumption) | (with_reducible exact HK.out) | (with_reducible exact Keep.refl _ _) | (with_reducible refine Keep.alloc ?_ _) | (with_reducible refine Keep.setCell ?_ _ (fun h => absurd h (by omega))) | (with_reducible refine Keep.drewN ?_ _) | (with_reducible refine Keep.drew ?_))))) ⟨none, 0, rfl, by simp [nilRw], by simp [nilRw], fun h => absurd rfl h⟩ rfl)).mono ?_
    rintro e w3 ⟨rfl, hk⟩
    have Bb6 : Blk w3 (w2.heap.size) #[.slice o1 0 c1', .int .i64 0, .int .i64 0] := Blk.keep (by (repeat (first | (with_reducible assumption) | (refine blk_at _ _ ?_; simp; done) | (refine Blk.old ?_ _)))) hk
    have Bb7 : Blk w3 (w2.heap.size + 1) #[.int .i64 c1, .int .i64 c2] := Blk.keep (by (repeat (first | (with_reducible assumption) | (refine blk_at _ _ ?_; simp; done) | (refine Blk.old ?_ _)))) hk
    have k3 : Keep NoS w2 w3 := Keep.trans (by (repeat' (first | (with_reducible assumption) | (with_reducible exact HK.out) | (with_reducible exact Keep.refl _ _) | (with_reducible refine Keep.alloc ?_ _) | (with_reducible refine Keep.setCell ?_ _ (fun h => absurd h (by omega))) | (with_reducible refine Keep.drewN ?_ _) | (with_reducible refine Keep.drew ?_)))) hk fun _ _ _ h => h
    have K3 := Lib.hid (K2.out.both k3)
    have Hb2 := Lib.hid (Hb2.out.keep k3)
    have Hb6 := Lib.hid Bb6
    have Hb7 := Lib.hid Bb7
    clear b20 b21 b22 b2l b2n0 b2n1 hk Bb6 Bb7 k3
    generalize w2.heap.size + 1 = b7 at *
    generalize w2.heap.size = b6 at *
    go_wp2
    go_ret
    exact ⟨rfl, K3.out⟩
end Go.Proofs.Ytihcbmkjfacooaa
