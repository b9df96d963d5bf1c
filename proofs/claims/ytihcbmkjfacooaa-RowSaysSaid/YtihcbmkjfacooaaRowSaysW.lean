/- The law RowSays: its walk. -/
import Derived.Test.YtihcbmkjfacooaaPtAA
namespace Go.Proofs.Ytihcbmkjfacooaa
open Go.ChangeShapes Go.WideShapes Go.RowKit
set_option linter.unusedVariables false
set_option linter.unusedSimpArgs false

theorem isRow_none (w : World) : IsRow w (.agg #[.slice none 0 0, .int .i64 0, .int .i64 0]) ⟨[], 0, 0⟩ :=
  ⟨_, rfl, ⟨none, 0, rfl, by simp, by simp, fun h => absurd rfl h⟩, by show I64 0; unfold I64; omega, by show I64 0; unfold I64; omega, none, 0, 0, rfl, Nat.le_refl _⟩
theorem chk_none : chkRow ⟨[], 0, 0⟩ 0 = (4, 0) := by decide

theorem valV_form (r : Rw) (nums : List Fq) : ∃ a b c d : Int, valV r nums = .tuple #[.agg #[.int .i64 a, .int .i64 b], .agg #[.int .i64 c, .int .i64 d]] ∧
    ((ptF r nums).1 ≠ 0 → a = 0 ∧ b = 0 ∧ (c, d) = ptF r nums) ∧ ((ptF r nums).1 = 0 → fracMadeV (sumK r.of nums r.of.length) = .tuple #[.agg #[.int .i64 a, .int .i64 b], .agg #[.int .i64 c, .int .i64 d]]) := by
  unfold valV
  by_cases hc : (ptF r nums).1 = 0
  · rw [if_neg (not_not_intro hc)]
    unfold fracMadeV
    split
    · exact ⟨_, _, _, _, rfl, fun h => absurd hc h, fun _ => rfl⟩
    · exact ⟨_, _, _, _, rfl, fun h => absurd hc h, fun _ => rfl⟩
  · rw [if_pos hc]
    exact ⟨0, 0, _, _, rfl, fun _ => ⟨rfl, rfl, rfl⟩, fun h => absurd h hc⟩
theorem holdsV_form (r : Rw) (nums : List Fq) : ∃ b : Bool, holdsV r nums = .tuple #[.bool b, fV (ptF r nums)] ∧ ((ptF r nums).1 ≠ 0 → b = false) ∧ ((ptF r nums).1 = 0 → b = holdsB r nums) := by
  unfold holdsV
  by_cases hc : (ptF r nums).1 = 0
  · rw [if_neg (not_not_intro hc), (ptF_ok hc).1]
    exact ⟨_, rfl, fun h => absurd rfl h, fun _ => rfl⟩
  · rw [if_pos hc]
    exact ⟨_, rfl, fun _ => rfl, fun h => absurd h hc⟩

set_option maxRecDepth 100000 in
set_option maxHeartbeats 8000000 in
theorem rowSays_walk (w : World) (v : Value) (r : Rw) (n : Int) (vn : Value) (nums : List Fq) (h : IsRow w v r) (hn0 : I64 n) (hn : IsFracs w vn nums) :
    Calls Try.prog 8 #[v, .int .i64 n, vn] w fun e w' => e = .returned (.bool true) ∧ Below w.heap.size w w' := by
  suffices hk : Calls Try.prog 8 #[v, .int .i64 n, vn] w fun e w' => e = .returned (.bool true) ∧ Keep NoS w w' from hk.mono fun e w' ⟨h1, h2⟩ => ⟨h1, h2.below (Nat.le_refl _) fun _ _ h => h.elim⟩
  have HR := Lib.hid h
  have HN := Lib.hid hn
  have CV := fun w' (k : Keep NoS w w') => Lib.hid (rowValue_any w' v r vn nums (h.keep k) (hn.keep k))
  have CHO := fun w' (k : Keep NoS w w') => Lib.hid (rowHolds_any w' v r vn nums (h.keep k) (hn.keep k))
  have CP := fun w' (k : Keep NoS w w') => Lib.hid (refPoint_any w' v r vn nums (h.keep k) (hn.keep k))
  have CC := fun w' (k : Keep NoS w w') => Lib.hid (rowCheck_any w' v r n (h.keep k))
  have CR := fun w' (k : Keep NoS w w') => Lib.hid (refRow_any w' v r n (h.keep k))
  have C0 := fun w' => Lib.hid (rowCheck_any w' _ _ 0 (isRow_none w'))
  rw [chk_none] at C0
  obtain ⟨a, b, c, d, hval, hva, hvb⟩ := valV_form r nums
  obtain ⟨hb, hho, hha, hhb⟩ := holdsV_form r nums
  rw [hval] at CV
  rw [hho] at CHO
  have HVA := Lib.hid hva
  have HVB := Lib.hid hvb
  have HHA := Lib.hid hha
  have HHB := Lib.hid hhb
  have HOK := Lib.hid (fun hc => ptF_ok (r := r) (nums := nums) hc)
  obtain ⟨k1, k2⟩ : ∃ p : Int × Int, chkRow r n = p := ⟨_, rfl⟩
  rw [k2] at CC CR
  obtain ⟨k1, k3⟩ := k1
  obtain ⟨p, hp⟩ : ∃ p : Int × Int, ptF r nums = p := ⟨_, rfl⟩
  rw [hp] at CHO CP HVA HVB HHA HHB HOK
  obtain ⟨p1, p2⟩ := p
  unfold fV at CHO CP CC CR C0
  simp only at CHO CP CC CR C0 HVA HVB HHA HHB HOK
  obtain ⟨sv, rfl, hi, _⟩ := h
  have HI := Lib.hid hi
  obtain ⟨os, cs, rfl, _⟩ := hi.len
  obtain ⟨oa, ca, rfl, _, _⟩ := hn.len
  clear hval hva hvb hho hha hhb k2 hp hi hn
  go_enter Try.func8, Try.ntmps8
  go_wp2_with fail
  refine (CV _ (by (repeat' (first | (with_reducible assumption) | (with_reducible exact HK.out) | (with_reducible exact Keep.refl _ _) | (with_reducible refine Keep.alloc ?_ _) | (with_reducible refine Keep.setCell ?_ _ (fun h => absurd h (by omega))) | (with_reducible refine Keep.drewN ?_ _) | (with_reducible refine Keep.drew ?_))))).out.mono ?_
  rintro e w1 ⟨rfl, hk1⟩
  have B3 : Blk w1 w.heap.size #[.slice os r.of.length cs, .int .i64 r.kind, .int .i64 r.to] := Blk.keep (by (repeat (first | (with_reducible assumption) | (refine blk_at _ _ ?_; simp; done) | (refine Blk.old ?_ _)))) hk1
  have K1 : Hid (Keep NoS w w1) := Lib.hid (Keep.both (by (repeat' (first | (with_reducible assumption) | (with_reducible exact HK.out) | (with_reducible exact Keep.refl _ _) | (with_reducible refine Keep.alloc ?_ _) | (with_reducible refine Keep.setCell ?_ _ (fun h => absurd h (by omega))) | (with_reducible refine Keep.drewN ?_ _) | (with_reducible refine Keep.drew ?_)))) hk1)
  have HB3 := Lib.hid B3
  clear hk1 CV B3
  generalize hb3 : w.heap.size = b3 at HB3 ⊢
  clear hb3
  obtain ⟨p0, p1', p2', _, _, _, pl⟩ := HB3.out.three
  have hw1 : ¬ b3 = w1.heap.size := by omega
  have hw2 : ¬ b3 = w1.heap.size + 1 := by omega
  go_wp2_with fail
  refine (CHO _ ((K1.out.alloc _).alloc _)).out.mono ?_
  rintro e w2 ⟨rfl, hk2⟩
  have k12 : Keep NoS w1 w2 := Keep.trans (by (repeat' (first | (with_reducible assumption) | (with_reducible exact HK.out) | (with_reducible exact Keep.refl _ _) | (with_reducible refine Keep.alloc ?_ _) | (with_reducible refine Keep.setCell ?_ _ (fun h => absurd h (by omega))) | (with_reducible refine Keep.drewN ?_ _) | (with_reducible refine Keep.drew ?_)))) hk2 fun _ _ _ h => h
  have B7 : Blk w2 w1.heap.size #[.int .i64 a, .int .i64 b] := Blk.keep (by (repeat (first | (with_reducible assumption) | (refine blk_at _ _ ?_; simp; done) | (refine Blk.old ?_ _)))) hk2
  have B8 : Blk w2 (w1.heap.size + 1) #[.int .i64 c, .int .i64 d] := Blk.keep (by (repeat (first | (with_reducible assumption) | (refine blk_at _ _ ?_; simp; done) | (refine Blk.old ?_ _)))) hk2
  have HB3 := Lib.hid (HB3.out.keep k12)
  have HB7 := Lib.hid B7
  have HB8 := Lib.hid B8
  have K2 := Lib.hid (K1.out.both k12)
  clear hk2 CHO B7 B8 k12 p0 p1' p2' pl hw1 hw2 K1
  generalize w1.heap.size + 1 = b8 at *
  generalize w1.heap.size = b7 at *
  obtain ⟨p0, p1', p2', _, _, _, pl⟩ := HB3.out.three
  have hw1 : ¬ b3 = w2.heap.size := by omega
  go_wp2_with fail
  refine (CP _ (K2.out.alloc _)).out.mono ?_
  rintro e w3 ⟨rfl, hk3⟩
  have k23 : Keep NoS w2 w3 := Keep.trans (by (repeat' (first | (with_reducible assumption) | (with_reducible exact HK.out) | (with_reducible exact Keep.refl _ _) | (with_reducible refine Keep.alloc ?_ _) | (with_reducible refine Keep.setCell ?_ _ (fun h => absurd h (by omega))) | (with_reducible refine Keep.drewN ?_ _) | (with_reducible refine Keep.drew ?_)))) hk3 fun _ _ _ h => h
  have B10 : Blk w3 w2.heap.size #[.int .i64 p1, .int .i64 p2] := Blk.keep (by (repeat (first | (with_reducible assumption) | (refine blk_at _ _ ?_; simp; done) | (refine Blk.old ?_ _)))) hk3
  have HB3 := Lib.hid (HB3.out.keep k23)
  have HB7 := Lib.hid (HB7.out.keep k23)
  have HB8 := Lib.hid (HB8.out.keep k23)
  have HB10 := Lib.hid B10
  have K3 := Lib.hid (K2.out.both k23)
  clear hk3 CP B10 k23 p0 p1' p2' pl hw1 K2
  generalize w2.heap.size = b10 at *
  have HB3 := Lib.hid (HB3.out.old (.cells #[.int .i64 p1, .int .i64 p2] 26))
  have HB7 := Lib.hid (HB7.out.old (.cells #[.int .i64 p1, .int .i64 p2] 26))
  have HB8 := Lib.hid (HB8.out.old (.cells #[.int .i64 p1, .int .i64 p2] 26))
  have HB10 := Lib.hid (HB10.out.old (.cells #[.int .i64 p1, .int .i64 p2] 26))
  have HB11 : Hid (Blk (w3.alloc (.cells #[.int .i64 p1, .int .i64 p2] 26)) w3.heap.size #[.int .i64 p1, .int .i64 p2]) := Lib.hid (blk_at _ _ rfl)
  have HK0 : Hid (Keep NoS w (w3.alloc (.cells #[.int .i64 p1, .int .i64 p2] 26))) := Lib.hid (K3.out.alloc _)
  go_upto_region 4 with fail
  generalize w3.alloc (.cells #[.int .i64 p1, .int .i64 p2] 26) = w0 at *
  generalize w3.heap.size = b11 at *
  clear K3
  refine wp_region_by (fun w' => Keep NoS w0 w') [] [([0, 1, 3, 4], 2), ([], 5)] [6, 7, 8, 9, 10, 11] (by kernel_rfl) (by kernel_rfl) (by (repeat' (first | (with_reducible assumption) | (with_reducible exact HK.out) | (with_reducible exact Keep.refl _ _) | (with_reducible refine Keep.alloc ?_ _) | (with_reducible refine Keep.setCell ?_ _ (fun h => absurd h (by omega))) | (with_reducible refine Keep.drewN ?_ _) | (with_reducible refine Keep.drew ?_)))) ?_
  intro X W hne hF hcl
  have HCL := Lib.hid hcl
  have hx0 := fun x => (HB3.out.keep (hF x)).three
  have hx1 := fun x => (HB10.out.keep (hF x)).two
  have hx2 := fun x => (HB11.out.keep (hF x)).two
  clear hF hcl
  simp only [wpPlan, pickOps, List.getElem?_toArray, List.getElem?_cons_zero, List.getElem?_cons_succ, clsOf, Bool.false_eq_true, if_false]
  (repeat (quiet_step (fail))); refine wpQuiet_nil ?_
  refine wpOp_at (by simp only [List.getElem?_toArray, List.getElem?_cons_zero, List.getElem?_cons_succ]; rfl) (by rfl) (fun K hK => ?_)
  go_simp
  refine (CC _ (HK0.out.both (by (repeat' (first | (with_reducible assumption) | (with_reducible exact HK.out) | (with_reducible exact Keep.refl _ _) | (with_reducible refine Keep.alloc ?_ _) | (with_reducible refine Keep.setCell ?_ _ (fun h => absurd h (by omega))) | (with_reducible refine Keep.drewN ?_ _) | (with_reducible refine Keep.drew ?_)))))).out.mono ?_
  rintro e w4 ⟨rfl, hk4⟩
  have k4 : Keep NoS w0 w4 := Keep.trans (by (repeat' (first | (with_reducible assumption) | (with_reducible exact HK.out) | (with_reducible exact Keep.refl _ _) | (with_reducible refine Keep.alloc ?_ _) | (with_reducible refine Keep.setCell ?_ _ (fun h => absurd h (by omega))) | (with_reducible refine Keep.drewN ?_ _) | (with_reducible refine Keep.drew ?_)))) hk4 fun _ _ _ h => h
  refine hK _ _ ⟨fun _ => HCL.out _ k4, ?_⟩
  clear hK K hk4
  (repeat (quiet_step (fail))); refine wpQuiet_nil ?_
  refine wpOp_at (by simp only [List.getElem?_toArray, List.getElem?_cons_zero, List.getElem?_cons_succ]; rfl) (by rfl) (fun K hK => ?_)
  go_simp
  refine (CR _ (HK0.out.both k4)).out.mono ?_
  rintro e w5 ⟨rfl, hk5⟩
  have k5 := k4.both hk5
  refine hK _ _ ⟨fun _ => HCL.out _ k5, ?_⟩
  have HB3 := Lib.hid (HB3.out.keep k5)
  have HB7 := Lib.hid (HB7.out.keep k5)
  have HB8 := Lib.hid (HB8.out.keep k5)
  have HB10 := Lib.hid (HB10.out.keep k5)
  have HB11 := Lib.hid (HB11.out.keep k5)
  have K5 := Lib.hid (HK0.out.both k5)
  clear hK K hk5 k4 CC CR k5
  obtain ⟨g0, g1, _, _, gl⟩ := HB10.out.two
  obtain ⟨e0, e1, _, _, el⟩ := HB11.out.two
  obtain ⟨c0, c1, _, _, cl⟩ := HB8.out.two
  obtain ⟨a0, a1, _, _, al⟩ := HB7.out.two
  obtain ⟨s0, s1, s2, _, _, _, sl⟩ := HB3.out.three
  (repeat (quiet_step (fail))); refine wpQuiet_nil ?_
  refine NoPanic.normal ?_
  clear hx0 hx1 hx2
  go_wp2_with fail
  refine (C0 _).out.mono ?_
  rintro e w6 ⟨rfl, hk6⟩
  have HB3 := Lib.hid (HB3.out.keep hk6)
  have HB7 := Lib.hid (HB7.out.keep hk6)
  have HB8 := Lib.hid (HB8.out.keep hk6)
  have HB11 := Lib.hid (HB11.out.keep hk6)
  have K6 := Lib.hid (K5.out.both hk6)
  clear hk6 C0 g0 g1 gl e0 e1 el c0 c1 cl a0 a1 al s0 s1 s2 sl HB10
  obtain ⟨e0, e1, _, _, el⟩ := HB11.out.two
  obtain ⟨c0, c1, _, _, cl⟩ := HB8.out.two
  obtain ⟨a0, a1, _, _, al⟩ := HB7.out.two
  obtain ⟨s0, s1, s2, _, _, _, sl⟩ := HB3.out.three
  by_cases hp : p1 = 0
  · have hvb := HVB.out hp
    have hhb := HHB.out hp
    obtain ⟨hpz, hok, hq⟩ := HOK.out hp
    obtain rfl : p2 = 0 := congrArg Prod.snd hpz
    subst hp
    have hl := hok.len
    have hn12 := hok.n12
    have hbn := nb_sum hok.fit hq (by omega) r.of.length (Nat.le_refl _)
    have CS := fun w' (k : Keep NoS w w') => Lib.hid (refSum_any w' _ r.of _ nums (HI.out.keep k) (HN.out.keep k) hok.fit hq (by omega) (by omega))
    have CF := fun w b (h : IsRat w b 0 (sumK r.of nums r.of.length)) => Lib.hid (fracMade_any w b 0 _ h (dl_big (by have := hbn.1; omega)) (by have := dl_big (z := ((sumK r.of nums r.of.length).den : Int)) (by have := hbn.2; omega); simpa using this))
    rw [hvb] at CF
    have CRH := fun w' (k : Keep NoS w w') => Lib.hid (refHolds_any w' _ r _ nums (HR.out.keep k) (HN.out.keep k) hok hq)
    rw [← hhb] at CRH
    clear hvb hhb hpz hok hq hl hn12 hbn HVA HVB HHA HHB HOK
    go_wp2_with fail
    refine (CS _ K6.out).out.mono ?_
    rintro e w7 ⟨b1, hb1, rfl, hk7, hi7⟩
    have HB3 := Lib.hid (HB3.out.keep hk7)
    have HB7 := Lib.hid (HB7.out.keep hk7)
    have HB8 := Lib.hid (HB8.out.keep hk7)
    have K7 := Lib.hid (K6.out.both hk7)
    have HI7 := Lib.hid hi7
    clear hk7 hi7 hb1 CS e0 e1 el c0 c1 cl a0 a1 al s0 s1 s2 sl
    go_wp2_with fail
    refine (CF _ b1 HI7.out).out.mono ?_
    rintro e w8 ⟨rfl, hk8⟩
    have HB3 := Lib.hid (HB3.out.keep hk8)
    have HB7 := Lib.hid (HB7.out.keep hk8)
    have HB8 := Lib.hid (HB8.out.keep hk8)
    have K8 := Lib.hid (K7.out.both hk8)
    clear hk8 CF HI7
    obtain ⟨c0, c1, _, _, cl⟩ := HB8.out.two
    obtain ⟨a0, a1, _, _, al⟩ := HB7.out.two
    obtain ⟨s0, s1, s2, _, _, _, sl⟩ := HB3.out.three
    have n1 : ¬ b8 = w8.heap.size := by omega
    have n2 : ¬ b8 = w8.heap.size + 1 := by omega
    have n3 : ¬ b7 = w8.heap.size := by omega
    have n4 : ¬ b7 = w8.heap.size + 1 := by omega
    have n5 : ¬ b3 = w8.heap.size := by omega
    have n6 : ¬ b3 = w8.heap.size + 1 := by omega
    go_wp2_with fail
    refine (CRH _ ((K8.out.alloc _).alloc _)).out.mono ?_
    rintro e w9 ⟨rfl, hk9⟩
    have K9 : Hid (Keep NoS w w9) := Lib.hid (((K8.out.alloc _).alloc _).both hk9)
    go_wp2
    go_ret
    exact ⟨by simp, K9.out⟩
  · obtain ⟨rfl, rfl, hcd⟩ := HVA.out hp
    obtain ⟨rfl, rfl⟩ : c = p1 ∧ d = p2 := ⟨congrArg Prod.fst hcd, congrArg Prod.snd hcd⟩
    obtain rfl := HHA.out hp
    have e9 : (c != 0) = true := by rw [bne_iff_ne]; exact hp
    clear hcd
    go_wp2
    go_ret
    exact ⟨rfl, K6.out⟩
end Go.Proofs.Ytihcbmkjfacooaa
