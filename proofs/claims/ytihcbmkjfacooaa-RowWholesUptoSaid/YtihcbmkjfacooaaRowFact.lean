/- umpiragelaw5.rowFact: a closed fact. -/
import Derived.Test.YtihcbmkjfacooaaPtAA
import Derived.Test.YtihcbmkjfacooaaRowFormsU
namespace Go.Proofs.Ytihcbmkjfacooaa
open Go.ChangeShapes Go.WideShapes Go.RowKit
set_option linter.unusedVariables false
set_option linter.unusedSimpArgs false

instance : DecidableEq Rw := fun a b => decidable_of_iff (a.of = b.of ∧ a.kind = b.kind ∧ a.to = b.to) (by cases a; cases b; simp)
theorem fact_tidy : tidyS ⟨[-4, 6, 0], 3, 10⟩ = ⟨[2, -3], 3, -5⟩ ∧ tidyF ⟨[-4, 6, 0], 3, 10⟩ = (0, 0) := by decide +kernel
theorem fact_whole : wholeS ⟨[4, -6], 2, 10⟩ = (⟨[2, -3], 1, 4⟩, (0, 0)) := by decide +kernel
theorem fact_holds : holdsV ⟨[2], 1, 1⟩ [⟨1, 2⟩] = .tuple #[.bool true, .agg #[.int .i64 0, .int .i64 0]] := by
  have h1 : ptF ⟨[2], 1, 1⟩ [⟨1, 2⟩] = (0, 0) := by decide +kernel
  have h2 : holdsB ⟨[2], 1, 1⟩ [⟨1, 2⟩] = true := by decide +kernel
  unfold holdsV
  rw [h1, h2]
  rfl

theorem ints_new (w : World) (g : Nat) (hg : g = w.heap.size) (xs : List Int) (cs : Array Value) (n : Nat) (hn : n = xs.length) (hc : cs = (iv xs).toArray) (hx : ∀ x ∈ xs, I64 x) (hl : xs.length ≤ maxLen) : IsInts (w.alloc (.cells cs TI)) (.slice (some ⟨g, 0, none⟩) n n) xs := by
  subst hn hc hg
  refine ⟨_, _, rfl, hl, hx, fun hne => ⟨w.heap.size, 0, rfl, by simp, fun i x hi => ?_⟩⟩
  rw [(blk_at (w := w) (iv xs).toArray TI rfl).cell, Nat.zero_add]
  simp [iv, hi]
theorem row_new (w : World) (g : Nat) (hg : g = w.heap.size) (xs : List Int) (k t : Int) (cs : Array Value) (n : Nat) (hn : n = xs.length) (hc : cs = (iv xs).toArray) (hx : ∀ x ∈ xs, fitI x) (hl : xs.length ≤ 12) (hk : fitI k) (ht : fitI t) :
    IsRow (w.alloc (.cells cs TI)) (.agg #[.slice (some ⟨g, 0, none⟩) n n, .int .i64 k, .int .i64 t]) ⟨xs, k, t⟩ := by
  have h64 : ∀ x, fitI x → I64 x := fun x h => by unfold fitI at h; unfold I64; omega
  exact ⟨_, rfl, ints_new w g hg xs cs n hn hc (fun x h => h64 x (hx x h)) (by unfold maxLen; omega), h64 _ hk, h64 _ ht, _, _, _, rfl, Nat.le_refl _⟩
theorem fracs_one (w : World) (g : Nat) (hg : g = w.heap.size) (a b : Int) (ha : I64 a) (hb : I64 b) {t : TypeId} : IsFracs (w.alloc (.cells #[.int .i64 a, .int .i64 b] t)) (.slice (some ⟨g, 0, none⟩) 1 1) [⟨a, b⟩] := by
  subst hg
  refine ⟨_, _, rfl, by simp, by decide, by simpa using ⟨ha, hb⟩, fun _ => ⟨w.heap.size, 0, rfl, by simp, fun i g hg => ?_⟩⟩
  rcases i with _ | i
  · simp at hg
    subst hg
    exact ⟨by simp, by simp⟩
  · simp at hg

set_option maxRecDepth 100000 in
set_option maxHeartbeats 8000000 in
theorem rowFact_any (w : World) : Calls Try.prog 48 #[] w fun e w' => e = .returned (.bool true) ∧ Keep NoS w w' := by
  have C1 := fun w g hg => Lib.hid (tidy_any _ _ _ (row_new w g hg [-4, 6, 0] 3 10 #[.int .i64 (-4), .int .i64 6, .int .i64 0] 3 rfl rfl (by decide) (by decide) (by decide) (by decide)))
  have C2 := fun w g hg => Lib.hid (whole_all _ _ _ (row_new w g hg [4, -6] 2 10 #[.int .i64 4, .int .i64 (-6)] 2 rfl rfl (by decide) (by decide) (by decide) (by decide)))
  have C3 := fun (w w' : World) (g : Nat) hg (h : Keep NoS (w.alloc (.cells #[.int .i64 2] TI)) w') v (hv : IsFracs w' v [⟨1, 2⟩]) => Lib.hid (rowHolds_any w' _ _ v [⟨1, 2⟩] ((row_new w g hg [2] 1 1 #[.int .i64 2] 1 rfl rfl (by decide) (by decide) (by decide) (by decide)).keep h) hv)
  rw [fact_tidy.1, fact_tidy.2] at C1
  rw [fact_whole] at C2
  rw [fact_holds] at C3
  unfold RetRow fV at C1 C2
  simp only at C1 C2
  go_enter Try.func48, Try.ntmps48
  go_wp2_with fail
  refine (C1 _ _ rfl).out.mono ?_
  rintro e w1 ⟨sv, rfl, hi1, _, hk1⟩
  have K1 : Hid (Keep NoS w w1) := Lib.hid (Keep.both (by (repeat' (first | (with_reducible assumption) | (with_reducible exact HK.out) | (with_reducible exact Keep.refl _ _) | (with_reducible refine Keep.alloc ?_ _) | (with_reducible refine Keep.setCell ?_ _ (fun h => absurd h (by omega))) | (with_reducible refine Keep.drewN ?_ _) | (with_reducible refine Keep.drew ?_)))) hk1)
  have HI1 := Lib.hid hi1
  obtain ⟨o1, c1, rfl, _⟩ := hi1.len
  clear hk1 hi1 C1
  go_wp2_with fail
  refine (C2 _ _ (by simp)).out.mono ?_
  rintro e w2 ⟨sv, rfl, hi2, _, hk2⟩
  have k12 : Keep NoS w1 w2 := Keep.trans (by (repeat' (first | (with_reducible assumption) | (with_reducible exact HK.out) | (with_reducible exact Keep.refl _ _) | (with_reducible refine Keep.alloc ?_ _) | (with_reducible refine Keep.setCell ?_ _ (fun h => absurd h (by omega))) | (with_reducible refine Keep.drewN ?_ _) | (with_reducible refine Keep.drew ?_)))) hk2 fun _ _ _ h => h
  have B1 : Blk w2 w1.heap.size #[.slice o1 2 c1, .int .i64 3, .int .i64 (-5)] := Blk.keep (by (repeat (first | (with_reducible assumption) | (refine blk_at _ _ ?_; simp; done) | (refine Blk.old ?_ _)))) hk2
  have B2 : Blk w2 (w1.heap.size + 1) #[.int .i64 0, .int .i64 0] := Blk.keep (by (repeat (first | (with_reducible assumption) | (refine blk_at _ _ ?_; simp; done) | (refine Blk.old ?_ _)))) hk2
  have HI1 := Lib.hid (HI1.out.keep k12)
  have K2 := Lib.hid (K1.out.both k12)
  have HB1 := Lib.hid B1
  have HB2 := Lib.hid B2
  have HI2 := Lib.hid hi2
  obtain ⟨o2, c2, rfl, _⟩ := hi2.len
  clear hk2 hi2 C2 k12 B1 B2 K1
  generalize w1.heap.size + 1 = b2 at *
  generalize w1.heap.size = b1 at *
  go_wp2_with fail
  refine (C3 _ _ _ (by simp) ((Keep.refl _ _).alloc _) _ (fracs_one _ _ (by simp) 1 2 (by unfold I64; omega) (by unfold I64; omega))).out.mono ?_
  rintro e w3 ⟨rfl, hk3⟩
  have k23 : Keep NoS w2 w3 := Keep.trans (by (repeat' (first | (with_reducible assumption) | (with_reducible exact HK.out) | (with_reducible exact Keep.refl _ _) | (with_reducible refine Keep.alloc ?_ _) | (with_reducible refine Keep.setCell ?_ _ (fun h => absurd h (by omega))) | (with_reducible refine Keep.drewN ?_ _) | (with_reducible refine Keep.drew ?_)))) hk3 fun _ _ _ h => h
  have B3 : Blk w3 w2.heap.size #[.slice o2 2 c2, .int .i64 1, .int .i64 4] := Blk.keep (by (repeat (first | (with_reducible assumption) | (refine blk_at _ _ ?_; simp; done) | (refine Blk.old ?_ _)))) hk3
  have B4 : Blk w3 (w2.heap.size + 1) #[.int .i64 0, .int .i64 0] := Blk.keep (by (repeat (first | (with_reducible assumption) | (refine blk_at _ _ ?_; simp; done) | (refine Blk.old ?_ _)))) hk3
  have HB1 := Lib.hid (HB1.out.keep k23)
  have HB2 := Lib.hid (HB2.out.keep k23)
  have HI1 := Lib.hid (HI1.out.keep k23)
  have HI2 := Lib.hid (HI2.out.keep k23)
  have K3 := Lib.hid (K2.out.both k23)
  have HB3 := Lib.hid B3
  have HB4 := Lib.hid B4
  clear hk3 C3 k23 B3 B4 K2
  generalize w2.heap.size + 1 = b4 at *
  generalize w2.heap.size = b3 at *
  obtain ⟨x0, x1, x2, _, _, _, xl⟩ := HB1.out.three
  obtain ⟨y0, y1, _, _, yl⟩ := HB2.out.two
  obtain ⟨z0, z1, z2, _, _, _, zl⟩ := HB3.out.three
  obtain ⟨u0, u1, _, _, ul⟩ := HB4.out.two
  have n1 : ¬ b1 = w3.heap.size := by omega
  have n2 : ¬ b2 = w3.heap.size := by omega
  have n3 : ¬ b3 = w3.heap.size := by omega
  have n4 : ¬ b4 = w3.heap.size := by omega
  go_wp2_with fail
  refine (sameRow_row _ _ _ ⟨[2, -3], 3, -5⟩ ⟨[2, -3], 3, -5⟩ _ _ rfl rfl (HI1.out.keep (((Keep.refl NoS w3).alloc _).alloc _)) (ints_new _ _ (by simp) [2, -3] _ 2 rfl rfl (by intro x hx; simp at hx; unfold I64; omega) (by decide)) rfl).mono ?_
  rintro e w4 ⟨rfl, hk4⟩
  have k34 : Keep NoS w3 w4 := Keep.trans (by (repeat' (first | (with_reducible assumption) | (with_reducible exact HK.out) | (with_reducible exact Keep.refl _ _) | (with_reducible refine Keep.alloc ?_ _) | (with_reducible refine Keep.setCell ?_ _ (fun h => absurd h (by omega))) | (with_reducible refine Keep.drewN ?_ _) | (with_reducible refine Keep.drew ?_)))) hk4 fun _ _ _ h => h
  have HB3 := Lib.hid (HB3.out.keep k34)
  have HI2 := Lib.hid (HI2.out.keep k34)
  have K4 := Lib.hid (K3.out.both k34)
  clear hk4 k34 x0 x1 x2 xl y0 y1 yl z0 z1 z2 zl u0 u1 ul n1 n2 n3 n4 K3 HI1 HB1 HB2 HB4
  obtain ⟨z0, z1, z2, _, _, _, zl⟩ := HB3.out.three
  have n3 : ¬ b3 = w4.heap.size := by omega
  go_wp2_with fail
  refine (sameRow_row _ _ _ ⟨[2, -3], 1, 4⟩ ⟨[2, -3], 1, 4⟩ _ _ rfl rfl (HI2.out.keep ((Keep.refl NoS w4).alloc _)) (ints_new _ _ rfl [2, -3] _ 2 rfl rfl (by intro x hx; simp at hx; unfold I64; omega) (by decide)) rfl).mono ?_
  rintro e w5 ⟨rfl, hk5⟩
  have K5 : Hid (Keep NoS w w5) := Lib.hid ((K4.out.alloc _).both hk5)
  clear hk5
  go_wp2
  go_ret
  exact ⟨rfl, K5.out⟩
end Go.Proofs.Ytihcbmkjfacooaa
