/- Package farkas's Sum. -/
import Derived.Test.YtihcbmkjfacooaaFkQ
import Derived.Test.YtihcbmkjfacooaaFkC
import Derived.Test.YtihcbmkjfacooaaRatV
import Derived.Test.YtihcbmkjfacooaaOwnG
namespace Go.Proofs.Ytihcbmkjfacooaa
open Go.ChangeShapes Go.WideShapes Go.RowKit
set_option linter.unusedVariables false
set_option linter.unusedSimpArgs false

theorem markS_false {S : Nat → Bool} {e d : Nat} (h : mark S e d = false) : S d = false := by
  unfold mark at h
  split at h
  · cases h
  · exact h
/-- A fraction of a number, as farkas.Sum has it. -/
def fqOf (q : Rat) : Fq := if Fits q then ⟨q.num, q.den⟩ else ⟨0, 0⟩
/-- What farkas.Sum answers. -/
structure SumR where
  L : List Fq
  a : Int
  b : Int
  l : Bool
  c : Int
  d : Int
def sumOK (rows : List Rw) (ts : List Rat) (N : Nat) : Bool := decide (Fits (toK rows ts rows.length)) && (colL rows ts N rows.length).all fun q => decide (Fits q)
def sumS (rows : List Rw) (n : Int) (times : List Fq) : SumR :=
  if (farkF rows n times).1 = 0 then
    (if sumOK rows (times.map Fq.q) n.toNat = true then ⟨(colL rows (times.map Fq.q) n.toNat rows.length).map fqOf, (fqOf (toK rows (times.map Fq.q) rows.length)).N, (fqOf (toK rows (times.map Fq.q) rows.length)).D, strK rows (times.map Fq.q) rows.length, 0, 0⟩ else ⟨[], 0, 0, false, 10, 0⟩)
  else ⟨[], 0, 0, false, (farkF rows n times).1, (farkF rows n times).2⟩
theorem fracOf_fq (q : Rat) : fracOfV q = .tuple #[.agg #[.int .i64 (fqOf q).N, .int .i64 (fqOf q).D], .bool (decide (Fits q))] := by
  unfold fracOfV fqOf
  by_cases h : Fits q
  · rw [if_pos h, if_pos h, decide_eq_true h]; rfl
  · rw [if_neg h, if_neg h, decide_eq_false h]; rfl
theorem nil_fracs (w : World) : IsFracs w (.slice none 0 0) [] := ⟨none, 0, rfl, by simp, by simp, by simp, fun h => absurd rfl h⟩
theorem own_set2 {w : World} {base : Nat} {v : Value} {l : List Fq} (h : OwnF w base v l) {b : Nat} (hb : b < base) {p q : Value} : OwnF ((w.setCell ⟨b, 0, none⟩ p).setCell ⟨b, 1, none⟩ q) base v l := by
  have hne : v.ownBlock ≠ some b := fun e => by have := h.block b e; omega
  exact ownsRow_setCell_other (ownsRow_setCell_other h hne p) hne q
def Blk2 (w : World) (b : Nat) : Prop := ∃ x y : Int, Blk w b #[.int .i64 x, .int .i64 y]
/-- Fits of the first columns. -/
def fitsTo (l : List Rat) (k : Nat) : Bool := (l.take k).all fun q => decide (Fits q)
theorem fitsTo_succ {l : List Rat} {k : Nat} (h : k < l.length) : fitsTo l (k + 1) = (fitsTo l k && decide (Fits l[k])) := by
  unfold fitsTo
  rw [List.take_succ_eq_append_getElem h, List.all_append]
  simp
theorem fqTo_succ {l : List Rat} {k : Nat} (h : k < l.length) : (l.take (k + 1)).map fqOf = (l.take k).map fqOf ++ [fqOf l[k]] := by
  rw [List.take_succ_eq_append_getElem h, List.map_append]; rfl
theorem fqOf_i64 (q : Rat) : I64 (fqOf q).N ∧ I64 (fqOf q).D := by
  unfold fqOf
  by_cases h : Fits q
  · rw [if_pos h]
    have := h.1
    have := h.2
    unfold I64
    simp only
    omega
  · rw [if_neg h]; unfold I64; simp

def pstS3 (b7 b9 : Nat) (c1 c2 : Int) (S : Nat → Bool) : Nat → Value → World → Prop
  | 0, v, _ => v = .agg #[.int .i64 0, .int .i64 0]
  | 1, v, _ => v = .agg #[.int .i64 c1, .int .i64 c2]
  | 2, v, _ => v = .slice none 0 0
  | 3, v, w => Blk w b7 #[.int .i64 0, .int .i64 0]
  | 4, v, _ => v = .bool false
  | 5, v, w => Blk w b9 #[.int .i64 c1, .int .i64 c2]
  | _, _, _ => True
theorem pstS3_keep {b7 b9 : Nat} {c1 c2 : Int} {S : Nat → Bool} {w w' : World} {e : Nat} (he : True) (k : Keep NoS w w') : ∀ (d : Nat) (v : Value), pstS3 b7 b9 c1 c2 S d v w → pstS3 b7 b9 c1 c2 (mark S e) d v w'
  | 0, v, h => h
  | 1, v, h => h
  | 2, v, h => h
  | 3, v, h => Blk.keep h k
  | 4, v, h => h
  | 5, v, h => Blk.keep h k
  | n + 6, v, h => trivial

def pstS14 (b7 b9 : Nat) (u : Value) (a b : Int) (l : Bool) (S : Nat → Bool) : Nat → Value → World → Prop
  | 0, v, _ => v = u
  | 1, v, _ => v = .agg #[.int .i64 a, .int .i64 b]
  | 2, v, _ => v = .bool l
  | 3, v, _ => v = .agg #[.int .i64 0, .int .i64 0]
  | 4, v, _ => v = u
  | 5, v, w => Blk w b7 #[.int .i64 a, .int .i64 b]
  | 6, v, _ => v = .bool l
  | 7, v, w => Blk w b9 #[.int .i64 0, .int .i64 0]
  | _, _, _ => True
theorem pstS14_keep {b7 b9 : Nat} {u : Value} {a b : Int} {l : Bool} {S : Nat → Bool} {w w' : World} {e : Nat} (he : True) (k : Keep NoS w w') : ∀ (d : Nat) (v : Value), pstS14 b7 b9 u a b l S d v w → pstS14 b7 b9 u a b l (mark S e) d v w'
  | 0, v, h => h
  | 1, v, h => h
  | 2, v, h => h
  | 3, v, h => h
  | 4, v, h => h
  | 5, v, h => Blk.keep h k
  | 6, v, h => h
  | 7, v, h => Blk.keep h k
  | n + 8, v, h => trivial

theorem pstS3_a {b7 b9 : Nat} {c1 c2 : Int} {S : Nat → Bool} {w w' : World} (h : Blk w b9 #[.int .i64 c1, .int .i64 c2] → Blk w' b9 #[.int .i64 c1, .int .i64 c2]) : ∀ (d : Nat) (v : Value), d ≠ 3 → pstS3 b7 b9 c1 c2 S d v w → pstS3 b7 b9 c1 c2 (mark S 3) d v w'
  | 0, v, _, hv => hv
  | 1, v, _, hv => hv
  | 2, v, _, hv => hv
  | 3, v, hd, _ => absurd rfl hd
  | 4, v, _, hv => hv
  | 5, v, _, hb => h hb
  | n + 6, v, _, _ => trivial
theorem pstS3_b {b7 b9 : Nat} {c1 c2 : Int} {S : Nat → Bool} {w w' : World} (h : Blk w b7 #[.int .i64 0, .int .i64 0] → Blk w' b7 #[.int .i64 0, .int .i64 0]) : ∀ (d : Nat) (v : Value), d ≠ 5 → pstS3 b7 b9 c1 c2 S d v w → pstS3 b7 b9 c1 c2 (mark S 5) d v w'
  | 0, v, _, hv => hv
  | 1, v, _, hv => hv
  | 2, v, _, hv => hv
  | 3, v, _, hb => h hb
  | 4, v, _, hv => hv
  | 5, v, hd, _ => absurd rfl hd
  | n + 6, v, _, _ => trivial
theorem pstS14_a {b7 b9 : Nat} {u : Value} {a b : Int} {l : Bool} {S : Nat → Bool} {w w' : World} (h : Blk w b9 #[.int .i64 0, .int .i64 0] → Blk w' b9 #[.int .i64 0, .int .i64 0]) : ∀ (d : Nat) (v : Value), d ≠ 5 → pstS14 b7 b9 u a b l S d v w → pstS14 b7 b9 u a b l (mark S 5) d v w'
  | 0, v, _, hv => hv
  | 1, v, _, hv => hv
  | 2, v, _, hv => hv
  | 3, v, _, hv => hv
  | 4, v, _, hv => hv
  | 5, v, hd, _ => absurd rfl hd
  | 6, v, _, hv => hv
  | 7, v, _, hb => h hb
  | n + 8, v, _, _ => trivial
theorem pstS14_b {b7 b9 : Nat} {u : Value} {a b : Int} {l : Bool} {S : Nat → Bool} {w w' : World} (h : Blk w b7 #[.int .i64 a, .int .i64 b] → Blk w' b7 #[.int .i64 a, .int .i64 b]) : ∀ (d : Nat) (v : Value), d ≠ 7 → pstS14 b7 b9 u a b l S d v w → pstS14 b7 b9 u a b l (mark S 7) d v w'
  | 0, v, _, hv => hv
  | 1, v, _, hv => hv
  | 2, v, _, hv => hv
  | 3, v, _, hv => hv
  | 4, v, _, hv => hv
  | 5, v, _, hb => h hb
  | 6, v, _, hv => hv
  | 7, v, hd, _ => absurd rfl hd
  | n + 8, v, _, _ => trivial

set_option maxRecDepth 100000 in
set_option maxHeartbeats 16000000 in
theorem sumFk_any (w : World) (v : Value) (rows : List Rw) (n : Int) (vt : Value) (times : List Fq) (h : IsRows w v rows) (hn : I64 n) (ht : IsFracs w vt times) :
    Calls Try.prog 43 #[v, .int .i64 n, vt] w fun e w' => ∃ u, e = .returned (.tuple #[u, .agg #[.int .i64 (sumS rows n times).a, .int .i64 (sumS rows n times).b], .bool (sumS rows n times).l, .agg #[.int .i64 (sumS rows n times).c, .int .i64 (sumS rows n times).d]]) ∧ IsFracs w' u (sumS rows n times).L ∧ Keep NoS w w' := by
  have CH := fun w' (k : Keep NoS w w') => Lib.hid (farkChk_any w' v rows n vt times (h.keep k) hn (ht.keep k))
  by_cases hc : (farkF rows n times).1 = 0
  case neg =>
    have hs : sumS rows n times = ⟨[], 0, 0, false, (farkF rows n times).1, (farkF rows n times).2⟩ := by unfold sumS; rw [if_neg hc]
    rw [hs]
    generalize farkF rows n times = c at *
    obtain ⟨c1, c2⟩ := c
    simp only at hc
    unfold fV at CH
    simp only at CH ⊢
    have e1 : (c1 != 0) = true := by rw [bne_iff_ne]; exact hc
    obtain ⟨oa, ca, rfl, _, _⟩ := h.len
    obtain ⟨ot, ct, rfl, _, _⟩ := ht.len
    clear hc h ht hs
    go_enter Try.func43, Try.ntmps43
    go_wp2_with fail
    refine (CH _ (by (repeat' (first | (with_reducible assumption) | (with_reducible exact HK.out) | (with_reducible exact Keep.refl _ _) | (with_reducible refine Keep.alloc ?_ _) | (with_reducible refine Keep.setCell ?_ _ (fun h => absurd h (by omega))) | (with_reducible refine Keep.drewN ?_ _) | (with_reducible refine Keep.drew ?_))))).out.mono ?_
    rintro e w1 ⟨rfl, hk1⟩
    have B7 : Blk w1 w.heap.size #[.int .i64 0, .int .i64 0] := Blk.keep (by (repeat (first | (with_reducible assumption) | (refine blk_at _ _ ?_; simp; done) | (refine Blk.old ?_ _)))) hk1
    have B9 : Blk w1 (w.heap.size + 1) #[.int .i64 0, .int .i64 0] := Blk.keep (by (repeat (first | (with_reducible assumption) | (refine blk_at _ _ ?_; simp; done) | (refine Blk.old ?_ _)))) hk1
    have K1 : Hid (Keep NoS w w1) := Lib.hid (Keep.both (by (repeat' (first | (with_reducible assumption) | (with_reducible exact HK.out) | (with_reducible exact Keep.refl _ _) | (with_reducible refine Keep.alloc ?_ _) | (with_reducible refine Keep.setCell ?_ _ (fun h => absurd h (by omega))) | (with_reducible refine Keep.drewN ?_ _) | (with_reducible refine Keep.drew ?_)))) hk1)
    have HB7 := Lib.hid B7
    have HB9 := Lib.hid B9
    have HSZ : Hid (w.heap.size ≤ w.heap.size ∧ w.heap.size ≤ w.heap.size + 1 ∧ w.heap.size ≠ w.heap.size + 1) := Lib.hid ⟨by omega, by omega, by omega⟩
    clear hk1 CH B7 B9
    generalize hb9 : w.heap.size + 1 = b9 at HB9 HSZ ⊢
    clear hb9
    generalize hb7 : w.heap.size = b7 at HB7 HSZ ⊢
    have HS7 : Hid (w.heap.size ≤ b7) := Lib.hid (by omega)
    clear hb7
    have HS9 : Hid (w.heap.size ≤ b9) := Lib.hid (Nat.le_trans HS7.out HSZ.out.2.1)
    go_upto_region 3 with fail
    have HK0 : Hid (Keep NoS w (w1.alloc (.cells #[.int .i64 c1, .int .i64 c2] 26))) := Lib.hid (K1.out.alloc _)
    have HB6 : Hid (Blk (w1.alloc (.cells #[.int .i64 c1, .int .i64 c2] 26)) w1.heap.size #[.int .i64 c1, .int .i64 c2]) := Lib.hid (blk_at _ _ rfl)
    have hlt7 := HB7.out.lt
    have hlt9 := HB9.out.lt
    have HB7 := Lib.hid (HB7.out.old (.cells #[.int .i64 c1, .int .i64 c2] 26))
    have HB9 := Lib.hid (HB9.out.old (.cells #[.int .i64 c1, .int .i64 c2] 26))
    generalize w1.alloc (.cells #[.int .i64 c1, .int .i64 c2] 26) = wr at *
    have HN6 : Hid (w1.heap.size ≠ b7 ∧ w1.heap.size ≠ b9) := Lib.hid ⟨by omega, by omega⟩
    clear hlt7 hlt9
    generalize w1.heap.size = b6 at *
    have H67 : Hid (b6 ≠ b7) := Lib.hid HN6.out.1
    have H69 : Hid (b6 ≠ b9) := Lib.hid HN6.out.2
    refine wp_region_inv (fun w' => Keep NoS w w' ∧ Blk w' b6 #[.int .i64 c1, .int .i64 c2] ∧ Blk2 w' b7 ∧ Blk2 w' b9) (pstS3 b7 b9 c1 c2) (by kernel_rfl) (by kernel_rfl) (by kernel_rfl) (by kernel_rfl) ⟨HK0.out.drew, HB6.out.keep (Keep.refl _ _).drew, ⟨_, _, HB7.out.keep (Keep.refl _ _).drew⟩, ⟨_, _, HB9.out.keep (Keep.refl _ _).drew⟩⟩ _ (fun σ => by
      show putAll _ σ [0, 1, 2, 3, 4, 5] _ = _
      simp only [putAll, List.getElem?_toArray, List.getElem?_cons_zero, List.getElem?_cons_succ, Act.put, List.setIfInBounds_toArray, List.set_cons_zero, List.set_cons_succ]
      rfl) ?_ ?_
    · intro S σ w1 hC e he HK
      have he : e < 6 := he
      have hC : Keep NoS w w1 ∧ Blk w1 b6 #[.int .i64 c1, .int .i64 c2] ∧ Blk2 w1 b7 ∧ Blk2 w1 b9 := hC
      obtain rfl | rfl | rfl | rfl | rfl | rfl : e = 0 ∨ e = 1 ∨ e = 2 ∨ e = 3 ∨ e = 4 ∨ e = 5 := by omega
      · refine wpOp_at (by simp only [List.getElem?_toArray, List.getElem?_cons_zero, List.getElem?_cons_succ]; rfl) (by rfl) (fun K hK => ?_)
        go_simp
        exact hK _ _ ⟨hC, fun d hd hs h => pstS3_keep trivial (Keep.refl _ _) d _ h, _, rfl, rfl⟩
      · obtain ⟨m0, m1, _, _, ml⟩ := hC.2.1.two
        refine wpOp_at (by simp only [List.getElem?_toArray, List.getElem?_cons_zero, List.getElem?_cons_succ]; rfl) (by rfl) (fun K hK => ?_)
        go_simp
        exact hK _ _ ⟨hC, fun d hd hs h => pstS3_keep trivial (Keep.refl _ _) d _ h, _, rfl, rfl⟩
      · refine wpOp_at (by simp only [List.getElem?_toArray, List.getElem?_cons_zero, List.getElem?_cons_succ]; rfl) (by rfl) (fun K hK => ?_)
        go_simp
        exact hK _ _ ⟨hC, fun d hd hs h => pstS3_keep trivial (Keep.refl _ _) d _ h, _, rfl, rfl⟩
      · have h0 : σ 0 = Value.agg #[.int .i64 0, .int .i64 0] := HK.post 0 (by kernel_rfl)
        rw [h0]
        obtain ⟨x, y, hb⟩ := hC.2.2.1
        obtain ⟨s0, s1, g0, g1, sl⟩ := hb.two
        refine wpOp_at (by simp only [List.getElem?_toArray, List.getElem?_cons_zero, List.getElem?_cons_succ]; rfl) (by rfl) (fun K hK => ?_)
        go_simp
        exact hK _ _ ⟨⟨keep_set2 hC.1 HS7.out _ _, hC.2.1.other2 H67.out _ _, ⟨_, _, hb.set2 _ _⟩, (by obtain ⟨p, r, hp⟩ := hC.2.2.2; exact ⟨p, r, hp.other2 (Ne.symm HSZ.out.2.2) _ _⟩)⟩, fun d hd hs h => pstS3_a (fun hq => hq.other2 (Ne.symm HSZ.out.2.2) _ _) d _ hd h, undef, rfl, hb.set2 _ _⟩
      · refine wpOp_at (by simp only [List.getElem?_toArray, List.getElem?_cons_zero, List.getElem?_cons_succ]; rfl) (by rfl) (fun K hK => ?_)
        go_simp
        exact hK _ _ ⟨hC, fun d hd hs h => pstS3_keep trivial (Keep.refl _ _) d _ h, _, rfl, rfl⟩
      · have h1 : σ 1 = Value.agg #[.int .i64 c1, .int .i64 c2] := HK.post 1 (by kernel_rfl)
        rw [h1]
        obtain ⟨x, y, hb⟩ := hC.2.2.2
        obtain ⟨s0, s1, g0, g1, sl⟩ := hb.two
        refine wpOp_at (by simp only [List.getElem?_toArray, List.getElem?_cons_zero, List.getElem?_cons_succ]; rfl) (by rfl) (fun K hK => ?_)
        go_simp
        exact hK _ _ ⟨⟨keep_set2 hC.1 HS9.out _ _, hC.2.1.other2 H69.out _ _, (by obtain ⟨p, r, hp⟩ := hC.2.2.1; exact ⟨p, r, hp.other2 (Ne.symm (Ne.symm HSZ.out.2.2)) _ _⟩), ⟨_, _, hb.set2 _ _⟩⟩, fun d hd hs h => pstS3_b (fun hq => hq.other2 (Ne.symm (Ne.symm HSZ.out.2.2)) _ _) d _ hd h, undef, rfl, hb.set2 _ _⟩
    · intro S σ w5 hC hS hP
      have hC : Keep NoS w w5 ∧ Blk w5 b6 #[.int .i64 c1, .int .i64 c2] ∧ Blk2 w5 b7 ∧ Blk2 w5 b9 := hC
      have h2 : σ 2 = .slice none 0 0 := hP 2 (by decide)
      have h4 : σ 4 = .bool false := hP 4 (by decide)
      have h3 : Blk w5 b7 #[.int .i64 0, .int .i64 0] := hP 3 (by decide)
      have h5 : Blk w5 b9 #[.int .i64 c1, .int .i64 c2] := hP 5 (by decide)
      rw [h2, h4]
      refine NoPanic.normal ?_
      obtain ⟨s0, s1, _, _, sl⟩ := h3.two
      obtain ⟨t0, t1, _, _, tl⟩ := h5.two
      go_wp2
      refine bodyPost_ret (by simp [results, Try.results43, go_sem, s0, s1, sl, t0, t1, tl]; rfl) rfl ?_
      exact ⟨_, rfl, nil_fracs _, hC.1⟩
  case pos =>
    obtain ⟨hc0, hl0, hlen, hfr⟩ := farkF_ok hc
    obtain ⟨hn0, hn12, h40, hok⟩ := listF_ok hl0
    obtain ⟨N, rfl⟩ : ∃ N : Nat, n = (N : Int) := ⟨n.toNat, by omega⟩
    have hN : N ≤ 12 := by omega
    have hs : sumS rows N times = if sumOK rows (times.map Fq.q) N = true then ⟨(colL rows (times.map Fq.q) N rows.length).map fqOf, (fqOf (toK rows (times.map Fq.q) rows.length)).N, (fqOf (toK rows (times.map Fq.q) rows.length)).D, strK rows (times.map Fq.q) rows.length, 0, 0⟩ else ⟨[], 0, 0, false, 10, 0⟩ := by
      unfold sumS
      rw [if_pos hc, show ((N : Int)).toNat = N from by omega]
    rw [hc0] at CH
    have hnt : ∀ q ∈ (times.map Fq.q), NB 1 q := by
      intro q hq
      obtain ⟨g, hg, rfl⟩ := List.mem_map.1 hq
      exact nb_frac (hfr g hg)
    have CN := fun w' (k : Keep NoS w w') => Lib.hid (numbers_any w' vt times (ht.keep k) hfr (by omega))
    have CB := fun w' (k : Keep NoS w w') vu (hu : IsNums w' vu (times.map Fq.q)) => Lib.hid (combined_any w' v rows N vu (times.map Fq.q) (h.keep k) hok h40 hN hu (by rw [List.length_map]; exact hlen) hnt)
    have HCN : Hid (∀ k, NB 1000 (colK rows (times.map Fq.q) k rows.length)) := Lib.hid fun k => (nb_col hok hnt k rows.length).mono (by omega)
    have HTN := Lib.hid ((nb_to hok hnt rows.length).mono (k := 1000) (by omega))
    have hcl : (colL rows (times.map Fq.q) N rows.length).length = N := colL_len
    have HCG : Hid (∀ k (hk : k < (colL rows (times.map Fq.q) N rows.length).length), NB 1000 ((colL rows (times.map Fq.q) N rows.length)[k])) := Lib.hid fun k hk => by
      have : (colL rows (times.map Fq.q) N rows.length)[k] = colK rows (times.map Fq.q) k rows.length := by simp [colL]
      rw [this]; exact HCN.out k
    have HOKD : Hid (sumOK rows (times.map Fq.q) N = (decide (Fits (toK rows (times.map Fq.q) rows.length)) && fitsTo (colL rows (times.map Fq.q) N rows.length) N)) := Lib.hid (by unfold sumOK fitsTo; rw [List.take_of_length_le (by rw [hcl]; exact Nat.le_refl _)])
    rw [hs]
    generalize sumOK rows (times.map Fq.q) N = so at *
    generalize toK rows (times.map Fq.q) rows.length = tq at *
    generalize strK rows (times.map Fq.q) rows.length = sb at *
    generalize colL rows (times.map Fq.q) N rows.length = cols at *
    have HCL := Lib.hid hcl
    unfold fV at CH
    simp only at CH ⊢
    obtain ⟨oa, ca, rfl, hca, hma⟩ := h.len
    obtain ⟨ot, ct, rfl, hct, hmt⟩ := ht.len
    unfold maxLen at hma hmt
    clear hc hc0 hl0 hn0 hn12 hok hfr h ht hca hct hnt hlen hs hcl HCN
    go_enter Try.func43, Try.ntmps43
    go_wp2_with fail
    refine (CH _ (by (repeat' (first | (with_reducible assumption) | (with_reducible exact HK.out) | (with_reducible exact Keep.refl _ _) | (with_reducible refine Keep.alloc ?_ _) | (with_reducible refine Keep.setCell ?_ _ (fun h => absurd h (by omega))) | (with_reducible refine Keep.drewN ?_ _) | (with_reducible refine Keep.drew ?_))))).out.mono ?_
    rintro e w1 ⟨rfl, hk1⟩
    have B7 : Blk w1 w.heap.size #[.int .i64 0, .int .i64 0] := Blk.keep (by (repeat (first | (with_reducible assumption) | (refine blk_at _ _ ?_; simp; done) | (refine Blk.old ?_ _)))) hk1
    have B9 : Blk w1 (w.heap.size + 1) #[.int .i64 0, .int .i64 0] := Blk.keep (by (repeat (first | (with_reducible assumption) | (refine blk_at _ _ ?_; simp; done) | (refine Blk.old ?_ _)))) hk1
    have K1 : Hid (Keep NoS w w1) := Lib.hid (Keep.both (by (repeat' (first | (with_reducible assumption) | (with_reducible exact HK.out) | (with_reducible exact Keep.refl _ _) | (with_reducible refine Keep.alloc ?_ _) | (with_reducible refine Keep.setCell ?_ _ (fun h => absurd h (by omega))) | (with_reducible refine Keep.drewN ?_ _) | (with_reducible refine Keep.drew ?_)))) hk1)
    have HB7 := Lib.hid (B7.old (.cells #[.int .i64 0, .int .i64 0] 26))
    have HB9 := Lib.hid (B9.old (.cells #[.int .i64 0, .int .i64 0] 26))
    have K1 := Lib.hid (K1.out.alloc (.cells #[.int .i64 0, .int .i64 0] 26))
    have HSZ : Hid (w.heap.size ≤ w.heap.size ∧ w.heap.size ≤ w.heap.size + 1 ∧ w.heap.size ≠ w.heap.size + 1) := Lib.hid ⟨by omega, by omega, by omega⟩
    clear hk1 CH B7 B9
    generalize hb9 : w.heap.size + 1 = b9 at HB9 HSZ ⊢
    clear hb9
    generalize hb7 : w.heap.size = b7 at HB7 HSZ ⊢
    have HS7 : Hid (w.heap.size ≤ b7) := Lib.hid (by omega)
    clear hb7
    have HS9 : Hid (w.heap.size ≤ b9) := Lib.hid (Nat.le_trans HS7.out HSZ.out.2.1)
    go_wp2_with fail
    refine (CN _ K1.out).out.mono ?_
    rintro e w4 ⟨u, rfl, hou, hk4⟩
    have K4 := Lib.hid (K1.out.both hk4)
    have HB7 := Lib.hid (HB7.out.keep hk4)
    have HB9 := Lib.hid (HB9.out.keep hk4)
    have CB := fun w' (k : Keep NoS w4 w') => CB w' (K4.out.both k) u (hou.nums.keep k)
    obtain ⟨ou, cu, hu⟩ := hou.len
    rw [List.length_map] at hu
    subst hu
    clear hk4 CN hou K1
    go_wp2_with fail
    refine (CB _ (Keep.refl _ _)).out.mono ?_
    rintro e w5 ⟨g, uv, rfl, hg, hnb, hun, hk5⟩
    have K5 := Lib.hid (K4.out.both hk5)
    have HGB : Hid (w4.heap.size ≤ g) := Lib.hid hg
    have hlt7 := HB7.out.lt
    have hlt9 := HB9.out.lt
    have HB7 := Lib.hid (HB7.out.keep hk5)
    have HB9 := Lib.hid (HB9.out.keep hk5)
    have HNB := Lib.hid hnb
    have HG79 : Hid (b7 ≠ g ∧ b9 ≠ g) := Lib.hid ⟨by omega, by omega⟩
    obtain ⟨⟨xb, xS, yb, yS⟩, hux⟩ := isNum_nv hun
    subst hux
    unfold NV.v at hun ⊢
    simp only at hun ⊢
    have CF := fun w => Lib.hid (exFrac_any w _ tq hun HTN.out)
    rw [fracOf_fq] at CF
    clear hk5 CB hnb hun hg K4 hlt7 hlt9 HTN
    go_wp2_with fail
    refine (CF _).out.mono ?_
    rintro e w6 ⟨rfl, hk6⟩
    have hlt7 := HB7.out.lt
    have hlt9 := HB9.out.lt
    have k6 : Keep NoS w5 w6 := Keep.trans (by (repeat' (first | (with_reducible assumption) | (with_reducible exact HK.out) | (with_reducible exact Keep.refl _ _) | (with_reducible refine Keep.alloc ?_ _) | (with_reducible refine Keep.setCell ?_ _ (fun h => absurd h (by omega))) | (with_reducible refine Keep.drewN ?_ _) | (with_reducible refine Keep.drew ?_)))) hk6 fun _ _ _ h => h
    have K6 := Lib.hid (K5.out.both k6)
    have HB7 := Lib.hid (HB7.out.keep k6)
    have HB9 := Lib.hid (HB9.out.keep k6)
    have HNB := Lib.hid (HNB.out.keep k6)
    clear hk6 CF K5
    obtain ⟨s0, s1, f0, f1, sl⟩ := HB7.out.two
    obtain ⟨an, han⟩ : ∃ an, (fqOf tq).N = an := ⟨_, rfl⟩
    obtain ⟨ad, had⟩ : ∃ ad, (fqOf tq).D = ad := ⟨_, rfl⟩
    have HAN := Lib.hid (And.intro han had)
    rw [han, had]
    clear han had
    have HB9 := Lib.hid (HB9.out.other2 (Ne.symm HSZ.out.2.2) (.int .i64 an) (.int .i64 ad))
    have HB7 := Lib.hid (HB7.out.set2 (.int .i64 an) (.int .i64 ad))
    have K7 := Lib.hid (keep_set2 K6.out HS7.out (.int .i64 an) (.int .i64 ad))
    have HNB := Lib.hid ((HNB.out.other (g' := b7) 0 (.int .i64 an) (Ne.symm HG79.out.1)).other (g' := b7) 1 (.int .i64 ad) (Ne.symm HG79.out.1))
    clear k6 K6 hlt7 hlt9
    go_wp2_with fail
    clear s0 s1 f0 f1 sl
    generalize (w6.setCell ⟨b7, 0, none⟩ (.int .i64 an)).setCell ⟨b7, 1, none⟩ (.int .i64 ad) = w7 at *
    have HBS : Hid (b7 < w7.heap.size ∧ b9 < w7.heap.size ∧ g < w7.heap.size) := Lib.hid ⟨HB7.out.lt, HB9.out.lt, HNB.out.lt⟩
    go_loopw [6, 13, 43] (fun s6 s13 s43 wr => ∃ k : Nat, k ≤ N ∧ s43 = .int .i64 k ∧ s13 = .bool (decide (Fits tq) && fitsTo cols k) ∧ Keep NoS w7 wr ∧ OwnF wr w7.heap.size s6 ((cols.take k).map fqOf)) (fun _ _ s _ => (N - intOf s).toNat)
    case atStart => exact ⟨0, by omega, rfl, by simp [fitsTo], Keep.refl _ _, OwnG.nil _ _⟩
    case round =>
      obtain ⟨k, hk, rfl, rfl, hkr, hou⟩ := hrel
      have HKR := Lib.hid hkr
      have HOU := Lib.hid hou
      have hlk : ((cols.take k).map fqOf).length = k := by rw [List.length_map, List.length_take, HCL.out]; omega
      have HLK := Lib.hid hlk
      obtain ⟨o6, c6, h6, _⟩ := hou.len
      rw [hlk] at h6
      subst h6
      clear hkr hou hlk
      by_cases hkn : k < N
      case pos =>
        have hlt : (k : Int) < (N : Int) := by omega
        have hkc : k < cols.length := by rw [HCL.out]; exact hkn
        obtain ⟨xb, xS, yb, yS, q0, q1, q2, q3, hqn, _, _, _, _⟩ := (HNB.out.keep HKR.out).at hkc
        have hln := (HNB.out.keep HKR.out).lt
        have CF := fun w => Lib.hid (exFrac_any w _ _ hqn (HCG.out k hkc))
        rw [fracOf_fq] at CF
        have HSU := Lib.hid (fitsTo_succ hkc)
        have HQS := Lib.hid (fqTo_succ hkc)
        generalize cols[k] = cq at *
        have hN15 : ¬ g = wr.heap.size := by omega
        go_wp2_with fail
        refine (CF _).out.mono ?_
        rintro e w8 ⟨rfl, hk8⟩
        have k8 : Keep NoS wr w8 := Keep.trans (by (repeat' (first | (with_reducible assumption) | (with_reducible exact HK.out) | (with_reducible exact Keep.refl _ _) | (with_reducible refine Keep.alloc ?_ _) | (with_reducible refine Keep.setCell ?_ _ (fun h => absurd h (by omega))) | (with_reducible refine Keep.drewN ?_ _) | (with_reducible refine Keep.drew ?_)))) hk8 fun _ _ _ h => h
        have K8 := Lib.hid (HKR.out.both k8)
        have k9 : Keep NoS w8 ((w8.alloc (.cells #[.int .i64 (fqOf cq).N, .int .i64 (fqOf cq).D] 38)).alloc (.cells #[.int .i64 (fqOf cq).N, .int .i64 (fqOf cq).D] 38)) := by have HK := Lib.hid (Keep.refl NoS w8); (repeat' (first | (with_reducible assumption) | (with_reducible exact HK.out) | (with_reducible exact Keep.refl _ _) | (with_reducible refine Keep.alloc ?_ _) | (with_reducible refine Keep.setCell ?_ _ (fun h => absurd h (by omega))) | (with_reducible refine Keep.drewN ?_ _) | (with_reducible refine Keep.drew ?_)))
        obtain ⟨v1, wA, hr1, ho1, hg1, _⟩ := app_frac (g := fqOf cq) ((HOU.out.keep k8).keep k9) (b := w8.heap.size + 1) (by (repeat (first | (refine blk_at _ _ ?_; simp; done) | (refine Blk.old ?_ _)))) (by rw [HLK.out]; omega) (Nat.le_trans K8.out.size k9.size)
        have K10 := Lib.hid ((K8.out.both k9).grown hg1 fun k hk => HOU.out.block k hk)
        rw [← HQS.out] at ho1
        have HO1 := Lib.hid ho1
        obtain ⟨o1', d1', hs1, _⟩ := ho1.len
        rw [List.length_map, List.length_take, HCL.out, Nat.min_eq_left (by omega)] at hs1
        subst hs1
        clear k8 k9 ho1 hg1 CF hqn hk8 q0 q1 q2 q3 hln
        generalize (fqOf cq).N = fn at *
        generalize (fqOf cq).D = fd at *
        generalize decide (Fits cq) = bi at *
        generalize hbo : (decide (Fits tq) && fitsTo cols k) = bo at *
        have HNX : Hid ((decide (Fits tq) && fitsTo cols (k + 1)) = (bo && bi)) := Lib.hid (by rw [HSU.out, ← Bool.and_assoc, hbo])
        clear hbo HSU
        cases bo
        case false =>
          go_wp2_with (at_builtin; refine wpList_app_run _ _ 39 _ _ rfl rfl rfl rfl hr1 ?_)
          go_roundw
          case rel => exact ⟨k + 1, by omega, by go_num, by rw [HNX.out]; rfl, K10.out, HO1.out⟩
          case measure => simp [intOf]; omega
        case true =>
          cases bi
          case false =>
            go_wp2_with (at_builtin; refine wpList_app_run _ _ 39 _ _ rfl rfl rfl rfl hr1 ?_)
            go_roundw
            case rel => exact ⟨k + 1, by omega, by go_num, by rw [HNX.out]; rfl, K10.out, HO1.out⟩
            case measure => simp [intOf]; omega
          case true =>
            go_wp2_with (at_builtin; refine wpList_app_run _ _ 39 _ _ rfl rfl rfl rfl hr1 ?_)
            go_roundw
            case rel => exact ⟨k + 1, by omega, by go_num, by rw [HNX.out]; rfl, K10.out, HO1.out⟩
            case measure => simp [intOf]; omega
      case neg =>
        have hlt : ¬ (k : Int) < (N : Int) := by omega
        obtain rfl : k = N := by omega
        have hou := HOU.out
        rw [← HCL.out, List.take_length, HCL.out] at hou
        have hso := HOKD.out
        rw [← hso]
        have HB7 := Lib.hid (HB7.out.keep HKR.out)
        have HB9 := Lib.hid (HB9.out.keep HKR.out)
        have KR := Lib.hid (K7.out.both HKR.out)
        have HIF := Lib.hid (OwnG.fracs hou (fun g hg => by obtain ⟨q, _, rfl⟩ := List.mem_map.1 hg; exact fqOf_i64 q))
        have HOU := Lib.hid hou
        clear hou hso HKR HNB
        cases so
        case false =>
          obtain ⟨s0, s1, f0, f1, sl⟩ := HB7.out.two
          obtain ⟨t0, t1, g0, g1, tl⟩ := HB9.out.two
          have hne := HSZ.out.2.2
          go_wp2
          refine bodyPost_ret (by simp [results, Try.results43, go_sem, s0, s1, sl, t0, t1, tl, hne]; rfl) rfl ?_
          exact ⟨_, rfl, nil_fracs _, keep_set2 (keep_set2 KR.out HS7.out _ _) HS9.out _ _⟩
        case true =>
          go_upto_region 14 with fail
          refine wp_region_inv (fun w' => Keep NoS w w' ∧ Blk w' b7 #[.int .i64 an, .int .i64 ad] ∧ Blk2 w' b9 ∧ OwnF w' w7.heap.size (.slice o6 k c6) (cols.map fqOf)) (pstS14 b7 b9 (.slice o6 k c6) an ad sb) (by kernel_rfl) (by kernel_rfl) (by kernel_rfl) (by kernel_rfl) ⟨KR.out.drew, HB7.out.keep (Keep.refl _ _).drew, ⟨_, _, HB9.out.keep (Keep.refl _ _).drew⟩, HOU.out.keep (Keep.refl _ _).drew⟩ _ (fun σ => by
            show putAll _ σ [0, 1, 2, 3, 4, 5, 6, 7] _ = _
            simp only [putAll, List.getElem?_toArray, List.getElem?_cons_zero, List.getElem?_cons_succ, Act.put, List.setIfInBounds_toArray, List.set_cons_zero, List.set_cons_succ]
            rfl) ?_ ?_
          · intro S σ w1 hC e he HK
            have he : e < 8 := he
            have hC : Keep NoS w w1 ∧ Blk w1 b7 #[.int .i64 an, .int .i64 ad] ∧ Blk2 w1 b9 ∧ OwnF w1 w7.heap.size (.slice o6 k c6) (cols.map fqOf) := hC
            obtain rfl | rfl | rfl | rfl | rfl | rfl | rfl | rfl : e = 0 ∨ e = 1 ∨ e = 2 ∨ e = 3 ∨ e = 4 ∨ e = 5 ∨ e = 6 ∨ e = 7 := by omega
            · have h4 : σ 4 = Value.slice o6 k c6 := (HK.init 4 (HK.down 4 (by kernel_rfl))).trans rfl
              rw [h4]
              refine wpOp_at (by simp only [List.getElem?_toArray, List.getElem?_cons_zero, List.getElem?_cons_succ]; rfl) (by rfl) (fun K hK => ?_)
              go_simp
              exact hK _ _ ⟨hC, fun d hd hs h => pstS14_keep trivial (Keep.refl _ _) d _ h, _, rfl, rfl⟩
            · obtain ⟨m0, m1, _, _, ml⟩ := hC.2.1.two
              refine wpOp_at (by simp only [List.getElem?_toArray, List.getElem?_cons_zero, List.getElem?_cons_succ]; rfl) (by rfl) (fun K hK => ?_)
              go_simp
              exact hK _ _ ⟨hC, fun d hd hs h => pstS14_keep trivial (Keep.refl _ _) d _ h, _, rfl, rfl⟩
            · have h6 : σ 6 = Value.bool sb := (HK.init 6 (HK.down 6 (by kernel_rfl))).trans rfl
              rw [h6]
              refine wpOp_at (by simp only [List.getElem?_toArray, List.getElem?_cons_zero, List.getElem?_cons_succ]; rfl) (by rfl) (fun K hK => ?_)
              go_simp
              exact hK _ _ ⟨hC, fun d hd hs h => pstS14_keep trivial (Keep.refl _ _) d _ h, _, rfl, rfl⟩
            · refine wpOp_at (by simp only [List.getElem?_toArray, List.getElem?_cons_zero, List.getElem?_cons_succ]; rfl) (by rfl) (fun K hK => ?_)
              go_simp
              exact hK _ _ ⟨hC, fun d hd hs h => pstS14_keep trivial (Keep.refl _ _) d _ h, _, rfl, rfl⟩
            · have h0 : σ 0 = Value.slice o6 k c6 := HK.post 0 (by kernel_rfl)
              rw [h0]
              refine wpOp_at (by simp only [List.getElem?_toArray, List.getElem?_cons_zero, List.getElem?_cons_succ]; rfl) (by rfl) (fun K hK => ?_)
              go_simp
              exact hK _ _ ⟨hC, fun d hd hs h => pstS14_keep trivial (Keep.refl _ _) d _ h, _, rfl, rfl⟩
            · have h1 : σ 1 = Value.agg #[.int .i64 an, .int .i64 ad] := HK.post 1 (by kernel_rfl)
              rw [h1]
              obtain ⟨x, y, hb⟩ := hC.2.2.1
              obtain ⟨s0, s1, g0, g1, sl⟩ := hC.2.1.two
              refine wpOp_at (by simp only [List.getElem?_toArray, List.getElem?_cons_zero, List.getElem?_cons_succ]; rfl) (by rfl) (fun K hK => ?_)
              go_simp
              exact hK _ _ ⟨⟨keep_set2 hC.1 HS7.out _ _, hC.2.1.set2 _ _, ⟨x, y, hb.other2 (Ne.symm HSZ.out.2.2) _ _⟩, own_set2 hC.2.2.2 HBS.out.1⟩, fun d hd hs h => pstS14_a (fun hq => hq.other2 (Ne.symm HSZ.out.2.2) _ _) d _ hd h, undef, rfl, hC.2.1.set2 _ _⟩
            · have h2 : σ 2 = Value.bool sb := HK.post 2 (by kernel_rfl)
              rw [h2]
              refine wpOp_at (by simp only [List.getElem?_toArray, List.getElem?_cons_zero, List.getElem?_cons_succ]; rfl) (by rfl) (fun K hK => ?_)
              go_simp
              exact hK _ _ ⟨hC, fun d hd hs h => pstS14_keep trivial (Keep.refl _ _) d _ h, _, rfl, rfl⟩
            · have h3 : σ 3 = Value.agg #[.int .i64 0, .int .i64 0] := HK.post 3 (by kernel_rfl)
              rw [h3]
              obtain ⟨x, y, hb⟩ := hC.2.2.1
              obtain ⟨s0, s1, g0, g1, sl⟩ := hb.two
              refine wpOp_at (by simp only [List.getElem?_toArray, List.getElem?_cons_zero, List.getElem?_cons_succ]; rfl) (by rfl) (fun K hK => ?_)
              go_simp
              exact hK _ _ ⟨⟨keep_set2 hC.1 HS9.out _ _, hC.2.1.other2 HSZ.out.2.2 _ _, ⟨_, _, hb.set2 _ _⟩, own_set2 hC.2.2.2 HBS.out.2.1⟩, fun d hd hs h => pstS14_b (fun hq => hq.other2 HSZ.out.2.2 _ _) d _ hd h, undef, rfl, hb.set2 _ _⟩
          · intro S σ w8 hC hS hP
            have hC : Keep NoS w w8 ∧ Blk w8 b7 #[.int .i64 an, .int .i64 ad] ∧ Blk2 w8 b9 ∧ OwnF w8 w7.heap.size (.slice o6 k c6) (cols.map fqOf) := hC
            have h4 : σ 4 = .slice o6 k c6 := hP 4 (by decide)
            have h6 : σ 6 = .bool sb := hP 6 (by decide)
            have h7 : Blk w8 b9 #[.int .i64 0, .int .i64 0] := hP 7 (by decide)
            rw [h4, h6]
            refine NoPanic.normal ?_
            obtain ⟨s0, s1, _, _, sl⟩ := hC.2.1.two
            obtain ⟨t0, t1, _, _, tl⟩ := h7.two
            go_wp2
            refine bodyPost_ret (by simp [results, Try.results43, go_sem, s0, s1, sl, t0, t1, tl]; rfl) rfl ?_
            exact ⟨_, by rw [← HAN.out.1, ← HAN.out.2], OwnG.fracs hC.2.2.2 (fun g hg => by obtain ⟨q, _, rfl⟩ := List.mem_map.1 hg; exact fqOf_i64 q), hC.1⟩
end Go.Proofs.Ytihcbmkjfacooaa
