/- The law RowValue: its walk. -/
import Derived.Test.YtihcbmkjfacooaaRowFact
import Derived.Test.YtihcbmkjfacooaaRowLawE
import Derived.Test.YtihcbmkjfacooaaRatV
import Derived.Test.YtihcbmkjfacooaaOwnG
import Derived.Test.YtihcbmkjfacooaaOkOf
namespace Go.Proofs.Ytihcbmkjfacooaa
open Go.ChangeShapes Go.WideShapes Go.RowKit
set_option linter.unusedVariables false
set_option linter.unusedSimpArgs false

theorem mark_false {S : Nat → Bool} {e d : Nat} (h : mark S e d = false) : S d = false := by
  unfold mark at h
  split at h
  · cases h
  · exact h
theorem val_split (r : Rw) (nums : List Fq) : ∃ a b c d : Int, valV r nums = .tuple #[.agg #[.int .i64 a, .int .i64 b], .agg #[.int .i64 c, .int .i64 d]] ∧
    (c ≠ 0 → a = 0 ∧ b = 0) ∧ (c = 0 → (ptF r nums).1 = 0 ∧ Fits (sumK r.of nums r.of.length) ∧ a = (sumK r.of nums r.of.length).num ∧ b = (sumK r.of nums r.of.length).den) ∧ ((ptF r nums).1 = 0 → c = 0 ∨ c = 10) := by
  unfold valV
  by_cases hc : (ptF r nums).1 = 0
  · rw [if_neg (not_not_intro hc)]
    unfold fracMadeV
    by_cases hf : Fits (sumK r.of nums r.of.length)
    · rw [if_pos hf]
      exact ⟨_, _, _, _, rfl, fun h => absurd rfl h, fun _ => ⟨hc, hf, rfl, rfl⟩, fun _ => .inl rfl⟩
    · rw [if_neg hf]
      exact ⟨_, _, _, _, rfl, fun _ => ⟨rfl, rfl⟩, fun h => absurd h (by decide), fun _ => .inr rfl⟩
  · rw [if_pos hc]
    exact ⟨0, 0, _, _, rfl, fun _ => ⟨rfl, rfl⟩, fun h => absurd h hc, fun h => absurd h hc⟩
def addG (g h : Fq) : Fq := ⟨(g.q + h.q).num, (g.q + h.q).den⟩
theorem addG_q (g h : Fq) : (addG g h).q = g.q + h.q := Rat.num_divInt_den _
/-- The sum of two points, so far. -/
def addP (p q : List Fq) (n : Nat) : List Fq := (List.range n).map fun i => addG (p.getD i ⟨0, 0⟩) (q.getD i ⟨0, 0⟩)
theorem addP_succ (p q : List Fq) (n : Nat) : addP p q (n + 1) = addP p q n ++ [addG (p.getD n ⟨0, 0⟩) (q.getD n ⟨0, 0⟩)] := by
  unfold addP
  rw [List.range_succ, List.map_append]; rfl
theorem addP_length (p q : List Fq) (n : Nat) : (addP p q n).length = n := by simp [addP]
theorem addP_get {p q : List Fq} {n i : Nat} (h : i < n) : (addP p q n).getD i ⟨0, 0⟩ = addG (p.getD i ⟨0, 0⟩) (q.getD i ⟨0, 0⟩) := by
  unfold addP
  rw [List.getD_eq_getElem?_getD, List.getElem?_map, List.getElem?_range h]; rfl
theorem sumK_addP (of : List Int) (p q : List Fq) {n : Nat} : ∀ k, k ≤ n → sumK of (addP p q n) k = sumK of p k + sumK of q k
  | 0, _ => by simp [sumK, Rat.add_zero]
  | k + 1, h => by
    simp only [sumK]
    rw [sumK_addP of p q k (by omega), addP_get (by omega), addG_q]
    grind

theorem getD_fq {l : List Fq} {i : Nat} (h : i < l.length) : l.getD i ⟨0, 0⟩ = l[i] := by
  rw [List.getD_eq_getElem?_getD, List.getElem?_eq_getElem h]; rfl

def pst14 (g : Nat) (sp sq ap aq vp vq : Value) (kk : Int) (qp qq : Rat) (xn xd : Int) (ok : Bool) (S : Nat → Bool) : Nat → Value → World → Prop
  | 0, v, w => S 11 = false → PFresh g v w
  | 1, v, _ => v = sp
  | 2, v, _ => v = .int .i64 kk
  | 3, v, _ => v = ap
  | 4, v, _ => v = vp
  | 5, v, w => S 11 = false → PRat g qp v w
  | 6, v, _ => v = sq
  | 7, v, _ => v = .int .i64 kk
  | 8, v, _ => v = aq
  | 9, v, _ => v = vq
  | 10, v, w => S 11 = false → PRat g qq v w
  | 11, v, w => S 12 = false → PRat g (qp + qq) v w
  | 12, v, _ => v = .tuple #[.agg #[.int .i64 xn, .int .i64 xd], .bool ok]
  | 13, v, _ => v = .tuple #[.agg #[.int .i64 xn, .int .i64 xd], .bool ok]
  | 14, v, _ => v = .agg #[.int .i64 xn, .int .i64 xd]
  | 15, v, _ => v = .bool ok
  | 16, v, w => ∃ b, v = .pointer (some ⟨b, 0, none⟩) ∧ g ≤ b ∧ (S 17 = false → Blk w b #[.int .i64 0, .int .i64 0]) ∧ (S 17 = true → Blk w b #[.int .i64 xn, .int .i64 xd])
  | 17, _, _ => True
  | 18, v, _ => v = .bool ok
  | _, _, _ => True
theorem pst14_keep {g : Nat} {sp sq ap aq vp vq : Value} {kk : Int} {qp qq : Rat} {xn xd : Int} {ok : Bool} {S : Nat → Bool} {w w' : World} {e : Nat} (he : e ≠ 17) (k : Keep NoS w w') : ∀ (d : Nat) (v : Value), pst14 g sp sq ap aq vp vq kk qp qq xn xd ok S d v w → pst14 g sp sq ap aq vp vq kk qp qq xn xd ok (mark S e) d v w'
  | 0, v, h => fun hm => PFresh.keep (h (mark_false hm)) k
  | 1, v, h => h
  | 2, v, h => h
  | 3, v, h => h
  | 4, v, h => h
  | 5, v, h => fun hm => PRat.keep (h (mark_false hm)) k
  | 6, v, h => h
  | 7, v, h => h
  | 8, v, h => h
  | 9, v, h => h
  | 10, v, h => fun hm => PRat.keep (h (mark_false hm)) k
  | 11, v, h => fun hm => PRat.keep (h (mark_false hm)) k
  | 12, v, h => h
  | 13, v, h => h
  | 14, v, h => h
  | 15, v, h => h
  | 16, v, h => by
    obtain ⟨b, e1, e2, h1, h2⟩ := h
    refine ⟨b, e1, e2, fun hm => (h1 (mark_false hm)).keep k, fun hm => (h2 ?_).keep k⟩
    unfold mark at hm
    rwa [if_neg (by omega)] at hm
  | 17, v, h => h
  | 18, v, h => h
  | n + 19, v, h => trivial

def pst21 (g : Nat) (vc va vb : Value) (qc qa qb : Rat) (S : Nat → Bool) : Nat → Value → World → Prop
  | 0, v, _ => v = vc
  | 1, v, w => S 8 = false → PRat g qc v w
  | 2, v, w => S 7 = false → PFresh g v w
  | 3, v, _ => v = va
  | 4, v, w => S 7 = false → PRat g qa v w
  | 5, v, _ => v = vb
  | 6, v, w => S 7 = false → PRat g qb v w
  | 7, v, w => S 8 = false → PRat g (qa + qb) v w
  | 8, v, _ => v = .int .i64 0
  | 9, v, _ => v = .bool true
  | 10, v, _ => v = .bool true
  | _, _, _ => True
theorem pst21_keep {g : Nat} {vc va vb : Value} {qc qa qb : Rat} {S : Nat → Bool} {w w' : World} {e : Nat} (he : True) (k : Keep NoS w w') : ∀ (d : Nat) (v : Value), pst21 g vc va vb qc qa qb S d v w → pst21 g vc va vb qc qa qb (mark S e) d v w'
  | 0, v, h => h
  | 1, v, h => fun hm => PRat.keep (h (mark_false hm)) k
  | 2, v, h => fun hm => PFresh.keep (h (mark_false hm)) k
  | 3, v, h => h
  | 4, v, h => fun hm => PRat.keep (h (mark_false hm)) k
  | 5, v, h => h
  | 6, v, h => fun hm => PRat.keep (h (mark_false hm)) k
  | 7, v, h => fun hm => PRat.keep (h (mark_false hm)) k
  | 8, v, h => h
  | 9, v, h => h
  | 10, v, h => h
  | n + 11, v, h => trivial

theorem mark_self (S : Nat → Bool) (e : Nat) : mark S e e = true := by unfold mark; rw [if_pos rfl]
theorem mark_other {S : Nat → Bool} {e d : Nat} (h : d ≠ e) : mark S e d = S d := by unfold mark; rw [if_neg h]
theorem Blk.apartF {w : World} {b b' : Nat} {x y : Value} (h : Blk w b #[x, y]) (h' : Fresh w b') : b ≠ b' := by
  rintro rfl
  obtain ⟨t, ht⟩ := h
  unfold Fresh at h'
  rw [ht] at h'
  cases h'
theorem fracOf_form (q : Rat) : ∃ (xn xd : Int) (ok : Bool), fracOfV q = .tuple #[.agg #[.int .i64 xn, .int .i64 xd], .bool ok] ∧ (ok = true → Fits q ∧ xn = q.num ∧ xd = q.den) := by
  unfold fracOfV
  by_cases h : Fits q
  · rw [if_pos h]; exact ⟨_, _, _, rfl, fun _ => ⟨h, rfl, rfl⟩⟩
  · rw [if_neg h]; exact ⟨_, _, _, rfl, fun h => by cases h⟩
theorem pst14_add {g : Nat} {sp sq ap aq vp vq : Value} {kk : Int} {qp qq : Rat} {xn xd : Int} {ok : Bool} {S : Nat → Bool} {w w' : World} {bz : Nat} (hz : Fresh w bz) (k : Keep (AtR bz 0) w w') (h17 : S 17 = false) : ∀ (d : Nat) (v : Value), d ≠ 11 → pst14 g sp sq ap aq vp vq kk qp qq xn xd ok S d v w → pst14 g sp sq ap aq vp vq kk qp qq xn xd ok (mark S 11) d v w'
  | 0, v, _, h => fun hm => by rw [mark_self] at hm; cases hm
  | 1, v, _, h => h
  | 2, v, _, h => h
  | 3, v, _, h => h
  | 4, v, _, h => h
  | 5, v, _, h => fun hm => by rw [mark_self] at hm; cases hm
  | 6, v, _, h => h
  | 7, v, _, h => h
  | 8, v, _, h => h
  | 9, v, _, h => h
  | 10, v, _, h => fun hm => by rw [mark_self] at hm; cases hm
  | 11, v, hd, h => absurd rfl hd
  | 12, v, _, h => h
  | 13, v, _, h => h
  | 14, v, _, h => h
  | 15, v, _, h => h
  | 16, v, _, h => by
    obtain ⟨b, e1, e2, h1, h2⟩ := h
    exact ⟨b, e1, e2, fun hm => (h1 (mark_false hm)).offR ((h1 (mark_false hm)).apartF hz) k, fun hm => by rw [mark_other (by omega), h17] at hm; cases hm⟩
  | 17, v, _, h => trivial
  | 18, v, _, h => h
  | n + 19, v, _, h => trivial
theorem pst14_store {g : Nat} {sp sq ap aq vp vq : Value} {kk : Int} {qp qq : Rat} {xn xd : Int} {ok : Bool} {S : Nat → Bool} {w w' : World} {σ : Nat → Value} {b14 : Nat} (e16 : σ 16 = .pointer (some ⟨b14, 0, none⟩)) (hb : Blk w' b14 #[.int .i64 xn, .int .i64 xd]) (h11 : S 11 = true) (h12 : S 12 = true) : ∀ (d : Nat), d ≠ 17 → pst14 g sp sq ap aq vp vq kk qp qq xn xd ok S d (σ d) w → pst14 g sp sq ap aq vp vq kk qp qq xn xd ok (mark S 17) d (σ d) w'
  | 0, _, h => fun hm => by rw [mark_other (by omega), h11] at hm; cases hm
  | 1, _, h => h
  | 2, _, h => h
  | 3, _, h => h
  | 4, _, h => h
  | 5, _, h => fun hm => by rw [mark_other (by omega), h11] at hm; cases hm
  | 6, _, h => h
  | 7, _, h => h
  | 8, _, h => h
  | 9, _, h => h
  | 10, _, h => fun hm => by rw [mark_other (by omega), h11] at hm; cases hm
  | 11, _, h => fun hm => by rw [mark_other (by omega), h12] at hm; cases hm
  | 12, _, h => h
  | 13, _, h => h
  | 14, _, h => h
  | 15, _, h => h
  | 16, _, h => by
    obtain ⟨b, e1, e2, h1, h2⟩ := h
    rw [e16] at e1
    cases e1
    exact ⟨b14, e16, e2, fun hm => (by rw [mark_self] at hm; cases hm), fun _ => hb⟩
  | 17, hd, _ => absurd rfl hd
  | 18, _, h => h
  | n + 19, _, h => trivial
theorem pst21_add {g : Nat} {vc va vb : Value} {qc qa qb : Rat} {S : Nat → Bool} {w w' : World} {bz : Nat} (hz : Fresh w bz) (k : Keep (AtR bz 0) w w') : ∀ (d : Nat) (v : Value), d ≠ 7 → pst21 g vc va vb qc qa qb S d v w → pst21 g vc va vb qc qa qb (mark S 7) d v w'
  | 0, v, _, h => h
  | 1, v, _, h => fun hm => (h (mark_false hm)).off hz k
  | 2, v, _, h => fun hm => by rw [mark_self] at hm; cases hm
  | 3, v, _, h => h
  | 4, v, _, h => fun hm => by rw [mark_self] at hm; cases hm
  | 5, v, _, h => h
  | 6, v, _, h => fun hm => by rw [mark_self] at hm; cases hm
  | 7, v, hd, h => absurd rfl hd
  | 8, v, _, h => h
  | 9, v, _, h => h
  | 10, v, _, h => h
  | n + 11, v, _, h => trivial

set_option maxRecDepth 100000 in
set_option maxHeartbeats 16000000 in
theorem rowValue_walk (w : World) (v : Value) (r : Rw) (vp : Value) (p : List Fq) (vq : Value) (q : List Fq) (h : IsRow w v r) (hp : IsFracs w vp p) (hq : IsFracs w vq q) :
    Calls Try.prog 15 #[v, vp, vq] w fun e w' => e = .returned (.bool true) ∧ Below w.heap.size w w' := by
  suffices hk : Calls Try.prog 15 #[v, vp, vq] w fun e w' => e = .returned (.bool true) ∧ Keep NoS w w' from hk.mono fun e w' ⟨h1, h2⟩ => ⟨h1, h2.below (Nat.le_refl _) fun _ _ h => h.elim⟩
  have CP := fun w' (k : Keep NoS w w') => Lib.hid (rowValue_any w' v r vp p (h.keep k) (hp.keep k))
  have CQ := fun w' (k : Keep NoS w w') => Lib.hid (rowValue_any w' v r vq q (h.keep k) (hq.keep k))
  have HROW := Lib.hid h
  have HP := Lib.hid hp
  have HQ := Lib.hid hq
  obtain ⟨a1, a2, a3, a4, ea, ha1, ha2, _⟩ := val_split r p
  obtain ⟨c1, c2, c3, c4, eb, hb1, hb2, _⟩ := val_split r q
  rw [ea] at CP
  rw [eb] at CQ
  have HA := Lib.hid (And.intro ha1 ha2)
  have HB := Lib.hid (And.intro hb1 hb2)
  obtain ⟨sv, rfl, hi, _⟩ := h
  obtain ⟨os, cs, rfl, _⟩ := hi.len
  obtain ⟨op, cp, rfl, _, _⟩ := hp.len
  obtain ⟨oq, cq, rfl, _, _⟩ := hq.len
  clear hi hp hq ea eb ha1 ha2 hb1 hb2
  go_enter Try.func15, Try.ntmps15
  go_wp2_with fail
  have B3 : Blk (w.alloc (.cells #[.slice os r.of.length cs, .int .i64 r.kind, .int .i64 r.to] 24)) w.heap.size #[.slice os r.of.length cs, .int .i64 r.kind, .int .i64 r.to] := by (repeat (first | (refine blk_at _ _ ?_; simp; done) | (refine Blk.old ?_ _)))
  have K0 : Hid (Keep NoS w (w.alloc (.cells #[.slice os r.of.length cs, .int .i64 r.kind, .int .i64 r.to] 24))) := Lib.hid (by (repeat' (first | (with_reducible assumption) | (with_reducible exact HK.out) | (with_reducible exact Keep.refl _ _) | (with_reducible refine Keep.alloc ?_ _) | (with_reducible refine Keep.setCell ?_ _ (fun h => absurd h (by omega))) | (with_reducible refine Keep.drewN ?_ _) | (with_reducible refine Keep.drew ?_))))
  have Hb3 := Lib.hid B3
  clear B3
  generalize w.alloc (.cells #[.slice os r.of.length cs, .int .i64 r.kind, .int .i64 r.to] 24) = w0 at *
  generalize hb3 : w.heap.size = b3 at Hb3 ⊢
  clear hb3
  obtain ⟨b30, b31, b32, _, _, _, b3l⟩ := Hb3.out.three
  go_wp2_with fail
  refine (rowFact_any _).mono ?_
  rintro e w1 ⟨rfl, hk⟩
  have k1 : Keep NoS w0 w1 := Keep.trans (by (repeat' (first | (with_reducible assumption) | (with_reducible exact HK.out) | (with_reducible exact Keep.refl _ _) | (with_reducible refine Keep.alloc ?_ _) | (with_reducible refine Keep.setCell ?_ _ (fun h => absurd h (by omega))) | (with_reducible refine Keep.drewN ?_ _) | (with_reducible refine Keep.drew ?_)))) hk fun _ _ _ h => h
  have K1 := Lib.hid (K0.out.both k1)
  have Hb3 := Lib.hid (Hb3.out.keep k1)
  clear b30 b31 b32 b3l hk k1
  by_cases hl : p.length = q.length
  case neg =>
    have e0 : ((p.length : Int) != (q.length : Int)) = true := by rw [bne_iff_ne]; omega
    go_wp2
    go_ret
    exact ⟨rfl, K1.out⟩
  have HLQ := Lib.hid hl
  rw [← hl] at CQ ⊢
  clear hl
  obtain ⟨b30, b31, b32, _, _, _, b3l⟩ := Hb3.out.three
  go_wp2_with fail
  refine ((CP _ K1.out).out).mono ?_
  rintro e w2 ⟨rfl, hk⟩
  have k2 : Keep NoS w1 w2 := Keep.trans (by (repeat' (first | (with_reducible assumption) | (with_reducible exact HK.out) | (with_reducible exact Keep.refl _ _) | (with_reducible refine Keep.alloc ?_ _) | (with_reducible refine Keep.setCell ?_ _ (fun h => absurd h (by omega))) | (with_reducible refine Keep.drewN ?_ _) | (with_reducible refine Keep.drew ?_)))) hk fun _ _ _ h => h
  have K2 := Lib.hid (K1.out.both k2)
  have Hb3 := Lib.hid (Hb3.out.keep k2)
  clear b30 b31 b32 b3l hk k2 CP
  obtain ⟨b30, b31, b32, _, _, _, b3l⟩ := Hb3.out.three
  have b3n0 : ¬ b3 = w2.heap.size := by omega
  have b3n1 : ¬ b3 = w2.heap.size + 1 := by omega
  go_wp2_with fail
  refine ((CQ _ ((K2.out.alloc _).alloc _)).out).mono ?_
  rintro e w3 ⟨rfl, hk⟩
  have Bb8 : Blk w3 (w2.heap.size) #[.int .i64 a1, .int .i64 a2] := Blk.keep (by (repeat (first | (with_reducible assumption) | (refine blk_at _ _ ?_; simp; done) | (refine Blk.old ?_ _)))) hk
  have Bb9 : Blk w3 (w2.heap.size + 1) #[.int .i64 a3, .int .i64 a4] := Blk.keep (by (repeat (first | (with_reducible assumption) | (refine blk_at _ _ ?_; simp; done) | (refine Blk.old ?_ _)))) hk
  have k3 : Keep NoS w2 w3 := Keep.trans (by (repeat' (first | (with_reducible assumption) | (with_reducible exact HK.out) | (with_reducible exact Keep.refl _ _) | (with_reducible refine Keep.alloc ?_ _) | (with_reducible refine Keep.setCell ?_ _ (fun h => absurd h (by omega))) | (with_reducible refine Keep.drewN ?_ _) | (with_reducible refine Keep.drew ?_)))) hk fun _ _ _ h => h
  have K3 := Lib.hid (K2.out.both k3)
  have Hb3 := Lib.hid (Hb3.out.keep k3)
  have Hb8 := Lib.hid Bb8
  have Hb9 := Lib.hid Bb9
  clear b30 b31 b32 b3l b3n0 b3n1 hk Bb8 Bb9 k3 CQ
  generalize w2.heap.size + 1 = b9 at *
  generalize w2.heap.size = b8 at *
  have HK9 := K3
  by_cases hca : a3 = 0
  case neg =>
    obtain ⟨rfl, rfl⟩ := HA.out.1 hca
    have e1 : (a3 != 0) = true := by rw [bne_iff_ne]; exact hca
    have e2 : (a3 == 0) = false := by rw [beq_eq_false_iff_ne]; exact hca
    obtain ⟨b80, b81, _, _, b8l⟩ := Hb8.out.two
    obtain ⟨b90, b91, _, _, b9l⟩ := Hb9.out.two
    have n8 : ¬ b8 = w3.heap.size := by omega
    have n8' : ¬ b8 = w3.heap.size + 1 := by omega
    have n9 : ¬ b9 = w3.heap.size := by omega
    have n9' : ¬ b9 = w3.heap.size + 1 := by omega
    have HK := K3
    go_wp2
    go_ret
    exact ⟨rfl, by (repeat' (first | (with_reducible assumption) | (with_reducible exact HK.out) | (with_reducible exact Keep.refl _ _) | (with_reducible refine Keep.alloc ?_ _) | (with_reducible refine Keep.setCell ?_ _ (fun h => absurd h (by omega))) | (with_reducible refine Keep.drewN ?_ _) | (with_reducible refine Keep.drew ?_)))⟩
  have HA2 := Lib.hid (HA.out.2 hca)
  clear HA
  by_cases hcb : c3 = 0
  case neg =>
    subst hca
    have e1 : (c3 != 0) = true := by rw [bne_iff_ne]; exact hcb
    obtain ⟨b80, b81, _, _, b8l⟩ := Hb8.out.two
    obtain ⟨b90, b91, _, _, b9l⟩ := Hb9.out.two
    have n8 : ¬ b8 = w3.heap.size := by omega
    have n8' : ¬ b8 = w3.heap.size + 1 := by omega
    have n9 : ¬ b9 = w3.heap.size := by omega
    have n9' : ¬ b9 = w3.heap.size + 1 := by omega
    have HK := K3
    go_wp2
    go_ret
    exact ⟨rfl, by (repeat' (first | (with_reducible assumption) | (with_reducible exact HK.out) | (with_reducible exact Keep.refl _ _) | (with_reducible refine Keep.alloc ?_ _) | (with_reducible refine Keep.setCell ?_ _ (fun h => absurd h (by omega))) | (with_reducible refine Keep.drewN ?_ _) | (with_reducible refine Keep.drew ?_)))⟩
  have HB2 := Lib.hid (HB.out.2 hcb)
  clear HB
  subst hca hcb
  obtain ⟨hpa, hfa, ea1, ea2⟩ := HA2.out
  obtain ⟨hpb, hfb, eb1, eb2⟩ := HB2.out
  obtain ⟨_, hok, hqp⟩ := ptF_ok hpa
  obtain ⟨_, _, hqq⟩ := ptF_ok hpb
  have HOK := Lib.hid hok
  have HQP := Lib.hid hqp
  have HQQ := Lib.hid hqq
  have HFA := Lib.hid (And.intro hfa (And.intro ea1 ea2))
  have HFB := Lib.hid (And.intro hfb (And.intro eb1 eb2))
  have h12 : p.length ≤ 12 := by have := hok.n12; omega
  obtain ⟨b80, b81, _, _, b8l⟩ := Hb8.out.two
  obtain ⟨b90, b91, _, _, b9l⟩ := Hb9.out.two
  have n8 : ¬ b8 = w3.heap.size := by omega
  have n8' : ¬ b8 = w3.heap.size + 1 := by omega
  have n9 : ¬ b9 = w3.heap.size := by omega
  have n9' : ¬ b9 = w3.heap.size + 1 := by omega
  have B10 : Blk ((w3.alloc (.cells #[.int .i64 c1, .int .i64 c2] 38)).alloc (.cells #[.int .i64 0, .int .i64 c4] 26)) w3.heap.size #[.int .i64 c1, .int .i64 c2] := by (repeat (first | (refine blk_at _ _ ?_; simp; done) | (refine Blk.old ?_ _)))
  have HK := K3
  have K4 : Hid (Keep NoS w ((w3.alloc (.cells #[.int .i64 c1, .int .i64 c2] 38)).alloc (.cells #[.int .i64 0, .int .i64 c4] 26))) := Lib.hid (by (repeat' (first | (with_reducible assumption) | (with_reducible exact HK.out) | (with_reducible exact Keep.refl _ _) | (with_reducible refine Keep.alloc ?_ _) | (with_reducible refine Keep.setCell ?_ _ (fun h => absurd h (by omega))) | (with_reducible refine Keep.drewN ?_ _) | (with_reducible refine Keep.drew ?_))))
  have HB8 := Lib.hid ((Hb8.out.old (.cells #[.int .i64 c1, .int .i64 c2] 38)).old (.cells #[.int .i64 0, .int .i64 c4] 26))
  have HB10 := Lib.hid B10
  have HB3 := Lib.hid ((Hb3.out.old (.cells #[.int .i64 c1, .int .i64 c2] 38)).old (.cells #[.int .i64 0, .int .i64 c4] 26))
  have HSZ : Hid (b8 < ((w3.alloc (.cells #[.int .i64 c1, .int .i64 c2] 38)).alloc (.cells #[.int .i64 0, .int .i64 c4] 26)).heap.size ∧ w3.heap.size < ((w3.alloc (.cells #[.int .i64 c1, .int .i64 c2] 38)).alloc (.cells #[.int .i64 0, .int .i64 c4] 26)).heap.size ∧ w.heap.size ≤ ((w3.alloc (.cells #[.int .i64 c1, .int .i64 c2] 38)).alloc (.cells #[.int .i64 0, .int .i64 c4] 26)).heap.size ∧ b3 < ((w3.alloc (.cells #[.int .i64 c1, .int .i64 c2] 38)).alloc (.cells #[.int .i64 0, .int .i64 c4] 26)).heap.size) := Lib.hid ⟨HB8.out.lt, B10.lt, K4.out.size, HB3.out.lt⟩
  clear hpa hfa ea1 ea2 hpb hfb eb1 eb2 hok hqp hqq B10 HK HA2 HB2
  go_wp2
  clear b80 b81 b8l b90 b91 b9l n8 n8' n9 n9' K3 Hb8 Hb9 Hb3 HK9
  generalize (w3.alloc (.cells #[.int .i64 c1, .int .i64 c2] 38)).alloc (.cells #[.int .i64 0, .int .i64 c4] 26) = w4 at *
  generalize w3.heap.size = b10 at *
  go_loopw [12, 13] (fun s x wr => ∃ k : Nat, k ≤ p.length ∧ x = .int .i64 k ∧ Keep NoS w wr ∧ Blk wr b8 #[.int .i64 a1, .int .i64 a2] ∧ Blk wr b10 #[.int .i64 c1, .int .i64 c2] ∧ OwnF wr w4.heap.size s (addP p q k) ∧ w4.heap.size ≤ wr.heap.size ∧ (∀ g ∈ addP p q k, FracOK g.N g.D) ∧ Blk wr b3 #[.slice os r.of.length cs, .int .i64 r.kind, .int .i64 r.to]) (fun _ s _ => (p.length - intOf s).toNat)
  case atStart => exact ⟨0, by omega, rfl, K4.out, HB8.out, HB10.out, OwnG.nil _ _, Nat.le_refl _, (fun g hg => by cases hg), HB3.out⟩
  case round =>
    obtain ⟨k, hk, rfl, hkr, hb8, hb10, hou, hsz, hfo, hb3⟩ := hrel
    have HB3 := Lib.hid hb3
    have HKR := Lib.hid hkr
    have HB8 := Lib.hid hb8
    have HB10 := Lib.hid hb10
    have HOU := Lib.hid hou
    have HFO := Lib.hid hfo
    have HSR := Lib.hid hsz
    obtain ⟨ou, cu, hu, _⟩ := hou.len
    rw [addP_length] at hu
    subst hu
    clear hkr hb8 hb10 hou hfo hsz hb3 K4
    by_cases hkl : k < p.length
    case neg =>
      have hlt : ¬ (k : Int) < (p.length : Int) := by omega
      obtain rfl : k = p.length := by omega
      have hok := HOK.out
      have HOKS : Hid (RowOK r (addP p q p.length).length) := Lib.hid (by rw [addP_length]; exact hok)
      have hi64 : ∀ g ∈ addP p q p.length, I64 g.N ∧ I64 g.D := fun g hg => by obtain ⟨h1, h2, h3, h4, _⟩ := HFO.out g hg; unfold I64; omega
      have HIF := Lib.hid (OwnG.fracs HOU.out hi64)
      have CS := fun w' (k : Keep NoS wr w') => Lib.hid (rowValue_any w' _ r _ (addP p q p.length) (HROW.out.keep (HKR.out.both k)) (HIF.out.keep k))
      obtain ⟨d1, d2, d3, d4, ed, hd1, hd2, hd3⟩ := val_split r (addP p q p.length)
      rw [ed] at CS
      have hd3 := hd3 (by rw [okPt_of HOKS.out HFO.out])
      have hsum : sumK r.of (addP p q p.length) r.of.length = sumK r.of p r.of.length + sumK r.of q r.of.length := sumK_addP r.of p q _ (by have := hok.len; omega)
      rw [hsum] at hd2
      have HD := Lib.hid hd2
      have fok : ∀ {x : Rat} {m n : Int}, Fits x → m = x.num → n = x.den → FracOK m n ∧ (⟨m, n⟩ : Fq).q = x := fun h e1 e2 => by subst e1 e2; exact ⟨fits_ok h, Rat.num_divInt_den _⟩
      have HFPA := Lib.hid (fok HFA.out.1 HFA.out.2.1 HFA.out.2.2).1
      have HFPB := Lib.hid (fok HFB.out.1 HFB.out.2.1 HFB.out.2.2).1
      have eqa := (fok HFA.out.1 HFA.out.2.1 HFA.out.2.2).2
      have eqb := (fok HFB.out.1 HFB.out.2.1 HFB.out.2.2).2
      have HFD0 : Hid (d3 = 0 → FracOK d1 d2 ∧ ((⟨d1, d2⟩ : Fq).q - ((⟨a1, a2⟩ : Fq).q + (⟨c1, c2⟩ : Fq).q)).num.sign = 0) := Lib.hid (fun h => by
        obtain ⟨_, h2, h3, h4⟩ := HD.out h
        obtain ⟨h5, h6⟩ := fok h2 h3 h4
        refine ⟨h5, ?_⟩
        rw [h6, eqa, eqb, Rat.sub_self]
        rfl)
      obtain ⟨b30, b31, b32, _, _, _, b3l⟩ := HB3.out.three
      clear hok hi64 HIF ed hd1 hd2 hsum HD fok eqa eqb HOU HFO HFA HFB HOKS
      go_wp2_with fail
      refine (CS _ (Keep.refl _ _)).out.mono ?_
      rintro e w5 ⟨rfl, hk5⟩
      have K5 := Lib.hid (HKR.out.both hk5)
      have HB8 := Lib.hid (HB8.out.keep hk5)
      have HB10 := Lib.hid (HB10.out.keep hk5)
      clear hk5 CS
      by_cases hz3 : d3 = 0
      case neg =>
        obtain rfl : d3 = 10 := by omega
        have HK := K5
        go_wp2
        go_ret
        exact ⟨rfl, by (repeat' (first | (with_reducible assumption) | (with_reducible exact HK.out) | (with_reducible exact Keep.refl _ _) | (with_reducible refine Keep.alloc ?_ _) | (with_reducible refine Keep.setCell ?_ _ (fun h => absurd h (by omega))) | (with_reducible refine Keep.drewN ?_ _) | (with_reducible refine Keep.drew ?_)))⟩
      case pos =>
        subst hz3
        have HFD := Lib.hid (HFD0.out rfl).1
        have HZERO := Lib.hid (HFD0.out rfl).2
        have HB16 : Hid (Blk ((w5.alloc (.cells #[.int .i64 d1, .int .i64 d2] 38)).alloc (.cells #[.int .i64 0, .int .i64 d4] 26)) w5.heap.size #[.int .i64 d1, .int .i64 d2]) := Lib.hid (by (repeat (first | (refine blk_at _ _ ?_; simp; done) | (refine Blk.old ?_ _))))
        have HB8 := Lib.hid ((HB8.out.old (.cells #[.int .i64 d1, .int .i64 d2] 38)).old (.cells #[.int .i64 0, .int .i64 d4] 26))
        have HB10 := Lib.hid ((HB10.out.old (.cells #[.int .i64 d1, .int .i64 d2] 38)).old (.cells #[.int .i64 0, .int .i64 d4] 26))
        have HK := K5
        have K6 : Hid (Keep NoS w ((w5.alloc (.cells #[.int .i64 d1, .int .i64 d2] 38)).alloc (.cells #[.int .i64 0, .int .i64 d4] 26))) := Lib.hid (by (repeat' (first | (with_reducible assumption) | (with_reducible exact HK.out) | (with_reducible exact Keep.refl _ _) | (with_reducible refine Keep.alloc ?_ _) | (with_reducible refine Keep.setCell ?_ _ (fun h => absurd h (by omega))) | (with_reducible refine Keep.drewN ?_ _) | (with_reducible refine Keep.drew ?_))))
        clear HFD0 hd3 HK
        go_wp2
        generalize (w5.alloc (.cells #[.int .i64 d1, .int .i64 d2] 38)).alloc (.cells #[.int .i64 0, .int .i64 d4] 26) = w6 at *
        refine wp_region_inv (fun w' => Keep NoS w6 w') (pst21 w6.heap.size (.agg #[.int .i64 d1, .int .i64 d2]) (.agg #[.int .i64 a1, .int .i64 a2]) (.agg #[.int .i64 c1, .int .i64 c2]) (⟨d1, d2⟩ : Fq).q (⟨a1, a2⟩ : Fq).q (⟨c1, c2⟩ : Fq).q) (by kernel_rfl) (by kernel_rfl) (by kernel_rfl) (by kernel_rfl) (by (repeat' (first | (with_reducible assumption) | (with_reducible exact HK.out) | (with_reducible exact Keep.refl _ _) | (with_reducible refine Keep.alloc ?_ _) | (with_reducible refine Keep.setCell ?_ _ (fun h => absurd h (by omega))) | (with_reducible refine Keep.drewN ?_ _) | (with_reducible refine Keep.drew ?_)))) _ (fun σ => by
          show putAll _ σ [0, 1, 2, 3, 4, 5, 6, 7, 8, 9, 10] _ = _
          simp only [putAll, List.getElem?_toArray, List.getElem?_cons_zero, List.getElem?_cons_succ, Act.put, List.setIfInBounds_toArray, List.set_cons_zero, List.set_cons_succ]
          rfl) ?_ ?_
        · intro S σ w1 hC e he HK
          have he : e < 11 := he
          have hC : Keep NoS w6 w1 := hC
          obtain rfl | rfl | rfl | rfl | rfl | rfl | rfl | rfl | rfl | rfl | rfl : e = 0 ∨ e = 1 ∨ e = 2 ∨ e = 3 ∨ e = 4 ∨ e = 5 ∨ e = 6 ∨ e = 7 ∨ e = 8 ∨ e = 9 ∨ e = 10 := by omega
          · obtain ⟨m0, m1, _, _, ml⟩ := (HB16.out.keep hC).two
            refine wpOp_at (by simp only [List.getElem?_toArray, List.getElem?_cons_zero, List.getElem?_cons_succ]; rfl) (by rfl) (fun K hK => ?_)
            go_simp
            exact hK _ _ ⟨hC, fun d hd hs h => pst21_keep trivial (Keep.refl _ _) d _ h, _, rfl, rfl⟩
          · have h0 : σ 0 = Value.agg #[.int .i64 d1, .int .i64 d2] := HK.post 0 (by kernel_rfl)
            rw [h0]
            obtain ⟨f1, f2, f3, f4, _⟩ := HFD.out
            refine wpOp_at (by simp only [List.getElem?_toArray, List.getElem?_cons_zero, List.getElem?_cons_succ]; rfl) (by rfl) (fun K hK => ?_)
            go_simp
            refine (refRat_any d1 d2 _ (by omega) (by omega) (by omega) (by omega) (by omega)).mono ?_
            rintro e w2 ⟨b2, hb2, rfl, hk2, hi2⟩
            exact hK _ _ ⟨hC.both hk2, fun d hd hs h => pst21_keep trivial hk2 d _ h, _, rfl, fun _ => ⟨b2, rfl, Nat.le_trans hC.size hb2, hi2⟩⟩
          · refine wpOp_at (by simp only [List.getElem?_toArray, List.getElem?_cons_zero, List.getElem?_cons_succ]; rfl) (by rfl) (fun K hK => ?_)
            go_simp
            exact hK _ _ ⟨hC.alloc _, fun d hd hs h => pst21_keep trivial ((Keep.refl _ _).alloc _) d _ h, _, rfl, fun _ => ⟨w1.heap.size, rfl, hC.size, Fresh.new w1⟩⟩
          · obtain ⟨m0, m1, _, _, ml⟩ := (HB8.out.keep hC).two
            refine wpOp_at (by simp only [List.getElem?_toArray, List.getElem?_cons_zero, List.getElem?_cons_succ]; rfl) (by rfl) (fun K hK => ?_)
            go_simp
            exact hK _ _ ⟨hC, fun d hd hs h => pst21_keep trivial (Keep.refl _ _) d _ h, _, rfl, rfl⟩
          · have h3 : σ 3 = Value.agg #[.int .i64 a1, .int .i64 a2] := HK.post 3 (by kernel_rfl)
            rw [h3]
            obtain ⟨f1, f2, f3, f4, _⟩ := HFPA.out
            refine wpOp_at (by simp only [List.getElem?_toArray, List.getElem?_cons_zero, List.getElem?_cons_succ]; rfl) (by rfl) (fun K hK => ?_)
            go_simp
            refine (refRat_any a1 a2 _ (by omega) (by omega) (by omega) (by omega) (by omega)).mono ?_
            rintro e w2 ⟨b2, hb2, rfl, hk2, hi2⟩
            exact hK _ _ ⟨hC.both hk2, fun d hd hs h => pst21_keep trivial hk2 d _ h, _, rfl, fun _ => ⟨b2, rfl, Nat.le_trans hC.size hb2, hi2⟩⟩
          · obtain ⟨m0, m1, _, _, ml⟩ := (HB10.out.keep hC).two
            refine wpOp_at (by simp only [List.getElem?_toArray, List.getElem?_cons_zero, List.getElem?_cons_succ]; rfl) (by rfl) (fun K hK => ?_)
            go_simp
            exact hK _ _ ⟨hC, fun d hd hs h => pst21_keep trivial (Keep.refl _ _) d _ h, _, rfl, rfl⟩
          · have h5 : σ 5 = Value.agg #[.int .i64 c1, .int .i64 c2] := HK.post 5 (by kernel_rfl)
            rw [h5]
            obtain ⟨f1, f2, f3, f4, _⟩ := HFPB.out
            refine wpOp_at (by simp only [List.getElem?_toArray, List.getElem?_cons_zero, List.getElem?_cons_succ]; rfl) (by rfl) (fun K hK => ?_)
            go_simp
            refine (refRat_any c1 c2 _ (by omega) (by omega) (by omega) (by omega) (by omega)).mono ?_
            rintro e w2 ⟨b2, hb2, rfl, hk2, hi2⟩
            exact hK _ _ ⟨hC.both hk2, fun d hd hs h => pst21_keep trivial hk2 d _ h, _, rfl, fun _ => ⟨b2, rfl, Nat.le_trans hC.size hb2, hi2⟩⟩
          · obtain ⟨bz, ez, hgz, hz⟩ := (show S 7 = false → PFresh w6.heap.size (σ 2) w1 from HK.post 2 (by kernel_rfl)) HK.self
            obtain ⟨bx, ex, hgx, hx⟩ := (show S 7 = false → PRat w6.heap.size (⟨a1, a2⟩ : Fq).q (σ 4) w1 from HK.post 4 (by kernel_rfl)) HK.self
            obtain ⟨bt, et, hgt, ht⟩ := (show S 7 = false → PRat w6.heap.size (⟨c1, c2⟩ : Fq).q (σ 6) w1 from HK.post 6 (by kernel_rfl)) HK.self
            rw [ez, ex, et]
            refine wpOp_at (by simp only [List.getElem?_toArray, List.getElem?_cons_zero, List.getElem?_cons_succ]; rfl) (by rfl) (fun K hK => ?_)
            go_simp
            refine (wAdd_any w1 bz 0 bx 0 bt 0 _ _ hz.rhdr hx ht ((nb_frac HFPA.out).mono (by omega)) ((nb_frac HFPB.out).mono (by omega))).mono ?_
            rintro e w2 ⟨rfl, hk2, hi2⟩
            exact hK _ _ ⟨hC.newerR hk2 hgz, fun d hd hs h => pst21_add hz hk2 d _ hd h, _, rfl, fun _ => ⟨bz, rfl, hgz, hi2⟩⟩
          · obtain ⟨bx, ex, hgx, hx⟩ := (show S 8 = false → PRat w6.heap.size (⟨d1, d2⟩ : Fq).q (σ 1) w1 from HK.post 1 (by kernel_rfl)) HK.self
            obtain ⟨bt, et, hgt, ht⟩ := (show S 8 = false → PRat w6.heap.size ((⟨a1, a2⟩ : Fq).q + (⟨c1, c2⟩ : Fq).q) (σ 7) w1 from HK.post 7 (by kernel_rfl)) HK.self
            rw [ex, et]
            refine wpOp_at (by simp only [List.getElem?_toArray, List.getElem?_cons_zero, List.getElem?_cons_succ]; rfl) (by rfl) (fun K hK => ?_)
            go_simp
            refine (wCmp_any w1 bx 0 bt 0 _ _ hx ht ((nb_frac HFD.out).mono (by omega)) (((nb_frac HFPA.out).add (nb_frac HFPB.out)).mono (by omega))).mono ?_
            rintro e w2 ⟨rfl, hk2⟩
            rw [HZERO.out]
            exact hK _ _ ⟨hC.both hk2, fun d hd hs h => pst21_keep trivial hk2 d _ h, _, rfl, rfl⟩
          · have h8 : σ 8 = Value.int .i64 0 := HK.post 8 (by kernel_rfl)
            rw [h8]
            refine wpOp_at (by simp only [List.getElem?_toArray, List.getElem?_cons_zero, List.getElem?_cons_succ]; rfl) (by rfl) (fun K hK => ?_)
            go_simp
            exact hK _ _ ⟨hC, fun d hd hs h => pst21_keep trivial (Keep.refl _ _) d _ h, _, rfl, rfl⟩
          · have h9 : σ 9 = Value.bool true := HK.post 9 (by kernel_rfl)
            rw [h9]
            refine wpOp_at (by simp only [List.getElem?_toArray, List.getElem?_cons_zero, List.getElem?_cons_succ]; rfl) (by rfl) (fun K hK => ?_)
            go_simp
            exact hK _ _ ⟨hC, fun d hd hs h => pst21_keep trivial (Keep.refl _ _) d _ h, _, rfl, rfl⟩
        · intro S σ w7 hC hS hP
          have hC : Keep NoS w6 w7 := hC
          have h10 : σ 10 = .bool true := hP 10 (by decide)
          rw [h10]
          refine NoPanic.normal ?_
          have K7 := Lib.hid (K6.out.both hC)
          clear hP hS hC h10
          go_wp2
          go_ret
          exact ⟨rfl, K7.out⟩
    case pos =>
      have hlt : (k : Int) < (p.length : Int) := by omega
      have hkq : k < q.length := by have := HLQ.out; omega
      obtain ⟨b, o, rfl, hbl, p0, p1⟩ := HP.out.at hkl
      obtain ⟨b', o', rfl, hbl', r0, r1⟩ := HQ.out.at hkq
      have HMP := Lib.hid (And.intro hbl (And.intro p0 (And.intro p1 (And.intro hbl' (And.intro r0 r1)))))
      have hgp := HQP.out _ (List.getElem_mem hkl)
      have hgq := HQQ.out _ (List.getElem_mem hkq)
      have np := (nb_frac hgp).mono (k := 2000) (by omega)
      have nq := (nb_frac hgq).mono (k := 2000) (by omega)
      have npq := ((nb_frac hgp).add (nb_frac hgq)).mono (k := 2000) (by omega)
      have HNB := Lib.hid (And.intro np (And.intro nq npq))
      have HAS := Lib.hid (addP_succ p q k)
      rw [getD_fq hkl, getD_fq hkq] at HAS
      obtain ⟨d1, d2, d3, d4, _⟩ := hgp
      obtain ⟨d5, d6, d7, d8, _⟩ := hgq
      obtain ⟨xn, xd, ok, hfo, hfx⟩ := fracOf_form (p[k].q + q[k].q)
      have HFOF := Lib.hid hfo
      have HFX := Lib.hid (show ok = true → Fits (p[k].q + q[k].q) ∧ addG p[k] q[k] = ⟨xn, xd⟩ from fun h => ⟨(hfx h).1, by unfold addG; rw [(hfx h).2.1, (hfx h).2.2]⟩)
      generalize hg1 : p[k] = gp at *
      generalize hg2 : q[k] = gq at *
      clear hg1 hg2 p0 p1 r0 r1 np nq npq hfo hfx
      go_wp2
      have hbr := Nat.lt_of_lt_of_le hbl HKR.out.size
      have hbr' := Nat.lt_of_lt_of_le hbl' HKR.out.size
      refine wp_region_inv (fun w' => Keep NoS wr w') (pst14 wr.heap.size (.slice (some ⟨b, o, none⟩) p.length cp) (.slice (some ⟨b', o', none⟩) p.length cq) (.pointer (some ⟨b, o + k * 2, none⟩)) (.pointer (some ⟨b', o' + k * 2, none⟩)) (.agg #[.int .i64 gp.N, .int .i64 gp.D]) (.agg #[.int .i64 gq.N, .int .i64 gq.D]) k gp.q gq.q xn xd ok) (by kernel_rfl) (by kernel_rfl) (by kernel_rfl) (by kernel_rfl) (by (repeat' (first | (with_reducible assumption) | (with_reducible exact HK.out) | (with_reducible exact Keep.refl _ _) | (with_reducible refine Keep.alloc ?_ _) | (with_reducible refine Keep.setCell ?_ _ (fun h => absurd h (by omega))) | (with_reducible refine Keep.drewN ?_ _) | (with_reducible refine Keep.drew ?_)))) _ (fun σ => by
        show putAll _ σ [0, 1, 2, 3, 4, 5, 6, 7, 8, 9, 10, 11, 12, 13, 14, 15, 16, 17, 18] _ = _
        simp only [putAll, List.getElem?_toArray, List.getElem?_cons_zero, List.getElem?_cons_succ, Act.put, List.setIfInBounds_toArray, List.set_cons_zero, List.set_cons_succ]
        rfl) ?_ ?_
      · intro S σ w1 hC e he HK
        have he : e < 19 := he
        have hC : Keep NoS wr w1 := hC
        obtain rfl | rfl | rfl | rfl | rfl | rfl | rfl | rfl | rfl | rfl | rfl | rfl | rfl | rfl | rfl | rfl | rfl | rfl | rfl : e = 0 ∨ e = 1 ∨ e = 2 ∨ e = 3 ∨ e = 4 ∨ e = 5 ∨ e = 6 ∨ e = 7 ∨ e = 8 ∨ e = 9 ∨ e = 10 ∨ e = 11 ∨ e = 12 ∨ e = 13 ∨ e = 14 ∨ e = 15 ∨ e = 16 ∨ e = 17 ∨ e = 18 := by omega
        · refine wpOp_at (by simp only [List.getElem?_toArray, List.getElem?_cons_zero, List.getElem?_cons_succ]; rfl) (by rfl) (fun K hK => ?_)
          go_simp
          exact hK _ _ ⟨hC.alloc _, fun d hd hs h => pst14_keep (by decide) ((Keep.refl _ _).alloc _) d _ h, _, rfl, fun _ => ⟨w1.heap.size, rfl, hC.size, Fresh.new w1⟩⟩
        · refine wpOp_at (by simp only [List.getElem?_toArray, List.getElem?_cons_zero, List.getElem?_cons_succ]; rfl) (by rfl) (fun K hK => ?_)
          go_simp
          exact hK _ _ ⟨hC, fun d hd hs h => pst14_keep (by decide) (Keep.refl _ _) d _ h, _, rfl, rfl⟩
        · refine wpOp_at (by simp only [List.getElem?_toArray, List.getElem?_cons_zero, List.getElem?_cons_succ]; rfl) (by rfl) (fun K hK => ?_)
          go_simp
          exact hK _ _ ⟨hC, fun d hd hs h => pst14_keep (by decide) (Keep.refl _ _) d _ h, _, rfl, rfl⟩
        · have h1 : σ 1 = Value.slice (some ⟨b, o, none⟩) p.length cp := HK.post 1 (by kernel_rfl)
          rw [h1]
          have h2 : σ 2 = Value.int .i64 k := HK.post 2 (by kernel_rfl)
          rw [h2]
          refine wpOp_at (by simp only [List.getElem?_toArray, List.getElem?_cons_zero, List.getElem?_cons_succ]; rfl) (by rfl) (fun K hK => ?_)
          go_simp
          exact hK _ _ ⟨hC, fun d hd hs h => pst14_keep (by decide) (Keep.refl _ _) d _ h, _, rfl, rfl⟩
        · have h3 : σ 3 = Value.pointer (some ⟨b, o + k * 2, none⟩) := HK.post 3 (by kernel_rfl)
          rw [h3]
          have m0 := (hC.cell hbr).trans ((HKR.out.cell hbl).trans HMP.out.2.1)
          have m1 := (hC.cell hbr).trans ((HKR.out.cell hbl).trans HMP.out.2.2.1)
          refine wpOp_at (by simp only [List.getElem?_toArray, List.getElem?_cons_zero, List.getElem?_cons_succ]; rfl) (by rfl) (fun K hK => ?_)
          go_simp
          exact hK _ _ ⟨hC, fun d hd hs h => pst14_keep (by decide) (Keep.refl _ _) d _ h, _, rfl, rfl⟩
        · have h4 : σ 4 = Value.agg #[.int .i64 gp.N, .int .i64 gp.D] := HK.post 4 (by kernel_rfl)
          rw [h4]
          refine wpOp_at (by simp only [List.getElem?_toArray, List.getElem?_cons_zero, List.getElem?_cons_succ]; rfl) (by rfl) (fun K hK => ?_)
          go_simp
          refine (refRat_any gp.N gp.D _ (by omega) (by omega) (by omega) (by omega) (by omega)).mono ?_
          rintro e w2 ⟨b2, hb2, rfl, hk2, hi2⟩
          exact hK _ _ ⟨hC.both hk2, fun d hd hs h => pst14_keep (by decide) hk2 d _ h, _, rfl, fun _ => ⟨b2, rfl, Nat.le_trans hC.size hb2, hi2⟩⟩
        · refine wpOp_at (by simp only [List.getElem?_toArray, List.getElem?_cons_zero, List.getElem?_cons_succ]; rfl) (by rfl) (fun K hK => ?_)
          go_simp
          exact hK _ _ ⟨hC, fun d hd hs h => pst14_keep (by decide) (Keep.refl _ _) d _ h, _, rfl, rfl⟩
        · refine wpOp_at (by simp only [List.getElem?_toArray, List.getElem?_cons_zero, List.getElem?_cons_succ]; rfl) (by rfl) (fun K hK => ?_)
          go_simp
          exact hK _ _ ⟨hC, fun d hd hs h => pst14_keep (by decide) (Keep.refl _ _) d _ h, _, rfl, rfl⟩
        · have h6 : σ 6 = Value.slice (some ⟨b', o', none⟩) p.length cq := HK.post 6 (by kernel_rfl)
          rw [h6]
          have h7 : σ 7 = Value.int .i64 k := HK.post 7 (by kernel_rfl)
          rw [h7]
          refine wpOp_at (by simp only [List.getElem?_toArray, List.getElem?_cons_zero, List.getElem?_cons_succ]; rfl) (by rfl) (fun K hK => ?_)
          go_simp
          exact hK _ _ ⟨hC, fun d hd hs h => pst14_keep (by decide) (Keep.refl _ _) d _ h, _, rfl, rfl⟩
        · have h8 : σ 8 = Value.pointer (some ⟨b', o' + k * 2, none⟩) := HK.post 8 (by kernel_rfl)
          rw [h8]
          have m0 := (hC.cell hbr').trans ((HKR.out.cell hbl').trans HMP.out.2.2.2.2.1)
          have m1 := (hC.cell hbr').trans ((HKR.out.cell hbl').trans HMP.out.2.2.2.2.2)
          refine wpOp_at (by simp only [List.getElem?_toArray, List.getElem?_cons_zero, List.getElem?_cons_succ]; rfl) (by rfl) (fun K hK => ?_)
          go_simp
          exact hK _ _ ⟨hC, fun d hd hs h => pst14_keep (by decide) (Keep.refl _ _) d _ h, _, rfl, rfl⟩
        · have h9 : σ 9 = Value.agg #[.int .i64 gq.N, .int .i64 gq.D] := HK.post 9 (by kernel_rfl)
          rw [h9]
          refine wpOp_at (by simp only [List.getElem?_toArray, List.getElem?_cons_zero, List.getElem?_cons_succ]; rfl) (by rfl) (fun K hK => ?_)
          go_simp
          refine (refRat_any gq.N gq.D _ (by omega) (by omega) (by omega) (by omega) (by omega)).mono ?_
          rintro e w2 ⟨b2, hb2, rfl, hk2, hi2⟩
          exact hK _ _ ⟨hC.both hk2, fun d hd hs h => pst14_keep (by decide) hk2 d _ h, _, rfl, fun _ => ⟨b2, rfl, Nat.le_trans hC.size hb2, hi2⟩⟩
        · obtain ⟨bz, ez, hgz, hz⟩ := (show S 11 = false → PFresh wr.heap.size (σ 0) w1 from HK.post 0 (by kernel_rfl)) HK.self
          obtain ⟨bx, ex, hgx, hx⟩ := (show S 11 = false → PRat wr.heap.size gp.q (σ 5) w1 from HK.post 5 (by kernel_rfl)) HK.self
          obtain ⟨bt, et, hgt, ht⟩ := (show S 11 = false → PRat wr.heap.size gq.q (σ 10) w1 from HK.post 10 (by kernel_rfl)) HK.self
          rw [ez, ex, et]
          refine wpOp_at (by simp only [List.getElem?_toArray, List.getElem?_cons_zero, List.getElem?_cons_succ]; rfl) (by rfl) (fun K hK => ?_)
          go_simp
          refine (wAdd_any w1 bz 0 bx 0 bt 0 _ _ hz.rhdr hx ht HNB.out.1 HNB.out.2.1).mono ?_
          rintro e w2 ⟨rfl, hk2, hi2⟩
          exact hK _ _ ⟨hC.newerR hk2 hgz, fun d hd hs h => pst14_add hz hk2 (HK.down 17 (by kernel_rfl)) d _ hd h, _, rfl, fun _ => ⟨bz, rfl, hgz, hi2⟩⟩
        · obtain ⟨bz, ez, hgz, hz⟩ := (show S 12 = false → PRat wr.heap.size (gp.q + gq.q) (σ 11) w1 from HK.post 11 (by kernel_rfl)) HK.self
          rw [ez]
          refine wpOp_at (by simp only [List.getElem?_toArray, List.getElem?_cons_zero, List.getElem?_cons_succ]; rfl) (by rfl) (fun K hK => ?_)
          go_simp
          refine (fracOf_any w1 bz 0 (gp.q + gq.q) hz (HNB.out.2.2.rb (by omega)).1 (HNB.out.2.2.rb (by omega)).2).mono ?_
          rintro e w2 ⟨rfl, hk2⟩
          rw [HFOF.out]
          exact hK _ _ ⟨hC.both hk2, fun d hd hs h => pst14_keep (by decide) hk2 d _ h, _, rfl, rfl⟩
        · have h12 : σ 12 = Value.tuple #[.agg #[.int .i64 xn, .int .i64 xd], .bool ok] := HK.post 12 (by kernel_rfl)
          rw [h12]
          refine wpOp_at (by simp only [List.getElem?_toArray, List.getElem?_cons_zero, List.getElem?_cons_succ]; rfl) (by rfl) (fun K hK => ?_)
          go_simp
          exact hK _ _ ⟨hC, fun d hd hs h => pst14_keep (by decide) (Keep.refl _ _) d _ h, _, rfl, rfl⟩
        · have h13 : σ 13 = Value.tuple #[.agg #[.int .i64 xn, .int .i64 xd], .bool ok] := HK.post 13 (by kernel_rfl)
          rw [h13]
          refine wpOp_at (by simp only [List.getElem?_toArray, List.getElem?_cons_zero, List.getElem?_cons_succ]; rfl) (by rfl) (fun K hK => ?_)
          go_simp
          exact hK _ _ ⟨hC, fun d hd hs h => pst14_keep (by decide) (Keep.refl _ _) d _ h, _, rfl, rfl⟩
        · have h13 : σ 13 = Value.tuple #[.agg #[.int .i64 xn, .int .i64 xd], .bool ok] := HK.post 13 (by kernel_rfl)
          rw [h13]
          refine wpOp_at (by simp only [List.getElem?_toArray, List.getElem?_cons_zero, List.getElem?_cons_succ]; rfl) (by rfl) (fun K hK => ?_)
          go_simp
          exact hK _ _ ⟨hC, fun d hd hs h => pst14_keep (by decide) (Keep.refl _ _) d _ h, _, rfl, rfl⟩
        · refine wpOp_at (by simp only [List.getElem?_toArray, List.getElem?_cons_zero, List.getElem?_cons_succ]; rfl) (by rfl) (fun K hK => ?_)
          go_simp
          exact hK _ _ ⟨hC.alloc _, fun d hd hs h => pst14_keep (by decide) ((Keep.refl _ _).alloc _) d _ h, _, rfl, ⟨w1.heap.size, rfl, hC.size, fun _ => blk_at _ _ rfl, fun hm => by rw [mark_other (by omega), HK.down 17 (by kernel_rfl)] at hm; cases hm⟩⟩
        · have h14 : σ 14 = Value.agg #[.int .i64 xn, .int .i64 xd] := HK.post 14 (by kernel_rfl)
          rw [h14]
          obtain ⟨b14, e16, hg16, hb16, _⟩ := (show ∃ b, σ 16 = .pointer (some ⟨b, 0, none⟩) ∧ wr.heap.size ≤ b ∧ (S 17 = false → Blk w1 b #[.int .i64 0, .int .i64 0]) ∧ (S 17 = true → Blk w1 b #[.int .i64 xn, .int .i64 xd]) from HK.post 16 (by kernel_rfl))
          have hb16 := hb16 HK.self
          rw [e16]
          obtain ⟨s0, s1, f0, f1, sl⟩ := hb16.two
          refine wpOp_at (by simp only [List.getElem?_toArray, List.getElem?_cons_zero, List.getElem?_cons_succ]; rfl) (by rfl) (fun K hK => ?_)
          go_simp
          exact hK _ _ ⟨keep_set2 hC hg16 _ _, fun d hd hs h => pst14_store e16 (hb16.set2 _ _) (HK.up 11 (by kernel_rfl)) (HK.up 12 (by kernel_rfl)) d hd h, undef, rfl, trivial⟩
        · have h15 : σ 15 = Value.bool ok := HK.post 15 (by kernel_rfl)
          rw [h15]
          refine wpOp_at (by simp only [List.getElem?_toArray, List.getElem?_cons_zero, List.getElem?_cons_succ]; rfl) (by rfl) (fun K hK => ?_)
          go_simp
          exact hK _ _ ⟨hC, fun d hd hs h => pst14_keep (by decide) (Keep.refl _ _) d _ h, _, rfl, rfl⟩
      · intro S σ w5 hC hS hP
        have hC : Keep NoS wr w5 := hC
        obtain ⟨b14, e16, hg16, _, hb16⟩ := (show ∃ b, σ 16 = .pointer (some ⟨b, 0, none⟩) ∧ wr.heap.size ≤ b ∧ (S 17 = false → Blk w5 b #[.int .i64 0, .int .i64 0]) ∧ (S 17 = true → Blk w5 b #[.int .i64 xn, .int .i64 xd]) from hP 16 (by decide))
        have HB14 := Lib.hid (hb16 (hS 17 (by decide)))
        have h18 : σ 18 = .bool ok := hP 18 (by decide)
        rw [e16, h18]
        refine NoPanic.normal ?_
        have HB8 := Lib.hid (HB8.out.keep hC)
        have HB10 := Lib.hid (HB10.out.keep hC)
        have HB3 := Lib.hid (HB3.out.keep hC)
        have HOU := Lib.hid (HOU.out.keep hC)
        have K5 := Lib.hid (HKR.out.both hC)
        have hs5 : w4.heap.size ≤ w5.heap.size := Nat.le_trans HSR.out hC.size
        clear hP hS hC hb16 e16 h18
        cases ok
        case false =>
          go_wp2
          go_ret
          exact ⟨rfl, K5.out⟩
        case true =>
          obtain ⟨hfit, hadd⟩ := HFX.out rfl
          rw [hadd] at HAS
          have HFG : Hid (FracOK xn xd) := Lib.hid (by have := fits_ok hfit; unfold addG at hadd; cases hadd; exact this)
          obtain ⟨q0, q1, _, _, ql⟩ := HB14.out.two
          have k6 : Keep NoS w5 (w5.alloc (.cells #[.int .i64 xn, .int .i64 xd] TF)) := (Keep.refl _ _).alloc _
          obtain ⟨v7, w7, hr7, ho7, hg7, _⟩ := app_frac (g := ⟨xn, xd⟩) (HOU.out.keep k6) (blk_at _ _ rfl) (by rw [addP_length]; omega) (Nat.le_trans hs5 k6.size)
          have hne : ∀ x, x < w4.heap.size → ∀ y, (Value.slice ou k cu).ownBlock = some y → y ≠ x := fun x hx y hy => by have := HOU.out.block y hy; omega
          have K7 := Lib.hid ((K5.out.both k6).grown hg7 fun k hk => Nat.le_trans HSZ.out.2.2.1 (HOU.out.block k hk))
          have HB87 := Lib.hid ((HB8.out.keep k6).grown hg7 (hne _ HSZ.out.1))
          have HB107 := Lib.hid ((HB10.out.keep k6).grown hg7 (hne _ HSZ.out.2.1))
          have HB37 := Lib.hid ((HB3.out.keep k6).grown hg7 (hne _ HSZ.out.2.2.2))
          rw [← HAS.out] at ho7
          have HO7 := Lib.hid ho7
          have hs7 : w4.heap.size ≤ w7.heap.size := Nat.le_trans hs5 (Nat.le_trans k6.size hg7.size)
          obtain ⟨og', cg', hu', _⟩ := ho7.len
          rw [addP_length] at hu'
          subst hu'
          clear k6 ho7 hg7 hne hfit hadd
          go_wp2_with (at_builtin; refine wpList_app_run _ _ 39 _ _ rfl rfl rfl rfl hr7 ?_)
          go_roundw
          case rel =>
            refine ⟨k + 1, by omega, by go_num, K7.out, HB87.out, HB107.out, HO7.out, hs7, fun g hg => ?_, HB37.out⟩
            rw [HAS.out] at hg
            rcases List.mem_append.1 hg with hg | hg
            · exact HFO.out g hg
            · rw [List.mem_singleton] at hg; subst hg; exact HFG.out
          case measure => simp [intOf]; omega
end Go.Proofs.Ytihcbmkjfacooaa
