/- Package lattice's system as it lies; what clear is to do. -/
import Derived.Test.YtamjmcdlddocgaaGreatLcC
namespace Go.Proofs.YtamjmcdlddocgaaGreat
open Go.ChangeShapes Go.WideShapes Go.RowKit
set_option linter.unusedVariables false
set_option linter.unusedSimpArgs false
def Mid (lo hi : Nat) : Nat → Nat → Prop := fun b _ => lo ≤ b ∧ b < hi
theorem Keep.midN {lo hi : Nat} {a b c : World} (h : Keep (Mid lo hi) a b) (k : Keep NoS b c) : Keep (Mid lo hi) a c := h.trans k fun _ _ _ h => h.elim
theorem Keep.mids {lo hi : Nat} {a b c : World} (h : Keep (Mid lo hi) a b) (k : Keep (Mid lo hi) b c) : Keep (Mid lo hi) a c := h.trans k fun _ _ _ h => h
theorem Keep.onlyMid {lo hi g : Nat} {a b : World} (h : Keep (OnlyG g) a b) (h1 : lo ≤ g) (h2 : g < hi) : Keep (Mid lo hi) a b := h.mono fun b o _ e => by unfold OnlyG at e; unfold Mid; omega
theorem Keep.above {lo hi : Nat} {a b : World} (h : Keep (Mid lo hi) a b) {k : Nat} (hk : k < a.heap.size) (hh : hi ≤ k ∨ k < lo) : b.heap[k]? = a.heap[k]? := h.block k hk fun o ho => by unfold Mid at ho; omega
def bdQ (q : Rat) : Bool := decide (q.den = 1 ∧ q.num.natAbs < 10 ^ 50)
def bdC (c : List (List Rat)) : Bool := c.all (·.all bdQ)
theorem bdQ_nb {q : Rat} (h : bdQ q = true) : NB 300 q := by
 obtain ⟨h1, h2⟩ := of_decide_eq_true h
 have e : q.num.natAbs < 4294967296 ^ 6 := Nat.lt_of_lt_of_le h2 (by decide)
 refine ⟨Nat.le_trans (dl_le e) (by decide), ?_⟩
 rw [h1]
 exact Nat.le_trans (dl_le (k := 1) (by decide)) (by decide)
structure YC (w0 w : World) (hi bY gc : Nat) (vr : Value) (n L cc : Nat) (xs : List ColV) : Prop where
 k : Keep NoS w0 w
 hw : hi ≤ w.heap.size
 y : Blk w bY #[vr, .int .i64 n, .slice (some ⟨gc, 0, none⟩) n cc]
 xl : xs.length = n
 ql : ∀ x ∈ xs, x.q.length = L
 c : ∃ A, Blk w gc A ∧ ∀ i (h : i < xs.length), A[i]? = some (xs[i].sv)
 cc : n ≤ cc ∧ cc ≤ maxLen
 r : ∀ x ∈ xs, NumBlk w x.g x.q ∧ w0.heap.size ≤ x.g ∧ x.g < hi
 d : ∀ i j (hi : i < xs.length) (hj : j < xs.length), i ≠ j → xs[i].g ≠ xs[j].g
 xb : ∀ x ∈ xs, x.g ≠ gc ∧ x.g ≠ bY
 yc : bY ≠ gc
 own : w0.heap.size ≤ bY ∧ bY < hi ∧ w0.heap.size ≤ gc ∧ gc < hi
theorem YC.keep {w0 w w' : World} {hi bY gc n L cc : Nat} {vr : Value} {xs : List ColV} (h : YC w0 w hi bY gc vr n L cc xs) (k : Keep NoS w w') : YC w0 w' hi bY gc vr n L cc xs where
 k := h.k.both k
 hw := Nat.le_trans h.hw k.size
 y := h.y.keep k
 xl := h.xl
 ql := h.ql
 c := by obtain ⟨A, h1, h2⟩ := h.c; exact ⟨A, h1.keep k, h2⟩
 cc := h.cc
 r := fun x hx => ⟨(h.r x hx).1.keep k, (h.r x hx).2⟩
 d := h.d
 xb := h.xb
 yc := h.yc
 own := h.own
theorem YC.at {w0 w : World} {hi bY gc n L cc : Nat} {vr : Value} {xs : List ColV} (h : YC w0 w hi bY gc vr n L cc xs) {i : Nat} (hi' : i < n) :
  ∃ g q, (∃ hx : i < xs.length, xs[i] = ⟨g, q⟩) ∧ (xs.map ColV.q).getD i [] = q ∧ w.cell? ⟨gc, i, none⟩ = some (.slice (some ⟨g, 0, none⟩) L L) ∧ w.frozen? ⟨gc, i, none⟩ = false ∧ gc < w.heap.size ∧ NumBlk w g q ∧ q.length = L ∧ w0.heap.size ≤ g ∧ g < hi ∧ g ≠ gc ∧ g ≠ bY := by
 have hx : i < xs.length := by rw [h.xl]; exact hi'
 have hm := List.getElem_mem hx
 obtain ⟨A, h1, h2⟩ := h.c
 refine ⟨xs[i].g, xs[i].q, ⟨hx, rfl⟩, by rw [List.getD_eq_getElem?_getD, List.getElem?_map, List.getElem?_eq_getElem hx]; rfl, ?_, h1.free _, h1.lt, (h.r _ hm).1, h.ql _ hm, (h.r _ hm).2.1, (h.r _ hm).2.2, h.xb _ hm⟩
 rw [h1.cell, h2 i hx]
 unfold ColV.sv
 rw [h.ql _ hm]
theorem YC.put {w0 w w' : World} {hi bY gc n L cc : Nat} {vr : Value} {xs : List ColV} (h : YC w0 w hi bY gc vr n L cc xs) {i : Nat} {g : Nat} {q q' : List Rat} (hx : ∃ hx : i < xs.length, xs[i] = ⟨g, q⟩) (hk : Keep (OnlyG g) w w') (hq : NumBlk w' g q') (hl : q'.length = L) : YC w0 w' hi bY gc vr n L cc (xs.set i ⟨g, q'⟩) := by
 obtain ⟨hx, he⟩ := hx
 have hm := List.getElem_mem hx
 have hg : xs[i].g = g := by rw [he]
 have hr := h.r _ hm
 rw [hg] at hr
 have hb := h.xb _ hm
 rw [hg] at hb
 have hin : ∀ x ∈ xs.set i ⟨g, q'⟩, x = ⟨g, q'⟩ ∨ (x ∈ xs ∧ x.g ≠ g) := by
  intro x hx'
  obtain ⟨j, hj, rfl⟩ := List.getElem_of_mem hx'
  rw [List.length_set] at hj
  rw [List.getElem_set]
  by_cases e : i = j
  ·rw [if_pos e]; exact .inl rfl
  ·rw [if_neg e]; exact .inr ⟨List.getElem_mem hj, fun eg => h.d j i hj hx (Ne.symm e) (eg.trans hg.symm)⟩
 refine ⟨h.k.trans hk (fun b o hb ho => by unfold OnlyG at ho; have := hr.2.1; omega), Nat.le_trans h.hw hk.size, h.y.sameZ (hk.sameG h.y.lt hb.2.symm), by rw [List.length_set]; exact h.xl, ?_, ?_, h.cc, ?_, ?_, ?_, h.yc, h.own⟩
 ·intro x hx'
  rcases hin x hx' with rfl | ⟨h1, _⟩
  ·exact hl
  ·exact h.ql x h1
 ·obtain ⟨A, h1, h2⟩ := h.c
  refine ⟨A, h1.sameZ (hk.sameG h1.lt hb.1.symm), fun j hj => ?_⟩
  rw [List.length_set] at hj
  rw [h2 j hj, List.getElem_set]
  by_cases e : i = j
  ·subst e
   rw [if_pos rfl]
   unfold ColV.sv
   rw [h.ql _ hm, hl, hg]
  ·rw [if_neg e]
 ·intro x hx'
  rcases hin x hx' with rfl | ⟨h1, h2⟩
  ·exact ⟨hq, hr.2⟩
  ·exact ⟨(h.r x h1).1.sameZ (hk.sameG (h.r x h1).1.lt h2), (h.r x h1).2⟩
 ·intro a b ha hb' hab
  rw [List.length_set] at ha hb'
  rw [List.getElem_set, List.getElem_set]
  by_cases e : i = a
  ·subst e
   rw [if_pos rfl, if_neg hab]
   exact fun eg => h.d i b ha hb' hab (hg.trans eg)
  ·rw [if_neg e]
   by_cases e' : i = b
   ·subst e'
    rw [if_pos rfl]
    exact fun eg => h.d a i ha hb' hab (eg.trans hg.symm)
   ·rw [if_neg e']
    exact h.d a b ha hb' hab
 ·intro x hx'
  rcases hin x hx' with rfl | ⟨h1, _⟩
  ·exact hb
  ·exact h.xb x h1
def swpL {α : Type} (l : List α) (a b : Nat) (ha : a < l.length) (hb : b < l.length) : List α := (l.set a l[b]).set b l[a]
theorem swpL_len {α : Type} {l : List α} {a b : Nat} {ha : a < l.length} {hb : b < l.length} : (swpL l a b ha hb).length = l.length := by simp [swpL]
theorem swpL_at {α : Type} {l : List α} {a b : Nat} {ha : a < l.length} {hb : b < l.length} {i : Nat} (hi : i < l.length) : (swpL l a b ha hb)[i]'(by rw [swpL_len]; exact hi) = l[if i = b then a else if i = a then b else i]'(by split; exact ha; split; exact hb; exact hi) := by
 unfold swpL
 rw [List.getElem_set, List.getElem_set]
 by_cases e : b = i
 ·subst e; simp
 ·rw [if_neg e]
  by_cases e' : a = i
  ·subst e'; simp [Ne.symm e]
  ·rw [if_neg e']; simp [Ne.symm e, Ne.symm e']
theorem swpL_mem {α : Type} {l : List α} {a b : Nat} {ha : a < l.length} {hb : b < l.length} {x : α} (hx : x ∈ swpL l a b ha hb) : x ∈ l := by
 obtain ⟨i, hi, rfl⟩ := List.getElem_of_mem hx
 rw [swpL_at (by rw [swpL_len] at hi; exact hi)]
 exact List.getElem_mem _
theorem swpL_map {α β : Type} (f : α → β) {l : List α} {a b : Nat} {ha : a < l.length} {hb : b < l.length} : (swpL l a b ha hb).map f = swpL (l.map f) a b (by simpa using ha) (by simpa using hb) := by
 simp [swpL, List.map_set]
theorem YC.swap {w0 w : World} {hi bY gc n L cc : Nat} {vr : Value} {xs : List ColV} (h : YC w0 w hi bY gc vr n L cc xs) {a b ga gb : Nat} {qa qb : List Rat} (ha : ∃ hx : a < xs.length, xs[a] = ⟨ga, qa⟩) (hb : ∃ hx : b < xs.length, xs[b] = ⟨gb, qb⟩) :
  YC w0 ((w.setCell ⟨gc, a, none⟩ (.slice (some ⟨gb, 0, none⟩) L L)).setCell ⟨gc, b, none⟩ (.slice (some ⟨ga, 0, none⟩) L L)) hi bY gc vr n L cc (swpL xs a b ha.1 hb.1) := by
 obtain ⟨ha, ea⟩ := ha
 obtain ⟨hb, eb⟩ := hb
 have hs : ∀ k, k ≠ gc → ((w.setCell ⟨gc, a, none⟩ (.slice (some ⟨gb, 0, none⟩) L L)).setCell ⟨gc, b, none⟩ (.slice (some ⟨ga, 0, none⟩) L L)).heap[k]? = w.heap[k]? := fun k hk => by
  rw [heap_setCell_other _ _ _ _ hk, heap_setCell_other _ _ _ _ hk]
 have hsa : xs[a].sv = .slice (some ⟨ga, 0, none⟩) L L := by
  have := h.ql _ (List.getElem_mem ha)
  rw [ea] at this ⊢
  unfold ColV.sv
  rw [this]
 have hsb : xs[b].sv = .slice (some ⟨gb, 0, none⟩) L L := by
  have := h.ql _ (List.getElem_mem hb)
  rw [eb] at this ⊢
  unfold ColV.sv
  rw [this]
 refine ⟨(h.k.setCell _ fun hh => absurd hh (by have := h.own; omega)).setCell _ fun hh => absurd hh (by have := h.own; omega), by simpa using h.hw, h.y.sameZ (hs _ h.yc), by rw [swpL_len]; exact h.xl, fun x hx => h.ql x (swpL_mem hx), ?_, h.cc, fun x hx => ?_, ?_, fun x hx => h.xb x (swpL_mem hx), h.yc, h.own⟩
 ·obtain ⟨A, h1, h2⟩ := h.c
  refine ⟨_, (h1.set a _).set b _, fun i hi0 => ?_⟩
  have hi' : i < xs.length := by have := hi0; rwa [swpL_len] at this
  rw [swpL_at hi']
  have hA : ∀ j (hj : j < xs.length), j < A.size := fun j hj => (Array.getElem?_eq_some_iff.1 (h2 j hj)).1
  by_cases e : i = b
  ·subst e
   simp only [if_true]
   rw [hsa]
   simp [Array.getElem?_setIfInBounds, hA i hi']
  ·by_cases e' : i = a
   ·subst e'
    simp only [if_neg e, if_true]
    rw [hsb]
    simp [Array.getElem?_setIfInBounds, hA i hi', Ne.symm e]
   ·simp only [if_neg e, if_neg e']
    rw [← h2 i hi']
    simp [Array.getElem?_setIfInBounds, Ne.symm e, Ne.symm e']
 ·have hm := swpL_mem hx
  exact ⟨(h.r x hm).1.sameZ (hs _ (h.xb x hm).1), (h.r x hm).2⟩
 ·intro i j hi' hj hij
  rw [swpL_len] at hi' hj
  rw [swpL_at hi', swpL_at hj]
  refine h.d _ _ _ _ ?_
  split <;> split <;> (try split) <;> (try split) <;> omega
theorem YC.swapKeep {w0 w : World} {hi bY gc n L cc : Nat} {vr : Value} {xs : List ColV} (h : YC w0 w hi bY gc vr n L cc xs) (a b : Nat) (u v : Value) : Keep (Mid w0.heap.size hi) w ((w.setCell ⟨gc, a, none⟩ u).setCell ⟨gc, b, none⟩ v) :=
 ((Keep.refl _ _).setCell _ fun _ => ⟨h.own.2.2.1, h.own.2.2.2⟩).setCell _ fun _ => ⟨h.own.2.2.1, h.own.2.2.2⟩
def cellQ (c : List (List Rat)) (k i : Nat) : Rat := (c.getD k []).getD i 0
def flQ (q : Rat) : Rat := ((q.num / (q.den : Int) : Int) : Rat)
def scanS (c : List (List Rat)) (i fr : Nat) : Nat → Nat × Nat
 | 0 => (0, 0)
 | d + 1 => let s := scanS c i fr d
  if cellQ c (fr + d) i = 0 then s else (if s.2 = 0 ∨ absQ (cellQ c (fr + d) i) < absQ (cellQ c s.1 i) then fr + d else s.1, s.2 + 1)
def bestI (s : Nat × Nat) : Int := if s.2 = 0 then -1 else (s.1 : Int)
theorem scan_bd {c : List (List Rat)} {i fr : Nat} : ∀ d, (scanS c i fr d).2 ≤ d ∧ ((scanS c i fr d).2 ≠ 0 → fr ≤ (scanS c i fr d).1 ∧ (scanS c i fr d).1 < fr + d ∧ cellQ c (scanS c i fr d).1 i ≠ 0)
 | 0 => ⟨Nat.le_refl _, fun h => absurd rfl h⟩
 | d + 1 => by
  obtain ⟨h1, h2⟩ := scan_bd (c := c) (i := i) (fr := fr) d
  simp only [scanS]
  split
  ·exact ⟨by omega, fun h => by have := h2 h; exact ⟨this.1, by omega, this.2.2⟩⟩
  ·rename_i hx
   refine ⟨by simp only; omega, fun _ => ?_⟩
   simp only
   split
   ·exact ⟨by omega, by omega, hx⟩
   ·rename_i hs
    have := h2 fun e => hs (.inl e)
    exact ⟨this.1, by omega, this.2.2⟩
def swpQ (c : List (List Rat)) (a b : Nat) : List (List Rat) := (c.set a (c.getD b [])).set b (c.getD a [])
theorem swpQ_eq {c : List (List Rat)} {a b : Nat} (ha : a < c.length) (hb : b < c.length) : swpL c a b ha hb = swpQ c a b := by
 unfold swpL swpQ
 rw [List.getD_eq_getElem?_getD, List.getElem?_eq_getElem hb, List.getD_eq_getElem?_getD, List.getElem?_eq_getElem ha]
 rfl
def redK (c : List (List Rat)) (i fr : Nat) : Nat → List (List Rat)
 | 0 => c
 | d + 1 => let r := redK c i fr d
  if cellQ r (fr + 1 + d) i = 0 then r else r.set (fr + 1 + d) (lessQ (r.getD (fr + 1 + d) []) (r.getD fr []) (flQ (cellQ r (fr + 1 + d) i / cellQ r fr i)))
def clearR (n i fr : Nat) : Nat → List (List Rat) → Option (Bool × List (List Rat))
 | 0, _ => none
 | f + 1, c => let s := scanS c i fr (n - fr)
  if s.2 = 0 then some (false, c) else
  let c1 := swpQ c fr s.1
  if s.2 = 1 then some (true, c1) else
  let c2 := redK c1 i fr (n - (fr + 1))
  if bdC c2 = true then clearR n i fr f c2 else none
theorem redK_len {c : List (List Rat)} {i fr : Nat} : ∀ d, (redK c i fr d).length = c.length
 | 0 => rfl
 | d + 1 => by
  simp only [redK]
  split
  ·exact redK_len d
  ·rw [List.length_set]; exact redK_len d
theorem redK_low {c : List (List Rat)} {i fr : Nat} : ∀ d k, k ≤ fr → (redK c i fr d).getD k [] = c.getD k []
 | 0, k, _ => rfl
 | d + 1, k, hk => by
  simp only [redK]
  split
  ·exact redK_low d k hk
  ·rw [List.getD_eq_getElem?_getD, List.getElem?_set_ne (by omega), ← List.getD_eq_getElem?_getD]; exact redK_low d k hk
theorem redK_high {c : List (List Rat)} {i fr : Nat} : ∀ d k, fr + 1 + d ≤ k → (redK c i fr d).getD k [] = c.getD k []
 | 0, k, _ => rfl
 | d + 1, k, hk => by
  simp only [redK]
  split
  ·exact redK_high d k (by omega)
  ·rw [List.getD_eq_getElem?_getD, List.getElem?_set_ne (by omega), ← List.getD_eq_getElem?_getD]; exact redK_high d k (by omega)
theorem redK_mid {c : List (List Rat)} {i fr : Nat} : ∀ D d k, d ≤ D → k < fr + 1 + d → (redK c i fr D).getD k [] = (redK c i fr d).getD k []
 | 0, d, k, h, _ => by rw [Nat.le_zero.1 h]
 | D + 1, d, k, h, hk => by
  by_cases e : d = D + 1
  ·rw [e]
  ·rw [← redK_mid D d k (by omega) hk]
   conv => lhs; unfold redK
   simp only
   split
   ·rfl
   ·rw [List.getD_eq_getElem?_getD, List.getElem?_set_ne (by omega), ← List.getD_eq_getElem?_getD]
theorem bdC_of {c : List (List Rat)} (h : ∀ k, k < c.length → (c.getD k []).all bdQ = true) : bdC c = true := by
 unfold bdC
 rw [List.all_eq_true]
 intro l hl
 obtain ⟨k, hk, rfl⟩ := List.getElem_of_mem hl
 have := h k hk
 rwa [List.getD_eq_getElem?_getD, List.getElem?_eq_getElem hk] at this
theorem bdC_get {c : List (List Rat)} (h : bdC c = true) (k : Nat) : (c.getD k []).all bdQ = true := by
 by_cases hk : k < c.length
 ·rw [List.getD_eq_getElem?_getD, List.getElem?_eq_getElem hk]
  exact List.all_eq_true.1 h _ (List.getElem_mem hk)
 ·rw [List.getD_eq_getElem?_getD, List.getElem?_eq_none (by omega)]; rfl
theorem redK_bd {c : List (List Rat)} {i fr D : Nat} (h1 : bdC c = true) (h2 : bdC (redK c i fr D) = true) {d : Nat} (hd : d ≤ D) : bdC (redK c i fr d) = true := by
 refine bdC_of fun k _ => ?_
 by_cases hk : k < fr + 1 + d
 ·rw [← redK_mid D d k hd hk]; exact bdC_get h2 k
 ·rw [redK_high d k (by omega)]; exact bdC_get h1 k
theorem swpQ_bd {c : List (List Rat)} (h : bdC c = true) {a b : Nat} : bdC (swpQ c a b) = true := by
 unfold bdC swpQ
 rw [List.all_eq_true]
 intro l hl
 rcases List.mem_or_eq_of_mem_set hl with hl | rfl
 ·rcases List.mem_or_eq_of_mem_set hl with hl | rfl
  ·exact List.all_eq_true.1 h l hl
  ·exact bdC_get h b
 ·exact bdC_get h a
theorem nb_fl {q : Rat} {k : Nat} (h : NB k q) (hk : 1 ≤ k) : NB k (flQ q) := by
 unfold flQ
 refine ⟨?_, ?_⟩
 ·rw [Rat.num_intCast]
  refine Nat.le_trans (dl_mono ?_) h.1
  have hd := q.den_pos
  rcases Int.le_total 0 q.num with h0 | h0
  ·have h1 : 0 ≤ q.num / (q.den : Int) := Int.ediv_nonneg h0 (by omega)
   have h2 : q.num / (q.den : Int) ≤ q.num := Int.ediv_le_self _ h0
   omega
  ·have h1 : q.num ≤ q.num / (q.den : Int) := by
    rw [Int.le_ediv_iff_mul_le (by omega)]
    have : (q.den : Int) ≥ 1 := by omega
    calc q.num * (q.den : Int) ≤ q.num * 1 := Int.mul_le_mul_of_nonpos_left h0 this
     _ = q.num := Int.mul_one _
   have h2 : q.num / (q.den : Int) ≤ 0 := by
    have := Int.ediv_le_ediv (c := (q.den : Int)) (by omega) h0
    simpa using this
   omega
 ·rw [Rat.den_intCast]
  exact Nat.le_trans (dl_le (by decide)) hk
end Go.Proofs.YtamjmcdlddocgaaGreat
