/- Package lattice's solution as it lies; what step is to do. -/
import Derived.Test.YtamjmcdlddocgaaGreatLcE
namespace Go.Proofs.YtamjmcdlddocgaaGreat
open Go.ChangeShapes Go.WideShapes Go.RowKit
set_option linter.unusedVariables false
set_option linter.unusedSimpArgs false
structure FnV where
 sv : Value
 q : List Rat
def fnC (x : FnV) : List Value := [x.sv]
theorem fnC_len (x : FnV) : (fnC x).length = 1 := rfl
structure SX (w : World) (hi bS bY : Nat) (c1 c2 c3 pv qv fv : Value) (piv : List Int) (part : List Rat) (fs : List FnV) : Prop where
 s : Blk w bS #[.pointer (some ⟨bY, 0, none⟩), c1, c2, c3]
 hb : hi ≤ bS
 hh : hi ≤ w.heap.size
 p : OwnI w hi pv piv
 q : OwnN w hi qv part
 f : OwnG TYN 1 fnC w hi fv fs
 l : ∀ x ∈ fs, OwnN w hi x.sv x.q ∧ pv.ownBlock ≠ some bS ∧ x.sv.ownBlock ≠ some bS ∧ Apart pv x.sv ∧ Apart qv x.sv ∧ Apart fv x.sv
 apq : Apart pv qv
 apf : Apart pv fv
 aqf : Apart qv fv
 nb : pv.ownBlock ≠ some bS ∧ qv.ownBlock ≠ some bS ∧ fv.ownBlock ≠ some bS
abbrev SS (w : World) (hi bS bY : Nat) (pv qv fv : Value) (piv : List Int) (part : List Rat) (fs : List FnV) : Prop := SX w hi bS bY pv qv fv pv qv fv piv part fs
def SClear (c bS : Nat) (pv qv fv : Value) (fs : List FnV) : Prop := c ≠ bS ∧ pv.ownBlock ≠ some c ∧ qv.ownBlock ≠ some c ∧ fv.ownBlock ≠ some c ∧ ∀ x ∈ fs, x.sv.ownBlock ≠ some c
theorem OwnI.ltZ {w : World} {base : Nat} {v : Value} {xs : List Int} (h : OwnI w base v xs) : ∀ k, v.ownBlock = some k → k < w.heap.size := fun k hk => (World.ownsRow.lt h k hk).2
theorem OwnN.ltZ {w : World} {base : Nat} {v : Value} {qs : List Rat} (h : OwnN w base v qs) : ∀ k, v.ownBlock = some k → k < w.heap.size := by
 obtain ⟨l, _, h⟩ := h
 exact fun k hk => (World.ownsRow.lt h k hk).2
theorem OwnN.sameZ {w w' : World} {base : Nat} {v : Value} {qs : List Rat} (h : OwnN w base v qs) (he : ∀ k, v.ownBlock = some k → w'.heap[k]? = w.heap[k]?) : OwnN w' base v qs := by
 obtain ⟨l, hA, h⟩ := h
 exact ⟨l, hA, ownsRow_sameZ h he⟩
variable {w : World} {hi bS bY : Nat} {c1 c2 c3 pv qv fv : Value} {piv : List Int} {part : List Rat} {fs : List FnV}
theorem SX.fresh (h : SX w hi bS bY c1 c2 c3 pv qv fv piv part fs) {c : Nat} (hc : w.heap.size ≤ c) : SClear c bS pv qv fv fs :=
 ⟨fun e => by have := h.s.lt; omega, fun e => by have := h.p.ltZ c e; omega, fun e => by have := h.q.ltZ c e; omega, fun e => by have := h.f.lt c e; omega, fun x hx e => by have := (h.l x hx).1.ltZ c e; omega⟩
theorem SX.off {w' : World} (h : SX w hi bS bY c1 c2 c3 pv qv fv piv part fs) (hs : w.heap.size ≤ w'.heap.size) (ho : ∀ b, b < w.heap.size → hi ≤ b → (b = bS ∨ pv.ownBlock = some b ∨ qv.ownBlock = some b ∨ fv.ownBlock = some b ∨ ∃ x ∈ fs, x.sv.ownBlock = some b) → w'.heap[b]? = w.heap[b]?) : SX w' hi bS bY c1 c2 c3 pv qv fv piv part fs where
 s := h.s.sameZ (ho _ h.s.lt h.hb (.inl rfl))
 hb := h.hb
 hh := Nat.le_trans h.hh hs
 p := ownsRow_sameZ h.p fun k hk => ho k (h.p.ltZ k hk) (h.p.block k hk) (.inr (.inl hk))
 q := h.q.sameZ fun k hk => ho k (h.q.ltZ k hk) (h.q.block k hk) (.inr (.inr (.inl hk)))
 f := ownsRow_sameZ h.f fun k hk => ho k (h.f.lt k hk) (h.f.block k hk) (.inr (.inr (.inr (.inl hk))))
 l := fun x hx => ⟨(h.l x hx).1.sameZ fun k hk => ho k ((h.l x hx).1.ltZ k hk) ((h.l x hx).1.block k hk) (.inr (.inr (.inr (.inr ⟨x, hx, hk⟩)))), (h.l x hx).2⟩
 apq := h.apq
 apf := h.apf
 aqf := h.aqf
 nb := h.nb
theorem SX.keep {w' : World} (h : SX w hi bS bY c1 c2 c3 pv qv fv piv part fs) (k : Keep NoS w w') : SX w' hi bS bY c1 c2 c3 pv qv fv piv part fs := h.off k.size fun b hb _ _ => k.block b hb fun _ h => h
theorem SX.mid {w' : World} {lo : Nat} (h : SX w hi bS bY c1 c2 c3 pv qv fv piv part fs) (k : Keep (Mid lo hi) w w') : SX w' hi bS bY c1 c2 c3 pv qv fv piv part fs := h.off k.size fun b hb h2 _ => k.above hb (.inl h2)
theorem SX.only {w' : World} {g : Nat} (h : SX w hi bS bY c1 c2 c3 pv qv fv piv part fs) (k : Keep (OnlyG g) w w') (hc : SClear g bS pv qv fv fs) : SX w' hi bS bY c1 c2 c3 pv qv fv piv part fs :=
 h.off k.size fun b hb _ ho => k.sameG hb fun e => by
  subst e
  rcases ho with h1 | h1 | h1 | h1 | ⟨x, hx, h1⟩
  ·exact hc.1 h1
  ·exact hc.2.1 h1
  ·exact hc.2.2.1 h1
  ·exact hc.2.2.2.1 h1
  ·exact hc.2.2.2.2 x hx h1
theorem grown_apart {w w' : World} {v v' : Value} (hlt : ∀ k, v.ownBlock = some k → k < w.heap.size) (hv : v'.ownBlock = v.ownBlock ∨ v'.ownBlock = some w.heap.size) {k : Nat} (hk : k < w.heap.size) (hn : v.ownBlock ≠ some k) : v'.ownBlock ≠ some k := by
 intro e
 rcases hv with h | h
 ·rw [h] at e; exact hn e
 ·rw [h] at e; cases e; omega
theorem SX.pushP {w' : World} {v' : Value} (h : SX w hi bS bY c1 c2 c3 pv qv fv piv part fs) (x : Int) (ho : OwnI w' hi v' (piv ++ [x])) (hg : w.grownBy w' pv.ownBlock) (hv : v'.ownBlock = pv.ownBlock ∨ v'.ownBlock = some w.heap.size) : SX w' hi bS bY c1 c2 c3 v' qv fv (piv ++ [x]) part fs := by
 have hb : ∀ b, b < w.heap.size → pv.ownBlock ≠ some b → w'.heap[b]? = w.heap[b]? := fun b hb hn => hg.block b hb fun e => hn e.symm
 have ha := fun k hk hn => grown_apart (w := w) (w' := w') h.p.ltZ hv (k := k) hk hn
 refine ⟨h.s.sameZ (hb _ h.s.lt h.nb.1), h.hb, Nat.le_trans h.hh hg.size, ho, h.q.sameZ fun k hk => hb k (h.q.ltZ k hk) fun e => h.apq k e hk, ownsRow_sameZ h.f fun k hk => hb k (h.f.lt k hk) fun e => h.apf k e hk, fun y hy => ?_, ?_, ?_, h.aqf, ha _ h.s.lt h.nb.1, h.nb.2⟩
 ·obtain ⟨a1, a2, a3, a4, a5⟩ := h.l y hy
  exact ⟨a1.sameZ fun k hk => hb k (a1.ltZ k hk) fun e => a4 k e hk, ha _ h.s.lt h.nb.1, a3, fun k hk e => ha k (a1.ltZ k e) (fun e' => a4 k e' e) hk, a5⟩
 ·exact fun k hk e => ha k (h.q.ltZ k e) (fun e' => h.apq k e' e) hk
 ·exact fun k hk e => ha k (h.f.lt k e) (fun e' => h.apf k e' e) hk
theorem SX.pushQ {w' : World} {v' : Value} (h : SX w hi bS bY c1 c2 c3 pv qv fv piv part fs) (x : Rat) (ho : OwnN w' hi v' (part ++ [x])) (hg : w.grownBy w' qv.ownBlock) (hv : v'.ownBlock = qv.ownBlock ∨ v'.ownBlock = some w.heap.size) : SX w' hi bS bY c1 c2 c3 pv v' fv piv (part ++ [x]) fs := by
 have hb : ∀ b, b < w.heap.size → qv.ownBlock ≠ some b → w'.heap[b]? = w.heap[b]? := fun b hb hn => hg.block b hb fun e => hn e.symm
 have ha := fun k hk hn => grown_apart (w := w) (w' := w') h.q.ltZ hv (k := k) hk hn
 refine ⟨h.s.sameZ (hb _ h.s.lt h.nb.2.1), h.hb, Nat.le_trans h.hh hg.size, ownsRow_sameZ h.p fun k hk => hb k (h.p.ltZ k hk) fun e => h.apq k hk e, ho, ownsRow_sameZ h.f fun k hk => hb k (h.f.lt k hk) fun e => h.aqf k e hk, fun y hy => ?_, ?_, h.apf, ?_, h.nb.1, ha _ h.s.lt h.nb.2.1, h.nb.2.2⟩
 ·obtain ⟨a1, a2, a3, a4, a5, a6⟩ := h.l y hy
  exact ⟨a1.sameZ fun k hk => hb k (a1.ltZ k hk) fun e => a5 k e hk, a2, a3, a4, fun k hk e => ha k (a1.ltZ k e) (fun e' => a5 k e' e) hk, a6⟩
 ·exact fun k hk e => ha k (h.p.ltZ k hk) (fun e' => h.apq k hk e') e
 ·exact fun k hk e => ha k (h.f.lt k e) (fun e' => h.aqf k e' e) hk
theorem SX.pushF {w' : World} {v' : Value} (h : SX w hi bS bY c1 c2 c3 pv qv fv piv part fs) (x : FnV) (hx : OwnN w hi x.sv x.q ∧ x.sv.ownBlock ≠ some bS ∧ Apart pv x.sv ∧ Apart qv x.sv ∧ Apart fv x.sv) (ho : OwnG TYN 1 fnC w' hi v' (fs ++ [x])) (hg : w.grownBy w' fv.ownBlock) (hv : v'.ownBlock = fv.ownBlock ∨ v'.ownBlock = some w.heap.size) : SX w' hi bS bY c1 c2 c3 pv qv v' piv part (fs ++ [x]) := by
 have hb : ∀ b, b < w.heap.size → fv.ownBlock ≠ some b → w'.heap[b]? = w.heap[b]? := fun b hb hn => hg.block b hb fun e => hn e.symm
 have ha := fun k hk hn => grown_apart (w := w) (w' := w') h.f.lt hv (k := k) hk hn
 refine ⟨h.s.sameZ (hb _ h.s.lt h.nb.2.2), h.hb, Nat.le_trans h.hh hg.size, ownsRow_sameZ h.p fun k hk => hb k (h.p.ltZ k hk) fun e => h.apf k hk e, h.q.sameZ fun k hk => hb k (h.q.ltZ k hk) fun e => h.aqf k hk e, ho, fun y hy => ?_, h.apq, ?_, ?_, h.nb.1, h.nb.2.1, ha _ h.s.lt h.nb.2.2⟩
 ·rcases List.mem_append.1 hy with hy | hy
  ·obtain ⟨a1, a2, a3, a4, a5, a6⟩ := h.l y hy
   exact ⟨a1.sameZ fun k hk => hb k (a1.ltZ k hk) fun e => a6 k e hk, a2, a3, a4, a5, fun k hk e => ha k (a1.ltZ k e) (fun e' => a6 k e' e) hk⟩
  ·rw [List.mem_singleton.1 hy]
   obtain ⟨a1, a3, a4, a5, a6⟩ := hx
   exact ⟨a1.sameZ fun k hk => hb k (a1.ltZ k hk) fun e => a6 k e hk, h.nb.1, a3, a4, a5, fun k hk e => ha k (a1.ltZ k e) (fun e' => a6 k e' e) hk⟩
 ·exact fun k hk e => ha k (h.p.ltZ k hk) (fun e' => h.apf k hk e') e
 ·exact fun k hk e => ha k (h.q.ltZ k hk) (fun e' => h.aqf k hk e') e
theorem SX.cells (h : SX w hi bS bY c1 c2 c3 pv qv fv piv part fs) {w' : World} {d1 d2 d3 : Value} (hs : Blk w' bS #[.pointer (some ⟨bY, 0, none⟩), d1, d2, d3]) (hz : w'.heap.size = w.heap.size) (ho : ∀ b, b ≠ bS → w'.heap[b]? = w.heap[b]?) : SX w' hi bS bY d1 d2 d3 pv qv fv piv part fs where
 s := hs
 hb := h.hb
 hh := by rw [hz]; exact h.hh
 p := ownsRow_sameZ h.p fun k hk => ho k fun e => h.nb.1 (e ▸ hk)
 q := h.q.sameZ fun k hk => ho k fun e => h.nb.2.1 (e ▸ hk)
 f := ownsRow_sameZ h.f fun k hk => ho k fun e => h.nb.2.2 (e ▸ hk)
 l := fun x hx => ⟨(h.l x hx).1.sameZ fun k hk => ho k fun e => (h.l x hx).2.2.1 (e ▸ hk), (h.l x hx).2⟩
 apq := h.apq
 apf := h.apf
 aqf := h.aqf
 nb := h.nb
theorem YC.off {w0 w w' : World} {hi bY gc n L cc : Nat} {vr : Value} {xs : List ColV} (h : YC w0 w hi bY gc vr n L cc xs) (hk : Keep NoS w0 w') (hs : w.heap.size ≤ w'.heap.size) (ho : ∀ b, b < w.heap.size → b < hi → w'.heap[b]? = w.heap[b]?) : YC w0 w' hi bY gc vr n L cc xs where
 k := hk
 hw := Nat.le_trans h.hw hs
 y := h.y.sameZ (ho _ h.y.lt h.own.2.1)
 xl := h.xl
 ql := h.ql
 c := by obtain ⟨A, h1, h2⟩ := h.c; exact ⟨A, h1.sameZ (ho _ h1.lt h.own.2.2.2), h2⟩
 cc := h.cc
 r := fun x hx => ⟨(h.r x hx).1.sameZ (ho _ (h.r x hx).1.lt (h.r x hx).2.2), (h.r x hx).2⟩
 d := h.d
 xb := h.xb
 yc := h.yc
 own := h.own
theorem YC.only {w0 w w' : World} {hi bY gc n L cc g : Nat} {vr : Value} {xs : List ColV} (h : YC w0 w hi bY gc vr n L cc xs) (k : Keep (OnlyG g) w w') (hg : hi ≤ g) (h0 : w0.heap.size ≤ hi) : YC w0 w' hi bY gc vr n L cc xs :=
 h.off (h.k.trans k (fun b o hb ho => by unfold OnlyG at ho; omega)) k.size fun b hb hlt => k.sameG hb (by omega)
structure LQ where
 cols : List (List Rat)
 piv : List Int
 part : List Rat
 fs : List (List Rat)
def bdF (q : Rat) : Bool := decide (q.num.natAbs < 10 ^ 50 ∧ q.den < 10 ^ 50)
theorem bdF_nb {q : Rat} (h : bdF q = true) : NB 300 q := by
 obtain ⟨h1, h2⟩ := of_decide_eq_true h
 have e : q.num.natAbs < 4294967296 ^ 6 := Nat.lt_of_lt_of_le h1 (by decide)
 have e' : (q.den : Int).natAbs < 4294967296 ^ 6 := Nat.lt_of_lt_of_le (by simpa using h2) (by decide)
 exact ⟨Nat.le_trans (dl_le e) (by decide), Nat.le_trans (dl_le e') (by decide)⟩
theorem allF_nb {l : List Rat} (h : l.all bdF = true) : ∀ q ∈ l, NB 300 q := fun q hq => bdF_nb (List.all_eq_true.1 h q hq)
def unitQ (m i : Nat) : List Rat := (List.replicate m 0).set i 1
def restK (S : LQ) (m i : Nat) (tt : Rat) : Nat → Rat × List Rat
 | 0 => (tt, unitQ m i)
 | k + 1 => ((restK S m i tt k).1 - cellQ S.cols k i * S.part.getD k 0, lessQ (restK S m i tt k).2 (S.fs.getD k []) (cellQ S.cols k i))
theorem restK_len {S : LQ} {m i : Nat} {tt : Rat} : ∀ k, (restK S m i tt k).2.length = m
 | 0 => by simp [restK, unitQ]
 | k + 1 => by simp only [restK]; rw [lessQ_len]; exact restK_len k
def okS (S : LQ) (m i : Nat) (tt : Rat) : Bool := bdC S.cols && S.part.all bdF && S.fs.all (·.all bdF) && (List.range (S.piv.length + 1)).all fun k => bdF (restK S m i tt k).1 && (restK S m i tt k).2.all bdF
def stepR (n m f i : Nat) (tt : Rat) (S : LQ) : Option (Option (List Rat) × LQ) :=
 if okS S m i tt = false then none else
 let R := restK S m i tt S.piv.length
 match clearR n i S.piv.length f S.cols with
 | none => none
 | some (b, c) =>
  if bdC c = false then none else
  if b = false then (if R.1 = 0 then some (none, { S with cols := c }) else some (some (R.2.map (· * (1 / (R.1 + R.1)))), { S with cols := c }))
  else
   let o := 1 / cellQ c S.piv.length i
   if (R.1 * o).den = 1 then some (none, ⟨c, S.piv ++ [(i : Int)], S.part ++ [R.1 * o], S.fs ++ [R.2.map (· * o)]⟩)
   else some (some (R.2.map (· * o)), { S with cols := c })
theorem clearR_ne {n i fr : Nat} : ∀ {f : Nat} {c : List (List Rat)} {c' : List (List Rat)}, c.length = n → clearR n i fr f c = some (true, c') → cellQ c' fr i ≠ 0
 | 0, _, _, _, h => by cases h
 | f + 1, c, c', hl, h => by
  obtain ⟨h0, h1, h2⟩ := clearR_succ h
  have hs := (scan_bd (c := c) (i := i) (fr := fr) (n - fr))
  by_cases e0 : (scanS c i fr (n - fr)).2 = 0
  ·cases h0 e0
  ·obtain ⟨a1, a2, a3⟩ := hs.2 e0
   by_cases e1 : (scanS c i fr (n - fr)).2 = 1
   ·have := h1 e1
    cases this
    unfold cellQ at a3 ⊢
    rw [swpQ_fr (by omega) (by omega)]
    exact a3
   ·exact clearR_ne (by rw [redK_len]; simp [swpQ, hl]) (h2 e0 e1).2
theorem clearR_len {n i fr : Nat} : ∀ {f : Nat} {c : List (List Rat)} {r : Bool × List (List Rat)}, clearR n i fr f c = some r → r.2.length = c.length
 | 0, _, _, h => by cases h
 | f + 1, c, r, h => by
  obtain ⟨h0, h1, h2⟩ := clearR_succ h
  by_cases e0 : (scanS c i fr (n - fr)).2 = 0
  ·rw [h0 e0]
  ·by_cases e1 : (scanS c i fr (n - fr)).2 = 1
   ·rw [h1 e1]; simp [swpQ]
   ·rw [clearR_len (h2 e0 e1).2, redK_len]; simp [swpQ]
end Go.Proofs.YtamjmcdlddocgaaGreat
