/- Package tableau's T as it lies. -/
import Derived.Test.YtamjmcdlddocgaaTbB
import Derived.Test.YtamjmcdlddocgaaBaseA
import Derived.Maps.OwnSet
namespace Go.Proofs.Ytamjmcdlddocgaa
open Go.ChangeShapes Go.WideShapes Go.RowKit Go.Maps
set_option linter.unusedVariables false
set_option linter.unusedSimpArgs false

/-- What a T is. -/
structure TS where
  n : Nat
  rows : List Rw
  basic : List Nat
  cells : List (List Rat)
  vals : List Pr
def TS.m (S : TS) : Nat := S.rows.length
def TS.K (S : TS) : Nat := S.n + S.rows.length
structure TS.wf (S : TS) : Prop where
  n12 : S.n ≤ 12
  r40 : S.rows.length ≤ 40
  rok : ∀ r ∈ S.rows, RowOK r S.n
  bl : S.basic.length = S.rows.length
  cl : S.cells.length = S.rows.length
  cr : ∀ l ∈ S.cells, l.length = S.n + S.rows.length
  vl : S.vals.length = S.n + S.rows.length
  nd : S.basic.Nodup
  bb : ∀ b ∈ S.basic, b < S.n + S.rows.length
def flatP (l : List Pr) : List Rat := l.flatMap fun p => [p.n, p.s]
theorem flatP_len (l : List Pr) : (flatP l).length = 2 * l.length := by
  induction l with
  | nil => rfl
  | cons p r ih =>
    have : flatP (p :: r) = p.n :: p.s :: flatP r := rfl
    rw [this]
    simp only [List.length_cons, ih]
    omega
theorem flatP_get : ∀ {l : List Pr} {v : Nat} (h : v < l.length), (flatP l)[2 * v]? = some l[v].n ∧ (flatP l)[2 * v + 1]? = some l[v].s
  | [], v, h => by simp at h
  | p :: r, 0, h => ⟨rfl, rfl⟩
  | p :: r, v + 1, h => by
    have ih := flatP_get (l := r) (v := v) (by simpa using h)
    have e : flatP (p :: r) = p.n :: p.s :: flatP r := rfl
    rw [e, show 2 * (v + 1) = 2 * v + 1 + 1 by omega, show 2 * v + 1 + 1 + 1 = (2 * v + 1) + 1 + 1 by omega]
    simpa using ih
theorem flatP_set : ∀ (l : List Pr) (v : Nat) (p : Pr), flatP (l.set v p) = ((flatP l).set (2 * v) p.n).set (2 * v + 1) p.s
  | [], v, p => by simp [flatP]
  | q :: r, 0, p => rfl
  | q :: r, v + 1, p => by
    have ih := flatP_set r v p
    have e : ∀ x y, flatP (x :: y) = x.n :: x.s :: flatP y := fun _ _ => rfl
    rw [List.set_cons_succ, e, e, ih, show 2 * (v + 1) = 2 * v + 1 + 1 by omega, show 2 * v + 1 + 1 + 1 = (2 * v + 1) + 1 + 1 by omega]
    simp
theorem PairAt {w : World} {g : Nat} {l : List Pr} (h : NumBlk w g (flatP l)) {v : Nat} (hv : v < l.length) :
    ∃ p : PV, p.is l[v] ∧ w.cell? ⟨g, v * 8, none⟩ = some (.bool p.x.nb) ∧ w.cell? ⟨g, v * 8 + 1, none⟩ = some (.string p.x.nS) ∧ w.cell? ⟨g, v * 8 + 2, none⟩ = some (.bool p.x.db) ∧ w.cell? ⟨g, v * 8 + 3, none⟩ = some (.string p.x.dS) ∧
      w.cell? ⟨g, v * 8 + 4, none⟩ = some (.bool p.y.nb) ∧ w.cell? ⟨g, v * 8 + 5, none⟩ = some (.string p.y.nS) ∧ w.cell? ⟨g, v * 8 + 6, none⟩ = some (.bool p.y.db) ∧ w.cell? ⟨g, v * 8 + 7, none⟩ = some (.string p.y.dS) := by
  have h0 : 2 * v < (flatP l).length := by rw [flatP_len]; omega
  have h1 : 2 * v + 1 < (flatP l).length := by rw [flatP_len]; omega
  obtain ⟨g0, g1⟩ := flatP_get hv
  obtain ⟨a, b, c, d, c0, c1, c2, c3, hn, _⟩ := h.at h0
  obtain ⟨a', b', c', d', d0, d1, d2, d3, hs, _⟩ := h.at h1
  have e0 : (flatP l)[2 * v] = l[v].n := by rw [List.getElem?_eq_getElem h0] at g0; exact Option.some.inj g0
  have e1 : (flatP l)[2 * v + 1] = l[v].s := by rw [List.getElem?_eq_getElem h1] at g1; exact Option.some.inj g1
  rw [e0] at hn
  rw [e1] at hs
  refine ⟨⟨⟨a, b, c, d⟩, ⟨a', b', c', d'⟩⟩, ⟨hn, hs⟩, ?_⟩
  rw [show 2 * v * 4 = v * 8 by omega] at c0 c1 c2 c3
  rw [show (2 * v + 1) * 4 = v * 8 + 4 by omega] at d0 d1 d2 d3
  exact ⟨c0, c1, c2, c3, d0, by rw [show v * 8 + 5 = v * 8 + 4 + 1 by omega]; exact d1, by rw [show v * 8 + 6 = v * 8 + 4 + 2 by omega]; exact d2, by rw [show v * 8 + 7 = v * 8 + 4 + 3 by omega]; exact d3⟩
/-- Whole numbers of one's own. -/
def IBlk (w : World) (g : Nat) (l : List Nat) : Prop := ∃ A, Blk w g A ∧ ∀ i (h : i < l.length), A[i]? = some (.int .i64 (l[i] : Int))
theorem IBlk.lt {w : World} {g : Nat} {l : List Nat} (h : IBlk w g l) : g < w.heap.size := by obtain ⟨A, h, _⟩ := h; exact h.lt
theorem IBlk.keep {w w' : World} {g : Nat} {l : List Nat} (h : IBlk w g l) (k : Keep NoS w w') : IBlk w' g l := by
  obtain ⟨A, h, h'⟩ := h
  exact ⟨A, h.keep k, h'⟩
theorem IBlk.at {w : World} {g : Nat} {l : List Nat} (h : IBlk w g l) {i : Nat} (hi : i < l.length) : w.cell? ⟨g, i, none⟩ = some (.int .i64 (l[i] : Int)) ∧ w.frozen? ⟨g, i, none⟩ = false := by
  obtain ⟨A, h, h'⟩ := h
  exact ⟨by rw [h.cell]; exact h' i hi, h.free _⟩
/-- The slices of lines. -/
def CBlk (w : World) (g : Nat) (l : List (List Rat)) (gs cs : Nat → Nat) : Prop := ∃ A, Blk w g A ∧ ∀ i (h : i < l.length), A[i]? = some (.slice (some ⟨gs i, 0, none⟩) l[i].length (cs i))
theorem CBlk.lt {w : World} {g : Nat} {l : List (List Rat)} {gs cs : Nat → Nat} (h : CBlk w g l gs cs) : g < w.heap.size := by obtain ⟨A, h, _⟩ := h; exact h.lt
theorem CBlk.keep {w w' : World} {g : Nat} {l : List (List Rat)} {gs cs : Nat → Nat} (h : CBlk w g l gs cs) (k : Keep NoS w w') : CBlk w' g l gs cs := by
  obtain ⟨A, h, h'⟩ := h
  exact ⟨A, h.keep k, h'⟩
theorem CBlk.at {w : World} {g : Nat} {l : List (List Rat)} {gs cs : Nat → Nat} (h : CBlk w g l gs cs) {i : Nat} (hi : i < l.length) : w.cell? ⟨g, i, none⟩ = some (.slice (some ⟨gs i, 0, none⟩) l[i].length (cs i)) ∧ w.frozen? ⟨g, i, none⟩ = false := by
  obtain ⟨A, h, h'⟩ := h
  exact ⟨by rw [h.cell]; exact h' i hi, h.free _⟩
/-- The map of the lines. -/
def MBlk (w : World) (g : Nat) (n : Nat) (basic : List Nat) : Prop := ∃ D : DataW Unit, w.ownsMap Try.prog 3 (plainElem Try.prog 3) g n D ∧ ∀ i (h : i < basic.length), D.atKey (.int .i64 (basic[i] : Int)) (.lit (.int .i64 0)) = .lit (.int .i64 (i : Int))
theorem MBlk.lt {w : World} {g n : Nat} {l : List Nat} (h : MBlk w g n l) : g < w.heap.size := by obtain ⟨D, h, _⟩ := h; exact h.lt
theorem MBlk.keep {w w' : World} {g n : Nat} {l : List Nat} (h : MBlk w g n l) (k : Keep NoS w w') : MBlk w' g n l := by
  have hlt := h.lt
  obtain ⟨D, ⟨es, clock, hb, F, hs, hD⟩, h'⟩ := h
  exact ⟨D, ⟨es, clock, (k.block g hlt fun _ h => h).trans hb, F, hs, hD⟩, h'⟩
/-- Where the parts lie. -/
structure Lay where
  gb : Nat
  gc : Nat
  gv : Nat
  gm : Nat
  gs : Nat → Nat
  ob : Option Addr
  oc : Option Addr
  cb : Nat
  cc : Nat
  cv : Nat
  cs : Nat → Nat
  vr : Value
/-- The parts are apart. -/
structure Lay.apart (L : Lay) (bT m : Nat) : Prop where
  tb : bT ≠ L.gb
  tc : bT ≠ L.gc
  tv : bT ≠ L.gv
  tm : bT ≠ L.gm
  bc : L.gb ≠ L.gc
  bv : L.gb ≠ L.gv
  bm : L.gb ≠ L.gm
  cv : L.gc ≠ L.gv
  cm : L.gc ≠ L.gm
  vm : L.gv ≠ L.gm
  st : ∀ i, i < m → L.gs i ≠ bT
  sb : ∀ i, i < m → L.gs i ≠ L.gb
  sc : ∀ i, i < m → L.gs i ≠ L.gc
  sv : ∀ i, i < m → L.gs i ≠ L.gv
  sm : ∀ i, i < m → L.gs i ≠ L.gm
  ss : ∀ i j, i < m → j < m → i ≠ j → L.gs i ≠ L.gs j
structure LT (w0 w : World) (bT nm : Nat) (S : TS) (L : Lay) : Prop where
  k : Keep NoS w0 w
  t : TBlk w bT S.n L.vr (.slice L.ob S.basic.length L.cb) (.map (some L.gm)) (.slice L.oc S.cells.length L.cc) (.slice (some ⟨L.gv, 0, none⟩) S.vals.length L.cv) (.slice none 0 0)
  rows : IsRows w0 L.vr S.rows
  b : S.basic ≠ [] → L.ob = some ⟨L.gb, 0, none⟩ ∧ IBlk w L.gb S.basic
  c : S.cells ≠ [] → L.oc = some ⟨L.gc, 0, none⟩ ∧ CBlk w L.gc S.cells L.gs L.cs
  r : ∀ i (h : i < S.cells.length), NumBlk w (L.gs i) S.cells[i] ∧ S.cells[i].length ≤ L.cs i ∧ L.cs i ≤ maxLen
  v : NumBlk w L.gv (flatP S.vals)
  cb : S.basic.length ≤ L.cb ∧ L.cb ≤ maxLen
  cc : S.cells.length ≤ L.cc ∧ L.cc ≤ maxLen
  cv : S.vals.length ≤ L.cv ∧ L.cv ≤ maxLen
  mp : MBlk w L.gm nm S.basic
  own : w0.heap.size ≤ bT ∧ w0.heap.size ≤ L.gb ∧ w0.heap.size ≤ L.gc ∧ w0.heap.size ≤ L.gv ∧ w0.heap.size ≤ L.gm ∧ ∀ i, i < S.cells.length → w0.heap.size ≤ L.gs i
  ap : L.apart bT S.cells.length
theorem TBlk.keep {w w' : World} {bT n : Nat} {vr vb vm vc vv vg : Value} (h : TBlk w bT n vr vb vm vc vv vg) (k : Keep NoS w w') : TBlk w' bT n vr vb vm vc vv vg := Blk.keep h k
theorem LT.keep {w0 w w' : World} {bT nm : Nat} {S : TS} {L : Lay} (h : LT w0 w bT nm S L) (k : Keep NoS w w') : LT w0 w' bT nm S L :=
  ⟨h.k.both k, h.t.keep k, h.rows, fun hb => ⟨(h.b hb).1, (h.b hb).2.keep k⟩, fun hc => ⟨(h.c hc).1, (h.c hc).2.keep k⟩, fun i hi => ⟨(h.r i hi).1.keep k, (h.r i hi).2⟩, h.v.keep k, h.cb, h.cc, h.cv, h.mp.keep k, h.own, h.ap⟩
/-- A T as it lies: what it is, all of it newer than w0; its map has had at most nm entries. -/
def IsT (w0 w : World) (bT nm : Nat) (S : TS) : Prop := ∃ L, LT w0 w bT nm S L
theorem IsT.keep {w0 w w' : World} {bT nm : Nat} {S : TS} (h : IsT w0 w bT nm S) (k : Keep NoS w w') : IsT w0 w' bT nm S := by
  obtain ⟨L, h⟩ := h
  exact ⟨L, h.keep k⟩

/-! ### the plain steps -/
def TS.val (S : TS) (v : Nat) : Pr := S.vals.getD v pr0
def TS.cell (S : TS) (i v : Nat) : Rat := (S.cells.getD i []).getD v 0
def TS.canB (S : TS) (v : Nat) (way : Int) : Bool := if 0 < way then !hasUp S.n v || decide ((S.val v).cmp (upP S.n S.rows v) < 0) else !hasLo S.n S.rows v || decide (0 < (S.val v).cmp (loP S.n S.rows v))
/-- The numbers are not too long. -/
structure TS.nb (S : TS) (k : Nat) : Prop where
  v : ∀ p ∈ S.vals, p.ok k
  c : ∀ l ∈ S.cells, ∀ q ∈ l, NB k q
theorem row_ok {S : TS} (h : S.wf) (v : Nat) : fitI (S.rows.getD (v - S.n) nilRw).to := by
  by_cases hv : v - S.n < S.rows.length
  · rw [row_getD hv]
    obtain ⟨_, _, _, _, _, h6⟩ := h.rok _ (List.getElem_mem hv)
    first | exact h6 | exact h6.1 | exact h6.2
  · rw [row_over (by omega)]; exact fit_zero
end Go.Proofs.Ytamjmcdlddocgaa
