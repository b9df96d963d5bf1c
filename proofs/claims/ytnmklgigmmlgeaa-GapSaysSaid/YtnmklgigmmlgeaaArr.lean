/- A block that holds a row of n cells of one element type, told as a function of the place; tables of integers. -/
import Derived.Test.YtnmklgigmmlgeaaGapDo
import Derived.Lib.OwnKind
namespace Go.Proofs.Ytnmklgigmmlgeaa
open Go.ChangeShapes Go.WideShapes Go.RowKit
set_option linter.unusedVariables false
set_option linter.unusedSimpArgs false

/-- Block g is a row of elements of type T whose first n cells are vs. -/
def Arr (w : World) (g : Nat) (T : TypeId) (n : Nat) (vs : Nat → Value) : Prop := ∃ A : Array Value, w.heap[g]? = some (.cells A T (0, 0)) ∧ ∀ i, i < n → A[i]? = some (vs i)

section
variable {w w' : World} {g g' n : Nat} {T T' : TypeId} {vs vs' : Nat → Value}

theorem Arr.lt (h : Arr w g T n vs) : g < w.heap.size := by obtain ⟨A, h, _⟩ := h; exact lt_of_heap h
theorem Arr.cell (h : Arr w g T n vs) {i : Nat} (hi : i < n) : w.cell? ⟨g, i, none⟩ = some (vs i) := by
  obtain ⟨A, h, hA⟩ := h
  exact cell_of_heap h (hA i hi)
theorem Arr.free (h : Arr w g T n vs) (i : Nat) : w.frozen? ⟨g, i, none⟩ = false := by obtain ⟨A, h, _⟩ := h; exact free_of_heap h
theorem Arr.keepS {S : Nat → Nat → Prop} (h : Arr w g T n vs) (k : Keep S w w') (hS : ∀ i, ¬ S g i) : Arr w' g T n vs := by
  obtain ⟨A, h, hA⟩ := h
  exact ⟨A, by rw [k.block g (lt_of_heap h) hS]; exact h, hA⟩
theorem Arr.keep (h : Arr w g T n vs) (k : Keep NoS w w') : Arr w' g T n vs := h.keepS k fun _ h => h
theorem Arr.old (h : Arr w g T n vs) (o : Obj) : Arr (w.alloc o) g T n vs := h.keep ((Keep.refl _ _).alloc o)
theorem Arr.set (h : Arr w g T n vs) (i : Nat) (v : Value) : Arr (w.setCell ⟨g, i, none⟩ v) g T n fun j => if j = i then v else vs j := by
  obtain ⟨A, h, hA⟩ := h
  refine ⟨_, heap_setCell_same i v h, fun j hj => ?_⟩
  have hjA : j < A.size := (Array.getElem?_eq_some_iff.1 (hA j hj)).1
  rw [Array.getElem?_setIfInBounds]
  by_cases hij : i = j
  · subst hij; simp [hjA]
  · show _ = some (if j = i then v else vs j)
    rw [if_neg hij, if_neg (fun h => hij h.symm)]; exact hA j hj
theorem Arr.other (h : Arr w g T n vs) (i : Nat) (v : Value) (hne : ¬ g = g') : Arr (w.setCell ⟨g', i, none⟩ v) g T n vs := by
  obtain ⟨A, h, hA⟩ := h
  exact ⟨A, by rw [heap_setCell_other _ _ _ _ hne]; exact h, hA⟩
theorem Arr.congr (h : Arr w g T n vs) (he : ∀ i, i < n → vs i = vs' i) : Arr w g T n vs' := by
  obtain ⟨A, h, hA⟩ := h
  exact ⟨A, h, fun i hi => by rw [← he i hi]; exact hA i hi⟩
theorem Arr.mono {m : Nat} (h : Arr w g T n vs) (hm : m ≤ n) : Arr w g T m vs := by
  obtain ⟨A, h, hA⟩ := h
  exact ⟨A, h, fun i hi => hA i (by omega)⟩
theorem Arr.ne {m : Nat} (h : Arr w g T n vs) (h' : Arr w g' T' m vs') (hT : T ≠ T') : ¬ g = g' := by
  rintro rfl
  obtain ⟨A, h, _⟩ := h
  obtain ⟨A', h', _⟩ := h'
  rw [h] at h'
  simp at h'
  exact hT h'.2
theorem Arr.grown {row : Option Nat} (h : Arr w g T n vs) (hg : w.grownBy w' row) (hr : some g ≠ row) : Arr w' g T n vs := by
  obtain ⟨A, h, hA⟩ := h
  exact ⟨A, by rw [hg.block g (lt_of_heap h) hr]; exact h, hA⟩
/-- A row that the call owns, told as a block. -/
theorem arr_of_own {base cap m : Nat} {xs : List Value} (h : w.ownsRow base T 1 (.slice (some ⟨g, 0, none⟩) m cap) m xs) (hx : ∀ i, i < n → xs[i]? = some (vs i)) : Arr w g T n vs := by
  obtain ⟨hl, h | ⟨g', cap', cur, hv, hb, hg, hl', hm, hs, ht⟩⟩ := h
  · obtain ⟨h, _⟩ := h; cases h
  · cases hv
    refine ⟨cur, hg, fun i hi => ?_⟩
    have h1 := hx i hi
    have hil : i < xs.length := (List.getElem?_eq_some_iff.1 h1).1
    rw [← ht, List.getElem?_take, if_pos (by omega)] at h1
    simpa using h1
end

abbrev TI : TypeId := 3
abbrev TL : TypeId := 40

/-- Integers in a block. -/
def Line (w : World) (g n : Nat) (f : Nat → Int) : Prop := Arr w g TI n fun i => .int .i64 (f i)
theorem Line.set {w : World} {g n : Nat} {f : Nat → Int} (h : Line w g n f) (i : Nat) (x : Int) : Line (w.setCell ⟨g, i, none⟩ (.int .i64 x)) g n fun j => if j = i then x else f j :=
  (Arr.set h i _).congr fun j _ => by by_cases hj : j = i <;> simp [hj]
theorem Line.ints {w : World} {g n : Nat} {f : Nat → Int} (h : Line w g n f) (cap : Nat) (hn : n ≤ maxLen) (hf : ∀ i, i < n → I64 (f i)) : IsInts w (.slice (some ⟨g, 0, none⟩) n cap) ((List.range n).map f) := by
  refine ⟨some ⟨g, 0, none⟩, cap, by simp, by simpa using hn, fun x hx => ?_, fun _ => ⟨g, 0, rfl, Arr.lt h, fun i x hx => ?_⟩⟩
  · obtain ⟨i, hi, rfl⟩ := List.mem_map.1 hx
    exact hf i (by simpa using hi)
  · obtain ⟨hi, rfl⟩ := List.getElem?_eq_some_iff.1 hx
    simp at hi
    have := Arr.cell h hi
    simpa using this

/-- k lines of n integers, each in a block of its own. -/
structure Lines (w : World) (k n : Nat) (gs : Nat → Nat) (t : Nat → Nat → Int) : Prop where
  line : ∀ a, a < k → Line w (gs a) n (t a)
  inj : ∀ a b, a < k → b < k → gs a = gs b → a = b

section
variable {w w' : World} {k n : Nat} {gs : Nat → Nat} {t : Nat → Nat → Int}
theorem Lines.keepS {S : Nat → Nat → Prop} (h : Lines w k n gs t) (hk : Keep S w w') (hS : ∀ a, a < k → ∀ i, ¬ S (gs a) i) : Lines w' k n gs t := ⟨fun a ha => (h.line a ha).keepS hk (hS a ha), h.inj⟩
theorem Lines.keep (h : Lines w k n gs t) (hk : Keep NoS w w') : Lines w' k n gs t := ⟨fun a ha => (h.line a ha).keep hk, h.inj⟩
theorem Lines.old (h : Lines w k n gs t) (o : Obj) : Lines (w.alloc o) k n gs t := ⟨fun a ha => (h.line a ha).old o, h.inj⟩
theorem Lines.off {T : TypeId} {G m : Nat} {vs : Nat → Value} (h : Lines w k n gs t) (hG : Arr w G T m vs) (hT : T ≠ TI) (i : Nat) (v : Value) : Lines (w.setCell ⟨G, i, none⟩ v) k n gs t :=
  ⟨fun a ha => (h.line a ha).other i v ((h.line a ha).ne hG hT.symm), h.inj⟩
theorem Lines.other (h : Lines w k n gs t) {g : Nat} (hg : ∀ a, a < k → gs a ≠ g) (i : Nat) (v : Value) : Lines (w.setCell ⟨g, i, none⟩ v) k n gs t :=
  ⟨fun a ha => (h.line a ha).other i v (hg a ha), h.inj⟩
theorem Lines.set (h : Lines w k n gs t) {a : Nat} (ha : a < k) (b : Nat) (x : Int) : Lines (w.setCell ⟨gs a, b, none⟩ (.int .i64 x)) k n gs fun p q => if p = a ∧ q = b then x else t p q := by
  refine ⟨fun p hp => ?_, h.inj⟩
  by_cases hpa : p = a
  · subst hpa
    exact ((h.line p hp).set b x).congr fun j _ => by by_cases hj : j = b <;> simp [hj]
  · exact ((h.line p hp).other b _ fun e => hpa (h.inj p a hp ha e)).congr fun j _ => by simp [hpa]
theorem Lines.more (h : Lines w k n gs t) {g : Nat} {f : Nat → Int} (hf : Line w g n f) (hg : ∀ a, a < k → gs a ≠ g) : Lines w (k + 1) n (fun a => if a = k then g else gs a) (fun a => if a = k then f else t a) := by
  refine ⟨fun a ha => ?_, fun a b ha hb e => ?_⟩
  · by_cases hak : a = k
    · subst hak; simpa using hf
    · simpa [hak] using h.line a (by omega)
  · by_cases hak : a = k <;> by_cases hbk : b = k
    · omega
    · rw [if_pos hak, if_neg hbk] at e; exact absurd e.symm (hg b (by omega))
    · rw [if_neg hak, if_pos hbk] at e; exact absurd e (hg a (by omega))
    · rw [if_neg hak, if_neg hbk] at e; exact h.inj a b (by omega) (by omega) e
theorem Lines.congr {t' : Nat → Nat → Int} (h : Lines w k n gs t) (he : ∀ a b, a < k → b < n → t a b = t' a b) : Lines w k n gs t' := ⟨fun a ha => (h.line a ha).congr fun b hb => by rw [he a b ha hb], h.inj⟩
theorem Lines.grown {row : Option Nat} {base size m : Nat} {v : Value} {xs : List Value} (h : Lines w k n gs t) (hg : w.grownBy w' v.ownBlock) (ho : w.ownsRow base TL size v m xs) : Lines w' k n gs t := by
  refine ⟨fun a ha => (h.line a ha).grown hg fun e => ?_, h.inj⟩
  obtain ⟨c, fz, hc⟩ := Lib.ownsRow_kind ho _ e.symm
  obtain ⟨A, hA, _⟩ := h.line a ha
  rw [hA] at hc
  simp at hc
  exact absurd hc.2.1 (by decide)
end

/-- A table in memory. -/
def Mat (w : World) (G n : Nat) (gs cp : Nat → Nat) (t : Nat → Nat → Int) : Prop := Arr w G TL n (fun a => .slice (some ⟨gs a, 0, none⟩) n (cp a)) ∧ Lines w n n gs t
theorem Mat.set {w : World} {G n : Nat} {gs cp : Nat → Nat} {t : Nat → Nat → Int} (h : Mat w G n gs cp t) {a : Nat} (ha : a < n) (b : Nat) (x : Int) : Mat (w.setCell ⟨gs a, b, none⟩ (.int .i64 x)) G n gs cp fun p q => if p = a ∧ q = b then x else t p q :=
  ⟨h.1.other b _ (fun e => (h.2.line a ha).ne h.1 (by decide) e.symm), h.2.set ha b x⟩
theorem Mat.congr {w : World} {G n : Nat} {gs cp : Nat → Nat} {t t' : Nat → Nat → Int} (h : Mat w G n gs cp t) (he : ∀ x y, t x y = t' x y) : Mat w G n gs cp t' := ⟨h.1, h.2.congr fun a b _ _ => he a b⟩
theorem Mat.other {w : World} {G n : Nat} {gs cp : Nat → Nat} {t : Nat → Nat → Int} (h : Mat w G n gs cp t) {g : Nat} (hG : ¬ G = g) (hg : ∀ a, a < n → gs a ≠ g) (i : Nat) (v : Value) : Mat (w.setCell ⟨g, i, none⟩ v) G n gs cp t := ⟨h.1.other _ _ hG, h.2.other hg _ _⟩
theorem Mat.keep {w w' : World} {G n : Nat} {gs cp : Nat → Nat} {t : Nat → Nat → Int} (h : Mat w G n gs cp t) (k : Keep NoS w w') : Mat w' G n gs cp t := ⟨h.1.keep k, h.2.keep k⟩
theorem Mat.old {w : World} {G n : Nat} {gs cp : Nat → Nat} {t : Nat → Nat → Int} (h : Mat w G n gs cp t) (o : Obj) : Mat (w.alloc o) G n gs cp t := ⟨h.1.old o, h.2.old o⟩
end Go.Proofs.Ytnmklgigmmlgeaa
