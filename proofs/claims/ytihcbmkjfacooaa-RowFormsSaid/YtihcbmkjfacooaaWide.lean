/- Wide whole numbers in memory: what a block must hold to be one; what a call may change; plain lemmas on worlds. -/
import Derived.Test.YtihcbmkjfacooaaMakeP
namespace Go.Proofs.Ytihcbmkjfacooaa
open Go.ChangeShapes Go.WideShapes Go.RowKit
set_option linter.unusedVariables false
set_option linter.unusedSimpArgs false

/-! ### digits -/
def dval : List Nat → Nat
  | [] => 0
  | d :: ds => d + 4294967296 * dval ds

theorem dval_append (a b : List Nat) : dval (a ++ b) = dval a + 4294967296 ^ a.length * dval b := by
  induction a with
  | nil => simp [dval]
  | cons d a ih => simp only [List.cons_append, dval, ih, List.length_cons, Nat.pow_succ]; rw [Nat.mul_add, Nat.add_assoc, ← Nat.mul_assoc, Nat.mul_comm 4294967296 (4294967296 ^ a.length)]

theorem dval_lt (ds : List Nat) (h : ∀ d ∈ ds, d < 4294967296) : dval ds < 4294967296 ^ ds.length := by
  induction ds with
  | nil => simp [dval]
  | cons d ds ih =>
    have h1 := h d (by simp)
    have h2 := ih fun x hx => h x (by simp [hx])
    simp only [dval, List.length_cons, Nat.pow_succ]
    omega

theorem dval_take_succ (ds : List Nat) (k : Nat) (h : k < ds.length) : dval (ds.take (k + 1)) = dval (ds.take k) + 4294967296 ^ k * ds.getD k 0 := by
  rw [List.take_succ_eq_append_getElem h, dval_append]
  simp only [List.length_take, dval, Nat.mul_zero, Nat.add_zero]
  rw [Nat.min_eq_left (by omega)]
  congr 2
  simp [List.getD, h]

/-- No noughts at the end. -/
def NoEnd (ds : List Nat) : Prop := ds = [] ∨ ds.getD (ds.length - 1) 0 ≠ 0

theorem dval_ge (ds : List Nat) (h : NoEnd ds) (h0 : ds ≠ []) : 4294967296 ^ (ds.length - 1) ≤ dval ds := by
  have hl : 0 < ds.length := List.length_pos_iff.2 h0
  have e := dval_take_succ ds (ds.length - 1) (by omega)
  rw [show ds.length - 1 + 1 = ds.length from by omega, List.take_length] at e
  rcases h with h | h
  · exact absurd h h0
  · rw [e]
    have : 4294967296 ^ (ds.length - 1) * 1 ≤ 4294967296 ^ (ds.length - 1) * ds.getD (ds.length - 1) 0 := Nat.mul_le_mul_left _ (by omega)
    omega

/-- The bound of all numbers here, in digits. -/
def LEN : Nat := 65536
theorem LEN_eq : LEN = 65536 := rfl
attribute [irreducible] LEN
def BIG : Nat := 4294967296 ^ LEN

theorem lt_BIG {n k : Nat} (hk : k ≤ 65536) (h : n < 4294967296 ^ k) : n < BIG := Nat.lt_of_lt_of_le h (Nat.pow_le_pow_right (by omega) (by rw [LEN_eq]; exact hk))

theorem len_of_BIG (ds : List Nat) (h : NoEnd ds) (hb : dval ds < BIG) : ds.length ≤ 65536 := by
  by_cases h0 : ds = []
  · subst h0; simp
  · have h1 := dval_ge ds h h0
    have h2 : 4294967296 ^ (ds.length - 1) < 4294967296 ^ LEN := Nat.lt_of_le_of_lt h1 hb
    have h3 := (Nat.pow_lt_pow_iff_right (a := 4294967296) (by omega)).1 h2
    rw [LEN_eq] at h3
    omega

attribute [irreducible] BIG

def sgn (neg : Bool) (n : Nat) : Int := if neg then -(n : Int) else n

theorem natAbs_sgn (neg : Bool) (n : Nat) : (sgn neg n).natAbs = n := by cases neg <;> simp [sgn]

/-! ### what a call may change -/
/-- From w to w' only cells in S (block, offset) of what was there have changed; no block went; the streams are the same. -/
structure Keep (S : Nat → Nat → Prop) (w w' : World) : Prop where
  os : w'.os = w.os
  tape : w'.tape = w.tape
  output : w'.output = w.output
  size : w.heap.size ≤ w'.heap.size
  block : ∀ k, k < w.heap.size → (∀ o, ¬ S k o) → w'.heap[k]? = w.heap[k]?
  cells : ∀ k c t fr, w.heap[k]? = some (.cells c t fr) → ∃ c', w'.heap[k]? = some (.cells c' t fr) ∧ c'.size = c.size ∧ ∀ i, ¬ S k i → c'[i]? = c[i]?

def NoS : Nat → Nat → Prop := fun _ _ => False
/-- The two cells of a whole number at block b, offset o. -/
def At (b o : Nat) : Nat → Nat → Prop := fun k i => k = b ∧ (i = o ∨ i = o + 1)

theorem lt_of_heap {w : World} {k : Nat} {o : Obj} (h : w.heap[k]? = some o) : k < w.heap.size := by
  rcases Nat.lt_or_ge k w.heap.size with h' | h'
  · exact h'
  · simp [Array.getElem?_eq_none h'] at h

theorem Keep.refl (S : Nat → Nat → Prop) (w : World) : Keep S w w := ⟨rfl, rfl, rfl, Nat.le_refl _, fun _ _ _ => rfl, fun _ c _ _ h => ⟨c, h, rfl, fun _ _ => rfl⟩⟩

theorem Keep.trans {S S' : Nat → Nat → Prop} {a b c : World} (h : Keep S a b) (k : Keep S' b c) (hs : ∀ n o, n < a.heap.size → S' n o → S n o) : Keep S a c := by
  refine ⟨k.os.trans h.os, k.tape.trans h.tape, k.output.trans h.output, Nat.le_trans h.size k.size, fun n hn hS => ?_, fun n x t fr hx => ?_⟩
  · rw [k.block n (Nat.lt_of_lt_of_le hn h.size) (fun o ho => hS o (hs n o hn ho)), h.block n hn hS]
  · obtain ⟨x1, h1, s1, e1⟩ := h.cells n x t fr hx
    obtain ⟨x2, h2, s2, e2⟩ := k.cells n x1 t fr h1
    exact ⟨x2, h2, s2.trans s1, fun i hi => (e2 i fun h' => hi (hs n i (lt_of_heap hx) h')).trans (e1 i hi)⟩

theorem Keep.mono {S S' : Nat → Nat → Prop} {a b : World} (h : Keep S a b) (hs : ∀ n o, n < a.heap.size → S n o → S' n o) : Keep S' a b := by
  refine ⟨h.os, h.tape, h.output, h.size, fun n hn hS => h.block n hn fun o ho => hS o (hs n o hn ho), fun n x t fr hx => ?_⟩
  obtain ⟨x1, h1, s1, e1⟩ := h.cells n x t fr hx
  exact ⟨x1, h1, s1, fun i hi => e1 i fun h' => hi (hs n i (lt_of_heap hx) h')⟩

theorem Keep.any {S : Nat → Nat → Prop} {w w' : World} (h : Keep NoS w w') : Keep S w w' := h.mono fun _ _ _ h => h.elim

theorem Keep.of_below {w w' : World} {B : Nat} (h : Below B w w') (hB : w.heap.size ≤ B) : Keep NoS w w' :=
  ⟨h.os, h.tape, h.output, h.size, fun k hk _ => h.block k (by omega), fun k c t fr hk => ⟨c, by rw [h.block k (by have := lt_of_heap hk; omega)]; exact hk, rfl, fun _ _ => rfl⟩⟩

theorem Keep.below {S : Nat → Nat → Prop} {w w' : World} (h : Keep S w w') {B : Nat} (hB : B ≤ w.heap.size) (hS : ∀ n o, S n o → B ≤ n) : Below B w w' :=
  ⟨h.os, h.tape, h.output, h.size, fun k hk => h.block k (by omega) fun o ho => by have := hS k o ho; omega⟩

theorem heap_drewN (w : World) (n : Nat) : (w.drewN n).heap = w.heap := rfl
theorem heap_drew (w : World) : w.drew.heap = w.heap := rfl

theorem heap_alloc_old (w : World) (o : Obj) (k : Nat) (h : k < w.heap.size) : (w.alloc o).heap[k]? = w.heap[k]? := Below.heap_alloc w o k h
theorem heap_alloc_at (w : World) (o : Obj) (k : Nat) (h : k = w.heap.size) : (w.alloc o).heap[k]? = some o := by
  subst h; show (w.heap.push o)[w.heap.size]? = some o; simp

theorem heap_setCell_other (w : World) (a : Addr) (u : Value) (k : Nat) (h : k ≠ a.block) : (w.setCell a u).heap[k]? = w.heap[k]? := Below.heap_setCell w a u k h
theorem heap_setCell_same {w : World} {b : Nat} {c : Array Value} {t : TypeId} {fr : Nat × Nat} (o : Nat) (u : Value) (h : w.heap[b]? = some (.cells c t fr)) : (w.setCell ⟨b, o, none⟩ u).heap[b]? = some (.cells (c.setIfInBounds o u) t fr) := by
  have hlt := lt_of_heap h
  have h' : w.heap[b] = .cells c t fr := by simpa [Array.getElem?_eq_getElem hlt] using h
  show (w.heap.modify b _)[b]? = _
  rw [Array.getElem?_eq_getElem (by simpa using hlt), Array.getElem_modify_self, h']
  rfl

theorem Keep.drewN {S : Nat → Nat → Prop} {a w : World} (h : Keep S a w) (n : Nat) : Keep S a (w.drewN n) := h.trans (S' := S) ⟨rfl, rfl, rfl, Nat.le_refl _, fun _ _ _ => rfl, fun _ c _ _ h => ⟨c, h, rfl, fun _ _ => rfl⟩⟩ fun _ _ _ h => h
theorem Keep.drew {S : Nat → Nat → Prop} {a w : World} (h : Keep S a w) : Keep S a w.drew := h.trans (S' := S) ⟨rfl, rfl, rfl, Nat.le_refl _, fun _ _ _ => rfl, fun _ c _ _ h => ⟨c, h, rfl, fun _ _ => rfl⟩⟩ fun _ _ _ h => h
theorem Keep.alloc {S : Nat → Nat → Prop} {a w : World} (h : Keep S a w) (o : Obj) : Keep S a (w.alloc o) :=
  h.trans (S' := NoS) (Keep.of_below ((Below.refl w.heap.size w).alloc (Nat.le_refl _) o) (Nat.le_refl _)) fun _ _ _ h => h.elim
theorem keep_setCell (w : World) (b o : Nat) (u : Value) : Keep (fun k i => k = b ∧ i = o) w (w.setCell ⟨b, o, none⟩ u) := by
  refine ⟨rfl, rfl, rfl, by simp, fun k hk hS => ?_, fun k c t fr hk => ?_⟩
  · by_cases hkb : k = b
    · exact absurd ⟨hkb, rfl⟩ (hS o)
    · exact heap_setCell_other _ _ _ _ hkb
  · by_cases hkb : k = b
    · subst hkb
      exact ⟨_, heap_setCell_same o u hk, by simp, fun i hi => by rw [Array.getElem?_setIfInBounds, if_neg]; exact fun e => hi ⟨rfl, e.symm⟩⟩
    · exact ⟨c, by rw [heap_setCell_other _ _ _ _ hkb]; exact hk, rfl, fun _ _ => rfl⟩
theorem Keep.setCell {S : Nat → Nat → Prop} {a w : World} (h : Keep S a w) {b o : Nat} (u : Value) (hs : b < a.heap.size → S b o) : Keep S a (w.setCell ⟨b, o, none⟩ u) :=
  h.trans (keep_setCell w b o u) fun n i hn ⟨h1, h2⟩ => by subst h1 h2; exact hs hn

/-! ### whole numbers in memory -/
abbrev U32 : TypeId := 133

/-- A place where a whole number lies or may be laid: two cells of a block that is not one of digits. -/
def IsHdr (w : World) (b o : Nat) : Prop := ∃ (c : Array Value) (t : TypeId), w.heap[b]? = some (.cells c t (0, 0)) ∧ t ≠ U32 ∧ o + 1 < c.size ∧ (∃ neg, c[o]? = some (.bool neg)) ∧ ∃ a n m, c[o + 1]? = some (.slice a n m)

/-- A slice of digits. -/
def IsDig (w : World) (v : Value) (ds : List Nat) : Prop :=
  ∃ (g cap : Nat) (c : Array Value) (fr : Nat × Nat), v = .slice (some ⟨g, 0, none⟩) ds.length cap ∧ w.heap[g]? = some (.cells c U32 fr) ∧ ds.length ≤ cap ∧ cap ≤ maxLen ∧
    (∀ i, i < ds.length → c[i]? = some (.int .u32 (ds.getD i 0 : Nat))) ∧ ∀ d ∈ ds, d < 4294967296

/-- At block b, offset o there are this sign and these digits. -/
def IsRaw (w : World) (b o : Nat) (neg : Bool) (ds : List Nat) : Prop :=
  ∃ (c : Array Value) (t : TypeId) (v : Value), w.heap[b]? = some (.cells c t (0, 0)) ∧ t ≠ U32 ∧ c[o]? = some (.bool neg) ∧ c[o + 1]? = some v ∧ IsDig w v ds

/-- At block b, offset o there is the whole number z. -/
def IsInt (w : World) (b o : Nat) (z : Int) : Prop := ∃ neg ds, IsRaw w b o neg ds ∧ NoEnd ds ∧ (neg = true → ds ≠ []) ∧ z = sgn neg (dval ds)

theorem IsDig.keep {S : Nat → Nat → Prop} {w w' : World} {v : Value} {ds : List Nat} (h : IsDig w v ds) (k : Keep S w w') (hS : ∀ n o c fr, S n o → w.heap[n]? ≠ some (.cells c U32 fr)) : IsDig w' v ds := by
  obtain ⟨g, cap, c, fr, hv, hg, h1, h2, h3, h4⟩ := h
  obtain ⟨c', hg', hs, he⟩ := k.cells g c U32 fr hg
  exact ⟨g, cap, c', fr, hv, hg', h1, h2, fun i hi => by rw [he i fun hh => hS _ _ _ _ hh hg]; exact h3 i hi, h4⟩

/-- S touches no digits, and no cell of the number at (b, o). -/
def Off (w : World) (S : Nat → Nat → Prop) (b o : Nat) : Prop := (∀ n i c fr, S n i → w.heap[n]? ≠ some (.cells c U32 fr)) ∧ ¬ S b o ∧ ¬ S b (o + 1)

theorem IsRaw.keep {S : Nat → Nat → Prop} {w w' : World} {b o : Nat} {neg : Bool} {ds : List Nat} (h : IsRaw w b o neg ds) (k : Keep S w w') (hS : Off w S b o) : IsRaw w' b o neg ds := by
  obtain ⟨c, t, v, hb, ht, h0, h1, hd⟩ := h
  obtain ⟨c', hb', hs, he⟩ := k.cells b c t _ hb
  exact ⟨c', t, v, hb', ht, by rw [he o hS.2.1]; exact h0, by rw [he (o + 1) hS.2.2]; exact h1, hd.keep k fun n o c fr h => hS.1 n o c fr h⟩

theorem IsInt.keep {S : Nat → Nat → Prop} {w w' : World} {b o : Nat} {z : Int} (h : IsInt w b o z) (k : Keep S w w') (hS : Off w S b o) : IsInt w' b o z := by
  obtain ⟨neg, ds, hr, h1⟩ := h
  exact ⟨neg, ds, hr.keep k hS, h1⟩

theorem Off.noS (w : World) (b o : Nat) : Off w NoS b o := ⟨fun _ _ _ _ h => h.elim, id, id⟩

theorem IsHdr.off {w : World} {b o : Nat} (h : IsHdr w b o) {b' o' : Nat} (hne : b' ≠ b ∨ o' + 1 < o ∨ o + 1 < o') : Off w (At b o) b' o' := by
  obtain ⟨c, t, hb, ht, _⟩ := h
  refine ⟨fun n i c' fr ⟨h1, h2⟩ h3 => ?_, fun ⟨h1, h2⟩ => ?_, fun ⟨h1, h2⟩ => ?_⟩
  · subst h1; rw [hb] at h3; simp at h3; exact ht h3.2.1
  · omega
  · omega

theorem IsRaw.hdr {w : World} {b o : Nat} {neg : Bool} {ds : List Nat} (h : IsRaw w b o neg ds) : IsHdr w b o := by
  obtain ⟨c, t, v, hb, ht, h0, h1, g, cap, _, _, hv, _⟩ := h
  refine ⟨c, t, hb, ht, ?_, ⟨neg, h0⟩, ⟨_, _, _, hv ▸ h1⟩⟩
  rcases Nat.lt_or_ge (o + 1) c.size with h' | h'
  · exact h'
  · simp [Array.getElem?_eq_none h'] at h1

theorem IsInt.hdr {w : World} {b o : Nat} {z : Int} (h : IsInt w b o z) : IsHdr w b o := by obtain ⟨_, _, hr, _⟩ := h; exact hr.hdr

theorem IsHdr.keep {S : Nat → Nat → Prop} {w w' : World} {b o : Nat} (h : IsHdr w b o) (k : Keep S w w') (hS : Off w S b o) : IsHdr w' b o := by
  obtain ⟨c, t, hb, ht, hs, ⟨neg, h0⟩, a, n, m, h1⟩ := h
  obtain ⟨c', hb', hs', he⟩ := k.cells b c t _ hb
  exact ⟨c', t, hb', ht, by omega, ⟨neg, by rw [he o hS.2.1]; exact h0⟩, a, n, m, by rw [he (o + 1) hS.2.2]; exact h1⟩

theorem IsInt.lt {w : World} {b o : Nat} {z : Int} (h : IsInt w b o z) : b < w.heap.size := by
  obtain ⟨_, _, ⟨c, t, v, hb, _⟩, _⟩ := h; exact lt_of_heap hb
theorem IsHdr.lt {w : World} {b o : Nat} (h : IsHdr w b o) : b < w.heap.size := by obtain ⟨c, t, hb, _⟩ := h; exact lt_of_heap hb

theorem cell_of_heap {w : World} {b o : Nat} {c : Array Value} {t : TypeId} {fr : Nat × Nat} {v : Value} (h : w.heap[b]? = some (.cells c t fr)) (ho : c[o]? = some v) : w.cell? ⟨b, o, none⟩ = some v := by
  simp [World.cell?, h, ho]
theorem free_of_heap {w : World} {b o : Nat} {c : Array Value} {t : TypeId} (h : w.heap[b]? = some (.cells c t (0, 0))) : w.frozen? ⟨b, o, none⟩ = false := by
  simp [World.frozen?, h]

end Go.Proofs.Ytihcbmkjfacooaa
