/- A block that holds a row of n cells of one element type, told as a function of the place. Numbers in digits of 32 bits, told as functions of the place: plain arithmetic. Long whole numbers as values: their digits and bytes. Digits in memory that may be none. Package long: the limbs of a number. Package long: making a number of a sign and limbs. Package long: numbers of 64 bits, signs. -/
import Derived.Test.YtnndmdfjdodiiaaGreatTaAA
import Derived.Lib.OwnKind
import Derived.Laws.IdiomStrings
import Derived.IntWalk
import Derived.Deep.DeepCutAuto
import Derived.Lib.BufferRead
namespace Go.Proofs.YtnndmdfjdodiiaaGreat
open Go.ChangeShapes Go.WideShapes Go.RowKit
set_option linter.unusedVariables false
set_option linter.unusedSimpArgs false

/-- Block g is a row of elements of type T whose first n cells are vs. -/
def Arr (w : World) (g : Nat) (T : TypeId) (n : Nat) (vs : Nat → Value) : Prop := ∃ A : Array Value, w.heap[g]? = some (.cells A T (0, 0)) ∧ ∀ i, i < n → A[i]? = some (vs i)

section
variable {w w' : World} {g g' n : Nat} {T T' : TypeId} {vs vs' : Nat → Value}

theorem Arr.lt (h : Arr w g T n vs) : g < w.heap.size := by obtain ⟨A, h, _⟩ := h; exact lt_of_heap h
theorem Arr.cell (h : Arr w g T n vs) {i : Nat} (hi : i < n) : w.cell? ⟨g, i, none⟩ = some (vs i) := by
  obtain ⟨A, h, hA⟩ := h
  exact cell_of_heap h (hA i hi)
theorem Arr.free (h : Arr w g T n vs) (i : Nat) : w.frozen? ⟨g, i, none⟩ = false := by obtain ⟨A, h, _⟩ := h; exact free_of_heap h
theorem Arr.keepS {S : Nat → Nat → Prop} (h : Arr w g T n vs) (k : Keep S w w') (hS : ∀ i, ¬ S g i) : Arr w' g T n vs := by
  obtain ⟨A, h, hA⟩ := h
  exact ⟨A, by rw [k.block g (lt_of_heap h) hS]; exact h, hA⟩
theorem Arr.keep (h : Arr w g T n vs) (k : Keep NoS w w') : Arr w' g T n vs := h.keepS k fun _ h => h
theorem Arr.old (h : Arr w g T n vs) (o : Obj) : Arr (w.alloc o) g T n vs := h.keep ((Keep.refl _ _).alloc o)
theorem Arr.set (h : Arr w g T n vs) (i : Nat) (v : Value) : Arr (w.setCell ⟨g, i, none⟩ v) g T n fun j => if j = i then v else vs j := by
  obtain ⟨A, h, hA⟩ := h
  refine ⟨_, heap_setCell_same i v h, fun j hj => ?_⟩
  have hjA : j < A.size := (Array.getElem?_eq_some_iff.1 (hA j hj)).1
  rw [Array.getElem?_setIfInBounds]
  by_cases hij : i = j
  · subst hij; simp [hjA]
  · show _ = some (if j = i then v else vs j)
    rw [if_neg hij, if_neg (fun h => hij h.symm)]; exact hA j hj
theorem Arr.other (h : Arr w g T n vs) (i : Nat) (v : Value) (hne : ¬ g = g') : Arr (w.setCell ⟨g', i, none⟩ v) g T n vs := by
  obtain ⟨A, h, hA⟩ := h
  exact ⟨A, by rw [heap_setCell_other _ _ _ _ hne]; exact h, hA⟩
theorem Arr.congr (h : Arr w g T n vs) (he : ∀ i, i < n → vs i = vs' i) : Arr w g T n vs' := by
  obtain ⟨A, h, hA⟩ := h
  exact ⟨A, h, fun i hi => by rw [← he i hi]; exact hA i hi⟩
theorem Arr.mono {m : Nat} (h : Arr w g T n vs) (hm : m ≤ n) : Arr w g T m vs := by
  obtain ⟨A, h, hA⟩ := h
  exact ⟨A, h, fun i hi => hA i (by omega)⟩
theorem Arr.ne {m : Nat} (h : Arr w g T n vs) (h' : Arr w g' T' m vs') (hT : T ≠ T') : ¬ g = g' := by
  rintro rfl
  obtain ⟨A, h, _⟩ := h
  obtain ⟨A', h', _⟩ := h'
  rw [h] at h'
  simp at h'
  exact hT h'.2
theorem Arr.grown {row : Option Nat} (h : Arr w g T n vs) (hg : w.grownBy w' row) (hr : some g ≠ row) : Arr w' g T n vs := by
  obtain ⟨A, h, hA⟩ := h
  exact ⟨A, by rw [hg.block g (lt_of_heap h) hr]; exact h, hA⟩
end

end Go.Proofs.YtnndmdfjdodiiaaGreat

namespace Go.Proofs.YtnndmdfjdodiiaaGreat
open Go.ChangeShapes Go.WideShapes Go.RowKit
set_option linter.unusedVariables false
set_option linter.unusedSimpArgs false
/-- A block of digits. -/
abbrev DigA (w : World) (g n : Nat) (f : Nat → Nat) : Prop := Arr w g U32 n fun i => .int .u32 (f i : Nat)

/-- What a walk needs of digits. -/
theorem IsDig.open {w : World} {v : Value} {ds : List Nat} (h : IsDig w v ds) : ∃ g cap, v = .slice (some ⟨g, 0, none⟩) ds.length cap ∧ ds.length ≤ cap ∧ cap ≤ maxLen ∧ g < w.heap.size ∧
    (∀ w', Keep NoS w w' → ∀ i, i < ds.length → w'.cell? ⟨g, i, none⟩ = some (.int .u32 (ds.getD i 0 : Nat))) ∧ ∀ i, ds.getD i 0 < 4294967296 := by
  obtain ⟨g, cap, c, fr, hv, hg, hl, hm, hc, hd⟩ := h
  refine ⟨g, cap, hv, hl, hm, lt_of_heap hg, fun w' hk i hi => ?_, fun i => ?_⟩
  · rw [hk.cell (lt_of_heap hg)]; exact cell_of_heap hg (hc i hi)
  · by_cases hi : i < ds.length
    · rw [getD_of_lt hi]; exact hd _ (List.getElem_mem hi)
    · simp [List.getD, List.getElem?_eq_none (Nat.le_of_not_lt hi)]

theorem IsDig.form {w : World} {v : Value} {ds : List Nat} (h : IsDig w v ds) : ∃ g cap, v = .slice (some ⟨g, 0, none⟩) ds.length cap := by
  obtain ⟨g, cap, hv, _⟩ := h.open
  exact ⟨g, cap, hv⟩

theorem DigA.set {w : World} {g n : Nat} {f : Nat → Nat} (h : DigA w g n f) (k d : Nat) {v : Value} (hv : v = .int .u32 (d : Nat)) : DigA (w.setCell ⟨g, k, none⟩ v) g n fun i => if i = k then d else f i := by
  subst hv
  exact (Arr.set h k _).congr fun i _ => by by_cases e : i = k <;> simp [e]

end Go.Proofs.YtnndmdfjdodiiaaGreat

namespace Go.Proofs.YtnndmdfjdodiiaaGreat
open Go.ChangeShapes Go.WideShapes Go.RowKit
set_option linter.unusedVariables false
set_option linter.unusedSimpArgs false

/-- The digits of a number, the least first, no noughts at the end. -/
def digN (n : Nat) : List Nat := if h : n = 0 then [] else n % 4294967296 :: digN (n / 4294967296)
termination_by n
decreasing_by exact Nat.div_lt_self (by omega) (by omega)

theorem digN_zero : digN 0 = [] := by unfold digN; simp
theorem digN_pos {n : Nat} (h : n ≠ 0) : digN n = n % 4294967296 :: digN (n / 4294967296) := by
  conv => lhs; unfold digN
  rw [dif_neg h]

theorem digN_val (n : Nat) : dval (digN n) = n := by
  induction n using Nat.strongRecOn with
  | ind n ih =>
    by_cases h : n = 0
    · subst h; rw [digN_zero]; rfl
    · rw [digN_pos h, dval, ih _ (Nat.div_lt_self (by omega) (by omega))]
      omega

theorem digN_eq_nil {n : Nat} : digN n = [] ↔ n = 0 := by
  constructor
  · intro h
    have := digN_val n
    rw [h] at this
    exact this.symm
  · rintro rfl; exact digN_zero

theorem noEnd_tail {d : Nat} {ds : List Nat} (h : NoEnd (d :: ds)) : NoEnd ds := by
  unfold NoEnd at *
  by_cases h0 : ds = []
  · exact .inl h0
  · right
    rcases h with h | h
    · cases h
    · have hl : 0 < ds.length := List.length_pos_iff.2 h0
      obtain ⟨k, hk⟩ : ∃ k, ds.length = k + 1 := ⟨ds.length - 1, by omega⟩
      rw [List.length_cons, hk] at h
      rw [hk]
      simpa using h

theorem digN_dval : ∀ {ds : List Nat}, (∀ d ∈ ds, d < 4294967296) → NoEnd ds → digN (dval ds) = ds
  | [], _, _ => digN_zero
  | d :: ds, hd, hn => by
    have ih := digN_dval (fun x hx => hd x (List.mem_cons_of_mem _ hx)) (noEnd_tail hn)
    have hd1 := hd d (by simp)
    have h0 : dval (d :: ds) ≠ 0 := by
      have := dval_ge (d :: ds) hn (by simp)
      have := Nat.pow_pos (a := 4294967296) (n := (d :: ds).length - 1) (by omega)
      omega
    rw [digN_pos h0]
    simp only [dval]
    rw [Nat.add_mul_mod_self_left, Nat.mod_eq_of_lt hd1, Nat.add_mul_div_left _ _ (by omega), Nat.div_eq_of_lt hd1, Nat.zero_add, ih]

/-! ### bytes -/
def dbytes (d : Nat) : List UInt8 := [UInt8.ofNat d, UInt8.ofNat (d / 256), UInt8.ofNat (d / 65536), UInt8.ofNat (d / 16777216)]
def bl (ds : List Nat) : List UInt8 := ds.flatMap dbytes
def bytesOf (ds : List Nat) : ByteArray := ⟨(bl ds).toArray⟩

theorem bl_len (ds : List Nat) : (bl ds).length = 4 * ds.length := by
  unfold bl
  induction ds with
  | nil => rfl
  | cons d ds ih => rw [List.flatMap_cons, List.length_append, ih, List.length_cons]; simp [dbytes]; omega
/-- A long whole number. -/
def longV (z : Int) : Value := .agg #[.bool (decide (z < 0)), .string (bytesOf (digN z.natAbs))]

/-! ### digits in memory, or none -/
/-- A slice of digits, that may be none, and may begin within its block. -/
def IsDg (w : World) (v : Value) (ds : List Nat) : Prop :=
  ∃ oa cap, v = .slice oa ds.length cap ∧ ds.length ≤ cap ∧ cap ≤ maxLen ∧ (∀ d ∈ ds, d < 4294967296) ∧
    (ds ≠ [] → ∃ g o, oa = some ⟨g, o, none⟩ ∧ g < w.heap.size ∧ ∀ i, i < ds.length → w.cell? ⟨g, o + i, none⟩ = some (.int .u32 (ds.getD i 0 : Nat)))

theorem IsDg.keep {w w' : World} {v : Value} {ds : List Nat} (h : IsDg w v ds) (k : Keep NoS w w') : IsDg w' v ds := by
  obtain ⟨oa, cap, h1, h2, h3, h4, h5⟩ := h
  refine ⟨oa, cap, h1, h2, h3, h4, fun hne => ?_⟩
  obtain ⟨g, o, e, hg, hc⟩ := h5 hne
  exact ⟨g, o, e, Nat.lt_of_lt_of_le hg k.size, fun i hi => by rw [k.cell hg]; exact hc i hi⟩
theorem IsDig.dg {w : World} {v : Value} {ds : List Nat} (h : IsDig w v ds) : IsDg w v ds := by
  obtain ⟨g, cap, hv, h1, h2, hg, hc, hb⟩ := h.open
  have hall := h
  obtain ⟨_, _, _, _, _, _, _, _, _, hall⟩ := hall
  exact ⟨_, cap, hv, h1, h2, hall, fun _ => ⟨g, 0, rfl, hg, fun i hi => by rw [Nat.zero_add]; exact hc w (Keep.refl _ _) i hi⟩⟩
theorem IsDg.len {w : World} {v : Value} {ds : List Nat} (h : IsDg w v ds) : ∃ oa cap, v = .slice oa ds.length cap ∧ ds.length ≤ cap ∧ cap ≤ maxLen := by
  obtain ⟨oa, cap, h1, h2, h3, _⟩ := h
  exact ⟨oa, cap, h1, h2, h3⟩
theorem IsDg.lt {w : World} {v : Value} {ds : List Nat} (h : IsDg w v ds) : ∀ d ∈ ds, d < 4294967296 := by
  obtain ⟨_, _, _, _, _, h4, _⟩ := h; exact h4
theorem IsDg.at {w : World} {oa : Option Addr} {n cap : Nat} {ds : List Nat} (h : IsDg w (.slice oa n cap) ds) (h0 : 0 < ds.length) : ∃ g o, oa = some ⟨g, o, none⟩ ∧ g < w.heap.size ∧ ∀ i, i < ds.length → w.cell? ⟨g, o + i, none⟩ = some (.int .u32 (ds.getD i 0 : Nat)) := by
  obtain ⟨oa', cap', hv, _, _, _, h5⟩ := h
  cases hv
  exact h5 (by rintro rfl; simp at h0)
theorem IsDg.take {w : World} {oa : Option Addr} {n cap : Nat} {ds : List Nat} (h : IsDg w (.slice oa n cap) ds) {k : Nat} (hk : k ≤ ds.length) : IsDg w (.slice oa k cap) (ds.take k) := by
  obtain ⟨oa', cap', hv, h2, h3, h4, h5⟩ := h
  cases hv
  have hl : (ds.take k).length = k := by rw [List.length_take]; omega
  refine ⟨oa, cap, by rw [hl], by omega, h3, fun d hd => h4 d (List.mem_of_mem_take hd), fun hne => ?_⟩
  obtain ⟨g, o, e, hg, hc⟩ := h5 (by rintro rfl; simp at hne)
  refine ⟨g, o, e, hg, fun i hi => ?_⟩
  rw [hl] at hi
  rw [hc i (by omega), List.getD_eq_getElem?_getD, List.getD_eq_getElem?_getD, List.getElem?_take, if_pos hi]
theorem dg_get {ds : List Nat} (h : ∀ d ∈ ds, d < 4294967296) (i : Nat) : ds.getD i 0 < 4294967296 := by
  rw [List.getD_eq_getElem?_getD]
  rcases Nat.lt_or_ge i ds.length with hi | hi
  · rw [List.getElem?_eq_getElem hi]; exact h _ (List.getElem_mem hi)
  · rw [List.getElem?_eq_none hi]; simp

/-- Without noughts at the end. -/
def trimN (ds : List Nat) : Nat → Nat
  | 0 => 0
  | n + 1 => if ds.getD n 0 = 0 then trimN ds n else n + 1
def trimD (ds : List Nat) : List Nat := ds.take (trimN ds ds.length)
theorem trimN_le (ds : List Nat) : ∀ n, trimN ds n ≤ n
  | 0 => Nat.le_refl _
  | n + 1 => by unfold trimN; split; exact Nat.le_succ_of_le (trimN_le ds n); exact Nat.le_refl _
theorem trimN_val (ds : List Nat) : ∀ n, n ≤ ds.length → dval (ds.take (trimN ds n)) = dval (ds.take n)
  | 0, _ => rfl
  | n + 1, h => by
    unfold trimN
    by_cases h0 : ds.getD n 0 = 0
    · rw [if_pos h0, trimN_val ds n (by omega), dval_take_succ ds n (by omega), h0]; simp
    · rw [if_neg h0]
theorem trimD_val (ds : List Nat) : dval (trimD ds) = dval ds := by
  unfold trimD; rw [trimN_val ds _ (Nat.le_refl _), List.take_length]
theorem trimN_end (ds : List Nat) : ∀ n, trimN ds n = 0 ∨ ds.getD (trimN ds n - 1) 0 ≠ 0
  | 0 => .inl rfl
  | n + 1 => by
    unfold trimN
    by_cases h : ds.getD n 0 = 0
    · rw [if_pos h]; exact trimN_end ds n
    · rw [if_neg h]; exact .inr h
theorem trimD_len (ds : List Nat) : (trimD ds).length = trimN ds ds.length := by
  unfold trimD; rw [List.length_take, Nat.min_eq_left (trimN_le _ _)]
theorem trimD_le (ds : List Nat) : (trimD ds).length ≤ ds.length := by rw [trimD_len]; exact trimN_le _ _
theorem trimD_noEnd (ds : List Nat) : NoEnd (trimD ds) := by
  by_cases h0 : trimN ds ds.length = 0
  · left; unfold trimD; rw [h0]; simp
  · right
    rw [trimD_len]
    rcases trimN_end ds ds.length with h | h
    · exact absurd h h0
    · unfold trimD
      rw [List.getD_eq_getElem?_getD, List.getElem?_take, if_pos (by omega), ← List.getD_eq_getElem?_getD]; exact h
theorem trimD_mem {ds : List Nat} {d : Nat} (h : d ∈ trimD ds) : d ∈ ds := List.mem_of_mem_take h
theorem trimD_dig {ds : List Nat} (h : ∀ d ∈ ds, d < 4294967296) : trimD ds = digN (dval ds) := by
  rw [← trimD_val ds]
  exact (digN_dval (fun d hd => h d (trimD_mem hd)) (trimD_noEnd ds)).symm

end Go.Proofs.YtnndmdfjdodiiaaGreat

namespace Go.Proofs.YtnndmdfjdodiiaaGreat
open Go.ChangeShapes Go.WideShapes Go.RowKit
set_option linter.unusedVariables false
set_option linter.unusedSimpArgs false
def lenS : Value → Nat
  | .slice _ n _ => n
  | _ => 0

set_option maxRecDepth 100000 in
set_option maxHeartbeats 4000000 in
theorem longTrim_any (w : World) (v : Value) (ds : List Nat) (h : IsDg w v ds) (hl : ds.length ≤ 100000) :
    Calls Tryz.prog 252 #[v] w fun e w' => (∃ v', e = .returned v' ∧ IsDg w v' (trimD ds)) ∧ w' = w := by
  have H := Lib.hid h
  obtain ⟨oa, cap, hv, hcap, hm⟩ := h.len
  subst hv
  unfold maxLen at hm
  have HCAP : Hid (∀ k, k ≤ ds.length → IsDg w (.slice oa k cap) (ds.take k)) := Lib.hid fun k hk => H.out.take hk
  go_enter Tryz.func252, Tryz.ntmps252
  go_wp2
  go_loop [0] (fun s => ∃ k : Nat, k ≤ ds.length ∧ s = .slice oa k cap ∧ trimN ds k = trimN ds ds.length) (fun s => lenS s)
  case atStart => exact ⟨ds.length, Nat.le_refl _, rfl, rfl⟩
  case round =>
    obtain ⟨k, hk, rfl, hb⟩ := hrel
    have HB := Lib.hid hb
    clear hb
    rcases k with _ | k
    · have HV : Hid (trimD ds = ds.take 0) := Lib.hid (by unfold trimD; rw [← HB.out]; rfl)
      go_wp2
      go_ret
      exact ⟨⟨_, rfl, by rw [HV.out]; exact HCAP.out 0 (by omega)⟩, rfl⟩
    · obtain ⟨b, o, hoa, hbl, hc⟩ := H.out.at (by omega)
      subst hoa
      have c0 := hc k (by omega)
      have hk1 : ((k + 1 : Nat) : Int) - 1 = (k : Int) := by omega
      have hk2 : (0 : Int) < ((k + 1 : Nat) : Int) := by omega
      have hkc : (k : Int) < ((k + 1 : Nat) : Int) := by omega
      have hkc2 : (k : Int) ≤ (cap : Int) := by omega
      have hkc3 : k ≤ cap := by omega
      clear hc
      obtain ⟨x, hx⟩ : ∃ x, ds.getD k 0 = x := ⟨_, rfl⟩
      rw [hx] at c0
      have HX := Lib.hid hx
      clear hx
      by_cases h0 : x = 0
      · subst h0
        have HN : Hid (trimN ds k = trimN ds ds.length) := Lib.hid (by rw [← HB.out]; conv => rhs; unfold trimN; rw [if_pos HX.out])
        go_wp2
        go_round
        case rel => exact ⟨k, by omega, by simp, HN.out⟩
        case measure => simp [lenS]
      · have e0 : ((x : Int) == 0) = false := by rw [beq_eq_false_iff_ne]; omega
        have HV : Hid (trimD ds = ds.take (k + 1)) := Lib.hid (by unfold trimD; rw [← HB.out]; conv => lhs; unfold trimN; rw [if_neg (by rw [HX.out]; exact h0)])
        go_wp2
        go_ret
        exact ⟨⟨_, rfl, by rw [HV.out]; exact HCAP.out (k + 1) (by omega)⟩, rfl⟩
end Go.Proofs.YtnndmdfjdodiiaaGreat

namespace Go.Proofs.YtnndmdfjdodiiaaGreat
open Go.ChangeShapes Go.WideShapes Go.RowKit
set_option linter.unusedVariables false
set_option linter.unusedSimpArgs false

abbrev TB : TypeId := 5
theorem infoB : (Tryz.prog.info? 5).map (fun i => (i.zero, i.size, i.bytes)) = some (some (.int .u8 0), 1, 1) := by kernel_rfl

def bv (l : List UInt8) : List Value := l.map fun b => .int .u8 (b.toNat : Int)
theorem bv_one (l : List UInt8) : ∀ u ∈ bv l, u.oneCell' = true := by
  intro u hu
  obtain ⟨x, _, rfl⟩ := List.mem_map.1 hu
  rfl
/-- Bytes of the call's own. -/
def OwnB (w : World) (base : Nat) (v : Value) (l : List UInt8) : Prop := w.ownsRow base TB 1 v l.length (bv l)

theorem OwnB.keep {w w' : World} {base : Nat} {v : Value} {l : List UInt8} (h : OwnB w base v l) (k : Keep NoS w w') : OwnB w' base v l := by
  obtain ⟨hl, h | ⟨g, cap, cur, hv, hb, hg, hl', hm, hs, ht⟩⟩ := h
  · exact ⟨hl, .inl h⟩
  · exact ⟨hl, .inr ⟨g, cap, cur, hv, hb, by rw [k.block g (lt_of_heap hg) fun _ h => h]; exact hg, hl', hm, hs, ht⟩⟩
theorem OwnB.block {w : World} {base : Nat} {v : Value} {l : List UInt8} (h : OwnB w base v l) : ∀ k, v.ownBlock = some k → base ≤ k := fun k hk => (World.ownsRow.lt h k hk).1
theorem OwnB.len {w : World} {base : Nat} {v : Value} {l : List UInt8} (h : OwnB w base v l) : ∃ oa cap, v = .slice oa l.length cap := by
  obtain ⟨hl, h | ⟨g, cap, cur, hv, hb, hg, hl', hm, hs, ht⟩⟩ := h
  · obtain ⟨rfl, h0⟩ := h
    exact ⟨none, 0, by rw [h0]⟩
  · exact ⟨_, cap, hv⟩

/-- What string(b) gives. -/
theorem OwnB.str {w : World} {base : Nat} {v : Value} {l : List UInt8} (h : OwnB w base v l) : (convert 312 9 v).run Tryz.prog w = .ok (.string ⟨l.toArray⟩) w := by
  obtain ⟨hl, h | ⟨g, cap, cur, hv, hb, hg, hl', hm, hs, ht⟩⟩ := h
  · obtain ⟨rfl, h0⟩ := h
    obtain rfl : l = [] := List.eq_nil_of_length_eq_zero h0
    exact Lib.run_convert_nil_bytes (P := Tryz.prog) w 312 9 5 0 Tryz.underlying312 Tryz.underlying5 Tryz.underlying9
  · subst hv
    refine run_convert_bytes_back (P := Tryz.prog) w 312 9 5 ⟨g, 0, none⟩ cap l Tryz.underlying312 Tryz.underlying5 Tryz.underlying9 fun j hj => ?_
    rw [add_zero_off]
    refine cell_of_heap hg ?_
    have h1 : (cur.toList.take (l.length * 1))[j]? = (bv l)[j]? := by rw [ht]
    rw [List.getElem?_take, if_pos (by omega)] at h1
    simpa [bv, hj] using h1

theorem app_four {w : World} {base : Nat} {v : Value} {l : List UInt8} (hown : OwnB w base v l) (d : Nat) {g : Nat} (h0 : w.cell? ⟨g, 0, none⟩ = some (.int .u8 ((UInt8.ofNat d).toNat : Int))) (h1 : w.cell? ⟨g, 1, none⟩ = some (.int .u8 ((UInt8.ofNat (d / 256)).toNat : Int)))
    (h2 : w.cell? ⟨g, 2, none⟩ = some (.int .u8 ((UInt8.ofNat (d / 65536)).toNat : Int))) (h3 : w.cell? ⟨g, 3, none⟩ = some (.int .u8 ((UInt8.ofNat (d / 16777216)).toNat : Int))) (hl : l.length ≤ 1000000) (hb : base ≤ w.heap.size) :
    ∃ v' w', (Builtin.append_ #[312, 312] 312 #[v, .slice (some ⟨g, 0, none⟩) 4 4]).run Tryz.prog w = .ok v' w' ∧ OwnB w' base v' (l ++ dbytes d) ∧ w.grownBy w' v.ownBlock := by
  obtain ⟨i0, hi0, hz0, hz1, hz2⟩ := info_parts infoB
  obtain ⟨v', w', hr, ho, hg⟩ := app_run (P := Tryz.prog) (w := w) (ty := 312) Tryz.underlying312 hi0 hz0 hz1 hz2 rfl (by decide) base v l.length (bv l) hown (some ⟨g, 0, none⟩) 4 4 (bv (dbytes d)) (by simp [bv, dbytes])
    (fun _ => ⟨_, rfl, fun j u hj => by
      rw [add_zero_off]
      rcases j with _ | _ | _ | _ | j
      · simp [bv, dbytes] at hj; rw [h0, ← hj]; simp
      · simp [bv, dbytes] at hj; rw [h1, ← hj]; simp
      · simp [bv, dbytes] at hj; rw [h2, ← hj]; simp
      · simp [bv, dbytes] at hj; rw [h3, ← hj]; simp
      · simp [bv, dbytes] at hj⟩) (bv_one _) (by unfold maxLen; omega) (by omega) hb
  refine ⟨v', w', hr, ?_, hg⟩
  unfold OwnB
  rw [List.length_append, show (dbytes d).length = 4 from rfl, show bv (l ++ dbytes d) = bv l ++ bv (dbytes d) from by simp [bv]]
  exact ho

/-- What is made of a sign and limbs. -/
theorem longV_sgn (neg : Bool) (n : Nat) : longV (sgn neg n) = .agg #[.bool (neg && decide (0 < (digN n).length)), .string (bytesOf (digN n))] := by
  unfold longV
  rw [natAbs_sgn]
  congr 3
  have h : 0 < (digN n).length ↔ n ≠ 0 := by
    rw [List.length_pos_iff, ne_eq, digN_eq_nil]
  cases neg
  · simp [sgn]
  · have h2 : sgn true n < 0 ↔ 0 < (digN n).length := by rw [h]; simp only [sgn, if_true]; omega
    rw [Bool.true_and, decide_eq_decide.2 h2]

theorem bl_take {ds : List Nat} {k : Nat} (hk : k < ds.length) : bl (ds.take (k + 1)) = bl (ds.take k) ++ dbytes (ds.getD k 0) := by
  have e : ds.take (k + 1) = ds.take k ++ [ds[k]] := List.take_succ_eq_append_getElem hk
  rw [e, List.getD_eq_getElem?_getD, List.getElem?_eq_getElem hk]
  unfold bl
  rw [List.flatMap_append]
  simp

set_option maxRecDepth 100000 in
set_option maxHeartbeats 4000000 in
theorem made_any (w : World) (neg : Bool) (v : Value) (ds : List Nat) (h : IsDg w v ds) (hl : ds.length ≤ 20000) :
    Calls Tryz.prog 237 #[.bool neg, v] w fun e w' => e = .returned (longV (sgn neg (dval ds))) ∧ Keep NoS w w' := by
  have H := Lib.hid h
  obtain ⟨oa, cap, rfl, hcap, hm⟩ := h.len
  have HV : Hid (longV (sgn neg (dval ds)) = .agg #[.bool (neg && decide (0 < (trimD ds).length)), .string (bytesOf (trimD ds))]) := Lib.hid (by rw [longV_sgn, ← trimD_dig h.lt])
  have hn := trimD_le ds
  clear h
  obtain ⟨es, hes⟩ : ∃ es, trimD ds = es := ⟨_, rfl⟩
  rw [hes] at HV hn
  have HES := Lib.hid hes
  rw [HV.out]
  clear hes
  go_enter Tryz.func237, Tryz.ntmps237
  go_wp2_with fail
  have k0 : Keep NoS w (w.alloc (.cells #[.bool false, .string ⟨#[]⟩] 213)) := by (repeat' (with_reducible first | assumption | exact HK.out | exact keR | refine keA ?_ | refine keS ?_ fun h => absurd h (by omega) | refine keN ?_ | refine keD ?_))
  refine (longTrim_any _ _ ds (H.out.keep (by (repeat' (with_reducible first | assumption | exact HK.out | exact keR | refine keA ?_ | refine keS ?_ fun h => absurd h (by omega) | refine keN ?_ | refine keD ?_)))) (by omega)).mono ?_
  rintro e w1 ⟨⟨v1, rfl, hd1⟩, rfl⟩
  rw [HES.out] at hd1
  have HD1 := Lib.hid hd1
  obtain ⟨ob, cb, rfl, hcb, hmb⟩ := hd1.len
  have HK0 := Lib.hid k0
  have HB0 : Hid (Blk (w.alloc (.cells #[.bool false, .string ⟨#[]⟩] 213)) w.heap.size #[.bool false, .string ⟨#[]⟩]) := Lib.hid (by (repeat (first | (refine blk_at _ _ ?_; simp; done) | (refine Blk.old ?_ _))))
  obtain ⟨wa, hwa⟩ : ∃ W, w.alloc (.cells #[.bool false, .string ⟨#[]⟩] 213) = W := ⟨_, rfl⟩
  have hsa : wa.heap.size = w.heap.size + 1 := by rw [← hwa]; simp
  rw [hwa] at HD1 HK0 HB0
  rw [hwa]
  clear k0 hd1 hwa
  obtain ⟨i0, hi0, hz0, hs0, hb0⟩ := info_parts infoB
  obtain ⟨w2, hr2, ho2, hg2⟩ := run_make_own (P := Tryz.prog) wa wa.heap.size 312 5 i0 (.int .u8 0) 1 Tryz.underlying312 hi0 hz0 hs0 .i64 .i64 (4 * es.length) (by rw [hb0]; omega) (by unfold maxLen; omega) (by omega)
  have L2 : Keep NoS wa w2 := Keep.of_below (grown_keep hg2 wa.heap.size (Nat.le_refl _) (by simp)) (Nat.le_refl _)
  have HO2 : Hid (OwnB w2 wa.heap.size (.slice (some ⟨wa.heap.size, 0, none⟩) 0 (4 * es.length)) (bl (es.take 0))) := Lib.hid ho2
  have HK2 := Lib.hid L2
  have HSA := Lib.hid hsa
  have hr2' := hr2
  rw [show ((4 * es.length : Nat) : Int) = 4 * (es.length : Int) from by omega] at hr2'
  clear ho2 hg2 L2 hsa
  unfold maxLen at hm hmb
  have hle : (0 : Int) ≤ 4 * (es.length : Int) := by omega
  go_wp2
  clear hr2 hr2' hle
  go_loopw [16, 5] (fun s t wr => ∃ k : Nat, k ≤ es.length ∧ s = .int .i64 k ∧ Keep NoS wa wr ∧ OwnB wr wa.heap.size t (bl (es.take k))) (fun s _ _ => (es.length - intOf s).toNat)
  case atStart => exact ⟨0, by omega, rfl, HK2.out, HO2.out⟩
  case round =>
    obtain ⟨k, hk, rfl, hkr, ho⟩ := hrel
    have HKR := Lib.hid hkr
    have HO := Lib.hid ho
    obtain ⟨ot, ct, hv5⟩ := ho.len
    subst hv5
    have hbl : (bl (es.take k)).length = 4 * k := by rw [bl_len, List.length_take, Nat.min_eq_left hk]
    have hszr := hkr.size
    rw [hbl] at HO ⊢
    by_cases hkl : k < es.length
    · have hlt : (k : Int) < (es.length : Int) := by omega
      obtain ⟨gg, og, hob, hgl, hcs⟩ := (HD1.out.keep hkr).at (by omega)
      subst hob
      have hck := hcs k hkl
      have hdl := dg_get HD1.out.lt k
      have HS := Lib.hid (bl_take hkl)
      obtain ⟨d, hd⟩ : ∃ d, es.getD k 0 = d := ⟨_, rfl⟩
      rw [hd] at hck hdl HS
      clear hd hcs hkr ho
      have k1 : Keep NoS wr (wr.alloc (.cells #[.int .u8 ((d : Int) % 256), .int .u8 ((d : Int) / 256 % 256), .int .u8 ((d : Int) / 65536 % 256), .int .u8 ((d : Int) / 16777216)] TB)) := by (repeat' (with_reducible first | assumption | exact HK.out | exact keR | refine keA ?_ | refine keS ?_ fun h => absurd h (by omega) | refine keN ?_ | refine keD ?_))
      obtain ⟨v', w', hr, ho', hg⟩ := app_four (HO.out.keep k1) d (g := wr.heap.size) (by simp) (by simp) (by simp) (by simp; omega) (by rw [hbl]; omega) (by simp; omega)
      have HO' := Lib.hid ho'
      have HKW : Hid (Keep NoS wa w') := Lib.hid ((HKR.out.both k1).grown hg fun k hk => HO.out.block k hk)
      obtain ⟨ot', ct', hv'⟩ := ho'.len
      have hl4 : (bl (es.take k) ++ dbytes d).length = 4 * k + 4 := by rw [List.length_append, hbl]; rfl
      rw [hl4] at hv'
      subst hv'
      clear ho' hg k1
      go_wp2_with (at_builtin; refine wpList_app_run _ _ 312 _ _ rfl rfl rfl rfl hr ?_)
      go_roundw
      case rel => exact ⟨k + 1, by omega, by go_num, HKW.out, by rw [HS.out]; exact HO'.out⟩
      case measure => simp [intOf]; omega
    · have hlt : ¬ (k : Int) < (es.length : Int) := by omega
      obtain rfl : k = es.length := by omega
      rw [List.take_length] at HO
      have hcv := HO.out.str
      have HBY : Hid ((⟨(bl es).toArray⟩ : ByteArray) = bytesOf es) := Lib.hid rfl
      rw [HBY.out] at hcv
      obtain ⟨p0, p1, f0, f1, pl⟩ := (HB0.out.keep hkr).two
      have HK := Lib.hid (HK0.out.both hkr)
      clear hkr ho
      cases neg
      · go_wp2
        refine bodyPost_ret (by simp [results, Tryz.results237, go_sem, p0, p1, pl]; rfl) rfl ?_
        exact ⟨rfl, by (repeat' (with_reducible first | assumption | exact HK.out | exact keR | refine keA ?_ | refine keS ?_ fun h => absurd h (by omega) | refine keN ?_ | refine keD ?_))⟩
      · go_wp2
        refine bodyPost_ret (by simp [results, Tryz.results237, go_sem, p0, p1, pl]; rfl) rfl ?_
        exact ⟨rfl, by (repeat' (with_reducible first | assumption | exact HK.out | exact keR | refine keA ?_ | refine keS ?_ fun h => absurd h (by omega) | refine keN ?_ | refine keD ?_))⟩
end Go.Proofs.YtnndmdfjdodiiaaGreat

namespace Go.Proofs.YtnndmdfjdodiiaaGreat
open Go.ChangeShapes Go.WideShapes Go.RowKit
set_option linter.unusedVariables false
set_option linter.unusedSimpArgs false

theorem u64_of_nonneg (x : Int) (h1 : 0 ≤ x) (h2 : x ≤ 9223372036854775807) : IntKind.u64.wrap x = (x.natAbs : Nat) := by
  rw [IntKind.wrap_u64]; omega

theorem dig_two (w : World) (u : Nat) (hu : u < 18446744073709551616) : IsDg (w.alloc (.cells #[.int .u32 ((u : Int) % 4294967296), .int .u32 ((u : Int) / 4294967296)] U32)) (.slice (some ⟨w.heap.size, 0, none⟩) 2 2) [u % 4294967296, u / 4294967296] := by
  have h := (dig_new w [u % 4294967296, u / 4294967296] (by simp [maxLen]) (by
    intro d hd
    simp at hd
    omega)).dg
  simpa using h

set_option maxRecDepth 100000 in
set_option maxHeartbeats 4000000 in
theorem longOf_any (w : World) (x : Int) (h1 : -9223372036854775808 ≤ x) (h2 : x ≤ 9223372036854775807) :
    Calls Tryz.prog 203 #[.int .i64 x] w fun e w' => e = .returned (longV x) ∧ Keep NoS w w' := by
  obtain ⟨u, hu⟩ : ∃ u, x.natAbs = u := ⟨_, rfl⟩
  have hul : u < 18446744073709551616 := by omega
  have hd : ∀ d ∈ [u % 4294967296, u / 4294967296], d < 4294967296 := by
    intro d hd
    simp at hd
    omega
  have HN : Hid (dval [u % 4294967296, u / 4294967296] = u) := Lib.hid (by simp [dval]; omega)
  have HS : Hid (sgn (decide (x < 0)) u = x) := Lib.hid (by
    by_cases h : x < 0
    · rw [decide_eq_true h]; simp [sgn]; omega
    · rw [decide_eq_false h]; simp [sgn]; omega)
  have q1 : IntKind.u32.wrap (u : Int) = ((u % 4294967296 : Nat) : Int) := by rw [IntKind.wrap_u32']; omega
  have q2 : IntKind.u32.wrap ((u : Int) / 4294967296) = ((u / 4294967296 : Nat) : Int) := by rw [IntKind.wrap_u32']; omega
  have HD := Lib.hid hd
  have k1 : Keep NoS w (w.alloc (.cells #[.bool false, .string ⟨#[]⟩] 213)) := by (repeat' (with_reducible first | assumption | exact HK.out | exact keR | refine keA ?_ | refine keS ?_ fun h => absurd h (by omega) | refine keN ?_ | refine keD ?_))
  have HK1 := Lib.hid k1
  clear hd k1
  by_cases h0 : x < 0
  · have hw : IntKind.u64.wrap (-IntKind.u64.wrap x) = (u : Nat) := by rw [← hu]; exact size_neg_eq x h0 h1
    have e0 : decide (x < 0) = true := dec_t h0
    rw [e0] at HS
    have HV : Hid (longV x = .agg #[.bool true, .string (bytesOf (digN u))]) := Lib.hid (by unfold longV; rw [e0, hu])
    go_enter Tryz.func203, Tryz.ntmps203
    go_wp2_with fail
    have kk := (HK1.out.alloc (.cells #[.int .u32 ((u : Int) % 4294967296), .int .u32 ((u : Int) / 4294967296)] U32))
    have HB : Hid (Blk ((w.alloc (.cells #[.bool false, .string ⟨#[]⟩] 213)).alloc (.cells #[.int .u32 ((u : Int) % 4294967296), .int .u32 ((u : Int) / 4294967296)] U32)) w.heap.size #[.bool false, .string ⟨#[]⟩]) := Lib.hid (by (repeat (first | (refine blk_at _ _ ?_; simp; done) | (refine Blk.old ?_ _))))
    have hdg := dig_two (w.alloc (.cells #[.bool false, .string ⟨#[]⟩] 213)) u hul
    rw [show (w.alloc (.cells #[.bool false, .string ⟨#[]⟩] 213)).heap.size = w.heap.size + 1 from by simp] at hdg
    refine (made_any _ true _ _ hdg (by simp)).mono ?_
    rintro e w1 ⟨rfl, hk1⟩
    rw [HN.out, HS.out, HV.out]
    have HK := Lib.hid (kk.both hk1)
    obtain ⟨p0, p1, f0, f1, pl⟩ := (HB.out.keep hk1).two
    clear kk hdg hk1
    go_wp2
    refine bodyPost_ret (by simp [results, Tryz.results203, go_sem, p0, p1, pl]; rfl) rfl ?_
    exact ⟨by rw [HV.out], by (repeat' (with_reducible first | assumption | exact HK.out | exact keR | refine keA ?_ | refine keS ?_ fun h => absurd h (by omega) | refine keN ?_ | refine keD ?_))⟩
  · have hw : IntKind.u64.wrap x = (u : Nat) := by rw [← hu]; exact u64_of_nonneg x (by omega) h2
    have e0 : decide (x < 0) = false := dec_f h0
    rw [e0] at HS
    have HV : Hid (longV x = .agg #[.bool false, .string (bytesOf (digN u))]) := Lib.hid (by unfold longV; rw [e0, hu])
    go_enter Tryz.func203, Tryz.ntmps203
    go_wp2_with fail
    have kk := (HK1.out.alloc (.cells #[.int .u32 ((u : Int) % 4294967296), .int .u32 ((u : Int) / 4294967296)] U32))
    have HB : Hid (Blk ((w.alloc (.cells #[.bool false, .string ⟨#[]⟩] 213)).alloc (.cells #[.int .u32 ((u : Int) % 4294967296), .int .u32 ((u : Int) / 4294967296)] U32)) w.heap.size #[.bool false, .string ⟨#[]⟩]) := Lib.hid (by (repeat (first | (refine blk_at _ _ ?_; simp; done) | (refine Blk.old ?_ _))))
    have hdg := dig_two (w.alloc (.cells #[.bool false, .string ⟨#[]⟩] 213)) u hul
    rw [show (w.alloc (.cells #[.bool false, .string ⟨#[]⟩] 213)).heap.size = w.heap.size + 1 from by simp] at hdg
    refine (made_any _ false _ _ hdg (by simp)).mono ?_
    rintro e w1 ⟨rfl, hk1⟩
    rw [HN.out, HS.out, HV.out]
    have HK := Lib.hid (kk.both hk1)
    obtain ⟨p0, p1, f0, f1, pl⟩ := (HB.out.keep hk1).two
    clear kk hdg hk1
    go_wp2
    refine bodyPost_ret (by simp [results, Tryz.results203, go_sem, p0, p1, pl]; rfl) rfl ?_
    exact ⟨by rw [HV.out], by (repeat' (with_reducible first | assumption | exact HK.out | exact keR | refine keA ?_ | refine keS ?_ fun h => absurd h (by omega) | refine keN ?_ | refine keD ?_))⟩

end Go.Proofs.YtnndmdfjdodiiaaGreat
