/- Farkas' lemma, plain: what is refuted has no point; multipliers times a number; rows without a multiplier. -/
import Derived.Test.YtihcbmkjfacooaaFkP
import Derived.Test.YtihcbmkjfacooaaRowLawE
namespace Go.Proofs.Ytihcbmkjfacooaa
open Go.ChangeShapes Go.WideShapes Go.RowKit
set_option linter.unusedVariables false
set_option linter.unusedSimpArgs false

/-- No multiplier of a row that is no equation is below 0. -/
def posK (rows : List Rw) (ts : List Rat) : Nat → Bool
  | 0 => true
  | i + 1 => posK rows ts i && (decide ((rows.getD i nilRw).kind = 3) || decide (0 ≤ ts.getD i 0))
def zeroK (rows : List Rw) (ts : List Rat) : Nat → Bool
  | 0 => true
  | k + 1 => zeroK rows ts k && decide (colK rows ts k rows.length = 0)
def endB (rows : List Rw) (ts : List Rat) : Bool := decide (toK rows ts rows.length < 0) || (decide (toK rows ts rows.length = 0) && strK rows ts rows.length)
/-- Multipliers refute rows. -/
def refB (rows : List Rw) (ts : List Rat) (N : Nat) : Bool := posK rows ts rows.length && (zeroK rows ts N && endB rows ts)

def sumT (rows : List Rw) (ts : List Rat) (nums : List Fq) : Nat → Rat
  | 0 => 0
  | i + 1 => sumT rows ts nums i + (sumK (rows.getD i nilRw).of nums nums.length - ((rows.getD i nilRw).to : Rat)) * ts.getD i 0
def dotC (rows : List Rw) (ts : List Rat) (nums : List Fq) (i : Nat) : Nat → Rat
  | 0 => 0
  | k + 1 => dotC rows ts nums i k + colK rows ts k i * (nums.getD k ⟨0, 0⟩).q
theorem dotC_zero {rows : List Rw} {ts : List Rat} {nums : List Fq} : ∀ k, dotC rows ts nums 0 k = 0
  | 0 => rfl
  | k + 1 => by simp only [dotC, colK]; rw [dotC_zero k, Rat.zero_mul, Rat.add_zero]
theorem dotC_succ {rows : List Rw} {ts : List Rat} {nums : List Fq} {i : Nat} : ∀ k, dotC rows ts nums (i + 1) k = dotC rows ts nums i k + sumK (rows.getD i nilRw).of nums k * ts.getD i 0
  | 0 => by simp only [dotC, sumK]; rw [Rat.zero_mul, Rat.add_zero]
  | k + 1 => by
    simp only [dotC, sumK, colK]
    rw [dotC_succ k]
    generalize dotC rows ts nums i k = a
    generalize sumK (rows.getD i nilRw).of nums k = b
    generalize colK rows ts k i = c
    generalize ((rows.getD i nilRw).of.getD k 0 : Rat) = d
    generalize ts.getD i 0 = t
    generalize (nums.getD k ⟨0, 0⟩).q = x
    grind
theorem sumT_eq {rows : List Rw} {ts : List Rat} {nums : List Fq} : ∀ i, sumT rows ts nums i = dotC rows ts nums i nums.length - toK rows ts i
  | 0 => by simp only [sumT, toK]; rw [dotC_zero]; grind
  | i + 1 => by
    simp only [sumT, toK]
    rw [sumT_eq i, dotC_succ]
    grind
theorem dotC_none {rows : List Rw} {ts : List Rat} {nums : List Fq} {N : Nat} : ∀ k, zeroK rows ts k = true → dotC rows ts nums rows.length k = 0
  | 0, _ => rfl
  | k + 1, h => by
    simp only [zeroK, Bool.and_eq_true, decide_eq_true_eq] at h
    simp only [dotC]
    rw [dotC_none (N := N) k h.1, h.2, Rat.zero_mul, Rat.add_zero]
theorem holds_le {r : Rw} {nums : List Fq} (hk : r.kind = 1 ∨ r.kind = 2 ∨ r.kind = 3) (hl : r.of.length ≤ nums.length) (h : holdsB r nums = true) :
    sumK r.of nums nums.length - (r.to : Rat) ≤ 0 ∧ (r.kind = 2 → sumK r.of nums nums.length - (r.to : Rat) < 0) ∧ (r.kind = 3 → sumK r.of nums nums.length - (r.to : Rat) = 0) := by
  rw [sumK_all hl]
  unfold holdsB at h
  generalize sumK r.of nums r.of.length - (r.to : Rat) = q at *
  obtain ⟨of, kind, tt⟩ := r
  simp only at hk h ⊢
  rcases hk with rfl | rfl | rfl
  · rw [holds1, decide_eq_true_iff, ratS_le] at h
    exact ⟨h, fun h => by omega, fun h => by omega⟩
  · rw [holds2, decide_eq_true_iff, ratS_lt] at h
    exact ⟨by grind, fun _ => h, fun h => by omega⟩
  · rw [holds3, decide_eq_true_iff, Int.sign_eq_zero_iff_zero, Rat.num_eq_zero] at h
    exact ⟨by grind, fun h => by omega, fun _ => h⟩
theorem mul_le0 {a t : Rat} (ha : a ≤ 0) (ht : 0 ≤ t) : a * t ≤ 0 := by
  have := Rat.mul_nonneg (a := -a) (b := t) (by grind) ht
  grind
theorem mul_lt0 {a t : Rat} (ha : a < 0) (ht : 0 < t) : a * t < 0 := by
  have := Rat.mul_pos (a := -a) (b := t) (by grind) ht
  grind
theorem sumT_le {rows : List Rw} {ts : List Rat} {nums : List Fq} (hr : ∀ r ∈ rows, RowOK r nums.length) (hh : ∀ r ∈ rows, holdsB r nums = true) : ∀ i, i ≤ rows.length → posK rows ts i = true → sumT rows ts nums i ≤ 0 ∧ (strK rows ts i = true → sumT rows ts nums i < 0)
  | 0, _, _ => ⟨by simp only [sumT]; grind, fun h => by simp [strK] at h⟩
  | i + 1, hi, hp => by
    simp only [posK, Bool.and_eq_true, Bool.or_eq_true, decide_eq_true_eq] at hp
    obtain ⟨ih1, ih2⟩ := sumT_le hr hh i (by omega) hp.1
    simp only [sumT, strK, Bool.or_eq_true, Bool.and_eq_true, decide_eq_true_eq]
    have hm := List.getElem_mem (l := rows) (n := i) (by omega)
    have hok := hr _ hm
    have hl := hok.len
    obtain ⟨l1, l2, l3⟩ := holds_le hok.kind (by omega) (hh _ hm)
    have hp2 := hp.2
    rw [row_getD (by omega)] at hp2 ⊢
    generalize sumK (rows[i]).of nums nums.length - ((rows[i]).to : Rat) = a at *
    generalize ts.getD i 0 = t at *
    generalize sumT rows ts nums i = s at *
    rcases hp2 with h3 | ht
    · have ha := l3 h3
      subst ha
      rw [Rat.zero_mul]
      refine ⟨by grind, fun h => ?_⟩
      rcases h with h | h
      · have := ih2 h; grind
      · omega
    · have := mul_le0 l1 ht
      refine ⟨by grind, fun h => ?_⟩
      rcases h with h | h
      · have := ih2 h; grind
      · have := mul_lt0 (l2 h.1) (t := t) (by grind)
        grind
/-- What is refuted has no point. -/
theorem fark_sound {rows : List Rw} {ts : List Rat} {nums : List Fq} (hr : ∀ r ∈ rows, RowOK r nums.length) (hh : ∀ r ∈ rows, holdsB r nums = true) (ht : refB rows ts nums.length = true) : False := by
  unfold refB endB at ht
  simp only [Bool.and_eq_true, Bool.or_eq_true, decide_eq_true_eq] at ht
  obtain ⟨hp, hz, he⟩ := ht
  obtain ⟨h1, h2⟩ := sumT_le hr hh rows.length (Nat.le_refl _) hp
  have e := sumT_eq (rows := rows) (ts := ts) (nums := nums) rows.length
  rw [dotC_none (N := nums.length) _ hz] at e
  rcases he with h | ⟨h, hs⟩
  · grind
  · have := h2 hs
    grind

/-! ### all times one number -/
def scaleT (c : Rat) (ts : List Rat) : List Rat := ts.map fun t => t * c
theorem scale_getD {c : Rat} {ts : List Rat} (i : Nat) : (scaleT c ts).getD i 0 = ts.getD i 0 * c := by
  unfold scaleT
  rw [List.getD_eq_getElem?_getD, List.getElem?_map, List.getD_eq_getElem?_getD]
  rcases ts[i]? with _ | t
  · show (0 : Rat) = 0 * c; rw [Rat.zero_mul]
  · rfl
theorem colK_scale {rows : List Rw} {ts : List Rat} {c : Rat} {k : Nat} : ∀ i, colK rows (scaleT c ts) k i = colK rows ts k i * c
  | 0 => by simp only [colK]; rw [Rat.zero_mul]
  | i + 1 => by simp only [colK]; rw [colK_scale i, scale_getD]; grind
theorem toK_scale {rows : List Rw} {ts : List Rat} {c : Rat} : ∀ i, toK rows (scaleT c ts) i = toK rows ts i * c
  | 0 => by simp only [toK]; rw [Rat.zero_mul]
  | i + 1 => by simp only [toK]; rw [toK_scale i, scale_getD]; grind
theorem mulc_zero {c t : Rat} (hc : 0 < c) : (t * c = 0) ↔ (t = 0) := by
  constructor
  · intro h
    rcases Rat.mul_eq_zero.1 h with h | h
    · exact h
    · grind
  · rintro rfl; exact Rat.zero_mul _
theorem mulc_pos {c t : Rat} (hc : 0 < c) : (0 ≤ t * c) ↔ (0 ≤ t) := by
  constructor
  · intro h
    rcases (Rat.le_total : (0 : Rat) ≤ t ∨ t ≤ 0) with ht | ht
    · exact ht
    · by_cases h0 : t = 0
      · grind
      · have := mul_lt0 (a := t) (t := c) (by grind) hc
        grind
  · intro h; exact Rat.mul_nonneg h (by grind)
theorem mulc_neg {c t : Rat} (hc : 0 < c) : (t * c < 0) ↔ (t < 0) := by
  rw [← Rat.not_le, ← Rat.not_le, mulc_pos hc]
theorem strK_scale {rows : List Rw} {ts : List Rat} {c : Rat} (hc : 0 < c) : ∀ i, strK rows (scaleT c ts) i = strK rows ts i
  | 0 => rfl
  | i + 1 => by simp only [strK]; rw [strK_scale hc i, scale_getD]; simp only [ne_eq, mulc_zero hc]
theorem posK_scale {rows : List Rw} {ts : List Rat} {c : Rat} (hc : 0 < c) : ∀ i, posK rows (scaleT c ts) i = posK rows ts i
  | 0 => rfl
  | i + 1 => by simp only [posK]; rw [posK_scale hc i, scale_getD]; simp only [mulc_pos hc]
theorem zeroK_scale {rows : List Rw} {ts : List Rat} {c : Rat} (hc : 0 < c) : ∀ k, zeroK rows (scaleT c ts) k = zeroK rows ts k
  | 0 => rfl
  | k + 1 => by simp only [zeroK]; rw [zeroK_scale hc k, colK_scale]; simp only [mulc_zero hc]
theorem refB_scale {rows : List Rw} {ts : List Rat} {N : Nat} {c : Rat} (hc : 0 < c) : refB rows (scaleT c ts) N = refB rows ts N := by
  unfold refB endB
  rw [posK_scale hc, zeroK_scale hc, toK_scale, strK_scale hc]
  simp only [mulc_zero hc, mulc_neg hc]

/-! ### without the rows of multiplier 0 -/
def lessK (rows : List Rw) (ts : List Rat) : Nat → List Rw
  | 0 => []
  | i + 1 => if ts.getD i 0 = 0 then lessK rows ts i else lessK rows ts i ++ [rows.getD i nilRw]
def leftK (ts : List Rat) : Nat → List Rat
  | 0 => []
  | i + 1 => if ts.getD i 0 = 0 then leftK ts i else leftK ts i ++ [ts.getD i 0]
theorem less_len {rows : List Rw} {ts : List Rat} : ∀ i, (lessK rows ts i).length = (leftK ts i).length
  | 0 => rfl
  | i + 1 => by
    unfold lessK leftK
    split
    · exact less_len i
    · rw [List.length_append, List.length_append, less_len i]; rfl
def SameTo (rows : List Rw) (ts : List Rat) (rows' : List Rw) (ts' : List Rat) (i : Nat) : Prop := ∀ j, j < i → rows'.getD j nilRw = rows.getD j nilRw ∧ ts'.getD j 0 = ts.getD j 0
theorem SameTo.mono {rows rows' : List Rw} {ts ts' : List Rat} {i j : Nat} (h : SameTo rows ts rows' ts' i) (hj : j ≤ i) : SameTo rows ts rows' ts' j := fun k hk => h k (by omega)
theorem colK_to {rows rows' : List Rw} {ts ts' : List Rat} {k : Nat} : ∀ i, SameTo rows ts rows' ts' i → colK rows' ts' k i = colK rows ts k i
  | 0, _ => rfl
  | i + 1, h => by simp only [colK]; rw [colK_to i (h.mono (by omega)), (h i (by omega)).1, (h i (by omega)).2]
theorem toK_to {rows rows' : List Rw} {ts ts' : List Rat} : ∀ i, SameTo rows ts rows' ts' i → toK rows' ts' i = toK rows ts i
  | 0, _ => rfl
  | i + 1, h => by simp only [toK]; rw [toK_to i (h.mono (by omega)), (h i (by omega)).1, (h i (by omega)).2]
theorem strK_to {rows rows' : List Rw} {ts ts' : List Rat} : ∀ i, SameTo rows ts rows' ts' i → strK rows' ts' i = strK rows ts i
  | 0, _ => rfl
  | i + 1, h => by simp only [strK]; rw [strK_to i (h.mono (by omega)), (h i (by omega)).1, (h i (by omega)).2]
theorem posK_to {rows rows' : List Rw} {ts ts' : List Rat} : ∀ i, SameTo rows ts rows' ts' i → posK rows' ts' i = posK rows ts i
  | 0, _ => rfl
  | i + 1, h => by simp only [posK]; rw [posK_to i (h.mono (by omega)), (h i (by omega)).1, (h i (by omega)).2]
theorem sameTo_app {L : List Rw} {T : List Rat} {r : Rw} {t : Rat} (h : L.length = T.length) : SameTo L T (L ++ [r]) (T ++ [t]) L.length := by
  intro j hj
  simp [List.getD_eq_getElem?_getD, List.getElem?_append_left hj, List.getElem?_append_left (l₁ := T) (by omega : j < T.length)]
theorem app_last {α : Type} {L : List α} {r d : α} {n : Nat} (h : n = L.length) : (L ++ [r]).getD n d = r := by
  subst h
  simp [List.getD_eq_getElem?_getD]
theorem less_colK {rows : List Rw} {ts : List Rat} {k : Nat} : ∀ i, colK (lessK rows ts i) (leftK ts i) k (lessK rows ts i).length = colK rows ts k i
  | 0 => rfl
  | i + 1 => by
    have ih := less_colK (rows := rows) (ts := ts) (k := k) i
    have hl := less_len (rows := rows) (ts := ts) i
    unfold lessK leftK
    simp only [colK]
    by_cases h : ts.getD i 0 = 0
    · rw [if_pos h, if_pos h, ih, h, Rat.mul_zero, Rat.add_zero]
    · rw [if_neg h, if_neg h, List.length_append, List.length_singleton]
      simp only [colK]
      rw [colK_to _ (sameTo_app hl), ih, app_last rfl, app_last hl]
theorem less_toK {rows : List Rw} {ts : List Rat} : ∀ i, toK (lessK rows ts i) (leftK ts i) (lessK rows ts i).length = toK rows ts i
  | 0 => rfl
  | i + 1 => by
    have ih := less_toK (rows := rows) (ts := ts) i
    have hl := less_len (rows := rows) (ts := ts) i
    unfold lessK leftK
    simp only [toK]
    by_cases h : ts.getD i 0 = 0
    · rw [if_pos h, if_pos h, ih, h, Rat.mul_zero, Rat.add_zero]
    · rw [if_neg h, if_neg h, List.length_append, List.length_singleton]
      simp only [toK]
      rw [toK_to _ (sameTo_app hl), ih, app_last rfl, app_last hl]
theorem less_strK {rows : List Rw} {ts : List Rat} : ∀ i, strK (lessK rows ts i) (leftK ts i) (lessK rows ts i).length = strK rows ts i
  | 0 => rfl
  | i + 1 => by
    have ih := less_strK (rows := rows) (ts := ts) i
    have hl := less_len (rows := rows) (ts := ts) i
    unfold lessK leftK
    simp only [strK]
    by_cases h : ts.getD i 0 = 0
    · rw [if_pos h, if_pos h, ih, h]; simp
    · rw [if_neg h, if_neg h, List.length_append, List.length_singleton]
      simp only [strK]
      rw [strK_to _ (sameTo_app hl), ih, app_last rfl, app_last hl]
theorem less_posK {rows : List Rw} {ts : List Rat} : ∀ i, posK (lessK rows ts i) (leftK ts i) (lessK rows ts i).length = posK rows ts i
  | 0 => rfl
  | i + 1 => by
    have ih := less_posK (rows := rows) (ts := ts) i
    have hl := less_len (rows := rows) (ts := ts) i
    unfold lessK leftK
    simp only [posK]
    by_cases h : ts.getD i 0 = 0
    · rw [if_pos h, if_pos h, ih, h]; simp
    · rw [if_neg h, if_neg h, List.length_append, List.length_singleton]
      simp only [posK]
      rw [posK_to _ (sameTo_app hl), ih, app_last rfl, app_last hl]
theorem less_zeroK {rows : List Rw} {ts : List Rat} : ∀ k, zeroK (lessK rows ts rows.length) (leftK ts rows.length) k = zeroK rows ts k
  | 0 => rfl
  | k + 1 => by simp only [zeroK]; rw [less_zeroK k, less_colK]
theorem refB_less {rows : List Rw} {ts : List Rat} {N : Nat} : refB (lessK rows ts rows.length) (leftK ts rows.length) N = refB rows ts N := by
  unfold refB endB
  rw [less_posK, less_zeroK, less_toK, less_strK]
theorem less_mem {rows : List Rw} {ts : List Rat} : ∀ i, i ≤ rows.length → ∀ r ∈ lessK rows ts i, r ∈ rows
  | 0, _, r, h => by cases h
  | i + 1, hi, r, h => by
    unfold lessK at h
    split at h
    · exact less_mem i (by omega) r h
    · rcases List.mem_append.1 h with h | h
      · exact less_mem i (by omega) r h
      · rw [List.mem_singleton] at h
        rw [h, row_getD (by omega)]
        exact List.getElem_mem _
theorem less_le {rows : List Rw} {ts : List Rat} : ∀ i, (lessK rows ts i).length ≤ i
  | 0 => Nat.le_refl _
  | i + 1 => by
    have := less_le (rows := rows) (ts := ts) i
    unfold lessK
    split
    · omega
    · rw [List.length_append, List.length_singleton]; omega
end Go.Proofs.Ytihcbmkjfacooaa
