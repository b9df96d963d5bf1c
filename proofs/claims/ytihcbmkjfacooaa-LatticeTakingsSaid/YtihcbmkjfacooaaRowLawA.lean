/- Plain laws of rows: the contrary. -/
import Derived.Test.YtihcbmkjfacooaaPtAA
import Derived.Test.YtihcbmkjfacooaaRowFormsU
namespace Go.Proofs.Ytihcbmkjfacooaa
open Go.ChangeShapes Go.WideShapes Go.RowKit
set_option linter.unusedVariables false
set_option linter.unusedSimpArgs false

theorem valV_form (r : Rw) (nums : List Fq) : ∃ a b c d : Int, valV r nums = .tuple #[.agg #[.int .i64 a, .int .i64 b], .agg #[.int .i64 c, .int .i64 d]] ∧
    ((ptF r nums).1 ≠ 0 → a = 0 ∧ b = 0 ∧ (c, d) = ptF r nums) ∧ ((ptF r nums).1 = 0 → fracMadeV (sumK r.of nums r.of.length) = .tuple #[.agg #[.int .i64 a, .int .i64 b], .agg #[.int .i64 c, .int .i64 d]]) := by
  unfold valV
  by_cases hc : (ptF r nums).1 = 0
  · rw [if_neg (not_not_intro hc)]
    unfold fracMadeV
    split
    · exact ⟨_, _, _, _, rfl, fun h => absurd hc h, fun _ => rfl⟩
    · exact ⟨_, _, _, _, rfl, fun h => absurd hc h, fun _ => rfl⟩
  · rw [if_pos hc]
    exact ⟨0, 0, _, _, rfl, fun _ => ⟨rfl, rfl, rfl⟩, fun h => absurd h hc⟩
theorem holdsV_form (r : Rw) (nums : List Fq) : ∃ b : Bool, holdsV r nums = .tuple #[.bool b, fV (ptF r nums)] ∧ ((ptF r nums).1 ≠ 0 → b = false) ∧ ((ptF r nums).1 = 0 → b = holdsB r nums) := by
  unfold holdsV
  by_cases hc : (ptF r nums).1 = 0
  · rw [if_neg (not_not_intro hc), (ptF_ok hc).1]
    exact ⟨_, rfl, fun h => absurd rfl h, fun _ => rfl⟩
  · rw [if_pos hc]
    exact ⟨_, rfl, fun _ => rfl, fun h => absurd h hc⟩


theorem fit_neg {x : Int} : fitI (-x) ↔ fitI x := by unfold fitI; omega
theorem firstOut_fit : ∀ {l : List Int} {i : Nat}, (∀ x ∈ l, fitI x) → firstOut l i = (0, 0)
  | [], _, _ => rfl
  | x :: l, i, h => by
    unfold firstOut
    rw [if_pos (h x (by simp))]
    exact firstOut_fit fun y hy => h y (by simp [hy])
/-- Of a row whose numbers fit, only the count of numbers matters. -/
theorem chkRow_fit {r : Rw} (hk : r.kind = 1 ∨ r.kind = 2 ∨ r.kind = 3) (hf : ∀ x ∈ r.of, fitI x) (ht : fitI r.to) (n : Int) : chkRow r n = if n < 0 ∨ 12 < n then (3, -1) else if n < r.of.length then (9, 0) else (0, 0) := by
  unfold chkRow
  rw [if_neg (not_not_intro hk), firstOut_fit (l := r.of ++ [r.to]) (i := 0)]
  intro x hx
  rcases List.mem_append.1 hx with h | h
  · exact hf x h
  · simp at h; rw [h]; exact ht
theorem notR_notR (r : Rw) : notR (notR r) = r := by
  obtain ⟨of, kind, tt⟩ := r
  unfold notR
  simp only [List.map_map, Rw.mk.injEq]
  refine ⟨?_, by omega, by omega⟩
  have : (fun x : Int => -x) ∘ (fun x => -x) = id := by funext x; simp
  rw [this, List.map_id]
theorem notR_kind {r : Rw} (hk : r.kind = 1 ∨ r.kind = 2 ∨ r.kind = 3) (h3 : r.kind ≠ 3) : (notR r).kind = 1 ∨ (notR r).kind = 2 ∨ (notR r).kind = 3 := by
  unfold notR; simp only; omega
theorem notR_fit {r : Rw} (hf : ∀ x ∈ r.of, fitI x) : ∀ x ∈ (notR r).of, fitI x := by
  intro x hx
  obtain ⟨y, hy, rfl⟩ := List.mem_map.1 hx
  exact fit_neg.2 (hf y hy)
theorem chk_not {r : Rw} (hok : RowOK r 12) (h3 : r.kind ≠ 3) (n : Int) : chkRow (notR r) n = chkRow r n := by
  rw [chkRow_fit hok.kind hok.fit hok.fto, chkRow_fit (notR_kind hok.kind h3) (notR_fit hok.fit) (fit_neg.2 hok.fto)]
  have : (notR r).of.length = r.of.length := by unfold notR; simp
  rw [this]
theorem not_not_row {r : Rw} (hc : (chkRow r 12).1 = 0) (h3 : r.kind ≠ 3) : notS (notR r) = (r, (0, 0)) ∧ (notR r).kind ≠ 3 := by
  have hok := (chkRow_ok hc).2
  have hk : (notR r).kind ≠ 3 := by unfold notR; simp only; have := hok.kind; omega
  unfold notS
  rw [chk_not hok h3, if_pos hc, if_neg hk, notR_notR]
  exact ⟨rfl, hk⟩
theorem ptF_not {r : Rw} (hc : (chkRow r 12).1 = 0) (h3 : r.kind ≠ 3) (nums : List Fq) : ptF (notR r) nums = ptF r nums := by
  unfold ptF
  rw [chk_not (chkRow_ok hc).2 h3]

theorem map_getD0 (l : List Int) (f : Int → Int) (h0 : f 0 = 0) (k : Nat) : (l.map f).getD k 0 = f (l.getD k 0) := by
  rw [List.getD_eq_getElem?_getD, List.getD_eq_getElem?_getD, List.getElem?_map]
  cases l[k]? <;> simp [h0]
theorem sumK_neg (of : List Int) (nums : List Fq) : ∀ k, sumK (of.map fun x => -x) nums k = -(sumK of nums k)
  | 0 => by simp [sumK]
  | k + 1 => by
    simp only [sumK]
    rw [sumK_neg of nums k, map_getD0 of (fun x => -x) rfl, Rat.intCast_neg, Rat.neg_mul, Rat.neg_add]
theorem holdsB_not {r : Rw} {nums : List Fq} {n : Int} (hok : RowOK r n) (h3 : r.kind ≠ 3) : holdsB (notR r) nums = !holdsB r nums := by
  unfold holdsB
  have e : sumK (notR r).of nums (notR r).of.length - ((notR r).to : Rat) = -(sumK r.of nums r.of.length - (r.to : Rat)) := by
    have hl : (notR r).of.length = r.of.length := by unfold notR; simp
    rw [hl]
    show sumK (r.of.map fun x => -x) nums r.of.length - ((-r.to : Int) : Rat) = _
    rw [sumK_neg, Rat.intCast_neg, Rat.sub_eq_add_neg, Rat.sub_eq_add_neg, Rat.neg_add]
  rw [e, Rat.neg_num, Int.sign_neg]
  generalize (sumK r.of nums r.of.length - (r.to : Rat)).num.sign = c
  have hk := hok.kind
  obtain ⟨of, kind, tt⟩ := r
  simp only at hk h3
  rcases hk with rfl | rfl | rfl
  · show holdsP 2 (-c) = !holdsP 1 c
    rw [holds1, holds2]
    by_cases h : c ≤ 0
    · rw [decide_eq_true h, decide_eq_false (by omega)]; rfl
    · rw [decide_eq_false h, decide_eq_true (by omega)]; rfl
  · show holdsP 1 (-c) = !holdsP 2 c
    rw [holds1, holds2]
    by_cases h : c < 0
    · rw [decide_eq_true h, decide_eq_false (by omega)]; rfl
    · rw [decide_eq_false h, decide_eq_true (by omega)]; rfl
  · exact absurd rfl h3
end Go.Proofs.Ytihcbmkjfacooaa
