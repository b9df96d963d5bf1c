/- Farkas' lemma, plain: what is refuted has no point; multipliers times a number; rows without a multiplier. -/
import Derived.Test.YtamjmcdlddocgaaGreatFkAA
import Derived.Test.YtamjmcdlddocgaaGreatRowLawE
namespace Go.Proofs.YtamjmcdlddocgaaGreat
open Go.ChangeShapes Go.WideShapes Go.RowKit
set_option linter.unusedVariables false
set_option linter.unusedSimpArgs false
def sumT (rows : List Rw) (ts : List Rat) (nums : List Fq) : Nat → Rat
 | 0 => 0
 | i + 1 => sumT rows ts nums i + (sumK (rows.getD i nilRw).of nums nums.length - ((rows.getD i nilRw).to : Rat)) * ts.getD i 0
def dotC (rows : List Rw) (ts : List Rat) (nums : List Fq) (i : Nat) : Nat → Rat
 | 0 => 0
 | k + 1 => dotC rows ts nums i k + colK rows ts k i * (nums.getD k ⟨0, 0⟩).q
theorem dotC_zero {rows : List Rw} {ts : List Rat} {nums : List Fq} : ∀ k, dotC rows ts nums 0 k = 0
 | 0 => rfl
 | k + 1 => by simp only [dotC, colK]; rw [dotC_zero k, Rat.zero_mul, Rat.add_zero]
theorem dotC_succ {rows : List Rw} {ts : List Rat} {nums : List Fq} {i : Nat} : ∀ k, dotC rows ts nums (i + 1) k = dotC rows ts nums i k + sumK (rows.getD i nilRw).of nums k * ts.getD i 0
 | 0 => by simp only [dotC, sumK]; rw [Rat.zero_mul, Rat.add_zero]
 | k + 1 => by
  simp only [dotC, sumK, colK]
  rw [dotC_succ k]
  generalize dotC rows ts nums i k = a
  generalize sumK (rows.getD i nilRw).of nums k = b
  generalize colK rows ts k i = c
  generalize ((rows.getD i nilRw).of.getD k 0 : Rat) = d
  generalize ts.getD i 0 = t
  generalize (nums.getD k ⟨0, 0⟩).q = x
  grind
theorem sumT_eq {rows : List Rw} {ts : List Rat} {nums : List Fq} : ∀ i, sumT rows ts nums i = dotC rows ts nums i nums.length - toK rows ts i
 | 0 => by simp only [sumT, toK]; rw [dotC_zero]; grind
 | i + 1 => by
  simp only [sumT, toK]
  rw [sumT_eq i, dotC_succ]
  grind
theorem holds_le {r : Rw} {nums : List Fq} (hk : r.kind = 1 ∨ r.kind = 2 ∨ r.kind = 3) (hl : r.of.length ≤ nums.length) (h : holdsB r nums = true) :
  sumK r.of nums nums.length - (r.to : Rat) ≤ 0 ∧ (r.kind = 2 → sumK r.of nums nums.length - (r.to : Rat) < 0) ∧ (r.kind = 3 → sumK r.of nums nums.length - (r.to : Rat) = 0) := by
 rw [sumK_all hl]
 unfold holdsB at h
 generalize sumK r.of nums r.of.length - (r.to : Rat) = q at *
 obtain ⟨of, kind, tt⟩ := r
 simp only at hk h ⊢
 rcases hk with rfl | rfl | rfl
 ·rw [holds1, decide_eq_true_iff, ratS_le] at h
  exact ⟨h, fun h => by omega, fun h => by omega⟩
 ·rw [holds2, decide_eq_true_iff, ratS_lt] at h
  exact ⟨by grind, fun _ => h, fun h => by omega⟩
 ·rw [holds3, decide_eq_true_iff, Int.sign_eq_zero_iff_zero, Rat.num_eq_zero] at h
  exact ⟨by grind, fun h => by omega, fun _ => h⟩
def SameTo (rows : List Rw) (ts : List Rat) (rows' : List Rw) (ts' : List Rat) (i : Nat) : Prop := ∀ j, j < i → rows'.getD j nilRw = rows.getD j nilRw ∧ ts'.getD j 0 = ts.getD j 0
theorem SameTo.mono {rows rows' : List Rw} {ts ts' : List Rat} {i j : Nat} (h : SameTo rows ts rows' ts' i) (hj : j ≤ i) : SameTo rows ts rows' ts' j := fun k hk => h k (by omega)
end Go.Proofs.YtamjmcdlddocgaaGreat
