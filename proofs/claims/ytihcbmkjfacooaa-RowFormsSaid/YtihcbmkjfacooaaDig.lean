/- Numbers in digits of 32 bits, told as functions of the place: plain arithmetic. -/
import Derived.Test.YtihcbmkjfacooaaRatB
import Derived.Test.YtihcbmkjfacooaaArrG
namespace Go.Proofs.Ytihcbmkjfacooaa
open Go.ChangeShapes Go.WideShapes Go.RowKit
set_option linter.unusedVariables false
set_option linter.unusedSimpArgs false

def dv (f : Nat → Nat) : Nat → Nat
  | 0 => 0
  | k + 1 => dv f k + 4294967296 ^ k * f k

theorem dv_congr {f g : Nat → Nat} : ∀ {k : Nat}, (∀ i, i < k → f i = g i) → dv f k = dv g k
  | 0, _ => rfl
  | k + 1, h => by rw [dv, dv, dv_congr fun i hi => h i (by omega), h k (by omega)]

theorem dv_lt {f : Nat → Nat} : ∀ {k : Nat}, (∀ i, i < k → f i < 4294967296) → dv f k < 4294967296 ^ k
  | 0, _ => by simp [dv]
  | k + 1, h => by
    have h1 := dv_lt (k := k) fun i hi => h i (by omega)
    have h2 := h k (by omega)
    rw [dv, Nat.pow_succ]
    have h3 : 4294967296 ^ k * (f k + 1) ≤ 4294967296 ^ k * 4294967296 := Nat.mul_le_mul_left _ (by omega)
    rw [Nat.mul_add] at h3
    omega

theorem dv_pad {f : Nat → Nat} {n : Nat} : ∀ m, (∀ i, n ≤ i → i < n + m → f i = 0) → dv f (n + m) = dv f n
  | 0, _ => rfl
  | m + 1, h => by
    rw [← Nat.add_assoc, dv, h (n + m) (by omega) (by omega), dv_pad m fun i h1 h2 => h i h1 (by omega)]
    omega

theorem dv_split (f : Nat → Nat) (n : Nat) : ∀ m, dv f (n + m) = dv f n + 4294967296 ^ n * dv (fun i => f (n + i)) m
  | 0 => by simp [dv]
  | m + 1 => by
    rw [← Nat.add_assoc, dv, dv_split f n m, dv, Nat.mul_add, Nat.pow_add, Nat.mul_assoc, Nat.add_assoc]

theorem dv_upd (f : Nat → Nat) (p v : Nat) : ∀ n, p < n → dv (fun i => if i = p then v else f i) n + 4294967296 ^ p * f p = dv f n + 4294967296 ^ p * v
  | 0, h => absurd h (by omega)
  | n + 1, h => by
    rw [dv, dv]
    by_cases hp : n = p
    · subst hp
      rw [if_pos rfl, dv_congr (f := fun i => if i = n then v else f i) (g := f) fun i hi => if_neg (by omega)]
      omega
    · have ih := dv_upd f p v n (by omega)
      rw [if_neg hp]
      omega

theorem dval_dv : ∀ (ds : List Nat), dval ds = dv (fun i => ds.getD i 0) ds.length := by
  have h : ∀ (ds : List Nat) (k : Nat), k ≤ ds.length → dval (ds.take k) = dv (fun i => ds.getD i 0) k := by
    intro ds k
    induction k with
    | zero => intro _; simp [dval, dv]
    | succ k ih => intro hk; rw [dval_take_succ ds k (by omega), ih (by omega), dv]
  intro ds
  have := h ds ds.length (Nat.le_refl _)
  rwa [List.take_length] at this

/-- Beyond its end a list's digits are noughts. -/
theorem dval_dv' (ds : List Nat) (n : Nat) (h : ds.length ≤ n) : dv (fun i => ds.getD i 0) n = dval ds := by
  rw [show n = ds.length + (n - ds.length) by omega, dv_pad _ fun i h1 _ => by simp [List.getD, List.getElem?_eq_none h1], dval_dv]

def digs (f : Nat → Nat) (n : Nat) : List Nat := (List.range n).map f
theorem digs_len (f : Nat → Nat) (n : Nat) : (digs f n).length = n := by simp [digs]
theorem digs_get (f : Nat → Nat) {n i : Nat} (h : i < n) : (digs f n).getD i 0 = f i := by simp [digs, List.getD, h]
theorem digs_val (f : Nat → Nat) (n : Nat) : dval (digs f n) = dv f n := by
  rw [dval_dv, digs_len]
  exact dv_congr fun i hi => digs_get f hi
theorem digs_lt {f : Nat → Nat} {n : Nat} (h : ∀ i, i < n → f i < 4294967296) : ∀ d ∈ digs f n, d < 4294967296 := by
  intro d hd
  obtain ⟨i, hi, rfl⟩ := List.mem_map.1 hd
  exact h i (by simpa using hi)

/-- A block of digits. -/
abbrev DigA (w : World) (g n : Nat) (f : Nat → Nat) : Prop := Arr w g U32 n fun i => .int .u32 (f i : Nat)

theorem dig_of_arr {w : World} {g n cap : Nat} {f : Nat → Nat} (h : DigA w g n f) (hn : n ≤ cap) (hc : cap ≤ maxLen) (hf : ∀ i, i < n → f i < 4294967296) : IsDig w (.slice (some ⟨g, 0, none⟩) n cap) (digs f n) := by
  obtain ⟨A, hA, hv⟩ := h
  exact ⟨g, cap, A, (0, 0), by rw [digs_len], hA, by rw [digs_len]; exact hn, hc, fun i hi => by
    rw [digs_len] at hi
    rw [digs_get f hi]
    exact hv i hi, digs_lt hf⟩

/-- What a walk needs of digits. -/
theorem IsDig.open {w : World} {v : Value} {ds : List Nat} (h : IsDig w v ds) : ∃ g cap, v = .slice (some ⟨g, 0, none⟩) ds.length cap ∧ ds.length ≤ cap ∧ cap ≤ maxLen ∧ g < w.heap.size ∧
    (∀ w', Keep NoS w w' → ∀ i, i < ds.length → w'.cell? ⟨g, i, none⟩ = some (.int .u32 (ds.getD i 0 : Nat))) ∧ ∀ i, ds.getD i 0 < 4294967296 := by
  obtain ⟨g, cap, c, fr, hv, hg, hl, hm, hc, hd⟩ := h
  refine ⟨g, cap, hv, hl, hm, lt_of_heap hg, fun w' hk i hi => ?_, fun i => ?_⟩
  · rw [hk.cell (lt_of_heap hg)]; exact cell_of_heap hg (hc i hi)
  · by_cases hi : i < ds.length
    · rw [getD_of_lt hi]; exact hd _ (List.getElem_mem hi)
    · simp [List.getD, List.getElem?_eq_none (Nat.le_of_not_lt hi)]

theorem IsDig.form {w : World} {v : Value} {ds : List Nat} (h : IsDig w v ds) : ∃ g cap, v = .slice (some ⟨g, 0, none⟩) ds.length cap := by
  obtain ⟨g, cap, hv, _⟩ := h.open
  exact ⟨g, cap, hv⟩

theorem IsDig.ofNewer {w w' : World} {v : Value} {ds : List Nat} (h : IsDig w v ds) (k : Keep NoS w w') : IsDig w' v ds := h.keep k fun _ _ _ _ h => h.elim

theorem DigA.set {w : World} {g n : Nat} {f : Nat → Nat} (h : DigA w g n f) (k d : Nat) {v : Value} (hv : v = .int .u32 (d : Nat)) : DigA (w.setCell ⟨g, k, none⟩ v) g n fun i => if i = k then d else f i := by
  subst hv
  exact (Arr.set h k _).congr fun i _ => by by_cases e : i = k <;> simp [e]

/-- New digits are returned, of which P holds. -/
def NewDig (P : List Nat → Prop) (w : World) (e : Ending) (w' : World) : Prop := ∃ v ds, e = .returned v ∧ Keep NoS w w' ∧ IsDig w' v ds ∧ P ds

theorem made_get {z : Value} (hz : z.cells = #[z]) (n i : Nat) (h : i < n) : (madeCells z.cells (n * 1)).toList[i]? = some z := by
  rw [hz]
  simp [madeCells, h, Nat.mod_one]

/-- One step of adding: digit and carry. -/
theorem sum_step {P x y c : Nat} (k : Nat) (hP : P = 4294967296 ^ k) {o X Y : Nat} (h : o + P * c = X + Y) : o + P * ((c + x + y) % 4294967296) + 4294967296 ^ (k + 1) * ((c + x + y) / 4294967296) = X + P * x + (Y + P * y) := by
  have e := Nat.div_add_mod (c + x + y) 4294967296
  rw [Nat.pow_succ, ← hP]
  generalize (c + x + y) / 4294967296 = q at *
  generalize (c + x + y) % 4294967296 = r at *
  have e2 : P * (c + x + y) = P * 4294967296 * q + P * r := by rw [← e, Nat.mul_add, Nat.mul_assoc]
  rw [Nat.mul_add, Nat.mul_add] at e2
  omega
end Go.Proofs.Ytihcbmkjfacooaa
