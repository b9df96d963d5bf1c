/- FarkasScale, plain: what is wrong with rows and multipliers that are right; multipliers times a number. -/
import Derived.Test.YtihcbmkjfacooaaFkQ
namespace Go.Proofs.Ytihcbmkjfacooaa
open Go.ChangeShapes Go.WideShapes Go.RowKit
set_option linter.unusedVariables false
set_option linter.unusedSimpArgs false

theorem firstOut_of : ∀ {l : List Int} {i : Nat}, (∀ x ∈ l, fitI x) → firstOut l i = (0, 0)
  | [], _, _ => rfl
  | x :: l, i, h => by unfold firstOut; rw [if_pos (h x (by simp))]; exact firstOut_of fun y hy => h y (by simp [hy])
theorem chkRow_of {r : Rw} {n : Int} (h : RowOK r n) : chkRow r n = (0, 0) := by
  have h0 := h.n0
  have h1 := h.n12
  have h2 := h.len
  unfold chkRow
  rw [if_neg (by omega), if_neg (not_not_intro h.kind), if_neg (by omega)]
  apply firstOut_of
  intro x hx
  rcases List.mem_append.1 hx with hx | hx
  · exact h.fit x hx
  · rw [List.mem_singleton] at hx; subst hx; exact h.fto
theorem firstRow_of {n : Int} : ∀ {l : List Rw} {i : Nat}, (∀ r ∈ l, RowOK r n) → firstRow n l i = (0, 0)
  | [], _, _ => rfl
  | r :: l, i, h => by unfold firstRow; rw [if_pos (by rw [chkRow_of (h r (by simp))])]; exact firstRow_of fun y hy => h y (by simp [hy])
theorem firstBad_of : ∀ {l : List Fq} {i : Nat}, (∀ g ∈ l, FracOK g.N g.D) → firstBad l i = (0, 0)
  | [], _, _ => rfl
  | g :: l, i, h => by unfold firstBad; rw [if_pos (h g (by simp))]; exact firstBad_of fun y hy => h y (by simp [hy])
theorem farkF_of {rows : List Rw} {n : Int} {times : List Fq} (h0 : 0 ≤ n) (h12 : n ≤ 12) (h40 : rows.length ≤ 40) (hok : ∀ r ∈ rows, RowOK r n) (hl : times.length = rows.length) (hf : ∀ g ∈ times, FracOK g.N g.D) : farkF rows n times = (0, 0) := by
  have h1 : listF rows n = (0, 0) := by unfold listF; rw [if_neg (by omega), if_neg (by omega)]; exact firstRow_of hok
  unfold farkF
  rw [h1, if_neg (by simp), if_neg (by simp [hl])]
  exact firstBad_of hf
theorem fracOK_i64 {g : Fq} (h : FracOK g.N g.D) : I64 g.N ∧ I64 g.D := by
  obtain ⟨h1, h2, h3, h4, _⟩ := h
  unfold I64
  omega

def mulG (c : Int) (g : Fq) : Fq := ⟨(g.q * (c : Rat)).num, (g.q * (c : Rat)).den⟩
theorem mulG_q (c : Int) (g : Fq) : (mulG c g).q = g.q * (c : Rat) := Rat.num_divInt_den _
theorem mulG_map (c : Int) (l : List Fq) : (l.map (mulG c)).map Fq.q = scaleT (c : Rat) (l.map Fq.q) := by
  unfold scaleT
  rw [List.map_map, List.map_map]
  apply List.map_congr_left
  intro g _
  exact mulG_q c g
def leftG (times : List Fq) : Nat → List Fq
  | 0 => []
  | i + 1 => if (times.map Fq.q).getD i 0 = 0 then leftG times i else leftG times i ++ [times.getD i ⟨0, 0⟩]
theorem fq_getD {l : List Fq} {i : Nat} (h : i < l.length) : l.getD i ⟨0, 0⟩ = l[i] := by
  rw [List.getD_eq_getElem?_getD, List.getElem?_eq_getElem h]; rfl
theorem leftG_map {times : List Fq} : ∀ i, i ≤ times.length → (leftG times i).map Fq.q = leftK (times.map Fq.q) i
  | 0, _ => rfl
  | i + 1, h => by
    unfold leftG leftK
    split
    · exact leftG_map i (by omega)
    · rw [List.map_append, leftG_map i (by omega), map_getD (by omega), fq_getD (by omega)]
      rfl
theorem leftG_mem {times : List Fq} : ∀ i, i ≤ times.length → ∀ g ∈ leftG times i, g ∈ times
  | 0, _, g, h => by cases h
  | i + 1, hi, g, h => by
    unfold leftG at h
    split at h
    · exact leftG_mem i (by omega) g h
    · rcases List.mem_append.1 h with h | h
      · exact leftG_mem i (by omega) g h
      · rw [List.mem_singleton] at h
        rw [h, fq_getD (by omega)]
        exact List.getElem_mem _
theorem leftG_len {times : List Fq} {rows : List Rw} (i : Nat) (h : i ≤ times.length) : (leftG times i).length = (lessK rows (times.map Fq.q) i).length := by
  rw [less_len, ← leftG_map i h, List.length_map]
theorem leftG_le {times : List Fq} : ∀ i, (leftG times i).length ≤ i
  | 0 => Nat.le_refl _
  | i + 1 => by
    have := leftG_le (times := times) i
    unfold leftG
    split
    · omega
    · rw [List.length_append, List.length_singleton]; omega
theorem q_zero {g : Fq} (h : FracOK g.N g.D) : g.q = 0 ↔ g.N = 0 := by
  have hd := h.1
  show Rat.divInt g.N g.D = 0 ↔ g.N = 0
  constructor
  · intro h
    rw [← Rat.zero_divInt g.D, Rat.divInt_eq_divInt_iff (by omega) (by omega), Int.zero_mul] at h
    rcases Int.mul_eq_zero.1 h with h | h
    · exact h
    · omega
  · intro h; rw [h, Rat.zero_divInt]
theorem mul_by {n d c : Int} (hd : d ≠ 0) : Rat.divInt (n * c) (d * 1) = Rat.divInt n d * (c : Rat) := by
  rw [← Rat.divInt_mul_divInt n c (d₁ := d) (d₂ := 1), divInt_one]
theorem by_frac {c : Int} (h1 : 1 ≤ c) (h2 : c ≤ 100) : FracOK c 1 := ⟨by omega, by omega, by omega, by omega, by simp⟩
theorem scale_take {rows : List Rw} {times : List Fq} {n c : Int} (hc : (farkF rows n times).1 = 0) (h1 : 1 ≤ c) (hf : ∀ g ∈ times, Fits (g.q * (c : Rat))) :
    farkF rows n (times.map (mulG c)) = (0, 0) ∧ fkB rows (times.map (mulG c)) n = fkB rows times n := by
  obtain ⟨hc0, hl0, hlen, hfr⟩ := farkF_ok hc
  obtain ⟨hn0, hn12, h40, hok⟩ := listF_ok hl0
  have e := farkF_of (times := times.map (mulG c)) hn0 hn12 h40 hok (by rw [List.length_map]; exact hlen) (by
    intro g hg
    obtain ⟨y, hy, rfl⟩ := List.mem_map.1 hg
    exact fits_ok (hf y hy))
  refine ⟨e, ?_⟩
  unfold fkB
  rw [if_pos (by rw [e]), if_pos hc, mulG_map, refB_scale]
  have : (0 : Rat) < (c : Rat) := by
    have := (Rat.intCast_lt_intCast (a := 0) (b := c)).2 (by omega)
    simpa using this
  exact this
theorem less_take {rows : List Rw} {times : List Fq} {n : Int} (hc : (farkF rows n times).1 = 0) :
    farkF (lessK rows (times.map Fq.q) rows.length) n (leftG times rows.length) = (0, 0) ∧ fkB (lessK rows (times.map Fq.q) rows.length) (leftG times rows.length) n = fkB rows times n := by
  obtain ⟨hc0, hl0, hlen, hfr⟩ := farkF_ok hc
  obtain ⟨hn0, hn12, h40, hok⟩ := listF_ok hl0
  have hle := less_le (rows := rows) (ts := times.map Fq.q) rows.length
  have e := farkF_of (rows := lessK rows (times.map Fq.q) rows.length) (times := leftG times rows.length) hn0 hn12 (by omega) (fun r hr => hok r (less_mem _ (Nat.le_refl _) r hr)) (leftG_len _ (by omega)) (fun g hg => hfr g (leftG_mem _ (by omega) g hg))
  refine ⟨e, ?_⟩
  unfold fkB
  rw [if_pos (by rw [e]), if_pos hc, leftG_map _ (by omega), refB_less]
end Go.Proofs.Ytihcbmkjfacooaa
