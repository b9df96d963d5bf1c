/- Of small rows it is always told; with fewer rows, and with a row's contrary: plain. -/
import Derived.Test.YtamjmcdlddocgaaSpG
import Derived.Test.YtamjmcdlddocgaaTbY
import Derived.Test.YtamjmcdlddocgaaRowAA
namespace Go.Proofs.Ytamjmcdlddocgaa
open Go.ChangeShapes Go.WideShapes Go.RowKit
set_option linter.unusedVariables false
set_option linter.unusedSimpArgs false

theorem all_fit_of {l : List Rat} (h : ∀ q ∈ l, Fits q) : allFit l l.length = true := by
  unfold allFit
  rw [List.take_length, List.all_eq_true]
  exact fun q hq => decide_eq_true (h q hq)
theorem fits_neg {q : Rat} (h : Fits q) : Fits (-q) := by
  unfold Fits at *
  rw [Rat.neg_num, Rat.neg_den, Int.natAbs_neg]
  exact h
theorem refK_small {n : Nat} {rows : List Rw} {T : TS} {i : Nat} {way : Int} (h : Inv n rows T) (hs : SmallR rows) (hn : n ≤ 3) (hi : i < rows.length) (hw : way = 1 ∨ way = -1) : ∀ k, k ≤ n + rows.length → ∀ q ∈ T.refK i way k, Fits q
  | 0, _, q, hq => by
    unfold TS.refK at hq
    rcases List.mem_or_eq_of_mem_set hq with hq | rfl
    · rw [(List.mem_replicate.1 hq).2]; unfold Fits; decide
    · rcases hw with rfl | rfl <;> (unfold Fits; decide)
  | k + 1, hk, q, hq => by
    unfold TS.refK at hq
    split at hq
    · exact refK_small h hs hn hi hw k (by omega) q hq
    · rcases List.mem_or_eq_of_mem_set hq with hq | rfl
      · exact refK_small h hs hn hi hw k (by omega) q hq
      · have hc := h.small_cell hs hn hi (show k < n + rows.length by omega)
        rcases hw with rfl | rfl
        · have e : -(T.cell i k * ((-1 : Int) : Rat)) = T.cell i k := by rw [show ((-1 : Int) : Rat) = -1 from rfl]; grind
          rw [e]; exact hc
        · have e : -(T.cell i k * ((-(-1) : Int) : Rat)) = -T.cell i k := by rw [show ((-(-1) : Int) : Rat) = 1 from rfl]; grind
          rw [e]; exact fits_neg hc
/-- Of small rows it is always told. -/
theorem small_told {rows : List Rw} {n : Int} (hl : (listF rows n).1 = 0) (hn : n ≤ 3) (hm : rows.length ≤ 8) (hs : SmallR rows) :
    (∃ pt, doR rows n 2000 = ⟨1, pt, [], (0, 0)⟩ ∧ YesOf rows n.toNat pt) ∨ (∃ tm, doR rows n 2000 = ⟨2, [], tm, (0, 0)⟩ ∧ NoOf rows n.toNat tm) := by
  obtain ⟨hl0, hn0, hn12, h40, hok⟩ := list_rows hl
  have hok' : ∀ r ∈ rows, RowOK r (n.toNat : Nat) := by
    rw [show ((n.toNat : Nat) : Int) = n by omega]
    exact hok
  have hn3 : n.toNat ≤ 3 := by omega
  have h0 := start_inv (n := n.toNat) (by omega) h40 hok'
  have e : doR rows n 2000 = match TS.feas 2000 (TS.start n.toNat rows) with
    | .hungry => ⟨3, [], [], (0, 0)⟩
    | .yes T => if allFit (T.ptK T.n) (T.ptK T.n).length = true then ⟨1, (T.ptK T.n).map fqOf, [], (0, 0)⟩ else ⟨0, [], [], (10, 0)⟩
    | .no l => if allFit l l.length = true then ⟨2, [], l.map fqOf, (0, 0)⟩ else ⟨0, [], [], (10, 0)⟩ := by
    unfold doR
    rw [if_pos hl, if_neg (by omega), show (2000 : Int).toNat = 2000 from rfl]
    cases TS.feas 2000 (TS.start n.toNat rows) <;> rfl
  rcases feas_told (f := 2000) (by omega) h40 hok' with h | ⟨T, h, hI, h2⟩ | ⟨l, h, ⟨T, b, way, hI, hB, hE, hll⟩, h2⟩
  · exact absurd h (never_hungry h0 hn3 hm)
  · rw [h] at e
    simp only at e
    have ha : allFit (T.ptK T.n) (T.ptK T.n).length = true := by
      refine all_fit_of fun q hq => ?_
      unfold TS.ptK at hq
      obtain ⟨j, hj, rfl⟩ := List.mem_map.1 hq
      exact hI.small_pt hs hn3 (by have := List.mem_range.1 hj; rw [hI.hn] at this; exact this)
    rw [if_pos ha] at e
    exact .inl ⟨_, e, h2 ha⟩
  · rw [h] at e
    simp only at e
    have ha : allFit l l.length = true := by
      refine all_fit_of ?_
      rw [hll]
      have hi := (line_spec hB.mem).1
      rw [hI.wf.bl, hI.hr] at hi
      exact refK_small hI hs hn3 hi hB.way _ (by rw [hI.hn, hI.hr]; exact Nat.le_refl _)
    rw [if_pos ha] at e
    exact .inr ⟨_, e, h2 ha⟩
/-! ### points, row by row -/
/-- A row holds at a point. -/
def AtPt (r : Rw) (N : Nat) (x : Nat → Rat) : Prop :=
  (r.kind = 1 → (sQ N fun j => (r.of.getD j 0 : Rat) * x j) ≤ (r.to : Rat)) ∧ (r.kind = 2 → (sQ N fun j => (r.of.getD j 0 : Rat) * x j) < (r.to : Rat)) ∧ (r.kind = 3 → (sQ N fun j => (r.of.getD j 0 : Rat) * x j) = (r.to : Rat))
/-- The rows have a point. -/
def Feas (rows : List Rw) (N : Nat) : Prop := ∃ x, ∀ r ∈ rows, AtPt r N x
theorem rowD {rows : List Rw} {i : Nat} (hi : i < rows.length) : rows.getD i nilRw = rows[i] := by rw [List.getD_eq_getElem?_getD, List.getElem?_eq_getElem hi]; rfl
theorem yes_feas {rows : List Rw} {N : Nat} {pt : List Fq} (h : YesOf rows N pt) : Feas rows N := by
  refine ⟨fqAt pt, fun r hr => ?_⟩
  obtain ⟨i, hi, rfl⟩ := List.getElem_of_mem hr
  have := h.holds i hi
  unfold rowA at this
  rw [rowD hi] at this
  exact this
theorem sumSwap {f : Nat → Nat → Rat} {m : Nat} : ∀ n, sQ n (fun i => sQ m (fun j => f i j)) = sQ m (fun j => sQ n (fun i => f i j))
  | 0 => by simp only [sQ]; exact (sQ_zeros m fun _ _ => rfl).symm
  | n + 1 => by simp only [sQ]; rw [sumSwap n, ← sQ_add]
theorem sumLe {f g : Nat → Rat} : ∀ n, (∀ j, j < n → f j ≤ g j) → sQ n f ≤ sQ n g
  | 0, _ => Rat.le_refl
  | n + 1, h => by
    have ih := sumLe n fun j hj => h j (by omega)
    have := h n (by omega)
    simp only [sQ]
    grind
theorem sumLt {f g : Nat → Rat} {p : Nat} : ∀ n, p < n → (∀ j, j < n → f j ≤ g j) → f p < g p → sQ n f < sQ n g
  | 0, h, _, _ => absurd h (by omega)
  | n + 1, hp, h, hs => by
    simp only [sQ]
    by_cases e : p = n
    · subst e
      have := sumLe p fun j hj => h j (by omega)
      grind
    · have := sumLt n (by omega) (fun j hj => h j (by omega)) hs
      have := h n (by omega)
      grind
theorem no_feas {rows : List Rw} {N : Nat} {tm : List Fq} (hok : ∀ r ∈ rows, RowOK r N) (h : NoOf rows N tm) : ¬ Feas rows N := by
  rintro ⟨x, hx⟩
  have e0 : (sQ rows.length fun p => fqAt tm p * sQ N fun j => (rowA rows p j : Rat) * x j) = 0 := by
    have e1 : ∀ p, p < rows.length → fqAt tm p * (sQ N fun j => (rowA rows p j : Rat) * x j) = sQ N fun j => x j * (fqAt tm p * (rowA rows p j : Rat)) := by
      intro p _
      rw [← sQ_mul]
      refine sQ_congr N fun j _ => ?_
      grind
    rw [sQ_congr _ e1, sumSwap]
    refine sQ_zeros N fun j hj => ?_
    rw [sQ_mul, h.col j hj, Rat.mul_zero]
  have hat : ∀ p (hp : p < rows.length), ((rows.getD p nilRw).kind = 1 → (sQ N fun j => (rowA rows p j : Rat) * x j) ≤ ((rows.getD p nilRw).to : Rat)) ∧ ((rows.getD p nilRw).kind = 2 → (sQ N fun j => (rowA rows p j : Rat) * x j) < ((rows.getD p nilRw).to : Rat)) ∧ ((rows.getD p nilRw).kind = 3 → (sQ N fun j => (rowA rows p j : Rat) * x j) = ((rows.getD p nilRw).to : Rat)) := by
    intro p hp
    have := hx _ (List.getElem_mem hp)
    unfold rowA
    rw [rowD hp]
    exact this
  have hle : ∀ p, p < rows.length → fqAt tm p * (sQ N fun j => (rowA rows p j : Rat) * x j) ≤ fqAt tm p * ((rows.getD p nilRw).to : Rat) := by
    intro p hp
    obtain ⟨a1, a2, a3⟩ := hat p hp
    have hk := (hok _ (List.getElem_mem hp)).kind
    rw [← rowD hp] at hk
    by_cases h3 : (rows.getD p nilRw).kind = 3
    · rw [a3 h3]; exact Rat.le_refl
    · refine Rat.mul_le_mul_of_nonneg_left ?_ (h.sign p hp h3)
      rcases hk with hk | hk | hk
      · exact a1 hk
      · have := a2 hk; grind
      · exact absurd hk h3
  have hs := sumLe _ hle
  rw [e0] at hs
  rcases h.neg with h3 | ⟨h3, p, hp, hk, h0⟩
  · grind
  · have hpos : 0 < fqAt tm p := by
      have := h.sign p hp (by omega)
      grind
    have hlt := (hat p hp).2.1 hk
    have := sumLt _ hp hle (Rat.mul_lt_mul_of_pos_left hlt hpos)
    rw [e0] at this
    grind
theorem sum_neg {of : List Int} {x : Nat → Rat} (N : Nat) : (sQ N fun j => (((of.map fun x => -x).getD j 0 : Int) : Rat) * x j) = -(sQ N fun j => (of.getD j 0 : Rat) * x j) := by
  have e : ∀ j, (((of.map fun x => -x).getD j 0 : Int) : Rat) * x j = -1 * ((of.getD j 0 : Rat) * x j) := by
    intro j
    have : (of.map fun x => -x).getD j 0 = -(of.getD j 0) := by
      by_cases hj : j < of.length
      · rw [List.getD_eq_getElem?_getD, List.getElem?_map, List.getD_eq_getElem?_getD, List.getElem?_eq_getElem hj]; rfl
      · rw [List.getD_eq_getElem?_getD, List.getElem?_map, List.getD_eq_getElem?_getD, List.getElem?_eq_none (by omega)]; rfl
    rw [this, Rat.intCast_neg]
    grind
  rw [sQ_congr N fun j _ => e j, sQ_mul]
  grind
theorem not_at {r : Rw} {N : Nat} {x : Nat → Rat} (hk : r.kind = 1 ∨ r.kind = 2) : AtPt (notR r) N x ↔ ¬ AtPt r N x := by
  unfold AtPt notR
  simp only
  rw [sum_neg, Rat.intCast_neg]
  generalize (sQ N fun j => (r.of.getD j 0 : Rat) * x j) = s
  generalize ((r.to : Int) : Rat) = t
  rcases hk with hk | hk
  · rw [hk]
    constructor
    · rintro ⟨_, h, _⟩ ⟨h', _⟩
      have := h (by decide)
      have := h' rfl
      grind
    · intro h
      refine ⟨fun e => absurd e (by decide), fun _ => ?_, fun e => absurd e (by decide)⟩
      refine Classical.byContradiction fun hx => h ⟨fun _ => ?_, fun e => absurd e (by decide), fun e => absurd e (by decide)⟩
      grind
  · rw [hk]
    constructor
    · rintro ⟨h, _, _⟩ ⟨_, h', _⟩
      have := h (by decide)
      have := h' rfl
      grind
    · intro h
      refine ⟨fun _ => ?_, fun e => absurd e (by decide), fun e => absurd e (by decide)⟩
      refine Classical.byContradiction fun hx => h ⟨fun e => absurd e (by decide), fun _ => ?_, fun e => absurd e (by decide)⟩
      grind
/-- The rows without one. -/
def lessR (rows : List Rw) (k : Nat) : List Rw := rows.take k ++ rows.drop (k + 1)
theorem mem_less {rows : List Rw} {k : Nat} {r : Rw} (hk : k < rows.length) : r ∈ rows ↔ r ∈ lessR rows k ∨ r = rows[k] := by
  unfold lessR
  have e : rows = rows.take k ++ (rows[k] :: rows.drop (k + 1)) := by
    rw [← List.drop_eq_getElem_cons hk, List.take_append_drop]
  constructor
  · intro h
    rw [e] at h
    rcases List.mem_append.1 h with h | h
    · exact .inl (List.mem_append_left _ h)
    · rcases List.mem_cons.1 h with h | h
      · exact .inr h
      · exact .inl (List.mem_append_right _ h)
  · rintro (h | h)
    · rcases List.mem_append.1 h with h | h
      · exact List.mem_of_mem_take h
      · exact List.mem_of_mem_drop h
    · rw [h]; exact List.getElem_mem hk
theorem less_len {rows : List Rw} {k : Nat} (hk : k < rows.length) : (lessR rows k).length = rows.length - 1 := by
  unfold lessR
  rw [List.length_append, List.length_take, List.length_drop]
  omega
theorem first_ok : ∀ {l : List Int} {i : Nat}, (∀ x ∈ l, fitI x) → firstOut l i = (0, 0)
  | [], _, _ => rfl
  | x :: l, i, h => by unfold firstOut; rw [if_pos (h x (by simp))]; exact first_ok fun y hy => h y (by simp [hy])
theorem chk_right {r : Rw} {n : Int} (h : RowOK r n) : chkRow r n = (0, 0) := by
  have h0 := h.n0
  have h1 := h.n12
  have h2 := h.len
  unfold chkRow
  rw [if_neg (by omega), if_neg (not_not_intro h.kind), if_neg (by omega)]
  apply first_ok
  intro x hx
  rcases List.mem_append.1 hx with hx | hx
  · exact h.fit x hx
  · rw [List.mem_singleton] at hx; subst hx; exact h.fto
theorem firstRow_ok {n : Int} : ∀ {l : List Rw} {i : Nat}, (∀ r ∈ l, RowOK r n) → firstRow n l i = (0, 0)
  | [], _, _ => rfl
  | r :: l, i, h => by unfold firstRow; rw [if_pos (by rw [chk_right (h r (by simp))])]; exact firstRow_ok fun y hy => h y (by simp [hy])
theorem list_right {rows : List Rw} {n : Int} (h0 : 0 ≤ n) (h12 : n ≤ 12) (h40 : rows.length ≤ 40) (hok : ∀ r ∈ rows, RowOK r n) : listF rows n = (0, 0) := by
  unfold listF
  rw [if_neg (by omega), if_neg (by omega)]
  exact firstRow_ok hok
theorem notR_ok {r : Rw} {n : Int} (h : RowOK r n) (hk : r.kind = 1 ∨ r.kind = 2) : RowOK (notR r) n where
  n0 := h.n0
  n12 := h.n12
  kind := by unfold notR; simp only; omega
  len := by unfold notR; simp only [List.length_map]; exact h.len
  fit := by
    intro x hx
    unfold notR at hx
    obtain ⟨y, hy, rfl⟩ := List.mem_map.1 hx
    have := h.fit y hy
    unfold fitI at *
    omega
  fto := by
    have := h.fto
    unfold notR fitI at *
    simp only
    omega
/-- What the law asks. -/
theorem less_law {rows : List Rw} {n : Int} {k : Nat} (hl : (listF rows n).1 = 0) (hn : n ≤ 3) (hm : rows.length ≤ 8) (hs : SmallR rows) (hk : k < rows.length) :
    ∃ s u pt tm pt' tm', doR rows n 2000 = ⟨s, pt, tm, (0, 0)⟩ ∧ (s = 1 ∨ s = 2) ∧ doR (lessR rows k) n 2000 = ⟨u, pt', tm', (0, 0)⟩ ∧ (s = 1 → u = 1) ∧
      (s = 2 → rows[k].kind = 1 ∨ rows[k].kind = 2 → ∃ pt'' tm'', doR (lessR rows k ++ [notR rows[k]]) n 2000 = ⟨u, pt'', tm'', (0, 0)⟩) := by
  obtain ⟨hl0, hn0, hn12, h40, hok⟩ := list_rows hl
  have hok' : ∀ r ∈ rows, RowOK r (n.toNat : Nat) := by
    rw [show ((n.toNat : Nat) : Int) = n by omega]
    exact hok
  have hll := less_len hk
  have hm2 : ∀ r ∈ lessR rows k, r ∈ rows := fun r hr => (mem_less hk).2 (.inl hr)
  have hlL : (listF (lessR rows k) n).1 = 0 := by rw [list_right hn0 hn12 (by omega) fun r hr => hok r (hm2 r hr)]
  have hsL : SmallR (lessR rows k) := fun r hr => hs r (hm2 r hr)
  have sR := small_told hl hn hm hs
  have sL := small_told hlL hn (by omega) hsL
  have fR : Feas rows n.toNat → Feas (lessR rows k) n.toNat := by
    rintro ⟨x, hx⟩
    exact ⟨x, fun r hr => hx r (hm2 r hr)⟩
  have okL : ∀ r ∈ lessR rows k, RowOK r (n.toNat : Nat) := fun r hr => hok' r (hm2 r hr)
  obtain ⟨u, pt', tm', eL, hu⟩ : ∃ u pt' tm', doR (lessR rows k) n 2000 = ⟨u, pt', tm', (0, 0)⟩ ∧ ((u = 1 ∧ Feas (lessR rows k) n.toNat) ∨ (u = 2 ∧ ¬ Feas (lessR rows k) n.toNat)) := by
    rcases sL with ⟨pt, e, h⟩ | ⟨tm, e, h⟩
    · exact ⟨_, _, _, e, .inl ⟨rfl, yes_feas h⟩⟩
    · exact ⟨_, _, _, e, .inr ⟨rfl, no_feas okL h⟩⟩
  rcases sR with ⟨pt, e, h⟩ | ⟨tm, e, h⟩
  · refine ⟨1, u, _, _, _, _, e, .inl rfl, eL, fun _ => ?_, fun h2 => absurd h2 (by decide)⟩
    rcases hu with ⟨h1, _⟩ | ⟨_, h2⟩
    · exact h1
    · exact absurd (fR (yes_feas h)) h2
  · refine ⟨2, u, _, _, _, _, e, .inr rfl, eL, fun h2 => absurd h2 (by decide), fun _ hkk => ?_⟩
    have hnf := no_feas hok' h
    have hrk := List.getElem_mem hk
    have okC : ∀ r ∈ lessR rows k ++ [notR rows[k]], RowOK r n := by
      intro r hr
      rcases List.mem_append.1 hr with hr | hr
      · exact hok r (hm2 r hr)
      · rw [List.mem_singleton.1 hr]; exact notR_ok (hok _ hrk) hkk
    have hlen : (lessR rows k ++ [notR rows[k]]).length ≤ 8 := by rw [List.length_append, hll, List.length_singleton]; omega
    have hlC : (listF (lessR rows k ++ [notR rows[k]]) n).1 = 0 := by rw [list_right hn0 hn12 (by omega) okC]
    have hsC : SmallR (lessR rows k ++ [notR rows[k]]) := by
      intro r hr
      rcases List.mem_append.1 hr with hr | hr
      · exact hsL r hr
      · rw [List.mem_singleton.1 hr]
        obtain ⟨h1, h2⟩ := hs _ hrk
        unfold notR
        refine ⟨fun x hx => ?_, by simp only; rw [Int.natAbs_neg]; exact h2⟩
        obtain ⟨y, hy, rfl⟩ := List.mem_map.1 hx
        rw [Int.natAbs_neg]; exact h1 y hy
    have okC' : ∀ r ∈ lessR rows k ++ [notR rows[k]], RowOK r (n.toNat : Nat) := by
      rw [show ((n.toNat : Nat) : Int) = n by omega]
      exact okC
    have hiff : Feas (lessR rows k ++ [notR rows[k]]) n.toNat ↔ Feas (lessR rows k) n.toNat := by
      constructor
      · rintro ⟨x, hx⟩
        exact ⟨x, fun r hr => hx r (List.mem_append_left _ hr)⟩
      · rintro ⟨x, hx⟩
        refine ⟨x, fun r hr => ?_⟩
        rcases List.mem_append.1 hr with hr | hr
        · exact hx r hr
        · rw [List.mem_singleton.1 hr, not_at hkk]
          intro hat
          refine hnf ⟨x, fun r hr => ?_⟩
          rcases (mem_less hk).1 hr with h | h
          · exact hx r h
          · rw [h]; exact hat
    rcases small_told hlC hn hlen hsC with ⟨pt2, e2, h2⟩ | ⟨tm2, e2, h2⟩
    · have := hiff.1 (yes_feas h2)
      rcases hu with ⟨h1, _⟩ | ⟨_, h3⟩
      · rw [h1]; exact ⟨_, _, e2⟩
      · exact absurd this h3
    · have : ¬ Feas (lessR rows k) n.toNat := fun hf => no_feas okC' h2 (hiff.2 hf)
      rcases hu with ⟨_, h3⟩ | ⟨h1, _⟩
      · exact absurd h3 this
      · rw [h1]; exact ⟨_, _, e2⟩
end Go.Proofs.Ytamjmcdlddocgaa
