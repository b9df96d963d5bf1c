/- Small systems of two numbers: what lattice.Do tells. -/
import Derived.Test.YtamjmcdlddocgaaLcN
namespace Go.Proofs.Ytamjmcdlddocgaa
open Go.ChangeShapes Go.WideShapes Go.RowKit
set_option linter.unusedVariables false
set_option linter.unusedSimpArgs false

def hitZ (a b t x z : Int) : Bool := (a * x + b * z != 0) && (t.tmod (a * x + b * z) == 0)
def rowZ (a b t x : Int) (k : Nat) : Bool := (List.range k).any fun j => hitZ a b t x ((j : Int) - 9)
def allZ (a b t : Int) (k : Nat) : Bool := (List.range k).any fun i => rowZ a b t ((i : Int) - 9) 19
def divZ (a b t : Int) : Bool := decide (t = 0) || allZ a b t 19
theorem rowZ_succ {a b t x : Int} {k : Nat} : rowZ a b t x (k + 1) = (rowZ a b t x k || hitZ a b t x ((k : Int) - 9)) := by
  unfold rowZ
  rw [List.range_succ, List.any_append]
  simp
theorem allZ_succ {a b t : Int} {k : Nat} : allZ a b t (k + 1) = (allZ a b t k || rowZ a b t ((k : Int) - 9) 19) := by
  unfold allZ
  rw [List.range_succ, List.any_append]
  simp
theorem divZ_iff {a b t : Int} : divZ a b t = true ↔ t = 0 ∨ ∃ x z : Int, -9 ≤ x ∧ x ≤ 9 ∧ -9 ≤ z ∧ z ≤ 9 ∧ a * x + b * z ≠ 0 ∧ (a * x + b * z) ∣ t := by
  unfold divZ
  rw [Bool.or_eq_true, decide_eq_true_iff]
  refine or_congr Iff.rfl ?_
  unfold allZ rowZ hitZ
  constructor
  · intro h
    obtain ⟨i, hi, h⟩ := List.any_eq_true.1 h
    obtain ⟨j, hj, h⟩ := List.any_eq_true.1 h
    have hi := List.mem_range.1 hi
    have hj := List.mem_range.1 hj
    rw [Bool.and_eq_true, bne_iff_ne, beq_iff_eq] at h
    exact ⟨(i : Int) - 9, (j : Int) - 9, by omega, by omega, by omega, by omega, h.1, Int.dvd_of_tmod_eq_zero h.2⟩
  · rintro ⟨x, z, h1, h2, h3, h4, h5, h6⟩
    refine List.any_eq_true.2 ⟨(x + 9).toNat, List.mem_range.2 (by omega), List.any_eq_true.2 ⟨(z + 9).toNat, List.mem_range.2 (by omega), ?_⟩⟩
    rw [show (((x + 9).toNat : Nat) : Int) - 9 = x by omega, show (((z + 9).toNat : Nat) : Int) - 9 = z by omega, Bool.and_eq_true, bne_iff_ne, beq_iff_eq]
    exact ⟨h5, Int.tmod_eq_zero_of_dvd h6⟩
theorem fin_one {g u v u' v' k : Int} (i : Int) (F : List (List Rat)) (hg : g.natAbs ≤ 9) (hu : u.natAbs ≤ 9) (hv : v.natAbs ≤ 9) (hu' : u'.natAbs ≤ 9) (hv' : v'.natAbs ≤ 9) (hk : k.natAbs ≤ 9) :
    finB ⟨[[(g : Rat), (u : Rat), (v : Rat)], [0, (u' : Rat), (v' : Rat)]], [i], [(k : Rat)], F⟩ 2 1 = true := by
  have h1 := prod_le hu hk
  have h2 := prod_le hv hk
  unfold finB
  have e1 : ptLL ⟨[[(g : Rat), (u : Rat), (v : Rat)], [0, (u' : Rat), (v' : Rat)]], [i], [(k : Rat)], F⟩ 2 1 1 = [((u * k : Int) : Rat), ((v * k : Int) : Rat)] := by
    show [0 + (u : Rat) * (k : Rat), 0 + (v : Rat) * (k : Rat)] = _
    rw [Rat.intCast_mul, Rat.intCast_mul, Rat.zero_add, Rat.zero_add]
  have e0 : ptLL ⟨[[(g : Rat), (u : Rat), (v : Rat)], [0, (u' : Rat), (v' : Rat)]], [i], [(k : Rat)], F⟩ 2 1 0 = [0, 0] := rfl
  have e2 : waysQ ⟨[[(g : Rat), (u : Rat), (v : Rat)], [0, (u' : Rat), (v' : Rat)]], [i], [(k : Rat)], F⟩ 1 = [[(u' : Rat), (v' : Rat)]] := rfl
  show (bdC [[(g : Rat), (u : Rat), (v : Rat)], [0, (u' : Rat), (v' : Rat)]] && (bdF (k : Rat) && true) && ((ptLL _ 2 1 0).all bdF && ((ptLL _ 2 1 1).all bdF && true)) && (ptLL _ 2 1 1).all okI && (waysQ _ 1).all (·.all okI)) = true
  rw [e0, e1, e2]
  unfold bdC
  simp only [List.all_cons, List.all_nil, (intZ_small g (by omega)).2.1, (intZ_small u (by omega)).2.1, (intZ_small v (by omega)).2.1, (intZ_small u' (by omega)).2.1, (intZ_small v' (by omega)).2.1, (intZ_small k (by omega)).1, (intZ_small (u * k) (by omega)).1, (intZ_small (v * k) (by omega)).1, (intZ_small (u * k) (by omega)).2.2.1, (intZ_small (v * k) (by omega)).2.2.1, (intZ_small u' (by omega)).2.2.1, (intZ_small v' (by omega)).2.2.1, Bool.and_true]
  decide
theorem fin_low {g u v u' v' k : Int} (i : Int) (F : List (List Rat)) (hg : g.natAbs ≤ 9) (hu : u.natAbs ≤ 9) (hv : v.natAbs ≤ 9) (hu' : u'.natAbs ≤ 9) (hv' : v'.natAbs ≤ 9) (hk : k.natAbs ≤ 9) :
    finB ⟨[[0, (g : Rat), (u : Rat), (v : Rat)], [0, 0, (u' : Rat), (v' : Rat)]], [i], [(k : Rat)], F⟩ 2 2 = true := by
  have h1 := prod_le hu hk
  have h2 := prod_le hv hk
  unfold finB
  have e1 : ptLL ⟨[[0, (g : Rat), (u : Rat), (v : Rat)], [0, 0, (u' : Rat), (v' : Rat)]], [i], [(k : Rat)], F⟩ 2 2 1 = [((u * k : Int) : Rat), ((v * k : Int) : Rat)] := by
    show [0 + (u : Rat) * (k : Rat), 0 + (v : Rat) * (k : Rat)] = _
    rw [Rat.intCast_mul, Rat.intCast_mul, Rat.zero_add, Rat.zero_add]
  have e0 : ptLL ⟨[[0, (g : Rat), (u : Rat), (v : Rat)], [0, 0, (u' : Rat), (v' : Rat)]], [i], [(k : Rat)], F⟩ 2 2 0 = [0, 0] := rfl
  have e2 : waysQ ⟨[[0, (g : Rat), (u : Rat), (v : Rat)], [0, 0, (u' : Rat), (v' : Rat)]], [i], [(k : Rat)], F⟩ 2 = [[(u' : Rat), (v' : Rat)]] := rfl
  show (bdC [[0, (g : Rat), (u : Rat), (v : Rat)], [0, 0, (u' : Rat), (v' : Rat)]] && (bdF (k : Rat) && true) && ((ptLL _ 2 2 0).all bdF && ((ptLL _ 2 2 1).all bdF && true)) && (ptLL _ 2 2 1).all okI && (waysQ _ 2).all (·.all okI)) = true
  rw [e0, e1, e2]
  unfold bdC
  simp only [List.all_cons, List.all_nil, (intZ_small g (by omega)).2.1, (intZ_small u (by omega)).2.1, (intZ_small v (by omega)).2.1, (intZ_small u' (by omega)).2.1, (intZ_small v' (by omega)).2.1, (intZ_small k (by omega)).1, (intZ_small (u * k) (by omega)).1, (intZ_small (v * k) (by omega)).1, (intZ_small (u * k) (by omega)).2.2.1, (intZ_small (v * k) (by omega)).2.2.1, (intZ_small u' (by omega)).2.2.1, (intZ_small v' (by omega)).2.2.1, Bool.and_true]
  decide
theorem quot_le {t g k : Int} (h : t = g * k) (h0 : g ≠ 0) (ht : t.natAbs ≤ 9) : k.natAbs ≤ 9 := by
  rw [h, Int.natAbs_mul] at ht
  have : 1 ≤ g.natAbs := by omega
  calc k.natAbs = 1 * k.natAbs := (Nat.one_mul _).symm
    _ ≤ g.natAbs * k.natAbs := Nat.mul_le_mul_right _ this
    _ ≤ 9 := ht
theorem bd3 {x u v y u' v' : Int} (h1 : x.natAbs ≤ 9) (h2 : u.natAbs ≤ 9) (h3 : v.natAbs ≤ 9) (h4 : y.natAbs ≤ 9) (h5 : u'.natAbs ≤ 9) (h6 : v'.natAbs ≤ 9) : bdC [[(x : Rat), (u : Rat), (v : Rat)], [(y : Rat), (u' : Rat), (v' : Rat)]] = true := by
  unfold bdC
  simp only [List.all_cons, List.all_nil, (intZ_small x (by omega)).2.1, (intZ_small u (by omega)).2.1, (intZ_small v (by omega)).2.1, (intZ_small y (by omega)).2.1, (intZ_small u' (by omega)).2.1, (intZ_small v' (by omega)).2.1, Bool.and_true]
theorem bd4 {x p u v y q u' v' : Int} (h1 : x.natAbs ≤ 9) (hp : p.natAbs ≤ 162) (h2 : u.natAbs ≤ 9) (h3 : v.natAbs ≤ 9) (h4 : y.natAbs ≤ 9) (hq : q.natAbs ≤ 162) (h5 : u'.natAbs ≤ 9) (h6 : v'.natAbs ≤ 9) : bdC [[(x : Rat), (p : Rat), (u : Rat), (v : Rat)], [(y : Rat), (q : Rat), (u' : Rat), (v' : Rat)]] = true := by
  unfold bdC
  simp only [List.all_cons, List.all_nil, (intZ_small x (by omega)).2.1, (intZ_small p (by omega)).2.1, (intZ_small u (by omega)).2.1, (intZ_small v (by omega)).2.1, (intZ_small y (by omega)).2.1, (intZ_small q (by omega)).2.1, (intZ_small u' (by omega)).2.1, (intZ_small v' (by omega)).2.1, Bool.and_true]
theorem start_one (a b t : Int) : startL [⟨[a, b], 3, t⟩] 2 = ⟨[[(a : Rat), ((1 : Int) : Rat), ((0 : Int) : Rat)], [(b : Rat), ((0 : Int) : Rat), ((1 : Int) : Rat)]], [], [], []⟩ := rfl
theorem run_one {rows : List Rw} {a b t : Int} {S : LQ} {x : Option (List Rat)} {S' : LQ} (hr : rows = [⟨[a, b], 3, t⟩]) (h : stepR 2 1 5 0 (t : Rat) S = some (x, S')) : runS 2 rows.length 5 rows rows.length 0 S = some (x, S') := by
  subst hr
  show (match stepR 2 1 5 0 (t : Rat) S with
    | none => none
    | some (some w, S') => some (some w, S')
    | some (none, S') => some (none, S')) = _
  rw [h]
  cases x <;> rfl
theorem run_two {rows : List Rw} {a b t c d o : Int} {S S1 S' : LQ} {x : Option (List Rat)} (hr : rows = [⟨[a, b], 3, t⟩, ⟨[c, d], 3, o⟩]) (h : stepR 2 2 5 0 (t : Rat) S = some (none, S1)) (h' : stepR 2 2 5 1 (o : Rat) S1 = some (x, S')) : runS 2 rows.length 5 rows rows.length 0 S = some (x, S') := by
  subst hr
  show (match stepR 2 2 5 0 (t : Rat) S with
    | none => none
    | some (some w, S') => some (some w, S')
    | some (none, S') => (match stepR 2 2 5 1 (o : Rat) S' with
      | none => none
      | some (some w, S') => some (some w, S')
      | some (none, S') => some (none, S'))) = _
  rw [h]
  simp only
  rw [h']
  cases x <;> rfl
theorem run_early {rows : List Rw} {a b t c d o : Int} {S S1 : LQ} {w : List Rat} (hr : rows = [⟨[a, b], 3, t⟩, ⟨[c, d], 3, o⟩]) (h : stepR 2 2 5 0 (t : Rat) S = some (some w, S1)) : runS 2 rows.length 5 rows rows.length 0 S = some (some w, S1) := by
  subst hr
  show (match stepR 2 2 5 0 (t : Rat) S with
    | none => none
    | some (some w, S') => some (some w, S')
    | some (none, S') => _) = _
  rw [h]
theorem abs9 {u : Int} (h : u.natAbs ≤ 9) : -9 ≤ u ∧ u ≤ 9 := by omega
theorem sum_le {c u d v : Int} (h1 : (c * u).natAbs ≤ 9 * 9) (h2 : (d * v).natAbs ≤ 9 * 9) : (c * u + d * v).natAbs ≤ 162 := by omega
/-- Of one equation. -/
theorem sure_one (a b t : Int) (ha : -9 ≤ a ∧ a ≤ 9) (hb : -9 ≤ b ∧ b ≤ 9) (ht : -9 ≤ t ∧ t ≤ 9) : ∃ R, doR [⟨[a, b], 3, t⟩] 2 5 = some R ∧ R.yes = divZ a b t := by
  have hC : bdC [[(a : Rat), ((1 : Int) : Rat), ((0 : Int) : Rat)], [(b : Rat), ((0 : Int) : Rat), ((1 : Int) : Rat)]] = true := bd3 (by omega) (by decide) (by decide) (by omega) (by decide) (by decide)
  rcases euclid a b ha hb with ⟨h1, h2, hc⟩ | ⟨g, u, v, u', v', hc, hg, hu, hv, hu', hv', h0, hga, hgb, hs⟩
  · obtain ⟨m0, m1, he, _, _, hcl⟩ := clear_sim sim_id 5 _ _ _ rfl rfl hc
    have he : ([[0, 1, 0], [0, 0, 1]] : List (List Rat)) = [m0, m1] := he
    obtain ⟨e1, e2⟩ : [0, 1, 0] = m0 ∧ [0, 0, 1] = m1 := by simpa using he
    subst e1 e2
    obtain ⟨f1, f2⟩ := step_F (C := [[(a : Rat), ((1 : Int) : Rat), ((0 : Int) : Rat)], [(b : Rat), ((0 : Int) : Rat), ((1 : Int) : Rat)]]) (c := [[0, 1, 0], [0, 0, 1]]) (m := 1) (i := 0) (t := t) hC (by omega) hcl (by decide)
    by_cases e : t = 0
    · obtain ⟨R, hR, hy⟩ := doR_yes (run_one rfl (by rw [start_one]; exact f1 e)) (show finB ⟨[[0, 1, 0], [0, 0, 1]], [], [], []⟩ 2 1 = true by decide +kernel)
      exact ⟨R, hR, hy.trans (divZ_iff.2 (.inl e)).symm⟩
    · obtain ⟨S, hS⟩ := f2 e
      obtain ⟨R, hR, hy⟩ := doR_no (run_one rfl (by rw [start_one]; exact hS)) (unit_out (by omega) (by omega))
      refine ⟨R, hR, hy.trans ?_⟩
      rcases hd : divZ a b t with _ | _
      · rfl
      · exfalso
        rcases divZ_iff.1 hd with h | ⟨x, z, _, _, _, _, h, _⟩
        · exact e h
        · apply h; rw [h1, h2]; simp
  · obtain ⟨m0, m1, he, _, _, hcl⟩ := clear_sim sim_id 5 _ _ _ rfl rfl hc
    obtain ⟨e1, e2⟩ : [(g : Rat), (u : Rat), (v : Rat)] = m0 ∧ [0, (u' : Rat), (v' : Rat)] = m1 := by simpa using he
    subst e1 e2
    obtain ⟨f1, f2⟩ := step_T (C := [[(a : Rat), ((1 : Int) : Rat), ((0 : Int) : Rat)], [(b : Rat), ((0 : Int) : Rat), ((1 : Int) : Rat)]]) (c := [[(g : Rat), (u : Rat), (v : Rat)], [0, (u' : Rat), (v' : Rat)]]) (m := 1) (i := 0) (t := t) (g := g) hC (by omega) hcl (bd3 (y := 0) hg hu hv (by decide) hu' hv') rfl h0
    by_cases e : ∃ k, t = g * k
    · obtain ⟨k, hk⟩ := e
      have hkb := quot_le hk h0 (by omega)
      obtain ⟨R, hR, hy⟩ := doR_yes (run_one rfl (by rw [start_one]; exact f1 k hk)) (fin_one _ _ hg hu hv hu' hv' hkb)
      exact ⟨R, hR, hy.trans (divZ_iff.2 (.inr ⟨u, v, (abs9 hu).1, (abs9 hu).2, (abs9 hv).1, (abs9 hv).2, by rw [hs]; exact h0, by rw [hs]; exact ⟨k, hk⟩⟩)).symm⟩
    · obtain ⟨S, hS⟩ := f2 e
      obtain ⟨R, hR, hy⟩ := doR_no (run_one rfl (by rw [start_one]; exact hS)) (unit_out h0 (by omega))
      refine ⟨R, hR, hy.trans ?_⟩
      rcases hd : divZ a b t with _ | _
      · rfl
      · exfalso
        rcases divZ_iff.1 hd with h | ⟨x, z, _, _, _, _, _, h⟩
        · exact e ⟨0, by rw [h]; simp⟩
        · have h3 : g ∣ a * x + b * z := Int.dvd_add (Int.dvd_mul_of_dvd_left (Int.dvd_of_emod_eq_zero hga)) (Int.dvd_mul_of_dvd_left (Int.dvd_of_emod_eq_zero hgb))
          obtain ⟨k, hk⟩ := Int.dvd_trans h3 h
          exact e ⟨k, hk⟩
theorem start_two (a b t c d o : Int) : startL [⟨[a, b], 3, t⟩, ⟨[c, d], 3, o⟩] 2 = ⟨[phi c d [(a : Rat), 1, 0], phi c d [(b : Rat), 0, 1]], [], [], []⟩ := by
  show (⟨[[(a : Rat), (c : Rat), 1, 0], [(b : Rat), (d : Rat), 0, 1]], [], [], []⟩ : LQ) = ⟨[[(a : Rat), (c : Rat) * 1 + (d : Rat) * 0, 1, 0], [(b : Rat), (c : Rat) * 0 + (d : Rat) * 1, 0, 1]], [], [], []⟩
  rw [show (c : Rat) * 1 + (d : Rat) * 0 = c by grind, show (c : Rat) * 0 + (d : Rat) * 1 = d by grind]
/-- Of two equations. -/
theorem sure_two (a b t c d o : Int) (ha : -9 ≤ a ∧ a ≤ 9) (hb : -9 ≤ b ∧ b ≤ 9) (ht : -9 ≤ t ∧ t ≤ 9) (hc : -9 ≤ c ∧ c ≤ 9) (hd : -9 ≤ d ∧ d ≤ 9) (ho : -9 ≤ o ∧ o ≤ 9) : ∃ R, doR [⟨[a, b], 3, t⟩, ⟨[c, d], 3, o⟩] 2 5 = some R := by
  have hC : bdC [phi c d [(a : Rat), 1, 0], phi c d [(b : Rat), 0, 1]] = true := by
    have h := bd4 (x := a) (p := c * 1 + d * 0) (u := 1) (v := 0) (y := b) (q := c * 0 + d * 1) (u' := 0) (v' := 1) (by omega) (by omega) (by decide) (by decide) (by omega) (by omega) (by decide) (by decide)
    rw [← phi_int, ← phi_int] at h
    exact h
  have no : ∀ {w : List Rat} {S : LQ}, runS 2 [(⟨[a, b], 3, t⟩ : Rw), ⟨[c, d], 3, o⟩].length 5 [⟨[a, b], 3, t⟩, ⟨[c, d], 3, o⟩] [(⟨[a, b], 3, t⟩ : Rw), ⟨[c, d], 3, o⟩].length 0 (startL [⟨[a, b], 3, t⟩, ⟨[c, d], 3, o⟩] 2) = some (some w, S) → (∀ q ∈ w, Fits q ∧ bdF q = true) → ∃ R, doR [⟨[a, b], 3, t⟩, ⟨[c, d], 3, o⟩] 2 5 = some R := fun h1 h2 => by
    obtain ⟨R, hR, _⟩ := doR_no h1 h2
    exact ⟨R, hR⟩
  have yes : ∀ {S : LQ}, runS 2 [(⟨[a, b], 3, t⟩ : Rw), ⟨[c, d], 3, o⟩].length 5 [⟨[a, b], 3, t⟩, ⟨[c, d], 3, o⟩] [(⟨[a, b], 3, t⟩ : Rw), ⟨[c, d], 3, o⟩].length 0 (startL [⟨[a, b], 3, t⟩, ⟨[c, d], 3, o⟩] 2) = some (none, S) → finB S 2 2 = true → ∃ R, doR [⟨[a, b], 3, t⟩, ⟨[c, d], 3, o⟩] 2 5 = some R := fun h1 h2 => by
    obtain ⟨R, hR, _⟩ := doR_yes h1 h2
    exact ⟨R, hR⟩
  rcases euclid a b ha hb with ⟨_, _, hcb⟩ | ⟨g, u, v, u', v', hcb, hg, hu, hv, hu', hv', h0, _, _, _⟩
  · obtain ⟨m0, m1, he, _, _, hcl⟩ := clear_sim (sim_phi c d (by omega) (by omega)) 5 _ _ _ rfl rfl hcb
    have he : ([[0, 1, 0], [0, 0, 1]] : List (List Rat)) = [m0, m1] := he
    obtain ⟨e1, e2⟩ : [0, 1, 0] = m0 ∧ [0, 0, 1] = m1 := by simpa using he
    subst e1 e2
    have hc0 : phi c d [0, 1, 0] = [0, (c : Rat), 1, 0] := by
      show [0, (c : Rat) * 1 + (d : Rat) * 0, 1, 0] = _
      rw [show (c : Rat) * 1 + (d : Rat) * 0 = c by grind]
    have hc1 : phi c d [0, 0, 1] = [0, (d : Rat), 0, 1] := by
      show [0, (c : Rat) * 0 + (d : Rat) * 1, 0, 1] = _
      rw [show (c : Rat) * 0 + (d : Rat) * 1 = d by grind]
    rw [hc0, hc1] at hcl
    have hb1 : bdC [[0, (c : Rat), 1, 0], [0, (d : Rat), 0, 1]] = true := bd4 (x := 0) (p := c) (u := 1) (v := 0) (y := 0) (q := d) (u' := 0) (v' := 1) (by decide) (by omega) (by decide) (by decide) (by decide) (by omega) (by decide) (by decide)
    obtain ⟨f1, f2⟩ := step_F (m := 2) (i := 0) (t := t) hC (by omega) hcl hb1
    by_cases e : t = 0
    · have h1 := f1 e
      rcases euclid c d hc hd with ⟨_, _, hcb⟩ | ⟨g, u, v, u', v', hcb, hg, hu, hv, hu', hv', h0, _, _, _⟩
      · obtain ⟨m0, m1, he, _, _, hcl⟩ := clear_sim sim_zero 5 _ _ _ rfl rfl hcb
        have he : ([[0, 1, 0], [0, 0, 1]] : List (List Rat)) = [m0, m1] := he
        obtain ⟨e1, e2⟩ : [0, 1, 0] = m0 ∧ [0, 0, 1] = m1 := by simpa using he
        subst e1 e2
        obtain ⟨j1, j2⟩ := step_F (m := 2) (i := 1) (t := o) hb1 (by omega) hcl (by decide)
        by_cases eo : o = 0
        · exact yes (run_two rfl (by rw [start_two]; exact h1) (j1 eo)) (by decide +kernel)
        · obtain ⟨S, hS⟩ := j2 eo
          exact no (run_two rfl (by rw [start_two]; exact h1) hS) (unit_out (by omega) (by omega))
      · obtain ⟨m0, m1, he, _, _, hcl⟩ := clear_sim sim_zero 5 _ _ _ rfl rfl hcb
        obtain ⟨e1, e2⟩ : [(g : Rat), (u : Rat), (v : Rat)] = m0 ∧ [0, (u' : Rat), (v' : Rat)] = m1 := by simpa using he
        subst e1 e2
        obtain ⟨j1, j2⟩ := step_T (m := 2) (i := 1) (t := o) (g := g) hb1 (by omega) hcl (bd4 (x := 0) (p := g) (y := 0) (q := 0) (by decide) (by omega) hu hv (by decide) (by decide) hu' hv') rfl h0
        by_cases eo : ∃ k, o = g * k
        · obtain ⟨k, hk⟩ := eo
          exact yes (run_two rfl (by rw [start_two]; exact h1) (j1 k hk)) (fin_low _ _ hg hu hv hu' hv' (quot_le hk h0 (by omega)))
        · obtain ⟨S, hS⟩ := j2 eo
          exact no (run_two rfl (by rw [start_two]; exact h1) hS) (unit_out h0 (by omega))
    · obtain ⟨S, hS⟩ := f2 e
      exact no (run_early rfl (by rw [start_two]; exact hS)) (unit_out (by omega) (by omega))
  · obtain ⟨m0, m1, he, _, _, hcl⟩ := clear_sim (sim_phi c d (by omega) (by omega)) 5 _ _ _ rfl rfl hcb
    obtain ⟨e1, e2⟩ : [(g : Rat), (u : Rat), (v : Rat)] = m0 ∧ [0, (u' : Rat), (v' : Rat)] = m1 := by simpa using he
    subst e1 e2
    have hz : phi c d [0, (u' : Rat), (v' : Rat)] = [0, ((c * u' + d * v' : Int) : Rat), (u' : Rat), (v' : Rat)] := phi_int c d 0 u' v'
    rw [phi_int, hz] at hcl
    have a1 := prod_le (show c.natAbs ≤ 9 by omega) hu
    have a2 := prod_le (show d.natAbs ≤ 9 by omega) hv
    have a3 := prod_le (show c.natAbs ≤ 9 by omega) hu'
    have a4 := prod_le (show d.natAbs ≤ 9 by omega) hv'
    obtain ⟨f1, f2⟩ := step_T (m := 2) (i := 0) (t := t) (g := g) hC (by omega) hcl (bd4 (y := 0) hg (sum_le a1 a2) hu hv (by decide) (sum_le a3 a4) hu' hv') rfl h0
    by_cases e : ∃ k, t = g * k
    · obtain ⟨k, hk⟩ := e
      have h1 := f1 k hk
      rcases step_two (p := c * u + d * v) (x := c * u' + d * v') (o := o) h0 hg (sum_le a1 a2) hu hv (sum_le a3 a4) hu' hv' (quot_le hk h0 (by omega)) (by omega) with ⟨w, S, h2, h3⟩ | ⟨S, h2, h3⟩
      · exact no (run_two rfl (by rw [start_two]; exact h1) h2) h3
      · exact yes (run_two rfl (by rw [start_two]; exact h1) h2) h3
    · obtain ⟨S, hS⟩ := f2 e
      exact no (run_early rfl (by rw [start_two]; exact hS)) (unit_out h0 (by omega))
end Go.Proofs.Ytamjmcdlddocgaa
