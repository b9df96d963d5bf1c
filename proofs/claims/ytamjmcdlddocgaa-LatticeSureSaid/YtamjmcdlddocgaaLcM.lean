/- Small systems of two numbers: the steps. -/
import Derived.Test.YtamjmcdlddocgaaLcL
namespace Go.Proofs.Ytamjmcdlddocgaa
open Go.ChangeShapes Go.WideShapes Go.RowKit
set_option linter.unusedVariables false
set_option linter.unusedSimpArgs false

theorem b9_int {q : Rat} (h : b9 q = true) : q = (q.num : Rat) ∧ q.num.natAbs ≤ 1000 := by
  obtain ⟨h1, h2⟩ := of_decide_eq_true h
  refine ⟨?_, h2⟩
  have e := Rat.num_divInt_den q
  rw [h1] at e
  rw [← quoZ_eq_one]
  exact e.symm
theorem b9_bd {q : Rat} (h : b9 q = true) : bdQ q = true := by
  obtain ⟨h1, h2⟩ := of_decide_eq_true h
  have e : (1000 : Nat) < 10 ^ 50 := by decide
  exact decide_eq_true ⟨h1, by omega⟩
theorem three {l : List Rat} (h : l.length = 3) : ∃ x u v, l = [x, u, v] := by
  match l, h with
  | [x, u, v], _ => exact ⟨x, u, v, rfl⟩
def phi (c d : Rat) (l : List Rat) : List Rat := [l.getD 0 0, c * l.getD 1 0 + d * l.getD 2 0, l.getD 1 0, l.getD 2 0]
theorem lessQ_4 (a b c d a' b' c' d' q : Rat) : lessQ [a, b, c, d] [a', b', c', d'] q = [a - a' * q, b - b' * q, c - c' * q, d - d' * q] := rfl
theorem lessQ_3 (a b c a' b' c' q : Rat) : lessQ [a, b, c] [a', b', c'] q = [a - a' * q, b - b' * q, c - c' * q] := rfl
theorem lessQ_2 (a b a' b' q : Rat) : lessQ [a, b] [a', b'] q = [a - a' * q, b - b' * q] := rfl
theorem sim_id : Sim id 0 := ⟨fun l _ => rfl, fun l l' q _ _ => rfl, fun l _ h => List.all_eq_true.2 fun q hq => b9_bd (List.all_eq_true.1 h q hq)⟩
theorem sim_zero : Sim (fun l => 0 :: l) 1 := by
  refine ⟨fun l _ => rfl, fun l l' q h h' => ?_, fun l _ h => ?_⟩
  · obtain ⟨x, u, v, rfl⟩ := three h
    obtain ⟨x', u', v', rfl⟩ := three h'
    show lessQ [0, x, u, v] [0, x', u', v'] q = 0 :: lessQ [x, u, v] [x', u', v'] q
    rw [lessQ_3, lessQ_4, show (0 : Rat) - 0 * q = 0 by grind]
  · rw [List.all_cons, Bool.and_eq_true]
    exact ⟨by decide, List.all_eq_true.2 fun q hq => b9_bd (List.all_eq_true.1 h q hq)⟩
theorem sim_phi (c d : Int) (hc : c.natAbs ≤ 9) (hd : d.natAbs ≤ 9) : Sim (phi c d) 0 := by
  refine ⟨fun l _ => rfl, fun l l' q h h' => ?_, fun l hl h => ?_⟩
  · obtain ⟨x, u, v, rfl⟩ := three h
    obtain ⟨x', u', v', rfl⟩ := three h'
    show lessQ [x, c * u + d * v, u, v] [x', c * u' + d * v', u', v'] q = phi c d (lessQ [x, u, v] [x', u', v'] q)
    rw [lessQ_3, lessQ_4]
    show _ = [x - x' * q, c * (u - u' * q) + d * (v - v' * q), u - u' * q, v - v' * q]
    rw [show (c : Rat) * u + d * v - (c * u' + d * v') * q = c * (u - u' * q) + d * (v - v' * q) by grind]
  · obtain ⟨x, u, v, rfl⟩ := three hl
    simp only [List.all_cons, List.all_nil, Bool.and_true, Bool.and_eq_true] at h
    show ([x, c * u + d * v, u, v] : List Rat).all bdQ = true
    simp only [List.all_cons, List.all_nil, Bool.and_true, Bool.and_eq_true]
    refine ⟨b9_bd h.1, ?_, b9_bd h.2.1, b9_bd h.2.2⟩
    obtain ⟨e1, h1⟩ := b9_int h.2.1
    obtain ⟨e2, h2⟩ := b9_int h.2.2
    rw [e1, e2, ← Rat.intCast_mul, ← Rat.intCast_mul, ← Rat.intCast_add]
    refine (intZ_small _ ?_).2.1
    have a1 : (c * u.num).natAbs ≤ 9 * 1000 := by rw [Int.natAbs_mul]; exact Nat.mul_le_mul hc h1
    have a2 : (d * v.num).natAbs ≤ 9 * 1000 := by rw [Int.natAbs_mul]; exact Nat.mul_le_mul hd h2
    omega
theorem phi_int (c d g u v : Int) : phi c d [(g : Rat), (u : Rat), (v : Rat)] = [(g : Rat), ((c * u + d * v : Int) : Rat), (u : Rat), (v : Rat)] := by
  show [(g : Rat), c * u + d * v, (u : Rat), (v : Rat)] = _
  rw [Rat.intCast_add, Rat.intCast_mul, Rat.intCast_mul]
theorem stepR_eq {n m f i : Nat} {tt : Rat} {S : LQ} {b : Bool} {c : List (List Rat)} (hok : okS S m i tt = true) (hc : clearR n i S.piv.length f S.cols = some (b, c)) (hb : bdC c = true) :
    stepR n m f i tt S = (if b = false then (if (restK S m i tt S.piv.length).1 = 0 then some (none, { S with cols := c }) else some (some ((restK S m i tt S.piv.length).2.map (· * (1 / ((restK S m i tt S.piv.length).1 + (restK S m i tt S.piv.length).1)))), { S with cols := c }))
    else if ((restK S m i tt S.piv.length).1 * (1 / cellQ c S.piv.length i)).den = 1 then some (none, ⟨c, S.piv ++ [(i : Int)], S.part ++ [(restK S m i tt S.piv.length).1 * (1 / cellQ c S.piv.length i)], S.fs ++ [(restK S m i tt S.piv.length).2.map (· * (1 / cellQ c S.piv.length i))]⟩)
      else some (some ((restK S m i tt S.piv.length).2.map (· * (1 / cellQ c S.piv.length i))), { S with cols := c })) := by
  unfold stepR
  rw [if_neg (by rw [hok]; simp)]
  simp only [hc]
  rw [if_neg (by rw [hb]; simp)]
theorem doR_no {rows : List Rw} {n f : Nat} {w : List Rat} {S : LQ} (h : runS n rows.length f rows rows.length 0 (startL rows n) = some (some w, S)) (hw : ∀ q ∈ w, Fits q ∧ bdF q = true) : ∃ R, doR rows n f = some R ∧ R.yes = false := by
  refine ⟨⟨false, [], [], w.map fqOf⟩, ?_, rfl⟩
  unfold doR
  rw [h]
  simp only
  rw [if_pos (List.all_eq_true.2 fun q hq => by rw [decide_eq_true (hw q hq).1, (hw q hq).2]; rfl)]
def finB (S : LQ) (n m : Nat) : Bool := bdC S.cols && S.part.all bdF && ((List.range (S.part.length + 1)).all fun k => (ptLL S n m k).all bdF) && (ptLL S n m S.part.length).all okI && (waysQ S m).all (·.all okI)
theorem doR_yes {rows : List Rw} {n f : Nat} {S : LQ} (h : runS n rows.length f rows rows.length 0 (startL rows n) = some (none, S)) (hw : finB S n rows.length = true) : ∃ R, doR rows n f = some R ∧ R.yes = true := by
  refine ⟨⟨true, (ptLL S n rows.length S.part.length).map Rat.num, (waysQ S rows.length).map (·.map Rat.num), []⟩, ?_, rfl⟩
  unfold doR
  rw [h]
  simp only
  unfold finB at hw
  rw [if_pos hw]
/-- Whole quotients. -/
theorem den_dvd (t g : Int) (hg : g ≠ 0) : ((t : Rat) * (1 / (g : Rat))).den = 1 ↔ ∃ k : Int, t = g * k := by
  have hg' := intZ_ne hg
  constructor
  · intro h
    refine ⟨((t : Rat) * (1 / (g : Rat))).num, ?_⟩
    have e : (t : Rat) * (1 / (g : Rat)) = ((((t : Rat) * (1 / (g : Rat))).num : Int) : Rat) := by
      have e := Rat.num_divInt_den ((t : Rat) * (1 / (g : Rat)))
      rw [h] at e
      exact e.symm.trans (quoZ_eq_one _)
    have e2 : (t : Rat) = ((g * ((t : Rat) * (1 / (g : Rat))).num : Int) : Rat) := by
      rw [Rat.intCast_mul, ← e]
      grind
    have := congrArg Rat.num e2
    rwa [Rat.num_intCast, Rat.num_intCast] at this
  · rintro ⟨k, rfl⟩
    rw [show ((g * k : Int) : Rat) * (1 / (g : Rat)) = (k : Rat) by rw [Rat.intCast_mul]; grind]
    exact Rat.den_intCast k
theorem mul_quo (g k : Int) (hg : g ≠ 0) : ((g * k : Int) : Rat) * (1 / (g : Rat)) = (k : Rat) := by
  have hg' := intZ_ne hg
  rw [Rat.intCast_mul]
  grind
end Go.Proofs.Ytamjmcdlddocgaa
