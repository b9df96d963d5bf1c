/- Small systems of two numbers: all of them. -/
import Derived.Test.YtamjmcdlddocgaaLcM
namespace Go.Proofs.Ytamjmcdlddocgaa
open Go.ChangeShapes Go.WideShapes Go.RowKit
set_option linter.unusedVariables false
set_option linter.unusedSimpArgs false

theorem unit_mem {m i : Nat} {q : Rat} (h : q ∈ unitQ m i) : q = 0 ∨ q = 1 := by
  rcases List.mem_or_eq_of_mem_set h with h | h
  · exact .inl (List.eq_of_mem_replicate h)
  · exact .inr h
theorem unit_bd (m i : Nat) : (unitQ m i).all bdF = true := List.all_eq_true.2 fun q hq => by rcases unit_mem hq with rfl | rfl <;> decide
theorem unit_out {m i : Nat} {W : Int} (hW : W ≠ 0) (hb : W.natAbs ≤ 1000000) : ∀ q ∈ (unitQ m i).map (· * (1 / (W : Rat))), Fits q ∧ bdF q = true := by
  intro q hq
  obtain ⟨a, ha, rfl⟩ := List.mem_map.1 hq
  rcases unit_mem ha with rfl | rfl
  · rw [Rat.zero_mul]; exact ⟨by unfold Fits; decide, by decide⟩
  · rw [Rat.one_mul]
    have := quoZ_small 1 W hW (by decide) hb
    exact ⟨this.2, this.1⟩
theorem okS_first {C : List (List Rat)} {m i : Nat} {to' : Int} (hC : bdC C = true) (ht : to'.natAbs ≤ 1000000) : okS ⟨C, [], [], []⟩ m i (to' : Rat) = true := by
  unfold okS
  rw [hC]
  show (true && true && true && ((List.range 1).all fun k => bdF (restK ⟨C, [], [], []⟩ m i (to' : Rat) k).1 && (restK ⟨C, [], [], []⟩ m i (to' : Rat) k).2.all bdF)) = true
  show (bdF (to' : Rat) && (unitQ m i).all bdF && true) = true
  rw [(intZ_small to' ht).1, unit_bd]
  rfl
theorem two_mul (t : Int) : (t : Rat) + (t : Rat) = ((2 * t : Int) : Rat) := by
  rw [Rat.intCast_mul]
  show (t : Rat) + t = (2 : Rat) * t
  grind
theorem int_zero {t : Int} : (t : Rat) = 0 ↔ t = 0 := ⟨fun e => by have := congrArg Rat.num e; simpa using this, fun e => by rw [e]; rfl⟩
theorem step_F {C c : List (List Rat)} {m i : Nat} {t : Int} (hC : bdC C = true) (ht : t.natAbs ≤ 1000000) (hc : clearR 2 i 0 5 C = some (false, c)) (hb : bdC c = true) :
    (t = 0 → stepR 2 m 5 i (t : Rat) ⟨C, [], [], []⟩ = some (none, ⟨c, [], [], []⟩)) ∧ (t ≠ 0 → ∃ S, stepR 2 m 5 i (t : Rat) ⟨C, [], [], []⟩ = some (some ((unitQ m i).map (· * (1 / ((2 * t : Int) : Rat)))), S)) := by
  rw [stepR_eq (okS_first hC ht) hc hb]
  simp only [if_true]
  show (t = 0 → (if (t : Rat) = 0 then _ else _) = _) ∧ (t ≠ 0 → ∃ S, (if (t : Rat) = 0 then _ else some (some ((unitQ m i).map (· * (1 / ((t : Rat) + (t : Rat))))), _)) = _)
  rw [two_mul]
  refine ⟨fun e => by rw [if_pos (int_zero.2 e)], fun e => ⟨_, by rw [if_neg (fun h => e (int_zero.1 h))]⟩⟩
theorem step_T {C c : List (List Rat)} {m i : Nat} {t g : Int} (hC : bdC C = true) (ht : t.natAbs ≤ 1000000) (hc : clearR 2 i 0 5 C = some (true, c)) (hb : bdC c = true) (hg : cellQ c 0 i = (g : Rat)) (h0 : g ≠ 0) :
    (∀ k, t = g * k → stepR 2 m 5 i (t : Rat) ⟨C, [], [], []⟩ = some (none, ⟨c, [(i : Int)], [(k : Rat)], [(unitQ m i).map (· * (1 / (g : Rat)))]⟩)) ∧ ((¬ ∃ k, t = g * k) → ∃ S, stepR 2 m 5 i (t : Rat) ⟨C, [], [], []⟩ = some (some ((unitQ m i).map (· * (1 / (g : Rat)))), S)) := by
  have e0 : restK ⟨C, [], [], []⟩ m i (t : Rat) 0 = ((t : Rat), unitQ m i) := rfl
  rw [stepR_eq (okS_first hC ht) hc hb]
  simp only [Bool.true_eq_false, if_false, List.length_nil, hg, e0, List.nil_append]
  refine ⟨fun k e => ?_, fun e => ⟨⟨c, [], [], []⟩, ?_⟩⟩
  · rw [if_pos ((den_dvd t g h0).2 ⟨k, e⟩), e, mul_quo g k h0]
  · rw [if_neg (fun h => e ((den_dvd t g h0).1 h))]
theorem clear_one (l0 l1 : List Rat) : clearR 2 1 1 5 [l0, l1] = if cellQ [l0, l1] 1 1 = 0 then some (false, [l0, l1]) else some (true, [l0, l1]) := by
  have hs : scanS [l0, l1] 1 1 (2 - 1) = if cellQ [l0, l1] 1 1 = 0 then (0, 0) else (1, 1) := by
    show scanS [l0, l1] 1 1 1 = _
    simp only [scanS, Nat.add_zero, true_or, if_true, Nat.zero_add]
  simp only [clearR]
  rw [hs]
  by_cases h : cellQ [l0, l1] 1 1 = 0
  · simp only [if_pos h, if_true]
  · simp only [if_neg h]
    rfl
theorem prod_le {a b : Int} {x y : Nat} (ha : a.natAbs ≤ x) (hb : b.natAbs ≤ y) : (a * b).natAbs ≤ x * y := by rw [Int.natAbs_mul]; exact Nat.mul_le_mul ha hb
set_option maxHeartbeats 4000000 in
/-- The second row, behind a first pivot. -/
theorem step_two {g p u v x u' v' T o : Int} (hg0 : g ≠ 0) (hg : g.natAbs ≤ 9) (hp : p.natAbs ≤ 162) (hu : u.natAbs ≤ 9) (hv : v.natAbs ≤ 9) (hx : x.natAbs ≤ 162) (hu' : u'.natAbs ≤ 9) (hv' : v'.natAbs ≤ 9) (hT : T.natAbs ≤ 9) (ho : o.natAbs ≤ 9) :
    (∃ w S, stepR 2 2 5 1 (o : Rat) ⟨[[(g : Rat), (p : Rat), (u : Rat), (v : Rat)], [0, (x : Rat), (u' : Rat), (v' : Rat)]], [((0 : Nat) : Int)], [(T : Rat)], [(unitQ 2 0).map (· * (1 / (g : Rat)))]⟩ = some (some w, S) ∧ ∀ q ∈ w, Fits q ∧ bdF q = true) ∨
    (∃ S, stepR 2 2 5 1 (o : Rat) ⟨[[(g : Rat), (p : Rat), (u : Rat), (v : Rat)], [0, (x : Rat), (u' : Rat), (v' : Rat)]], [((0 : Nat) : Int)], [(T : Rat)], [(unitQ 2 0).map (· * (1 / (g : Rat)))]⟩ = some (none, S) ∧ finB S 2 2 = true) := by
  have hgq := intZ_ne hg0
  obtain ⟨C, hC⟩ : ∃ C, [[(g : Rat), (p : Rat), (u : Rat), (v : Rat)], [0, (x : Rat), (u' : Rat), (v' : Rat)]] = C := ⟨_, rfl⟩
  have hbC : bdC C = true := by
    rw [← hC]
    show (([(g : Rat), (p : Rat), (u : Rat), (v : Rat)].all bdQ) && (([0, (x : Rat), (u' : Rat), (v' : Rat)] : List Rat).all bdQ && true)) = true
    simp only [List.all_cons, List.all_nil, (intZ_small g (by omega)).2.1, (intZ_small p (by omega)).2.1, (intZ_small u (by omega)).2.1, (intZ_small v (by omega)).2.1, (intZ_small x (by omega)).2.1, (intZ_small u' (by omega)).2.1, (intZ_small v' (by omega)).2.1, Bool.and_true]
    decide
  have c01 : cellQ C 0 1 = (p : Rat) := by rw [← hC]; rfl
  have c11 : cellQ C 1 1 = (x : Rat) := by rw [← hC]; rfl
  have hpT := prod_le hp hT
  obtain ⟨r, hr⟩ : ∃ r, o - p * T = r := ⟨_, rfl⟩
  have hrb : r.natAbs ≤ 2000 := by omega
  have hrr : (o : Rat) - (p : Rat) * (T : Rat) = (r : Rat) := by rw [← hr, Rat.intCast_sub, Rat.intCast_mul]
  have hU : (unitQ 2 0).map (· * (1 / (g : Rat))) = [1 * (1 / (g : Rat)), 0 * (1 / (g : Rat))] := rfl
  have hf0 : 0 - 1 * (1 / (g : Rat)) * (p : Rat) = ((-p : Int) : Rat) / (g : Rat) := by rw [Rat.intCast_neg]; grind
  have hf1 : 1 - 0 * (1 / (g : Rat)) * (p : Rat) = ((1 : Int) : Rat) := by
    show _ = (1 : Rat)
    grind
  obtain ⟨S, hS⟩ : ∃ S : LQ, S = ⟨C, [((0 : Nat) : Int)], [(T : Rat)], [[1 * (1 / (g : Rat)), 0 * (1 / (g : Rat))]]⟩ := ⟨_, rfl⟩
  have k0 : restK S 2 1 (o : Rat) 0 = ((o : Rat), [0, 1]) := rfl
  have k1 : restK S 2 1 (o : Rat) 1 = ((r : Rat), [((-p : Int) : Rat) / (g : Rat), ((1 : Int) : Rat)]) := by
    show ((o : Rat) - cellQ S.cols 0 1 * S.part.getD 0 0, lessQ [0, 1] (S.fs.getD 0 []) (cellQ S.cols 0 1)) = _
    rw [hS]
    show ((o : Rat) - cellQ C 0 1 * (T : Rat), lessQ [0, 1] [1 * (1 / (g : Rat)), 0 * (1 / (g : Rat))] (cellQ C 0 1)) = _
    rw [c01, lessQ_2, hrr, hf0, hf1]
  have hf1b : ∀ q ∈ [((-p : Int) : Rat) / (g : Rat), ((1 : Int) : Rat)], bdF q = true := by
    intro q hq
    simp only [List.mem_cons, List.not_mem_nil, or_false] at hq
    rcases hq with rfl | rfl
    · exact (quoZ_small _ _ hg0 (by omega) (by omega)).1
    · exact (intZ_small 1 (by decide)).1
  have hok : okS S 2 1 (o : Rat) = true := by
    unfold okS
    rw [show S.cols = C by rw [hS], hbC, show S.part = [(T : Rat)] by rw [hS], show S.fs = [[1 * (1 / (g : Rat)), 0 * (1 / (g : Rat))]] by rw [hS], show S.piv.length + 1 = 2 by rw [hS]; rfl]
    show (true && (bdF (T : Rat) && true) && ((bdF (1 * (1 / (g : Rat))) && (bdF (0 * (1 / (g : Rat))) && true)) && true) && ((bdF (restK S 2 1 (o : Rat) 0).1 && (restK S 2 1 (o : Rat) 0).2.all bdF) && ((bdF (restK S 2 1 (o : Rat) 1).1 && (restK S 2 1 (o : Rat) 1).2.all bdF) && true))) = true
    rw [k0, k1, (intZ_small T (by omega)).1, Rat.one_mul, Rat.zero_mul]
    have h1 : bdF (1 / (g : Rat)) = true := (quoZ_small 1 g hg0 (by decide) (by omega)).1
    rw [h1]
    simp only [(intZ_small o (by omega)).1, (intZ_small r (by omega)).1, List.all_eq_true.2 hf1b]
    decide
  have hcl := clear_one [(g : Rat), (p : Rat), (u : Rat), (v : Rat)] [0, (x : Rat), (u' : Rat), (v' : Rat)]
  rw [hC, c11] at hcl
  have hw : ∀ W : Int, W ≠ 0 → W.natAbs ≤ 10000 → ∀ q ∈ [((-p : Int) : Rat) / (g : Rat), ((1 : Int) : Rat)].map (· * (1 / (W : Rat))), Fits q ∧ bdF q = true := by
    intro W h1 h2 q hq
    have hWq := intZ_ne h1
    obtain ⟨a, ha, rfl⟩ := List.mem_map.1 hq
    simp only [List.mem_cons, List.not_mem_nil, or_false] at ha
    rcases ha with rfl | rfl
    · rw [show ((-p : Int) : Rat) / (g : Rat) * (1 / (W : Rat)) = ((-p : Int) : Rat) / ((g * W : Int) : Rat) by rw [Rat.intCast_mul]; grind]
      have h3 := prod_le hg h2
      have := quoZ_small (-p) (g * W) (Int.mul_ne_zero hg0 h1) (by omega) (by omega)
      exact ⟨this.2, this.1⟩
    · rw [show ((1 : Int) : Rat) * (1 / (W : Rat)) = ((1 : Int) : Rat) / (W : Rat) by grind]
      have := quoZ_small 1 W h1 (by decide) (by omega)
      exact ⟨this.2, this.1⟩
  rw [hU, hC]
  rw [show (⟨C, [((0 : Nat) : Int)], [(T : Rat)], [[1 * (1 / (g : Rat)), 0 * (1 / (g : Rat))]]⟩ : LQ) = S from hS.symm]
  have hpl : S.piv.length = 1 := by rw [hS]; rfl
  have hSc : S.cols = C := by rw [hS]
  have huT := prod_le hu hT
  have hvT := prod_le hv hT
  have fin0 : ∀ (S' : LQ), S'.cols = C → (ptLL S' 2 2 0).all bdF = true := fun S' _ => by
    show ((([0, 0] : List Rat)).all bdF) = true
    decide
  have c02 : cellQ C 0 2 = (u : Rat) := by rw [← hC]; rfl
  have c03 : cellQ C 0 3 = (v : Rat) := by rw [← hC]; rfl
  have c12 : cellQ C 1 2 = (u' : Rat) := by rw [← hC]; rfl
  have c13 : cellQ C 1 3 = (v' : Rat) := by rw [← hC]; rfl
  by_cases hx0 : x = 0
  · rw [if_pos (int_zero.2 hx0)] at hcl
    rw [stepR_eq hok (by rw [hpl, hSc]; exact hcl) hbC, hpl, k1]
    simp only [if_true]
    by_cases hr0 : r = 0
    · refine .inr ⟨{ S with cols := C }, by rw [if_pos (int_zero.2 hr0)], ?_⟩
      obtain ⟨S', hS'⟩ : ∃ S' : LQ, S' = { S with cols := C } := ⟨_, rfl⟩
      rw [← hS']
      have hc' : S'.cols = C := by rw [hS']
      have hp' : S'.part = [(T : Rat)] := by rw [hS', hS]
      have hv2 : S'.piv.length = 1 := by rw [hS']; exact hpl
      unfold finB
      have e1 : ptLL S' 2 2 1 = [((u * T : Int) : Rat), ((v * T : Int) : Rat)] := by
        show [0 + cellQ S'.cols 0 2 * S'.part.getD 0 0, 0 + cellQ S'.cols 0 3 * S'.part.getD 0 0] = _
        rw [hc', hp']
        show [0 + cellQ C 0 2 * (T : Rat), 0 + cellQ C 0 3 * (T : Rat)] = _
        rw [c02, c03, Rat.intCast_mul, Rat.intCast_mul, Rat.zero_add, Rat.zero_add]
      have e2 : waysQ S' 2 = [[(u' : Rat), (v' : Rat)]] := by
        unfold waysQ
        rw [hv2, hc', ← hC]; rfl
      rw [e2, hp', hc']
      show (bdC C && (bdF (T : Rat) && true) && ((ptLL S' 2 2 0).all bdF && ((ptLL S' 2 2 1).all bdF && true)) && (ptLL S' 2 2 1).all okI && ((okI (u' : Rat) && (okI (v' : Rat) && true)) && true)) = true
      rw [e1, hbC, fin0 _ hc']
      simp only [List.all_cons, List.all_nil, (intZ_small T (by omega)).1, (intZ_small (u * T) (by omega)).1, (intZ_small (v * T) (by omega)).1, (intZ_small (u * T) (by omega)).2.2.1, (intZ_small (v * T) (by omega)).2.2.1, (intZ_small u' (by omega)).2.2.1, (intZ_small v' (by omega)).2.2.1, Bool.and_true]
    · refine .inl ⟨_, { S with cols := C }, by rw [if_neg (fun h => hr0 (int_zero.1 h))], ?_⟩
      rw [two_mul]
      exact hw (2 * r) (by omega) (by omega)
  · rw [if_neg (fun h => hx0 (int_zero.1 h))] at hcl
    rw [stepR_eq hok (by rw [hpl, hSc]; exact hcl) hbC, hpl, k1, c11]
    simp only [Bool.true_eq_false, if_false]
    by_cases hk : ∃ k, r = x * k
    · obtain ⟨k, rfl⟩ := hk
      have hkb : k.natAbs ≤ 2000 := by
        rw [Int.natAbs_mul] at hrb
        have : 1 ≤ x.natAbs := by omega
        calc k.natAbs = 1 * k.natAbs := (Nat.one_mul _).symm
          _ ≤ x.natAbs * k.natAbs := Nat.mul_le_mul_right _ this
          _ ≤ 2000 := hrb
      refine .inr ⟨_, by rw [if_pos ((den_dvd _ _ hx0).2 ⟨k, rfl⟩)], ?_⟩
      rw [mul_quo x k hx0]
      have huk := prod_le hu' hkb
      have hvk := prod_le hv' hkb
      obtain ⟨S', hS'⟩ : ∃ S' : LQ, S' = ⟨C, S.piv ++ [((1 : Nat) : Int)], S.part ++ [(k : Rat)], S.fs ++ [[((-p : Int) : Rat) / (g : Rat), ((1 : Int) : Rat)].map (· * (1 / (x : Rat)))]⟩ := ⟨_, rfl⟩
      rw [← hS']
      have hc' : S'.cols = C := by rw [hS']
      have hp' : S'.part = [(T : Rat), (k : Rat)] := by rw [hS', hS]; rfl
      have hv2 : S'.piv.length = 2 := by rw [hS', hS]; rfl
      unfold finB
      have e1 : ptLL S' 2 2 1 = [((u * T : Int) : Rat), ((v * T : Int) : Rat)] := by
        show [0 + cellQ S'.cols 0 2 * S'.part.getD 0 0, 0 + cellQ S'.cols 0 3 * S'.part.getD 0 0] = _
        rw [hc', hp']
        show [0 + cellQ C 0 2 * (T : Rat), 0 + cellQ C 0 3 * (T : Rat)] = _
        rw [c02, c03, Rat.intCast_mul, Rat.intCast_mul, Rat.zero_add, Rat.zero_add]
      have e2 : ptLL S' 2 2 2 = [((u * T + u' * k : Int) : Rat), ((v * T + v' * k : Int) : Rat)] := by
        show [0 + cellQ S'.cols 0 2 * S'.part.getD 0 0 + cellQ S'.cols 1 2 * S'.part.getD 1 0, 0 + cellQ S'.cols 0 3 * S'.part.getD 0 0 + cellQ S'.cols 1 3 * S'.part.getD 1 0] = _
        rw [hc', hp']
        show [0 + cellQ C 0 2 * (T : Rat) + cellQ C 1 2 * (k : Rat), 0 + cellQ C 0 3 * (T : Rat) + cellQ C 1 3 * (k : Rat)] = _
        rw [c02, c03, c12, c13, Rat.intCast_add, Rat.intCast_add, Rat.intCast_mul, Rat.intCast_mul, Rat.intCast_mul, Rat.intCast_mul, Rat.zero_add, Rat.zero_add]
      have e3 : waysQ S' 2 = [] := by
        unfold waysQ
        rw [hv2, hc', ← hC]; rfl
      rw [e3, hp', hc']
      show (bdC C && (bdF (T : Rat) && (bdF (k : Rat) && true)) && ((ptLL S' 2 2 0).all bdF && ((ptLL S' 2 2 1).all bdF && ((ptLL S' 2 2 2).all bdF && true))) && (ptLL S' 2 2 2).all okI && true) = true
      rw [e1, e2, hbC, fin0 _ hc']
      simp only [List.all_cons, List.all_nil, (intZ_small T (by omega)).1, (intZ_small k (by omega)).1, (intZ_small (u * T) (by omega)).1, (intZ_small (v * T) (by omega)).1, (intZ_small (u * T + u' * k) (by omega)).1, (intZ_small (v * T + v' * k) (by omega)).1, (intZ_small (u * T + u' * k) (by omega)).2.2.1, (intZ_small (v * T + v' * k) (by omega)).2.2.1, Bool.and_true]
    · refine .inl ⟨_, _, by rw [if_neg (fun h => hk ((den_dvd _ _ hx0).1 h))], ?_⟩
      exact hw x hx0 (by omega)
end Go.Proofs.Ytamjmcdlddocgaa
