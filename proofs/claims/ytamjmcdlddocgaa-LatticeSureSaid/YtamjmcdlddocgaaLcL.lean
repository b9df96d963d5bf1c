/- Small systems of two numbers: lattice.Do tells, and when it says yes. -/
import Derived.Test.YtamjmcdlddocgaaLcI
namespace Go.Proofs.Ytamjmcdlddocgaa
open Go.ChangeShapes Go.WideShapes Go.RowKit
set_option linter.unusedVariables false
set_option linter.unusedSimpArgs false

theorem divInt_leZ (x y : Int) (h0 : y ≠ 0) : (Rat.divInt x y).num.natAbs ≤ x.natAbs ∧ (Rat.divInt x y).den ≤ y.natAbs := by
  have ha : ∀ z : Int, ∀ g : Nat, (z.tdiv g).natAbs ≤ z.natAbs := natAbs_tdiv_le
  rcases Int.lt_or_le y 0 with h | h
  · obtain ⟨h1, h2⟩ := rat_neg x y h
    have h3 := ha y (Nat.gcd x.natAbs y.natAbs)
    exact ⟨by rw [h1, Int.natAbs_neg]; exact ha _ _, by omega⟩
  · obtain ⟨h1, h2⟩ := rat_pos x y (by omega)
    have h3 := ha y (Nat.gcd x.natAbs y.natAbs)
    exact ⟨by rw [h1]; exact ha _ _, by omega⟩
theorem intZ_ne {w : Int} (h : w ≠ 0) : (w : Rat) ≠ 0 := fun e => h (by have := congrArg Rat.num e; simpa using this)
theorem quoZ_eq (z w : Int) (h : w ≠ 0) : (z : Rat) / (w : Rat) = Rat.divInt z w := by
  rw [← rat_quo (intZ_ne h)]
  simp
/-- Small fractions. -/
theorem quoZ_small (z w : Int) (h : w ≠ 0) (hz : z.natAbs ≤ 1000000) (hw : w.natAbs ≤ 1000000) : bdF ((z : Rat) / (w : Rat)) = true ∧ Fits ((z : Rat) / (w : Rat)) := by
  rw [quoZ_eq z w h]
  obtain ⟨h1, h2⟩ := divInt_leZ z w h
  have e : (1000000 : Nat) < 10 ^ 50 := by decide
  exact ⟨decide_eq_true ⟨by omega, by omega⟩, by unfold Fits; omega⟩
theorem intZ_small (z : Int) (hz : z.natAbs ≤ 1000000) : bdF (z : Rat) = true ∧ bdQ (z : Rat) = true ∧ okI (z : Rat) = true ∧ Fits (z : Rat) := by
  have e : (1000000 : Nat) < 10 ^ 50 := by decide
  refine ⟨decide_eq_true ⟨by rw [Rat.num_intCast]; omega, by rw [Rat.den_intCast]; decide⟩, decide_eq_true ⟨Rat.den_intCast z, by rw [Rat.num_intCast]; omega⟩, decide_eq_true ⟨by unfold is64; rw [Rat.num_intCast]; omega, Rat.den_intCast z, by rw [Rat.num_intCast]; omega, by rw [Rat.num_intCast]; omega⟩, by unfold Fits; rw [Rat.num_intCast, Rat.den_intCast]; omega⟩

/-! ### two columns -/
def b9 (q : Rat) : Bool := decide (q.den = 1 ∧ q.num.natAbs ≤ 1000)
/-- clear, its numbers being small. -/
def clearB : Nat → List (List Rat) → Option (Bool × List (List Rat))
  | 0, _ => none
  | f + 1, c => let s := scanS c 0 0 2
    if s.2 = 0 then some (false, c) else
    let c1 := swpQ c 0 s.1
    if s.2 = 1 then some (true, c1) else
    let c2 := redK c1 0 0 1
    if c2.all (·.all b9) = true then clearB f c2 else none
structure Sim (ψ : List Rat → List Rat) (j : Nat) : Prop where
  h1 : ∀ l : List Rat, l.length = 3 → (ψ l).getD j 0 = l.getD 0 0
  h2 : ∀ (l l' : List Rat) (q : Rat), l.length = 3 → l'.length = 3 → lessQ (ψ l) (ψ l') q = ψ (lessQ l l' q)
  h3 : ∀ l : List Rat, l.length = 3 → l.all b9 = true → (ψ l).all bdQ = true
theorem two_scan {ψ : List Rat → List Rat} {j : Nat} (h : Sim ψ j) {l0 l1 : List Rat} (e0 : l0.length = 3) (e1 : l1.length = 3) : scanS [ψ l0, ψ l1] j 0 2 = scanS [l0, l1] 0 0 2 := by
  have a0 : ∀ k, k < 2 → cellQ [ψ l0, ψ l1] k j = cellQ [l0, l1] k 0 := by
    intro k hk
    rcases (by omega : k = 0 ∨ k = 1) with rfl | rfl
    · exact h.h1 l0 e0
    · exact h.h1 l1 e1
  have hs : ∀ d, d ≤ 2 → scanS [ψ l0, ψ l1] j 0 d = scanS [l0, l1] 0 0 d := by
    intro d
    induction d with
    | zero => intro _; rfl
    | succ d ih =>
      intro hd
      have ih := ih (by omega)
      have hb := (scan_bd (c := [l0, l1]) (i := 0) (fr := 0) d)
      simp only [scanS]
      rw [ih, a0 (0 + d) (by omega)]
      by_cases hz : (scanS [l0, l1] 0 0 d).2 = 0
      · simp only [hz, true_or, if_true]
      · have := hb.2 hz
        rw [a0 _ (by omega)]
  exact hs 2 (by omega)
theorem redK_two (x y : List Rat) (i : Nat) : redK [x, y] i 0 1 = if cellQ [x, y] 1 i = 0 then [x, y] else [x, lessQ y x (flQ (cellQ [x, y] 1 i / cellQ [x, y] 0 i))] := by
  show (if cellQ [x, y] (0 + 1 + 0) i = 0 then [x, y] else _) = _
  rfl
theorem clear_sim {ψ : List Rat → List Rat} {j : Nat} (h : Sim ψ j) : ∀ (f : Nat) (l0 l1 : List Rat) (r : Bool × List (List Rat)), l0.length = 3 → l1.length = 3 → clearB f [l0, l1] = some r →
    ∃ m0 m1, r.2 = [m0, m1] ∧ m0.length = 3 ∧ m1.length = 3 ∧ clearR 2 j 0 f [ψ l0, ψ l1] = some (r.1, [ψ m0, ψ m1])
  | 0, _, _, _, _, _, hr => by cases hr
  | f + 1, l0, l1, r, e0, e1, hr => by
    simp only [clearB] at hr
    simp only [clearR]
    rw [show 2 - 0 = 2 from rfl, two_scan h e0 e1]
    have hb := (scan_bd (c := [l0, l1]) (i := 0) (fr := 0) 2)
    revert hr hb
    generalize scanS [l0, l1] 0 0 2 = s
    intro hr hb
    by_cases h0 : s.2 = 0
    · rw [if_pos h0] at hr ⊢
      cases hr
      exact ⟨l0, l1, rfl, e0, e1, rfl⟩
    · rw [if_neg h0] at hr ⊢
      have hlt := hb.2 h0
      obtain ⟨m0, m1, hm, hm', g0, g1⟩ : ∃ m0 m1, swpQ [l0, l1] 0 s.1 = [m0, m1] ∧ swpQ [ψ l0, ψ l1] 0 s.1 = [ψ m0, ψ m1] ∧ m0.length = 3 ∧ m1.length = 3 := by
        rcases (by omega : s.1 = 0 ∨ s.1 = 1) with e | e <;> rw [e]
        · exact ⟨l0, l1, rfl, rfl, e0, e1⟩
        · exact ⟨l1, l0, rfl, rfl, e1, e0⟩
      rw [hm] at hr
      rw [hm']
      by_cases h1 : s.2 = 1
      · rw [if_pos h1] at hr ⊢
        cases hr
        exact ⟨m0, m1, rfl, g0, g1, rfl⟩
      · rw [if_neg h1] at hr ⊢
        have a0 : cellQ [ψ m0, ψ m1] 0 j = cellQ [m0, m1] 0 0 := h.h1 m0 g0
        have a1 : cellQ [ψ m0, ψ m1] 1 j = cellQ [m0, m1] 1 0 := h.h1 m1 g1
        obtain ⟨n1, hn, hn', k1⟩ : ∃ n1, redK [m0, m1] 0 0 1 = [m0, n1] ∧ redK [ψ m0, ψ m1] j 0 (2 - (0 + 1)) = [ψ m0, ψ n1] ∧ n1.length = 3 := by
          rw [redK_two, show 2 - (0 + 1) = 1 from rfl, redK_two, a0, a1]
          by_cases hz : cellQ [m0, m1] 1 0 = 0
          · rw [if_pos hz, if_pos hz]; exact ⟨m1, rfl, rfl, g1⟩
          · rw [if_neg hz, if_neg hz]
            exact ⟨lessQ m1 m0 (flQ (cellQ [m0, m1] 1 0 / cellQ [m0, m1] 0 0)), rfl, by rw [h.h2 _ _ _ g1 g0], by rw [lessQ_len]; exact g1⟩
        rw [hn] at hr
        rw [hn']
        by_cases hc : [m0, n1].all (·.all b9) = true
        · rw [if_pos hc] at hr
          have hc' : bdC [ψ m0, ψ n1] = true := by
            simp only [List.all_cons, List.all_nil, Bool.and_true, Bool.and_eq_true] at hc
            unfold bdC
            simp only [List.all_cons, List.all_nil, Bool.and_true, Bool.and_eq_true]
            exact ⟨h.h3 _ g0 hc.1, h.h3 _ k1 hc.2⟩
          rw [if_pos hc']
          exact clear_sim h f m0 n1 r g0 k1 hr
        · rw [if_neg hc] at hr; cases hr

/-! ### all pairs of small numbers -/
def wh9 (q : Rat) : Bool := decide (q.den = 1 ∧ q.num.natAbs ≤ 9)
def okE (a b : Int) : Bool := match clearB 5 [[(a : Rat), 1, 0], [(b : Rat), 0, 1]] with
  | some (false, c) => decide (a = 0 ∧ b = 0 ∧ c = [[0, 1, 0], [0, 0, 1]])
  | some (true, [[g, u, v], [z, u', v']]) => decide (z = 0) && wh9 g && wh9 u && wh9 v && wh9 u' && wh9 v' && decide (g.num ≠ 0 ∧ a % g.num = 0 ∧ b % g.num = 0 ∧ a * u.num + b * v.num = g.num)
  | _ => false
set_option maxRecDepth 1000000 in
theorem okE_all : ((List.range 19).all fun a => (List.range 19).all fun b => okE ((a : Int) - 9) ((b : Int) - 9)) = true := by decide +kernel
theorem quoZ_eq_one (z : Int) : Rat.divInt z 1 = (z : Rat) := by
  have h := Rat.num_divInt_den (z : Rat)
  rw [Rat.num_intCast, Rat.den_intCast] at h
  exact h
theorem wh9_int {q : Rat} (h : wh9 q = true) : q = (q.num : Rat) ∧ q.num.natAbs ≤ 9 := by
  obtain ⟨h1, h2⟩ := of_decide_eq_true h
  refine ⟨?_, h2⟩
  have e := Rat.num_divInt_den q
  rw [h1] at e
  rw [← quoZ_eq_one]
  exact e.symm
/-- What Euclid's steps come to. -/
theorem euclid (a b : Int) (ha : -9 ≤ a ∧ a ≤ 9) (hb : -9 ≤ b ∧ b ≤ 9) :
    (a = 0 ∧ b = 0 ∧ clearB 5 [[(a : Rat), 1, 0], [(b : Rat), 0, 1]] = some (false, [[0, 1, 0], [0, 0, 1]])) ∨
    ∃ g u v u' v' : Int, clearB 5 [[(a : Rat), 1, 0], [(b : Rat), 0, 1]] = some (true, [[(g : Rat), (u : Rat), (v : Rat)], [0, (u' : Rat), (v' : Rat)]]) ∧ g.natAbs ≤ 9 ∧ u.natAbs ≤ 9 ∧ v.natAbs ≤ 9 ∧ u'.natAbs ≤ 9 ∧ v'.natAbs ≤ 9 ∧ g ≠ 0 ∧ a % g = 0 ∧ b % g = 0 ∧ a * u + b * v = g := by
  have h := List.all_eq_true.1 (List.all_eq_true.1 okE_all (a + 9).toNat (List.mem_range.2 (by omega))) (b + 9).toNat (List.mem_range.2 (by omega))
  rw [show (((a + 9).toNat : Nat) : Int) - 9 = a by omega, show (((b + 9).toNat : Nat) : Int) - 9 = b by omega] at h
  unfold okE at h
  generalize hc : clearB 5 [[(a : Rat), 1, 0], [(b : Rat), 0, 1]] = o at h
  split at h
  · obtain ⟨h1, h2, h3⟩ := of_decide_eq_true h
    rw [h3]
    exact .inl ⟨h1, h2, rfl⟩
  · rename_i g u v z u' v'
    rw [Bool.and_eq_true, Bool.and_eq_true, Bool.and_eq_true, Bool.and_eq_true, Bool.and_eq_true, Bool.and_eq_true] at h
    obtain ⟨⟨⟨⟨⟨⟨h1, h2⟩, h3⟩, h4⟩, h5⟩, h6⟩, h7⟩ := h
    have h1 := of_decide_eq_true h1
    obtain ⟨h7, h8, h9, h10⟩ := of_decide_eq_true h7
    obtain ⟨e2, f2⟩ := wh9_int h2
    obtain ⟨e3, f3⟩ := wh9_int h3
    obtain ⟨e4, f4⟩ := wh9_int h4
    obtain ⟨e5, f5⟩ := wh9_int h5
    obtain ⟨e6, f6⟩ := wh9_int h6
    refine .inr ⟨g.num, u.num, v.num, u'.num, v'.num, ?_, f2, f3, f4, f5, f6, h7, h8, h9, h10⟩
    rw [h1, ← e2, ← e3, ← e4, ← e5, ← e6]
  · cases h
end Go.Proofs.Ytamjmcdlddocgaa
