/- Gaps appended to gaps: what the walk needs. -/
import Derived.Test.YtnmklgigmmlgeaaGapMore
import Derived.Maps.AppendAt
import Derived.Deep.AppendLies
namespace Go.Proofs.Ytnmklgigmmlgeaa
open Go.ChangeShapes Go.WideShapes Go.RowKit
set_option linter.unusedVariables false
set_option linter.unusedSimpArgs false

abbrev TG : TypeId := 44
theorem infoGap : (Try.prog.info? TG).map (fun i => (i.zero, i.size, i.bytes)) = some (some (.agg #[.int .i64 0, .int .i64 0, .int .i64 0]), 3, 24) := by kernel_rfl

def gapV (g : Gp) : List Value := [.int .i64 g.A, .int .i64 g.B, .int .i64 g.By]
def gapsV (l : List Gp) : List Value := l.flatMap gapV

theorem gapsV_len (l : List Gp) : (gapsV l).length = l.length * 3 := by
  induction l with
  | nil => rfl
  | cons g t ih =>
    have : gapsV (g :: t) = gapV g ++ gapsV t := rfl
    rw [this, List.length_append, ih]
    simp [gapV]
    omega
theorem gapsV_get : ∀ (l : List Gp) (i : Nat) (g : Gp), l[i]? = some g → (gapsV l)[i * 3]? = some (.int .i64 g.A) ∧ (gapsV l)[i * 3 + 1]? = some (.int .i64 g.B) ∧ (gapsV l)[i * 3 + 2]? = some (.int .i64 g.By)
  | [], i, g, h => by simp at h
  | x :: t, 0, g, h => by
    simp at h
    subst h
    exact ⟨rfl, rfl, rfl⟩
  | x :: t, i + 1, g, h => by
    have ih := gapsV_get t i g (by simpa using h)
    have e : gapsV (x :: t) = Value.int .i64 x.A :: Value.int .i64 x.B :: Value.int .i64 x.By :: gapsV t := rfl
    rw [e, show (i + 1) * 3 = i * 3 + 1 + 1 + 1 by omega, show i * 3 + 1 + 1 + 1 + 1 = i * 3 + 1 + 1 + 1 + 1 from rfl, show i * 3 + 1 + 1 + 1 + 2 = i * 3 + 2 + 1 + 1 + 1 by omega]
    simpa using ih
theorem gapsV_at : ∀ (l : List Gp) (j : Nat) (u : Value), (gapsV l)[j]? = some u → ∃ i g, l[i]? = some g ∧ (j = i * 3 ∧ u = .int .i64 g.A ∨ j = i * 3 + 1 ∧ u = .int .i64 g.B ∨ j = i * 3 + 2 ∧ u = .int .i64 g.By)
  | [], j, u, h => by simp [gapsV] at h
  | x :: t, 0, u, h => ⟨0, x, rfl, .inl ⟨rfl, by simpa [gapsV, gapV] using h.symm⟩⟩
  | x :: t, 1, u, h => ⟨0, x, rfl, .inr (.inl ⟨rfl, by simpa [gapsV, gapV] using h.symm⟩)⟩
  | x :: t, 2, u, h => ⟨0, x, rfl, .inr (.inr ⟨rfl, by simpa [gapsV, gapV] using h.symm⟩)⟩
  | x :: t, j + 3, u, h => by
    have e : gapsV (x :: t) = Value.int .i64 x.A :: Value.int .i64 x.B :: Value.int .i64 x.By :: gapsV t := rfl
    rw [e] at h
    obtain ⟨i, g, hi, hc⟩ := gapsV_at t j u (by simpa using h)
    exact ⟨i + 1, g, by simpa using hi, by rcases hc with ⟨h1, h2⟩ | ⟨h1, h2⟩ | ⟨h1, h2⟩ <;> simp [h2] <;> omega⟩
theorem gapsV_one (l : List Gp) : ∀ u ∈ gapsV l, u.oneCell' = true := by
  intro u hu
  obtain ⟨g, _, hg⟩ := List.mem_flatMap.1 hu
  simp [gapV] at hg
  rcases hg with rfl | rfl | rfl <;> rfl

/-- The cells of gaps as they came in. -/
theorem IsGaps.cells {w : World} {v : Value} {l : List Gp} (h : IsGaps w v l) (h0 : 0 < l.length) : ∃ b o cap, v = .slice (some ⟨b, o, none⟩) l.length cap ∧ b < w.heap.size ∧ ∀ w', Keep NoS w w' → ∀ j u, (gapsV l)[j]? = some u → w'.cell? ((⟨b, o, none⟩ : Addr).add j) = some u := by
  obtain ⟨oa, cap, h1, h2, h3, h4⟩ := h
  obtain ⟨b, o, rfl, hb, hc⟩ := h4 (by rintro rfl; simp at h0)
  refine ⟨b, o, cap, h1, hb, fun w' hk j u hj => ?_⟩
  obtain ⟨i, g, hi, hcase⟩ := gapsV_at l j u hj
  obtain ⟨c0, c1, c2⟩ := hc i g hi
  rw [add_plain b o j]
  rw [hk.cell hb]
  rcases hcase with ⟨rfl, rfl⟩ | ⟨rfl, rfl⟩ | ⟨rfl, rfl⟩
  · exact c0
  · rw [← Nat.add_assoc]; exact c1
  · rw [← Nat.add_assoc]; exact c2

theorem gaps_of_own {w : World} {base g cap m : Nat} {l : List Gp} (h : w.ownsRow base TG 3 (.slice (some ⟨g, 0, none⟩) m cap) m (gapsV l)) (hm : m = l.length) (hl : l.length ≤ maxLen) (hi : ∀ g ∈ l, I64 g.A ∧ I64 g.B ∧ I64 g.By) : IsGaps w (.slice (some ⟨g, 0, none⟩) m cap) l := by
  subst hm
  refine ⟨_, cap, rfl, hl, hi, fun hne => ⟨g, 0, rfl, (h.lt g rfl).2, fun i x hx => ?_⟩⟩
  obtain ⟨c0, c1, c2⟩ := gapsV_get l i x hx
  have hc := fun j u => h.cells (g := g) rfl j u
  have e : ∀ j, (⟨g, 0, none⟩ : Addr).add j = ⟨g, 0 + j, none⟩ := fun j => add_plain g 0 j
  refine ⟨?_, ?_, ?_⟩
  · rw [← hc _ _ c0, e]
  · rw [← hc _ _ c1, e, ← Nat.add_assoc]
  · rw [← hc _ _ c2, e, ← Nat.add_assoc]

theorem one_cells {w : World} {b : Nat} {g : Gp} (h : Blk w b #[.int .i64 g.A, .int .i64 g.B, .int .i64 g.By]) : ∀ j u, (gapV g)[j]? = some u → w.cell? ((⟨b, 0, none⟩ : Addr).add j) = some u := by
  intro j u hj
  rw [add_plain, Nat.zero_add, h.cell j]
  simpa [gapV] using hj
theorem gapV_one (g : Gp) : ∀ u ∈ gapV g, u.oneCell' = true := by
  intro u hu
  simp [gapV] at hu
  rcases hu with rfl | rfl | rfl <;> rfl
theorem gapsV_app (l : List Gp) (g : Gp) : gapsV l ++ gapV g = gapsV (l ++ [g]) := by simp [gapsV]
theorem gaps_i64 {N : Nat} {l : List Gp} (hg : GpsOK N l) : ∀ g ∈ l, I64 g.A ∧ I64 g.B ∧ I64 g.By := by
  intro g hm
  have := hg.2.2 g hm
  have := hg.1
  unfold I64
  omega

/-- An append whose run is known. -/
theorem wpList_app_run {P : Program} {w w' : World} {v' : Value} {ops : Array Oper} {rest : List Oper} {o : Oper} {a : Act} {Q : Exit → Act → World → Prop} (s x : Operand) (t : TypeId) (v u : Value) (hgd : o.guard = none)
    (ho : o.op = .call { callee := .builtin .append, args := #[s, x], argTypes := #[t, t] }) (hs : a.eval s = v) (hx : a.eval x = u) (hrun : (Builtin.append_ #[t, t] o.type #[v, u]).run P w = .ok v' w')
    (h : wpList P ops Q rest (a.put o.dst v') w') : wpList P ops Q (o :: rest) a w := by
  refine wpList_plain hgd fun K hK => ?_
  unfold Oper.wp execOp
  simp only [ho, resolve, invoke, builtin, Sem.run_bind, Sem.run_pure, Result.andThen_ok, List.map_toArray, List.map_cons, List.map_nil, hs, hx, hrun]
  exact hK _ _ h

/-- A copy by appending to nothing. -/
theorem app_gaps (w : World) (v : Value) (l : List Gp) (h : IsGaps w v l) (hl : l.length ≤ 60) :
    ∃ v1 w1, (Builtin.append_ #[39, 39] 39 #[.slice none 0 0, v]).run Try.prog w = .ok v1 w1 ∧ w1.ownsRow w.heap.size TG 3 v1 l.length (gapsV l) ∧ Keep NoS w w1 := by
  obtain ⟨i2, hi2, hz20, hz21, hz22⟩ := info_parts infoGap
  by_cases h0 : l = []
  · subst h0
    obtain ⟨oa, cap, rfl, _⟩ := h
    refine ⟨.slice none 0 0, w, ?_, World.ownsRow_nil _ _ _ _, Keep.refl _ _⟩
    rcases oa with _ | ad <;> simp [Builtin.append_, run_underlying Try.underlying39, sizeOf, typeInfo, hi2, Builtin.lenOf, Builtin.firstCells, loadCells, loadCellsFrom]
  · have hp : 0 < l.length := List.length_pos_iff.2 h0
    obtain ⟨b, o, cap, rfl, hb, hc⟩ := h.cells hp
    obtain ⟨v1, w1, hrun, hown, hgr, _, _⟩ := run_append_own_at (P := Try.prog) w w.heap.size 39 39 TG i2 _ 3 24 Try.underlying39 hi2 hz20 hz21 hz22 rfl (by decide) (.slice none 0 0) 0 [] (World.ownsRow_nil _ _ _ _) ⟨b, o, none⟩ l.length cap (gapsV l) (gapsV_len l) (hc w (Keep.refl _ _)) (gapsV_one l) (by unfold maxLen; omega) (by omega) (Nat.le_refl _)
    exact ⟨v1, w1, hrun, by simpa using hown, Keep.of_below (grown_keep hgr w.heap.size (Nat.le_refl _) (by simp [Value.ownBlock])) (Nat.le_refl _)⟩
end Go.Proofs.Ytnmklgigmmlgeaa
