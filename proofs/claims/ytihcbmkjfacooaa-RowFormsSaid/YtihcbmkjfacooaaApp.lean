/- Appending: what the walks need, for whatever element type. Rows of the call's own; integers. -/
import Derived.Test.YtihcbmkjfacooaaIntBlk
import Derived.Maps.AppendAt
import Derived.Deep.AppendLies
namespace Go.Proofs.Ytihcbmkjfacooaa
open Go.ChangeShapes Go.WideShapes Go.RowKit
set_option linter.unusedVariables false
set_option linter.unusedSimpArgs false

/-- An append whose run is known. -/
theorem wpList_app_run {P : Program} {w w' : World} {v' : Value} {ops : Array Oper} {rest : List Oper} {o : Oper} {a : Act} {Q : Exit → Act → World → Prop} (s x : Operand) (t : TypeId) (v u : Value) (hgd : o.guard = none)
    (ho : o.op = .call { callee := .builtin .append, args := #[s, x], argTypes := #[t, t] }) (hs : a.eval s = v) (hx : a.eval x = u) (hrun : (Builtin.append_ #[t, t] o.type #[v, u]).run P w = .ok v' w')
    (h : wpList P ops Q rest (a.put o.dst v') w') : wpList P ops Q (o :: rest) a w := by
  refine wpList_plain hgd fun K hK => ?_
  unfold Oper.wp execOp
  simp only [ho, resolve, invoke, builtin, Sem.run_bind, Sem.run_pure, Result.andThen_ok, List.map_toArray, List.map_cons, List.map_nil, hs, hx, hrun]
  exact hK _ _ h

/-- The same inside a region whose order is drawn. -/
theorem wp_app_run {P : Program} {w w' : World} {v' : Value} {o : Oper} {a : Act} {Q : Exit → Act → World → Prop} {K : Act → World → Prop} (s x : Operand) (t : TypeId) (v u : Value)
    (ho : o.op = .call { callee := .builtin .append, args := #[s, x], argTypes := #[t, t] }) (hs : a.eval s = v) (hx : a.eval x = u) (hrun : (Builtin.append_ #[t, t] o.type #[v, u]).run P w = .ok v' w')
    (h : K (a.put o.dst v') w') : o.wp P a w K Q := by
  unfold Oper.wp execOp
  simp only [ho, resolve, invoke, builtin, Sem.run_bind, Sem.run_pure, Result.andThen_ok, List.map_toArray, List.map_cons, List.map_nil, hs, hx, hrun]
  exact h

theorem app_none {P : Program} {w : World} {sl el ty : TypeId} {i : TypeInfo} {z : Value} (hu : P.underlying sl = some (.slice el)) (hi : P.info? el = some i) (hz : i.zero = some z) (v : Value) (base n k : Nat) (xs : List Value) (hown : w.ownsRow base el k v n xs) (c : Nat) :
    (Builtin.append_ #[sl, sl] ty #[v, .slice none 0 c]).run P w = .ok v w := by
  obtain ⟨_, h | ⟨g, cap, cur, rfl, _, _, hl, _⟩⟩ := hown
  · obtain ⟨rfl, rfl⟩ := h
    simp [Builtin.append_, run_underlying hu, sizeOf, typeInfo, hi, hz, Builtin.lenOf, Builtin.firstCells, loadCells, loadCellsFrom]
  · simp [Builtin.append_, run_underlying hu, sizeOf, typeInfo, hi, hz, Builtin.lenOf, Builtin.firstCells, loadCells, loadCellsFrom, hl, storeCells]

theorem app_run {P : Program} {w : World} {sl el ty : TypeId} {i : TypeInfo} {z : Value} {k bytes : Nat} (hu : P.underlying sl = some (.slice el)) (hi : P.info? el = some i) (hz : i.zero = some z) (hs : i.size = k) (hb : i.bytes = bytes) (hzs : z.cells.size = k) (hk : 0 < k)
    (base : Nat) (v : Value) (n : Nat) (xs : List Value) (hown : w.ownsRow base el k v n xs) (oa : Option Addr) (m c : Nat) (news : List Value) (hl : news.length = m * k) (hsrc : 0 < m → ∃ a, oa = some a ∧ ∀ j u, news[j]? = some u → w.cell? (a.add j) = some u)
    (h1 : ∀ u ∈ news, u.oneCell' = true) (hmx : n + m ≤ maxLen) (hby : (n + m) * bytes ≤ 140737488355328) (hbase : base ≤ w.heap.size) :
    ∃ v' w', (Builtin.append_ #[sl, sl] ty #[v, .slice oa m c]).run P w = .ok v' w' ∧ w'.ownsRow base el k v' (n + m) (xs ++ news) ∧ w.grownBy w' v.ownBlock := by
  rcases Nat.eq_zero_or_pos m with rfl | hm
  · rw [Nat.zero_mul] at hl
    have : news = [] := List.eq_nil_of_length_eq_zero hl
    subst this
    rcases oa with _ | a
    · refine ⟨v, w, app_none hu hi hz v base n k xs hown c, by simpa using hown, ⟨rfl, rfl, rfl, Nat.le_refl _, fun _ _ _ => rfl⟩⟩
    · obtain ⟨v', w', hr, ho, hg, _, _⟩ := run_append_own_at (P := P) w base sl ty el i z k bytes hu hi hz hs hb hzs hk v n xs hown a 0 c [] (by simp) (by simp) (by simp) hmx hby hbase
      exact ⟨v', w', hr, ho, hg⟩
  · obtain ⟨a, rfl, hc⟩ := hsrc hm
    obtain ⟨v', w', hr, ho, hg, _, _⟩ := run_append_own_at (P := P) w base sl ty el i z k bytes hu hi hz hs hb hzs hk v n xs hown a m c news hl hc h1 hmx hby hbase
    exact ⟨v', w', hr, ho, hg⟩

theorem Keep.grown {w0 w w1 : World} {row : Option Nat} (h : Keep NoS w0 w) (hg : w.grownBy w1 row) (hr : ∀ k, row = some k → w0.heap.size ≤ k) : Keep NoS w0 w1 :=
  Keep.of_below ((Keep.bel h).grown hg h.size hr) (Nat.le_refl _)

/-! ### integers -/
abbrev TI : TypeId := 3
theorem infoI : (Try.prog.info? 3).map (fun i => (i.zero, i.size, i.bytes)) = some (some (.int .i64 0), 1, 8) := by kernel_rfl

def iv (xs : List Int) : List Value := xs.map (Value.int .i64)
theorem iv_len (xs : List Int) : (iv xs).length = xs.length := by simp [iv]
theorem iv_get (xs : List Int) (i : Nat) : (iv xs)[i]? = (xs[i]?).map (Value.int .i64) := by simp [iv]
theorem iv_app (xs ys : List Int) : iv (xs ++ ys) = iv xs ++ iv ys := by simp [iv]
theorem iv_one (xs : List Int) : ∀ u ∈ iv xs, u.oneCell' = true := by
  intro u hu
  obtain ⟨x, _, rfl⟩ := List.mem_map.1 hu
  rfl

/-- A []int of the call's own: it lies at or above base. -/
def OwnI (w : World) (base : Nat) (v : Value) (xs : List Int) : Prop := w.ownsRow base TI 1 v xs.length (iv xs)

theorem OwnI.nil (w : World) (base : Nat) : OwnI w base (.slice none 0 0) [] := World.ownsRow_nil _ _ _ _
theorem OwnI.block {w : World} {base : Nat} {v : Value} {xs : List Int} (h : OwnI w base v xs) : ∀ k, v.ownBlock = some k → base ≤ k := fun k hk => (World.ownsRow.lt h k hk).1
theorem OwnI.keep {w w' : World} {base : Nat} {v : Value} {xs : List Int} (h : OwnI w base v xs) (k : Keep NoS w w') : OwnI w' base v xs := by
  obtain ⟨hl, h | ⟨g, cap, cur, hv, hb, hg, hl', hm, hs, ht⟩⟩ := h
  · exact ⟨hl, .inl h⟩
  · exact ⟨hl, .inr ⟨g, cap, cur, hv, hb, by rw [k.block g (lt_of_heap hg) fun _ h => h]; exact hg, hl', hm, hs, ht⟩⟩
theorem OwnI.len {w : World} {base : Nat} {v : Value} {xs : List Int} (h : OwnI w base v xs) : ∃ oa cap, v = .slice oa xs.length cap := by
  obtain ⟨hl, h | ⟨g, cap, cur, hv, hb, hg, hl', hm, hs, ht⟩⟩ := h
  · obtain ⟨rfl, h0⟩ := h
    exact ⟨none, 0, by rw [h0]⟩
  · exact ⟨_, cap, hv⟩
theorem OwnI.max {w : World} {base : Nat} {v : Value} {xs : List Int} (h : OwnI w base v xs) : xs.length ≤ maxLen := by
  obtain ⟨hl, h | ⟨g, cap, cur, hv, hb, hg, hl', hm, hs, ht⟩⟩ := h
  · obtain ⟨rfl, h0⟩ := h; rw [h0]; exact Nat.zero_le _
  · omega
theorem OwnI.ints {w : World} {base : Nat} {v : Value} {xs : List Int} (h : OwnI w base v xs) (hx : ∀ x ∈ xs, I64 x) : IsInts w v xs := by
  have hm := h.max
  obtain ⟨hl, h' | ⟨g, cap, cur, hv, hb, hg, hl', _, hs, ht⟩⟩ := h
  · obtain ⟨rfl, h0⟩ := h'
    have : xs = [] := List.eq_nil_of_length_eq_zero h0
    subst this
    exact ⟨none, 0, rfl, by simp, by simp, fun h => absurd rfl h⟩
  · refine ⟨_, cap, hv, hm, hx, fun _ => ⟨g, 0, rfl, lt_of_heap hg, fun i x hi => ?_⟩⟩
    have h1 : (cur.toList.take (xs.length * 1))[i]? = (iv xs)[i]? := by rw [ht]
    have hil : i < xs.length := (List.getElem?_eq_some_iff.1 hi).1
    rw [List.getElem?_take, if_pos (by omega), iv_get, hi] at h1
    rw [Nat.zero_add]
    exact cell_of_heap hg (by simpa using h1)

theorem IsInts.len {w : World} {v : Value} {l : List Int} (h : IsInts w v l) : ∃ oa cap, v = .slice oa l.length cap ∧ l.length ≤ maxLen := by
  obtain ⟨oa, cap, hv, hm, _⟩ := h
  exact ⟨oa, cap, hv, hm⟩
theorem IsInts.all {w : World} {v : Value} {l : List Int} (h : IsInts w v l) : ∀ x ∈ l, I64 x := by obtain ⟨_, _, _, _, h, _⟩ := h; exact h
theorem World.ownsRow_mono {w : World} {base base' : Nat} {e : TypeId} {size : Nat} {v : Value} {n : Nat} {xs : List Value} (h : w.ownsRow base e size v n xs) (hb : base' ≤ base) : w.ownsRow base' e size v n xs := by
  obtain ⟨hl, h | ⟨g, cap, cur, hv, hg, h⟩⟩ := h
  · exact ⟨hl, .inl h⟩
  · exact ⟨hl, .inr ⟨g, cap, cur, hv, by omega, h⟩⟩

/-- What an append needs of integers that lie somewhere. -/
theorem IsInts.src {w : World} {v : Value} {l : List Int} (h : IsInts w v l) : ∃ oa cap, v = .slice oa l.length cap ∧ (0 < l.length → ∃ a, oa = some a ∧ ∀ j u, (iv l)[j]? = some u → w.cell? (a.add j) = some u) := by
  obtain ⟨oa, cap, rfl, hm, hx, hc⟩ := h
  refine ⟨oa, cap, rfl, fun h0 => ?_⟩
  obtain ⟨b, o, rfl, hb, hcell⟩ := hc (by rintro rfl; simp at h0)
  refine ⟨_, rfl, fun j u hj => ?_⟩
  rw [iv_get] at hj
  rcases hl : l[j]? with _ | x
  · rw [hl] at hj; cases hj
  · rw [hl] at hj
    simp at hj
    subst hj
    rw [show (⟨b, o, none⟩ : Addr).add j = ⟨b, o + j, none⟩ from by unfold Addr.add; split <;> simp_all]
    exact hcell j x hl

/-- Integers appended to integers of the call's own. -/
theorem app_ints {w : World} {base : Nat} {v : Value} {xs : List Int} (hown : OwnI w base v xs) {u : Value} {ys : List Int} (hu : IsInts w u ys) (hl : xs.length + ys.length ≤ 1000000) (hb : base ≤ w.heap.size) :
    ∃ v' w', (Builtin.append_ #[22, 22] 22 #[v, u]).run Try.prog w = .ok v' w' ∧ OwnI w' base v' (xs ++ ys) ∧ w.grownBy w' v.ownBlock := by
  obtain ⟨i0, hi0, hz0, hz1, hz2⟩ := info_parts infoI
  obtain ⟨oa, cap, rfl, hsrc⟩ := hu.src
  obtain ⟨v', w', hr, ho, hg⟩ := app_run (P := Try.prog) (w := w) (ty := 22) Try.underlying22 hi0 hz0 hz1 hz2 rfl (by decide) base v xs.length (iv xs) hown oa ys.length cap (iv ys) (by simp [iv]) hsrc (iv_one ys) (by unfold maxLen; omega) (by omega) hb
  exact ⟨v', w', hr, by unfold OwnI; rw [iv_app, List.length_append]; exact ho, hg⟩

/-- A new block that holds one integer. -/
theorem one_int (w : World) (x : Int) (hx : I64 x) : IsInts (w.alloc (.cells #[.int .i64 x] TI)) (.slice (some ⟨w.heap.size, 0, none⟩) 1 1) [x] := by
  refine ⟨_, 1, rfl, by simp [maxLen], by simpa using hx, fun _ => ⟨w.heap.size, 0, rfl, by simp, fun i y hi => ?_⟩⟩
  rcases i with _ | i
  · simp at hi; subst hi; simp
  · simp at hi

end Go.Proofs.Ytihcbmkjfacooaa
