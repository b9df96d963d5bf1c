/- Facts on blocks of ints and of bools by their types; lists of steps and of clauses of one's own. -/
import Derived.Test.YtnndmdfjdodiiaaGreatTtLL
namespace Go.Proofs.YtnndmdfjdodiiaaGreat
open Go.ChangeShapes Go.WideShapes Go.RowKit Go.Maps
set_option linter.unusedVariables false
set_option linter.unusedSimpArgs false

abbrev TBo : TypeId := 4
/-- What is of ints or bools is as it was. -/
structure FrI (w w' : World) : Prop where
  size : w.heap.size ≤ w'.heap.size
  at' : ∀ (k : Nat) (A : Array Value) (t : TypeId), w.heap[k]? = some (.cells A t (0, 0)) → t = TI ∨ t = TBo → w'.heap[k]? = some (.cells A t (0, 0))
theorem FrI.refl (w : World) : FrI w w := ⟨Nat.le_refl _, fun _ _ _ h _ => h⟩
theorem FrI.trans {a b c : World} (h : FrI a b) (k : FrI b c) : FrI a c := ⟨Nat.le_trans h.size k.size, fun n A t e q => k.at' n A t (h.at' n A t e q) q⟩
theorem FrI.of {w w' : World} (k : Keep NoS w w') : FrI w w' := ⟨k.size, fun n A t h _ => (k.block n (lt_of_heap h) fun _ h => h).trans h⟩
theorem FrI.set {w : World} {b i : Nat} {v : Value} {A : Array Value} {t : TypeId} (hb : w.heap[b]? = some (.cells A t (0, 0))) (ht : t ≠ TI ∧ t ≠ TBo) : FrI w (w.setCell ⟨b, i, none⟩ v) :=
  ⟨by simp, fun n B u h q => (heap_setCell_other w ⟨b, i, none⟩ v n (by
    rintro rfl
    rw [hb] at h
    injection h with h
    injection h with _ h
    subst h
    exact q.elim ht.1 ht.2)).trans h⟩
theorem FrI.grown {w w' : World} {row : Option Nat} (hg : w.grownBy w' row) (hr : ∀ k, row = some k → ∃ A t, w.heap[k]? = some (.cells A t (0, 0)) ∧ t ≠ TI ∧ t ≠ TBo) : FrI w w' :=
  ⟨hg.size, fun n B u h q => (hg.block n (lt_of_heap h) (by
    intro e
    obtain ⟨A, t, hb, ht⟩ := hr n e.symm
    rw [hb] at h
    injection h with h
    injection h with _ h
    subst h
    exact q.elim ht.1 ht.2)).trans h⟩
theorem own_capS {w : World} {base : Nat} {e : TypeId} {k : Nat} {v : Value} {n : Nat} {xs : List Value} (h : w.ownsRow base e k v n xs) : CapS v := by
  obtain ⟨hl, h | ⟨g, cap, cur, hv, hb', hg, hl', hm, hs, ht⟩⟩ := h
  · exact ⟨_, _, _, h.1, Nat.le_refl _, by unfold maxLen; omega⟩
  · exact ⟨_, _, _, hv, hl', hm⟩
/-- A list of ints that lies in a block of ints. -/
def IntsT (w : World) (v : Value) (l : List Int) : Prop := IsInts w v l ∧ CapS v ∧ ∀ k, v.ownBlock = some k → ∃ A, w.heap[k]? = some (.cells A TI (0, 0))
theorem IntsT.fr {w w' : World} {v : Value} {l : List Int} (h : IntsT w v l) (k : FrI w w') : IntsT w' v l := by
  obtain ⟨⟨oa, cap, h1, h2, h3, h4⟩, hc, ht⟩ := h
  refine ⟨⟨oa, cap, h1, h2, h3, fun hne => ?_⟩, hc, fun j hj => ?_⟩
  · obtain ⟨b, o, e, hb, hx⟩ := h4 hne
    obtain ⟨A, hA⟩ := ht b (by rw [h1, e]; rfl)
    have hA' := k.at' b A TI hA (.inl rfl)
    refine ⟨b, o, e, Nat.lt_of_lt_of_le hb k.size, fun i x hi => ?_⟩
    rw [← hx i x hi]
    exact World.cell?_of_block (hA'.trans hA.symm)
  · obtain ⟨A, hA⟩ := ht j hj
    exact ⟨A, k.at' j A TI hA (.inl rfl)⟩
theorem IntsT.keep {w w' : World} {v : Value} {l : List Int} (h : IntsT w v l) (k : Keep NoS w w') : IntsT w' v l := h.fr (.of k)
theorem OwnI.intsT {w : World} {base : Nat} {v : Value} {l : List Int} (h : OwnI w base v l) (hx : ∀ x ∈ l, I64 x) : IntsT w v l := ⟨h.ints hx, own_capS h, fun k hk => own_atT h hk⟩
theorem IntsT.nil (w : World) : IntsT w (.slice none 0 0) [] := (OwnI.nil w 0).intsT fun x hx => by cases hx
theorem IntsT.form {w : World} {v : Value} {l : List Int} (h : IntsT w v l) : ∃ o c, v = .slice o l.length c ∧ l.length ≤ c ∧ c ≤ maxLen := by
  obtain ⟨⟨oa, cap, h1, _⟩, ⟨o, n, c, h2, h3, h4⟩, _⟩ := h
  rw [h1] at h2
  injection h2 with q1 q2 q3
  subst q2
  subst q3
  exact ⟨_, _, h1, h3, h4⟩
/-- Bools in a block of bools. -/
def BoolsT (w : World) (g : Nat) (l : List Bool) : Prop := w.heap[g]? = some (.cells (l.map Value.bool).toArray TBo (0, 0)) ∧ l.length ≤ maxLen
theorem BoolsT.fr {w w' : World} {g : Nat} {l : List Bool} (h : BoolsT w g l) (k : FrI w w') : BoolsT w' g l := ⟨k.at' g _ TBo h.1 (.inr rfl), h.2⟩
theorem BoolsT.bools {w : World} {g : Nat} {l : List Bool} (h : BoolsT w g l) : IsBools w (.slice (some ⟨g, 0, none⟩) l.length l.length) l :=
  ⟨_, _, rfl, Nat.le_refl _, h.2, fun _ => ⟨g, 0, rfl, lt_of_heap h.1, fun i x hi => by rw [Nat.zero_add]; exact cell_of_heap h.1 (by simp [hi])⟩⟩
theorem BoolsT.set {w : World} {g : Nat} {l : List Bool} (h : BoolsT w g l) (i : Nat) (x : Bool) : BoolsT (w.setCell ⟨g, i, none⟩ (.bool x)) g (l.set i x) := by
  refine ⟨?_, by simpa using h.2⟩
  rw [Go.Joins.block_setCell h.1 (.bool x)]
  congr 2
  rw [List.map_set, List.setIfInBounds_toArray]
theorem infoSt : (Tryz.prog.info? TSt).map (fun i => (i.zero, i.size, i.bytes)) = some (some (.agg #[.int .i64 0, .slice none 0 0, .slice none 0 0, .int .i64 0, .int .i64 0, .int .i64 0, .slice none 0 0, .int .i64 0, .int .i64 0]), 9, 120) := by kernel_rfl
/-- A step as its cells: kind and the literals' slice. -/
structure StR where
  k : Int
  o : Option Addr
  n : Nat
  c : Nat
def stL (x : StR) : List Value := [.int .i64 x.k, .slice x.o x.n x.c, .slice none 0 0, .int .i64 0, .int .i64 0, .int .i64 0, .slice none 0 0, .int .i64 0, .int .i64 0]
theorem stL_len (x : StR) : (stL x).length = 9 := rfl
theorem stL_one (x : StR) : ∀ u ∈ stL x, u.oneCell' = true := by
  intro u hu; simp [stL] at hu; rcases hu with rfl | rfl | rfl | rfl | rfl | rfl | rfl | rfl | rfl <;> rfl
theorem app_step {w : World} {base : Nat} {v : Value} {l : List StR} (hown : OwnG TSt 9 stL w base v l) {b : Nat} {x : StR} (hbk : Blk w b (stC x.k x.o x.n x.c)) (hl : l.length ≤ 100000) (hbase : base ≤ w.heap.size) :
    ∃ v' w', (Builtin.append_ #[47, 47] 47 #[v, .slice (some ⟨b, 0, none⟩) 1 1]).run Tryz.prog w = .ok v' w' ∧ OwnG TSt 9 stL w' base v' (l ++ [x]) ∧ w.grownBy w' v.ownBlock ∧ (v'.ownBlock = v.ownBlock ∨ v'.ownBlock = some w.heap.size) := by
  obtain ⟨i, hi, hz, hs, hb⟩ := info_parts infoSt
  exact OwnG.app (T := TSt) (K := 9) (c := stL) stL_len Tryz.underlying47 hi hz hs hb rfl (by omega) hown hbk (stL_one x) (by unfold maxLen; omega) (by omega) hbase
/-- Steps of one's own. -/
def StepsT (w : World) (base : Nat) (v : Value) (l : List Sv.Stp) : Prop := ∃ rs : List StR, rs.length = l.length ∧ OwnG TSt 9 stL w base v rs ∧ ∀ (i : Nat) (r : StR) (x : Sv.Stp), rs[i]? = some r → l[i]? = some x → r.k = x.kind ∧ r.n = x.lits.length ∧ IntsT w (.slice r.o r.n r.c) x.lits
theorem StepsT.nil (w : World) (base : Nat) : StepsT w base (.slice none 0 0) [] := ⟨[], rfl, OwnG.nil _ _, fun i r x h => by simp at h⟩
theorem StepsT.fr {w w' : World} {base : Nat} {v : Value} {l : List Sv.Stp} (h : StepsT w base v l) (k : FrI w w') (hb : ∀ j, v.ownBlock = some j → w'.heap[j]? = w.heap[j]?) : StepsT w' base v l := by
  obtain ⟨rs, h1, h2, h3⟩ := h
  refine ⟨rs, h1, own_same h2 hb, fun i r x hr hx => ?_⟩
  obtain ⟨a, b, c⟩ := h3 i r x hr hx
  exact ⟨a, b, c.fr k⟩
theorem StepsT.lt {w : World} {base : Nat} {v : Value} {l : List Sv.Stp} (h : StepsT w base v l) : ∀ j, v.ownBlock = some j → base ≤ j ∧ j < w.heap.size := by
  obtain ⟨rs, h1, h2, h3⟩ := h
  exact fun j hj => ⟨OwnG.block h2 j hj, OwnG.lt h2 j hj⟩
theorem StepsT.mono {w : World} {base base' : Nat} {v : Value} {l : List Sv.Stp} (h : StepsT w base v l) (hb : base' ≤ base) : StepsT w base' v l := by
  obtain ⟨rs, h1, h2, h3⟩ := h
  exact ⟨rs, h1, World.ownsRow_mono h2 hb, h3⟩
theorem StepsT.ty {w : World} {base : Nat} {v : Value} {l : List Sv.Stp} (h : StepsT w base v l) : ∀ j, v.ownBlock = some j → ∃ A, w.heap[j]? = some (.cells A TSt (0, 0)) := by
  obtain ⟨rs, h1, h2, h3⟩ := h
  exact fun j hj => own_atT h2 hj
theorem StepsT.keep {w w' : World} {base : Nat} {v : Value} {l : List Sv.Stp} (h : StepsT w base v l) (k : Keep NoS w w') : StepsT w' base v l := h.fr (.of k) fun j hj => k.block j (h.lt j hj).2 fun _ h => h
theorem StepsT.form {w : World} {base : Nat} {v : Value} {l : List Sv.Stp} (h : StepsT w base v l) : ∃ o c, v = .slice o l.length c ∧ l.length ≤ c ∧ c ≤ maxLen := by
  obtain ⟨rs, h1, h2, h3⟩ := h
  obtain ⟨o, c, e, a, b⟩ := OwnG.len h2
  rw [h1] at e a
  exact ⟨o, c, e, a, b⟩
theorem StepsT.steps {w : World} {base : Nat} {v : Value} {l : List Sv.Stp} (h : StepsT w base v l) : IsSteps w v l := by
  obtain ⟨o, c, e, a, b⟩ := h.form
  obtain ⟨rs, h1, h2, h3⟩ := h
  refine ⟨o, c, e, a, b, fun hne => ?_⟩
  obtain ⟨g, cap', e', hb, hl, hc⟩ := OwnG.cells stL_len h2 (by intro h; subst h; cases l <;> simp_all)
  rw [e] at e'
  injection e' with q1 q2 q3
  refine ⟨g, 0, q1, hl, fun i x hi => ?_⟩
  have hi' : i < rs.length := by rw [h1]; exact (List.getElem?_eq_some_iff.1 hi).1
  have hx := List.getElem?_eq_getElem hi'
  obtain ⟨p, q, r⟩ := h3 i _ x hx hi
  obtain ⟨o', c', e1, e2, e3⟩ := r.form
  injection e1 with q1 q2 q3
  refine ⟨rs[i].o, rs[i].c, by rw [← q]; exact r.1, by rw [q3]; exact e2, by rw [q3]; exact e3, fun j u hj => ?_⟩
  have := hc i _ hx j u (by
    unfold stL
    rw [p, q]
    simpa [stC] using hj)
  simpa using this
theorem StepsT.app {w : World} {base : Nat} {v : Value} {l : List Sv.Stp} (h : StepsT w base v l) {b : Nat} {x : Sv.Stp} {o : Option Addr} {n c : Nat} (hbk : Blk w b (stC x.kind o n c)) (hx : IntsT w (.slice o n c) x.lits) (hl : l.length ≤ 100000) (hbase : base ≤ w.heap.size) :
    ∃ v' w', (Builtin.append_ #[47, 47] 47 #[v, .slice (some ⟨b, 0, none⟩) 1 1]).run Tryz.prog w = .ok v' w' ∧ StepsT w' base v' (l ++ [x]) ∧ w.grownBy w' v.ownBlock ∧ (v'.ownBlock = v.ownBlock ∨ v'.ownBlock = some w.heap.size) ∧ FrI w w' := by
  have hty := h.ty
  obtain ⟨rs, h1, h2, h3⟩ := h
  obtain ⟨v', w', hr, ho, hg, hv⟩ := app_step h2 (x := ⟨x.kind, o, n, c⟩) hbk (by omega) hbase
  have hf : FrI w w' := FrI.grown hg fun k hk => by
    obtain ⟨A, hA⟩ := hty k hk
    exact ⟨A, _, hA, by decide, by decide⟩
  refine ⟨v', w', hr, ⟨rs ++ [⟨x.kind, o, n, c⟩], by simp [h1], ho, fun i r y hr hy => ?_⟩, hg, hv, hf⟩
  by_cases hi : i < rs.length
  · rw [List.getElem?_append_left hi] at hr
    rw [List.getElem?_append_left (by omega)] at hy
    obtain ⟨p, q, s⟩ := h3 i r y hr hy
    exact ⟨p, q, s.fr hf⟩
  · have hj2 : i = rs.length := by
      have := (List.getElem?_eq_some_iff.1 hr).1
      simp at this
      omega
    subst hj2
    rw [List.getElem?_append_right (Nat.le_refl _)] at hr
    rw [h1, List.getElem?_append_right (Nat.le_refl _)] at hy
    simp at hr hy
    subst hr
    subst hy
    obtain ⟨o', c', e, _⟩ := hx.form
    injection e with q1 q2 q3
    exact ⟨rfl, q2, hx.fr hf⟩
/-- Clauses of one's own, the clauses themselves of whatever place. -/
def ClsT (w : World) (base : Nat) (v : Value) (l : List (List Int)) : Prop := ∃ vs : List Value, vs.length = l.length ∧ OwnG TLi 1 vC w base v vs ∧ ∀ (i : Nat) (x : Value) (c : List Int), vs[i]? = some x → l[i]? = some c → IntsT w x c
theorem ClsT.nil (w : World) (base : Nat) : ClsT w base (.slice none 0 0) [] := ⟨[], rfl, OwnG.nil _ _, fun i r x h => by simp at h⟩
theorem ClsT.fr {w w' : World} {base : Nat} {v : Value} {l : List (List Int)} (h : ClsT w base v l) (k : FrI w w') (hb : ∀ j, v.ownBlock = some j → w'.heap[j]? = w.heap[j]?) : ClsT w' base v l := by
  obtain ⟨rs, h1, h2, h3⟩ := h
  exact ⟨rs, h1, own_same h2 hb, fun i r x hr hx => (h3 i r x hr hx).fr k⟩
theorem ClsT.lt {w : World} {base : Nat} {v : Value} {l : List (List Int)} (h : ClsT w base v l) : ∀ j, v.ownBlock = some j → base ≤ j ∧ j < w.heap.size := by
  obtain ⟨rs, h1, h2, h3⟩ := h
  exact fun j hj => ⟨OwnG.block h2 j hj, OwnG.lt h2 j hj⟩
theorem ClsT.ty {w : World} {base : Nat} {v : Value} {l : List (List Int)} (h : ClsT w base v l) : ∀ j, v.ownBlock = some j → ∃ A, w.heap[j]? = some (.cells A TLi (0, 0)) := by
  obtain ⟨rs, h1, h2, h3⟩ := h
  exact fun j hj => own_atT h2 hj
theorem ClsT.keep {w w' : World} {base : Nat} {v : Value} {l : List (List Int)} (h : ClsT w base v l) (k : Keep NoS w w') : ClsT w' base v l := h.fr (.of k) fun j hj => k.block j (h.lt j hj).2 fun _ h => h
theorem ClsT.form {w : World} {base : Nat} {v : Value} {l : List (List Int)} (h : ClsT w base v l) : ∃ o c, v = .slice o l.length c ∧ l.length ≤ c ∧ c ≤ maxLen := by
  obtain ⟨rs, h1, h2, h3⟩ := h
  obtain ⟨o, c, e, a, b⟩ := OwnG.len h2
  rw [h1] at e a
  exact ⟨o, c, e, a, b⟩
theorem ClsT.cls {w : World} {base : Nat} {v : Value} {l : List (List Int)} (h : ClsT w base v l) : IsCls w v l := by
  obtain ⟨oa, cap, e, a, b⟩ := h.form
  obtain ⟨vs, h1, h2, h3⟩ := h
  refine ⟨oa, cap, e, a, b, fun hne => ?_⟩
  obtain ⟨g, cap', e', hb, hl, hc⟩ := OwnG.cells vC_len h2 (by intro h; subst h; cases l <;> simp_all)
  rw [e] at e'
  injection e' with q1 q2 q3
  refine ⟨g, 0, q1, hl, fun i c hi => ?_⟩
  have hi' : i < vs.length := by rw [h1]; exact (List.getElem?_eq_some_iff.1 hi).1
  have hx := List.getElem?_eq_getElem hi'
  have p := h3 i _ c hx hi
  refine ⟨vs[i], ?_, p.1, p.2.1⟩
  have := hc i _ hx 0 _ rfl
  simpa using this
theorem ClsT.app {w : World} {base : Nat} {v : Value} {l : List (List Int)} (h : ClsT w base v l) {b : Nat} {x : Value} {c : List Int} (hbk : Blk w b #[x]) (hx : IntsT w x c) (hl : l.length ≤ 100000) (hbase : base ≤ w.heap.size) :
    ∃ v' w', (Builtin.append_ #[26, 26] 26 #[v, .slice (some ⟨b, 0, none⟩) 1 1]).run Tryz.prog w = .ok v' w' ∧ ClsT w' base v' (l ++ [c]) ∧ w.grownBy w' v.ownBlock ∧ (v'.ownBlock = v.ownBlock ∨ v'.ownBlock = some w.heap.size) ∧ FrI w w' := by
  have hty := h.ty
  obtain ⟨i, hi, hz, hs', hb⟩ := info_parts infoLi
  obtain ⟨vs, h1, h2, h3⟩ := h
  have h1c : ∀ u ∈ vC x, u.oneCell' = true := by
    intro u hu
    obtain ⟨o, n, cc, rfl, _⟩ := hx.2.1
    simp [vC] at hu
    subst hu
    rfl
  obtain ⟨v', w', hr, ho, hg, hv⟩ := OwnG.app (T := TLi) (K := 1) (c := vC) vC_len Tryz.underlying26 hi hz hs' hb rfl (by omega) h2 (x := x) hbk h1c (by unfold maxLen; omega) (by omega) hbase
  have hf : FrI w w' := FrI.grown hg fun k hk => by
    obtain ⟨A, hA⟩ := hty k hk
    exact ⟨A, _, hA, by decide, by decide⟩
  refine ⟨v', w', hr, ⟨vs ++ [x], by simp [h1], ho, fun j y d hy hd => ?_⟩, hg, hv, hf⟩
  by_cases hj : j < vs.length
  · rw [List.getElem?_append_left hj] at hy
    rw [List.getElem?_append_left (by omega)] at hd
    exact (h3 j y d hy hd).fr hf
  · have hj2 : j = vs.length := by
      have := (List.getElem?_eq_some_iff.1 hy).1
      simp at this
      omega
    subst hj2
    rw [List.getElem?_append_right (Nat.le_refl _)] at hy
    rw [h1, List.getElem?_append_right (Nat.le_refl _)] at hd
    simp at hy hd
    subst hy
    subst hd
    exact hx.fr hf
end Go.Proofs.YtnndmdfjdodiiaaGreat
