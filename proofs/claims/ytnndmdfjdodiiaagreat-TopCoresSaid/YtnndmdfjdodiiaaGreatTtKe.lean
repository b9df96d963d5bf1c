/- Package cdcl: Do where all is forced. -/
import Derived.Test.YtnndmdfjdodiiaaGreatTtKd
import Derived.Test.YtnndmdfjdodiiaaGreatTtPP
namespace Go.Proofs.YtnndmdfjdodiiaaGreat
open Go.ChangeShapes Go.WideShapes Go.RowKit Go.Maps
set_option linter.unusedVariables false
set_option linter.unusedSimpArgs false

abbrev TAn : TypeId := 97
abbrev TCn : TypeId := 62
def ansV (st : Int) (h s : Value) (u : Int) : Value := .agg #[.int .i64 st, h, s, .slice none 0 0, .int .i64 u]
def fa0 : Value := .agg #[.int .i64 0, .int .i64 0]
/-- The answer of a search. -/
def AnsP (vars : Nat) (a : Cd.Ans) (w : World) (e : Ending) (w' : World) : Prop := Keep NoS w w' ∧ match a with
  | .yes T u => ∃ g, w.heap.size ≤ g ∧ e = .returned (.tuple #[ansV 1 (.slice (some ⟨g, 0, none⟩) vars vars) (.slice none 0 0) u, fa0]) ∧ BoolsT w' g (Sv.holdsT vars T)
  | .no st u => ∃ o c, e = .returned (.tuple #[ansV 2 (.slice none 0 0) (.slice o st.length c) u, fa0]) ∧ StepsT w' w.heap.size (.slice o st.length c) (st.map fun c => ⟨1, c⟩)
  | .hungry u => e = .returned (.tuple #[ansV 3 (.slice none 0 0) (.slice none 0 0) u, fa0])
/-- A block of a type. -/
def TyB (w : World) (b : Nat) (t : TypeId) : Prop := ∃ A, w.heap[b]? = some (.cells A t (0, 0))
theorem TyB.keep {w w' : World} {b : Nat} {t : TypeId} (h : TyB w b t) (k : Keep NoS w w') : TyB w' b t := by
  obtain ⟨A, h⟩ := h
  exact ⟨A, (k.block b (lt_of_heap h) fun _ h => h).trans h⟩
theorem TyB.set {w : World} {b : Nat} {t : TypeId} (h : TyB w b t) (i : Nat) (v : Value) : TyB (w.setCell ⟨b, i, none⟩ v) b t := by
  obtain ⟨A, h⟩ := h
  exact ⟨_, Go.Joins.block_setCell h v⟩
theorem TyB.other {w : World} {b : Nat} {t : TypeId} (h : TyB w b t) {c : Nat} (hne : b ≠ c) (i : Nat) (v : Value) : TyB (w.setCell ⟨c, i, none⟩ v) b t := by
  obtain ⟨A, h⟩ := h
  exact ⟨A, (heap_setCell_other w ⟨c, i, none⟩ v b hne).trans h⟩
/-- What a store into a typed block leaves. -/
structure OneB (w w' : World) (b : Nat) (t : TypeId) : Prop where
  fr : FrI w w'
  ty : TyB w' b t
  other : ∀ k, k ≠ b → w'.heap[k]? = w.heap[k]?
theorem OneB.refl {w : World} {b : Nat} {t : TypeId} (h : TyB w b t) : OneB w w b t := ⟨FrI.refl _, h, fun _ _ => rfl⟩
theorem OneB.set {w w' : World} {b : Nat} {t : TypeId} (h : OneB w w' b t) (ht : t ≠ TI ∧ t ≠ TBo) (i : Nat) (v : Value) : OneB w (w'.setCell ⟨b, i, none⟩ v) b t := by
  obtain ⟨A, hA⟩ := h.ty
  exact ⟨h.fr.trans (FrI.set hA ht), h.ty.set i v, fun k hk => (heap_setCell_other w' ⟨b, i, none⟩ v k hk).trans (h.other k hk)⟩
theorem set2_B {w : World} {b : Nat} {t : TypeId} (h : TyB w b t) (ht : t ≠ TI ∧ t ≠ TBo) (a0 a1 : Value) : OneB w ((w.setCell ⟨b, 0, none⟩ a0).setCell ⟨b, 1, none⟩ a1) b t := ((OneB.refl h).set ht 0 a0).set ht 1 a1
theorem set5_B {w : World} {b : Nat} {t : TypeId} (h : TyB w b t) (ht : t ≠ TI ∧ t ≠ TBo) (a0 a1 a2 a3 a4 : Value) : OneB w (((((w.setCell ⟨b, 0, none⟩ a0).setCell ⟨b, 1, none⟩ a1).setCell ⟨b, 2, none⟩ a2).setCell ⟨b, 3, none⟩ a3).setCell ⟨b, 4, none⟩ a4) b t := (((((OneB.refl h).set ht 0 a0).set ht 1 a1).set ht 2 a2).set ht 3 a3).set ht 4 a4
theorem OneB.steps {w w' : World} {b : Nat} {t : TypeId} (h : OneB w w' b t) {base : Nat} {v : Value} {l : List Sv.Stp} (hs : StepsT w base v l) (hb : ∀ j, v.ownBlock = some j → j ≠ b) : StepsT w' base v l := hs.fr h.fr fun j hj => h.other j (hb j hj)
theorem keep2 {w0 w : World} (h : Keep NoS w0 w) {b : Nat} (hb : w0.heap.size ≤ b) (a0 a1 : Value) : Keep NoS w0 ((w.setCell ⟨b, 0, none⟩ a0).setCell ⟨b, 1, none⟩ a1) := keep_at (keep_at h _ hb) _ hb
theorem keep5 {w0 w : World} (h : Keep NoS w0 w) {b : Nat} (hb : w0.heap.size ≤ b) (a0 a1 a2 a3 a4 : Value) : Keep NoS w0 (((((w.setCell ⟨b, 0, none⟩ a0).setCell ⟨b, 1, none⟩ a1).setCell ⟨b, 2, none⟩ a2).setCell ⟨b, 3, none⟩ a3).setCell ⟨b, 4, none⟩ a4) := keep_at (keep_at (keep_at (keep_at (keep_at h _ hb) _ hb) _ hb) _ hb) _ hb
theorem infoBo : (Tryz.prog.info? TBo).map (fun i => (i.zero, i.size, i.bytes)) = some (some (.bool false), 1, 1) := by kernel_rfl
theorem made_boolsT (n : Nat) : (madeCells (Value.bool false).cells (n * 1)).toList = List.replicate n (Value.bool false) := by
  apply List.ext_getElem?
  intro i
  by_cases hi : i < n
  · have hm : i % 1 = 0 := Nat.mod_one i
    simp [madeCells, Value.cells, hi, hm]
  · rw [List.getElem?_eq_none (by simp [madeCells]; omega), List.getElem?_eq_none (by simp; omega)]
theorem make_boolsT (w : World) (n : Nat) (hn : n ≤ 1000000) : ∃ w', (Instr.makeSlice 24 (.int .i64 (n : Int)) (.int .i64 (n : Int))).run Tryz.prog w = .ok (.slice (some ⟨w.heap.size, 0, none⟩) n n) w' ∧ BoolsT w' w.heap.size (List.replicate n false) ∧ Keep NoS w w' := by
  obtain ⟨i0, hi0, hz0, hz1, hz2⟩ := info_parts infoBo
  obtain ⟨w', hr, ho, hg⟩ := run_make_full (P := Tryz.prog) w w.heap.size 24 TBo i0 (.bool false) 1 Tryz.underlying24 hi0 hz0 hz1 .i64 .i64 n (by rw [hz2]; omega) (by unfold maxLen; omega) (Nat.le_refl _)
  refine ⟨w', hr, ⟨?_, by unfold maxLen; simp; omega⟩, Keep.of_below (grown_keep hg w.heap.size (Nat.le_refl _) (by simp)) (Nat.le_refl _)⟩
  rw [List.map_replicate, ← made_boolsT]
  obtain ⟨hl, h | ⟨g, cap, cur, hv, hb, hgg, hl', hm, hs, ht⟩⟩ := ho
  · cases h.1
  · cases hv
    have e2 : cur.toList.take (n * 1) = cur.toList := List.take_of_length_le (by rw [Array.length_toList, hs]; omega)
    rw [hgg, ← ht, e2, Array.toArray_toList]
theorem holdsT_nil (vars : Nat) : Sv.holdsT vars [] = List.replicate vars false := by
  unfold Sv.holdsT
  apply List.ext_getElem
  · simp
  · intro i h1 h2; simp
theorem holdsT_step {vars : Nat} {T : List Int} (hg : Cd.GoodT vars T) {k : Nat} (hk : k < T.length) : Sv.holdsT vars (T.take (k + 1)) = (Sv.holdsT vars (T.take k)).set (T[k].natAbs - 1) (decide (0 < T[k])) := by
  have h0 := hg.2 _ (List.getElem_mem hk)
  have hm : ∀ x, x ∈ T.take (k + 1) ↔ x ∈ T.take k ∨ x = T[k] := fun x => by rw [List.take_succ_eq_append_getElem hk]; simp only [List.mem_append, List.mem_singleton]
  unfold Sv.holdsT
  apply List.ext_getElem
  · simp
  · intro i h1 h2
    rw [List.getElem_set]
    simp only [List.getElem_map, List.getElem_range]
    split
    · rename_i e
      by_cases hp : 0 < T[k]
      · rw [decide_eq_true hp]
        exact decide_eq_true ((hm _).2 (.inr (by omega)))
      · rw [decide_eq_false hp]
        refine decide_eq_false fun q => ?_
        have q1 : ((i + 1 : Nat) : Int) = -T[k] := by omega
        rw [q1] at q
        exact hg.cons (List.getElem_mem hk) (List.mem_of_mem_take q)
    · rename_i e
      refine decide_eq_decide.2 ⟨fun q => ((hm _).1 q).resolve_right fun q1 => e (by omega), fun q => (hm _).2 (.inl q)⟩
end Go.Proofs.YtnndmdfjdodiiaaGreat
