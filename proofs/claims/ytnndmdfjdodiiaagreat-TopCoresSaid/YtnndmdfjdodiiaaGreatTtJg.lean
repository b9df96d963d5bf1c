/- Package judge: the clauses copied. -/
import Derived.Test.YtnndmdfjdodiiaaGreatTtJf
namespace Go.Proofs.YtnndmdfjdodiiaaGreat
open Go.ChangeShapes Go.WideShapes Go.RowKit Go.Maps
set_option linter.unusedVariables false
set_option linter.unusedSimpArgs false

set_option maxRecDepth 100000 in
theorem nil_eqL (w : World) (n c : Nat) : Sem.run Tryz.prog (binOp BinOp.eql 26 (Value.slice none n c) (Value.slice none 0 0)) w = .ok (.bool true) w := rfl
set_option maxRecDepth 100000 in
theorem some_eqL (w : World) (a : Addr) (n c : Nat) : Sem.run Tryz.prog (binOp BinOp.eql 26 (Value.slice (some a) n c) (Value.slice none 0 0)) w = .ok (.bool false) w := rfl
theorem own_noneT {w : World} {base : Nat} {e : TypeId} {size : Nat} (hb : base ≤ w.heap.size) : (w.alloc (.cells #[] e)).ownsRow base e size (.slice (some ⟨w.heap.size, 0, none⟩) 0 0) 0 [] := ⟨by simp, .inr ⟨w.heap.size, 0, #[], rfl, hb, heap_alloc_at _ _ _ rfl, Nat.le_refl _, by unfold maxLen; omega, by simp, by simp⟩⟩
/-- The slices of clauses. -/
theorem cls_vals {w : World} {oc : Option Addr} {n cc : Nat} {cls : List (List Int)} (h : IsCls w (.slice oc n cc) cls) : ∃ vs : List Value, vs.length = cls.length ∧ (∀ (i : Nat) (x : Value) (c : List Int), vs[i]? = some x → cls[i]? = some c → IsInts w x c ∧ CapS x) ∧ (cls ≠ [] → ∃ b o, oc = some ⟨b, o, none⟩ ∧ b < w.heap.size ∧ ∀ i x, vs[i]? = some x → w.cell? ⟨b, o + i, none⟩ = some x) := by
  by_cases hne : cls = []
  · subst hne
    exact ⟨[], rfl, fun i x c hx => by simp at hx, fun h => absurd rfl h⟩
  · obtain ⟨oa, cap, hv, _, _, h4⟩ := h
    injection hv with q1 q2 q3
    subst q1
    obtain ⟨b, o, e, hb, hc⟩ := h4 hne
    refine ⟨(List.range cls.length).map fun i => (w.cell? ⟨b, o + i, none⟩).getD (.bool false), by simp, fun i x c hx hi => ?_, fun _ => ⟨b, o, e, hb, fun i x hx => ?_⟩⟩
    · obtain ⟨sv, h1, h2, h3⟩ := hc i c hi
      have hl := (List.getElem?_eq_some_iff.1 hi).1
      rw [List.getElem?_map, List.getElem?_range hl] at hx
      simp [h1] at hx
      subst hx
      exact ⟨h2, h3⟩
    · have hl : i < cls.length := by simpa using (List.getElem?_eq_some_iff.1 hx).1
      obtain ⟨sv, h1, h2, h3⟩ := hc i _ (List.getElem?_eq_getElem hl)
      rw [List.getElem?_map, List.getElem?_range hl] at hx
      simp [h1] at hx
      subst hx
      exact h1
theorem flat_one (vs : List Value) : vs.flatMap vC = vs := by
  induction vs with
  | nil => rfl
  | cons v l ih => rw [List.flatMap_cons, ih]; rfl
set_option maxRecDepth 100000 in
set_option maxHeartbeats 4000000 in
theorem jclone_any (w0 w : World) (oc : Option Addr) (cc : Nat) (cls : List (List Int)) (h : IsCls w0 (.slice oc cls.length cc) cls) (k : Keep NoS w0 w) (hl : cls.length ≤ 100000) :
    Calls Tryz.prog 59 #[.slice oc cls.length cc] w fun e w' => ∃ o c, e = .returned (.slice o cls.length c) ∧ OwnCls w0 w' (.slice o cls.length c) cls ∧ Keep NoS w w' := by
  obtain ⟨vs, h1, h2, h3⟩ := cls_vals h
  rcases oc with _ | a
  · have hnil := fun w => nil_eqL w cls.length cc
    have hl0 : cls = [] := by
      refine Classical.byContradiction fun hne => ?_
      obtain ⟨b, o, e, _⟩ := h3 hne
      cases e
    have hO : Hid (OwnCls w0 w (.slice none cls.length 0) cls) := Lib.hid (by subst hl0; exact ⟨[], rfl, OwnG.nil _ _, fun i x c hx => by simp at hx⟩)
    have hlz : cls.length = 0 := by rw [hl0]; rfl
    rw [hlz] at hO hnil ⊢
    clear h h1 h2 h3 hlz hl0 k
    go_enter Tryz.func59, Tryz.ntmps59
    go_wp2
    refine bodyPost_ret (by simp [results, Tryz.results59, go_sem]; rfl) rfl ?_
    exact ⟨_, _, rfl, hO.out, by (repeat' (with_reducible first | assumption | exact HK.out | exact keR | refine keA ?_ | refine keS ?_ fun h => absurd h (by omega) | refine keN ?_ | refine keD ?_))⟩
  · have hnil := fun w => some_eqL w a cls.length cc
    have k1 : Keep NoS w (w.alloc (.cells #[] TLi)) := (Keep.refl _ _).alloc _
    obtain ⟨i, hi, hz, hs, hb⟩ := info_parts infoLi
    have hon : ∀ u ∈ vs, u.oneCell' = true := by
      intro u hu
      obtain ⟨j, hj, rfl⟩ := List.getElem_of_mem hu
      obtain ⟨_, o, n, c, hq, _⟩ := h2 j _ (cls[j]'(by omega)) (List.getElem?_eq_getElem hj) (List.getElem?_eq_getElem (by omega))
      rw [hq]; rfl
    have hcell : ∀ j u, vs[j]? = some u → (w.alloc (.cells #[] TLi)).cell? (a.add j) = some u := by
      intro j u hj
      have hne : cls ≠ [] := by rintro rfl; have := (List.getElem?_eq_some_iff.1 hj).1; simp at h1; simp [h1] at this
      obtain ⟨b, o, e, hbl, hc⟩ := h3 hne
      cases e
      rw [add_plain]; exact ((k.both k1).cell hbl).trans (hc j u hj)
    obtain ⟨v2, w2, hr2, ho2, hg2, _, hv2⟩ := run_append_own_at (P := Tryz.prog) (w.alloc (.cells #[] TLi)) w0.heap.size 26 26 TLi i (.slice none 0 0) 1 24 Tryz.underlying26 hi hz hs hb rfl (by omega) (.slice (some ⟨w.heap.size, 0, none⟩) 0 0) 0 [] (own_noneT k.size) a cls.length cc vs (by rw [h1, Nat.mul_one]) hcell hon (by unfold maxLen; omega) (by omega) (k.both k1).size
    have K2 := Lib.hid (k1.grown hg2 fun q hq => by cases hq; exact Nat.le_refl _)
    have HO : Hid (OwnCls w0 w2 v2 cls) := Lib.hid ⟨vs, h1, by unfold OwnG; rw [flat_one, h1]; simpa using ho2, h2⟩
    obtain ⟨o2, c2, hq, _⟩ := HO.out.len
    subst hq
    clear h h1 h2 h3 ho2 hg2 k1 hv2 hcell hon k hi hz hs hb
    go_enter Tryz.func59, Tryz.ntmps59
    go_wp2_with (at_builtin; refine wpList_app_run _ _ 26 _ _ rfl rfl rfl rfl hr2 ?_)
    refine bodyPost_ret (by simp [results, Tryz.results59, go_sem]; rfl) rfl ?_
    exact ⟨_, _, rfl, HO.out, K2.out⟩
end Go.Proofs.YtnndmdfjdodiiaaGreat
