/- Lists of lists of fractions of the call's own, and the line that is being made. -/
import Derived.Test.YtamjmcdlddocgaaGreatOwnG
namespace Go.Proofs.YtamjmcdlddocgaaGreat
open Go.ChangeShapes Go.WideShapes Go.RowKit
set_option linter.unusedVariables false
set_option linter.unusedSimpArgs false
structure LnV where
 sv : Value
 L : List Fq
def lnC (x : LnV) : List Value := [x.sv]
theorem lnC_len (x : LnV) : (lnC x).length = 1 := rfl
def OwnTL (w : World) (base : Nat) (v : Value) (ls : List (List Fq)) (u : Value) (L : List Fq) : Prop :=
 ∃ xs : List LnV, xs.map LnV.L = ls ∧ (∀ x ∈ xs, OwnF w base x.sv x.L ∧ Apart x.sv v ∧ Apart u x.sv) ∧ OwnG TLF 1 lnC w base v xs ∧ Apart u v ∧ OwnF w base u L
theorem OwnTL.nil (w : World) (base : Nat) : OwnTL w base (.slice none 0 0) [] (.slice none 0 0) [] := ⟨[], rfl, by simp, OwnG.nil _ _, apart_nil _, OwnG.nil _ _⟩
theorem OwnTL.keep {w w' : World} {base : Nat} {v u : Value} {ls : List (List Fq)} {L : List Fq} (h : OwnTL w base v ls u L) (k : Keep NoS w w') : OwnTL w' base v ls u L := by
 obtain ⟨xs, h1, h2, h3, h4, h5⟩ := h
 exact ⟨xs, h1, fun x hx => ⟨(h2 x hx).1.keep k, (h2 x hx).2⟩, h3.keep k, h4, h5.keep k⟩
theorem OwnTL.fresh {w : World} {base : Nat} {v u : Value} {ls : List (List Fq)} {L : List Fq} (h : OwnTL w base v ls u L) : OwnTL w base v ls (.slice none 0 0) [] := by
 obtain ⟨xs, h1, h2, h3, h4, h5⟩ := h
 exact ⟨xs, h1, fun x hx => ⟨(h2 x hx).1, (h2 x hx).2.1, apart_nil _⟩, h3, apart_nil _, OwnG.nil _ _⟩
theorem OwnTL.lenT {w : World} {base : Nat} {v u : Value} {ls : List (List Fq)} {L : List Fq} (h : OwnTL w base v ls u L) : ∃ oa cap, v = .slice oa ls.length cap ∧ ls.length ≤ cap ∧ cap ≤ maxLen := by
 obtain ⟨xs, rfl, _, h3, _⟩ := h
 rw [List.length_map]
 exact h3.len
theorem OwnTL.lenL {w : World} {base : Nat} {v u : Value} {ls : List (List Fq)} {L : List Fq} (h : OwnTL w base v ls u L) : ∃ oa cap, u = .slice oa L.length cap ∧ L.length ≤ cap ∧ cap ≤ maxLen := by
 obtain ⟨xs, _, _, _, _, h5⟩ := h
 exact h5.len
theorem OwnTL.blockL {w : World} {base : Nat} {v u : Value} {ls : List (List Fq)} {L : List Fq} (h : OwnTL w base v ls u L) : ∀ k, u.ownBlock = some k → base ≤ k := by
 obtain ⟨xs, _, _, _, _, h5⟩ := h
 exact h5.block
theorem OwnTL.blockT {w : World} {base : Nat} {v u : Value} {ls : List (List Fq)} {L : List Fq} (h : OwnTL w base v ls u L) : ∀ k, v.ownBlock = some k → base ≤ k := by
 obtain ⟨xs, _, _, h3, _, _⟩ := h
 exact h3.block
theorem OwnTL.push {w : World} {base : Nat} {v u : Value} {ls : List (List Fq)} {L : List Fq} (h : OwnTL w base v ls u L) {b : Nat} {g : Fq} (hb : Blk w b #[.int .i64 g.N, .int .i64 g.D]) (hl : (L.length + 1) * 16 ≤ 140737488355328) (hbase : base ≤ w.heap.size) :
  ∃ u' w', (Builtin.append_ #[23, 23] 23 #[u, .slice (some ⟨b, 0, none⟩) 1 1]).run Tryz.prog w = .ok u' w' ∧ OwnTL w' base v ls u' (L ++ [g]) ∧ w.grownBy w' u.ownBlock := by
 obtain ⟨xs, h1, h2, h3, h4, h5⟩ := h
 obtain ⟨u', w', hr, ho, hg, hu⟩ := app_frac (g := g) h5 hb hl hbase
 refine ⟨u', w', hr, ⟨xs, h1, fun x hx => ?_, h3.grown0 hg h4.symm.row, (h4.symm.step h3.lt hu).symm, ho⟩, hg⟩
 obtain ⟨a1, a2, a3⟩ := h2 x hx
 exact ⟨a1.grown0 hg a3.symm.row, a2, (a3.symm.step a1.lt hu).symm⟩
theorem OwnTL.line {w : World} {base : Nat} {v u : Value} {ls : List (List Fq)} {L : List Fq} (h : OwnTL w base v ls u L) {b : Nat} (hb : Blk w b #[u]) (hl : (ls.length + 1) * 24 ≤ 140737488355328) (hbase : base ≤ w.heap.size) :
  ∃ v' w', (Builtin.append_ #[22, 22] 22 #[v, .slice (some ⟨b, 0, none⟩) 1 1]).run Tryz.prog w = .ok v' w' ∧ OwnTL w' base v' (ls ++ [L]) (.slice none 0 0) [] ∧ w.grownBy w' v.ownBlock := by
 obtain ⟨i0, hi0, hz0, hz1, hz2⟩ := info_parts infoLF
 obtain ⟨xs, rfl, h2, h3, h4, h5⟩ := h
 rw [List.length_map] at hl
 obtain ⟨ou, cu, hu, _⟩ := h5.len
 obtain ⟨v', w', hr, ho, hg, hv⟩ := OwnG.app lnC_len Tryz.underlying22 hi0 hz0 hz1 hz2 rfl (by decide) h3 (x := ⟨u, L⟩) hb (by
  intro y hy
  simp [lnC] at hy
  subst hy
  rw [hu]; rfl) (by unfold maxLen; omega) hl hbase
 refine ⟨v', w', hr, ⟨xs ++ [⟨u, L⟩], by simp, fun x hx => ?_, ho, apart_nil _, OwnG.nil _ _⟩, hg⟩
 rcases List.mem_append.1 hx with hx | hx
 ·obtain ⟨a1, a2, a3⟩ := h2 x hx
  exact ⟨a1.grown0 hg a2.row, a2.step a1.lt hv, apart_nil _⟩
 ·rw [List.mem_singleton] at hx
  subst hx
  exact ⟨h5.grown0 hg h4.row, h4.step h5.lt hv, apart_nil _⟩
theorem OwnTL.tab {w : World} {base : Nat} {v u : Value} {ls : List (List Fq)} {L : List Fq} (h : OwnTL w base v ls u L) (hx : ∀ l ∈ ls, ∀ g ∈ l, I64 g.N ∧ I64 g.D) : IsTab w v ls := by
 obtain ⟨xs, rfl, h2, h3, _, _⟩ := h
 obtain ⟨oa, cap, hv, h6, h7⟩ := h3.len
 refine ⟨oa, cap, by rw [List.length_map]; exact hv, by rw [List.length_map]; exact h6, h7, fun hne => ?_⟩
 obtain ⟨g, cap', hv', hb, hlt, hc⟩ := OwnG.cells lnC_len h3 (by rintro rfl; simp at hne)
 rw [hv] at hv'
 cases hv'
 refine ⟨g, 0, rfl, hlt, fun i r hi => ?_⟩
 rw [List.getElem?_map] at hi
 rcases hy : xs[i]? with _ | y
 ·rw [hy] at hi; cases hi
 ·rw [hy] at hi
  simp at hi
  subst hi
  have hm := List.mem_of_getElem? hy
  refine ⟨y.sv, by have := hc i y hy 0 _ rfl; simpa using this, OwnG.fracs (h2 y hm).1 (hx _ (List.mem_map.2 ⟨y, hm, rfl⟩))⟩
end Go.Proofs.YtamjmcdlddocgaaGreat
