/- Package unit: how clauses, a set of literals and a trail lie. -/
import Derived.Test.YtnndmdfjdodiiaaGreatTaAA
import Derived.Test.YtnndmdfjdodiiaaGreatRegVV
import Derived.Test.YtnndmdfjdodiiaaGreatTtPP
import Derived.Maps.OwnSet
import Derived.IntWalk
import Derived.Deep.Cut
import Derived.Deep.DeepCutAuto
import Derived.Deep.LoopGhost
import Derived.BigQuiet
namespace Go.Proofs.YtnndmdfjdodiiaaGreat
open Go.ChangeShapes Go.WideShapes Go.RowKit Go.Maps
set_option linter.unusedVariables false
set_option linter.unusedSimpArgs false

/-- A slice with its capacity. -/
def CapS (v : Value) : Prop := ∃ o n c, v = .slice o n c ∧ n ≤ c ∧ c ≤ maxLen
/-- Lists of literals, as they lie. -/
def IsCls (w : World) (v : Value) (l : List (List Int)) : Prop :=
  ∃ oa cap, v = .slice oa l.length cap ∧ l.length ≤ cap ∧ cap ≤ maxLen ∧ (l ≠ [] → ∃ b o, oa = some ⟨b, o, none⟩ ∧ b < w.heap.size ∧ ∀ i c, l[i]? = some c → ∃ sv, w.cell? ⟨b, o + i, none⟩ = some sv ∧ IsInts w sv c ∧ CapS sv)
theorem IsCls.len {w : World} {v : Value} {l : List (List Int)} (h : IsCls w v l) : ∃ oa cap, v = .slice oa l.length cap ∧ l.length ≤ cap ∧ cap ≤ maxLen := by
  obtain ⟨oa, cap, h1, h2, h3, _⟩ := h
  exact ⟨oa, cap, h1, h2, h3⟩
theorem IsCls.at {w : World} {oa : Option Addr} {n cap : Nat} {l : List (List Int)} (h : IsCls w (.slice oa n cap) l) {k : Nat} (hk : k < l.length) :
    ∃ b o oc cc, oa = some ⟨b, o, none⟩ ∧ b < w.heap.size ∧ w.cell? ⟨b, o + k, none⟩ = some (.slice oc l[k].length cc) ∧ IsInts w (.slice oc l[k].length cc) l[k] ∧ l[k].length ≤ cc ∧ cc ≤ maxLen := by
  obtain ⟨oa', cap', hv, _, _, h4⟩ := h
  cases hv
  obtain ⟨b, o, e, hb, hc⟩ := h4 (by rintro rfl; simp at hk)
  obtain ⟨sv, h1, h2, o', n', c', e', h3, h4⟩ := hc k l[k] (by simp [hk])
  obtain ⟨oc, cc, rfl, hm⟩ := h2.len
  cases e'
  exact ⟨b, o, _, _, e, hb, h1, h2, h3, h4⟩
theorem IsCls.keep {w w' : World} {v : Value} {l : List (List Int)} (h : IsCls w v l) (k : Keep NoS w w') : IsCls w' v l := by
  obtain ⟨oa, cap, h1, h2, h3, h4⟩ := h
  refine ⟨oa, cap, h1, h2, h3, fun hne => ?_⟩
  obtain ⟨b, o, e, hb, hc⟩ := h4 hne
  refine ⟨b, o, e, Nat.lt_of_lt_of_le hb k.size, fun i c hi => ?_⟩
  obtain ⟨sv, p1, p2, p3⟩ := hc i c hi
  exact ⟨sv, (k.cell hb).trans p1, p2.keep k, p3⟩
abbrev TMb : TypeId := 78
abbrev TTr : TypeId := 147
/-- A map that tells of which literals it has been told. -/
def VBlk (w : World) (g : Nat) (T : List Int) : Prop := ∃ D : DataW Unit, w.ownsMap Tryz.prog 3 (plainElem Tryz.prog 4) g T.length D ∧ ∀ x : Int, D.atKey (.int .i64 x) (.lit (.bool false)) = .lit (.bool (decide (x ∈ T)))
theorem VBlk.lt {w : World} {g : Nat} {T : List Int} (h : VBlk w g T) : g < w.heap.size := by obtain ⟨D, h, _⟩ := h; exact h.lt
theorem VBlk.same {w w' : World} {g : Nat} {T : List Int} (h : VBlk w g T) (e : w'.heap[g]? = w.heap[g]?) : VBlk w' g T := by
  obtain ⟨D, ⟨es, clock, hb, F, hs, hD⟩, h'⟩ := h
  exact ⟨D, ⟨es, clock, e.trans hb, F, hs, hD⟩, h'⟩
theorem VBlk.map {w : World} {g : Nat} {T : List Int} (h : VBlk w g T) : ∃ es clock, w.heap[g]? = some (.map es clock) := by
  obtain ⟨D, ⟨es, clock, hb, F, hs, hD⟩, h'⟩ := h
  exact ⟨_, _, hb⟩
theorem VBlk.made (w : World) : VBlk (w.alloc (.map #[] 0)) w.heap.size [] := ⟨.map [], World.ownsMap_made (H := Unit) w Tryz.prog 3 (plainElem Tryz.prog 4), fun x => by simp [DataW.atKey]⟩
theorem keyI (x : Int) (h : I64 x) : keyOf Tryz.prog 3 (.int .i64 x) = some (.int .i64 x) := keyOf_int_mk Tryz.underlying3 (WalkArith.wf_i64 h)
set_option maxRecDepth 100000 in
theorem VBlk.look {w : World} {g : Nat} {T : List Int} (h : VBlk w g T) {x : Int} (hx : I64 x) : (Instr.lookup TMb (.map (some g)) (.int .i64 x) false).run Tryz.prog w = .ok (.bool (decide (x ∈ T))) w := by
  obtain ⟨D, ho, hD⟩ := h
  have law : Keyed Tryz.prog 3 := int_keyed Tryz.underlying3
  obtain ⟨v, ps, hrun, hv⟩ := ho.lookup law Tryz.underlying78 (z := .bool false) (by rfl) (plainElem_bool Tryz.underlying4 false) (keyI x hx)
  rw [hD x] at hv
  have : v = .bool (decide (x ∈ T)) := by
    unfold plainElem at hv
    rw [Tryz.underlying4] at hv
    cases v <;> simp at hv
    rw [hv.1]
  rw [hrun, this]
set_option maxRecDepth 100000 in
theorem VBlk.put {w : World} {g : Nat} {T : List Int} (h : VBlk w g T) (hl : T.length < maxLen) {x : Int} (hx : I64 x) : ∃ w', (Instr.mapUpdate TMb (.map (some g)) (.int .i64 x) (.bool true)).run Tryz.prog w = .ok () w' ∧ VBlk w' g (T ++ [x]) ∧ w.grownBy w' (some g) := by
  obtain ⟨D, ho, hD⟩ := h
  have law : Keyed Tryz.prog 3 := int_keyed Tryz.underlying3
  obtain ⟨w', hrun, ho', hg⟩ := ho.update law Tryz.underlying78 hl (keyI x hx) (plainElem_bool (H := Unit) Tryz.underlying4 true)
  refine ⟨w', hrun, ⟨_, by rw [List.length_append]; exact ho', fun y => ?_⟩, hg⟩
  by_cases e : y = x
  · subst e
    rw [Maps.atKey_put_same ho.isMap (show WideAt.IsKeyLit (.int .i64 y) from by simp [WideAt.IsKeyLit]) _ _]
    simp
  · rw [Maps.atKey_put_other (by intro h; injection h with _ h; exact e h), hD y]
    simp [e]
/-- A trail, as it lies. -/
structure LTr (w0 w : World) (b gm : Nat) (vc vl vw : Value) (t : Cd.Tr) : Prop where
  k : Keep NoS w0 w
  hb : w0.heap.size ≤ b
  hm : w0.heap.size ≤ gm
  tb : w.heap[b]? = some (.cells #[vc, vl, vw, .map (some gm)] TTr (0, 0))
  l : OwnI w w0.heap.size vl t.lits
  y : OwnI w w0.heap.size vw t.why
  m : VBlk w gm t.lits
  ap : ∀ k, vl.ownBlock = some k → vw.ownBlock ≠ some k
theorem own_atT {w : World} {base : Nat} {e : TypeId} {size : Nat} {v : Value} {n : Nat} {xs : List Value} (h : w.ownsRow base e size v n xs) {b : Nat} (hb : v.ownBlock = some b) : ∃ A, w.heap[b]? = some (.cells A e (0, 0)) := by
  obtain ⟨hl, h | ⟨g, cap, cur, hv, hbb, hg, hl', hm, hs, ht⟩⟩ := h
  · rw [h.1] at hb; cases hb
  · rw [hv] at hb
    cases hb
    exact ⟨_, hg⟩
theorem ownsRow_same {w w' : World} {base : Nat} {e : TypeId} {size : Nat} {v : Value} {n : Nat} {xs : List Value} (h : w.ownsRow base e size v n xs) (he : ∀ k, v.ownBlock = some k → w'.heap[k]? = w.heap[k]?) : w'.ownsRow base e size v n xs := by
  obtain ⟨hl, h | ⟨g, cap, cur, hv, hb, hg, hl', hm, hs, ht⟩⟩ := h
  · exact ⟨hl, .inl h⟩
  · exact ⟨hl, .inr ⟨g, cap, cur, hv, hb, by rw [he g (by rw [hv]; rfl)]; exact hg, hl', hm, hs, ht⟩⟩
theorem OwnI.same {w w' : World} {base : Nat} {v : Value} {xs : List Int} (h : OwnI w base v xs) (he : ∀ k, v.ownBlock = some k → w'.heap[k]? = w.heap[k]?) : OwnI w' base v xs := ownsRow_same h he
theorem OwnI.ltT {w : World} {base : Nat} {v : Value} {xs : List Int} (h : OwnI w base v xs) : ∀ k, v.ownBlock = some k → k < w.heap.size := fun k hk => (World.ownsRow.lt h k hk).2
theorem OwnI.neT {w : World} {base : Nat} {v : Value} {xs : List Int} (h : OwnI w base v xs) {b : Nat} {A : Array Value} {t : TypeId} (hb : w.heap[b]? = some (.cells A t (0, 0))) (ht : t ≠ TI) : v.ownBlock ≠ some b := fun e => by
  obtain ⟨B, hB⟩ := own_atT h e
  rw [hB] at hb
  injection hb with hb
  injection hb with _ hb
  exact ht hb.symm
theorem OwnI.nmT {w : World} {base : Nat} {v : Value} {xs : List Int} (h : OwnI w base v xs) {b : Nat} {T : List Int} (hb : VBlk w b T) : v.ownBlock ≠ some b := fun e => by
  obtain ⟨B, hB⟩ := own_atT h e
  obtain ⟨es, cl, hm⟩ := hb.map
  rw [hB] at hm
  cases hm
theorem LTr.keep {w0 w w' : World} {b gm : Nat} {vc vl vw : Value} {t : Cd.Tr} (h : LTr w0 w b gm vc vl vw t) (k : Keep NoS w w') : LTr w0 w' b gm vc vl vw t :=
  ⟨h.k.both k, h.hb, h.hm, by rw [k.block b (lt_of_heap h.tb) fun _ h => h]; exact h.tb, h.l.keep k, h.y.keep k, h.m.same (k.block gm h.m.lt fun _ h => h), h.ap⟩
theorem LTr.ne {w0 w : World} {b gm : Nat} {vc vl vw : Value} {t : Cd.Tr} (h : LTr w0 w b gm vc vl vw t) : b ≠ gm := by
  rintro rfl
  obtain ⟨es, cl, hm⟩ := h.m.map
  rw [h.tb] at hm
  cases hm
theorem keep_at {w0 w : World} (h : Keep NoS w0 w) {b i : Nat} (v : Value) (hb : w0.heap.size ≤ b) : Keep NoS w0 (w.setCell ⟨b, i, none⟩ v) := h.setCell _ fun hh => absurd hh (by omega)
/-- Blocks that are not of a set are as they were. -/
structure Fr (S : Nat → Prop) (w w' : World) : Prop where
  size : w.heap.size ≤ w'.heap.size
  block : ∀ k, k < w.heap.size → ¬ S k → w'.heap[k]? = w.heap[k]?
theorem Fr.refl (S : Nat → Prop) (w : World) : Fr S w w := ⟨Nat.le_refl _, fun _ _ _ => rfl⟩
theorem Fr.of {S : Nat → Prop} {w w' : World} (k : Keep NoS w w') : Fr S w w' := ⟨k.size, fun n hn _ => k.block n hn fun _ h => h⟩
theorem Fr.trans {S S' : Nat → Prop} {a b c : World} (h : Fr S a b) (k : Fr S' b c) (hs : ∀ n, n < a.heap.size → S' n → S n) : Fr S a c :=
  ⟨Nat.le_trans h.size k.size, fun n hn hS => (k.block n (Nat.lt_of_lt_of_le hn h.size) fun q => hS (hs n hn q)).trans (h.block n hn hS)⟩
theorem Fr.then {S : Nat → Prop} {a b c : World} (h : Fr S a b) (k : Keep NoS b c) : Fr S a c := h.trans (Fr.of (S := S) k) fun _ _ q => q
theorem Fr.grown {S : Nat → Prop} {a w w' : World} (h : Fr S a w) {row : Option Nat} (hg : w.grownBy w' row) (hr : ∀ k, row = some k → k < a.heap.size → S k) : Fr S a w' :=
  ⟨Nat.le_trans h.size hg.size, fun n hn hS => (hg.block n (Nat.lt_of_lt_of_le hn h.size) fun e => hS (hr n e.symm hn)).trans (h.block n hn hS)⟩
theorem Fr.set {S : Nat → Prop} {a w : World} (h : Fr S a w) {b i : Nat} (v : Value) (hb : S b) : Fr S a (w.setCell ⟨b, i, none⟩ v) :=
  ⟨by simpa using h.size, fun n hn hS => (heap_setCell_other w ⟨b, i, none⟩ v n fun e => hS (e ▸ hb)).trans (h.block n hn hS)⟩
/-- What of a trail may be written. -/
def TrS (b gm : Nat) (vl vw : Value) (k : Nat) : Prop := k = b ∨ k = gm ∨ vl.ownBlock = some k ∨ vw.ownBlock = some k
/-- A new trail of the same place: what is not of the old one is as it was. -/
structure TrT (w w' : World) (b gm : Nat) (vl vw vl' vw' : Value) : Prop where
  k : Fr (TrS b gm vl vw) w w'
  l : vl'.ownBlock = vl.ownBlock ∨ ∃ k, vl'.ownBlock = some k ∧ w.heap.size ≤ k
  y : vw'.ownBlock = vw.ownBlock ∨ ∃ k, vw'.ownBlock = some k ∧ w.heap.size ≤ k
theorem TrT.refl (w : World) (b gm : Nat) (vl vw : Value) : TrT w w b gm vl vw vl vw := ⟨Fr.refl _ _, .inl rfl, .inl rfl⟩
theorem TrT.step {w w1 w2 : World} {b gm : Nat} {vl vw vl1 vw1 vl2 vw2 : Value} (h : TrT w w1 b gm vl vw vl1 vw1) (k : TrT w1 w2 b gm vl1 vw1 vl2 vw2) : TrT w w2 b gm vl vw vl2 vw2 := by
  have hs := h.k.size
  refine ⟨h.k.trans k.k fun n hn hS => ?_, ?_, ?_⟩
  · rcases hS with e | e | e | e
    · exact .inl e
    · exact .inr (.inl e)
    · rcases h.l with q | ⟨j, q, hj⟩
      · exact .inr (.inr (.inl (q ▸ e)))
      · rw [q] at e; cases e; omega
    · rcases h.y with q | ⟨j, q, hj⟩
      · exact .inr (.inr (.inr (q ▸ e)))
      · rw [q] at e; cases e; omega
  · rcases k.l with q | ⟨j, q, hj⟩
    · rw [q]; exact h.l
    · exact .inr ⟨j, q, by omega⟩
  · rcases k.y with q | ⟨j, q, hj⟩
    · rw [q]; exact h.y
    · exact .inr ⟨j, q, by omega⟩
theorem TrT.of {w w1 w2 : World} {b gm : Nat} {vl vw vl1 vw1 : Value} (h : TrT w w1 b gm vl vw vl1 vw1) (k : Keep NoS w1 w2) : TrT w w2 b gm vl vw vl1 vw1 := ⟨h.k.then k, h.l, h.y⟩
end Go.Proofs.YtnndmdfjdodiiaaGreat
