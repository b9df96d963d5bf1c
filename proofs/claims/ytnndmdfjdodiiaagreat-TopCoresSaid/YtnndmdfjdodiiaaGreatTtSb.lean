/- Package solve: the solver, as it lies; full, step. -/
import Derived.Test.YtnndmdfjdodiiaaGreatTtSa
namespace Go.Proofs.YtnndmdfjdodiiaaGreat
open Go.ChangeShapes Go.WideShapes Go.RowKit Go.Maps
set_option linter.unusedVariables false
set_option linter.unusedSimpArgs false

abbrev TSv : TypeId := 80
/-- All is as it was but the solver, its clauses and its steps. -/
structure FrN (w w' : World) : Prop where
  size : w.heap.size ≤ w'.heap.size
  at' : ∀ (k : Nat) (A : Array Value) (t : TypeId), w.heap[k]? = some (.cells A t (0, 0)) → t ≠ TSv → t ≠ TLi → t ≠ TSt → w'.heap[k]? = some (.cells A t (0, 0))
theorem FrN.refl (w : World) : FrN w w := ⟨Nat.le_refl _, fun _ _ _ h _ _ _ => h⟩
theorem FrN.trans {a b c : World} (h : FrN a b) (k : FrN b c) : FrN a c := ⟨Nat.le_trans h.size k.size, fun n A t e q1 q2 q3 => k.at' n A t (h.at' n A t e q1 q2 q3) q1 q2 q3⟩
theorem FrN.of {w w' : World} (k : Keep NoS w w') : FrN w w' := ⟨k.size, fun n A t h _ _ _ => (k.block n (lt_of_heap h) fun _ h => h).trans h⟩
theorem FrN.fr {w w' : World} (k : FrN w w') : FrI w w' := ⟨k.size, fun n A t h q => by
  rcases q with rfl | rfl
  · exact k.at' n A _ h (by decide) (by decide) (by decide)
  · exact k.at' n A _ h (by decide) (by decide) (by decide)⟩
theorem FrN.ty {w w' : World} (k : FrN w w') {b : Nat} {t : TypeId} (h : TyB w b t) (h1 : t ≠ TSv) (h2 : t ≠ TLi) (h3 : t ≠ TSt) : TyB w' b t := by
  obtain ⟨A, h⟩ := h
  exact ⟨A, k.at' b A t h h1 h2 h3⟩
structure SvM where
  oA : Option Addr
  cA : Nat
  oC : Option Addr
  cC : Nat
  oS : Option Addr
  cS : Nat
  gm : Nat
def svC (L : FmL) (f : Sv.Frm) (fuel : Int) (M : SvM) (s : Sv.SvS) : Array Value := #[.slice L.ot f.terms.length L.ct, .slice none 0 0, .slice L.oa f.atoms.length L.ca, .slice L.oc f.cls.length L.cc, .slice M.oA f.atoms.length M.cA, .slice M.oC s.cls.length M.cC, .slice M.oS s.steps.length M.cS, .map (some M.gm), .int .i64 fuel, .int .i64 (s.used : Int)]
/-- The solver, as it lies. -/
structure SvL (w0 w : World) (b : Nat) (L : FmL) (f : Sv.Frm) (fuel : Int) (M : SvM) (s : Sv.SvS) : Prop where
  k : Keep NoS w0 w
  hb : w0.heap.size ≤ b
  bk : w.heap[b]? = some (.cells (svC L f fuel M s) TSv (0, 0))
  a : OwnG TAt 6 atC w w0.heap.size (.slice M.oA f.atoms.length M.cA) f.atoms
  c : ClsT w w0.heap.size (.slice M.oC s.cls.length M.cC) s.cls
  st : StepsT w w0.heap.size (.slice M.oS s.steps.length M.cS) s.steps
theorem svC_cells {w : World} {b : Nat} {L : FmL} {f : Sv.Frm} {fuel : Int} {M : SvM} {s : Sv.SvS} (h : w.heap[b]? = some (.cells (svC L f fuel M s) TSv (0, 0))) : w.cell? ⟨b, 0, none⟩ = some (.slice L.ot f.terms.length L.ct) ∧ w.cell? ⟨b, 1, none⟩ = some (.slice none 0 0) ∧ w.cell? ⟨b, 2, none⟩ = some (.slice L.oa f.atoms.length L.ca) ∧ w.cell? ⟨b, 3, none⟩ = some (.slice L.oc f.cls.length L.cc) ∧ w.cell? ⟨b, 4, none⟩ = some (.slice M.oA f.atoms.length M.cA) ∧ w.cell? ⟨b, 5, none⟩ = some (.slice M.oC s.cls.length M.cC) ∧ w.cell? ⟨b, 6, none⟩ = some (.slice M.oS s.steps.length M.cS) ∧ w.cell? ⟨b, 7, none⟩ = some (.map (some M.gm)) ∧ w.cell? ⟨b, 8, none⟩ = some (.int .i64 fuel) ∧ w.cell? ⟨b, 9, none⟩ = some (.int .i64 (s.used : Int)) ∧ b < w.heap.size :=
  ⟨cell_of_heap (o := 0) h rfl, cell_of_heap (o := 1) h rfl, cell_of_heap (o := 2) h rfl, cell_of_heap (o := 3) h rfl, cell_of_heap (o := 4) h rfl, cell_of_heap (o := 5) h rfl, cell_of_heap (o := 6) h rfl, cell_of_heap (o := 7) h rfl, cell_of_heap (o := 8) h rfl, cell_of_heap (o := 9) h rfl, lt_of_heap h⟩
theorem SvL.keep {w0 w w' : World} {b : Nat} {L : FmL} {f : Sv.Frm} {fuel : Int} {M : SvM} {s : Sv.SvS} (h : SvL w0 w b L f fuel M s) (k : Keep NoS w w') : SvL w0 w' b L f fuel M s :=
  ⟨h.k.both k, h.hb, (k.block b (lt_of_heap h.bk) fun _ h => h).trans h.bk, OwnG.keep h.a k, h.c.keep k, h.st.keep k⟩
theorem own_neT {w : World} {base : Nat} {e : TypeId} {size : Nat} {v : Value} {n : Nat} {xs : List Value} (h : w.ownsRow base e size v n xs) {b : Nat} {t : TypeId} (hb : TyB w b t) (ht : e ≠ t) : ∀ q, v.ownBlock = some q → q ≠ b := by
  rintro q hq rfl
  obtain ⟨B, hB⟩ := own_atT h hq
  obtain ⟨A, hA⟩ := hb
  rw [hB] at hA
  injection hA with hA
  injection hA with _ hA
  exact ht hA
theorem ClsT.neT {w : World} {base : Nat} {v : Value} {l : List (List Int)} (h : ClsT w base v l) {b : Nat} {t : TypeId} (hb : TyB w b t) (ht : TLi ≠ t) : ∀ q, v.ownBlock = some q → q ≠ b := by
  obtain ⟨_, _, h2, _⟩ := h
  exact own_neT h2 hb ht
theorem StepsT.neT {w : World} {base : Nat} {v : Value} {l : List Sv.Stp} (h : StepsT w base v l) {b : Nat} {t : TypeId} (hb : TyB w b t) (ht : TSt ≠ t) : ∀ q, v.ownBlock = some q → q ≠ b := by
  obtain ⟨_, _, h2, _⟩ := h
  exact own_neT h2 hb ht
/-- A store into a block of another type. -/
theorem SvL.one {w0 w w' : World} {b : Nat} {L : FmL} {f : Sv.Frm} {fuel : Int} {M : SvM} {s : Sv.SvS} (h : SvL w0 w b L f fuel M s) {b' : Nat} {t : TypeId} (hb : TyB w b' t) (o : OneB w w' b' t) (k : Keep NoS w0 w') (h1 : TSv ≠ t) (h2 : TAt ≠ t) (h3 : TLi ≠ t) (h4 : TSt ≠ t) : SvL w0 w' b L f fuel M s := by
  refine ⟨k, h.hb, (o.other b fun e => ?_).trans h.bk, own_same h.a fun q hq => o.other q (own_neT h.a hb h2 q hq), h.c.fr o.fr fun q hq => o.other q (h.c.neT hb h3 q hq), h.st.fr o.fr fun q hq => o.other q (h.st.neT hb h4 q hq)⟩
  subst e
  obtain ⟨A, hA⟩ := hb
  rw [h.bk] at hA
  injection hA with hA
  injection hA with _ hA
  exact h1 hA
theorem svT {w0 w : World} {b : Nat} {L : FmL} {f : Sv.Frm} {fuel : Int} {M : SvM} {s : Sv.SvS} (h : SvL w0 w b L f fuel M s) : TyB w b TSv := ⟨_, h.bk⟩
/-- A step is appended. -/
theorem SvL.step1 {w0 w : World} {b : Nat} {L : FmL} {f : Sv.Frm} {fuel : Int} {M : SvM} {s : Sv.SvS} (h : SvL w0 w b L f fuel M s) {x : Sv.Stp} {o : Option Addr} {n c bx : Nat} (hbk : Blk w bx (stC x.kind o n c)) (hx : IntsT w (.slice o n c) x.lits) (hl : s.steps.length ≤ 10000) :
    ∃ oS cS w', (Builtin.append_ #[47, 47] 47 #[.slice M.oS s.steps.length M.cS, .slice (some ⟨bx, 0, none⟩) 1 1]).run Tryz.prog w = .ok (.slice oS (s.steps.length + 1) cS) w' ∧ SvL w0 (w'.setCell ⟨b, 6, none⟩ (.slice oS (s.steps.length + 1) cS)) b L f fuel { M with oS := oS, cS := cS } ⟨s.cls, s.steps ++ [x], s.used⟩ ∧ FrN w (w'.setCell ⟨b, 6, none⟩ (.slice oS (s.steps.length + 1) cS)) ∧ w'.cell? ⟨b, 6, none⟩ = some (.slice M.oS s.steps.length M.cS) ∧ w'.frozen? ⟨b, 6, none⟩ = false ∧ b < w'.heap.size ∧ ∀ k, k < w.heap.size → k ≠ b → (∀ q, (Value.slice M.oS s.steps.length M.cS).ownBlock = some q → q ≠ k) → (w'.setCell ⟨b, 6, none⟩ (.slice oS (s.steps.length + 1) cS)).heap[k]? = w.heap[k]? := by
  obtain ⟨v, w', hr, hst, hg, hv, hf⟩ := h.st.app hbk hx (by omega) h.k.size
  obtain ⟨o', c', rfl, _⟩ := hst.form
  rw [List.length_append, List.length_singleton] at hr hst hv
  have hTb := svT h
  have hbo : ∀ q, (Value.slice M.oS s.steps.length M.cS).ownBlock = some q → q ≠ b := h.st.neT hTb (by decide)
  have hbl := lt_of_heap h.bk
  have hb' : w'.heap[b]? = some (.cells (svC L f fuel M s) TSv (0, 0)) := (hg.block b hbl fun e => hbo b e.symm rfl).trans h.bk
  have hoth : ∀ k, k < w.heap.size → k ≠ b → (∀ q, (Value.slice M.oS s.steps.length M.cS).ownBlock = some q → q ≠ k) → (w'.setCell ⟨b, 6, none⟩ (.slice o' (s.steps.length + 1) c')).heap[k]? = w.heap[k]? := fun k hk hne hq => (heap_setCell_other _ ⟨b, 6, none⟩ _ k hne).trans (hg.block k hk fun e => hq k e.symm rfl)
  have hfr : FrN w (w'.setCell ⟨b, 6, none⟩ (.slice o' (s.steps.length + 1) c')) := ⟨by have := hg.size; simpa using this, fun k A t e q1 q2 q3 => (hoth k (lt_of_heap e) (by
    rintro rfl
    rw [h.bk] at e
    injection e with e
    injection e with _ e
    exact q1 e.symm) (fun q hq => by
    rintro rfl
    obtain ⟨B, hB⟩ := h.st.ty q hq
    rw [hB] at e
    injection e with e
    injection e with _ e
    exact q3 e.symm)).trans e⟩
  refine ⟨o', c', w', hr, ⟨keep_at (h.k.grown hg fun q hq => (h.st.lt q hq).1) _ h.hb, h.hb, ?_, ?_, ?_, ?_⟩, hfr, cell_of_heap (o := 6) hb' rfl, free_of_heap hb', lt_of_heap hb', hoth⟩
  · rw [Go.Joins.block_setCell hb' _]
    simp [svC]
  · refine own_same h.a fun q hq => hoth q (World.ownsRow.lt h.a q hq).2 (own_neT h.a hTb (by decide) q hq) fun q' hq' => ?_
    rintro rfl
    obtain ⟨B, hB⟩ := h.st.ty q' hq'
    exact own_neT h.a ⟨B, hB⟩ (by decide) q' hq rfl
  · refine h.c.fr hfr.fr fun q hq => hoth q (h.c.lt q hq).2 (h.c.neT hTb (by decide) q hq) fun q' hq' => ?_
    rintro rfl
    obtain ⟨B, hB⟩ := h.st.ty q' hq'
    exact h.c.neT ⟨B, hB⟩ (by decide) q' hq rfl
  · have hn : ∀ q, (Value.slice o' (s.steps.length + 1) c').ownBlock = some q → q ≠ b := fun q hq => by
      rcases hv with e | e
      · exact hbo q (e ▸ hq)
      · rw [e] at hq; injection hq with hq; omega
    have h5 : StepsT (w'.setCell ⟨b, 6, none⟩ (.slice o' (s.steps.length + 1) c')) w0.heap.size (.slice o' (s.steps.length + 1) c') (s.steps ++ [x]) := hst.fr (FrI.set hb' ⟨by decide, by decide⟩) fun q hq => heap_setCell_other _ ⟨b, 6, none⟩ _ q (hn q hq)
    simp only
    rw [List.length_append, List.length_singleton]
    exact h5
/-- A clause is appended. -/
theorem SvL.cls1 {w0 w : World} {b : Nat} {L : FmL} {f : Sv.Frm} {fuel : Int} {M : SvM} {s : Sv.SvS} (h : SvL w0 w b L f fuel M s) {x : Value} {c : List Int} {bx : Nat} (hbk : Blk w bx #[x]) (hx : IntsT w x c) (hl : s.cls.length ≤ 10000) :
    ∃ oC cC w', (Builtin.append_ #[26, 26] 26 #[.slice M.oC s.cls.length M.cC, .slice (some ⟨bx, 0, none⟩) 1 1]).run Tryz.prog w = .ok (.slice oC (s.cls.length + 1) cC) w' ∧ SvL w0 (w'.setCell ⟨b, 5, none⟩ (.slice oC (s.cls.length + 1) cC)) b L f fuel { M with oC := oC, cC := cC } ⟨s.cls ++ [c], s.steps, s.used⟩ ∧ FrN w (w'.setCell ⟨b, 5, none⟩ (.slice oC (s.cls.length + 1) cC)) ∧ w'.cell? ⟨b, 5, none⟩ = some (.slice M.oC s.cls.length M.cC) ∧ w'.frozen? ⟨b, 5, none⟩ = false ∧ b < w'.heap.size := by
  obtain ⟨v, w', hr, hst, hg, hv, hf⟩ := h.c.app hbk hx (by omega) h.k.size
  obtain ⟨o', c', rfl, _⟩ := hst.form
  rw [List.length_append, List.length_singleton] at hr hst hv
  have hTb := svT h
  have hbo : ∀ q, (Value.slice M.oC s.cls.length M.cC).ownBlock = some q → q ≠ b := h.c.neT hTb (by decide)
  have hbl := lt_of_heap h.bk
  have hb' : w'.heap[b]? = some (.cells (svC L f fuel M s) TSv (0, 0)) := (hg.block b hbl fun e => hbo b e.symm rfl).trans h.bk
  have hoth : ∀ k, k < w.heap.size → k ≠ b → (∀ q, (Value.slice M.oC s.cls.length M.cC).ownBlock = some q → q ≠ k) → (w'.setCell ⟨b, 5, none⟩ (.slice o' (s.cls.length + 1) c')).heap[k]? = w.heap[k]? := fun k hk hne hq => (heap_setCell_other _ ⟨b, 5, none⟩ _ k hne).trans (hg.block k hk fun e => hq k e.symm rfl)
  have hfr : FrN w (w'.setCell ⟨b, 5, none⟩ (.slice o' (s.cls.length + 1) c')) := ⟨by have := hg.size; simpa using this, fun k A t e q1 q2 q3 => (hoth k (lt_of_heap e) (by
    rintro rfl
    rw [h.bk] at e
    injection e with e
    injection e with _ e
    exact q1 e.symm) (fun q hq => by
    rintro rfl
    obtain ⟨B, hB⟩ := h.c.ty q hq
    rw [hB] at e
    injection e with e
    injection e with _ e
    exact q2 e.symm)).trans e⟩
  refine ⟨o', c', w', hr, ⟨keep_at (h.k.grown hg fun q hq => (h.c.lt q hq).1) _ h.hb, h.hb, ?_, ?_, ?_, ?_⟩, hfr, cell_of_heap (o := 5) hb' rfl, free_of_heap hb', lt_of_heap hb'⟩
  · rw [Go.Joins.block_setCell hb' _]
    simp [svC]
  · refine own_same h.a fun q hq => hoth q (World.ownsRow.lt h.a q hq).2 (own_neT h.a hTb (by decide) q hq) fun q' hq' => ?_
    rintro rfl
    obtain ⟨B, hB⟩ := h.c.ty q' hq'
    exact own_neT h.a ⟨B, hB⟩ (by decide) q' hq rfl
  · have hn : ∀ q, (Value.slice o' (s.cls.length + 1) c').ownBlock = some q → q ≠ b := fun q hq => by
      rcases hv with e | e
      · exact hbo q (e ▸ hq)
      · rw [e] at hq; injection hq with hq; omega
    have h5 : ClsT (w'.setCell ⟨b, 5, none⟩ (.slice o' (s.cls.length + 1) c')) w0.heap.size (.slice o' (s.cls.length + 1) c') (s.cls ++ [c]) := hst.fr (FrI.set hb' ⟨by decide, by decide⟩) fun q hq => heap_setCell_other _ ⟨b, 5, none⟩ _ q (hn q hq)
    simp only
    rw [List.length_append, List.length_singleton]
    exact h5
  · refine h.st.fr hfr.fr fun q hq => hoth q (h.st.lt q hq).2 (h.st.neT hTb (by decide) q hq) fun q' hq' => ?_
    rintro rfl
    obtain ⟨B, hB⟩ := h.c.ty q' hq'
    exact h.st.neT ⟨B, hB⟩ (by decide) q' hq rfl
set_option maxRecDepth 100000 in
theorem full_any (w0 w : World) (b : Nat) (L : FmL) (f : Sv.Frm) (fuel : Int) (M : SvM) (s : Sv.SvS) (h : SvL w0 w b L f fuel M s) (hn : f.atoms.length ≤ 120) (hc : s.cls.length ≤ 10000) (hs : s.steps.length ≤ 10000) :
    Calls Tryz.prog 51 #[.pointer (some ⟨b, 0, none⟩)] w fun e w' => e = .returned (.bool (decide (400 < s.cls.length ∨ 3000 < s.steps.length))) ∧ w' = w := by
  obtain ⟨x0, x1, x2, x3, x4, x5, x6, x7, x8, x9, xl⟩ := svC_cells h.bk
  generalize f.atoms.length = n at *
  generalize s.cls.length = m at *
  generalize s.steps.length = k at *
  clear h x0 x1 x2 x3 x7 x8 x9
  have e1 : ¬ (120 : Int) < (n : Int) := by omega
  by_cases h1 : 400 < m
  · have e2 : (400 : Int) < (m : Int) := by omega
    have hd : decide (400 < m ∨ 3000 < k) = true := decide_eq_true (.inl h1)
    rw [hd]
    clear hd h1
    go_enter Tryz.func51, Tryz.ntmps51
    go_wp2
    go_ret
    exact ⟨rfl, rfl⟩
  · have e2 : ¬ (400 : Int) < (m : Int) := by omega
    by_cases h2 : 3000 < k
    · have e3 : (3000 : Int) < (k : Int) := by omega
      have hd : decide (400 < m ∨ 3000 < k) = true := decide_eq_true (.inr h2)
      rw [hd]
      clear hd h1 h2
      go_enter Tryz.func51, Tryz.ntmps51
      go_wp2
      go_ret
      exact ⟨rfl, rfl⟩
    · have e3 : ¬ (3000 : Int) < (k : Int) := by omega
      have hd : decide (400 < m ∨ 3000 < k) = false := decide_eq_false (by omega)
      rw [hd]
      clear hd h1 h2
      go_enter Tryz.func51, Tryz.ntmps51
      go_wp2
      go_ret
      exact ⟨rfl, rfl⟩
end Go.Proofs.YtnndmdfjdodiiaaGreat
