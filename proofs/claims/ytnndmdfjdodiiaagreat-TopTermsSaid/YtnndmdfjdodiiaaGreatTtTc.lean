/- The law TopTerms: a form that is built, as it lies. -/
import Derived.Test.YtnndmdfjdodiiaaGreatTtTb
namespace Go.Proofs.YtnndmdfjdodiiaaGreat
open Go.ChangeShapes Go.WideShapes Go.RowKit Go.Maps
set_option linter.unusedVariables false
set_option linter.unusedSimpArgs false

abbrev TTm : TypeId := 30
theorem infoTm : (Tryz.prog.info? TTm).map (fun i => (i.zero, i.size, i.bytes)) = some (some (.agg #[.int .i64 0, .slice none 0 0]), 2, 32) := by kernel_rfl
structure TmR where
  h : Int
  o : Option Addr
  n : Nat
  c : Nat
def tmL (x : TmR) : List Value := [.int .i64 x.h, .slice x.o x.n x.c]
theorem tmL_len (x : TmR) : (tmL x).length = 2 := rfl
theorem tmL_one (x : TmR) : ∀ u ∈ tmL x, u.oneCell' = true := by
  intro u hu; simp [tmL] at hu; rcases hu with rfl | rfl <;> rfl
theorem IntsT.frS {S : Nat → Prop} {w w' : World} {v : Value} {l : List Int} (h : IntsT w v l) (k : Fr S w w') (hn : ∀ q, v.ownBlock = some q → ¬ S q) : IntsT w' v l := by
  obtain ⟨⟨oa, cap, h1, h2, h3, h4⟩, hc, ht⟩ := h
  refine ⟨⟨oa, cap, h1, h2, h3, fun hne => ?_⟩, hc, fun j hj => ?_⟩
  · obtain ⟨b, o, e, hb, hx⟩ := h4 hne
    refine ⟨b, o, e, Nat.lt_of_lt_of_le hb k.size, fun i x hi => ?_⟩
    rw [← hx i x hi]
    exact World.cell?_of_block (k.block b hb (hn b (by rw [h1, e]; rfl)))
  · obtain ⟨A, hA⟩ := ht j hj
    exact ⟨A, (k.block j (lt_of_heap hA) (hn j hj)).trans hA⟩
/-- Terms of one's own. -/
def TermsT (w : World) (base : Nat) (v : Value) (l : List Cl.Tm) : Prop := ∃ rs : List TmR, rs.length = l.length ∧ OwnG TTm 2 tmL w base v rs ∧ ∀ (i : Nat) (r : TmR) (t : Cl.Tm), rs[i]? = some r → l[i]? = some t → r.h = t.head ∧ r.n = t.kids.length ∧ IntsT w (.slice r.o r.n r.c) t.kids
theorem TermsT.nil (w : World) (base : Nat) : TermsT w base (.slice none 0 0) [] := ⟨[], rfl, OwnG.nil _ _, fun i r x h => by simp at h⟩
theorem TermsT.fr {w w' : World} {base : Nat} {v : Value} {l : List Cl.Tm} (h : TermsT w base v l) (k : FrI w w') (hb : ∀ j, v.ownBlock = some j → w'.heap[j]? = w.heap[j]?) : TermsT w' base v l := by
  obtain ⟨rs, h1, h2, h3⟩ := h
  refine ⟨rs, h1, own_same h2 hb, fun i r x hr hx => ?_⟩
  obtain ⟨a, b, c⟩ := h3 i r x hr hx
  exact ⟨a, b, c.fr k⟩
theorem TermsT.lt {w : World} {base : Nat} {v : Value} {l : List Cl.Tm} (h : TermsT w base v l) : ∀ j, v.ownBlock = some j → base ≤ j ∧ j < w.heap.size := by
  obtain ⟨rs, h1, h2, h3⟩ := h
  exact fun j hj => ⟨OwnG.block h2 j hj, OwnG.lt h2 j hj⟩
theorem TermsT.ty {w : World} {base : Nat} {v : Value} {l : List Cl.Tm} (h : TermsT w base v l) : ∀ j, v.ownBlock = some j → ∃ A, w.heap[j]? = some (.cells A TTm (0, 0)) := by
  obtain ⟨rs, h1, h2, h3⟩ := h
  exact fun j hj => own_atT h2 hj
theorem TermsT.keep {w w' : World} {base : Nat} {v : Value} {l : List Cl.Tm} (h : TermsT w base v l) (k : Keep NoS w w') : TermsT w' base v l := h.fr (.of k) fun j hj => k.block j (h.lt j hj).2 fun _ h => h
theorem TermsT.form {w : World} {base : Nat} {v : Value} {l : List Cl.Tm} (h : TermsT w base v l) : ∃ o c, v = .slice o l.length c ∧ l.length ≤ c ∧ c ≤ maxLen := by
  obtain ⟨rs, h1, h2, h3⟩ := h
  obtain ⟨o, c, e, a, b⟩ := OwnG.len h2
  rw [h1] at e a
  exact ⟨o, c, e, a, b⟩
theorem TermsT.terms {w : World} {base : Nat} {v : Value} {l : List Cl.Tm} (h : TermsT w base v l) : IsTerms w v l := by
  obtain ⟨o, c, e, a, b⟩ := h.form
  obtain ⟨rs, h1, h2, h3⟩ := h
  refine ⟨o, c, e, a, b, fun hne => ?_⟩
  obtain ⟨g, cap', e', hb, hl, hc⟩ := OwnG.cells tmL_len h2 (by intro h; subst h; cases l <;> simp_all)
  rw [e] at e'
  injection e' with q1 q2 q3
  refine ⟨g, 0, q1, hl, fun i t hi => ?_⟩
  have hi' : i < rs.length := by rw [h1]; exact (List.getElem?_eq_some_iff.1 hi).1
  have hx := List.getElem?_eq_getElem hi'
  obtain ⟨p, q, r⟩ := h3 i _ t hx hi
  refine ⟨?_, _, ?_, r.1, r.2.1⟩
  · have := hc i _ hx 0 _ rfl
    rw [p] at this
    simpa using this
  · exact hc i _ hx 1 _ rfl
theorem TermsT.app {w : World} {base : Nat} {v : Value} {l : List Cl.Tm} (h : TermsT w base v l) {b : Nat} {t : Cl.Tm} {o : Option Addr} {n c : Nat} (hbk : Blk w b #[.int .i64 t.head, .slice o n c]) (hx : IntsT w (.slice o n c) t.kids) (hl : l.length ≤ 100000) (hbase : base ≤ w.heap.size) :
    ∃ v' w', (Builtin.append_ #[23, 23] 23 #[v, .slice (some ⟨b, 0, none⟩) 1 1]).run Tryz.prog w = .ok v' w' ∧ TermsT w' base v' (l ++ [t]) ∧ w.grownBy w' v.ownBlock ∧ (v'.ownBlock = v.ownBlock ∨ v'.ownBlock = some w.heap.size) ∧ FrI w w' := by
  have hty := h.ty
  obtain ⟨i, hi, hz, hs, hb⟩ := info_parts infoTm
  obtain ⟨rs, h1, h2, h3⟩ := h
  obtain ⟨v', w', hr, ho, hg, hv⟩ := OwnG.app (T := TTm) (K := 2) (c := tmL) tmL_len Tryz.underlying23 hi hz hs hb rfl (by omega) h2 (x := ⟨t.head, o, n, c⟩) hbk (tmL_one _) (by unfold maxLen; omega) (by omega) hbase
  have hf : FrI w w' := FrI.grown hg fun k hk => by
    obtain ⟨A, hA⟩ := hty k hk
    exact ⟨A, _, hA, by decide, by decide⟩
  refine ⟨v', w', hr, ⟨rs ++ [⟨t.head, o, n, c⟩], by simp [h1], ho, fun i r y hr hy => ?_⟩, hg, hv, hf⟩
  by_cases hi : i < rs.length
  · rw [List.getElem?_append_left hi] at hr
    rw [List.getElem?_append_left (by omega)] at hy
    obtain ⟨p, q, s⟩ := h3 i r y hr hy
    exact ⟨p, q, s.fr hf⟩
  · have hj2 : i = rs.length := by
      have := (List.getElem?_eq_some_iff.1 hr).1
      simp at this
      omega
    subst hj2
    rw [List.getElem?_append_right (Nat.le_refl _)] at hr
    rw [h1, List.getElem?_append_right (Nat.le_refl _)] at hy
    simp at hr hy
    subst hr
    subst hy
    obtain ⟨o', c', e, _⟩ := hx.form
    injection e with q1 q2 q3
    exact ⟨rfl, q2, hx.fr hf⟩
/-- The form while its terms are built. -/
structure TmF (w0 w : World) (b : Nat) (l : List Cl.Tm) (v : Value) : Prop where
  k : Keep NoS w0 w
  hb : w0.heap.size ≤ b
  bk : w.heap[b]? = some (.cells #[v, .slice none 0 0, .slice none 0 0, .slice none 0 0] TFm (0, 0))
  t : TermsT w w0.heap.size v l
theorem TmF.keep {w0 w w' : World} {b : Nat} {l : List Cl.Tm} {v : Value} (h : TmF w0 w b l v) (k : Keep NoS w w') : TmF w0 w' b l v := ⟨h.k.both k, h.hb, (k.block b (lt_of_heap h.bk) fun _ h => h).trans h.bk, h.t.keep k⟩
theorem TmF.app {w0 w : World} {b : Nat} {l : List Cl.Tm} {v : Value} (h : TmF w0 w b l v) {bx : Nat} {t : Cl.Tm} {o : Option Addr} {n c : Nat} (hbk : Blk w bx #[.int .i64 t.head, .slice o n c]) (hx : IntsT w (.slice o n c) t.kids) (hl : l.length ≤ 100000) :
    ∃ v' w', (Builtin.append_ #[23, 23] 23 #[v, .slice (some ⟨bx, 0, none⟩) 1 1]).run Tryz.prog w = .ok v' w' ∧ TmF w0 (w'.setCell ⟨b, 0, none⟩ v') b (l ++ [t]) v' ∧ w'.cell? ⟨b, 0, none⟩ = some v ∧ w'.frozen? ⟨b, 0, none⟩ = false ∧ b < w'.heap.size := by
  obtain ⟨v', w', hr, ho, hg, hv, hf⟩ := h.t.app hbk hx hl h.k.size
  have hTb : TyB w b TFm := ⟨_, h.bk⟩
  have hnb : ∀ q, v.ownBlock = some q → q ≠ b := fun q hq => by
    obtain ⟨A, hA⟩ := h.t.ty q hq
    exact tyB_ne ⟨A, hA⟩ hTb (by decide)
  have hb' : w'.heap[b]? = some (.cells #[v, .slice none 0 0, .slice none 0 0, .slice none 0 0] TFm (0, 0)) := (hg.block b (lt_of_heap h.bk) fun e => hnb b e.symm rfl).trans h.bk
  have hn' : ∀ q, v'.ownBlock = some q → q ≠ b := fun q hq => by
    obtain ⟨A, hA⟩ := ho.ty q hq
    exact tyB_ne ⟨A, hA⟩ ⟨_, hb'⟩ (by decide)
  refine ⟨v', w', hr, ⟨keep_at (h.k.grown hg fun q hq => (h.t.lt q hq).1) _ h.hb, h.hb, ?_, ho.fr (FrI.set hb' ⟨by decide, by decide⟩) fun q hq => heap_setCell_other w' ⟨b, 0, none⟩ _ q (hn' q hq)⟩, cell_of_heap (o := 0) hb' rfl, free_of_heap hb', lt_of_heap hb'⟩
  rw [Go.Joins.block_setCell hb' _]
  rfl
/-- Clauses of one's own that lie in no block of a list. -/
def ClsQ (w : World) (base : Nat) (v : Value) (l : List (List Int)) (row : Option Nat) : Prop := ∃ vs : List Value, vs.length = l.length ∧ OwnG TLi 1 vC w base v vs ∧ ∀ (i : Nat) (x : Value) (c : List Int), vs[i]? = some x → l[i]? = some c → IntsT w x c ∧ ∀ k, x.ownBlock = some k → some k ≠ row
theorem ClsQ.cls {w : World} {base : Nat} {v : Value} {l : List (List Int)} {row : Option Nat} (h : ClsQ w base v l row) : ClsT w base v l := by
  obtain ⟨vs, h1, h2, h3⟩ := h
  exact ⟨vs, h1, h2, fun i x c hx hc => (h3 i x c hx hc).1⟩
theorem ClsQ.frS {S : Nat → Prop} {w w' : World} {base : Nat} {v : Value} {l : List (List Int)} {row row' : Option Nat} (h : ClsQ w base v l row) (k : Fr S w w') (hS : ∀ q, S q → some q ≠ row → ¬ TyB w q TI) (hv : ∀ q, v.ownBlock = some q → ¬ S q) (hr : row' = row ∨ row' = some w.heap.size) : ClsQ w' base v l row' := by
  obtain ⟨vs, h1, h2, h3⟩ := h
  refine ⟨vs, h1, own_same h2 fun q hq => k.block q (World.ownsRow.lt h2 q hq).2 (hv q hq), fun i x c hx hc => ?_⟩
  obtain ⟨p, q⟩ := h3 i x c hx hc
  refine ⟨p.frS k fun j hj hs => hS j hs (q j hj) (p.2.2 j hj), fun j hj => ?_⟩
  rcases hr with e | e
  · rw [e]; exact q j hj
  · rw [e]
    obtain ⟨A, hA⟩ := p.2.2 j hj
    have := lt_of_heap hA
    intro e2
    injection e2 with e2
    omega
/-- The form while its atoms and clauses are built. -/
structure TpL (w0 wm w : World) (b : Nat) (tv : Value) (la : List Sv.At) (lc : List (List Int)) (ls lx : List (Int × Int)) (lp : List Int) (vA vD vS vX vP : Value) : Prop where
  k : Fr (fun n => n = b) wm w
  hb : b < wm.heap.size
  bk : w.heap[b]? = some (.cells #[tv, .slice none 0 0, vA, vD] TFm (0, 0))
  a : OwnG TAt 6 atC w wm.heap.size vA la
  c : ClsQ w wm.heap.size vD lc vP.ownBlock
  s : OwnP w wm.heap.size vS ls
  x : OwnP w wm.heap.size vX lx
  sx : ∀ q, vS.ownBlock = some q → vX.ownBlock ≠ some q
  p : OwnI w wm.heap.size vP lp
  kw : Keep NoS w0 w
  h0 : w0.heap.size ≤ b
  hm : w0.heap.size ≤ wm.heap.size
section
variable {w0 wm w : World} {b : Nat} {tv : Value} {la : List Sv.At} {lc : List (List Int)} {ls lx : List (Int × Int)} {lp : List Int} {vA vD vS vX vP : Value}
theorem TpL.keep {w' : World} (h : TpL w0 wm w b tv la lc ls lx lp vA vD vS vX vP) (k : Keep NoS w w') : TpL w0 wm w' b tv la lc ls lx lp vA vD vS vX vP :=
  ⟨h.k.then k, h.hb, (k.block b (lt_of_heap h.bk) fun _ h => h).trans h.bk, OwnG.keep h.a k, h.c.frS (S := fun _ => False) ⟨k.size, fun n hn _ => k.block n hn fun _ h => h⟩ (fun q hq => hq.elim) (fun q hq h => h) (.inl rfl), OwnG.keep (show OwnG T2 2 prC _ _ _ _ from h.s) k, OwnG.keep (show OwnG T2 2 prC _ _ _ _ from h.x) k, h.sx, h.p.keep k, h.kw.both k, h.h0, h.hm⟩
theorem TpL.ty (h : TpL w0 wm w b tv la lc ls lx lp vA vD vS vX vP) : TyB w b TFm := ⟨_, h.bk⟩
theorem own_tyq {w : World} {base : Nat} {e : TypeId} {size : Nat} {v : Value} {n : Nat} {xs : List Value} (h : w.ownsRow base e size v n xs) {q : Nat} (hq : v.ownBlock = some q) : TyB w q e := own_atT h hq
theorem tyB_no {w : World} {b : Nat} {t t' : TypeId} (h : TyB w b t) (ht : t ≠ t') : ¬ TyB w b t' := fun h' => tyB_ne h h' ht rfl
/-- What an append of a list and the store of it leave. -/
theorem fr_app {w w' : World} {row : Option Nat} (hg : w.grownBy w' row) (b i : Nat) (v : Value) : Fr (fun n => n = b ∨ row = some n) w (w'.setCell ⟨b, i, none⟩ v) :=
  ⟨by have := hg.size; simpa using this, fun k hk hS => (heap_setCell_other w' ⟨b, i, none⟩ v k fun e => hS (.inl e)).trans (hg.block k hk fun e => hS (.inr e.symm))⟩
theorem fr_row {w w' : World} {row : Option Nat} (hg : w.grownBy w' row) : Fr (fun n => row = some n) w w' := ⟨hg.size, fun k hk hS => hg.block k hk fun e => hS e.symm⟩
theorem own_frS {S : Nat → Prop} {w w' : World} {base : Nat} {e : TypeId} {size : Nat} {v : Value} {n : Nat} {xs : List Value} (h : w.ownsRow base e size v n xs) (k : Fr S w w') (hn : ∀ q, v.ownBlock = some q → ¬ S q) : w'.ownsRow base e size v n xs := own_same h fun q hq => k.block q (World.ownsRow.lt h q hq).2 (hn q hq)
theorem TpL.atom (h : TpL w0 wm w b tv la lc ls lx lp vA vD vS vX vP) {bx : Nat} {x : Sv.At} (hbk : Blk w bx (atC x).toArray) (hl : la.length ≤ 1000) :
    ∃ v' w', (Builtin.append_ #[25, 25] 25 #[vA, .slice (some ⟨bx, 0, none⟩) 1 1]).run Tryz.prog w = .ok v' w' ∧ TpL w0 wm (w'.setCell ⟨b, 2, none⟩ v') b tv (la ++ [x]) lc ls lx lp v' vD vS vX vP ∧ w'.cell? ⟨b, 2, none⟩ = some vA ∧ w'.frozen? ⟨b, 2, none⟩ = false ∧ b < w'.heap.size := by
  obtain ⟨i, hi, hz, hs, hbb⟩ := info_parts infoAt
  obtain ⟨v', w', hr, ho, hg, hv⟩ := OwnG.app (T := TAt) (K := 6) (c := atC) atC_len Tryz.underlying25 hi hz hs hbb rfl (by omega) h.a (x := x) hbk (atC_one x) (by unfold maxLen; omega) (by omega) h.k.size
  have hT := h.ty
  have hnb : ∀ q, vA.ownBlock = some q → q ≠ b := fun q hq => tyB_ne (own_tyq h.a hq) hT (by decide)
  have hb' : w'.heap[b]? = some (.cells #[tv, .slice none 0 0, vA, vD] TFm (0, 0)) := (hg.block b (lt_of_heap h.bk) fun e => hnb b e.symm rfl).trans h.bk
  have hF := fr_app hg b 2 v'
  have hS : ∀ q, (q = b ∨ vA.ownBlock = some q) → ∀ t, t ≠ TFm → t ≠ TAt → ¬ TyB w q t := fun q hq t h1 h2 => by
    rcases hq with rfl | hq
    · exact tyB_no hT h1.symm
    · exact tyB_no (own_tyq h.a hq) h2.symm
  refine ⟨v', w', hr, ⟨?_, h.hb, ?_, ?_, h.c.frS hF (fun q hq _ => hS q hq TI (by decide) (by decide)) (fun q hq hs => hS q hs TLi (by decide) (by decide) (h.c.cls.ty q hq)) (.inl rfl), own_frS h.s hF fun q hq hs => hS q hs T2 (by decide) (by decide) (own_tyq h.s hq), own_frS h.x hF fun q hq hs => hS q hs T2 (by decide) (by decide) (own_tyq h.x hq), h.sx, own_frS h.p hF fun q hq hs => hS q hs TI (by decide) (by decide) (own_tyq h.p hq), keep_at (h.kw.grown hg fun q hq => Nat.le_trans h.hm (OwnG.block h.a q hq)) _ h.h0, h.h0, h.hm⟩, cell_of_heap (o := 2) hb' rfl, free_of_heap hb', lt_of_heap hb'⟩
  · refine ⟨Nat.le_trans h.k.size hF.size, fun k hk hne => ?_⟩
    rw [hF.block k (Nat.lt_of_lt_of_le hk h.k.size) (by
      rintro (e | e)
      · exact hne e
      · have := OwnG.block h.a k e; omega)]
    exact h.k.block k hk hne
  · rw [Go.Joins.block_setCell hb' _]; rfl
  · exact World.ownsRow_set_other ho fun q hq => tyB_ne (own_tyq ho hq) ⟨_, hb'⟩ (by decide)
theorem TpL.clause (h : TpL w0 wm w b tv la lc ls lx lp vA vD vS vX vP) {bx : Nat} {x : Value} {c : List Int} (hbk : Blk w bx #[x]) (hx : IntsT w x c) (hxp : ∀ q, x.ownBlock = some q → some q ≠ vP.ownBlock) (hl : lc.length ≤ 1000) :
    ∃ v' w', (Builtin.append_ #[26, 26] 26 #[vD, .slice (some ⟨bx, 0, none⟩) 1 1]).run Tryz.prog w = .ok v' w' ∧ TpL w0 wm (w'.setCell ⟨b, 3, none⟩ v') b tv la (lc ++ [c]) ls lx lp vA v' vS vX vP ∧ w'.cell? ⟨b, 3, none⟩ = some vD ∧ w'.frozen? ⟨b, 3, none⟩ = false ∧ b < w'.heap.size := by
  have hty := h.c.cls.ty
  have hT := h.ty
  obtain ⟨i, hi, hz, hs', hb⟩ := info_parts infoLi
  obtain ⟨vs, h1, h2, h3⟩ := h.c
  have h1c : ∀ u ∈ vC x, u.oneCell' = true := by
    intro u hu
    obtain ⟨o, n, cc, rfl, _⟩ := hx.2.1
    simp [vC] at hu
    subst hu
    rfl
  obtain ⟨v', w', hr, ho, hg, hv⟩ := OwnG.app (T := TLi) (K := 1) (c := vC) vC_len Tryz.underlying26 hi hz hs' hb rfl (by omega) h2 (x := x) hbk h1c (by unfold maxLen; omega) (by omega) h.k.size
  have hnb : ∀ q, vD.ownBlock = some q → q ≠ b := fun q hq => tyB_ne (own_tyq h2 hq) hT (by decide)
  have hb' : w'.heap[b]? = some (.cells #[tv, .slice none 0 0, vA, vD] TFm (0, 0)) := (hg.block b (lt_of_heap h.bk) fun e => hnb b e.symm rfl).trans h.bk
  have hF := fr_app hg b 3 v'
  have hS : ∀ q, (q = b ∨ vD.ownBlock = some q) → ∀ t, t ≠ TFm → t ≠ TLi → ¬ TyB w q t := fun q hq t h1 h2' => by
    rcases hq with rfl | hq
    · exact tyB_no hT h1.symm
    · exact tyB_no (own_tyq h2 hq) h2'.symm
  refine ⟨v', w', hr, ⟨?_, h.hb, ?_, own_frS h.a hF fun q hq hs => hS q hs TAt (by decide) (by decide) (own_tyq h.a hq), ⟨vs ++ [x], by simp [h1], World.ownsRow_set_other ho fun q hq => tyB_ne (own_tyq ho hq) ⟨_, hb'⟩ (by decide), fun j y d hy hd => ?_⟩, own_frS h.s hF fun q hq hs => hS q hs T2 (by decide) (by decide) (own_tyq h.s hq), own_frS h.x hF fun q hq hs => hS q hs T2 (by decide) (by decide) (own_tyq h.x hq), h.sx, own_frS h.p hF fun q hq hs => hS q hs TI (by decide) (by decide) (own_tyq h.p hq), keep_at (h.kw.grown hg fun q hq => Nat.le_trans h.hm (OwnG.block h2 q hq)) _ h.h0, h.h0, h.hm⟩, cell_of_heap (o := 3) hb' rfl, free_of_heap hb', lt_of_heap hb'⟩
  · refine ⟨Nat.le_trans h.k.size hF.size, fun k hk hne => ?_⟩
    rw [hF.block k (Nat.lt_of_lt_of_le hk h.k.size) (by
      rintro (e | e)
      · exact hne e
      · have := OwnG.block h2 k e; omega)]
    exact h.k.block k hk hne
  · rw [Go.Joins.block_setCell hb' _]; rfl
  · by_cases hj : j < vs.length
    · rw [List.getElem?_append_left hj] at hy
      rw [List.getElem?_append_left (by omega)] at hd
      obtain ⟨p, q⟩ := h3 j y d hy hd
      exact ⟨p.frS hF fun n hn hs => hS n hs TI (by decide) (by decide) (p.2.2 n hn), q⟩
    · have hj2 : j = vs.length := by
        have := (List.getElem?_eq_some_iff.1 hy).1
        simp at this
        omega
      subst hj2
      rw [List.getElem?_append_right (Nat.le_refl _)] at hy
      rw [h1, List.getElem?_append_right (Nat.le_refl _)] at hd
      simp at hy hd
      subst hy
      subst hd
      exact ⟨hx.frS hF fun n hn hs => hS n hs TI (by decide) (by decide) (hx.2.2 n hn), hxp⟩
theorem TpL.same (h : TpL w0 wm w b tv la lc ls lx lp vA vD vS vX vP) {bx : Nat} {x y : Int} (hbk : Blk w bx #[.int .i64 x, .int .i64 y]) (hl : ls.length ≤ 1000) :
    ∃ v' w', (Builtin.append_ #[32, 32] 32 #[vS, .slice (some ⟨bx, 0, none⟩) 1 1]).run Tryz.prog w = .ok v' w' ∧ TpL w0 wm w' b tv la lc (ls ++ [(x, y)]) lx lp vA vD v' vX vP := by
  obtain ⟨v', w', hr, ho, hg, hv⟩ := app_pair h.s hbk (by omega) h.k.size
  have hT := h.ty
  have hF := fr_row hg
  have hS : ∀ q, vS.ownBlock = some q → ∀ t, t ≠ T2 → ¬ TyB w q t := fun q hq t h1 => tyB_no (own_tyq h.s hq) h1.symm
  refine ⟨v', w', hr, ⟨?_, h.hb, (hF.block b (lt_of_heap h.bk) fun e => hS b e TFm (by decide) hT).trans h.bk, own_frS h.a hF fun q hq hs => hS q hs TAt (by decide) (own_tyq h.a hq), h.c.frS hF (fun q hq _ => hS q hq TI (by decide)) (fun q hq hs => hS q hs TLi (by decide) (h.c.cls.ty q hq)) (.inl rfl), ho, own_frS h.x hF fun q hq hs => h.sx q hs hq, fun q hq => ?_, own_frS h.p hF fun q hq hs => hS q hs TI (by decide) (own_tyq h.p hq), h.kw.grown hg fun q hq => Nat.le_trans h.hm (OwnG.block (show OwnG T2 2 prC _ _ _ _ from h.s) q hq), h.h0, h.hm⟩⟩
  · refine ⟨Nat.le_trans h.k.size hF.size, fun k hk hne => ?_⟩
    rw [hF.block k (Nat.lt_of_lt_of_le hk h.k.size) fun e => by have := OwnG.block (show OwnG T2 2 prC _ _ _ _ from h.s) k e; omega]
    exact h.k.block k hk hne
  · rcases hv with e | e
    · exact h.sx q (e ▸ hq)
    · rw [e] at hq
      injection hq with hq
      intro e2
      have := OwnG.lt (show OwnG T2 2 prC _ _ _ _ from h.x) q e2
      omega
theorem TpL.apart (h : TpL w0 wm w b tv la lc ls lx lp vA vD vS vX vP) {bx : Nat} {x y : Int} (hbk : Blk w bx #[.int .i64 x, .int .i64 y]) (hl : lx.length ≤ 1000) :
    ∃ v' w', (Builtin.append_ #[32, 32] 32 #[vX, .slice (some ⟨bx, 0, none⟩) 1 1]).run Tryz.prog w = .ok v' w' ∧ TpL w0 wm w' b tv la lc ls (lx ++ [(x, y)]) lp vA vD vS v' vP := by
  obtain ⟨v', w', hr, ho, hg, hv⟩ := app_pair h.x hbk (by omega) h.k.size
  have hT := h.ty
  have hF := fr_row hg
  have hS : ∀ q, vX.ownBlock = some q → ∀ t, t ≠ T2 → ¬ TyB w q t := fun q hq t h1 => tyB_no (own_tyq h.x hq) h1.symm
  refine ⟨v', w', hr, ⟨?_, h.hb, (hF.block b (lt_of_heap h.bk) fun e => hS b e TFm (by decide) hT).trans h.bk, own_frS h.a hF fun q hq hs => hS q hs TAt (by decide) (own_tyq h.a hq), h.c.frS hF (fun q hq _ => hS q hq TI (by decide)) (fun q hq hs => hS q hs TLi (by decide) (h.c.cls.ty q hq)) (.inl rfl), own_frS h.s hF fun q hq hs => h.sx q hq hs, ho, fun q hq e2 => ?_, own_frS h.p hF fun q hq hs => hS q hs TI (by decide) (own_tyq h.p hq), h.kw.grown hg fun q hq => Nat.le_trans h.hm (OwnG.block (show OwnG T2 2 prC _ _ _ _ from h.x) q hq), h.h0, h.hm⟩⟩
  · refine ⟨Nat.le_trans h.k.size hF.size, fun k hk hne => ?_⟩
    rw [hF.block k (Nat.lt_of_lt_of_le hk h.k.size) fun e => by have := OwnG.block (show OwnG T2 2 prC _ _ _ _ from h.x) k e; omega]
    exact h.k.block k hk hne
  · rcases hv with e | e
    · exact h.sx q hq (e ▸ e2)
    · rw [e] at e2
      injection e2 with e2
      have := OwnG.lt (show OwnG T2 2 prC _ _ _ _ from h.s) q hq
      omega
theorem TpL.place (h : TpL w0 wm w b tv la lc ls lx lp vA vD vS vX vP) {bx : Nat} {x : Int} (hbk : Blk w bx #[.int .i64 x]) (hl : lp.length ≤ 1000) :
    ∃ v' w', (Builtin.append_ #[22, 22] 22 #[vP, .slice (some ⟨bx, 0, none⟩) 1 1]).run Tryz.prog w = .ok v' w' ∧ TpL w0 wm w' b tv la lc ls lx (lp ++ [x]) vA vD vS vX v' := by
  obtain ⟨v', w', hr, ho, hg, hv⟩ := app_oneI h.p hbk (by omega) h.k.size
  have hT := h.ty
  have hF := fr_row hg
  have hS : ∀ q, vP.ownBlock = some q → ∀ t, t ≠ TI → ¬ TyB w q t := fun q hq t h1 => tyB_no (own_tyq h.p hq) h1.symm
  refine ⟨v', w', hr, ⟨?_, h.hb, (hF.block b (lt_of_heap h.bk) fun e => hS b e TFm (by decide) hT).trans h.bk, own_frS h.a hF fun q hq hs => hS q hs TAt (by decide) (own_tyq h.a hq), h.c.frS hF (fun q hq hne => absurd hq.symm hne) (fun q hq hs => hS q hs TLi (by decide) (h.c.cls.ty q hq)) hv, own_frS h.s hF fun q hq hs => hS q hs T2 (by decide) (own_tyq h.s hq), own_frS h.x hF fun q hq hs => hS q hs T2 (by decide) (own_tyq h.x hq), h.sx, ho, h.kw.grown hg fun q hq => Nat.le_trans h.hm (h.p.block q hq), h.h0, h.hm⟩⟩
  refine ⟨Nat.le_trans h.k.size hF.size, fun k hk hne => ?_⟩
  rw [hF.block k (Nat.lt_of_lt_of_le hk h.k.size) fun e => by have := h.p.block k e; omega]
  exact h.k.block k hk hne
end
end Go.Proofs.YtnndmdfjdodiiaaGreat
