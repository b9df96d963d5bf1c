/- Package solve: round, plain and its parts. -/
import Derived.Test.YtnndmdfjdodiiaaGreatTtSg
namespace Go.Proofs.YtnndmdfjdodiiaaGreat
open Go.ChangeShapes Go.WideShapes Go.RowKit Go.Maps
set_option linter.unusedVariables false
set_option linter.unusedSimpArgs false

/-- Options. -/
structure OpO where
  a : Int
  b : Int
  c : Int
  d : Int
def OpO.OK (o : OpO) : Prop := (0 ≤ o.a ∧ o.a ≤ 1000) ∧ (0 ≤ o.b ∧ o.b ≤ 1000000) ∧ (0 ≤ o.c ∧ o.c ≤ 1000000) ∧ (0 ≤ o.d ∧ o.d ≤ 2)
/-- What a round tells: a state, or the next solver. -/
inductive RdR where
  | done (st : Int)
  | next (s : Sv.SvS)
def stepsA (s : Sv.SvS) (st : List (List Int)) : List Sv.Stp := s.steps ++ st.map fun c => (⟨1, c⟩ : Sv.Stp)
def roundF (f : Sv.Frm) (fuel : Nat) (s : Sv.SvS) : Cd.Ans → RdR
  | .hungry u => .done 3
  | .no st u => if Sv.takeJ f (stepsA s st) = true then .done 2 else .done 3
  | .yes T u => match Sv.violF f (Sv.holdsT f.atoms.length T) with
    | some c => if s.used + u = fuel then .done 3 else .next ⟨s.cls ++ [c], s.steps ++ [⟨3, c⟩], s.used + u + 1⟩
    | none => if Sv.holdsF f (Sv.holdsT f.atoms.length T) (Sv.classOf f (Sv.holdsT f.atoms.length T)) = true then .done 1 else .done 3
/-- What round returns. -/
def RdP (w0 w : World) (b : Nat) (L : FmL) (f : Sv.Frm) (fuel : Int) (r : RdR) (e : Ending) (w' : World) : Prop := Keep NoS w0 w' ∧ FrN w w' ∧ match r with
  | .done st => ∃ (oh : Option Addr) (nh ch : Nat) (lb : List Bool) (o3 : Option Addr) (n3 c3 : Nat) (os : Option Addr) (cs : Nat) (l : List Sv.Stp) (u : Int), e = .returned (.agg #[.int .i64 st, .slice oh nh ch, .slice o3 n3 c3, .slice none 0 0, .slice os l.length cs, .int .i64 u]) ∧ SrcG boC w' (.slice oh nh ch) lb ∧ lb.length ≤ 1000 ∧ IsSteps w' (.slice os l.length cs) l ∧ l.length ≤ 5000 ∧ ∀ x ∈ l, x.lits.length ≤ 1000
  | .next s => e = .returned (.agg #[.int .i64 0, .slice none 0 0, .slice none 0 0, .slice none 0 0, .slice none 0 0, .int .i64 0]) ∧ ∃ M, SvL w0 w' b L f fuel M s
theorem FrN.new {a w : World} (h : FrN a w) {b : Nat} (hb : a.heap.size ≤ b) (i : Nat) (v : Value) : FrN a (w.setCell ⟨b, i, none⟩ v) :=
  ⟨by simpa using h.size, fun k A t e q1 q2 q3 => by
    have hk : k < a.heap.size := lt_of_heap e
    have hne : k ≠ b := by omega
    exact (heap_setCell_other w ⟨b, i, none⟩ v k hne).trans (h.at' k A t e q1 q2 q3)⟩
theorem FrN.new6 {a w : World} (h : FrN a w) {b : Nat} (hb : a.heap.size ≤ b) (a0 a1 a2 a3 a4 a5 : Value) : FrN a ((((((w.setCell ⟨b, 0, none⟩ a0).setCell ⟨b, 1, none⟩ a1).setCell ⟨b, 2, none⟩ a2).setCell ⟨b, 3, none⟩ a3).setCell ⟨b, 4, none⟩ a4).setCell ⟨b, 5, none⟩ a5) := (((((h.new hb 0 a0).new hb 1 a1).new hb 2 a2).new hb 3 a3).new hb 4 a4).new hb 5 a5
theorem FrN.sv {a w : World} (h : FrN a w) {b : Nat} (hb : TyB w b TSv) (i : Nat) (v : Value) : FrN a (w.setCell ⟨b, i, none⟩ v) :=
  ⟨by simpa using h.size, fun k A t e q1 q2 q3 => (heap_setCell_other w ⟨b, i, none⟩ v k (by
    rintro rfl
    obtain ⟨B, hB⟩ := hb
    have := h.at' k A t e q1 q2 q3
    rw [hB] at this
    injection this with this
    injection this with _ this
    exact q1 this.symm)).trans (h.at' k A t e q1 q2 q3)⟩
theorem src_nil (w : World) : SrcG boC w (.slice none 0 0) [] := ⟨none, 0, rfl, fun h => absurd h (by simp)⟩
theorem steps_nil (w : World) : IsSteps w (.slice none 0 0) [] := (StepsT.nil w 0).steps
theorem RdP.hungry {w0 w w' : World} {b : Nat} {L : FmL} {f : Sv.Frm} {fuel : Int} (k : Keep NoS w0 w') (hn : FrN w w') (u : Int) : RdP w0 w b L f fuel (.done 3) (.returned (.agg #[.int .i64 3, .slice none 0 0, .slice none 0 0, .slice none 0 0, .slice none 0 0, .int .i64 u])) w' :=
  ⟨k, hn, none, 0, 0, [], none, 0, 0, none, 0, [], u, rfl, src_nil _, by simp, steps_nil _, by simp, fun x hx => by cases hx⟩
theorem markS_other {S : Nat → Bool} {e d : Nat} (h : d ≠ e) : mark S e d = S d := by unfold mark; rw [if_neg h]
theorem tyB_ne {w : World} {b b' : Nat} {t t' : TypeId} (h : TyB w b t) (h' : TyB w b' t') (ht : t ≠ t') : b ≠ b' := by
  rintro rfl
  obtain ⟨A, hA⟩ := h
  obtain ⟨B, hB⟩ := h'
  rw [hA] at hB
  injection hB with hB
  injection hB with _ hB
  exact ht hB
/-- The cells of an answer, and what lies behind them. -/
def AnsC (n base : Nat) (ans : Cd.Ans) (A : Array Value) (w : World) : Prop := match ans with
  | .yes T u => ∃ g, A = #[.int .i64 1, .slice (some ⟨g, 0, none⟩) n n, .slice none 0 0, .slice none 0 0, .int .i64 (u : Int)] ∧ BoolsT w g (Sv.holdsT n T)
  | .no st u => ∃ o c, A = #[.int .i64 2, .slice none 0 0, .slice o st.length c, .slice none 0 0, .int .i64 (u : Int)] ∧ StepsT w base (.slice o st.length c) (st.map fun c => ⟨1, c⟩)
  | .hungry u => A = #[.int .i64 3, .slice none 0 0, .slice none 0 0, .slice none 0 0, .int .i64 (u : Int)]
theorem AnsC.keep {n base : Nat} {ans : Cd.Ans} {A : Array Value} {w w' : World} (h : AnsC n base ans A w) (k : Keep NoS w w') : AnsC n base ans A w' := by
  rcases ans with ⟨T, u⟩ | ⟨st, u⟩ | u
  · obtain ⟨g, e, h⟩ := h
    exact ⟨g, e, h.fr (FrI.of k)⟩
  · obtain ⟨o, c, e, h⟩ := h
    exact ⟨o, c, e, h.keep k⟩
  · exact h
theorem AnsC.one {n base : Nat} {ans : Cd.Ans} {A : Array Value} {w w' : World} {b' : Nat} {t : TypeId} (h : AnsC n base ans A w) (hb : TyB w b' t) (o : OneB w w' b' t) (ht : TSt ≠ t) : AnsC n base ans A w' := by
  rcases ans with ⟨T, u⟩ | ⟨st, u⟩ | u
  · obtain ⟨g, e, h⟩ := h
    exact ⟨g, e, h.fr o.fr⟩
  · obtain ⟨og, c, e, h⟩ := h
    exact ⟨og, c, e, o.steps h (h.neT hb ht)⟩
  · exact h
theorem AnsP.cells {n base : Nat} {ans : Cd.Ans} {w w' : World} {e : Ending} (h : AnsP n ans w e w') (hb : base ≤ w.heap.size) : Keep NoS w w' ∧ ∃ A, e = .returned (.tuple #[.agg A, fa0]) ∧ AnsC n base ans A w' := by
  obtain ⟨k, h⟩ := h
  refine ⟨k, ?_⟩
  rcases ans with ⟨T, u⟩ | ⟨st, u⟩ | u
  · obtain ⟨g, _, e, h⟩ := h
    exact ⟨_, e, g, rfl, h⟩
  · obtain ⟨o, c, e, h⟩ := h
    exact ⟨_, e, o, c, rfl, h.mono hb⟩
  · exact ⟨_, h, rfl⟩
theorem set6_B {w : World} {b : Nat} {t : TypeId} (h : TyB w b t) (ht : t ≠ TI ∧ t ≠ TBo) (a0 a1 a2 a3 a4 a5 : Value) : OneB w ((((((w.setCell ⟨b, 0, none⟩ a0).setCell ⟨b, 1, none⟩ a1).setCell ⟨b, 2, none⟩ a2).setCell ⟨b, 3, none⟩ a3).setCell ⟨b, 4, none⟩ a4).setCell ⟨b, 5, none⟩ a5) b t := ((((((OneB.refl h).set ht 0 a0).set ht 1 a1).set ht 2 a2).set ht 3 a3).set ht 4 a4).set ht 5 a5
theorem keep6 {w0 w : World} (h : Keep NoS w0 w) {b : Nat} (hb : w0.heap.size ≤ b) (a0 a1 a2 a3 a4 a5 : Value) : Keep NoS w0 ((((((w.setCell ⟨b, 0, none⟩ a0).setCell ⟨b, 1, none⟩ a1).setCell ⟨b, 2, none⟩ a2).setCell ⟨b, 3, none⟩ a3).setCell ⟨b, 4, none⟩ a4).setCell ⟨b, 5, none⟩ a5) := keep_at (keep_at (keep_at (keep_at (keep_at (keep_at h _ hb) _ hb) _ hb) _ hb) _ hb) _ hb
theorem class_okS {f : Sv.Frm} (hok : FmOK f) {holds : List Bool} : Cl.ClOK f.terms.length (Sv.classOf f holds) := by
  unfold Sv.classOf
  exact Cl.class_ok (atoms_pr hok (holds := holds) (Nat.le_refl _))
theorem viol_terms {f : Sv.Frm} (hok : FmOK f) {holds : List Bool} (c : List Int) (h : Sv.violF f holds = some c) : f.terms.length ≠ 0 := by
  intro h0
  unfold Sv.violF at h
  simp only at h
  rcases hf : (List.range f.atoms.length).find? (Sv.violB f.atoms holds (Cl.classF f.terms ((Sv.sameIdx f.atoms holds).map (Sv.pairAt f.atoms)))) with _ | i
  · rw [hf] at h; cases h
  · have hi := List.mem_range.1 (List.mem_of_find?_eq_some hf)
    have hp := List.find?_some hf
    unfold Sv.violB at hp
    rw [Bool.and_eq_true] at hp
    have h2 := of_decide_eq_true hp.1
    have e : f.atoms.getD i ⟨0, 0, 0⟩ = f.atoms[i] := by rw [List.getD_eq_getElem?_getD, List.getElem?_eq_getElem hi]; rfl
    rw [e] at h2
    rcases hok.a _ (List.getElem_mem hi) with q | q
    · omega
    · omega
/-- The count of rounds is written. -/
theorem SvL.used1 {w0 w : World} {b : Nat} {L : FmL} {f : Sv.Frm} {fuel : Int} {M : SvM} {s : Sv.SvS} (h : SvL w0 w b L f fuel M s) (u : Nat) : SvL w0 (w.setCell ⟨b, 9, none⟩ (.int .i64 (u : Int))) b L f fuel M ⟨s.cls, s.steps, u⟩ := by
  have hT := svT h
  have hfr : FrI w (w.setCell ⟨b, 9, none⟩ (.int .i64 (u : Int))) := FrI.set h.bk ⟨by decide, by decide⟩
  refine ⟨keep_at h.k _ h.hb, h.hb, ?_, own_same h.a fun q hq => heap_setCell_other w ⟨b, 9, none⟩ _ q (own_neT h.a hT (by decide) q hq), h.c.fr hfr fun q hq => heap_setCell_other w ⟨b, 9, none⟩ _ q (h.c.neT hT (by decide) q hq), h.st.fr hfr fun q hq => heap_setCell_other w ⟨b, 9, none⟩ _ q (h.st.neT hT (by decide) q hq)⟩
  rw [Go.Joins.block_setCell h.bk _]
  simp [svC]
theorem StepsT.both {w w' : World} {base : Nat} {v : Value} {l1 l2 : List Sv.Stp} {rs1 rs2 : List StR} (h1 : rs1.length = l1.length) (p1 : ∀ (i : Nat) (r : StR) (x : Sv.Stp), rs1[i]? = some r → l1[i]? = some x → r.k = x.kind ∧ r.n = x.lits.length ∧ IntsT w (.slice r.o r.n r.c) x.lits) (h2 : rs2.length = l2.length) (p2 : ∀ (i : Nat) (r : StR) (x : Sv.Stp), rs2[i]? = some r → l2[i]? = some x → r.k = x.kind ∧ r.n = x.lits.length ∧ IntsT w (.slice r.o r.n r.c) x.lits) (ho : OwnG TSt 9 stL w' base v (rs1 ++ rs2)) (k : Keep NoS w w') : StepsT w' base v (l1 ++ l2) := by
  refine ⟨rs1 ++ rs2, by simp [h1, h2], ho, fun i r x hr hx => ?_⟩
  by_cases hi : i < rs1.length
  · rw [List.getElem?_append_left hi] at hr
    rw [List.getElem?_append_left (by omega)] at hx
    obtain ⟨a, b, c⟩ := p1 i r x hr hx
    exact ⟨a, b, c.keep k⟩
  · rw [List.getElem?_append_right (by omega)] at hr
    rw [List.getElem?_append_right (by omega)] at hx
    rw [h1] at hr
    obtain ⟨a, b, c⟩ := p2 _ r x hr hx
    exact ⟨a, b, c.keep k⟩
def pstR3 (wA : World) (b b3 n : Nat) (oA oC : Option Addr) (cA nC cC : Nat) (ph : OpO) (fuel us : Int) (base : Nat) (ans : Cd.Ans) (S : Nat → Bool) : Nat → Value → World → Prop
  | 0, v, _ => v = .pointer (some ⟨b, 0, none⟩)
  | 1, v, _ => v = .pointer (some ⟨b, 0, none⟩)
  | 2, v, _ => v = .pointer (some ⟨b, 4, none⟩)
  | 3, v, _ => v = .slice oA n cA
  | 4, v, _ => v = .int .i64 (n : Int)
  | 5, v, _ => v = .pointer (some ⟨b, 0, none⟩)
  | 6, v, _ => v = .pointer (some ⟨b, 0, none⟩)
  | 7, v, _ => v = .pointer (some ⟨b, 5, none⟩)
  | 8, v, _ => v = .slice oC nC cC
  | 9, v, _ => v = .agg #[.int .i64 (n : Int), .slice oC nC cC]
  | 10, v, _ => v = .agg #[.int .i64 ph.a, .int .i64 ph.b, .int .i64 ph.c, .int .i64 ph.d]
  | 11, v, _ => v = .pointer (some ⟨b, 0, none⟩)
  | 12, v, _ => v = .pointer (some ⟨b, 0, none⟩)
  | 13, v, _ => v = .pointer (some ⟨b, 8, none⟩)
  | 14, v, _ => v = .int .i64 fuel
  | 15, v, _ => v = .pointer (some ⟨b, 0, none⟩)
  | 16, v, _ => v = .pointer (some ⟨b, 0, none⟩)
  | 17, v, _ => v = .pointer (some ⟨b, 9, none⟩)
  | 18, v, _ => v = .int .i64 us
  | 19, v, _ => v = .int .i64 (fuel - us)
  | 20, v, w => ∃ A, v = .tuple #[.agg A, fa0] ∧ AnsC n base ans A w
  | 21, v, w => ∃ A, v = .tuple #[.agg A, fa0] ∧ AnsC n base ans A w
  | 22, v, w => ∃ A, v = .agg A ∧ AnsC n base ans A w
  | 23, v, _ => v = fa0
  | 24, v, w => ∃ b', v = .pointer (some ⟨b', 0, none⟩) ∧ wA.heap.size ≤ b' ∧ TyB w b' TAn ∧ (S 26 = false → Blk w b' #[.int .i64 0, .slice none 0 0, .slice none 0 0, .slice none 0 0, .int .i64 0]) ∧ (S 26 = true → ∃ A, Blk w b' A ∧ AnsC n base ans A w)
  | 25, v, w => ∃ b', v = .pointer (some ⟨b', 0, none⟩) ∧ wA.heap.size ≤ b' ∧ TyB w b' TFa ∧ Blk w b' #[.int .i64 0, .int .i64 0]
  | 26, _, _ => True
  | 27, _, _ => True
  | _, _, _ => True
theorem pstR3_keep {wA : World} {b b3 n : Nat} {oA oC : Option Addr} {cA nC cC : Nat} {ph : OpO} {fuel us : Int} {base : Nat} {ans : Cd.Ans} {S : Nat → Bool} {w w' : World} {e : Nat} (he : e ≠ 26 ∧ e ≠ 27) (k : Keep NoS w w') : ∀ (d : Nat) (v : Value), pstR3 wA b b3 n oA oC cA nC cC ph fuel us base ans S d v w → pstR3 wA b b3 n oA oC cA nC cC ph fuel us base ans (mark S e) d v w'
  | 0, v, h => h
  | 1, v, h => h
  | 2, v, h => h
  | 3, v, h => h
  | 4, v, h => h
  | 5, v, h => h
  | 6, v, h => h
  | 7, v, h => h
  | 8, v, h => h
  | 9, v, h => h
  | 10, v, h => h
  | 11, v, h => h
  | 12, v, h => h
  | 13, v, h => h
  | 14, v, h => h
  | 15, v, h => h
  | 16, v, h => h
  | 17, v, h => h
  | 18, v, h => h
  | 19, v, h => h
  | 20, v, h => by
    obtain ⟨A, e1, h1⟩ := h
    exact ⟨A, e1, h1.keep k⟩
  | 21, v, h => by
    obtain ⟨A, e1, h1⟩ := h
    exact ⟨A, e1, h1.keep k⟩
  | 22, v, h => by
    obtain ⟨A, e1, h1⟩ := h
    exact ⟨A, e1, h1.keep k⟩
  | 23, v, h => h
  | 24, v, h => by
    obtain ⟨b', e1, h0, h1, h2, h3⟩ := h
    refine ⟨b', e1, h0, h1.keep k, fun hm => (h2 (markS_false hm)).keep k, fun hm => ?_⟩
    rw [markS_other (Ne.symm he.1)] at hm
    obtain ⟨A, q1, q2⟩ := h3 hm
    exact ⟨A, q1.keep k, q2.keep k⟩
  | 25, v, h => by
    obtain ⟨b', e1, h0, h1, h2⟩ := h
    exact ⟨b', e1, h0, h1.keep k, h2.keep k⟩
  | 26, v, h => h
  | 27, v, h => h
  | n + 28, v, h => trivial
theorem pstR3_s26 {wA : World} {b b3 n : Nat} {oA oC : Option Addr} {cA nC cC : Nat} {ph : OpO} {fuel us : Int} {base : Nat} {ans : Cd.Ans} {S : Nat → Bool} {w w' : World} {σ : Nat → Value} {b7 : Nat} (e0 : σ 24 = .pointer (some ⟨b7, 0, none⟩)) (hg : wA.heap.size ≤ b7) (hb : TyB w b7 TAn) (o : OneB w w' b7 TAn) {A0 : Array Value} (hA : Blk w' b7 A0) (hC : AnsC n base ans A0 w') : ∀ (d : Nat), d ≠ 26 → pstR3 wA b b3 n oA oC cA nC cC ph fuel us base ans S d (σ d) w → pstR3 wA b b3 n oA oC cA nC cC ph fuel us base ans (mark S 26) d (σ d) w'
  | 0, _, h => h
  | 1, _, h => h
  | 2, _, h => h
  | 3, _, h => h
  | 4, _, h => h
  | 5, _, h => h
  | 6, _, h => h
  | 7, _, h => h
  | 8, _, h => h
  | 9, _, h => h
  | 10, _, h => h
  | 11, _, h => h
  | 12, _, h => h
  | 13, _, h => h
  | 14, _, h => h
  | 15, _, h => h
  | 16, _, h => h
  | 17, _, h => h
  | 18, _, h => h
  | 19, _, h => h
  | 20, _, h => by
    obtain ⟨A, e1, h1⟩ := h
    exact ⟨A, e1, h1.one hb o (by decide)⟩
  | 21, _, h => by
    obtain ⟨A, e1, h1⟩ := h
    exact ⟨A, e1, h1.one hb o (by decide)⟩
  | 22, _, h => by
    obtain ⟨A, e1, h1⟩ := h
    exact ⟨A, e1, h1.one hb o (by decide)⟩
  | 23, _, h => h
  | 24, _, h => ⟨b7, e0, hg, o.ty, fun hm => (by rw [markS_self] at hm; cases hm), fun _ => ⟨A0, hA, hC⟩⟩
  | 25, _, h => by
    obtain ⟨b', e1, h0, h1, h2⟩ := h
    have hne : b' ≠ b7 := tyB_ne h1 hb (by decide)
    obtain ⟨A1, hA1⟩ := h1
    obtain ⟨t, ht⟩ := h2
    exact ⟨b', e1, h0, ⟨A1, (o.other b' hne).trans hA1⟩, ⟨t, (o.other b' hne).trans ht⟩⟩
  | 26, hd, h => absurd rfl hd
  | 27, _, h => h
  | n + 28, _, h => trivial
theorem pstR3_s27 {wA : World} {b b3 n : Nat} {oA oC : Option Addr} {cA nC cC : Nat} {ph : OpO} {fuel us : Int} {base : Nat} {ans : Cd.Ans} {S : Nat → Bool} {w w' : World} {σ : Nat → Value} {b7 : Nat} (e0 : σ 25 = .pointer (some ⟨b7, 0, none⟩)) (hg : wA.heap.size ≤ b7) (hb : TyB w b7 TFa) (o : OneB w w' b7 TFa) (hA : Blk w' b7 #[.int .i64 0, .int .i64 0]) : ∀ (d : Nat), d ≠ 27 → pstR3 wA b b3 n oA oC cA nC cC ph fuel us base ans S d (σ d) w → pstR3 wA b b3 n oA oC cA nC cC ph fuel us base ans (mark S 27) d (σ d) w'
  | 0, _, h => h
  | 1, _, h => h
  | 2, _, h => h
  | 3, _, h => h
  | 4, _, h => h
  | 5, _, h => h
  | 6, _, h => h
  | 7, _, h => h
  | 8, _, h => h
  | 9, _, h => h
  | 10, _, h => h
  | 11, _, h => h
  | 12, _, h => h
  | 13, _, h => h
  | 14, _, h => h
  | 15, _, h => h
  | 16, _, h => h
  | 17, _, h => h
  | 18, _, h => h
  | 19, _, h => h
  | 20, _, h => by
    obtain ⟨A, e1, h1⟩ := h
    exact ⟨A, e1, h1.one hb o (by decide)⟩
  | 21, _, h => by
    obtain ⟨A, e1, h1⟩ := h
    exact ⟨A, e1, h1.one hb o (by decide)⟩
  | 22, _, h => by
    obtain ⟨A, e1, h1⟩ := h
    exact ⟨A, e1, h1.one hb o (by decide)⟩
  | 23, _, h => h
  | 24, _, h => by
    obtain ⟨b', e1, h0, h1, h2, h3⟩ := h
    have hne : b' ≠ b7 := tyB_ne h1 hb (by decide)
    obtain ⟨A1, hA1⟩ := h1
    refine ⟨b', e1, h0, ⟨A1, (o.other b' hne).trans hA1⟩, fun hm => ?_, fun hm => ?_⟩
    · obtain ⟨t, ht⟩ := h2 (markS_false hm)
      exact ⟨t, (o.other b' hne).trans ht⟩
    · rw [markS_other (by omega)] at hm
      obtain ⟨A2, ⟨t, ht⟩, q2⟩ := h3 hm
      exact ⟨A2, ⟨t, (o.other b' hne).trans ht⟩, q2.one hb o (by decide)⟩
  | 25, _, h => ⟨b7, e0, hg, o.ty, hA⟩
  | 26, _, h => h
  | 27, hd, h => absurd rfl hd
  | n + 28, _, h => trivial
def pstR24 (wA : World) (b b14 : Nat) (fv mv : Value) (r : Bool) (S : Nat → Bool) : Nat → Value → World → Prop
  | 0, v, _ => v = .pointer (some ⟨b, 0, none⟩)
  | 1, v, _ => v = .pointer (some ⟨b, 0, none⟩)
  | 2, v, _ => v = .pointer (some ⟨b, 0, none⟩)
  | 3, v, _ => v = fv
  | 4, v, _ => v = mv
  | 5, v, _ => v = .tuple #[.bool r, fa0]
  | 6, v, _ => v = .tuple #[.bool r, fa0]
  | 7, v, _ => v = .bool r
  | 8, v, _ => v = fa0
  | 9, v, w => ∃ b', v = .pointer (some ⟨b', 0, none⟩) ∧ wA.heap.size ≤ b' ∧ TyB w b' TFa ∧ (S 11 = false → Blk w b' #[.int .i64 0, .int .i64 0])
  | 10, v, _ => v = .bool r
  | 11, _, _ => True
  | _, _, _ => True
theorem pstR24_keep {wA : World} {b b14 : Nat} {fv mv : Value} {r : Bool} {S : Nat → Bool} {w w' : World} {e : Nat} (he : e ≠ 11) (k : Keep NoS w w') : ∀ (d : Nat) (v : Value), pstR24 wA b b14 fv mv r S d v w → pstR24 wA b b14 fv mv r (mark S e) d v w'
  | 0, v, h => h
  | 1, v, h => h
  | 2, v, h => h
  | 3, v, h => h
  | 4, v, h => h
  | 5, v, h => h
  | 6, v, h => h
  | 7, v, h => h
  | 8, v, h => h
  | 9, v, h => by
    obtain ⟨b', e1, h0, h1, h2⟩ := h
    exact ⟨b', e1, h0, h1.keep k, fun hm => (h2 (markS_false hm)).keep k⟩
  | 10, v, h => h
  | 11, v, h => h
  | n + 12, v, h => trivial
theorem pstR24_store {wA : World} {b b14 : Nat} {fv mv : Value} {r : Bool} {S : Nat → Bool} {w w' : World} {b' : Nat} (hb : TyB w b' TFa) (o : OneB w w' b' TFa) : ∀ (d : Nat) (v : Value), d ≠ 11 → pstR24 wA b b14 fv mv r S d v w → pstR24 wA b b14 fv mv r (mark S 11) d v w'
  | 0, v, _, h => h
  | 1, v, _, h => h
  | 2, v, _, h => h
  | 3, v, _, h => h
  | 4, v, _, h => h
  | 5, v, _, h => h
  | 6, v, _, h => h
  | 7, v, _, h => h
  | 8, v, _, h => h
  | 9, v, _, h => by
    obtain ⟨b2, e1, h0, h1, h2⟩ := h
    refine ⟨b2, e1, h0, ?_, fun hm => by rw [markS_self] at hm; cases hm⟩
    by_cases e : b2 = b'
    · subst e; exact o.ty
    · obtain ⟨A, hA⟩ := h1
      exact ⟨A, (o.other b2 e).trans hA⟩
  | 10, v, _, h => h
  | 11, v, hd, h => absurd rfl hd
  | n + 12, v, _, h => trivial
end Go.Proofs.YtnndmdfjdodiiaaGreat
