/- Package lattice's step: what its last region leaves, whatever the order. -/
import Derived.Test.YtamjmcdlddocgaaLcF
namespace Go.Proofs.Ytamjmcdlddocgaa
open Go.ChangeShapes Go.WideShapes Go.RowKit
set_option linter.unusedVariables false
set_option linter.unusedSimpArgs false

/-- A system, where only later blocks changed. -/
theorem YC.below {w0 w w' : World} {hi bY gc n L cc : Nat} {vr : Value} {xs : List ColV} (h : YC w0 w hi bY gc vr n L cc xs) (k : Below hi w w') (h0 : w0.heap.size ≤ hi) : YC w0 w' hi bY gc vr n L cc xs :=
  h.off (Keep.of_below ((Keep.bel h.k).trans (k.mono h0)) (Nat.le_refl _)) k.size fun b _ hlt => k.block b hlt
theorem app_intZ {w : World} {base : Nat} {v : Value} {xs : List Int} (hown : OwnI w base v xs) {b : Nat} {x : Int} (hb : Blk w b #[.int .i64 x]) (hl : xs.length ≤ 1000) (hbase : base ≤ w.heap.size) :
    ∃ v' w', (Builtin.append_ #[40, 40] 40 #[v, .slice (some ⟨b, 0, none⟩) 1 1]).run Try.prog w = .ok v' w' ∧ OwnI w' base v' (xs ++ [x]) ∧ w.grownBy w' v.ownBlock ∧ (v'.ownBlock = v.ownBlock ∨ v'.ownBlock = some w.heap.size) := by
  obtain ⟨i0, hi0, hz0, hz1, hz2⟩ := info_parts infoI
  obtain ⟨v', w', hr, ho, hgr, _, hv⟩ := run_append_own_at (P := Try.prog) w base 40 40 TI i0 (.int .i64 0) 1 8 Try.underlying40 hi0 hz0 hz1 hz2 rfl (by decide) v xs.length (iv xs) hown ⟨b, 0, none⟩ 1 1 [.int .i64 x] rfl
    (fun j u hj => by rw [add_plain, Nat.zero_add, hb.cell j]; simpa using hj) (by intro u hu; rw [List.mem_singleton.1 hu]; rfl) (by unfold maxLen; omega) (by omega) hbase
  refine ⟨v', w', hr, ?_, hgr, hv⟩
  unfold OwnI
  rw [iv_app, List.length_append]
  simpa [iv] using ho
theorem app_numZ {w : World} {base : Nat} {v : Value} {qs : List Rat} (hown : OwnN w base v qs) {b : Nat} {x : NV} {q : Rat} (hb : Blk w b #[.bool x.nb, .string x.nS, .bool x.db, .string x.dS]) (hx : IsNum x.v q) (hl : qs.length ≤ 1000) (hbase : base ≤ w.heap.size) :
    ∃ v' w', (Builtin.append_ #[66, 66] 66 #[v, .slice (some ⟨b, 0, none⟩) 1 1]).run Try.prog w = .ok v' w' ∧ OwnN w' base v' (qs ++ [q]) ∧ w.grownBy w' v.ownBlock ∧ (v'.ownBlock = v.ownBlock ∨ v'.ownBlock = some w.heap.size) := by
  obtain ⟨i0, hi0, hz0, hz1, hz2⟩ := info_parts infoNum
  obtain ⟨l, hA, hown⟩ := hown
  have hlen := hA.1
  obtain ⟨v', w', hr, ho, hgr, _, hv⟩ := run_append_own_at (P := Try.prog) w base 66 66 TNum i0 (.agg #[.bool false, .string ⟨#[]⟩, .bool false, .string ⟨#[]⟩]) 4 48 Try.underlying66 hi0 hz0 hz1 hz2 rfl (by decide) v l.length (nvs l) hown ⟨b, 0, none⟩ 1 1 x.L (by simp [NV.L])
    (fun j u hj => by rw [add_plain, Nat.zero_add, hb.cell j]; simpa [NV.L] using hj) (by intro u hu; simp [NV.L] at hu; rcases hu with rfl | rfl | rfl | rfl <;> rfl) (by unfold maxLen; omega) (by omega) hbase
  exact ⟨v', w', hr, ⟨l ++ [x], hA.push hx, by rw [← nvs_app, List.length_append]; exact ho⟩, hgr, hv⟩
theorem app_fnZ {w : World} {base : Nat} {v : Value} {fs : List FnV} (hown : OwnG TYN 1 fnC w base v fs) {b : Nat} {x : FnV} (hb : Blk w b #[x.sv]) (h1 : x.sv.oneCell' = true) (hl : fs.length ≤ 1000) (hbase : base ≤ w.heap.size) :
    ∃ v' w', (Builtin.append_ #[87, 87] 87 #[v, .slice (some ⟨b, 0, none⟩) 1 1]).run Try.prog w = .ok v' w' ∧ OwnG TYN 1 fnC w' base v' (fs ++ [x]) ∧ w.grownBy w' v.ownBlock ∧ (v'.ownBlock = v.ownBlock ∨ v'.ownBlock = some w.heap.size) := by
  obtain ⟨i0, hi0, hz0, hz1, hz2⟩ := info_parts infoYN
  exact OwnG.app fnC_len Try.underlying87 hi0 hz0 hz1 hz2 rfl (by decide) hown (x := x) hb (by
    intro y hy
    simp [fnC] at hy
    subst hy
    exact h1) (by unfold maxLen; omega) (by omega) hbase

/-- A block besides. -/
def EB (w : World) (bS : Nat) (P Q F : Value) (b : Nat) (A : Array Value) : Prop := Blk w b A ∧ b ≠ bS ∧ P.ownBlock ≠ some b ∧ Q.ownBlock ≠ some b ∧ F.ownBlock ≠ some b
def TE (w : World) (bS : Nat) (P Q F : Value) (c : Bool) (v : Value) (A : Array Value) : Prop := c = true → ∃ b, v = .slice (some ⟨b, 0, none⟩) 1 1 ∧ EB w bS P Q F b A
/-- What the region holds on its way. -/
structure CC (wr w : World) (hi bS bY b5 : Nat) (c1 c2 c3 P Q F : Value) (pl : List Int) (ql : List Rat) (fl : List FnV) (u : FnV) (X : Array Value) (s8 s15 s22 : Bool) (v8 v15 v22 : Value) (A8 A15 A22 : Array Value) : Prop where
  k : Below hi wr w
  x : SX w hi bS bY c1 c2 c3 P Q F pl ql fl
  u : OwnN w hi u.sv u.q ∧ u.sv.ownBlock ≠ some bS ∧ Apart P u.sv ∧ Apart Q u.sv ∧ Apart F u.sv
  t5 : EB w bS P Q F b5 X
  t8 : TE w bS P Q F s8 v8 A8
  t15 : TE w bS P Q F s15 v15 A15
  t22 : TE w bS P Q F s22 v22 A22
theorem EB.keep {w w' : World} {bS b : Nat} {P Q F : Value} {A : Array Value} (h : EB w bS P Q F b A) (k : Keep NoS w w') : EB w' bS P Q F b A := ⟨h.1.keep k, h.2⟩
theorem TE.keep {w w' : World} {bS : Nat} {P Q F v : Value} {c : Bool} {A : Array Value} (h : TE w bS P Q F c v A) (k : Keep NoS w w') : TE w' bS P Q F c v A := fun hc => by
  obtain ⟨b, e, h⟩ := h hc
  exact ⟨b, e, h.keep k⟩
section
variable {wr w : World} {hi bS bY b5 : Nat} {c1 c2 c3 P Q F : Value} {pl : List Int} {ql : List Rat} {fl : List FnV} {u : FnV} {X : Array Value} {s8 s15 s22 : Bool} {v8 v15 v22 : Value} {A8 A15 A22 : Array Value}
theorem SX.ebNew (h : SX w hi bS bY c1 c2 c3 P Q F pl ql fl) (A : Array Value) (t : TypeId) : EB (w.alloc (.cells A t)) bS P Q F w.heap.size A := by
  have hc := h.fresh (Nat.le_refl w.heap.size)
  exact ⟨blk_at _ _ rfl, hc.1, hc.2.1, hc.2.2.1, hc.2.2.2.1⟩
theorem CC.keep {w' : World} (h : CC wr w hi bS bY b5 c1 c2 c3 P Q F pl ql fl u X s8 s15 s22 v8 v15 v22 A8 A15 A22) (k : Keep NoS w w') : CC wr w' hi bS bY b5 c1 c2 c3 P Q F pl ql fl u X s8 s15 s22 v8 v15 v22 A8 A15 A22 :=
  ⟨h.k.trans (k.below h.x.hh fun _ _ h => h.elim), h.x.keep k, ⟨h.u.1.keep k, h.u.2⟩, h.t5.keep k, h.t8.keep k, h.t15.keep k, h.t22.keep k⟩

theorem CC.build8 (h : CC wr w hi bS bY b5 c1 c2 c3 P Q F pl ql fl u X s8 s15 s22 v8 v15 v22 A8 A15 A22) (t : TypeId) : CC wr (w.alloc (.cells A8 t)) hi bS bY b5 c1 c2 c3 P Q F pl ql fl u X true s15 s22 (.slice (some ⟨w.heap.size, 0, none⟩) 1 1) v15 v22 A8 A15 A22 := by
  have h' := h.keep ((Keep.refl NoS w).alloc (.cells A8 t))
  exact ⟨h'.k, h'.x, h'.u, h'.t5, fun _ => ⟨_, rfl, h.x.ebNew _ _⟩, h.t15.keep ((Keep.refl _ _).alloc _), h.t22.keep ((Keep.refl _ _).alloc _)⟩
theorem CC.build15 (h : CC wr w hi bS bY b5 c1 c2 c3 P Q F pl ql fl u X s8 s15 s22 v8 v15 v22 A8 A15 A22) (t : TypeId) : CC wr (w.alloc (.cells A15 t)) hi bS bY b5 c1 c2 c3 P Q F pl ql fl u X s8 true s22 v8 (.slice (some ⟨w.heap.size, 0, none⟩) 1 1) v22 A8 A15 A22 := by
  have h' := h.keep ((Keep.refl NoS w).alloc (.cells A15 t))
  exact ⟨h'.k, h'.x, h'.u, h'.t5, h.t8.keep ((Keep.refl _ _).alloc _), fun _ => ⟨_, rfl, h.x.ebNew _ _⟩, h.t22.keep ((Keep.refl _ _).alloc _)⟩
theorem CC.build22 (h : CC wr w hi bS bY b5 c1 c2 c3 P Q F pl ql fl u X s8 s15 s22 v8 v15 v22 A8 A15 A22) (t : TypeId) : CC wr (w.alloc (.cells A22 t)) hi bS bY b5 c1 c2 c3 P Q F pl ql fl u X s8 s15 true v8 v15 (.slice (some ⟨w.heap.size, 0, none⟩) 1 1) A8 A15 A22 := by
  have h' := h.keep ((Keep.refl NoS w).alloc (.cells A22 t))
  exact ⟨h'.k, h'.x, h'.u, h'.t5, h.t8.keep ((Keep.refl _ _).alloc _), h.t15.keep ((Keep.refl _ _).alloc _), fun _ => ⟨_, rfl, h.x.ebNew _ _⟩⟩
theorem EB.grow {w' : World} {R R' : Value} {b : Nat} {A : Array Value} (hb : Blk w b A) (hR : R.ownBlock ≠ some b) (hg : w.grownBy w' R.ownBlock) (hlt : ∀ k, R.ownBlock = some k → k < w.heap.size) (hv : R'.ownBlock = R.ownBlock ∨ R'.ownBlock = some w.heap.size) : Blk w' b A ∧ R'.ownBlock ≠ some b :=
  ⟨hb.sameZ (hg.block b hb.lt fun e => hR e.symm), grown_apart (w := w) (w' := w') hlt hv hb.lt hR⟩

theorem CC.pushP {w' : World} {R' : Value} (x : Int) (h : CC wr w hi bS bY b5 c1 c2 c3 P Q F pl ql fl u X s8 s15 s22 v8 v15 v22 A8 A15 A22) (ho : OwnI w' hi R' (pl ++ [x])) (hg : w.grownBy w' P.ownBlock) (hv : R'.ownBlock = P.ownBlock ∨ R'.ownBlock = some w.heap.size) : CC wr w' hi bS bY b5 c1 c2 c3 R' Q F (pl ++ [x]) ql fl u X false s15 s22 v8 v15 v22 A8 A15 A22 := by
  have eb : ∀ {b : Nat} {A : Array Value}, EB w bS P Q F b A → EB w' bS R' Q F b A := fun h1 => by
    have h' := h
    have a := EB.grow h1.1 h1.2.2.1 hg h.x.p.ltZ hv
    have h := h1
    exact ⟨a.1, h.2.1, a.2, h.2.2.2.1, h.2.2.2.2⟩
  have te : ∀ {c : Bool} {v : Value} {A : Array Value}, TE w bS P Q F c v A → TE w' bS R' Q F c v A := fun h1 hc => by
    obtain ⟨b, e, h2⟩ := h1 hc
    exact ⟨b, e, eb h2⟩
  have ub := fun k hk => hg.block k (h.u.1.ltZ k hk) fun e => h.u.2.2.1 k e.symm hk
  exact ⟨h.k.grown hg h.x.hh h.x.p.block, h.x.pushP x ho hg hv, ⟨h.u.1.sameZ ub, h.u.2.1, fun k hk e => grown_apart (w := w) (w' := w') h.x.p.ltZ hv (h.u.1.ltZ k e) (fun e' => h.u.2.2.1 k e' e) hk, h.u.2.2.2.1, h.u.2.2.2.2⟩, eb h.t5, (fun hc => by cases hc), te h.t15, te h.t22⟩
theorem CC.pushQ {w' : World} {R' : Value} (x : Rat) (h : CC wr w hi bS bY b5 c1 c2 c3 P Q F pl ql fl u X s8 s15 s22 v8 v15 v22 A8 A15 A22) (ho : OwnN w' hi R' (ql ++ [x])) (hg : w.grownBy w' Q.ownBlock) (hv : R'.ownBlock = Q.ownBlock ∨ R'.ownBlock = some w.heap.size) : CC wr w' hi bS bY b5 c1 c2 c3 P R' F pl (ql ++ [x]) fl u X s8 false s22 v8 v15 v22 A8 A15 A22 := by
  have eb : ∀ {b : Nat} {A : Array Value}, EB w bS P Q F b A → EB w' bS P R' F b A := fun h1 => by
    have h' := h
    have a := EB.grow h1.1 h1.2.2.2.1 hg h.x.q.ltZ hv
    have h := h1
    exact ⟨a.1, h.2.1, h.2.2.1, a.2, h.2.2.2.2⟩
  have te : ∀ {c : Bool} {v : Value} {A : Array Value}, TE w bS P Q F c v A → TE w' bS P R' F c v A := fun h1 hc => by
    obtain ⟨b, e, h2⟩ := h1 hc
    exact ⟨b, e, eb h2⟩
  have ub := fun k hk => hg.block k (h.u.1.ltZ k hk) fun e => h.u.2.2.2.1 k e.symm hk
  exact ⟨h.k.grown hg h.x.hh h.x.q.block, h.x.pushQ x ho hg hv, ⟨h.u.1.sameZ ub, h.u.2.1, h.u.2.2.1, fun k hk e => grown_apart (w := w) (w' := w') h.x.q.ltZ hv (h.u.1.ltZ k e) (fun e' => h.u.2.2.2.1 k e' e) hk, h.u.2.2.2.2⟩, eb h.t5, te h.t8, (fun hc => by cases hc), te h.t22⟩
theorem CC.pushF {w' : World} {R' : Value} (h : CC wr w hi bS bY b5 c1 c2 c3 P Q F pl ql fl u X s8 s15 s22 v8 v15 v22 A8 A15 A22) (ho : OwnG TYN 1 fnC w' hi R' (fl ++ [u])) (hg : w.grownBy w' F.ownBlock) (hv : R'.ownBlock = F.ownBlock ∨ R'.ownBlock = some w.heap.size) : CC wr w' hi bS bY b5 c1 c2 c3 P Q R' pl ql (fl ++ [u]) u X s8 s15 false v8 v15 v22 A8 A15 A22 := by
  have eb : ∀ {b : Nat} {A : Array Value}, EB w bS P Q F b A → EB w' bS P Q R' b A := fun h1 => by
    have h' := h
    have a := EB.grow h1.1 h1.2.2.2.2 hg h.x.f.lt hv
    have h := h1
    exact ⟨a.1, h.2.1, h.2.2.1, h.2.2.2.1, a.2⟩
  have te : ∀ {c : Bool} {v : Value} {A : Array Value}, TE w bS P Q F c v A → TE w' bS P Q R' c v A := fun h1 hc => by
    obtain ⟨b, e, h2⟩ := h1 hc
    exact ⟨b, e, eb h2⟩
  have ub := fun k hk => hg.block k (h.u.1.ltZ k hk) fun e => h.u.2.2.2.2 k e.symm hk
  exact ⟨h.k.grown hg h.x.hh h.x.f.block, h.x.pushF u h.u ho hg hv, ⟨h.u.1.sameZ ub, h.u.2.1, h.u.2.2.1, h.u.2.2.2.1, fun k hk e => grown_apart (w := w) (w' := w') h.x.f.lt hv (h.u.1.ltZ k e) (fun e' => h.u.2.2.2.2 k e' e) hk⟩, eb h.t5, te h.t8, te h.t15, (fun hc => by cases hc)⟩
theorem CC.store1 (h : CC wr w hi bS bY b5 c1 c2 c3 P Q F pl ql fl u X s8 s15 s22 v8 v15 v22 A8 A15 A22) : CC wr (w.setCell ⟨bS, 1, none⟩ P) hi bS bY b5 P c2 c3 P Q F pl ql fl u X s8 s15 s22 v8 v15 v22 A8 A15 A22 := by
  have ho : ∀ b, b ≠ bS → (w.setCell ⟨bS, 1, none⟩ P).heap[b]? = w.heap[b]? := fun b hb => heap_setCell_other _ _ _ _ hb
  have te : ∀ {c : Bool} {v : Value} {A : Array Value}, TE w bS P Q F c v A → TE (w.setCell ⟨bS, 1, none⟩ P) bS P Q F c v A := fun h1 hc => by
    obtain ⟨b, e, h2, h3⟩ := h1 hc
    exact ⟨b, e, h2.sameZ (ho b h3.1), h3⟩
  exact ⟨h.k.setCell h.x.hb _, h.x.cells (h.x.s.set 1 P) (by simp) ho, ⟨h.u.1.sameZ fun k hk => ho k fun e => h.u.2.1 (e ▸ hk), h.u.2⟩, ⟨h.t5.1.sameZ (ho _ h.t5.2.1), h.t5.2⟩, te h.t8, te h.t15, te h.t22⟩
theorem CC.store2 (h : CC wr w hi bS bY b5 c1 c2 c3 P Q F pl ql fl u X s8 s15 s22 v8 v15 v22 A8 A15 A22) : CC wr (w.setCell ⟨bS, 2, none⟩ Q) hi bS bY b5 c1 Q c3 P Q F pl ql fl u X s8 s15 s22 v8 v15 v22 A8 A15 A22 := by
  have ho : ∀ b, b ≠ bS → (w.setCell ⟨bS, 2, none⟩ Q).heap[b]? = w.heap[b]? := fun b hb => heap_setCell_other _ _ _ _ hb
  have te : ∀ {c : Bool} {v : Value} {A : Array Value}, TE w bS P Q F c v A → TE (w.setCell ⟨bS, 2, none⟩ Q) bS P Q F c v A := fun h1 hc => by
    obtain ⟨b, e, h2, h3⟩ := h1 hc
    exact ⟨b, e, h2.sameZ (ho b h3.1), h3⟩
  exact ⟨h.k.setCell h.x.hb _, h.x.cells (h.x.s.set 2 Q) (by simp) ho, ⟨h.u.1.sameZ fun k hk => ho k fun e => h.u.2.1 (e ▸ hk), h.u.2⟩, ⟨h.t5.1.sameZ (ho _ h.t5.2.1), h.t5.2⟩, te h.t8, te h.t15, te h.t22⟩
theorem CC.store3 (h : CC wr w hi bS bY b5 c1 c2 c3 P Q F pl ql fl u X s8 s15 s22 v8 v15 v22 A8 A15 A22) : CC wr (w.setCell ⟨bS, 3, none⟩ F) hi bS bY b5 c1 c2 F P Q F pl ql fl u X s8 s15 s22 v8 v15 v22 A8 A15 A22 := by
  have ho : ∀ b, b ≠ bS → (w.setCell ⟨bS, 3, none⟩ F).heap[b]? = w.heap[b]? := fun b hb => heap_setCell_other _ _ _ _ hb
  have te : ∀ {c : Bool} {v : Value} {A : Array Value}, TE w bS P Q F c v A → TE (w.setCell ⟨bS, 3, none⟩ F) bS P Q F c v A := fun h1 hc => by
    obtain ⟨b, e, h2, h3⟩ := h1 hc
    exact ⟨b, e, h2.sameZ (ho b h3.1), h3⟩
  exact ⟨h.k.setCell h.x.hb _, h.x.cells (h.x.s.set 3 F) (by simp) ho, ⟨h.u.1.sameZ fun k hk => ho k fun e => h.u.2.1 (e ▸ hk), h.u.2⟩, ⟨h.t5.1.sameZ (ho _ h.t5.2.1), h.t5.2⟩, te h.t8, te h.t15, te h.t22⟩
end

/-- What the last region holds on its way: S: which operations have come, σ: what they left. -/
def C20 (wr : World) (hi bS bY b5 : Nat) (pv qv fv : Value) (piv : List Int) (part : List Rat) (fs : List FnV) (u : FnV) (x : Int) (rq : Rat) (X : Array Value) (S : Nat → Bool) (σ : Nat → Value) (w : World) : Prop :=
  CC wr w hi bS bY b5 (if S 26 = true then σ 9 else pv) (if S 29 = true then σ 16 else qv) (if S 32 = true then σ 23 else fv) (if S 9 = true then σ 9 else pv) (if S 16 = true then σ 16 else qv) (if S 23 = true then σ 23 else fv)
    (if S 9 = true then piv ++ [x] else piv) (if S 16 = true then part ++ [rq] else part) (if S 23 = true then fs ++ [u] else fs) u X (S 8 && !S 9) (S 15 && !S 16) (S 22 && !S 23) (σ 8) (σ 15) (σ 22) #[.int .i64 x] X #[u.sv]
theorem C20_q {wr : World} {hi bS bY b5 : Nat} {pv qv fv : Value} {piv : List Int} {part : List Rat} {fs : List FnV} {u : FnV} {x : Int} {rq : Rat} {X : Array Value} {S : Nat → Bool} {σ : Nat → Value} {w : World} {e : Nat} {v : Value} (he : e ≠ 8 ∧ e ≠ 9 ∧ e ≠ 15 ∧ e ≠ 16 ∧ e ≠ 22 ∧ e ≠ 23 ∧ e ≠ 26 ∧ e ≠ 29 ∧ e ≠ 32) (h : C20 wr hi bS bY b5 pv qv fv piv part fs u x rq X S σ w) : C20 wr hi bS bY b5 pv qv fv piv part fs u x rq X (mark S e) (upd σ e v) w := by
  obtain ⟨h1, h2, h3, h4, h5, h6, h7, h8, h9⟩ := he
  unfold C20 mark upd
  simp only [if_neg (Ne.symm h1), if_neg (Ne.symm h2), if_neg (Ne.symm h3), if_neg (Ne.symm h4), if_neg (Ne.symm h5), if_neg (Ne.symm h6), if_neg (Ne.symm h7), if_neg (Ne.symm h8), if_neg (Ne.symm h9)]
  exact h
theorem C20_8 {wr : World} {hi bS bY b5 : Nat} {pv qv fv : Value} {piv : List Int} {part : List Rat} {fs : List FnV} {u : FnV} {x : Int} {rq : Rat} {X : Array Value} {S : Nat → Bool} {σ : Nat → Value} {w : World} (h : C20 wr hi bS bY b5 pv qv fv piv part fs u x rq X S σ w) (ha : S 9 = false) (t : TypeId) : C20 wr hi bS bY b5 pv qv fv piv part fs u x rq X (mark S 8) (upd σ 8 (.slice (some ⟨w.heap.size, 0, none⟩) 1 1)) (w.alloc (.cells #[.int .i64 x] t)) := by
  have h := CC.build8 h t
  unfold C20 mark upd
  simp only [Nat.reduceEqDiff, if_true, if_false, Bool.true_and, Bool.not_true, Bool.and_false, Bool.and_true, Bool.not_false, ha, Bool.false_eq_true]
  simp only [ha, Bool.false_eq_true, if_false] at h
  exact h
theorem C20_15 {wr : World} {hi bS bY b5 : Nat} {pv qv fv : Value} {piv : List Int} {part : List Rat} {fs : List FnV} {u : FnV} {x : Int} {rq : Rat} {X : Array Value} {S : Nat → Bool} {σ : Nat → Value} {w : World} (h : C20 wr hi bS bY b5 pv qv fv piv part fs u x rq X S σ w) (ha : S 16 = false) (t : TypeId) : C20 wr hi bS bY b5 pv qv fv piv part fs u x rq X (mark S 15) (upd σ 15 (.slice (some ⟨w.heap.size, 0, none⟩) 1 1)) (w.alloc (.cells X t)) := by
  have h := CC.build15 h t
  unfold C20 mark upd
  simp only [Nat.reduceEqDiff, if_true, if_false, Bool.true_and, Bool.not_true, Bool.and_false, Bool.and_true, Bool.not_false, ha, Bool.false_eq_true]
  simp only [ha, Bool.false_eq_true, if_false] at h
  exact h
theorem C20_22 {wr : World} {hi bS bY b5 : Nat} {pv qv fv : Value} {piv : List Int} {part : List Rat} {fs : List FnV} {u : FnV} {x : Int} {rq : Rat} {X : Array Value} {S : Nat → Bool} {σ : Nat → Value} {w : World} (h : C20 wr hi bS bY b5 pv qv fv piv part fs u x rq X S σ w) (ha : S 23 = false) (t : TypeId) : C20 wr hi bS bY b5 pv qv fv piv part fs u x rq X (mark S 22) (upd σ 22 (.slice (some ⟨w.heap.size, 0, none⟩) 1 1)) (w.alloc (.cells #[u.sv] t)) := by
  have h := CC.build22 h t
  unfold C20 mark upd
  simp only [Nat.reduceEqDiff, if_true, if_false, Bool.true_and, Bool.not_true, Bool.and_false, Bool.and_true, Bool.not_false, ha, Bool.false_eq_true]
  simp only [ha, Bool.false_eq_true, if_false] at h
  exact h
theorem C20_9 {wr : World} {hi bS bY b5 : Nat} {pv qv fv : Value} {piv : List Int} {part : List Rat} {fs : List FnV} {u : FnV} {x : Int} {rq : Rat} {X : Array Value} {S : Nat → Bool} {σ : Nat → Value} {w w' : World} {R' : Value} (h : C20 wr hi bS bY b5 pv qv fv piv part fs u x rq X S σ w) (h0 : S 9 = false) (hs : S 26 = false) (ho : OwnI w' hi R' (piv ++ [x])) (hg : w.grownBy w' (pv).ownBlock) (hv : R'.ownBlock = (pv).ownBlock ∨ R'.ownBlock = some w.heap.size) : C20 wr hi bS bY b5 pv qv fv piv part fs u x rq X (mark S 9) (upd σ 9 R') w' := by
  unfold C20 at h
  simp only [h0, hs, Bool.false_eq_true, if_false] at h
  have h := CC.pushP x h ho hg hv
  unfold C20 mark upd
  simp only [Nat.reduceEqDiff, if_true, if_false, Bool.true_and, Bool.not_true, Bool.and_false, Bool.and_true, Bool.not_false, hs, Bool.false_eq_true]
  exact h
theorem C20_16 {wr : World} {hi bS bY b5 : Nat} {pv qv fv : Value} {piv : List Int} {part : List Rat} {fs : List FnV} {u : FnV} {x : Int} {rq : Rat} {X : Array Value} {S : Nat → Bool} {σ : Nat → Value} {w w' : World} {R' : Value} (h : C20 wr hi bS bY b5 pv qv fv piv part fs u x rq X S σ w) (h0 : S 16 = false) (hs : S 29 = false) (ho : OwnN w' hi R' (part ++ [rq])) (hg : w.grownBy w' (qv).ownBlock) (hv : R'.ownBlock = (qv).ownBlock ∨ R'.ownBlock = some w.heap.size) : C20 wr hi bS bY b5 pv qv fv piv part fs u x rq X (mark S 16) (upd σ 16 R') w' := by
  unfold C20 at h
  simp only [h0, hs, Bool.false_eq_true, if_false] at h
  have h := CC.pushQ rq h ho hg hv
  unfold C20 mark upd
  simp only [Nat.reduceEqDiff, if_true, if_false, Bool.true_and, Bool.not_true, Bool.and_false, Bool.and_true, Bool.not_false, hs, Bool.false_eq_true]
  exact h
theorem C20_23 {wr : World} {hi bS bY b5 : Nat} {pv qv fv : Value} {piv : List Int} {part : List Rat} {fs : List FnV} {u : FnV} {x : Int} {rq : Rat} {X : Array Value} {S : Nat → Bool} {σ : Nat → Value} {w w' : World} {R' : Value} (h : C20 wr hi bS bY b5 pv qv fv piv part fs u x rq X S σ w) (h0 : S 23 = false) (hs : S 32 = false) (ho : OwnG TYN 1 fnC w' hi R' (fs ++ [u])) (hg : w.grownBy w' (fv).ownBlock) (hv : R'.ownBlock = (fv).ownBlock ∨ R'.ownBlock = some w.heap.size) : C20 wr hi bS bY b5 pv qv fv piv part fs u x rq X (mark S 23) (upd σ 23 R') w' := by
  unfold C20 at h
  simp only [h0, hs, Bool.false_eq_true, if_false] at h
  have h := CC.pushF h ho hg hv
  unfold C20 mark upd
  simp only [Nat.reduceEqDiff, if_true, if_false, Bool.true_and, Bool.not_true, Bool.and_false, Bool.and_true, Bool.not_false, hs, Bool.false_eq_true]
  exact h
theorem C20_26 {wr : World} {hi bS bY b5 : Nat} {pv qv fv : Value} {piv : List Int} {part : List Rat} {fs : List FnV} {u : FnV} {x : Int} {rq : Rat} {X : Array Value} {S : Nat → Bool} {σ : Nat → Value} {w : World} {v : Value} (h : C20 wr hi bS bY b5 pv qv fv piv part fs u x rq X S σ w) (ha : S 9 = true) : C20 wr hi bS bY b5 pv qv fv piv part fs u x rq X (mark S 26) (upd σ 26 v) (w.setCell ⟨bS, 1, none⟩ (σ 9)) := by
  unfold C20 at h
  have h := CC.store1 h
  unfold C20 mark upd
  simp only [Nat.reduceEqDiff, if_true, if_false, ha]
  simp only [ha, if_true] at h
  exact h
theorem C20_29 {wr : World} {hi bS bY b5 : Nat} {pv qv fv : Value} {piv : List Int} {part : List Rat} {fs : List FnV} {u : FnV} {x : Int} {rq : Rat} {X : Array Value} {S : Nat → Bool} {σ : Nat → Value} {w : World} {v : Value} (h : C20 wr hi bS bY b5 pv qv fv piv part fs u x rq X S σ w) (ha : S 16 = true) : C20 wr hi bS bY b5 pv qv fv piv part fs u x rq X (mark S 29) (upd σ 29 v) (w.setCell ⟨bS, 2, none⟩ (σ 16)) := by
  unfold C20 at h
  have h := CC.store2 h
  unfold C20 mark upd
  simp only [Nat.reduceEqDiff, if_true, if_false, ha]
  simp only [ha, if_true] at h
  exact h
theorem C20_32 {wr : World} {hi bS bY b5 : Nat} {pv qv fv : Value} {piv : List Int} {part : List Rat} {fs : List FnV} {u : FnV} {x : Int} {rq : Rat} {X : Array Value} {S : Nat → Bool} {σ : Nat → Value} {w : World} {v : Value} (h : C20 wr hi bS bY b5 pv qv fv piv part fs u x rq X S σ w) (ha : S 23 = true) : C20 wr hi bS bY b5 pv qv fv piv part fs u x rq X (mark S 32) (upd σ 32 v) (w.setCell ⟨bS, 3, none⟩ (σ 23)) := by
  unfold C20 at h
  have h := CC.store3 h
  unfold C20 mark upd
  simp only [Nat.reduceEqDiff, if_true, if_false, ha]
  simp only [ha, if_true] at h
  exact h
theorem C20_s {wr : World} {hi bS bY b5 : Nat} {pv qv fv : Value} {piv : List Int} {part : List Rat} {fs : List FnV} {u : FnV} {x : Int} {rq : Rat} {X : Array Value} {S : Nat → Bool} {σ : Nat → Value} {w : World} (h : C20 wr hi bS bY b5 pv qv fv piv part fs u x rq X S σ w) : Blk w bS #[.pointer (some ⟨bY, 0, none⟩), (if S 26 = true then σ 9 else pv), (if S 29 = true then σ 16 else qv), (if S 32 = true then σ 23 else fv)] := CC.x h |>.s
theorem C20_h {wr : World} {hi bS bY b5 : Nat} {pv qv fv : Value} {piv : List Int} {part : List Rat} {fs : List FnV} {u : FnV} {x : Int} {rq : Rat} {X : Array Value} {S : Nat → Bool} {σ : Nat → Value} {w : World} (h : C20 wr hi bS bY b5 pv qv fv piv part fs u x rq X S σ w) : hi ≤ w.heap.size := CC.x h |>.hh
theorem C20_b {wr : World} {hi bS bY b5 : Nat} {pv qv fv : Value} {piv : List Int} {part : List Rat} {fs : List FnV} {u : FnV} {x : Int} {rq : Rat} {X : Array Value} {S : Nat → Bool} {σ : Nat → Value} {w : World} (h : C20 wr hi bS bY b5 pv qv fv piv part fs u x rq X S σ w) : Blk w b5 X := (CC.t5 h).1
theorem C20_p {wr : World} {hi bS bY b5 : Nat} {pv qv fv : Value} {piv : List Int} {part : List Rat} {fs : List FnV} {u : FnV} {x : Int} {rq : Rat} {X : Array Value} {S : Nat → Bool} {σ : Nat → Value} {w : World} (h : C20 wr hi bS bY b5 pv qv fv piv part fs u x rq X S σ w) : OwnI w hi (if S 9 = true then σ 9 else pv) (if S 9 = true then piv ++ [x] else piv) := CC.x h |>.p
theorem C20_n {wr : World} {hi bS bY b5 : Nat} {pv qv fv : Value} {piv : List Int} {part : List Rat} {fs : List FnV} {u : FnV} {x : Int} {rq : Rat} {X : Array Value} {S : Nat → Bool} {σ : Nat → Value} {w : World} (h : C20 wr hi bS bY b5 pv qv fv piv part fs u x rq X S σ w) : OwnN w hi (if S 16 = true then σ 16 else qv) (if S 16 = true then part ++ [rq] else part) := CC.x h |>.q
theorem C20_f {wr : World} {hi bS bY b5 : Nat} {pv qv fv : Value} {piv : List Int} {part : List Rat} {fs : List FnV} {u : FnV} {x : Int} {rq : Rat} {X : Array Value} {S : Nat → Bool} {σ : Nat → Value} {w : World} (h : C20 wr hi bS bY b5 pv qv fv piv part fs u x rq X S σ w) : OwnG TYN 1 fnC w hi (if S 23 = true then σ 23 else fv) (if S 23 = true then fs ++ [u] else fs) := CC.x h |>.f
theorem C20_t8 {wr : World} {hi bS bY b5 : Nat} {pv qv fv : Value} {piv : List Int} {part : List Rat} {fs : List FnV} {u : FnV} {x : Int} {rq : Rat} {X : Array Value} {S : Nat → Bool} {σ : Nat → Value} {w : World} (h : C20 wr hi bS bY b5 pv qv fv piv part fs u x rq X S σ w) (h1 : S 8 = true) (h2 : S 9 = false) : ∃ b, σ 8 = .slice (some ⟨b, 0, none⟩) 1 1 ∧ Blk w b #[.int .i64 x] := by
  obtain ⟨b, e, h, _⟩ := CC.t8 h (by rw [h1, h2]; rfl)
  exact ⟨b, e, h⟩
theorem C20_t15 {wr : World} {hi bS bY b5 : Nat} {pv qv fv : Value} {piv : List Int} {part : List Rat} {fs : List FnV} {u : FnV} {x : Int} {rq : Rat} {X : Array Value} {S : Nat → Bool} {σ : Nat → Value} {w : World} (h : C20 wr hi bS bY b5 pv qv fv piv part fs u x rq X S σ w) (h1 : S 15 = true) (h2 : S 16 = false) : ∃ b, σ 15 = .slice (some ⟨b, 0, none⟩) 1 1 ∧ Blk w b X := by
  obtain ⟨b, e, h, _⟩ := CC.t15 h (by rw [h1, h2]; rfl)
  exact ⟨b, e, h⟩
theorem C20_t22 {wr : World} {hi bS bY b5 : Nat} {pv qv fv : Value} {piv : List Int} {part : List Rat} {fs : List FnV} {u : FnV} {x : Int} {rq : Rat} {X : Array Value} {S : Nat → Bool} {σ : Nat → Value} {w : World} (h : C20 wr hi bS bY b5 pv qv fv piv part fs u x rq X S σ w) (h1 : S 22 = true) (h2 : S 23 = false) : ∃ b, σ 22 = .slice (some ⟨b, 0, none⟩) 1 1 ∧ Blk w b #[u.sv] := by
  obtain ⟨b, e, h, _⟩ := CC.t22 h (by rw [h1, h2]; rfl)
  exact ⟨b, e, h⟩
theorem C20_end {wr : World} {hi bS bY b5 : Nat} {pv qv fv : Value} {piv : List Int} {part : List Rat} {fs : List FnV} {u : FnV} {x : Int} {rq : Rat} {X : Array Value} {S : Nat → Bool} {σ : Nat → Value} {w : World} (h : C20 wr hi bS bY b5 pv qv fv piv part fs u x rq X S σ w) (hS : ∀ e, e < 33 → S e = true) : Below hi wr w ∧ SS w hi bS bY (σ 9) (σ 16) (σ 23) (piv ++ [x]) (part ++ [rq]) (fs ++ [u]) := by
  refine ⟨CC.k h, ?_⟩
  have h := CC.x h
  simp only [hS 9 (by omega), hS 16 (by omega), hS 23 (by omega), hS 26 (by omega), hS 29 (by omega), hS 32 (by omega), if_true] at h
  exact h
theorem C20_init {wr : World} {hi bS bY b5 : Nat} {pv qv fv : Value} {piv : List Int} {part : List Rat} {fs : List FnV} {u : FnV} {x : Int} {rq : Rat} {X : Array Value} {S : Nat → Bool} {σ : Nat → Value} {w : World} (hS : ∀ e, S e = false) (h1 : Below hi wr w) (h2 : SS w hi bS bY pv qv fv piv part fs) (h3 : OwnN w hi u.sv u.q ∧ u.sv.ownBlock ≠ some bS ∧ Apart pv u.sv ∧ Apart qv u.sv ∧ Apart fv u.sv) (h4 : EB w bS pv qv fv b5 X) : C20 wr hi bS bY b5 pv qv fv piv part fs u x rq X S σ w := by
  unfold C20
  simp only [hS, Bool.false_eq_true, if_false, Bool.false_and]
  exact ⟨h1, h2, h3, h4, fun h => (by cases h), fun h => (by cases h), fun h => (by cases h)⟩
def pst20 (bS : Nat) (pv qv fv uv : Value) (x : Int) (X : Array Value) (S : Nat → Bool) : Nat → Value → World → Prop
  | 0, v, _ => v = .pointer (some ⟨bS, 0, none⟩)
  | 1, v, _ => v = .pointer (some ⟨bS, 0, none⟩)
  | 2, v, _ => v = .pointer (some ⟨bS, 0, none⟩)
  | 3, v, _ => v = .pointer (some ⟨bS, 0, none⟩)
  | 4, v, _ => v = .pointer (some ⟨bS, 0, none⟩)
  | 5, v, _ => v = .pointer (some ⟨bS, 1, none⟩)
  | 6, v, _ => v = pv
  | 7, v, _ => v = .int .i64 x
  | 10, v, _ => v = .pointer (some ⟨bS, 0, none⟩)
  | 11, v, _ => v = .pointer (some ⟨bS, 0, none⟩)
  | 12, v, _ => v = .pointer (some ⟨bS, 2, none⟩)
  | 13, v, _ => v = qv
  | 14, v, _ => v = .agg X
  | 17, v, _ => v = .pointer (some ⟨bS, 0, none⟩)
  | 18, v, _ => v = .pointer (some ⟨bS, 0, none⟩)
  | 19, v, _ => v = .pointer (some ⟨bS, 3, none⟩)
  | 20, v, _ => v = fv
  | 21, v, _ => v = uv
  | 24, v, _ => v = .pointer (some ⟨bS, 0, none⟩)
  | 25, v, _ => v = .pointer (some ⟨bS, 1, none⟩)
  | 27, v, _ => v = .pointer (some ⟨bS, 0, none⟩)
  | 28, v, _ => v = .pointer (some ⟨bS, 2, none⟩)
  | 30, v, _ => v = .pointer (some ⟨bS, 0, none⟩)
  | 31, v, _ => v = .pointer (some ⟨bS, 3, none⟩)
  | _, _, _ => True
theorem pst20_any {bS : Nat} {pv qv fv uv : Value} {x : Int} {X : Array Value} {S S' : Nat → Bool} {w w' : World} : ∀ (d : Nat) (v : Value), pst20 bS pv qv fv uv x X S d v w → pst20 bS pv qv fv uv x X S' d v w'
  | 0, v, h => h
  | 1, v, h => h
  | 2, v, h => h
  | 3, v, h => h
  | 4, v, h => h
  | 5, v, h => h
  | 6, v, h => h
  | 7, v, h => h
  | 8, v, h => h
  | 9, v, h => h
  | 10, v, h => h
  | 11, v, h => h
  | 12, v, h => h
  | 13, v, h => h
  | 14, v, h => h
  | 15, v, h => h
  | 16, v, h => h
  | 17, v, h => h
  | 18, v, h => h
  | 19, v, h => h
  | 20, v, h => h
  | 21, v, h => h
  | 22, v, h => h
  | 23, v, h => h
  | 24, v, h => h
  | 25, v, h => h
  | 26, v, h => h
  | 27, v, h => h
  | 28, v, h => h
  | 29, v, h => h
  | 30, v, h => h
  | 31, v, h => h
  | 32, v, h => h
  | n + 33, v, h => h
end Go.Proofs.Ytamjmcdlddocgaa
