/- Two appends in one region whose order is drawn (as in cut's texts). Package close: related, why. -/
import Derived.Test.YtnndmdfjdodiiaaGreatTtN
namespace Go.Proofs.YtnndmdfjdodiiaaGreat
open Go.ChangeShapes Go.WideShapes Go.RowKit
set_option linter.unusedVariables false
set_option linter.unusedSimpArgs false

theorem own_at {w : World} {base : Nat} {e : TypeId} {size : Nat} {v : Value} {n : Nat} {xs : List Value} (h : w.ownsRow base e size v n xs) {b : Nat} (hb : v.ownBlock = some b) : ∃ A, w.heap[b]? = some (.cells A e (0, 0)) := own_atT h hb
abbrev T2 : TypeId := 37
theorem infoP : (Tryz.prog.info? T2).map (fun i => (i.zero, i.size, i.bytes)) = some (some (.agg #[.int .i64 0, .int .i64 0]), 2, 16) := by kernel_rfl
structure AppOK (sl e : TypeId) (k : Nat) : Prop where
  app : ∀ (w : World) (base : Nat) (v : Value) (n : Nat) (xs : List Value) (b : Nat) (cs : List Value), w.ownsRow base e k v n xs → Blk w b cs.toArray → cs.length = k → (∀ u ∈ cs, u.oneCell' = true) → n ≤ 100000 → base ≤ w.heap.size →
    ∃ v' w', (Builtin.append_ #[sl, sl] sl #[v, .slice (some ⟨b, 0, none⟩) 1 1]).run Tryz.prog w = .ok v' w' ∧ w'.ownsRow base e k v' (n + 1) (xs ++ cs) ∧ w.grownBy w' v.ownBlock ∧ (v'.ownBlock = v.ownBlock ∨ v'.ownBlock = some w.heap.size)
theorem appOK_of {sl e : TypeId} {k bytes : Nat} {i : TypeInfo} {z : Value} (hu : Tryz.prog.underlying sl = some (.slice e)) (hi : Tryz.prog.info? e = some i) (hz : i.zero = some z) (hs : i.size = k) (hb : i.bytes = bytes) (hzs : z.cells.size = k) (h0 : 0 < k) (hby : bytes ≤ 1000) : AppOK sl e k := ⟨fun w base v n xs b cs hown hbk hl h1 hn hbase => by
  obtain ⟨v', w', hr, ho, hg, _, hv⟩ := run_append_own_at (P := Tryz.prog) w base sl sl e i z k bytes hu hi hz hs hb hzs h0 v n xs hown ⟨b, 0, none⟩ 1 1 cs (by rw [hl, Nat.one_mul])
    (fun j u hj => by rw [add_plain, Nat.zero_add, hbk.cell j]; simpa using hj) h1 (by unfold maxLen; omega) (by have := Nat.mul_le_mul (show n + 1 ≤ 100001 by omega) hby; omega) hbase
  exact ⟨v', w', hr, ho, hg, hv⟩⟩
theorem appOK_i : AppOK 22 TI 1 := by
  obtain ⟨i0, hi0, hz0, hz1, hz2⟩ := info_parts infoI
  exact appOK_of Tryz.underlying22 hi0 hz0 hz1 hz2 rfl (by decide) (by decide)
theorem appOK_p : AppOK 32 T2 2 := by
  obtain ⟨i0, hi0, hz0, hz1, hz2⟩ := info_parts infoP
  exact appOK_of Tryz.underlying32 hi0 hz0 hz1 hz2 rfl (by decide) (by decide)
theorem owns_ne {w : World} {base base' : Nat} {e e' : TypeId} {k k' n n' : Nat} {v v' : Value} {xs xs' : List Value} (h : w.ownsRow base e k v n xs) (h' : w.ownsRow base' e' k' v' n' xs') (he : e ≠ e') : ∀ b, v.ownBlock = some b → v'.ownBlock ≠ some b := fun b hb hb' => by
  obtain ⟨A, e1⟩ := own_at h hb
  obtain ⟨B, e2⟩ := own_at h' hb'
  rw [e1] at e2
  exact he (Obj.cells.inj (Option.some.inj e2)).2.1
theorem owns_grown {w w' : World} {base : Nat} {e : TypeId} {k n : Nat} {v : Value} {xs : List Value} {row : Option Nat} (h : w.ownsRow base e k v n xs) (hg : w.grownBy w' row) (hr : ∀ b, v.ownBlock = some b → row ≠ some b) : w'.ownsRow base e k v n xs := by
  obtain ⟨hl, h | ⟨g, cap, cur, hv, hb, hgg, hl', hm, hs, ht⟩⟩ := h
  · exact ⟨hl, .inl h⟩
  · exact ⟨hl, .inr ⟨g, cap, cur, hv, hb, by rw [hg.block g (lt_of_heap hgg) (fun e => hr g (by rw [hv]; rfl) e.symm)]; exact hgg, hl', hm, hs, ht⟩⟩
theorem owns_keep {w w' : World} {base : Nat} {e : TypeId} {k n : Nat} {v : Value} {xs : List Value} (h : w.ownsRow base e k v n xs) (kk : Keep NoS w w') : w'.ownsRow base e k v n xs := by
  obtain ⟨hl, h | ⟨g, cap, cur, hv, hb, hgg, hl', hm, hs, ht⟩⟩ := h
  · exact ⟨hl, .inl h⟩
  · exact ⟨hl, .inr ⟨g, cap, cur, hv, hb, by rw [kk.block g (lt_of_heap hgg) fun _ h => h]; exact hgg, hl', hm, hs, ht⟩⟩
/-- What stands between two appends and their stores. -/
structure TwoC (w0 : World) (eA kA nA eB kB nB : Nat) (vA vB : Value) (xA cA xB cB : List Value) (g : Nat) (TG : TypeId) (arr : Value → Value → Array Value) (gx : Nat) (ox : Obj) (bA aA bB aB s1 s2 : Bool) (sbA saA sbB saB : Value) (w : World) : Prop where
  k : Keep NoS w0 w
  a0 : aA = false → w.ownsRow w0.heap.size eA kA vA nA xA
  a1 : aA = true → w.ownsRow w0.heap.size eA kA saA (nA + 1) (xA ++ cA)
  b0 : aB = false → w.ownsRow w0.heap.size eB kB vB nB xB
  b1 : aB = true → w.ownsRow w0.heap.size eB kB saB (nB + 1) (xB ++ cB)
  pa : bA = true → aA = false → ∃ b, sbA = .slice (some ⟨b, 0, none⟩) 1 1 ∧ Blk w b cA.toArray ∧ (aB = false → vB.ownBlock ≠ some b)
  pb : bB = true → aB = false → ∃ b, sbB = .slice (some ⟨b, 0, none⟩) 1 1 ∧ Blk w b cB.toArray ∧ (aA = false → vA.ownBlock ≠ some b)
  blk : w.heap[g]? = some (.cells (arr (cond s1 saA vA) (cond s2 saB vB)) TG (0, 0))
  x : aB = false → w.heap[gx]? = some ox
section
variable {w0 w w' : World} {eA kA nA eB kB nB : Nat} {vA vB : Value} {xA cA xB cB : List Value} {g : Nat} {TG : TypeId} {arr : Value → Value → Array Value} {gx : Nat} {ox : Obj} {bA aA bB aB s1 s2 : Bool} {sbA saA sbB saB : Value}
theorem TwoC.keep (h : TwoC w0 eA kA nA eB kB nB vA vB xA cA xB cB g TG arr gx ox bA aA bB aB s1 s2 sbA saA sbB saB w) (k : Keep NoS w w') : TwoC w0 eA kA nA eB kB nB vA vB xA cA xB cB g TG arr gx ox bA aA bB aB s1 s2 sbA saA sbB saB w' :=
  ⟨h.k.both k, fun e => owns_keep (h.a0 e) k, fun e => owns_keep (h.a1 e) k, fun e => owns_keep (h.b0 e) k, fun e => owns_keep (h.b1 e) k,
   fun e1 e2 => by obtain ⟨b, h1, h2, h3⟩ := h.pa e1 e2; exact ⟨b, h1, h2.keep k, h3⟩, fun e1 e2 => by obtain ⟨b, h1, h2, h3⟩ := h.pb e1 e2; exact ⟨b, h1, h2.keep k, h3⟩, by rw [k.block g (lt_of_heap h.blk) fun _ h => h]; exact h.blk, fun e => by rw [k.block gx (lt_of_heap (h.x e)) fun _ h => h]; exact h.x e⟩
theorem own_lt {base : Nat} {e : TypeId} {k n : Nat} {v : Value} {xs : List Value} (h : w.ownsRow base e k v n xs) {b : Nat} (hb : v.ownBlock = some b) : base ≤ b ∧ b < w.heap.size := World.ownsRow.lt h b hb
theorem TwoC.buildA (h : TwoC w0 eA kA nA eB kB nB vA vB xA cA xB cB g TG arr gx ox bA aA bB aB s1 s2 sbA saA sbB saB w) (k : Keep NoS w w') {b : Nat} (hb : Blk w' b cA.toArray) (hn : w.heap.size ≤ b) : TwoC w0 eA kA nA eB kB nB vA vB xA cA xB cB g TG arr gx ox true aA bB aB s1 s2 (.slice (some ⟨b, 0, none⟩) 1 1) saA sbB saB w' := by
  have h' := h.keep k
  exact ⟨h'.k, h'.a0, h'.a1, h'.b0, h'.b1, fun _ _ => ⟨b, rfl, hb, fun e hh => by have := (own_lt (h.b0 e) hh).2; omega⟩, h'.pb, h'.blk, h'.x⟩
theorem TwoC.buildB (h : TwoC w0 eA kA nA eB kB nB vA vB xA cA xB cB g TG arr gx ox bA aA bB aB s1 s2 sbA saA sbB saB w) (k : Keep NoS w w') {b : Nat} (hb : Blk w' b cB.toArray) (hn : w.heap.size ≤ b) : TwoC w0 eA kA nA eB kB nB vA vB xA cA xB cB g TG arr gx ox bA aA true aB s1 s2 sbA saA (.slice (some ⟨b, 0, none⟩) 1 1) saB w' := by
  have h' := h.keep k
  exact ⟨h'.k, h'.a0, h'.a1, h'.b0, h'.b1, h'.pa, fun _ _ => ⟨b, rfl, hb, fun e hh => by have := (own_lt (h.a0 e) hh).2; omega⟩, h'.blk, h'.x⟩
theorem TwoC.appA {slA : TypeId} (hap : AppOK slA eA kA) (hAB : eA ≠ eB) (hAG : eA ≠ TG) (hxA : ∀ A f, ox ≠ .cells A eA f) (hl : cA.length = kA) (h1 : ∀ u ∈ cA, u.oneCell' = true) (hn : nA ≤ 100000) (h : TwoC w0 eA kA nA eB kB nB vA vB xA cA xB cB g TG arr gx ox bA aA bB aB s1 s2 sbA saA sbB saB w) (hb : bA = true) (ha : aA = false) (hs : s1 = false) :
    ∃ v' w', (Builtin.append_ #[slA, slA] slA #[vA, sbA]).run Tryz.prog w = .ok v' w' ∧ TwoC w0 eA kA nA eB kB nB vA vB xA cA xB cB g TG arr gx ox bA true bB aB s1 s2 sbA v' sbB saB w' := by
  obtain ⟨b, rfl, hbk, hbv⟩ := h.pa hb ha
  obtain ⟨v', w', hr, ho, hg, hv⟩ := hap.app w _ vA nA xA b cA (h.a0 ha) hbk hl h1 hn h.k.size
  subst hs
  refine ⟨v', w', hr, h.k.grown hg fun k hk => (own_lt (h.a0 ha) hk).1, fun e => (by cases e), fun _ => ho, fun e => owns_grown (h.b0 e) hg fun b hb' => owns_ne (h.b0 e) (h.a0 ha) hAB.symm b hb', fun e => owns_grown (h.b1 e) hg fun b hb' => owns_ne (h.b1 e) (h.a0 ha) hAB.symm b hb', fun _ e => (by cases e), fun e1 e2 => ?_, ?_, fun e1 => ?_⟩
  · obtain ⟨b2, h2, ⟨t2, h3⟩, h4⟩ := h.pb e1 e2
    exact ⟨b2, h2, ⟨t2, by rw [hg.block b2 (lt_of_heap h3) fun e => h4 ha e.symm]; exact h3⟩, fun e => (by cases e)⟩
  · rw [hg.block g (lt_of_heap h.blk) fun e => ?_]
    · exact h.blk
    · obtain ⟨A, e1⟩ := own_at (h.a0 ha) e.symm
      rw [h.blk] at e1
      exact hAG (Obj.cells.inj (Option.some.inj e1)).2.1.symm
  · rw [hg.block gx (lt_of_heap (h.x e1)) fun e => ?_]
    · exact h.x e1
    · obtain ⟨A, e2⟩ := own_at (h.a0 ha) e.symm
      rw [h.x e1] at e2
      exact hxA _ _ (Option.some.inj e2)
theorem TwoC.appB {slB : TypeId} (hap : AppOK slB eB kB) (hAB : eA ≠ eB) (hBG : eB ≠ TG) (hl : cB.length = kB) (h1 : ∀ u ∈ cB, u.oneCell' = true) (hn : nB ≤ 100000) (h : TwoC w0 eA kA nA eB kB nB vA vB xA cA xB cB g TG arr gx ox bA aA bB aB s1 s2 sbA saA sbB saB w) (hb : bB = true) (ha : aB = false) (hs : s2 = false) :
    ∃ v' w', (Builtin.append_ #[slB, slB] slB #[vB, sbB]).run Tryz.prog w = .ok v' w' ∧ TwoC w0 eA kA nA eB kB nB vA vB xA cA xB cB g TG arr gx ox bA aA bB true s1 s2 sbA saA sbB v' w' := by
  obtain ⟨b, rfl, hbk, hbv⟩ := h.pb hb ha
  obtain ⟨v', w', hr, ho, hg, hv⟩ := hap.app w _ vB nB xB b cB (h.b0 ha) hbk hl h1 hn h.k.size
  subst hs
  refine ⟨v', w', hr, h.k.grown hg fun k hk => (own_lt (h.b0 ha) hk).1, fun e => owns_grown (h.a0 e) hg fun b hb' => owns_ne (h.a0 e) (h.b0 ha) hAB b hb', fun e => owns_grown (h.a1 e) hg fun b hb' => owns_ne (h.a1 e) (h.b0 ha) hAB b hb', fun e => (by cases e), fun _ => ho, fun e1 e2 => ?_, fun _ e => (by cases e), ?_, fun e => (by cases e)⟩
  · obtain ⟨b2, h2, ⟨t2, h3⟩, h4⟩ := h.pa e1 e2
    exact ⟨b2, h2, ⟨t2, by rw [hg.block b2 (lt_of_heap h3) fun e => h4 ha e.symm]; exact h3⟩, fun e => (by cases e)⟩
  · rw [hg.block g (lt_of_heap h.blk) fun e => ?_]
    · exact h.blk
    · obtain ⟨A, e1⟩ := own_at (h.b0 ha) e.symm
      rw [h.blk] at e1
      exact hBG (Obj.cells.inj (Option.some.inj e1)).2.1.symm
theorem TwoC.set (h : TwoC w0 eA kA nA eB kB nB vA vB xA cA xB cB g TG arr gx ox bA aA bB aB s1 s2 sbA saA sbB saB w) (hAG : eA ≠ TG) (hBG : eB ≠ TG) (hg : w0.heap.size ≤ g) {i : Nat} {v : Value} {t1 t2 : Bool} (ha : aA = true) (hb : aB = true) (he : (arr (cond s1 saA vA) (cond s2 saB vB)).setIfInBounds i v = arr (cond t1 saA vA) (cond t2 saB vB)) : TwoC w0 eA kA nA eB kB nB vA vB xA cA xB cB g TG arr gx ox bA aA bB aB t1 t2 sbA saA sbB saB (w.setCell ⟨g, i, none⟩ v) := by
  have hne : ∀ {base : Nat} {e : TypeId} {k n : Nat} {u : Value} {xs : List Value}, w.ownsRow base e k u n xs → e ≠ TG → u.ownBlock ≠ some g := fun h1 h2 e => by
    obtain ⟨A, e1⟩ := own_at h1 e
    rw [h.blk] at e1
    exact h2 (Obj.cells.inj (Option.some.inj e1)).2.1.symm
  refine ⟨keep_at h.k _ hg, fun e => (by rw [ha] at e; cases e), fun e => ownsRow_setCell_other (a := ⟨g, i, none⟩) (h.a1 e) (hne (h.a1 e) hAG) v, fun e => (by rw [hb] at e; cases e), fun e => ownsRow_setCell_other (a := ⟨g, i, none⟩) (h.b1 e) (hne (h.b1 e) hBG) v, fun _ e => (by rw [ha] at e; cases e), fun _ e => (by rw [hb] at e; cases e), ?_, fun e => (by rw [hb] at e; cases e)⟩
  rw [← he]
  exact heap_setCell_same _ _ h.blk
theorem TwoC.start (hbA : bA = false) (haA : aA = false) (hbB : bB = false) (haB : aB = false) (h1 : s1 = false) (h2 : s2 = false) (h : w0.heap.size ≤ w.heap.size ∧ Keep NoS w0 w ∧ w.ownsRow w0.heap.size eA kA vA nA xA ∧ w.ownsRow w0.heap.size eB kB vB nB xB ∧ w.heap[g]? = some (.cells (arr vA vB) TG (0, 0)) ∧ w.heap[gx]? = some ox) : TwoC w0 eA kA nA eB kB nB vA vB xA cA xB cB g TG arr gx ox bA aA bB aB s1 s2 sbA saA sbB saB w.drew := by
  subst hbA haA hbB haB h1 h2
  have k : Keep NoS w w.drew := (Keep.refl _ _).drew
  exact ⟨h.2.1.both k, fun _ => owns_keep h.2.2.1 k, fun e => (by cases e), fun _ => owns_keep h.2.2.2.1 k, fun e => (by cases e), fun e => (by cases e), fun e => (by cases e), h.2.2.2.2.1, fun _ => h.2.2.2.2.2⟩
/-- What stands behind both. -/
structure TwoD (w0 : World) (eA kA nA eB kB nB : Nat) (xA cA xB cB : List Value) (saA saB : Value) (w : World) : Prop where
  k : Keep NoS w0 w
  a : w.ownsRow w0.heap.size eA kA saA (nA + 1) (xA ++ cA)
  b : w.ownsRow w0.heap.size eB kB saB (nB + 1) (xB ++ cB)
theorem TwoC.done (h : TwoC w0 eA kA nA eB kB nB vA vB xA cA xB cB g TG arr gx ox bA aA bB aB s1 s2 sbA saA sbB saB w) (_ : bA = true) (ha : aA = true) (_ : bB = true) (hb : aB = true) : TwoD w0 eA kA nA eB kB nB xA cA xB cB saA saB w := ⟨h.k, h.a1 ha, h.b1 hb⟩
end
/-- The same without a side block. -/
structure TwoS (w0 : World) (eA kA nA eB kB nB : Nat) (vA vB : Value) (xA cA xB cB : List Value) (bA aA bB aB : Bool) (sbA saA sbB saB : Value) (w : World) : Prop where
  k : Keep NoS w0 w
  a0 : aA = false → w.ownsRow w0.heap.size eA kA vA nA xA
  a1 : aA = true → w.ownsRow w0.heap.size eA kA saA (nA + 1) (xA ++ cA)
  b0 : aB = false → w.ownsRow w0.heap.size eB kB vB nB xB
  b1 : aB = true → w.ownsRow w0.heap.size eB kB saB (nB + 1) (xB ++ cB)
  pa : bA = true → aA = false → ∃ b, sbA = .slice (some ⟨b, 0, none⟩) 1 1 ∧ Blk w b cA.toArray ∧ (aB = false → vB.ownBlock ≠ some b)
  pb : bB = true → aB = false → ∃ b, sbB = .slice (some ⟨b, 0, none⟩) 1 1 ∧ Blk w b cB.toArray ∧ (aA = false → vA.ownBlock ≠ some b)
section
variable {w0 w w' : World} {eA kA nA eB kB nB : Nat} {vA vB : Value} {xA cA xB cB : List Value} {bA aA bB aB : Bool} {sbA saA sbB saB : Value}
theorem TwoS.keep (h : TwoS w0 eA kA nA eB kB nB vA vB xA cA xB cB bA aA bB aB sbA saA sbB saB w) (k : Keep NoS w w') : TwoS w0 eA kA nA eB kB nB vA vB xA cA xB cB bA aA bB aB sbA saA sbB saB w' :=
  ⟨h.k.both k, fun e => owns_keep (h.a0 e) k, fun e => owns_keep (h.a1 e) k, fun e => owns_keep (h.b0 e) k, fun e => owns_keep (h.b1 e) k,
   fun e1 e2 => by obtain ⟨b, h1, h2, h3⟩ := h.pa e1 e2; exact ⟨b, h1, h2.keep k, h3⟩, fun e1 e2 => by obtain ⟨b, h1, h2, h3⟩ := h.pb e1 e2; exact ⟨b, h1, h2.keep k, h3⟩⟩
theorem TwoS.buildA (h : TwoS w0 eA kA nA eB kB nB vA vB xA cA xB cB bA aA bB aB sbA saA sbB saB w) (k : Keep NoS w w') {b : Nat} (hb : Blk w' b cA.toArray) (hn : w.heap.size ≤ b) : TwoS w0 eA kA nA eB kB nB vA vB xA cA xB cB true aA bB aB (.slice (some ⟨b, 0, none⟩) 1 1) saA sbB saB w' := by
  have h' := h.keep k
  exact ⟨h'.k, h'.a0, h'.a1, h'.b0, h'.b1, fun _ _ => ⟨b, rfl, hb, fun e hh => by have := (own_lt (h.b0 e) hh).2; omega⟩, h'.pb⟩
theorem TwoS.buildB (h : TwoS w0 eA kA nA eB kB nB vA vB xA cA xB cB bA aA bB aB sbA saA sbB saB w) (k : Keep NoS w w') {b : Nat} (hb : Blk w' b cB.toArray) (hn : w.heap.size ≤ b) : TwoS w0 eA kA nA eB kB nB vA vB xA cA xB cB bA aA true aB sbA saA (.slice (some ⟨b, 0, none⟩) 1 1) saB w' := by
  have h' := h.keep k
  exact ⟨h'.k, h'.a0, h'.a1, h'.b0, h'.b1, h'.pa, fun _ _ => ⟨b, rfl, hb, fun e hh => by have := (own_lt (h.a0 e) hh).2; omega⟩⟩
theorem TwoS.appA {slA : TypeId} (hap : AppOK slA eA kA) (hAB : eA ≠ eB) (hl : cA.length = kA) (h1 : ∀ u ∈ cA, u.oneCell' = true) (hn : nA ≤ 100000) (h : TwoS w0 eA kA nA eB kB nB vA vB xA cA xB cB bA aA bB aB sbA saA sbB saB w) (hb : bA = true) (ha : aA = false) (_ : (0 : Nat) = 0) :
    ∃ v' w', (Builtin.append_ #[slA, slA] slA #[vA, sbA]).run Tryz.prog w = .ok v' w' ∧ TwoS w0 eA kA nA eB kB nB vA vB xA cA xB cB bA true bB aB sbA v' sbB saB w' := by
  obtain ⟨b, rfl, hbk, hbv⟩ := h.pa hb ha
  obtain ⟨v', w', hr, ho, hg, hv⟩ := hap.app w _ vA nA xA b cA (h.a0 ha) hbk hl h1 hn h.k.size
  refine ⟨v', w', hr, h.k.grown hg fun k hk => (own_lt (h.a0 ha) hk).1, fun e => (by cases e), fun _ => ho, fun e => owns_grown (h.b0 e) hg fun b hb' => owns_ne (h.b0 e) (h.a0 ha) hAB.symm b hb', fun e => owns_grown (h.b1 e) hg fun b hb' => owns_ne (h.b1 e) (h.a0 ha) hAB.symm b hb', fun _ e => (by cases e), fun e1 e2 => ?_⟩
  obtain ⟨b2, h2, ⟨t2, h3⟩, h4⟩ := h.pb e1 e2
  exact ⟨b2, h2, ⟨t2, by rw [hg.block b2 (lt_of_heap h3) fun e => h4 ha e.symm]; exact h3⟩, fun e => (by cases e)⟩
theorem TwoS.appB {slB : TypeId} (hap : AppOK slB eB kB) (hAB : eA ≠ eB) (hl : cB.length = kB) (h1 : ∀ u ∈ cB, u.oneCell' = true) (hn : nB ≤ 100000) (h : TwoS w0 eA kA nA eB kB nB vA vB xA cA xB cB bA aA bB aB sbA saA sbB saB w) (hb : bB = true) (ha : aB = false) (_ : (0 : Nat) = 0) :
    ∃ v' w', (Builtin.append_ #[slB, slB] slB #[vB, sbB]).run Tryz.prog w = .ok v' w' ∧ TwoS w0 eA kA nA eB kB nB vA vB xA cA xB cB bA aA bB true sbA saA sbB v' w' := by
  obtain ⟨b, rfl, hbk, hbv⟩ := h.pb hb ha
  obtain ⟨v', w', hr, ho, hg, hv⟩ := hap.app w _ vB nB xB b cB (h.b0 ha) hbk hl h1 hn h.k.size
  refine ⟨v', w', hr, h.k.grown hg fun k hk => (own_lt (h.b0 ha) hk).1, fun e => owns_grown (h.a0 e) hg fun b hb' => owns_ne (h.a0 e) (h.b0 ha) hAB b hb', fun e => owns_grown (h.a1 e) hg fun b hb' => owns_ne (h.a1 e) (h.b0 ha) hAB b hb', fun e => (by cases e), fun _ => ho, fun e1 e2 => ?_, fun _ e => (by cases e)⟩
  obtain ⟨b2, h2, ⟨t2, h3⟩, h4⟩ := h.pa e1 e2
  exact ⟨b2, h2, ⟨t2, by rw [hg.block b2 (lt_of_heap h3) fun e => h4 ha e.symm]; exact h3⟩, fun e => (by cases e)⟩
theorem TwoS.start (hbA : bA = false) (haA : aA = false) (hbB : bB = false) (haB : aB = false) (_ : (0 : Nat) = 0) (_ : (0 : Nat) = 0) (h : Keep NoS w0 w ∧ w.ownsRow w0.heap.size eA kA vA nA xA ∧ w.ownsRow w0.heap.size eB kB vB nB xB) : TwoS w0 eA kA nA eB kB nB vA vB xA cA xB cB bA aA bB aB sbA saA sbB saB w.drew := by
  subst hbA haA hbB haB
  have k : Keep NoS w w.drew := (Keep.refl _ _).drew
  exact ⟨h.1.both k, fun _ => owns_keep h.2.1 k, fun e => (by cases e), fun _ => owns_keep h.2.2 k, fun e => (by cases e), fun e => (by cases e), fun e => (by cases e)⟩
theorem TwoS.done (h : TwoS w0 eA kA nA eB kB nB vA vB xA cA xB cB bA aA bB aB sbA saA sbB saB w) (_ : bA = true) (ha : aA = true) (_ : bB = true) (hb : aB = true) : TwoD w0 eA kA nA eB kB nB xA cA xB cB saA saB w := ⟨h.k, h.a1 ha, h.b1 hb⟩
end
theorem owns_form {w : World} {base : Nat} {e : TypeId} {k n : Nat} {v : Value} {xs : List Value} (h : w.ownsRow base e k v n xs) : ∃ o c, v = .slice o n c := by
  obtain ⟨hl, h | ⟨g, cap, cur, hv, _⟩⟩ := h
  · exact ⟨none, 0, by obtain ⟨rfl, h1⟩ := h; first | exact h1 | (rw [h1])⟩
  · exact ⟨_, cap, hv⟩
end Go.Proofs.YtnndmdfjdodiiaaGreat

namespace Go.Proofs.YtnndmdfjdodiiaaGreat
open Go.ChangeShapes Go.WideShapes Go.RowKit Go.Maps
set_option linter.unusedVariables false
set_option linter.unusedSimpArgs false

/-- An entry of a list that lies in a block. -/
theorem blk_cl {w : World} {g n : Nat} {c : List Int} (h : w.heap[g]? = some (.cells (iv c).toArray TI (0, 0))) (hl : c.length = n) {i : Nat} (hi : i < n) : w.cell? ⟨g, i, none⟩ = some (.int .i64 (Cl.clAt c (i : Int))) := by
  have hl : i < c.length := by omega
  refine cell_of_heap h ?_
  rw [List.getElem?_toArray, iv_get, List.getElem?_eq_getElem hl]
  unfold Cl.clAt
  rw [Int.toNat_natCast, List.getD_eq_getElem?_getD, List.getElem?_eq_getElem hl]; rfl
set_option maxRecDepth 100000 in
theorem related_any (w : World) (ot op : Option Addr) (ct cp : Nat) (terms : List Cl.Tm) (pairs : List (Int × Int)) (a b : Nat) (ht : IsTerms w (.slice ot terms.length ct) terms) (hp : IsPairs w (.slice op pairs.length cp) pairs) (hok : TmOK terms) (hpk : PrOK terms.length pairs) (hpl : pairs.length ≤ 1000) (ha : a < terms.length) (hb : b < terms.length) :
    Calls Tryz.prog 46 #[.slice ot terms.length ct, .slice op pairs.length cp, .int .i64 (a : Int), .int .i64 (b : Int)] w fun e w' => e = .returned (.bool (Cl.relB terms pairs a b)) ∧ Keep NoS w w' := by
  have CC := Lib.hid (classes_any w ot op ct cp terms pairs ht hp hok hpk hpl)
  have hcl := (Cl.class_ok (terms := terms) (pairs := pairs) hpk).len
  have hn := hok.n
  unfold Cl.relB
  generalize Cl.classF terms pairs = c at *
  have HCL := Lib.hid hcl
  obtain ⟨x, hx⟩ : ∃ x, Cl.clAt c (a : Int) = x := ⟨_, rfl⟩
  obtain ⟨y, hy⟩ : ∃ y, Cl.clAt c (b : Int) = y := ⟨_, rfl⟩
  rw [hx, hy]
  have HX := Lib.hid hx
  have HY := Lib.hid hy
  clear hx hy
  generalize terms.length = n at *
  generalize pairs.length = m at *
  have haI : (a : Int) < (n : Int) := by omega
  have hbI : (b : Int) < (n : Int) := by omega
  clear ht hp hok hpk hcl
  go_enter Tryz.func46, Tryz.ntmps46
  go_wp2_with fail
  refine CC.out.mono ?_
  rintro e w1 ⟨g, rfl, hg, hgw, hk⟩
  have K1 := Lib.hid hk
  have p1 := blk_cl hg HCL.out ha
  have p2 := blk_cl hg HCL.out hb
  have gl := lt_of_heap hg
  rw [HX.out] at p1
  rw [HY.out] at p2
  clear hg hk CC
  go_wp2
  go_quiet (fail)
  go_wp2
  go_ret
  exact ⟨congrArg (fun b : Bool => Ending.returned (.bool b)) (by rw [Bool.eq_iff_iff]; simp), K1.out.both (Keep.drewN (Keep.refl _ _) _)⟩
end Go.Proofs.YtnndmdfjdodiiaaGreat
