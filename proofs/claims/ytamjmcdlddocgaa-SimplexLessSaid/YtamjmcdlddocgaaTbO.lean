/- Package tableau's New: what lies in memory while it runs. -/
import Derived.Test.YtamjmcdlddocgaaTbR
import Derived.Test.YtamjmcdlddocgaaOwnG
namespace Go.Proofs.Ytamjmcdlddocgaa
open Go.ChangeShapes Go.WideShapes Go.RowKit Go.Maps
set_option linter.unusedVariables false
set_option linter.unusedSimpArgs false

abbrev TLN : TypeId := 66
theorem infoLN : (Try.prog.info? TLN).map (fun i => (i.zero, i.size, i.bytes)) = some (some (.slice none 0 0), 1, 24) := by kernel_rfl
/-- A line, where it lies. -/
structure NmV where
  g : Nat
  q : List Rat
def NmV.sv (x : NmV) : Value := .slice (some ⟨x.g, 0, none⟩) x.q.length x.q.length
def nmC (x : NmV) : List Value := [x.sv]
theorem nmC_len (x : NmV) : (nmC x).length = 1 := rfl
theorem ownsRow_same {w w' : World} {base : Nat} {e : TypeId} {size : Nat} {v : Value} {n : Nat} {xs : List Value} (h : w.ownsRow base e size v n xs) (he : ∀ k, v.ownBlock = some k → w'.heap[k]? = w.heap[k]?) : w'.ownsRow base e size v n xs := by
  obtain ⟨hl, h | ⟨g, cap, cur, hv, hb, hg, hl', hm, hs, ht⟩⟩ := h
  · exact ⟨hl, .inl h⟩
  · exact ⟨hl, .inr ⟨g, cap, cur, hv, hb, by rw [he g (by rw [hv]; rfl)]; exact hg, hl', hm, hs, ht⟩⟩
/-- What New has made so far. -/
structure NS (w0 w : World) (bT gm gv n m kb km : Nat) (vb vc : Value) (xs : List NmV) : Prop where
  k : Keep NoS w0 w
  b : OwnI w w0.heap.size vb ((List.range kb).map fun i => ((n + i : Nat) : Int))
  c : OwnG TLN 1 nmC w w0.heap.size vc xs
  r : ∀ x ∈ xs, NumBlk w x.g x.q ∧ w0.heap.size ≤ x.g
  d : xs.Pairwise fun x y => x.g ≠ y.g
  v : NumBlk w gv (flatP (List.replicate (n + m) pr0))
  mp : MBlk w gm km ((List.range km).map fun i => n + i)
  bc : Apart vb vc
  xb : ∀ x ∈ xs, vb.ownBlock ≠ some x.g ∧ vc.ownBlock ≠ some x.g ∧ x.g ≠ gv ∧ x.g ≠ gm ∧ x.g ≠ bT
  nb : vb.ownBlock ≠ some gv ∧ vb.ownBlock ≠ some gm ∧ vb.ownBlock ≠ some bT
  nc : vc.ownBlock ≠ some gv ∧ vc.ownBlock ≠ some gm ∧ vc.ownBlock ≠ some bT
  ap : bT ≠ gv ∧ bT ≠ gm ∧ gv ≠ gm
  own : w0.heap.size ≤ bT ∧ w0.heap.size ≤ gv ∧ w0.heap.size ≤ gm
  lt : bT < w.heap.size
/-- A block that is none of these. -/
def NClear (c gm gv : Nat) (vb vc : Value) (xs : List NmV) : Prop := c ≠ gv ∧ c ≠ gm ∧ vb.ownBlock ≠ some c ∧ vc.ownBlock ≠ some c ∧ ∀ x ∈ xs, x.g ≠ c
theorem NS.clearT {w0 w : World} {bT gm gv n m kb km : Nat} {vb vc : Value} {xs : List NmV} (h : NS w0 w bT gm gv n m kb km vb vc xs) : NClear bT gm gv vb vc xs :=
  ⟨h.ap.1, h.ap.2.1, h.nb.2.2, h.nc.2.2, fun x hx => (h.xb x hx).2.2.2.2⟩
theorem NS.fresh {w0 w : World} {bT gm gv n m kb km : Nat} {vb vc : Value} {xs : List NmV} (h : NS w0 w bT gm gv n m kb km vb vc xs) {c : Nat} (hc : w.heap.size ≤ c) : NClear c gm gv vb vc xs :=
  ⟨fun e => by have := h.v.lt; omega, fun e => by have := h.mp.lt; omega, fun e => by have := (World.ownsRow.lt h.b c e).2; omega, fun e => by have := h.c.lt c e; omega, fun x hx e => by have := (h.r x hx).1.lt; omega⟩
/-- Other blocks change. -/
theorem NS.other {w0 w w' : World} {bT gm gv n m kb km : Nat} {vb vc : Value} {xs : List NmV} (h : NS w0 w bT gm gv n m kb km vb vc xs) (hk : Keep NoS w0 w') (hs : w.heap.size ≤ w'.heap.size) {c : Nat} (ho : ∀ b, b < w.heap.size → b ≠ c → w'.heap[b]? = w.heap[b]?) (hc : NClear c gm gv vb vc xs) :
    NS w0 w' bT gm gv n m kb km vb vc xs where
  k := hk
  b := ownsRow_same h.b fun k hk => ho k (World.ownsRow.lt h.b k hk).2 fun e => hc.2.2.1 (e ▸ hk)
  c := ownsRow_same h.c fun k hk => ho k (h.c.lt k hk) fun e => hc.2.2.2.1 (e ▸ hk)
  r := fun x hx => ⟨(h.r x hx).1.same (ho _ (h.r x hx).1.lt (hc.2.2.2.2 x hx)), (h.r x hx).2⟩
  d := h.d
  v := h.v.same (ho _ h.v.lt hc.1.symm)
  mp := h.mp.same (ho _ h.mp.lt hc.2.1.symm)
  bc := h.bc
  xb := h.xb
  nb := h.nb
  nc := h.nc
  ap := h.ap
  own := h.own
  lt := Nat.lt_of_lt_of_le h.lt hs
theorem NS.keep {w0 w w' : World} {bT gm gv n m kb km : Nat} {vb vc : Value} {xs : List NmV} (h : NS w0 w bT gm gv n m kb km vb vc xs) (k : Keep NoS w w') : NS w0 w' bT gm gv n m kb km vb vc xs :=
  h.other (h.k.both k) k.size (c := w.heap.size) (fun b hb _ => k.block b hb fun _ h => h) (h.fresh (Nat.le_refl _))
/-- A line is appended. -/
theorem NS.line {w0 w : World} {bT gm gv n m kb km : Nat} {vb vc : Value} {xs : List NmV} (h : NS w0 w bT gm gv n m kb km vb vc xs) {g : Nat} {q : List Rat} (hq : NumBlk w g q) (hg : NClear g gm gv vb vc xs) (hgT : g ≠ bT) (hg0 : w0.heap.size ≤ g) {b0 : Nat} (hb0 : Blk w b0 #[.slice (some ⟨g, 0, none⟩) q.length q.length]) (hl : xs.length ≤ 100) :
    ∃ v' w', (Builtin.append_ #[87, 87] 87 #[vc, .slice (some ⟨b0, 0, none⟩) 1 1]).run Try.prog w = .ok v' w' ∧ NS w0 w' bT gm gv n m kb km vb v' (xs ++ [⟨g, q⟩]) ∧ w.grownBy w' vc.ownBlock := by
  obtain ⟨i0, hi0, hz0, hz1, hz2⟩ := info_parts infoLN
  obtain ⟨v', w', hr, ho, hgr, hv⟩ := OwnG.app nmC_len Try.underlying87 hi0 hz0 hz1 hz2 rfl (by decide) h.c (x := ⟨g, q⟩) hb0 (by
    intro y hy
    simp [nmC] at hy
    subst hy
    rfl) (by unfold maxLen; omega) (by omega) h.k.size
  have hblk : ∀ b, b < w.heap.size → vc.ownBlock ≠ some b → w'.heap[b]? = w.heap[b]? := fun b hb hn => hgr.block b hb fun e => hn e.symm
  have hv' : ∀ c, c < w.heap.size → vc.ownBlock ≠ some c → v'.ownBlock ≠ some c := by
    intro c hc hn e
    rcases hv with h1 | h1
    · rw [h1] at e; exact hn e
    · rw [h1] at e; cases e; omega
  refine ⟨v', w', hr, ⟨h.k.grown hgr fun k hk => (h.c.block k hk), ?_, ho, ?_, ?_, ?_, ?_, ?_, ?_, h.nb, ?_, h.ap, h.own, Nat.lt_of_lt_of_le h.lt hgr.size⟩, hgr⟩
  · exact ownsRow_same h.b fun k hk => hblk k (World.ownsRow.lt h.b k hk).2 (h.bc k hk)
  · intro x hx
    rcases List.mem_append.1 hx with hx | hx
    · exact ⟨(h.r x hx).1.same (hblk _ (h.r x hx).1.lt (h.xb x hx).2.1), (h.r x hx).2⟩
    · rw [List.mem_singleton.1 hx]
      exact ⟨hq.same (hblk _ hq.lt hg.2.2.2.1), hg0⟩
  · rw [List.pairwise_append]
    refine ⟨h.d, by simp, fun x hx y hy => ?_⟩
    rw [List.mem_singleton.1 hy]
    exact hg.2.2.2.2 x hx
  · exact h.v.same (hblk _ h.v.lt h.nc.1)
  · exact h.mp.same (hblk _ h.mp.lt h.nc.2.1)
  · exact h.bc.step (fun k hk => (World.ownsRow.lt h.b k hk).2) hv
  · intro x hx
    rcases List.mem_append.1 hx with hx | hx
    · obtain ⟨a1, a2, a3⟩ := h.xb x hx
      exact ⟨a1, hv' _ (h.r x hx).1.lt a2, a3⟩
    · rw [List.mem_singleton.1 hx]
      exact ⟨hg.2.2.1, hv' _ hq.lt hg.2.2.2.1, hg.1, hg.2.1, hgT⟩
  · exact ⟨hv' _ h.v.lt h.nc.1, hv' _ h.mp.lt h.nc.2.1, hv' _ h.lt h.nc.2.2⟩
/-- A basic variable is appended. -/
theorem NS.basic {w0 w : World} {bT gm gv n m kb km : Nat} {vb vc : Value} {xs : List NmV} (h : NS w0 w bT gm gv n m kb km vb vc xs) {b0 : Nat} (hb0 : Blk w b0 #[.int .i64 ((n + kb : Nat) : Int)]) (hl : n + kb ≤ 100) :
    ∃ v' w', (Builtin.append_ #[40, 40] 40 #[vb, .slice (some ⟨b0, 0, none⟩) 1 1]).run Try.prog w = .ok v' w' ∧ NS w0 w' bT gm gv n m (kb + 1) km v' vc xs ∧ w.grownBy w' vb.ownBlock := by
  obtain ⟨i0, hi0, hz0, hz1, hz2⟩ := info_parts infoI
  obtain ⟨v', w', hr, ho, hgr, _, hv⟩ := run_append_own_at (P := Try.prog) w w0.heap.size 40 40 TI i0 (.int .i64 0) 1 8 Try.underlying40 hi0 hz0 hz1 hz2 rfl (by decide) vb kb (iv ((List.range kb).map fun i => ((n + i : Nat) : Int))) (by have := h.b; unfold OwnI at this; simpa using this) ⟨b0, 0, none⟩ 1 1 [.int .i64 ((n + kb : Nat) : Int)] rfl
    (fun j u hj => by rw [add_plain, Nat.zero_add, hb0.cell j]; simpa using hj) (by intro u hu; rw [List.mem_singleton.1 hu]; rfl) (by unfold maxLen; omega) (by omega) h.k.size
  have hblk : ∀ b, b < w.heap.size → vb.ownBlock ≠ some b → w'.heap[b]? = w.heap[b]? := fun b hb hn => hgr.block b hb fun e => hn e.symm
  have hv' : ∀ c, c < w.heap.size → vb.ownBlock ≠ some c → v'.ownBlock ≠ some c := by
    intro c hc hn e
    rcases hv with h1 | h1
    · rw [h1] at e; exact hn e
    · rw [h1] at e; cases e; omega
  refine ⟨v', w', hr, ⟨h.k.grown hgr fun k hk => (World.ownsRow.lt h.b k hk).1, ?_, ?_, ?_, h.d, ?_, ?_, ?_, ?_, ?_, h.nc, h.ap, h.own, Nat.lt_of_lt_of_le h.lt hgr.size⟩, hgr⟩
  · unfold OwnI
    rw [List.range_succ, List.map_append, iv_app]
    simpa [iv] using ho
  · exact ownsRow_same h.c fun k hk => hblk k (h.c.lt k hk) fun e => h.bc k e hk
  · exact fun x hx => ⟨(h.r x hx).1.same (hblk _ (h.r x hx).1.lt (h.xb x hx).1), (h.r x hx).2⟩
  · exact h.v.same (hblk _ h.v.lt h.nb.1)
  · exact h.mp.same (hblk _ h.mp.lt h.nb.2.1)
  · exact (h.bc.symm.step (fun k hk => h.c.lt k hk) hv).symm
  · intro x hx
    obtain ⟨a1, a2, a3⟩ := h.xb x hx
    exact ⟨hv' _ (h.r x hx).1.lt a1, a2, a3⟩
  · exact ⟨hv' _ h.v.lt h.nb.1, hv' _ h.mp.lt h.nb.2.1, hv' _ h.lt h.nb.2.2⟩
/-- What the map's update leaves. -/
theorem NS.mapped {w0 w w' : World} {bT gm gv n m kb km : Nat} {vb vc : Value} {xs : List NmV} (h : NS w0 w bT gm gv n m kb km vb vc xs) {D : DataW Unit} (hD : ∀ i (h : i < ((List.range km).map fun i => n + i).length), D.atKey (.int .i64 (((List.range km).map fun i => n + i)[i] : Int)) (.lit (.int .i64 0)) = .lit (.int .i64 (i : Int))) (hm : IsMap D)
    (ho : w'.ownsMap Try.prog 3 (plainElem Try.prog 3) gm (km + 1) (D.put (.int .i64 ((n + km : Nat) : Int)) (.lit (.int .i64 (km : Int))))) (hg : w.grownBy w' (some gm)) : NS w0 w' bT gm gv n m kb (km + 1) vb vc xs := by
  have hblk : ∀ b, b < w.heap.size → b ≠ gm → w'.heap[b]? = w.heap[b]? := fun b hb hn => hg.block b hb fun e => hn (Option.some.inj e)
  refine ⟨h.k.grown hg fun k hk => (by cases hk; exact h.own.2.2), ?_, ?_, ?_, h.d, ?_, ?_, h.bc, h.xb, h.nb, h.nc, h.ap, h.own, Nat.lt_of_lt_of_le h.lt hg.size⟩
  · exact ownsRow_same h.b fun k hk => hblk k (World.ownsRow.lt h.b k hk).2 fun e => h.nb.2.1 (e ▸ hk)
  · exact ownsRow_same h.c fun k hk => hblk k (h.c.lt k hk) fun e => h.nc.2.1 (e ▸ hk)
  · exact fun x hx => ⟨(h.r x hx).1.same (hblk _ (h.r x hx).1.lt (h.xb x hx).2.2.2.1), (h.r x hx).2⟩
  · exact h.v.same (hblk _ h.v.lt h.ap.2.2)
  · refine ⟨_, ho, fun i hi => ?_⟩
    have hi' : i < km + 1 := by simpa using hi
    rw [List.getElem_map, List.getElem_range]
    by_cases e : i = km
    · subst e
      exact Maps.atKey_put_same hm (show WideAt.IsKeyLit (.int .i64 ((n + i : Nat) : Int)) from by simp [WideAt.IsKeyLit]) _ _
    · rw [Maps.atKey_put_other (by intro h; injection h with _ h; omega)]
      have := hD i (by simp; omega)
      rw [List.getElem_map, List.getElem_range] at this
      exact this
/-- All is made. -/
theorem NS.done {w0 w : World} {bT gm gv n : Nat} {vb vc vr : Value} {xs : List NmV} {rows : List Rw} (h : NS w0 w bT gm gv n rows.length rows.length rows.length vb vc xs) (hx : xs.map NmV.q = (TS.start n rows).cells) (ht : TBlk w bT n vr vb (.map (some gm)) vc (.slice (some ⟨gv, 0, none⟩) (n + rows.length) (n + rows.length)) (.slice none 0 0)) (hr : IsRows w0 vr rows) (hn : n ≤ 12) (h40 : rows.length ≤ 40) :
    IsT w0 w bT rows.length (TS.start n rows) := by
  have hxl : xs.length = rows.length := by have := congrArg List.length hx; simpa [TS.start] using this
  have hxa : ∀ i (hi : i < xs.length) (hi' : i < (TS.start n rows).cells.length), (TS.start n rows).cells[i] = xs[i].q := by
    intro i hi hi'
    have : (TS.start n rows).cells[i]? = some xs[i].q := by rw [← hx]; simp [hi]
    rw [List.getElem?_eq_getElem hi'] at this
    exact Option.some.inj this
  obtain ⟨ob, cb, hvb, hcb1, hcb2, hbI⟩ : ∃ ob cb, vb = .slice ob rows.length cb ∧ rows.length ≤ cb ∧ cb ≤ maxLen ∧ (0 < rows.length → ∃ g, ob = some ⟨g, 0, none⟩ ∧ vb.ownBlock = some g ∧ w0.heap.size ≤ g ∧ IBlk w g (TS.start n rows).basic) := by
    obtain ⟨hl, h' | ⟨g, cap, cur, hv, hb, hg, hl', hm, hs, ht⟩⟩ := h.b
    · obtain ⟨e1, e2⟩ := h'
      have e3 : rows.length = 0 := by simpa using e2
      exact ⟨none, 0, by rw [e1, e3], by omega, by simp, fun h0 => absurd h0 (by omega)⟩
    · have e3 : ((List.range rows.length).map fun i => ((n + i : Nat) : Int)).length = rows.length := by simp
      rw [e3] at hv hl' ht
      refine ⟨_, cap, hv, hl', hm, fun _ => ⟨g, rfl, by rw [hv]; rfl, hb, cur, ⟨_, hg⟩, fun i hi => ?_⟩⟩
      have hi' : i < rows.length := by simpa [TS.start] using hi
      have h1 : (cur.toList.take (rows.length * 1))[i]? = (iv ((List.range rows.length).map fun i => ((n + i : Nat) : Int)))[i]? := by rw [ht]
      rw [List.getElem?_take, if_pos (by omega), iv_get] at h1
      simp [hi'] at h1
      simp [TS.start, h1]
  obtain ⟨oc, cc, hvc, hcc1, hcc2, hcI⟩ : ∃ oc cc, vc = .slice oc rows.length cc ∧ rows.length ≤ cc ∧ cc ≤ maxLen ∧ (0 < rows.length → ∃ g, oc = some ⟨g, 0, none⟩ ∧ vc.ownBlock = some g ∧ w0.heap.size ≤ g ∧ CBlk w g (TS.start n rows).cells (fun i => (xs.getD i ⟨0, []⟩).g) (fun i => (xs.getD i ⟨0, []⟩).q.length)) := by
    obtain ⟨hl, h' | ⟨g, cap, cur, hv, hb, hg, hl', hm, hs, ht⟩⟩ := h.c
    · obtain ⟨e1, e2⟩ := h'
      have e3 : rows.length = 0 := by omega
      exact ⟨none, 0, by rw [e1, e3], by omega, by simp, fun h0 => absurd h0 (by omega)⟩
    · rw [hxl] at hv hl' ht
      refine ⟨_, cap, hv, hl', hm, fun _ => ⟨g, rfl, by rw [hv]; rfl, hb, cur, ⟨_, hg⟩, fun i hi => ?_⟩⟩
      have hi' : i < xs.length := by rw [hxl]; simpa [TS.start] using hi
      have h1 := flat_get nmC_len xs i xs[i] (List.getElem?_eq_getElem hi') 0 (by decide)
      rw [← ht, List.getElem?_take, if_pos (by omega), Nat.mul_one, Nat.add_zero] at h1
      have h2 : xs.getD i ⟨0, []⟩ = xs[i] := by rw [List.getD_eq_getElem?_getD, List.getElem?_eq_getElem hi']; rfl
      simp only [h2]
      rw [hxa i hi' hi, ← Array.getElem?_toList, h1]
      rfl
  have hbig : ∀ {c : Nat}, w.heap.size ≤ c → NClear c gm gv vb vc xs := fun hc => h.fresh hc
  obtain ⟨gb, hgb⟩ : ∃ gb, (0 < rows.length → ob = some ⟨gb, 0, none⟩ ∧ vb.ownBlock = some gb ∧ IBlk w gb (TS.start n rows).basic) ∧ w0.heap.size ≤ gb ∧ (rows.length = 0 → gb = w.heap.size + 1) := by
    by_cases h0 : 0 < rows.length
    · obtain ⟨g, h1, h2, h3, h4⟩ := hbI h0
      exact ⟨g, fun _ => ⟨h1, h2, h4⟩, h3, fun e => by omega⟩
    · exact ⟨w.heap.size + 1, fun h => absurd h h0, by have := h.k.size; omega, fun _ => rfl⟩
  obtain ⟨gc, hgc⟩ : ∃ gc, (0 < rows.length → oc = some ⟨gc, 0, none⟩ ∧ vc.ownBlock = some gc ∧ CBlk w gc (TS.start n rows).cells (fun i => (xs.getD i ⟨0, []⟩).g) (fun i => (xs.getD i ⟨0, []⟩).q.length)) ∧ w0.heap.size ≤ gc ∧ (rows.length = 0 → gc = w.heap.size + 2) := by
    by_cases h0 : 0 < rows.length
    · obtain ⟨g, h1, h2, h3, h4⟩ := hcI h0
      exact ⟨g, fun _ => ⟨h1, h2, h4⟩, h3, fun e => by omega⟩
    · exact ⟨w.heap.size + 2, fun h => absurd h h0, by have := h.k.size; omega, fun _ => rfl⟩
  have hgl := h.v.lt
  have hml := h.mp.lt
  have htl := h.lt
  have hB : gb ≠ gv ∧ gb ≠ gm ∧ gb ≠ bT ∧ ∀ x ∈ xs, x.g ≠ gb := by
    by_cases h0 : 0 < rows.length
    · have e := (hgb.1 h0).2.1
      exact ⟨fun e' => h.nb.1 (e' ▸ e), fun e' => h.nb.2.1 (e' ▸ e), fun e' => h.nb.2.2 (e' ▸ e), fun x hx e' => (h.xb x hx).1 (e'.symm ▸ e)⟩
    · have e := hgb.2.2 (by omega)
      exact ⟨by omega, by omega, by omega, fun x hx => absurd (List.length_pos_of_mem hx) (by omega)⟩
  have hC : gc ≠ gv ∧ gc ≠ gm ∧ gc ≠ bT ∧ ∀ x ∈ xs, x.g ≠ gc := by
    by_cases h0 : 0 < rows.length
    · have e := (hgc.1 h0).2.1
      exact ⟨fun e' => h.nc.1 (e' ▸ e), fun e' => h.nc.2.1 (e' ▸ e), fun e' => h.nc.2.2 (e' ▸ e), fun x hx e' => (h.xb x hx).2.1 (e'.symm ▸ e)⟩
    · have e := hgc.2.2 (by omega)
      exact ⟨by omega, by omega, by omega, fun x hx => absurd (List.length_pos_of_mem hx) (by omega)⟩
  have hBC : gb ≠ gc := by
    by_cases h0 : 0 < rows.length
    · have e1 := (hgb.1 h0).2.1
      have e2 := (hgc.1 h0).2.1
      exact fun e => h.bc gb e1 (e ▸ e2)
    · have e1 := hgb.2.2 (by omega)
      have e2 := hgc.2.2 (by omega)
      omega
  have hlc : (TS.start n rows).cells.length = rows.length := by simp [TS.start]
  have hlb : (TS.start n rows).basic.length = rows.length := by simp [TS.start]
  have hlv : (TS.start n rows).vals.length = n + rows.length := by simp [TS.start]
  have hgD : ∀ i, i < rows.length → ∃ hi : i < xs.length, xs.getD i ⟨0, []⟩ = xs[i] := by
    intro i hi
    have hi' : i < xs.length := by omega
    exact ⟨hi', by rw [List.getD_eq_getElem?_getD, List.getElem?_eq_getElem hi']; rfl⟩
  have hql : ∀ i (hi : i < xs.length), xs[i].q.length = n + rows.length := by
    intro i hi
    rw [← hxa i hi (by omega)]
    simp [TS.start]
  refine ⟨⟨gb, gc, gv, gm, fun i => (xs.getD i ⟨0, []⟩).g, ob, oc, cb, cc, n + rows.length, fun i => (xs.getD i ⟨0, []⟩).q.length, vr⟩, ?_⟩
  constructor
  · exact h.k
  · show TBlk w bT n vr (.slice ob (TS.start n rows).basic.length cb) (.map (some gm)) (.slice oc (TS.start n rows).cells.length cc) (.slice (some ⟨gv, 0, none⟩) (TS.start n rows).vals.length (n + rows.length)) (.slice none 0 0)
    rw [hlc, hlb, hlv, ← hvb, ← hvc]
    exact ht
  · exact hr
  · intro hne
    have h0 : 0 < rows.length := by rw [← hlb]; exact List.length_pos_iff.2 hne
    exact ⟨(hgb.1 h0).1, (hgb.1 h0).2.2⟩
  · intro hne
    have h0 : 0 < rows.length := by rw [← hlc]; exact List.length_pos_iff.2 hne
    exact ⟨(hgc.1 h0).1, (hgc.1 h0).2.2⟩
  · intro i hi
    obtain ⟨hi', e⟩ := hgD i (by omega)
    have hq := hql i hi'
    simp only [e]
    rw [hxa i hi' hi]
    exact ⟨(h.r _ (List.getElem_mem hi')).1, Nat.le_refl _, by rw [hq]; unfold maxLen; omega⟩
  · exact h.v
  · exact ⟨by rw [hlb]; exact hcb1, hcb2⟩
  · exact ⟨by rw [hlc]; exact hcc1, hcc2⟩
  · exact ⟨by rw [hlv]; exact Nat.le_refl _, by show n + rows.length ≤ maxLen; unfold maxLen; omega⟩
  · exact h.mp
  · refine ⟨h.own.1, hgb.2.1, hgc.2.1, h.own.2.1, h.own.2.2, fun i hi => ?_⟩
    obtain ⟨hi', e⟩ := hgD i (by omega)
    show _ ≤ (xs.getD i ⟨0, []⟩).g
    rw [e]
    exact (h.r _ (List.getElem_mem hi')).2
  · refine ⟨hB.2.2.1.symm, hC.2.2.1.symm, h.ap.1, h.ap.2.1, hBC, hB.1, hB.2.1, hC.1, hC.2.1, h.ap.2.2, ?_, ?_, ?_, ?_, ?_, ?_⟩
    · intro i hi
      obtain ⟨hi', e⟩ := hgD i (by omega)
      show (xs.getD i ⟨0, []⟩).g ≠ bT
      rw [e]
      exact (h.xb _ (List.getElem_mem hi')).2.2.2.2
    · intro i hi
      obtain ⟨hi', e⟩ := hgD i (by omega)
      show (xs.getD i ⟨0, []⟩).g ≠ gb
      rw [e]
      exact hB.2.2.2 _ (List.getElem_mem hi')
    · intro i hi
      obtain ⟨hi', e⟩ := hgD i (by omega)
      show (xs.getD i ⟨0, []⟩).g ≠ gc
      rw [e]
      exact hC.2.2.2 _ (List.getElem_mem hi')
    · intro i hi
      obtain ⟨hi', e⟩ := hgD i (by omega)
      show (xs.getD i ⟨0, []⟩).g ≠ gv
      rw [e]
      exact (h.xb _ (List.getElem_mem hi')).2.2.1
    · intro i hi
      obtain ⟨hi', e⟩ := hgD i (by omega)
      show (xs.getD i ⟨0, []⟩).g ≠ gm
      rw [e]
      exact (h.xb _ (List.getElem_mem hi')).2.2.2.1
    · intro i j hi hj hij
      obtain ⟨hi', e1⟩ := hgD i (by omega)
      obtain ⟨hj', e2⟩ := hgD j (by omega)
      show (xs.getD i ⟨0, []⟩).g ≠ (xs.getD j ⟨0, []⟩).g
      rw [e1, e2]
      have hp := List.pairwise_iff_getElem.1 h.d
      rcases Nat.lt_or_gt_of_ne hij with hlt | hlt
      · exact hp i j hi' hj' hlt
      · exact (hp j i hj' hi' hlt).symm
end Go.Proofs.Ytamjmcdlddocgaa
