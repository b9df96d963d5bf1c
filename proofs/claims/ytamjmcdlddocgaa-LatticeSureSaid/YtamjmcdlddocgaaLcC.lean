/- Package lattice's systemOf. -/
import Derived.Test.YtamjmcdlddocgaaLcB
import Derived.Test.YtamjmcdlddocgaaOwnG
namespace Go.Proofs.Ytamjmcdlddocgaa
open Go.ChangeShapes Go.WideShapes Go.RowKit
set_option linter.unusedVariables false
set_option linter.unusedSimpArgs false

abbrev TYN : TypeId := 66
theorem infoYN : (Try.prog.info? TYN).map (fun i => (i.zero, i.size, i.bytes)) = some (some (.slice none 0 0), 1, 24) := by kernel_rfl
/-- A column, where it lies. -/
structure ColV where
  g : Nat
  q : List Rat
def ColV.sv (x : ColV) : Value := .slice (some ⟨x.g, 0, none⟩) x.q.length x.q.length
def colC (x : ColV) : List Value := [x.sv]
theorem colC_len (x : ColV) : (colC x).length = 1 := rfl
theorem ownsRow_sameZ {w w' : World} {base : Nat} {e : TypeId} {size : Nat} {v : Value} {n : Nat} {xs : List Value} (h : w.ownsRow base e size v n xs) (he : ∀ k, v.ownBlock = some k → w'.heap[k]? = w.heap[k]?) : w'.ownsRow base e size v n xs := by
  obtain ⟨hl, h | ⟨g, cap, cur, hv, hb, hg, hl', hm, hs, ht⟩⟩ := h
  · exact ⟨hl, .inl h⟩
  · exact ⟨hl, .inr ⟨g, cap, cur, hv, hb, by rw [he g (by rw [hv]; rfl)]; exact hg, hl', hm, hs, ht⟩⟩
/-- What systemOf has made so far. -/
structure YS (w0 w : World) (bY : Nat) (vr : Value) (n : Nat) (vc : Value) (xs : List ColV) : Prop where
  k : Keep NoS w0 w
  y : Blk w bY #[vr, .int .i64 n, vc]
  c : OwnG TYN 1 colC w w0.heap.size vc xs
  r : ∀ x ∈ xs, NumBlk w x.g x.q ∧ w0.heap.size ≤ x.g
  d : xs.Pairwise fun x y => x.g ≠ y.g
  xb : ∀ x ∈ xs, vc.ownBlock ≠ some x.g ∧ x.g ≠ bY
  nb : vc.ownBlock ≠ some bY
  own : w0.heap.size ≤ bY
/-- A block that is none of these. -/
def YClear (c bY : Nat) (vc : Value) (xs : List ColV) : Prop := c ≠ bY ∧ vc.ownBlock ≠ some c ∧ ∀ x ∈ xs, x.g ≠ c
theorem YS.fresh {w0 w : World} {bY n : Nat} {vr vc : Value} {xs : List ColV} (h : YS w0 w bY vr n vc xs) {c : Nat} (hc : w.heap.size ≤ c) : YClear c bY vc xs :=
  ⟨fun e => by have := h.y.lt; omega, fun e => by have := h.c.lt c e; omega, fun x hx e => by have := (h.r x hx).1.lt; omega⟩
theorem YS.other {w0 w w' : World} {bY n : Nat} {vr vc : Value} {xs : List ColV} (h : YS w0 w bY vr n vc xs) (hk : Keep NoS w0 w') {c : Nat} (ho : ∀ b, b < w.heap.size → b ≠ c → w'.heap[b]? = w.heap[b]?) (hc : YClear c bY vc xs) : YS w0 w' bY vr n vc xs where
  k := hk
  y := h.y.sameZ (ho _ h.y.lt hc.1.symm)
  c := ownsRow_sameZ h.c fun k hk => ho k (h.c.lt k hk) fun e => hc.2.1 (e ▸ hk)
  r := fun x hx => ⟨(h.r x hx).1.sameZ (ho _ (h.r x hx).1.lt (hc.2.2 x hx)), (h.r x hx).2⟩
  d := h.d
  xb := h.xb
  nb := h.nb
  own := h.own
theorem YS.keep {w0 w w' : World} {bY n : Nat} {vr vc : Value} {xs : List ColV} (h : YS w0 w bY vr n vc xs) (k : Keep NoS w w') : YS w0 w' bY vr n vc xs :=
  h.other (h.k.both k) (c := w.heap.size) (fun b hb _ => k.block b hb fun _ h => h) (h.fresh (Nat.le_refl _))
/-- A column is appended. -/
theorem YS.line {w0 w : World} {bY n : Nat} {vr vc : Value} {xs : List ColV} (h : YS w0 w bY vr n vc xs) {g : Nat} {q : List Rat} (hq : NumBlk w g q) (hg : YClear g bY vc xs) (hg0 : w0.heap.size ≤ g) {b0 : Nat} (hb0 : Blk w b0 #[.slice (some ⟨g, 0, none⟩) q.length q.length]) (hl : xs.length ≤ 100) :
    ∃ o l c w', (Builtin.append_ #[87, 87] 87 #[vc, .slice (some ⟨b0, 0, none⟩) 1 1]).run Try.prog w = .ok (.slice o l c) w' ∧ Blk w' bY #[vr, .int .i64 n, vc] ∧ YS w0 (w'.setCell ⟨bY, 2, none⟩ (.slice o l c)) bY vr n (.slice o l c) (xs ++ [⟨g, q⟩]) := by
  obtain ⟨i0, hi0, hz0, hz1, hz2⟩ := info_parts infoYN
  obtain ⟨v', w', hr, ho, hgr, hv⟩ := OwnG.app colC_len Try.underlying87 hi0 hz0 hz1 hz2 rfl (by decide) h.c (x := ⟨g, q⟩) hb0 (by
    intro y hy
    simp [colC] at hy
    subst hy
    rfl) (by unfold maxLen; omega) (by omega) h.k.size
  obtain ⟨o, c, hvl, _⟩ := ho.len
  subst hvl
  have hblk : ∀ b, b < w.heap.size → vc.ownBlock ≠ some b → w'.heap[b]? = w.heap[b]? := fun b hb hn => hgr.block b hb fun e => hn e.symm
  have hv' : ∀ c', c' < w.heap.size → vc.ownBlock ≠ some c' → (Value.slice o (xs ++ [(⟨g, q⟩ : ColV)]).length c).ownBlock ≠ some c' := by
    intro c' hc hn e
    rcases hv with h1 | h1
    · rw [h1] at e; exact hn e
    · rw [h1] at e; cases e; omega
  have hy' : Blk w' bY #[vr, .int .i64 n, vc] := h.y.sameZ (hblk _ h.y.lt h.nb)
  have k' : Keep NoS w0 w' := h.k.grown hgr fun k hk => h.c.block k hk
  have hx' : ∀ x ∈ xs ++ [⟨g, q⟩], NumBlk w' x.g x.q ∧ w0.heap.size ≤ x.g ∧ (Value.slice o (xs ++ [(⟨g, q⟩ : ColV)]).length c).ownBlock ≠ some x.g ∧ x.g ≠ bY := by
    intro x hx
    rcases List.mem_append.1 hx with hx | hx
    · exact ⟨(h.r x hx).1.sameZ (hblk _ (h.r x hx).1.lt (h.xb x hx).1), (h.r x hx).2, hv' _ (h.r x hx).1.lt (h.xb x hx).1, (h.xb x hx).2⟩
    · rw [List.mem_singleton.1 hx]
      exact ⟨hq.sameZ (hblk _ hq.lt hg.2.1), hg0, hv' _ hq.lt hg.2.1, hg.1⟩
  have hset : ∀ b, b ≠ bY → (w'.setCell ⟨bY, 2, none⟩ (.slice o (xs ++ [(⟨g, q⟩ : ColV)]).length c)).heap[b]? = w'.heap[b]? := fun b hb => heap_setCell_other _ _ _ _ hb
  refine ⟨o, _, c, w', hr, hy', ?_⟩
  refine ⟨k'.setCell _ fun hh => absurd hh (Nat.not_lt.2 h.own), hy'.set 2 _, ?_, fun x hx => ?_, ?_, fun x hx => ⟨(hx' x hx).2.2.1, (hx' x hx).2.2.2⟩, hv' _ h.y.lt h.nb, h.own⟩
  · exact ownsRow_sameZ ho fun k hk => hset k fun e => hv' _ h.y.lt h.nb (e ▸ hk)
  · exact ⟨(hx' x hx).1.sameZ (hset _ (hx' x hx).2.2.2), (hx' x hx).2.1⟩
  · rw [List.pairwise_append]
    refine ⟨h.d, by simp, fun x hx y hy => ?_⟩
    rw [List.mem_singleton.1 hy]
    exact hg.2.2 x hx

theorem numIntZ (x : Int) : ∃ y : NV, numV x 1 = y.v ∧ IsNum y.v (x : Rat) := by
  have := numQ_nv (x : Rat)
  rw [numQ_int] at this
  exact this
/-- The columns of rows. -/
def colJ (rows : List Rw) (K k j : Nat) : List Rat := (List.range K).map fun i => if i < j then (((rows.getD i ⟨[], 0, 0⟩).of.getD k 0 : Int) : Rat) else 0
def colQ (rows : List Rw) (n k : Nat) : List Rat := (colJ rows (rows.length + n) k rows.length).set (rows.length + k) 1
theorem colJ_len {rows : List Rw} {K k j : Nat} : (colJ rows K k j).length = K := by simp [colJ]
theorem colQ_len {rows : List Rw} {n k : Nat} : (colQ rows n k).length = rows.length + n := by simp [colQ, colJ]
theorem colJ_zero {rows : List Rw} {K k : Nat} : colJ rows K k 0 = List.replicate K 0 := by
  apply List.ext_getElem
  · simp [colJ]
  · intro i h1 h2; simp [colJ]
theorem colJ_in {rows : List Rw} {K k j : Nat} (hj : j < rows.length) (hk : k < rows[j].of.length) : (colJ rows K k j).set j (((rows[j].of[k]) : Int) : Rat) = colJ rows K k (j + 1) := by
  apply List.ext_getElem
  · simp [colJ]
  · intro i h1 h2
    rw [List.getElem_set]
    simp only [colJ, List.getElem_map, List.getElem_range]
    by_cases e : j = i
    · subst e
      rw [if_pos rfl, if_pos (Nat.lt_succ_self j)]
      rw [List.getD_eq_getElem?_getD (l := rows), List.getElem?_eq_getElem hj, Option.getD_some, List.getD_eq_getElem?_getD, List.getElem?_eq_getElem hk]
      rfl
    · rw [if_neg e]
      by_cases h1 : i < j
      · rw [if_pos h1, if_pos (by omega)]
      · rw [if_neg h1, if_neg (by omega)]
theorem colJ_out {rows : List Rw} {K k j : Nat} (hj : j < rows.length) (hk : ¬ k < rows[j].of.length) : colJ rows K k j = colJ rows K k (j + 1) := by
  apply List.ext_getElem
  · simp [colJ]
  · intro i h1 h2
    simp only [colJ, List.getElem_map, List.getElem_range]
    by_cases e : j = i
    · subst e
      rw [if_neg (Nat.lt_irrefl j), if_pos (Nat.lt_succ_self j), List.getD_eq_getElem?_getD (l := rows), List.getElem?_eq_getElem hj, Option.getD_some, List.getD_eq_getElem?_getD, List.getElem?_eq_none (by omega)]
      rfl
    · by_cases h1 : i < j
      · rw [if_pos h1, if_pos (by omega)]
      · rw [if_neg h1, if_neg (by omega)]

set_option maxRecDepth 100000 in
set_option maxHeartbeats 32000000 in
theorem systemOf_any (w : World) (vr : Value) (rows : List Rw) (n : Nat) (hr : IsRows w vr rows) (hok : ∀ r ∈ rows, RowOK r n) (hn : n ≤ 12) (h40 : rows.length ≤ 40) :
    Calls Try.prog 43 #[vr, .int .i64 (n : Int)] w fun e w' => ∃ bY vc xs, e = .returned (.pointer (some ⟨bY, 0, none⟩)) ∧ YS w w' bY vr n vc xs ∧ xs.map ColV.q = (List.range n).map (colQ rows n) := by
  have HR := Lib.hid hr
  have HOK := Lib.hid hok
  obtain ⟨oa, ca, hvr, _, _⟩ := hr.len
  obtain ⟨m, hm⟩ : ∃ m, rows.length = m := ⟨_, rfl⟩
  obtain ⟨KN, hK⟩ : ∃ KN, m + n = KN := ⟨_, rfl⟩
  have HMM := Lib.hid hm
  have HKK := Lib.hid hK
  have hK52 : KN ≤ 52 := by omega
  have hm40 : m ≤ 40 := by omega
  rw [hm] at hvr
  have HVR := Lib.hid hvr
  subst hvr
  have eK : (m : Int) + (n : Int) = (KN : Int) := by omega
  have ew : IntKind.i64.wrap (KN : Int) = (KN : Int) := Go.IntWalk.i64_in _ (by omega)
  clear hr hok hm h40 hK
  have ka : Keep NoS w (w.alloc (.cells #[.slice oa m ca, .int .i64 n, .slice none 0 0] 94)) := (Keep.refl _ _).alloc _
  have HI : Hid (YS w (w.alloc (.cells #[.slice oa m ca, .int .i64 n, .slice none 0 0] 94)) w.heap.size (.slice oa m ca) n (.slice none 0 0) []) := Lib.hid ⟨ka, blk_at _ _ rfl, OwnG.nil _ _, by simp, List.Pairwise.nil, by simp, by simp [Value.ownBlock], Nat.le_refl _⟩
  go_enter Try.func43, Try.ntmps43
  go_upto_region 2 with fail
  clear ka
  generalize w.alloc (.cells #[.slice oa m ca, .int .i64 n, .slice none 0 0] 94) = w1 at *
  generalize hbY : w.heap.size = bY at HI ⊢
  clear hbY
  go_wp2
  go_loopw [15] (fun s wr => ∃ (k : Nat) (vc : Value) (xs : List ColV), k ≤ n ∧ s = .int .i64 k ∧ YS w wr bY (.slice oa m ca) n vc xs ∧ xs.map ColV.q = (List.range k).map (colQ rows n)) (fun s _ => (n - intOf s).toNat)
  case atStart => exact ⟨0, _, [], by omega, rfl, HI.out, by simp⟩
  case round =>
    obtain ⟨k, vc, xs, hk, rfl, hys, hxs⟩ := hrel
    have HYS := Lib.hid hys
    have HXS := Lib.hid hxs
    clear hys hxs HI
    by_cases hkn : k < n
    case neg =>
      have hlt : ¬ (k : Int) < (n : Int) := by omega
      obtain rfl : k = n := by omega
      go_wp2
      go_ret
      exact ⟨bY, rfl, vc, xs, HYS.out, HXS.out⟩
    case pos =>
      have hlt : (k : Int) < (n : Int) := by omega
      obtain ⟨wb, hrb, hnb, hkb⟩ := make_nums wr KN (by omega)
      have HCG := Lib.hid (And.intro (HYS.out.fresh (Nat.le_refl wr.heap.size)) HYS.out.k.size)
      go_upto_region 6 with fail
      clear hrb
      have HYS := Lib.hid (HYS.out.keep hkb)
      have HQ : Hid (NumBlk wb wr.heap.size (colJ rows KN k 0)) := Lib.hid (by rw [colJ_zero]; exact hnb)
      clear hnb hkb
      generalize wr.heap.size = g at *
      go_wp2
      go_loopw [25] (fun s wr => ∃ j : Nat, j ≤ m ∧ s = .int .i64 j ∧ YS w wr bY (.slice oa m ca) n vc xs ∧ NumBlk wr g (colJ rows KN k j)) (fun s _ => (m - intOf s).toNat)
      case atStart => exact ⟨0, by omega, rfl, HYS.out, HQ.out⟩
      case round =>
        obtain ⟨j, hj, rfl, hys, hq⟩ := hrel
        clear HYS HQ
        have HYS := Lib.hid hys
        have HQ := Lib.hid hq
        clear hys hq
        by_cases hjm : j < m
        case pos =>
          have hltj : (j : Int) < (m : Int) := by omega
          have hjK : j < KN := by have := HKK.out; omega
          have hjKI : (j : Int) < (KN : Int) := by omega
          have hjr : j < rows.length := by have := HMM.out; omega
          obtain ⟨b, o, rfl, hbl, hrow⟩ := HR.out.at hjr
          have hok := HOK.out _ (List.getElem_mem hjr)
          have HIN := Lib.hid (colJ_in (K := KN) (k := k) hjr)
          have HOUT := Lib.hid (colJ_out (K := KN) (k := k) hjr)
          generalize rows[j] = r at *
          obtain ⟨os, cs, p0, p1, p2, hrow⟩ := hrow.row
          have p0 := (HYS.out.k.cell hbl).trans p0
          have p1 := (HYS.out.k.cell hbl).trans p1
          have p2 := (HYS.out.k.cell hbl).trans p2
          have hblr := Nat.lt_of_lt_of_le hbl HYS.out.k.size
          have HFT := Lib.hid hok.fit
          have HIR := Lib.hid hrow
          clear hok hrow
          have ka : Keep NoS wr (wr.alloc (.cells #[.slice os r.of.length cs, .int .i64 r.kind, .int .i64 r.to] 42)) := (Keep.refl _ _).alloc _
          have HB9 : Hid (Blk (wr.alloc (.cells #[.slice os r.of.length cs, .int .i64 r.kind, .int .i64 r.to] 42)) wr.heap.size #[.slice os r.of.length cs, .int .i64 r.kind, .int .i64 r.to]) := Lib.hid (blk_at _ _ rfl)
          go_upto_region 9 with fail
          have HYS := Lib.hid (HYS.out.keep ka)
          have HQ := Lib.hid (HQ.out.keep ka)
          clear ka p0 p1 p2 hblr
          generalize wr.alloc (.cells #[.slice os r.of.length cs, .int .i64 r.kind, .int .i64 r.to] 42) = wa at *
          generalize wr.heap.size = b9 at *
          obtain ⟨s0, s1, s2, _, _, _, l9⟩ := HB9.out.three
          have HINT : Hid (IsInts w (.slice os r.of.length cs) r.of) := Lib.hid (by obtain ⟨sv, hsv, h, _⟩ := HIR.out; cases hsv; exact h)
          by_cases hkr : k < r.of.length
          case pos =>
            have hltk : (k : Int) < (r.of.length : Int) := by omega
            obtain ⟨bi, oi, ci, hsl, hbi, hc⟩ := HINT.out.at hkr
            cases hsl
            have p0 := (HYS.out.k.cell hbi).trans hc
            have hbir := Nat.lt_of_lt_of_le hbi HYS.out.k.size
            have hfx := HFT.out _ (List.getElem_mem hkr)
            have HST := Lib.hid (HIN.out hkr)
            generalize r.of[k] = x at *
            unfold fitI at hfx
            have CI := fun w => Lib.hid (exInt_any w x (by omega) (by omega))
            obtain ⟨⟨xb, xS, xc, xU⟩, hx, hxn⟩ := numIntZ x
            rw [hx] at CI
            unfold NV.v at CI
            simp only at CI
            have HXN := Lib.hid hxn
            clear hx hxn hc
            go_wp2_with fail
            refine (CI _).out.mono ?_
            rintro e w2' ⟨rfl, hk2⟩
            have HYS := Lib.hid (HYS.out.keep hk2)
            have HQ := Lib.hid (HQ.out.keep hk2)
            clear hk2 CI p0 hbir s0 s1 s2 l9
            obtain ⟨_, _, _, _, g0, g1, g2, g3, _, f0, f1, f2, f3⟩ := HQ.out.at (k := j) (by rw [colJ_len]; exact hjK)
            have hg6 := HQ.out.lt
            go_wp2
            have HQ2 : Hid (NumBlk (q4 w2' g (j * 4) ⟨xb, xS, xc, xU⟩) g (colJ rows KN k (j + 1))) := Lib.hid (by rw [← HST.out]; exact HQ.out.setQ HXN.out)
            have HYS2 : Hid (YS w (q4 w2' g (j * 4) ⟨xb, xS, xc, xU⟩) bY (.slice (some ⟨b, o, none⟩) m ca) n vc xs) := Lib.hid (HYS.out.other (q4_keep HYS.out.k HCG.out.2) (fun b _ hb => q4_other hb) HCG.out.1)
            rw [show ((((w2'.setCell ⟨g, j * 4, none⟩ (.bool xb)).setCell ⟨g, j * 4 + 1, none⟩ (.string xS)).setCell ⟨g, j * 4 + 2, none⟩ (.bool xc)).setCell ⟨g, j * 4 + 3, none⟩ (.string xU)) = q4 w2' g (j * 4) ⟨xb, xS, xc, xU⟩ from rfl]
            go_roundw
            case rel => exact ⟨j + 1, by omega, by go_num, HYS2.out, HQ2.out⟩
            case measure => simp [intOf]; omega
          case neg =>
            have hltk : ¬ (k : Int) < (r.of.length : Int) := by omega
            have HST := Lib.hid (HOUT.out hkr)
            go_wp2
            go_roundw
            case rel => exact ⟨j + 1, by omega, by go_num, HYS.out, by rw [← HST.out]; exact HQ.out⟩
            case measure => simp [intOf]; omega
        case neg =>
          have hltj : ¬ (j : Int) < (m : Int) := by omega
          obtain rfl : j = m := by omega
          have hxl : xs.length = k := by
            have := congrArg List.length HXS.out
            simpa using this
          have HXL := Lib.hid hxl
          clear hxl
          obtain ⟨c, hc⟩ : ∃ c, j + k = c := ⟨_, rfl⟩
          have HCC := Lib.hid hc
          have ec : (j : Int) + (k : Int) = (c : Int) := by omega
          have ecw : IntKind.i64.wrap (c : Int) = (c : Int) := Go.IntWalk.i64_in _ (by omega)
          have hcK : c < KN := by have := HKK.out; omega
          have hcKI : (c : Int) < (KN : Int) := by omega
          have CI := fun w => Lib.hid (exInt_any w 1 (by omega) (by omega))
          obtain ⟨⟨xb, xS, xc, xU⟩, hx, hxn⟩ := numIntZ 1
          rw [hx] at CI
          unfold NV.v at CI
          simp only at CI
          have HXN := Lib.hid hxn
          clear hx hxn hc
          go_wp2_with fail
          refine (CI _).out.mono ?_
          rintro e w2 ⟨rfl, hk2⟩
          have HYS := Lib.hid (HYS.out.keep hk2)
          have HQ := Lib.hid (HQ.out.keep hk2)
          clear hk2 CI
          obtain ⟨_, _, _, _, g0, g1, g2, g3, _, f0, f1, f2, f3⟩ := HQ.out.at (k := c) (by rw [colJ_len]; exact hcK)
          have hg6 := HQ.out.lt
          go_upto_region 13 with fail
          have HQ2 : Hid (NumBlk (q4 w2 g (c * 4) ⟨xb, xS, xc, xU⟩) g (colQ rows n k)) := Lib.hid (by
            have h1 := HMM.out
            have h2 := HKK.out
            have h3 := HCC.out
            have h4 := HQ.out.setQ (k := c) (x := ⟨xb, xS, xc, xU⟩) HXN.out
            unfold colQ
            rw [h1, h2, h3]
            exact h4)
          have HYS2 : Hid (YS w (q4 w2 g (c * 4) ⟨xb, xS, xc, xU⟩) bY (.slice oa j ca) n vc xs) := Lib.hid (HYS.out.other (q4_keep HYS.out.k HCG.out.2) (fun b _ hb => q4_other hb) HCG.out.1)
          rw [show ((((w2.setCell ⟨g, c * 4, none⟩ (.bool xb)).setCell ⟨g, c * 4 + 1, none⟩ (.string xS)).setCell ⟨g, c * 4 + 2, none⟩ (.bool xc)).setCell ⟨g, c * 4 + 3, none⟩ (.string xU)) = q4 w2 g (c * 4) ⟨xb, xS, xc, xU⟩ from rfl]
          generalize q4 w2 g (c * 4) ⟨xb, xS, xc, xU⟩ = w3 at *
          clear g0 g1 g2 g3 f0 f1 f2 f3 hg6 HQ HYS
          have hqln : (colQ rows n k).length = KN := by rw [colQ_len, HMM.out, HKK.out]
          have ka : Keep NoS w3 (w3.alloc (.cells #[.slice (some ⟨g, 0, none⟩) KN KN] 66)) := (Keep.refl _ _).alloc _
          have hb0 : Blk (w3.alloc (.cells #[.slice (some ⟨g, 0, none⟩) KN KN] 66)) w3.heap.size #[.slice (some ⟨g, 0, none⟩) KN KN] := blk_at _ _ rfl
          obtain ⟨o4, l4, c4, w4, hr4, hy4, hys4⟩ := (HYS2.out.keep ka).line (HQ2.out.keep ka) HCG.out.1 HCG.out.2 (b0 := w3.heap.size) (by rw [hqln]; exact hb0) (by have := HXL.out; omega)
          have HYS4 := Lib.hid hys4
          obtain ⟨_, _, t2, _, _, _, tl⟩ := HYS2.out.y.three
          obtain ⟨_, _, u2, _, _, uf, ul⟩ := hy4.three
          obtain ⟨ov, cv, hvc, _⟩ := HYS2.out.c.len
          clear hys4 hb0 ka hy4 hqln
          rw [HXL.out] at hvc
          subst hvc
          go_wp2_with (at_builtin; refine wpList_app_run _ _ 87 _ _ rfl rfl rfl rfl hr4 ?_)
          go_roundw
          case rel => exact ⟨k + 1, _, _, by omega, by go_num, HYS4.out, by rw [List.map_append, HXS.out, List.range_succ, List.map_append]; rfl⟩
          case measure => simp [intOf]; omega
end Go.Proofs.Ytamjmcdlddocgaa
