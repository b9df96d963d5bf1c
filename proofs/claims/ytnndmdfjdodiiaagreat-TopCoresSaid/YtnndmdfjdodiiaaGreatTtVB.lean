/- Package cdcl: a search as it lies; at. Package cdcl: propagate. Package cdcl: decide. Package cdcl: back. Package cdcl: learn. Package cdcl: learn. Package cdcl: analysed, what its loops compute. Package cdcl: what analysed reads of a search; its closures. -/
import Derived.Test.YtnndmdfjdodiiaaGreatTtVa
import Derived.ArgAppend
namespace Go.Proofs.YtnndmdfjdodiiaaGreat
open Go.ChangeShapes Go.WideShapes Go.RowKit Go.Maps
set_option linter.unusedVariables false
set_option linter.unusedSimpArgs false

/-- Integers of ints' blocks that are of a set. -/
def LitT (P : Nat → Prop) (w : World) (v : Value) (l : List Int) : Prop := IntsT w v l ∧ ∀ k, v.ownBlock = some k → P k
theorem LitT.fr {P : Nat → Prop} {w w' : World} {v : Value} {l : List Int} (h : LitT P w v l) (hs : w.heap.size ≤ w'.heap.size) (hp : ∀ k, k < w.heap.size → P k → w'.heap[k]? = w.heap[k]?) : LitT P w' v l := by
  obtain ⟨⟨⟨oa, cap, h1, h2, h3, h4⟩, hc, ht⟩, ho⟩ := h
  refine ⟨⟨⟨oa, cap, h1, h2, h3, fun hne => ?_⟩, hc, fun j hj => ?_⟩, ho⟩
  · obtain ⟨b, o, e, hb, hx⟩ := h4 hne
    have hob : P b := ho b (by rw [h1, e]; rfl)
    exact ⟨b, o, e, Nat.lt_of_lt_of_le hb hs, fun i x hi => (cell_fr hs hp hb hob).trans (hx i x hi)⟩
  · obtain ⟨A, hA⟩ := ht j hj
    exact ⟨A, (hp j (lt_of_heap hA) (ho j hj)).trans hA⟩
theorem LitT.mono {P P' : Nat → Prop} {w : World} {v : Value} {l : List Int} (h : LitT P w v l) (hp : ∀ k, P k → P' k) : LitT P' w v l := ⟨h.1, fun k hk => hp k (h.2 k hk)⟩
theorem LitT.inn {P : Nat → Prop} {w : World} {v : Value} {l : List Int} (h : LitT P w v l) : IntsIn P w v l := by
  obtain ⟨⟨⟨oa, cap, h1, h2, h3, h4⟩, hc, ht⟩, ho⟩ := h
  exact ⟨oa, cap, h1, h2, h3, fun hne => by obtain ⟨b, o, e, hb, hx⟩ := h4 hne; exact ⟨b, o, e, hb, ho b (by rw [h1, e]; rfl), hx⟩⟩
/-- Steps of one's own, their literals in blocks of a set. -/
def StIn (P : Nat → Prop) (w : World) (base : Nat) (v : Value) (l : List Sv.Stp) : Prop := ∃ rs : List StR, rs.length = l.length ∧ OwnG TSt 9 stL w base v rs ∧ ∀ (i : Nat) (r : StR) (x : Sv.Stp), rs[i]? = some r → l[i]? = some x → r.k = x.kind ∧ r.n = x.lits.length ∧ LitT P w (.slice r.o r.n r.c) x.lits
theorem StIn.nil (P : Nat → Prop) (w : World) (base : Nat) : StIn P w base (.slice none 0 0) [] := ⟨[], rfl, OwnG.nil _ _, fun i r x h => by simp at h⟩
theorem StIn.steps {P : Nat → Prop} {w : World} {base : Nat} {v : Value} {l : List Sv.Stp} (h : StIn P w base v l) : StepsT w base v l := by
  obtain ⟨rs, h1, h2, h3⟩ := h
  exact ⟨rs, h1, h2, fun i r x hr hx => by obtain ⟨a, b, c⟩ := h3 i r x hr hx; exact ⟨a, b, c.1⟩⟩
theorem StIn.fr {P : Nat → Prop} {w w' : World} {base : Nat} {v : Value} {l : List Sv.Stp} (h : StIn P w base v l) (hs : w.heap.size ≤ w'.heap.size) (hp : ∀ k, k < w.heap.size → P k → w'.heap[k]? = w.heap[k]?) (hb : ∀ j, v.ownBlock = some j → w'.heap[j]? = w.heap[j]?) : StIn P w' base v l := by
  obtain ⟨rs, h1, h2, h3⟩ := h
  exact ⟨rs, h1, own_same h2 hb, fun i r x hr hx => by obtain ⟨a, b, c⟩ := h3 i r x hr hx; exact ⟨a, b, c.fr hs hp⟩⟩
theorem StIn.mono {P P' : Nat → Prop} {w : World} {base : Nat} {v : Value} {l : List Sv.Stp} (h : StIn P w base v l) (hp : ∀ k, P k → P' k) : StIn P' w base v l := by
  obtain ⟨rs, h1, h2, h3⟩ := h
  exact ⟨rs, h1, h2, fun i r x hr hx => by obtain ⟨a, b, c⟩ := h3 i r x hr hx; exact ⟨a, b, c.mono hp⟩⟩
theorem StIn.lt {P : Nat → Prop} {w : World} {base : Nat} {v : Value} {l : List Sv.Stp} (h : StIn P w base v l) : ∀ j, v.ownBlock = some j → base ≤ j ∧ j < w.heap.size := h.steps.lt
theorem StIn.ty {P : Nat → Prop} {w : World} {base : Nat} {v : Value} {l : List Sv.Stp} (h : StIn P w base v l) : ∀ j, v.ownBlock = some j → ∃ A, w.heap[j]? = some (.cells A TSt (0, 0)) := h.steps.ty
def lvI (l : List Nat) : List Int := l.map fun (n : Nat) => (n : Int)
/-- The search's cells. -/
def csG (vars : Nat) (ph : Bool) (b : Nat) (vlev : Value) (lev : Nat) (vlr : Value) : Array Value := #[.int .i64 (vars : Int), .slice none 0 0, .bool ph, .pointer (some ⟨b, 0, none⟩), vlev, .int .i64 (lev : Int), vlr]
def stp1 (l : List (List Int)) : List Sv.Stp := l.map fun c => ⟨1, c⟩
/-- A search, as it lies. -/
structure CSr (P : Nat → Prop) (w0 w : World) (vars : Nat) (ph : Bool) (bS b gm : Nat) (vc vl vw vlev vlr : Value) (s : Cd.SS) : Prop where
  tr : LTr w0 w b gm vc vl vw s.t
  bx : w.heap[bS]? = some (.cells (csG vars ph b vlev s.level vlr) TSe (0, 0))
  hs : w0.heap.size ≤ bS
  lev : OwnI w w0.heap.size vlev (lvI s.levels)
  lrn : StIn P w w0.heap.size vlr (stp1 s.learned)
  cls : ClsIn P w vc s.cls
  off : OffT P w b gm vl vw
  lo : ∀ k, vlev.ownBlock = some k → ¬ TrS b gm vl vw k ∧ ¬ P k
  ro : ∀ k, vlr.ownBlock = some k → ¬ P k
  po : ¬ P bS
theorem ty_ne {w : World} {j k : Nat} {A B : Array Value} {t u : TypeId} (h : w.heap[j]? = some (.cells A t (0, 0))) (h' : w.heap[k]? = some (.cells B u (0, 0))) (ht : t ≠ u) : j ≠ k := by
  rintro rfl
  rw [h] at h'
  injection h' with h'
  injection h' with _ h'
  exact ht h'
theorem LTr.tyl {w0 w : World} {b gm : Nat} {vc vl vw : Value} {t : Cd.Tr} (h : LTr w0 w b gm vc vl vw t) {k : Nat} (hk : TrS b gm vl vw k) : (∃ A, w.heap[k]? = some (.cells A TTr (0, 0))) ∨ (∃ es c, w.heap[k]? = some (.map es c)) ∨ ∃ A, w.heap[k]? = some (.cells A TI (0, 0)) := by
  rcases hk with rfl | rfl | hk | hk
  · exact .inl ⟨_, h.tb⟩
  · exact .inr (.inl h.m.map)
  · exact .inr (.inr (own_atT h.l hk))
  · exact .inr (.inr (own_atT h.y hk))
theorem LTr.notT {w0 w : World} {b gm : Nat} {vc vl vw : Value} {t : Cd.Tr} (h : LTr w0 w b gm vc vl vw t) {k : Nat} {A : Array Value} {u : TypeId} (hk : w.heap[k]? = some (.cells A u (0, 0))) (h1 : u ≠ TTr) (h2 : u ≠ TI) : ¬ TrS b gm vl vw k := fun hS => by
  rcases h.tyl hS with ⟨B, hB⟩ | ⟨es, c, hB⟩ | ⟨B, hB⟩
  · exact ty_ne hk hB h1 rfl
  · rw [hk] at hB; cases hB
  · exact ty_ne hk hB h2 rfl
theorem LTr.frS {S : Nat → Prop} {w0 w w' : World} {b gm : Nat} {vc vl vw : Value} {t : Cd.Tr} (h : LTr w0 w b gm vc vl vw t) (k : Fr S w w') (hS : ∀ n, S n → ¬ TrS b gm vl vw n) (hk : Keep NoS w0 w') : LTr w0 w' b gm vc vl vw t := by
  have hx : ∀ n, n < w.heap.size → TrS b gm vl vw n → w'.heap[n]? = w.heap[n]? := fun n hn ht => k.block n hn fun q => hS n q ht
  exact ⟨hk, h.hb, h.hm, (hx b (lt_of_heap h.tb) (.inl rfl)).trans h.tb, own_same h.l fun q hq => hx q (World.ownsRow.lt h.l q hq).2 (.inr (.inr (.inl hq))), own_same h.y fun q hq => hx q (World.ownsRow.lt h.y q hq).2 (.inr (.inr (.inr hq))), h.m.same (hx gm h.m.lt (.inr (.inl rfl))), h.ap⟩
theorem OffT.size {P : Nat → Prop} {w w' : World} {b gm : Nat} {vl vw : Value} (h : OffT P w b gm vl vw) (hs : w.heap.size ≤ w'.heap.size) : OffT P w' b gm vl vw := ⟨fun k hk => Nat.lt_of_lt_of_le (h.lt k hk) hs, h.off⟩
theorem CSr.keep {P : Nat → Prop} {w0 w w' : World} {vars : Nat} {ph : Bool} {bS b gm : Nat} {vc vl vw vlev vlr : Value} {s : Cd.SS} (h : CSr P w0 w vars ph bS b gm vc vl vw vlev vlr s) (k : Keep NoS w w') : CSr P w0 w' vars ph bS b gm vc vl vw vlev vlr s :=
  ⟨h.tr.keep k, (k.block bS (lt_of_heap h.bx) fun _ h => h).trans h.bx, h.hs, h.lev.keep k, h.lrn.fr k.size (fun n hn _ => k.block n hn fun _ h => h) (fun j hj => k.block j (h.lrn.lt j hj).2 fun _ h => h), h.cls.keep k, h.off.size k.size, h.lo, h.ro, h.po⟩
theorem CSr.blk {P : Nat → Prop} {w0 w : World} {vars : Nat} {ph : Bool} {bS b gm : Nat} {vc vl vw vlev vlr : Value} {s : Cd.SS} (h : CSr P w0 w vars ph bS b gm vc vl vw vlev vlr s) : Blk w bS (csG vars ph b vlev s.level vlr) := ⟨_, h.bx⟩
theorem csG_cells {w : World} {c vars b lev : Nat} {ph : Bool} {vl vr : Value} (h : Blk w c (csG vars ph b vl lev vr)) : w.cell? ⟨c, 0, none⟩ = some (.int .i64 (vars : Int)) ∧ w.cell? ⟨c, 1, none⟩ = some (.slice none 0 0) ∧ w.cell? ⟨c, 2, none⟩ = some (.bool ph) ∧ w.cell? ⟨c, 3, none⟩ = some (.pointer (some ⟨b, 0, none⟩)) ∧ w.cell? ⟨c, 4, none⟩ = some vl ∧ w.cell? ⟨c, 5, none⟩ = some (.int .i64 (lev : Int)) ∧ w.cell? ⟨c, 6, none⟩ = some vr ∧ w.frozen? ⟨c, 3, none⟩ = false ∧ w.frozen? ⟨c, 4, none⟩ = false ∧ w.frozen? ⟨c, 5, none⟩ = false ∧ w.frozen? ⟨c, 6, none⟩ = false ∧ c < w.heap.size :=
  ⟨h.cell 0, h.cell 1, h.cell 2, h.cell 3, h.cell 4, h.cell 5, h.cell 6, h.free 3, h.free 4, h.free 5, h.free 6, h.lt⟩
theorem good_64 {vars : Nat} (hv : vars ≤ 1000) {T : List Int} (h : Cd.GoodT vars T) : ∀ x ∈ T, I64 x ∧ I64 (-x) := fun x hx => by
  have := (h.2 x hx).2
  unfold I64
  omega
theorem lv_64 {l : List Nat} (h : ∀ a ∈ l, a ≤ 100000) : ∀ x ∈ lvI l, I64 x := fun x hx => by
  obtain ⟨a, ha, rfl⟩ := List.mem_map.1 hx
  have := h a ha
  unfold I64
  omega
set_option maxRecDepth 100000 in
set_option maxHeartbeats 8000000 in
theorem at_anyC (P : Nat → Prop) (w0 w : World) (vars : Nat) (ph : Bool) (bS b gm : Nat) (vc vl vw vlev vlr : Value) (s : Cd.SS) (h : CSr P w0 w vars ph bS b gm vc vl vw vlev vlr s) (hv : vars ≤ 1000) (hg : Cd.GoodT vars s.t.lits) (l : Int) (hl : I64 l) (hl' : I64 (-l)) :
    Calls Tryz.prog 109 #[.pointer (some ⟨bS, 0, none⟩), .int .i64 l] w fun e w' => e = .returned (.int .i64 (if -l ∈ s.t.lits then (Cd.atF s l : Int) else -1)) ∧ Keep NoS w w' := by
  have CX := fun w' (k : Keep NoS w w') => Lib.hid (vIndex_any w' vl s.t.lits (-l) ((h.tr.l.ints fun x hx => (good_64 hv hg x hx).1).keep k))
  obtain ⟨x0, x1, x2, x3, x4, x5, x6, f3, f4, f5, f6, xl⟩ := csG_cells h.blk
  obtain ⟨ol, cl, rfl⟩ := h.tr.l.len
  have y1 : w.cell? ⟨b, 1, none⟩ = some (.slice ol s.t.lits.length cl) := by have := cell_of_heap (o := 1) h.tr.tb rfl; exact this
  have yl := lt_of_heap h.tr.tb
  unfold Cd.atF
  generalize (if -l ∈ s.t.lits then ((s.t.lits.idxOf (-l) : Nat) : Int) else -1) = r at *
  have hw := IntWalk.i64_in _ hl'
  clear h hg
  go_enter Tryz.func109, Tryz.ntmps109
  go_wp2_with fail
  refine (CX _ (by (repeat' (with_reducible first | assumption | exact HK.out | exact keR | refine keA ?_ | refine keS ?_ fun h => absurd h (by omega) | refine keN ?_ | refine keD ?_)))).out.mono ?_
  rintro e w1 ⟨rfl, hk⟩
  have K1 : Hid (Keep NoS w w1) := Lib.hid (Keep.both (by (repeat' (with_reducible first | assumption | exact HK.out | exact keR | refine keA ?_ | refine keS ?_ fun h => absurd h (by omega) | refine keN ?_ | refine keD ?_))) hk)
  clear hk CX
  go_wp2
  go_ret
  exact ⟨rfl, K1.out⟩

theorem lvI_len (l : List Nat) : (lvI l).length = l.length := List.length_map ..
theorem lvI_app (l m : List Nat) : lvI (l ++ m) = lvI l ++ lvI m := List.map_append
section
variable {P : Nat → Prop} {w0 w w' : World} {vars : Nat} {ph : Bool} {bS b gm : Nat} {vc vl vw vlev vlr vl' vw' v' : Value} {s : Cd.SS} {t : Cd.Tr} {L : List Nat}
theorem CSr.nS (h : CSr P w0 w vars ph bS b gm vc vl vw vlev vlr s) : ¬ TrS b gm vl vw bS := h.tr.notT h.bx (by decide) (by decide)
theorem CSr.nR (h : CSr P w0 w vars ph bS b gm vc vl vw vlev vlr s) {k : Nat} (hk : vlr.ownBlock = some k) : ¬ TrS b gm vl vw k := by
  obtain ⟨A, hA⟩ := h.lrn.ty k hk
  exact h.tr.notT hA (by decide) (by decide)
theorem trt_new (k : TrT w w' b gm vl vw vl' vw') {n : Nat} (hn : n < w.heap.size) (h : ¬ TrS b gm vl vw n) : ¬ TrS b gm vl' vw' n := by
  rintro (e | e | e | e)
  · exact h (.inl e)
  · exact h (.inr (.inl e))
  · rcases k.l with q | ⟨j, q, hj⟩
    · exact h (.inr (.inr (.inl (q ▸ e))))
    · rw [q] at e; cases e; omega
  · rcases k.y with q | ⟨j, q, hj⟩
    · exact h (.inr (.inr (.inr (q ▸ e))))
    · rw [q] at e; cases e; omega
/-- The trail of a search has gone on. -/
theorem CSr.trt (h : CSr P w0 w vars ph bS b gm vc vl vw vlev vlr s) (hl : LTr w0 w' b gm vc vl' vw' t) (k : TrT w w' b gm vl vw vl' vw') : CSr P w0 w' vars ph bS b gm vc vl' vw' vlev vlr { s with t := t } :=
  ⟨hl, (k.k.block bS (lt_of_heap h.bx) h.nS).trans h.bx, h.hs, h.lev.same fun j hj => k.k.block j (h.lev.ltT j hj) (h.lo j hj).1,
    h.lrn.fr k.k.size (fun n hn hp => k.k.block n hn (h.off.off n hp)) (fun j hj => k.k.block j (h.lrn.lt j hj).2 (h.nR hj)), h.cls.trt h.off k, h.off.step k,
    fun j hj => ⟨trt_new k (h.lev.ltT j hj) (h.lo j hj).1, (h.lo j hj).2⟩, h.ro, h.po⟩
/-- The levels of a search are new ones. -/
theorem CSr.lvs (h : CSr P w0 w vars ph bS b gm vc vl vw vlev vlr s) (ho : OwnI w' w0.heap.size v' (lvI L)) (hg : w.grownBy w' vlev.ownBlock) (hb : v'.ownBlock = vlev.ownBlock ∨ v'.ownBlock = some w.heap.size) : CSr P w0 (w'.setCell ⟨bS, 4, none⟩ v') vars ph bS b gm vc vl vw v' vlr { s with levels := L } := by
  have hbl := lt_of_heap h.bx
  have hne : vlev.ownBlock ≠ some bS := h.lev.neT h.bx (by decide)
  have hbx : w'.heap[bS]? = some (.cells (csG vars ph b vlev s.level vlr) TSe (0, 0)) := (hg.block bS hbl fun e => hne e.symm).trans h.bx
  have hF : Fr (fun k => k = bS ∨ vlev.ownBlock = some k) w (w'.setCell ⟨bS, 4, none⟩ v') := ((Fr.refl _ w).grown hg fun k hk _ => .inr hk).set v' (.inl rfl)
  have hne' : v'.ownBlock ≠ some bS := ho.neT hbx (by decide)
  have hK : Keep NoS w0 (w'.setCell ⟨bS, 4, none⟩ v') := keep_at (h.tr.k.grown hg fun q hq => OwnI.block h.lev q hq) _ h.hs
  have hS : ∀ n, n = bS ∨ vlev.ownBlock = some n → ¬ TrS b gm vl vw n := by
    rintro n (rfl | hn)
    · exact h.nS
    · exact (h.lo n hn).1
  have hP : ∀ n, P n → ¬ (n = bS ∨ vlev.ownBlock = some n) := by
    rintro n hp (rfl | hn)
    · exact h.po hp
    · exact (h.lo n hn).2 hp
  refine ⟨h.tr.frS hF hS hK, ?_, h.hs, World.ownsRow_set_other ho fun q hq e => hne' (e ▸ hq), ?_, ?_, h.off.size hF.size, ?_, h.ro, h.po⟩
  · rw [Go.Joins.block_setCell hbx v']
    rfl
  · refine h.lrn.fr hF.size (fun n hn hp => hF.block n hn (hP n hp)) fun j hj => hF.block j (h.lrn.lt j hj).2 ?_
    obtain ⟨A, hA⟩ := h.lrn.ty j hj
    rintro (e | e)
    · exact ty_ne hA h.bx (by decide) e
    · obtain ⟨B, hB⟩ := own_atT h.lev e
      exact ty_ne hA hB (by decide) rfl
  · exact h.cls.fr hF.size fun n hn hp => hF.block n hn (hP n hp)
  · intro k hk
    rcases hb with e | e
    · rw [e] at hk; exact h.lo k hk
    · rw [e] at hk
      cases hk
      refine ⟨fun hT => ?_, fun hp => absurd (h.off.lt _ hp) (by omega)⟩
      rcases h.tr.tyl hT with ⟨B, hB⟩ | ⟨es, c, hB⟩ | ⟨B, hB⟩ <;> exact absurd (lt_of_heap hB) (by omega)
end
end Go.Proofs.YtnndmdfjdodiiaaGreat

namespace Go.Proofs.YtnndmdfjdodiiaaGreat
open Go.ChangeShapes Go.WideShapes Go.RowKit Go.Maps
set_option linter.unusedVariables false
set_option linter.unusedSimpArgs false
set_option maxRecDepth 100000 in
set_option maxHeartbeats 16000000 in
theorem cprop_any (P : Nat → Prop) (vars : Nat) (w0 w : World) (ph : Bool) (bS b gm : Nat) (oc : Option Addr) (nc cc : Nat) (vl vw vlev vlr : Value) (s : Cd.SS) (h : CSr P w0 w vars ph bS b gm (.slice oc nc cc) vl vw vlev vlr s) (hok : Cd.ClsOK vars s.cls) (hv : vars ≤ 1000) (hg : Cd.GoodT vars s.t.lits) (hw : s.t.why.length = s.t.lits.length) (hle : s.levels.length ≤ s.t.lits.length) (ht : (Cd.propF vars s).1.t.lits.length ≤ vars) (hml : s.t.lits.length ≤ (Cd.propF vars s).1.t.lits.length) :
    Calls Tryz.prog 70 #[.pointer (some ⟨bS, 0, none⟩)] w fun e w' => e = .returned (.int .i64 (Cd.propF vars s).2) ∧ ∃ vl' vw' vlev', CSr P w0 w' vars ph bS b gm (.slice oc nc cc) vl' vw' vlev' vlr (Cd.propF vars s).1 := by
  obtain ⟨oc', cc', hcv, -⟩ := h.cls.cls.len
  injection hcv with q1 q2 q3
  subst q1
  subst q2
  subst q3
  have CR := Lib.hid (run_any P vars w0 w b gm oc cc vl vw s.t s.cls (vars + 1) h.tr h.off h.cls hok hv hg hw (by omega))
  have HS := Lib.hid h
  obtain ⟨x0, x1, x2, x3, x4, x5, x6, f3, f4, f5, f6, xl⟩ := csG_cells h.blk
  unfold Cd.propF at *
  simp only at *
  generalize Cd.runF (vars + 1) s.cls s.t = rr at *
  obtain ⟨t, r⟩ := rr
  simp only at *
  have HLE := Lib.hid hle
  have HML := Lib.hid hml
  obtain ⟨ov0, cv0, hvl⟩ := h.lev.len
  rw [lvI_len] at hvl
  subst hvl
  clear h hok hg hw hle hml
  go_enter Tryz.func70, Tryz.ntmps70
  go_wp2_with fail
  refine CR.out.mono ?_
  rintro e w6 ⟨rfl, vl', vw', hl6, ht6⟩
  have HS6 := Lib.hid (HS.out.trt hl6 ht6)
  obtain ⟨ol, cl, rfl⟩ := hl6.l.len
  clear x0 x1 x2 x3 x4 x5 x6 f3 f4 f5 f6 xl CR ht6 hl6
  generalize hnn : t.lits.length = n at *
  have HNN := Lib.hid hnn
  clear hnn
  go_wp2
  go_loopg [] (n - s.levels.length) (fun gk wr => ∃ (j : Nat) (ov : Option Addr) (cv : Nat), j + gk = n ∧ s.levels.length ≤ j ∧ CSr P w0 wr vars ph bS b gm (.slice oc s.cls.length cc) (.slice ol n cl) vw' (.slice ov j cv) vlr { s with t := t, levels := s.levels ++ List.replicate (j - s.levels.length) s.level })
  case atStart =>
    have hle := HLE.out
    have hml := HML.out
    have hnn := HNN.out
    refine ⟨s.levels.length, ov0, cv0, by omega, by omega, ?_⟩
    rw [Nat.sub_self, List.replicate_zero, List.append_nil]
    exact HS6.out
  case round =>
  obtain ⟨j, ov, cv, hj, hlj, hs⟩ := hrel
  have HSR := Lib.hid hs
  have y1 : wr.cell? ⟨b, 1, none⟩ = some (.slice ol n cl) := by have := cell_of_heap (o := 1) hs.tr.tb rfl; exact this
  have yl := lt_of_heap hs.tr.tb
  obtain ⟨x0, x1, x2, x3, x4, x5, x6, f3, f4, f5, f6, xl⟩ := csG_cells hs.blk
  clear hs
  by_cases hjn : j < n
  case neg =>
    have hlt : ¬ (j : Int) < (n : Int) := by omega
    have hd : decide ((j : Int) < (n : Int)) = false := decide_eq_false hlt
    go_wp2
    go_quiet (fail)
    go_wp2
    go_ret
    have HNE := HNN.out
    obtain rfl : j = n := by omega
    exact ⟨rfl, _, _, _, by rw [HNE]; exact HSR.out.keep (Keep.drewN (Keep.refl _ _) _)⟩
  case pos =>
    have hlt : (j : Int) < (n : Int) := by omega
    have hd : decide ((j : Int) < (n : Int)) = true := decide_eq_true hlt
    go_wp2
    go_quiet (fail)
    obtain ⟨w7, hw7⟩ : ∃ w7 : World, w7 = wr.drewN nq := ⟨_, rfl⟩
    rw [← hw7]
    have HS7 : Hid (CSr P w0 w7 vars ph bS b gm (.slice oc s.cls.length cc) (.slice ol n cl) vw' (.slice ov j cv) vlr { s with t := t, levels := s.levels ++ List.replicate (j - s.levels.length) s.level }) := Lib.hid (by rw [hw7]; exact HSR.out.keep (Keep.drewN (Keep.refl _ _) _))
    clear hw7 x0 x1 x2 x3 x4 x5 x6 f3 f4 f5 f6 xl y1 yl HSR
    obtain ⟨x0, x1, x2, x3, x4, x5, x6, f3, f4, f5, f6, xl⟩ := csG_cells HS7.out.blk
    go_upto_region 3 with fail
    refine wp_region_by (fun w' => Keep NoS w7 w') [0, 10, 11, 12, 13] [([0, 1, 2, 3, 4, 5, 6, 7, 8], 9), ([], 10), ([11, 12], 13)] [] (by kernel_rfl) (by kernel_rfl) (Keep.refl _ _).drew ?_
    intro X W hne hF hcl
    have HCL := Lib.hid hcl
    have z4 := fun x => ((hF x).cell xl).trans x4
    have z5 := fun x => ((hF x).cell xl).trans x5
    have zl := fun x => Nat.lt_of_lt_of_le xl (hF x).size
    clear hF hcl
    simp only [wpPlan, pickOps, List.getElem?_toArray, List.getElem?_cons_zero, List.getElem?_cons_succ, clsOf, Bool.false_eq_true, if_false]
    (repeat (quiet_step (fail))); refine wpQuiet_nil ?_
    refine wpAt rfl rfl fun K hK => ?_
    go_simp
    have k8 : Keep NoS w7 (w7.alloc (.cells #[.int .i64 (s.level : Int)] TI)).drew := ((Keep.refl _ _).alloc _).drew
    refine hK _ _ ⟨fun _ => HCL.out _ k8, ?_⟩
    have hs8 := HS7.out.keep k8
    have hll : (s.levels ++ List.replicate (j - s.levels.length) s.level).length = j := by rw [List.length_append, List.length_replicate]; omega
    have hjb : j ≤ 100000 := by omega
    obtain ⟨v9, w9, hr9, ho9, hg9, hb9⟩ := app_oneI hs8.lev (b := w7.heap.size) (x := (s.level : Int)) (Blk.keep (blk_at _ _ rfl) (Keep.refl _ _).drew) (by show (lvI (s.levels ++ List.replicate (j - s.levels.length) s.level)).length ≤ 100000; rw [lvI_len, hll]; exact hjb) hs8.tr.k.size
    have hzz : lvI (s.levels ++ List.replicate (j - s.levels.length) s.level) ++ [(s.level : Int)] = lvI (s.levels ++ List.replicate (j + 1 - s.levels.length) s.level) := by
      rw [show j + 1 - s.levels.length = (j - s.levels.length) + 1 by omega, List.replicate_succ', ← List.append_assoc, lvI_app (s.levels ++ _)]
      rfl
    rw [hzz] at ho9
    obtain ⟨o9, c9, hs9⟩ := ho9.len
    have hzl1 : (lvI (s.levels ++ List.replicate (j + 1 - s.levels.length) s.level)).length = j + 1 := by rw [lvI_len, List.length_append, List.length_replicate]; omega
    rw [hzl1] at hs9
    subst hs9
    have HS9 := Lib.hid (hs8.lvs ho9 hg9 hb9)
    have hbx9 : w9.heap[bS]? = some (.cells (csG vars ph b (.slice ov j cv) s.level vlr) TSe (0, 0)) := (hg9.block bS (lt_of_heap hs8.bx) fun e => hs8.lev.neT hs8.bx (by decide) e.symm).trans hs8.bx
    have HB9 : Blk w9 bS (csG vars ph b (.slice ov j cv) s.level vlr) := ⟨_, hbx9⟩
    have f9 := HB9.free 4
    have g9 : w9.cell? ⟨bS, 4, none⟩ = some (.slice ov j cv) := HB9.cell 4
    have gl := HB9.lt
    clear hK k8 hs8 ho9 HB9 hbx9 HCL hg9 hb9 hzz hzl1 hll
    (repeat (quiet_step (fail))); refine wpQuiet_nil ?_
    refine wpAt rfl rfl fun K hK => ?_
    refine wp_app_run _ _ 22 _ _ rfl rfl rfl hr9 ?_
    refine hK _ _ ⟨fun h => (by simp at h), ?_⟩
    clear hK hr9
    (repeat (quiet_step (fail))); refine wpQuiet_nil ?_
    refine wpAt rfl rfl fun K hK => ?_
    go_simp
    refine hK _ _ ⟨fun h => (by simp at h), ?_⟩
    clear hK
    (repeat (quiet_step (fail))); refine wpQuiet_nil ?_
    refine NoPanic.normal ?_
    go_wp2
    obtain ⟨g, rfl⟩ : ∃ g, gk = g + 1 := ⟨gk - 1, by omega⟩
    go_roundg g
    case measure => omega
    case rel => exact ⟨j + 1, o9, c9, by omega, by omega, HS9.out⟩
end Go.Proofs.YtnndmdfjdodiiaaGreat

namespace Go.Proofs.YtnndmdfjdodiiaaGreat
open Go.ChangeShapes Go.WideShapes Go.RowKit Go.Maps
set_option linter.unusedVariables false
set_option linter.unusedSimpArgs false

section
variable {P : Nat → Prop} {w0 w w' : World} {vars : Nat} {ph : Bool} {bS b gm : Nat} {vc vl vw vlev vlr vl' vw' v' : Value} {s : Cd.SS} {t : Cd.Tr} {L : List Nat}
/-- A store into the search's own cells. -/
theorem CSr.own (h : CSr P w0 w vars ph bS b gm vc vl vw vlev vlr s) (i : Nat) (u : Value) : Fr (fun k => k = bS) w (w.setCell ⟨bS, i, none⟩ u) ∧ LTr w0 (w.setCell ⟨bS, i, none⟩ u) b gm vc vl vw s.t ∧ OwnI (w.setCell ⟨bS, i, none⟩ u) w0.heap.size vlev (lvI s.levels) ∧ StIn P (w.setCell ⟨bS, i, none⟩ u) w0.heap.size vlr (stp1 s.learned) ∧ ClsIn P (w.setCell ⟨bS, i, none⟩ u) vc s.cls ∧ OffT P (w.setCell ⟨bS, i, none⟩ u) b gm vl vw := by
  have hF : Fr (fun k => k = bS) w (w.setCell ⟨bS, i, none⟩ u) := (Fr.refl _ w).set u rfl
  have hP : ∀ n, n < w.heap.size → P n → (w.setCell ⟨bS, i, none⟩ u).heap[n]? = w.heap[n]? := fun n hn hp => hF.block n hn (by rintro rfl; exact h.po hp)
  refine ⟨hF, h.tr.frS hF (by rintro n rfl; exact h.nS) (keep_at h.tr.k _ h.hs), World.ownsRow_set_other h.lev fun q hq e => h.lev.neT h.bx (by decide) (e ▸ hq), h.lrn.fr hF.size hP fun j hj => hF.block j (h.lrn.lt j hj).2 ?_, h.cls.fr hF.size hP, h.off.size hF.size⟩
  obtain ⟨A, hA⟩ := h.lrn.ty j hj
  exact ty_ne hA h.bx (by decide)
theorem CSr.lvl (h : CSr P w0 w vars ph bS b gm vc vl vw vlev vlr s) (n : Nat) : CSr P w0 (w.setCell ⟨bS, 5, none⟩ (.int .i64 (n : Int))) vars ph bS b gm vc vl vw vlev vlr { s with level := n } := by
  obtain ⟨hF, h1, h2, h3, h4, h5⟩ := h.own 5 (.int .i64 (n : Int))
  exact ⟨h1, by rw [Go.Joins.block_setCell h.bx _]; rfl, h.hs, h2, h3, h4, h5, h.lo, h.ro, h.po⟩
end
theorem next_at {T : List Int} {vars v : Nat} (h1 : 1 ≤ v) (h2 : v ≤ vars) : Cd.nextF T vars (vars + 1 - v) = if (v : Int) ∉ T ∧ -(v : Int) ∉ T then some v else Cd.nextF T vars (vars + 1 - (v + 1)) := by
  rw [show vars + 1 - v = (vars - v) + 1 by omega]
  conv => lhs; unfold Cd.nextF
  rw [show vars - (vars - v) = v by omega, show vars + 1 - (v + 1) = vars - v by omega]
def nextI (ph : Bool) (v : Nat) : Int := if ph then (v : Int) else -(v : Int)
/-- What decide leaves. -/
def DecQ (P : Nat → Prop) (w0 : World) (vars : Nat) (ph : Bool) (bS b gm : Nat) (vc vlr : Value) (s : Cd.SS) (e : Ending) (w' : World) : Option Nat → Prop
  | none => e = .returned (.tuple #[.bool true, .int .i64 0]) ∧ ∃ vl' vw' vlev', CSr P w0 w' vars ph bS b gm vc vl' vw' vlev' vlr s
  | some v => e = .returned (.tuple #[.bool false, .int .i64 0]) ∧ ∃ vl' vw' vlev', CSr P w0 w' vars ph bS b gm vc vl' vw' vlev' vlr (Cd.decF s (nextI ph v))
set_option maxRecDepth 100000 in
set_option maxHeartbeats 16000000 in
theorem cdec_any (P : Nat → Prop) (vars : Nat) (w0 w : World) (ph : Bool) (bS b gm : Nat) (vc vl vw vlev vlr : Value) (s : Cd.SS) (h : CSr P w0 w vars ph bS b gm vc vl vw vlev vlr s) (hv : vars ≤ 1000) (hg : Cd.GoodT vars s.t.lits) (hw : s.t.why.length = s.t.lits.length) (hle : s.levels.length = s.t.lits.length) (hlv : s.level ≤ 1000) :
    Calls Tryz.prog 75 #[.pointer (some ⟨bS, 0, none⟩)] w fun e w' => DecQ P w0 vars ph bS b gm vc vlr s e w' (Cd.nextF s.t.lits vars vars) := by
  have CH := Lib.hid (fun w' (k : CSr P w0 w' vars ph bS b gm vc vl vw vlev vlr s) x (hx : I64 x) => has_any w0 w' b gm vc vl vw s.t k.tr x hx)
  have HS := Lib.hid h
  have hgl := hg.le
  have HLL := Lib.hid (show s.t.lits.length ≤ 1000 ∧ s.t.why.length ≤ 1000 ∧ s.levels.length ≤ 1000 from ⟨by omega, by omega, by omega⟩)
  obtain ⟨x0, x1, x2, x3, x4, x5, x6, f3, f4, f5, f6, xl⟩ := csG_cells h.blk
  generalize hnx : Cd.nextF s.t.lits vars vars = nx
  have HNX := Lib.hid hnx
  clear h hg hw hle hnx hgl
  go_enter Tryz.func75, Tryz.ntmps75
  go_wp2
  go_loopw [13, 4] (fun s t wr => s = .int .i64 0 ∧ t = .int .i64 0 ∧ wr = w) (fun _ _ _ => 0)
  case atStart => exact ⟨rfl, rfl, rfl⟩
  case round =>
  obtain ⟨rfl, rfl, hw⟩ := hrel
  have hw : w = wr := hw.symm
  subst hw
  go_wp2
  go_loopw [7, 4] (fun a t wr => wr = w ∧ ((∃ v : Nat, 1 ≤ v ∧ v ≤ vars + 1 ∧ a = .int .i64 (v : Int) ∧ t = .int .i64 0 ∧ nx = Cd.nextF s.t.lits vars (vars + 1 - v)) ∨ ∃ v : Nat, 1 ≤ v ∧ v ≤ vars ∧ a = .int .i64 ((v : Int) + 1) ∧ t = .int .i64 (nextI ph v) ∧ nx = some v)) (fun a t _ => (vars + 2 - intOf a).toNat)
  case atStart => exact ⟨rfl, .inl ⟨1, by omega, by omega, rfl, rfl, by rw [show vars + 1 - 1 = vars by omega]; exact HNX.out.symm⟩⟩
  case round =>
  obtain ⟨hw, hr⟩ := hrel
  have hw : w = wr := hw.symm
  subst hw
  rcases hr with ⟨v, hv1, hv2, rfl, rfl, hx⟩ | ⟨v, hv1, hv2, rfl, rfl, hx⟩
  · have HX := Lib.hid hx
    clear hx
    by_cases hvl : v ≤ vars
    case neg =>
      have hlt : ¬ (v : Int) ≤ (vars : Int) := by omega
      have hd : decide ((v : Int) ≤ (vars : Int)) = false := decide_eq_false hlt
      have HE : Hid (nx = none) := Lib.hid (by rw [HX.out, show vars + 1 - v = 0 by omega]; rfl)
      go_wp2
      refine bodyPost_ret (by simp [results, Tryz.results75, go_sem]; rfl) rfl ?_
      rw [HE.out]
      exact ⟨rfl, _, _, _, HS.out⟩
    case pos =>
      have hlt : (v : Int) ≤ (vars : Int) := by omega
      have hd : decide ((v : Int) ≤ (vars : Int)) = true := decide_eq_true hlt
      have C1 := Lib.hid (CH.out w HS.out (v : Int) (by unfold I64; omega))
      have C2 := Lib.hid (CH.out w HS.out (-(v : Int)) (by unfold I64; omega))
      have HX := Lib.hid (HX.out.trans (next_at (T := s.t.lits) hv1 hvl))
      by_cases m1 : (v : Int) ∈ s.t.lits
      case pos =>
        rw [decide_eq_true m1] at C1
        have HX := Lib.hid (HX.out.trans (if_neg fun h => h.1 m1))
        clear m1 C2
        go_wp2_with fail
        refine C1.out.mono ?_
        rintro e w1 ⟨rfl, rfl⟩
        go_wp2
        go_roundw
        case rel => exact ⟨by first | trivial | rfl, .inl ⟨v + 1, by omega, by omega, by go_num, rfl, HX.out⟩⟩
        case measure => simp [intOf]; omega
      case neg =>
        rw [decide_eq_false m1] at C1
        by_cases m2 : -(v : Int) ∈ s.t.lits
        case pos =>
          rw [decide_eq_true m2] at C2
          have HX := Lib.hid (HX.out.trans (if_neg fun h => h.2 m2))
          clear m1 m2
          go_wp2_with fail
          refine C1.out.mono ?_
          rintro e w1 ⟨rfl, rfl⟩
          go_wp2_with fail
          refine C2.out.mono ?_
          rintro e w1 ⟨rfl, rfl⟩
          go_wp2
          go_roundw
          case rel => exact ⟨by first | trivial | rfl, .inl ⟨v + 1, by omega, by omega, by go_num, rfl, HX.out⟩⟩
          case measure => simp [intOf]; omega
        case neg =>
          rw [decide_eq_false m2] at C2
          have HX := Lib.hid (HX.out.trans (if_pos ⟨m1, m2⟩))
          clear m1 m2
          go_wp2_with fail
          refine C1.out.mono ?_
          rintro e w1 ⟨rfl, rfl⟩
          go_wp2_with fail
          refine C2.out.mono ?_
          rintro e w1 ⟨rfl, rfl⟩
          have hwn := IntWalk.i64_in (-(v : Int)) (by omega)
          cases ph
          · go_wp2
            go_roundw
            case rel => exact ⟨by first | trivial | rfl, .inr ⟨v, by omega, by omega, by go_num, rfl, HX.out⟩⟩
            case measure => simp [intOf]; omega
          · go_wp2
            go_roundw
            case rel => exact ⟨by first | trivial | rfl, .inr ⟨v, by omega, by omega, by go_num, rfl, HX.out⟩⟩
            case measure => simp [intOf]; omega
  · have HX := Lib.hid hx
    clear hx
    have hni : I64 (nextI ph v) := by unfold nextI I64; split <;> omega
    have e1 : (nextI ph v == 0) = false := by rw [beq_eq_false_iff_ne]; unfold nextI; split <;> omega
    have HS1 := Lib.hid (HS.out.lvl (s.level + 1))
    rw [show ((s.level + 1 : Nat) : Int) = (s.level : Int) + 1 by omega] at HS1
    have CA := Lib.hid (add_any w0 _ b gm vc vl vw s.t HS1.out.tr (nextI ph v) (-1) hni (Nat.le_trans HLL.out.1 (by omega)) (Nat.le_trans HLL.out.2.1 (by omega)))
    have y3 : (w.setCell ⟨bS, 5, none⟩ (.int .i64 ((s.level : Int) + 1))).cell? ⟨bS, 3, none⟩ = some (.pointer (some ⟨b, 0, none⟩)) := HS1.out.blk.cell 3
    have yl := HS1.out.blk.lt
    generalize hnz : nextI ph v = nz at *
    have HNZ := Lib.hid hnz
    clear hnz
    go_wp2_with fail
    refine CA.out.mono ?_
    rintro e w6 ⟨rfl, vl', vw', hl6, ht6⟩
    obtain ⟨ov, cv, hvl⟩ := HS.out.lev.len
    rw [lvI_len] at hvl
    subst hvl
    have HS6 := Lib.hid (HS1.out.trt hl6 ht6)
    have HLV := Lib.hid HLL.out.2.2
    clear hl6 ht6 x0 x1 x2 x3 x4 x5 x6 f3 f4 f5 f6 xl y3 yl CA CH HS HS1
    generalize hj : s.levels.length = j at *
    have HJ := Lib.hid hj
    obtain ⟨x0, x1, x2, x3, x4, x5, x6, f3, f4, f5, f6, xl⟩ := csG_cells HS6.out.blk
    clear hj
    go_upto_region 21 with fail
    refine wp_region_by (fun w' => Keep NoS w6 w') [0, 10, 11, 12, 13] [([0, 1, 2, 3, 4, 5, 6, 7, 8], 9), ([], 10), ([11, 12], 13)] [] (by kernel_rfl) (by kernel_rfl) (Keep.refl _ _).drew ?_
    intro X W hne hF hcl
    have HCL := Lib.hid hcl
    have z4 := fun x => ((hF x).cell xl).trans x4
    have z5 := fun x => ((hF x).cell xl).trans x5
    have zl := fun x => Nat.lt_of_lt_of_le xl (hF x).size
    clear hF hcl
    simp only [wpPlan, pickOps, List.getElem?_toArray, List.getElem?_cons_zero, List.getElem?_cons_succ, clsOf, Bool.false_eq_true, if_false]
    (repeat (quiet_step (fail))); refine wpQuiet_nil ?_
    refine wpAt rfl rfl fun K hK => ?_
    go_simp
    have k8 : Keep NoS w6 (w6.alloc (.cells #[.int .i64 ((s.level : Int) + 1)] TI)).drew := ((Keep.refl _ _).alloc _).drew
    refine hK _ _ ⟨fun _ => HCL.out _ k8, ?_⟩
    have hs8 := HS6.out.keep k8
    have hjb : j ≤ 1000 := HLV.out
    obtain ⟨v9, w9, hr9, ho9, hg9, hb9⟩ := app_oneI hs8.lev (b := w6.heap.size) (x := (s.level : Int) + 1) (Blk.keep (blk_at _ _ rfl) (Keep.refl _ _).drew) (by show (lvI s.levels).length ≤ 100000; rw [lvI_len, HJ.out]; omega) hs8.tr.k.size
    have hzz : lvI s.levels ++ [(s.level : Int) + 1] = lvI (s.levels ++ [s.level + 1]) := by rw [lvI_app]; rfl
    have ho9 : OwnI w9 w0.heap.size v9 (lvI (s.levels ++ [s.level + 1])) := hzz ▸ ho9
    obtain ⟨o9, c9, hs9⟩ := ho9.len
    have hzl1 : (lvI (s.levels ++ [s.level + 1])).length = j + 1 := by rw [lvI_len, List.length_append, HJ.out]; rfl
    rw [hzl1] at hs9
    subst hs9
    have HS9 := Lib.hid (hs8.lvs ho9 hg9 hb9)
    have hbx9 : w9.heap[bS]? = some (.cells (csG vars ph b (.slice ov j cv) (s.level + 1) vlr) TSe (0, 0)) := (hg9.block bS (lt_of_heap hs8.bx) fun e => hs8.lev.neT hs8.bx (by decide) e.symm).trans hs8.bx
    have HB9 : Blk w9 bS (csG vars ph b (.slice ov j cv) (s.level + 1) vlr) := ⟨_, hbx9⟩
    have f9 := HB9.free 4
    have g9 : w9.cell? ⟨bS, 4, none⟩ = some (.slice ov j cv) := HB9.cell 4
    have gl := HB9.lt
    clear hK k8 hs8 ho9 HB9 hbx9 HCL hg9 hb9 hzz hzl1
    (repeat (quiet_step (fail))); refine wpQuiet_nil ?_
    refine wpAt rfl rfl fun K hK => ?_
    refine wp_app_run _ _ 22 _ _ rfl rfl rfl hr9 ?_
    refine hK _ _ ⟨fun h => (by simp at h), ?_⟩
    clear hK hr9
    (repeat (quiet_step (fail))); refine wpQuiet_nil ?_
    refine wpAt rfl rfl fun K hK => ?_
    go_simp
    refine hK _ _ ⟨fun h => (by simp at h), ?_⟩
    clear hK
    (repeat (quiet_step (fail))); refine wpQuiet_nil ?_
    refine NoPanic.normal ?_
    go_wp2
    refine bodyPost_ret (by simp [results, Tryz.results75, go_sem]; rfl) rfl ?_
    rw [HX.out]
    exact ⟨rfl, _, _, _, by rw [HNZ.out]; exact HS9.out⟩
end Go.Proofs.YtnndmdfjdodiiaaGreat

namespace Go.Proofs.YtnndmdfjdodiiaaGreat
open Go.ChangeShapes Go.WideShapes Go.RowKit Go.Maps
set_option linter.unusedVariables false
set_option linter.unusedSimpArgs false

theorem LTr.baseV {w0 w w' : World} {b gm : Nat} {vc vl vw : Value} {t : Cd.Tr} (h : LTr w w' b gm vc vl vw t) (k : Keep NoS w0 w) : LTr w0 w' b gm vc vl vw t :=
  ⟨k.both h.k, Nat.le_trans k.size h.hb, Nat.le_trans k.size h.hm, h.tb, World.ownsRow_mono h.l k.size, World.ownsRow_mono h.y k.size, h.m, h.ap⟩
theorem LTr.newV {w w' : World} {b gm : Nat} {vc vl vw : Value} {t : Cd.Tr} (h : LTr w w' b gm vc vl vw t) : ∀ k, TrS b gm vl vw k → w.heap.size ≤ k := by
  rintro k (rfl | rfl | e | e)
  · exact h.hb
  · exact h.hm
  · exact OwnI.block h.l k e
  · exact OwnI.block h.y k e
section
variable {P : Nat → Prop} {w0 w w1 : World} {vars : Nat} {ph : Bool} {bS b gm b' gm' : Nat} {vc vl vw vlev vlr : Value} {s : Cd.SS}
/-- A new trail and no levels. -/
theorem CSr.swap (h : CSr P w0 w vars ph bS b gm vc vl vw vlev vlr s) (hl : LTr w w1 b' gm' vc (.slice none 0 0) (.slice none 0 0) ⟨[], []⟩) : CSr P w0 ((w1.setCell ⟨bS, 3, none⟩ (.pointer (some ⟨b', 0, none⟩))).setCell ⟨bS, 4, none⟩ (.slice none 0 0)) vars ph bS b' gm' vc (.slice none 0 0) (.slice none 0 0) (.slice none 0 0) vlr { s with t := ⟨[], []⟩, levels := [] } := by
  have h1 := h.keep hl.k
  have hbS : bS < w.heap.size := lt_of_heap h.bx
  have hn : ¬ TrS b' gm' (.slice none 0 0) (.slice none 0 0) bS := fun q => by have := hl.newV bS q; omega
  have hF : Fr (fun k => k = bS) w1 ((w1.setCell ⟨bS, 3, none⟩ (.pointer (some ⟨b', 0, none⟩))).setCell ⟨bS, 4, none⟩ (.slice none 0 0)) := Fr.set (S := fun k => k = bS) (Fr.set (S := fun k => k = bS) (Fr.refl _ w1) _ rfl) _ rfl
  have hK : Keep NoS w0 ((w1.setCell ⟨bS, 3, none⟩ (.pointer (some ⟨b', 0, none⟩))).setCell ⟨bS, 4, none⟩ (.slice none 0 0)) := keep_at (keep_at h1.tr.k _ h.hs) _ h.hs
  have hP : ∀ n, n < w1.heap.size → P n → ((w1.setCell ⟨bS, 3, none⟩ (.pointer (some ⟨b', 0, none⟩))).setCell ⟨bS, 4, none⟩ (.slice none 0 0)).heap[n]? = w1.heap[n]? := fun n hn hp => hF.block n hn (by rintro rfl; exact h.po hp)
  refine ⟨(hl.baseV h.tr.k).frS hF (by rintro n rfl; exact hn) hK, ?_, h.hs, OwnI.nil _ _, h1.lrn.fr hF.size hP fun j hj => hF.block j (h1.lrn.lt j hj).2 ?_, h1.cls.fr hF.size hP, ⟨fun k hk => Nat.lt_of_lt_of_le (h1.off.lt k hk) hF.size, fun k hk q => ?_⟩, fun k hk => (by cases hk), h.ro, h.po⟩
  · rw [Go.Joins.block_setCell (Go.Joins.block_setCell h1.bx _) _]
    rfl
  · obtain ⟨A, hA⟩ := h1.lrn.ty j hj
    exact ty_ne hA h1.bx (by decide)
  · have := hl.newV k q
    have := h.off.lt k hk
    omega
end
theorem keepF_of {l : List Nat} {b i : Nat} (h : ∀ k (hk : k < l.length), k < i → l[k] ≤ b) (hi : i ≤ l.length) (he : i = l.length ∨ ∃ hk : i < l.length, b < l[i]) : Cd.keepF l b = i := by
  unfold Cd.keepF
  induction l generalizing i with
  | nil => simp at hi; simp [hi]
  | cons x l ih =>
    rcases i with _ | i
    · rcases he with he | ⟨hk, he⟩
      · simp at he
      · have : ¬ x ≤ b := by simp at he; omega
        simp [List.takeWhile_cons, this]
    · have hx : x ≤ b := by have := h 0 (by simp) (by omega); simpa using this
      rw [List.takeWhile_cons, if_pos (by simpa using hx), List.length_cons]
      congr 1
      refine ih (i := i) (fun k hk hki => ?_) (by simpa using hi) ?_
      · have := h (k + 1) (by simpa using hk) (by omega); simpa using this
      · rcases he with he | ⟨hk, he⟩
        · exact .inl (by simpa using he)
        · exact .inr ⟨by simpa using hk, by simpa using he⟩
theorem Fr.cellV {S : Nat → Prop} {w w' : World} (h : Fr S w w') {k i : Nat} (hk : k < w.heap.size) (hS : ¬ S k) : w'.cell? ⟨k, i, none⟩ = w.cell? ⟨k, i, none⟩ := World.cell?_of_block (h.block k hk hS)
theorem trs_new {w w' : World} {b gm : Nat} {vl vw vl' vw' : Value} (k : TrT w w' b gm vl vw vl' vw') {n : Nat} (h : TrS b gm vl' vw' n) : TrS b gm vl vw n ∨ w.heap.size ≤ n := by
  rcases h with e | e | e | e
  · exact .inl (.inl e)
  · exact .inl (.inr (.inl e))
  · rcases k.l with q | ⟨j, q, hj⟩
    · exact .inl (.inr (.inr (.inl (q ▸ e))))
    · rw [q] at e; cases e; exact .inr hj
  · rcases k.y with q | ⟨j, q, hj⟩
    · exact .inl (.inr (.inr (.inr (q ▸ e))))
    · rw [q] at e; cases e; exact .inr hj
theorem ints_fr {S : Nat → Prop} {w w' : World} {base : Nat} {v : Value} {l : List Int} (h : OwnI w base v l) (hx : ∀ x ∈ l, I64 x) (k : Fr S w w') (hS : ∀ q, v.ownBlock = some q → ¬ S q) : IsInts w' v l := (h.same fun j hj => k.block j (h.ltT j hj) (hS j hj)).ints hx
/-- What of a search that goes back is done. -/
def backI (s : Cd.SS) (i : Nat) : Cd.SS := { s with t := ⟨s.t.lits.take i, s.t.why.take i⟩, levels := s.levels.take i }
set_option maxRecDepth 100000 in
set_option maxHeartbeats 16000000 in
theorem cback_any (P : Nat → Prop) (vars : Nat) (w0 w : World) (ph : Bool) (bS b gm : Nat) (vc vl vw vlev vlr : Value) (s : Cd.SS) (lv : Nat) (h : CSr P w0 w vars ph bS b gm vc vl vw vlev vlr s) (hv : vars ≤ 1000) (hg : Cd.GoodT vars s.t.lits) (hw : s.t.why.length = s.t.lits.length) (hwy : ∀ y ∈ s.t.why, I64 y) (hle : s.levels.length = s.t.lits.length) (hlv : ∀ a ∈ s.levels, a ≤ 1000) (hb : lv ≤ 1000) :
    Calls Tryz.prog 74 #[.pointer (some ⟨bS, 0, none⟩), .int .i64 (lv : Int)] w fun e w' => e = .returned (.tuple #[]) ∧ ∃ b' gm' vl' vw' vlev', CSr P w0 w' vars ph bS b' gm' vc vl' vw' vlev' vlr (Cd.backF s lv) := by
  obtain ⟨oc, cc, hcv, -⟩ := h.cls.cls.len
  subst hcv
  have CN := Lib.hid (new_any w oc s.cls.length cc)
  have HS := Lib.hid h
  have hgl := hg.le
  have HX := Lib.hid (⟨fun x hx => (good_64 hv hg x hx).1, hwy, lv_64 fun a ha => Nat.le_trans (hlv a ha) (by omega)⟩ : (∀ x ∈ s.t.lits, I64 x) ∧ (∀ y ∈ s.t.why, I64 y) ∧ ∀ a ∈ lvI s.levels, I64 a)
  obtain ⟨ol, cl, hvl⟩ := h.tr.l.len
  obtain ⟨ow, cw, hvw⟩ := h.tr.y.len
  obtain ⟨ov, cv, hvv⟩ := h.lev.len
  rw [lvI_len, hle] at hvv
  rw [hw] at hvw
  subst hvl
  subst hvw
  subst hvv
  have HLV := Lib.hid hlv
  have HLN := Lib.hid (⟨hle, hw⟩ : s.levels.length = s.t.lits.length ∧ s.t.why.length = s.t.lits.length)
  have hn : s.t.lits.length ≤ 1000 := by omega
  have y0 : w.cell? ⟨b, 0, none⟩ = some (.slice oc s.cls.length cc) := cell_of_heap (o := 0) h.tr.tb rfl
  have yl := lt_of_heap h.tr.tb
  obtain ⟨x0, x1, x2, x3, x4, x5, x6, f3, f4, f5, f6, xl⟩ := csG_cells h.blk
  clear h hg hw hwy hle hlv hgl
  go_enter Tryz.func74, Tryz.ntmps74
  go_wp2_with fail
  refine CN.out.mono ?_
  rintro e w1 ⟨b', gm', rfl, hl1⟩
  have HN := Lib.hid hl1.newV
  have HS1 := Lib.hid (HS.out.keep hl1.k)
  have HSW := Lib.hid (HS.out.swap hl1)
  have HFR : Hid (Fr (fun k => k = bS) w ((w1.setCell ⟨bS, 3, none⟩ (.pointer (some ⟨b', 0, none⟩))).setCell ⟨bS, 4, none⟩ (.slice none 0 0))) := Lib.hid (Fr.set (S := fun k => k = bS) (Fr.set (S := fun k => k = bS) (Fr.of hl1.k) _ rfl) _ rfl)
  clear x0 x1 x2 x3 x4 x5 x6 f3 f4 f5 f6 xl y0 yl hl1 CN
  obtain ⟨x0, x1, x2, x3, x4, x5, x6, f3, f4, f5, f6, xl⟩ := csG_cells HS1.out.blk
  have hne : ¬ b = bS := fun e => HS1.out.nS (.inl e.symm)
  have y1 : w1.cell? ⟨b, 1, none⟩ = some (.slice ol s.t.lits.length cl) := cell_of_heap (o := 1) HS1.out.tr.tb rfl
  have yl := lt_of_heap HS1.out.tr.tb
  generalize hnn : s.t.lits.length = n at *
  have HNN := Lib.hid hnn
  clear hnn
  go_wp2
  go_loopw [32] (fun a wr => ∃ (i : Nat) (vl' vw' vlev' : Value), a = .int .i64 i ∧ i ≤ n ∧ CSr P w0 wr vars ph bS b' gm' (.slice oc s.cls.length cc) vl' vw' vlev' vlr (backI s i) ∧ Fr (fun k => k = bS) w wr ∧ ((∀ k, TrS b' gm' vl' vw' k → w.heap.size ≤ k) ∧ ∀ k, vlev'.ownBlock = some k → w.heap.size ≤ k) ∧ ∀ k (hk : k < s.levels.length), k < i → s.levels[k] ≤ lv) (fun a _ => (n - intOf a).toNat)
  case atStart => exact ⟨0, _, _, _, rfl, by omega, HSW.out, HFR.out, ⟨HN.out, fun k hk => (by cases hk)⟩, fun k _ hk => absurd hk (by omega)⟩
  case round =>
  obtain ⟨i, vl', vw', vlev', rfl, hin, hs, hfr, hnw, hlt0⟩ := hrel
  have HNW := Lib.hid hnw
  have HSR := Lib.hid hs
  have HF := Lib.hid hfr
  have HL := Lib.hid hlt0
  have HEX : Hid ((i = n ∨ ∃ hk : i < s.levels.length, lv < s.levels[i]) → backI s i = { backI s (Cd.keepF s.levels lv) with level := s.level }) := Lib.hid (fun h => by
    rw [keepF_of HL.out (by rw [HLN.out.1]; exact hin) (h.imp_left fun e => by rw [HLN.out.1]; exact e)]
    rfl)
  have HEND : Hid ((i = n ∨ ∃ hk : i < s.levels.length, lv < s.levels[i]) → CSr P w0 (wr.setCell ⟨bS, 5, none⟩ (.int .i64 (lv : Int))) vars ph bS b' gm' (.slice oc s.cls.length cc) vl' vw' vlev' vlr (Cd.backF s lv)) := Lib.hid (fun h => by
    have h1 := HSR.out.lvl lv
    rw [HEX.out h] at h1
    exact h1)
  clear hs hfr hlt0 hnw x0 x1 x2 x3 x4 x5 x6 f3 f4 f5 f6 xl y1 yl HEX
  obtain ⟨x0, x1, x2, x3, x4, x5, x6, f3, f4, f5, f6, xl⟩ := csG_cells HSR.out.blk
  by_cases hil : i < n
  case neg =>
    have hlt : ¬ (i : Int) < (n : Int) := by omega
    have hd : decide ((i : Int) < (n : Int)) = false := decide_eq_false hlt
    have HE := Lib.hid (HEND.out (.inl (by omega)))
    clear HEND
    go_wp2
    refine bodyPost_end (by simp [results, Tryz.results74, go_sem]; rfl) rfl ?_
    exact ⟨rfl, _, _, _, _, _, HE.out⟩
  case pos =>
    have hlt : (i : Int) < (n : Int) := by omega
    have hd : decide ((i : Int) < (n : Int)) = true := decide_eq_true hlt
    have hiL : i < s.t.lits.length := by rw [HNN.out]; exact hil
    have hiW : i < s.t.why.length := by rw [HLN.out.2]; exact hil
    have hiV : i < s.levels.length := by rw [HLN.out.1]; exact hil
    have hiV' : i < (lvI s.levels).length := by rw [lvI_len]; exact hiV
    obtain ⟨b1, o1, c1, e1, l1, p1⟩ := (ints_fr HS.out.tr.l HX.out.1 HF.out (fun q hq e => HS.out.nS (.inr (.inr (.inl (e ▸ hq)))))).at hiL
    obtain ⟨b2, o2, c2, e2, l2, p2⟩ := (ints_fr HS.out.tr.y HX.out.2.1 HF.out (fun q hq e => HS.out.nS (.inr (.inr (.inr (e ▸ hq)))))).at hiW
    obtain ⟨b3, o3, c3, e3, l3, p3⟩ := (ints_fr HS.out.lev HX.out.2.2 HF.out (fun q hq e => HS.out.lev.neT HS.out.bx (by decide) (e ▸ hq))).at hiV'
    injection e1 with q1 q2 q3
    subst q1
    clear q2 q3
    injection e2 with q1 q2 q3
    subst q1
    clear q2 q3
    injection e3 with q1 q2 q3
    subst q1
    clear q2 q3
    have hlvv : (lvI s.levels)[i] = (s.levels[i] : Int) := by simp [lvI]
    rw [hlvv] at p3
    clear hlvv hiV'
    have hx1 : I64 s.t.lits[i] := HX.out.1 _ (List.getElem_mem hiL)
    have hob : wr.heap[b]? = w.heap[b]? := HF.out.block b (lt_of_heap HS.out.tr.tb) hne
    have y2 : wr.cell? ⟨b, 2, none⟩ = some (.slice (some ⟨b2, o2, none⟩) n cw) := cell_of_heap (o := 2) (hob.trans HS.out.tr.tb) rfl
    have yl : b < wr.heap.size := lt_of_heap (hob.trans HS.out.tr.tb)
    by_cases hgt : lv < s.levels[i]
    case pos =>
      have HE := Lib.hid (HEND.out (.inr ⟨hiV, hgt⟩))
      have hg : (lv : Int) < (s.levels[i] : Int) := by omega
      have hgd : decide ((s.levels[i] : Int) > (lv : Int)) = true := decide_eq_true hg
      generalize s.levels[i] = lvi at *
      generalize s.t.lits[i] = x at *
      clear HEND
      go_wp2
      refine bodyPost_end (by simp [results, Tryz.results74, go_sem]; rfl) rfl ?_
      exact ⟨rfl, _, _, _, _, _, HE.out⟩
    case neg =>
      have hg : ¬ (lv : Int) < (s.levels[i] : Int) := by omega
      have hgd : decide ((s.levels[i] : Int) > (lv : Int)) = false := decide_eq_false hg
      have HST : Hid (∀ k (hk : k < s.levels.length), k < i + 1 → s.levels[k] ≤ lv) := Lib.hid (fun k hk hki => by
        rcases Nat.lt_or_ge k i with h | h
        · exact HL.out k hk h
        · obtain rfl : k = i := by omega
          omega)
      have HT1 : Hid (s.t.lits.take (i + 1) = s.t.lits.take i ++ [s.t.lits[i]]) := Lib.hid (List.take_succ_eq_append_getElem hiL)
      have HT2 : Hid (s.t.why.take (i + 1) = s.t.why.take i ++ [s.t.why[i]]) := Lib.hid (List.take_succ_eq_append_getElem hiW)
      have HT3 : Hid (s.levels.take (i + 1) = s.levels.take i ++ [s.levels[i]]) := Lib.hid (List.take_succ_eq_append_getElem hiV)
      have hlt1 : (s.t.lits.take i).length ≤ 100000 := by rw [List.length_take]; omega
      have hlt2 : (s.t.why.take i).length ≤ 100000 := by rw [List.length_take]; omega
      have hlt3 : (s.levels.take i).length = i := by rw [List.length_take]; omega
      generalize s.levels[i] = lvi at *
      generalize s.t.lits[i] = x at *
      generalize s.t.why[i] = yy at *
      have CA := Lib.hid (fun w' (k : Keep NoS wr w') => add_any w0 w' b' gm' (.slice oc s.cls.length cc) vl' vw' _ (HSR.out.tr.keep k) x yy hx1 hlt1 hlt2)
      have hne3 : ¬ b3 = bS := fun e => by
        obtain ⟨A, hA⟩ := own_atT HS.out.lev (b := b3) rfl
        exact ty_ne hA HS.out.bx (by decide) e
      have hl3w : b3 < w.heap.size := HS.out.lev.ltT b3 rfl
      have HP3 := Lib.hid p3
      clear hgt hiL hiW hiV hob HEND HL hlt1 hlt2
      go_upto_region 8 with fail
      have nS : ¬ TrS b' gm' vl' vw' bS := fun q => by have := HNW.out.1 _ q; have := lt_of_heap HS.out.bx; omega
      have nB : ¬ TrS b' gm' vl' vw' b := fun q => by have := HNW.out.1 _ q; have := lt_of_heap HS.out.tr.tb; omega
      have nY : ¬ TrS b' gm' vl' vw' b2 := fun q => by have := HNW.out.1 _ q; have := HS.out.tr.y.ltT b2 rfl; omega
      refine wp_region_by (fun w' => Fr (TrS b' gm' vl' vw') wr w') [] [([0, 1, 2, 3, 4, 5, 6, 7, 8, 9, 10, 11], 12)] [] (by kernel_rfl) (by kernel_rfl) (Fr.of (Keep.refl _ _).drew) ?_
      intro X W hne hF hcl
      have HCL := Lib.hid hcl
      have z3 := fun x => ((hF x).cellV xl nS).trans x3
      have z2 := fun x => ((hF x).cellV yl nB).trans y2
      have zp := fun x => ((hF x).cellV l2 nY).trans p2
      have zl := fun x => Nat.lt_of_lt_of_le xl (hF x).size
      have zm := fun x => Nat.lt_of_lt_of_le yl (hF x).size
      have zn := fun x => Nat.lt_of_lt_of_le l2 (hF x).size
      clear hF hcl
      simp only [wpPlan, pickOps, List.getElem?_toArray, List.getElem?_cons_zero, List.getElem?_cons_succ, clsOf, Bool.false_eq_true, if_false]
      (repeat (quiet_step (fail))); refine wpQuiet_nil ?_
      refine wpAt rfl rfl fun K hK => ?_
      go_simp
      refine (CA.out _ (Keep.refl _ _).drew).mono ?_
      rintro e w6 ⟨rfl, vl2, vw2, hl6, ht6⟩
      have hs6 := (HSR.out.keep (Keep.refl _ _).drew).trt hl6 ht6
      have HF6 : Hid (Fr (fun k => k = bS) w w6) := Lib.hid ((HF.out.then (Keep.refl _ wr).drew).trans ht6.k fun k hk hT => absurd (HNW.out.1 k hT) (by omega))
      have HNW6 : Hid (∀ k, TrS b' gm' vl2 vw2 k → w.heap.size ≤ k) := Lib.hid (fun k hT => (trs_new ht6 hT).elim (HNW.out.1 k) fun h => Nat.le_trans HF.out.size h)
      have HS6 : Hid (CSr P w0 w6 vars ph bS b' gm' (.slice oc s.cls.length cc) vl2 vw2 vlev' vlr { s with t := ⟨s.t.lits.take (i + 1), s.t.why.take (i + 1)⟩, levels := s.levels.take i }) := Lib.hid (by rw [HT1.out, HT2.out]; exact hs6)
      have kk6 := (Fr.of (S := TrS b' gm' vl' vw') (Keep.refl _ wr).drew).lift ht6.k
      refine hK _ _ ⟨fun _ => HCL.out _ kk6, ?_⟩
      clear kk6 nS nB nY hK hs6 hl6 ht6 HCL CA HT1 HT2 hx1 x0 x1 x2 x3 x4 x5 x6 f3 f4 f5 f6 xl y2 yl p1 p2 p3 l1 l2 l3 z3 z2 zp zl zm zn
      (repeat (quiet_step (fail))); refine wpQuiet_nil ?_
      refine NoPanic.normal ?_
      obtain ⟨x0, x1, x2, x3, x4, x5, x6, f3, f4, f5, f6, xl⟩ := csG_cells HS6.out.blk
      obtain ⟨ov', cv', hvv'⟩ := HS6.out.lev.len
      rw [lvI_len, hlt3] at hvv'
      subst hvv'
      have HLT3 := Lib.hid hlt3
      clear hlt3
      have p3 : w6.cell? ⟨b3, o3 + i, none⟩ = some (.int .i64 (lvi : Int)) := (HF6.out.cellV hl3w hne3).trans ((HF.out.cellV hl3w hne3).symm.trans HP3.out)
      have l3 : b3 < w6.heap.size := Nat.lt_of_lt_of_le hl3w HF6.out.size
      go_upto_region 9 with fail
      refine wp_region_by (fun w' => Keep NoS w6 w') [0, 10, 11, 12, 13] [([0, 1, 2, 3, 4, 5, 6, 7, 8], 9), ([], 10), ([11, 12], 13)] [] (by kernel_rfl) (by kernel_rfl) (Keep.refl _ _).drew ?_
      intro X W hne hF hcl
      have HCL := Lib.hid hcl
      have z4 := fun x => ((hF x).cell xl).trans x4
      have zp := fun x => ((hF x).cell l3).trans p3
      have zl := fun x => Nat.lt_of_lt_of_le xl (hF x).size
      have zm := fun x => Nat.lt_of_lt_of_le l3 (hF x).size
      clear hF hcl
      simp only [wpPlan, pickOps, List.getElem?_toArray, List.getElem?_cons_zero, List.getElem?_cons_succ, clsOf, Bool.false_eq_true, if_false]
      (repeat (quiet_step (fail))); refine wpQuiet_nil ?_
      refine wpAt rfl rfl fun K hK => ?_
      go_simp
      have k8 : Keep NoS w6 (w6.alloc (.cells #[.int .i64 (lvi : Int)] TI)).drew := ((Keep.refl _ _).alloc _).drew
      refine hK _ _ ⟨fun _ => HCL.out _ k8, ?_⟩
      have hs8 := HS6.out.keep k8
      obtain ⟨v9, w9, hr9, ho9, hg9, hb9⟩ := app_oneI hs8.lev (b := w6.heap.size) (x := (lvi : Int)) (Blk.keep (blk_at _ _ rfl) (Keep.refl _ _).drew) (by show (lvI (s.levels.take i)).length ≤ 100000; rw [lvI_len, HLT3.out]; omega) hs8.tr.k.size
      have hzz : lvI (s.levels.take i) ++ [(lvi : Int)] = lvI (s.levels.take (i + 1)) := by rw [HT3.out, lvI_app]; rfl
      have ho9 : OwnI w9 w0.heap.size v9 (lvI (s.levels.take (i + 1))) := hzz ▸ ho9
      obtain ⟨o9, c9, hs9⟩ := ho9.len
      have hzl1 : (lvI (s.levels.take (i + 1))).length = i + 1 := by rw [lvI_len, HT3.out, List.length_append, HLT3.out]; rfl
      rw [hzl1] at hs9
      subst hs9
      have HS9 := Lib.hid (hs8.lvs ho9 hg9 hb9)
      have HF9 : Hid (Fr (fun k => k = bS) w (w9.setCell ⟨bS, 4, none⟩ (.slice o9 (i + 1) c9))) := Lib.hid (Fr.set (S := fun k => k = bS) ((HF6.out.then k8).grown hg9 fun k hk hkw => absurd (HNW.out.2 k hk) (by omega)) _ rfl)
      have HN9 : Hid (∀ k, (Value.slice o9 (i + 1) c9).ownBlock = some k → w.heap.size ≤ k) := Lib.hid (fun k hk => by
        rcases hb9 with e | e
        · exact HNW.out.2 k (e ▸ hk)
        · rw [e] at hk
          cases hk
          exact Nat.le_trans HF6.out.size k8.size)
      have hbx9 : w9.heap[bS]? = some (.cells (csG vars ph b' (.slice ov' i cv') s.level vlr) TSe (0, 0)) := (hg9.block bS (lt_of_heap hs8.bx) fun e => hs8.lev.neT hs8.bx (by decide) e.symm).trans hs8.bx
      have HB9 : Blk w9 bS (csG vars ph b' (.slice ov' i cv') s.level vlr) := ⟨_, hbx9⟩
      have f9 := HB9.free 4
      have g9 : w9.cell? ⟨bS, 4, none⟩ = some (.slice ov' i cv') := HB9.cell 4
      have gl := HB9.lt
      clear hK k8 hs8 ho9 HB9 hbx9 HCL hg9 hb9 hzz hzl1
      (repeat (quiet_step (fail))); refine wpQuiet_nil ?_
      refine wpAt rfl rfl fun K hK => ?_
      refine wp_app_run _ _ 22 _ _ rfl rfl rfl hr9 ?_
      refine hK _ _ ⟨fun h => (by simp at h), ?_⟩
      clear hK hr9
      (repeat (quiet_step (fail))); refine wpQuiet_nil ?_
      refine wpAt rfl rfl fun K hK => ?_
      go_simp
      refine hK _ _ ⟨fun h => (by simp at h), ?_⟩
      clear hK
      (repeat (quiet_step (fail))); refine wpQuiet_nil ?_
      refine NoPanic.normal ?_
      go_wp2
      go_roundw
      case rel => exact ⟨i + 1, _, _, _, by go_num, by omega, HS9.out, HF9.out, ⟨HNW6.out, HN9.out⟩, HST.out⟩
      case measure => simp [intOf]; omega
end Go.Proofs.YtnndmdfjdodiiaaGreat

namespace Go.Proofs.YtnndmdfjdodiiaaGreat
open Go.ChangeShapes Go.WideShapes Go.RowKit Go.Maps
set_option linter.unusedVariables false
set_option linter.unusedSimpArgs false

set_option maxRecDepth 100000 in
theorem clip_any (w : World) (o : Option Addr) (n c : Nat) (hc : n ≤ c) (hm : c ≤ maxLen) : Calls Tryz.prog 113 #[.slice o n c] w fun e w' => e = .returned (.slice o n n) ∧ w' = w := by
  have h1 : (n : Int) ≤ (c : Int) := by omega
  have h2 : (0 : Int) ≤ (n : Int) := by omega
  unfold maxLen at hm
  go_enter Tryz.func113, Tryz.ntmps113
  go_wp2
  go_ret
  exact ⟨rfl, rfl⟩
theorem cls_vs {P : Nat → Prop} {w : World} {oa : Option Addr} {n cap : Nat} {l : List (List Int)} (h : ClsIn P w (.slice oa n cap) l) : ∃ vs : List Value, vs.length = l.length ∧ (∀ j u, vs[j]? = some u → ∃ a, oa = some a ∧ w.cell? (a.add j) = some u) ∧ ∀ (i : Nat) (x : Value) (c : List Int), vs[i]? = some x → l[i]? = some c → IntsIn P w x c ∧ CapS x := by
  obtain ⟨oa', cap', e, h2, h3, h4⟩ := h
  injection e with q1 q2 q3
  subst q1
  by_cases hne : l = []
  · subst hne
    exact ⟨[], rfl, fun j u h => by simp at h, fun i x c h => by simp at h⟩
  · obtain ⟨b, o, q, hb, hp, hc⟩ := h4 hne
    have hx : ∀ i, i < l.length → ∃ sv, w.cell? ⟨b, o + i, none⟩ = some sv ∧ IntsIn P w sv (l.getD i []) ∧ CapS sv := fun i hi => by
      obtain ⟨sv, p1, p2, p3⟩ := hc i l[i] (by simp [hi])
      exact ⟨sv, p1, by rw [List.getD_eq_getElem?_getD, List.getElem?_eq_getElem hi]; exact p2, p3⟩
    refine ⟨(List.range l.length).map fun i => (w.cell? ⟨b, o + i, none⟩).getD undef, by simp, fun j u hj => ⟨_, q, ?_⟩, fun i x c hi hl => ?_⟩
    · have hjl : j < l.length := by have := (List.getElem?_eq_some_iff.1 hj).1; simpa using this
      obtain ⟨sv, p1, -⟩ := hx j hjl
      simp [hjl, p1] at hj
      rw [add_plain, p1, hj]
    · have hil : i < l.length := (List.getElem?_eq_some_iff.1 hl).1
      obtain ⟨sv, p1, p2, p3⟩ := hx i hil
      simp [hil, p1] at hi
      subst hi
      rw [List.getD_eq_getElem?_getD, hl] at p2
      exact ⟨p2, p3⟩
/-- A clause is put behind clauses that fill their slice. -/
theorem app_clip {P : Nat → Prop} {w : World} {oa : Option Addr} {n : Nat} {l : List (List Int)} (h : ClsIn P w (.slice oa n n) l) {b : Nat} {x : Value} {c : List Int} (hbk : Blk w b #[x]) (hx : IntsT w x c) (hl : l.length ≤ 100000) (hP : ∀ k, P k → k < w.heap.size) :
    ∃ v' w' g, (Builtin.append_ #[26, 26] 26 #[.slice oa n n, .slice (some ⟨b, 0, none⟩) 1 1]).run Tryz.prog w = .ok v' w' ∧ v'.ownBlock = some g ∧ w.heap.size ≤ g ∧ g < w'.heap.size ∧ Keep NoS w w' ∧ ClsIn (fun k => P k ∨ k = g ∨ x.ownBlock = some k) w' v' (l ++ [c]) := by
  obtain ⟨i, hi, hz, hs', hb⟩ := info_parts infoLi
  obtain ⟨vs, v1, v2, v3⟩ := cls_vs h
  obtain ⟨oa', cap', e, h2, h3, h4⟩ := h
  injection e with q1 q2 q3
  subst q1
  clear h4
  obtain ⟨ox, nx, cx, hcx, -⟩ := hx.2.1
  have h1c : ∀ u ∈ vC x, u.oneCell' = true := by
    intro u hu
    simp [vC] at hu
    subst hu
    subst hcx
    rfl
  have key : ∃ v' w', (Builtin.append_ #[26, 26] 26 #[.slice oa n n, .slice (some ⟨b, 0, none⟩) 1 1]).run Tryz.prog w = .ok v' w' ∧ OwnG TLi 1 vC w' w.heap.size v' (vs ++ [x]) ∧ Keep NoS w w' := by
    rcases oa with _ | a
    · have hvs : vs = [] := by
        rcases vs with _ | ⟨u, vs⟩
        · rfl
        · obtain ⟨a, ha, -⟩ := v2 0 u rfl
          cases ha
      subst hvs
      have hl0 : l.length = 0 := v1.symm
      obtain ⟨v', w', hr, ho, hg, hv⟩ := OwnG.app (T := TLi) (K := 1) (c := vC) vC_len Tryz.underlying26 hi hz hs' hb rfl (by omega) (OwnG.nil w w.heap.size) (x := x) hbk h1c (by unfold maxLen; simp) (by simp) (Nat.le_refl _)
      rw [q2, hl0]
      exact ⟨v', w', hr, ho, (Keep.refl _ w).grown hg fun k hk => by cases hk⟩
    · obtain ⟨v', w', hr, ho, hg⟩ := run_append_arg_grows (P := Tryz.prog) w 26 26 TLi i _ 1 24 Tryz.underlying26 hi hz hs' hb rfl (by omega) a n n vs (by rw [v1, q2, Nat.mul_one]) (fun j u hj => by obtain ⟨a', e, hc⟩ := v2 j u hj; cases e; exact hc) ⟨b, 0, none⟩ 1 1 [x] rfl (fun j u hj => by rw [add_plain, Nat.zero_add, hbk.cell j]; simpa using hj) (by omega) (by unfold maxLen; omega) (by omega)
      refine ⟨v', w', hr, ?_, (Keep.refl _ w).grown hg fun k hk => by cases hk⟩
      show w'.ownsRow w.heap.size TLi 1 v' (vs ++ [x]).length ((vs ++ [x]).flatMap vC)
      have e1 : (vs ++ [x]).flatMap vC = vs ++ [x] := by unfold vC; simp
      rw [e1, List.length_append, v1, ← q2]
      exact ho
  obtain ⟨v', w', hr, ho, hk⟩ := key
  obtain ⟨g, cap2, e2, hb2, hl2, hc2⟩ := OwnG.cells vC_len ho (by simp)
  have hcap := own_capS ho
  refine ⟨v', w', g, hr, by rw [e2]; rfl, hb2, hl2, hk, ?_⟩
  rw [e2] at hcap ⊢
  obtain ⟨o3, n3, c3, e3, hn3, hm3⟩ := hcap
  injection e3 with r1 r2 r3
  have hlen : (vs ++ [x]).length = (l ++ [c]).length := by simp [v1]
  refine ⟨_, cap2, by rw [hlen], by omega, by omega, fun _ => ⟨g, 0, rfl, hl2, .inr (.inl rfl), fun j cl hjl => ?_⟩⟩
  have hj' : j < (vs ++ [x]).length := by rw [hlen]; exact (List.getElem?_eq_some_iff.1 hjl).1
  have hxj := List.getElem?_eq_getElem hj'
  refine ⟨(vs ++ [x])[j], by have := hc2 j _ hxj 0 _ rfl; simpa using this, ?_⟩
  generalize hyy : (vs ++ [x])[j] = y at *
  by_cases hj : j < vs.length
  · rw [List.getElem?_append_left hj] at hxj
    rw [List.getElem?_append_left (by omega)] at hjl
    obtain ⟨p1, p2⟩ := v3 j y cl hxj hjl
    exact ⟨(p1.fr hk.size fun m hm _ => hk.block m hm fun _ h => h).mono fun m _ hp => .inl hp, p2⟩
  · have hj2 : j = vs.length := by simp at hj'; omega
    subst hj2
    rw [List.getElem?_append_right (Nat.le_refl _)] at hxj
    rw [v1, List.getElem?_append_right (Nat.le_refl _)] at hjl
    simp at hxj hjl
    subst hjl
    rw [← hxj]
    have hlt : LitT (fun k => x.ownBlock = some k) w x c := ⟨hx, fun k hk => hk⟩
    exact ⟨((hlt.fr hk.size fun m hm _ => hk.block m hm fun _ h => h).mono (P' := fun k => P k ∨ k = g ∨ x.ownBlock = some k) fun m hm => .inr (.inr hm)).inn, hx.2.1⟩
theorem vClone_any (w : World) (v : Value) (l : List Int) (h : IsInts w v l) (hl : l.length ≤ 10000) : Calls Tryz.prog 25 #[v] w fun e w' => ∃ v', e = .returned v' ∧ OwnI w' w.heap.size v' l ∧ Keep NoS w w' :=
  (cloneI_any w v l h.srcG hl).mono fun e w' ⟨v', e1, h1, h2⟩ => ⟨v', e1, by unfold OwnG at h1; rw [flat_in] at h1; exact h1, h2⟩
section
variable {P N : Nat → Prop} {w0 w w' : World} {vars : Nat} {ph : Bool} {bS b gm : Nat} {vc vl vw vlev vlr vl' vw' v' : Value} {s : Cd.SS}
/-- New blocks are told of as ones that are not written. -/
theorem CSr.widen (h : CSr P w0 w vars ph bS b gm vc vl vw vlev vlr s) (k : Keep NoS w w') (hN : ∀ n, N n → w.heap.size ≤ n ∧ n < w'.heap.size) : CSr (fun n => P n ∨ N n) w0 w' vars ph bS b gm vc vl vw vlev vlr s := by
  have h1 := h.keep k
  refine ⟨h1.tr, h1.bx, h1.hs, h1.lev, h1.lrn.mono fun _ q => .inl q, h1.cls.mono fun _ _ q => .inl q, ⟨?_, ?_⟩, ?_, ?_, ?_⟩
  · rintro n (q | q)
    · exact h1.off.lt n q
    · exact (hN n q).2
  · rintro n (q | q) hT
    · exact h1.off.off n q hT
    · have := (hN n q).1
      rcases h.tr.tyl hT with ⟨A, hA⟩ | ⟨es, c, hA⟩ | ⟨A, hA⟩ <;> exact absurd (lt_of_heap hA) (by omega)
  · intro j hj
    refine ⟨(h.lo j hj).1, ?_⟩
    rintro (q | q)
    · exact (h.lo j hj).2 q
    · have := (hN j q).1
      have := h.lev.ltT j hj
      omega
  · rintro j hj (q | q)
    · exact h.ro j hj q
    · have := (hN j q).1
      have := (h.lrn.lt j hj).2
      omega
  · rintro (q | q)
    · exact h.po q
    · have := (hN bS q).1
      have := lt_of_heap h.bx
      omega
theorem StIn.app {base : Nat} {v : Value} {l : List Sv.Stp} (h : StIn P w base v l) {b : Nat} {x : Sv.Stp} {o : Option Addr} {n c : Nat} (hbk : Blk w b (stC x.kind o n c)) (hx : LitT P w (.slice o n c) x.lits) (hl : l.length ≤ 100000) (hbase : base ≤ w.heap.size) (hP : ∀ k, v.ownBlock = some k → ¬ P k) :
    ∃ v' w', (Builtin.append_ #[47, 47] 47 #[v, .slice (some ⟨b, 0, none⟩) 1 1]).run Tryz.prog w = .ok v' w' ∧ StIn P w' base v' (l ++ [x]) ∧ w.grownBy w' v.ownBlock ∧ (v'.ownBlock = v.ownBlock ∨ v'.ownBlock = some w.heap.size) := by
  obtain ⟨rs, h1, h2, h3⟩ := h
  have hn : n = x.lits.length := by
    obtain ⟨⟨⟨oa, cap, e, _⟩, _⟩, _⟩ := hx
    injection e
  obtain ⟨v', w', hr, ho, hg, hv⟩ := app_step (x := ⟨x.kind, o, n, c⟩) h2 hbk (by omega) hbase
  have hPb : ∀ k, k < w.heap.size → P k → w'.heap[k]? = w.heap[k]? := fun k hk hp => hg.block k hk fun e => hP k e.symm hp
  refine ⟨v', w', hr, ⟨rs ++ [⟨x.kind, o, n, c⟩], by simp [h1], ho, fun j y d hy hd => ?_⟩, hg, hv⟩
  by_cases hj : j < rs.length
  · rw [List.getElem?_append_left hj] at hy
    rw [List.getElem?_append_left (by omega)] at hd
    obtain ⟨q1, q2, q3⟩ := h3 j y d hy hd
    exact ⟨q1, q2, q3.fr hg.size hPb⟩
  · have hj2 : j = rs.length := by
      have := (List.getElem?_eq_some_iff.1 hy).1
      simp at this
      omega
    subst hj2
    rw [List.getElem?_append_right (Nat.le_refl _)] at hy
    rw [h1, List.getElem?_append_right (Nat.le_refl _)] at hd
    simp at hy hd
    subst hy
    subst hd
    exact ⟨rfl, hn, hx.fr hg.size hPb⟩
/-- The learned steps are new ones. -/
theorem CSr.lrs (h : CSr P w0 w vars ph bS b gm vc vl vw vlev vlr s) {L : List (List Int)} (ho : StIn P w' w0.heap.size v' (stp1 L)) (hg : w.grownBy w' vlr.ownBlock) (hb : v'.ownBlock = vlr.ownBlock ∨ v'.ownBlock = some w.heap.size) : CSr P w0 (w'.setCell ⟨bS, 6, none⟩ v') vars ph bS b gm vc vl vw vlev v' { s with learned := L } := by
  have hbl := lt_of_heap h.bx
  have hne : vlr.ownBlock ≠ some bS := fun e => by obtain ⟨A, hA⟩ := h.lrn.ty bS e; exact ty_ne hA h.bx (by decide) rfl
  have hbx : w'.heap[bS]? = some (.cells (csG vars ph b vlev s.level vlr) TSe (0, 0)) := (hg.block bS hbl fun e => hne e.symm).trans h.bx
  have hF : Fr (fun k => k = bS ∨ vlr.ownBlock = some k) w (w'.setCell ⟨bS, 6, none⟩ v') := ((Fr.refl _ w).grown hg fun k hk _ => .inr hk).set v' (.inl rfl)
  have hne' : v'.ownBlock ≠ some bS := fun e => by obtain ⟨A, hA⟩ := ho.ty bS e; exact ty_ne hA hbx (by decide) rfl
  have hK : Keep NoS w0 (w'.setCell ⟨bS, 6, none⟩ v') := keep_at (h.tr.k.grown hg fun q hq => (h.lrn.lt q hq).1) _ h.hs
  have hS : ∀ n, n = bS ∨ vlr.ownBlock = some n → ¬ TrS b gm vl vw n := by
    rintro n (rfl | hn)
    · exact h.nS
    · exact h.nR hn
  have hP : ∀ n, P n → ¬ (n = bS ∨ vlr.ownBlock = some n) := by
    rintro n hp (rfl | hn)
    · exact h.po hp
    · exact h.ro n hn hp
  have hF' : Fr (fun k => k = bS) w' (w'.setCell ⟨bS, 6, none⟩ v') := Fr.set (S := fun k => k = bS) (Fr.refl _ w') v' rfl
  refine ⟨h.tr.frS hF hS hK, ?_, h.hs, h.lev.same fun j hj => hF.block j (h.lev.ltT j hj) ?_, ?_, ?_, h.off.size hF.size, h.lo, ?_, h.po⟩
  · rw [Go.Joins.block_setCell hbx v']
    rfl
  · obtain ⟨A, hA⟩ := own_atT h.lev hj
    rintro (e | e)
    · exact ty_ne hA h.bx (by decide) e
    · obtain ⟨B, hB⟩ := h.lrn.ty j e
      exact ty_ne hA hB (by decide) rfl
  · exact ho.fr hF'.size (fun n hn hp => hF'.block n hn fun e => h.po (e ▸ hp)) fun j hj => hF'.block j (ho.lt j hj).2 fun e => hne' (e ▸ hj)
  · exact h.cls.fr hF.size fun n hn hp => hF.block n hn (hP n hp)
  · intro k hk hp
    rcases hb with e | e
    · rw [e] at hk; exact h.ro k hk hp
    · rw [e] at hk
      cases hk
      have := h.off.lt _ hp
      omega
/-- The clauses are new ones. -/
theorem CSr.clz (h : CSr P w0 w vars ph bS b gm vc vl vw vlev vlr s) {L : List (List Int)} (hc : ClsIn P w v' L) : CSr P w0 (w.setCell ⟨b, 0, none⟩ v') vars ph bS b gm v' vl vw vlev vlr { s with cls := L } := by
  have hF : Fr (fun k => k = b) w (w.setCell ⟨b, 0, none⟩ v') := Fr.set (S := fun k => k = b) (Fr.refl _ w) v' rfl
  have hP : ∀ n, P n → n ≠ b := fun n hp e => h.off.off n hp (.inl e)
  have hPb : ∀ n, n < w.heap.size → P n → (w.setCell ⟨b, 0, none⟩ v').heap[n]? = w.heap[n]? := fun n hn hp => hF.block n hn (hP n hp)
  have hK : Keep NoS w0 (w.setCell ⟨b, 0, none⟩ v') := keep_at h.tr.k _ h.tr.hb
  have htb := h.tr.tb
  have hlb : ∀ q, vl.ownBlock = some q → q ≠ b := fun q hq e => h.tr.l.neT htb (by decide) (e ▸ hq)
  have hyb : ∀ q, vw.ownBlock = some q → q ≠ b := fun q hq e => h.tr.y.neT htb (by decide) (e ▸ hq)
  refine ⟨⟨hK, h.tr.hb, h.tr.hm, ?_, World.ownsRow_set_other h.tr.l hlb, World.ownsRow_set_other h.tr.y hyb, h.tr.m.same (hF.block gm h.tr.m.lt fun e => h.tr.ne e.symm), h.tr.ap⟩, (hF.block bS (lt_of_heap h.bx) fun e => h.nS (.inl e)).trans h.bx, h.hs, World.ownsRow_set_other h.lev fun q hq e => (h.lo q hq).1 (.inl e), h.lrn.fr hF.size hPb fun j hj => hF.block j (h.lrn.lt j hj).2 fun e => h.nR hj (.inl e), hc.fr hF.size hPb, h.off.size hF.size, h.lo, h.ro, h.po⟩
  rw [Go.Joins.block_setCell htb v']
  rfl
end
end Go.Proofs.YtnndmdfjdodiiaaGreat

namespace Go.Proofs.YtnndmdfjdodiiaaGreat
open Go.ChangeShapes Go.WideShapes Go.RowKit Go.Maps
set_option linter.unusedVariables false
set_option linter.unusedSimpArgs false

theorem ints_own {w : World} {base : Nat} {o : Option Addr} {n c : Nat} {xs : List Int} (h : OwnI w base (.slice o n c) xs) (hx : ∀ x ∈ xs, I64 x) : LitT (fun k => (Value.slice o n c).ownBlock = some k) w (.slice o n c) xs := ⟨h.intsT hx, fun k hk => hk⟩
theorem cls_cap {P : Nat → Prop} {w : World} {oa : Option Addr} {n cap : Nat} {l : List (List Int)} (h : ClsIn P w (.slice oa n cap) l) : ClsIn P w (.slice oa n n) l := by
  obtain ⟨oa', cap', e, h2, h3, h4⟩ := h
  injection e with q1 q2 q3
  subst q1
  exact ⟨oa, l.length, by rw [q2], Nat.le_refl _, by omega, h4⟩
set_option maxRecDepth 100000 in
set_option maxHeartbeats 16000000 in
theorem clearn_any (P : Nat → Prop) (vars : Nat) (w0 w : World) (ph : Bool) (bS b gm : Nat) (vc vl vw vlev vlr : Value) (s : Cd.SS) (vcl : Value) (c : List Int) (h : CSr P w0 w vars ph bS b gm vc vl vw vlev vlr s) (hc : IntsT w vcl c) (hcx : ∀ x ∈ c, I64 x) (hl : c.length ≤ 1000) (hll : s.learned.length ≤ 10000) (hcl : s.cls.length ≤ 10000) :
    Calls Tryz.prog 73 #[.pointer (some ⟨bS, 0, none⟩), vcl] w fun e w' => e = .returned (.tuple #[]) ∧ ∃ P' vc' vlr', CSr P' w0 w' vars ph bS b gm vc' vl vw vlev vlr' (Cd.learnF s c) := by
  have HS := Lib.hid h
  have HC := Lib.hid hc
  have HX := Lib.hid hcx
  have HLL := Lib.hid hll
  have HCL0 := Lib.hid hcl
  have hll' := hll
  have CC := fun w' (k : IntsT w' vcl c) => Lib.hid (vClone_any w' vcl c k.1 (by omega))
  obtain ⟨ocl, ccl, rfl, -⟩ := hc.form
  obtain ⟨ol, nl, hvl, -⟩ := h.lrn.steps.form
  subst hvl
  obtain ⟨x0, x1, x2, x3, x4, x5, x6, f3, f4, f5, f6, xl⟩ := csG_cells h.blk
  have hbl := h.tr.k.size
  clear h hc hcx hl hll hcl
  rw [show (stp1 s.learned).length = s.learned.length from List.length_map ..] at *
  generalize hnl : s.learned.length = n at *
  have HNL := Lib.hid hnl
  generalize hncl : c.length = m at *
  have HNC := Lib.hid hncl
  clear hnl hncl
  go_enter Tryz.func73, Tryz.ntmps73
  go_upto_region 0 with fail
  refine wp_region_by (fun w' => Keep NoS w w') [0, 9, 10, 11, 12] [([0, 1, 2, 3, 4, 5], 6), ([7], 8), ([], 9), ([10, 11], 12)] [] (by kernel_rfl) (by kernel_rfl) (Keep.refl _ _).drew ?_
  intro X W hne hF hcl
  have HCL := Lib.hid hcl
  have z6 := fun x => ((hF x).cell xl).trans x6
  have zl := fun x => Nat.lt_of_lt_of_le xl (hF x).size
  clear hF hcl
  simp only [wpPlan, pickOps, List.getElem?_toArray, List.getElem?_cons_zero, List.getElem?_cons_succ, clsOf, Bool.false_eq_true, if_false]
  (repeat (quiet_step (fail))); refine wpQuiet_nil ?_
  refine wpAt rfl rfl fun K hK => ?_
  go_simp
  refine (CC _ (HC.out.keep (Keep.refl _ _).drew)).out.mono ?_
  rintro e w3 ⟨v3, rfl, ho3, hk3⟩
  obtain ⟨o3, c3, hv3⟩ := ho3.len
  rw [HNC.out] at hv3
  subst hv3
  have k3 : Keep NoS w w3 := Keep.both (Keep.refl _ _).drew hk3
  refine hK _ _ ⟨fun _ => HCL.out _ k3, ?_⟩
  clear hK K hk3
  (repeat (quiet_step (fail))); refine wpQuiet_nil ?_
  refine wpAt rfl rfl fun K hK => ?_
  go_simp
  have hsz : w.drew.heap.size = w.heap.size := rfl
  have hN3 : ∀ q, (Value.slice o3 m c3).ownBlock = some q → w.heap.size ≤ q ∧ q < w3.heap.size := fun q hq => ⟨hsz ▸ OwnI.block ho3 q hq, ho3.ltT q hq⟩
  have hs3 := HS.out.widen k3 hN3
  have a4 : Keep NoS w3 (w3.alloc (.cells #[.int .i64 1, .slice o3 m c3, .slice none 0 0, .int .i64 0, .int .i64 0, .int .i64 0, .slice none 0 0, .int .i64 0, .int .i64 0] TSt)) := (Keep.refl _ _).alloc _
  have k4 : Keep NoS w (w3.alloc (.cells #[.int .i64 1, .slice o3 m c3, .slice none 0 0, .int .i64 0, .int .i64 0, .int .i64 0, .slice none 0 0, .int .i64 0, .int .i64 0] TSt)) := k3.alloc _
  refine hK _ _ ⟨fun _ => HCL.out _ k4, ?_⟩
  clear hK K
  (repeat (quiet_step (fail))); refine wpQuiet_nil ?_
  refine wpAt rfl rfl fun K hK => ?_
  have hs4 := hs3.keep a4
  have hl4 := ((ints_own ho3 HX.out).fr (w' := (w3.alloc (.cells #[.int .i64 1, .slice o3 m c3, .slice none 0 0, .int .i64 0, .int .i64 0, .int .i64 0, .slice none 0 0, .int .i64 0, .int .i64 0] TSt))) a4.size fun q hq _ => a4.block q hq fun _ h => h).mono (P' := fun q => P q ∨ (Value.slice o3 m c3).ownBlock = some q) fun q hq => .inr hq
  obtain ⟨v5, w5, hr5, ho5, hg5, hb5⟩ := StIn.app hs4.lrn (x := ⟨1, c⟩) (o := o3) (n := m) (c := c3) (b := w3.heap.size) (blk_at _ _ rfl) hl4 (by rw [show (stp1 s.learned).length = s.learned.length from List.length_map .., HNL.out]; omega) hs4.tr.k.size hs4.ro
  have hzz : stp1 s.learned ++ [⟨1, c⟩] = stp1 (s.learned ++ [c]) := by unfold stp1; rw [List.map_append]; rfl
  rw [hzz] at ho5
  have HS5 := Lib.hid (hs4.lrs ho5 hg5 hb5)
  obtain ⟨o5, c5, hv5, -⟩ := ho5.steps.form
  rw [show (stp1 (s.learned ++ [c])).length = n + 1 by unfold stp1; rw [List.length_map, List.length_append, HNL.out]; rfl] at hv5
  subst hv5
  have hbx5 : w5.heap[bS]? = some (.cells (csG vars ph b vlev s.level (.slice ol n nl)) TSe (0, 0)) := (hg5.block bS (lt_of_heap hs4.bx) fun e => by obtain ⟨A, hA⟩ := hs4.lrn.ty bS e.symm; exact ty_ne hA hs4.bx (by decide) rfl).trans hs4.bx
  have HB5 : Blk w5 bS (csG vars ph b vlev s.level (.slice ol n nl)) := ⟨_, hbx5⟩
  have hC5 : Hid (IntsT (w5.setCell ⟨bS, 6, none⟩ (.slice o5 (n + 1) c5)) (.slice ocl m ccl) c) := Lib.hid (((HC.out.keep k4).fr (FrI.grown hg5 fun q hq => by obtain ⟨A, hA⟩ := hs4.lrn.ty q hq; exact ⟨A, _, hA, by decide, by decide⟩)).fr (FrI.set hbx5 ⟨by decide, by decide⟩))
  have f6' := HB5.free 6
  have g6 : w5.cell? ⟨bS, 6, none⟩ = some (.slice ol n nl) := HB5.cell 6
  have gl := HB5.lt
  refine wp_app_run _ _ 47 _ _ rfl rfl rfl hr5 ?_
  refine hK _ _ ⟨fun h => (by simp at h), ?_⟩
  clear hr5 hs3 a4 k4 k3 hs4 hl4 ho5 hg5 hb5 HCL z6 zl x0 x1 x2 x3 x4 x5 x6 f3 f4 f5 f6 xl hbx5 HB5 hN3 ho3 hzz
  (repeat (quiet_step (fail))); refine wpQuiet_nil ?_
  refine wpAt rfl rfl fun K hK => ?_
  go_simp
  refine hK _ _ ⟨fun h => (by simp at h), ?_⟩
  clear hK
  (repeat (quiet_step (fail))); refine wpQuiet_nil ?_
  refine NoPanic.normal ?_
  obtain ⟨x0, x1, x2, x3, x4, x5, x6, f3, f4, f5, f6, xl⟩ := csG_cells HS5.out.blk
  generalize w5.setCell ⟨bS, 6, none⟩ (.slice o5 (n + 1) c5) = w6 at *
  obtain ⟨oc, cc, hvc, hcc1, hcc2⟩ := HS5.out.cls.cls.len
  obtain rfl : vc = .slice oc s.cls.length cc := hvc
  have y0 : w6.cell? ⟨b, 0, none⟩ = some (.slice oc s.cls.length cc) := cell_of_heap (o := 0) HS5.out.tr.tb rfl
  have yl := lt_of_heap HS5.out.tr.tb
  have CP := Lib.hid (fun w' => clip_any w' oc s.cls.length cc hcc1 hcc2)
  have HCL1 := HCL0.out
  generalize hncs : s.cls.length = q at *
  have HNQ := Lib.hid hncs
  clear hncs hcc1 hcc2
  go_upto_region 1 with fail
  refine wp_region_by (fun w' => Keep NoS w6 w') [18] [([0, 1, 2, 3, 4, 5, 6, 7, 8, 9, 10, 12], 11), ([], 13), ([], 14), ([], 15), ([16, 17], 18)] [] (by kernel_rfl) (by kernel_rfl) (Keep.refl _ _).drew ?_
  intro X W hne hF hcl
  have HCL := Lib.hid hcl
  have z3 := fun x => ((hF x).cell xl).trans x3
  have z0 := fun x => ((hF x).cell yl).trans y0
  have zl := fun x => Nat.lt_of_lt_of_le xl (hF x).size
  have zm := fun x => Nat.lt_of_lt_of_le yl (hF x).size
  clear hF hcl
  simp only [wpPlan, pickOps, List.getElem?_toArray, List.getElem?_cons_zero, List.getElem?_cons_succ, clsOf, Bool.false_eq_true, if_false]
  (repeat (quiet_step (fail))); refine wpQuiet_nil ?_
  refine wpAt rfl rfl fun K hK => ?_
  go_simp
  refine (CP.out _).mono ?_
  rintro e w7 ⟨rfl, hw7⟩
  subst hw7
  refine hK _ _ ⟨fun _ => HCL.out _ (Keep.refl _ _).drew, ?_⟩
  clear hK K
  (repeat (quiet_step (fail))); refine wpQuiet_nil ?_
  refine wpAt rfl rfl fun K hK => ?_
  go_simp
  refine (CC _ (hC5.out.keep (Keep.refl _ _).drew)).out.mono ?_
  rintro e w8 ⟨v8, rfl, ho8, hk8⟩
  obtain ⟨o8, c8, hv8⟩ := ho8.len
  rw [HNC.out] at hv8
  subst hv8
  have k8 : Keep NoS w6 w8 := Keep.both (Keep.refl _ _).drew hk8
  refine hK _ _ ⟨fun _ => HCL.out _ k8, ?_⟩
  clear hK K hk8
  (repeat (quiet_step (fail))); refine wpQuiet_nil ?_
  refine wpAt rfl rfl fun K hK => ?_
  go_simp
  have hsz : w6.drew.heap.size = w6.heap.size := rfl
  have a9 : Keep NoS w8 (w8.alloc (.cells #[.slice o8 m c8] TLi)) := (Keep.refl _ _).alloc _
  have k9 : Keep NoS w6 (w8.alloc (.cells #[.slice o8 m c8] TLi)) := k8.alloc _
  refine hK _ _ ⟨fun _ => HCL.out _ k9, ?_⟩
  clear hK K
  (repeat (quiet_step (fail))); refine wpQuiet_nil ?_
  refine wpAt rfl rfl fun K hK => ?_
  have hN8 : ∀ k, (Value.slice o8 m c8).ownBlock = some k → w6.heap.size ≤ k ∧ k < w8.heap.size := fun k hk => ⟨hsz ▸ OwnI.block ho8 k hk, ho8.ltT k hk⟩
  have hs9 := (HS5.out.widen k8 hN8).keep a9
  have hi9 := (OwnI.keep ho8 a9).intsT HX.out
  obtain ⟨v10, w10, g, hr10, hob, hgl, hgs, hk10, hc10⟩ := app_clip (cls_cap hs9.cls) (b := w8.heap.size) (blk_at _ _ rfl) hi9 (by rw [HNQ.out]; omega) hs9.off.lt
  have hs10 := hs9.widen (N := fun k => k = g) hk10 (by rintro n rfl; exact ⟨hgl, hgs⟩)
  have HSZ := Lib.hid (hs10.clz (hc10.mono fun k _ hk => by
    rcases hk with h | h | h
    · exact .inl h
    · exact .inr h
    · exact .inl (.inr h)))
  obtain ⟨o10, c10, hv10, -⟩ := hc10.cls.len
  rw [List.length_append, HNQ.out] at hv10
  replace hv10 : v10 = .slice o10 (q + 1) c10 := hv10
  subst hv10
  have k10 : Keep NoS w6 w10 := k9.both hk10
  have yf : w10.frozen? ⟨b, 0, none⟩ = false := Blk.free ⟨_, hs10.tr.tb⟩ 0
  have y0' : w10.cell? ⟨b, 0, none⟩ = some (.slice oc q cc) := cell_of_heap (o := 0) hs10.tr.tb rfl
  have yl' := lt_of_heap hs10.tr.tb
  refine wp_app_run _ _ 26 _ _ rfl rfl rfl hr10 ?_
  refine hK _ _ ⟨fun _ => HCL.out _ k10, ?_⟩
  clear hr10 k10 hk10 hc10 hs10 hs9 hi9 hN8 ho8 k8 k9 a9 hob hgl hgs HCL z3 z0 zl zm x0 x1 x2 x3 x4 x5 x6 f3 f4 f5 f6 xl y0 yl
  (repeat (quiet_step (fail))); refine wpQuiet_nil ?_
  refine wpAt rfl rfl fun K hK => ?_
  go_simp
  refine hK _ _ ⟨fun h => (by simp at h), ?_⟩
  clear hK
  (repeat (quiet_step (fail))); refine wpQuiet_nil ?_
  refine NoPanic.normal ?_
  go_wp2
  refine bodyPost_end (by simp [results, Tryz.results73, go_sem]; rfl) rfl ?_
  exact ⟨rfl, _, _, _, HSZ.out⟩
end Go.Proofs.YtnndmdfjdodiiaaGreat

namespace Go.Proofs.YtnndmdfjdodiiaaGreat
open Go.ChangeShapes Go.WideShapes Go.RowKit Go.Maps
set_option linter.unusedVariables false
set_option linter.unusedSimpArgs false

namespace Cd
theorem lateF_app {s : SS} : ∀ (c d : List Int) (la : Int) (n : Nat), lateF s (c ++ d) la n = lateF s d (lateF s c la n).1 (lateF s c la n).2
  | [], d, la, n => rfl
  | l :: c, d, la, n => by
    rw [List.cons_append]
    simp only [lateF]
    split
    · exact lateF_app c d _ _
    · exact lateF_app c d _ _
theorem addF_app {x : Int} : ∀ (r d c : List Int), addF x (r ++ d) c = addF x d (addF x r c)
  | [], d, c => rfl
  | l :: r, d, c => by
    rw [List.cons_append]
    simp only [addF]
    exact addF_app r d _
theorem addF_len {x : Int} : ∀ (r c : List Int), (addF x r c).length ≤ c.length + r.length
  | [], c => by simp [addF]
  | l :: r, c => by
    simp only [addF]
    by_cases h : l ≠ x ∧ l ∉ c
    · have := addF_len (x := x) r (c ++ [l])
      rw [if_pos h]
      rw [List.length_append] at this
      simp only [List.length_cons, List.length_nil] at this ⊢
      omega
    · have := addF_len (x := x) r c
      rw [if_neg h]
      simp only [List.length_cons]
      omega
theorem topF_app {s : SS} : ∀ (c d : List Int) (b : Nat), topF s (c ++ d) b = topF s d (topF s c b)
  | [], d, b => rfl
  | l :: c, d, b => by
    rw [List.cons_append]
    simp only [topF]
    exact topF_app c d _
theorem CI.len {vars : Nat} {s : SS} (h : InvT vars s) {c : List Int} (k : CI s c) : c.length ≤ vars := by
  have h1 := neg_inj h.good k.no k.neg
  have := nodup_le (n := vars) h1 fun x hx => by
    obtain ⟨l, hl, rfl⟩ := List.mem_map.1 hx
    have := h.good.2 _ (k.neg l hl)
    omega
  simpa using this
/-- What one resolution finds and leaves. -/
structure ResN (vars : Nat) (s : SS) (n : Nat) (c : List Int) (la : Int) (r : Nat) (d : List Int) (m : Nat) : Prop where
  eq : n = m + 1
  mem : la ∈ c
  nz : la ≠ 0
  why : s.t.why[atF s la]? = some (r : Int)
  cls : s.cls[r]? = some d
  ci : CI s (addF (-la) d (c.filter fun x => !(x == la)))
  lt : ∀ l ∈ addF (-la) d (c.filter fun x => !(x == la)), lvF s l = s.level → atF s l < m
  res : resF s n c = resF s m (addF (-la) d (c.filter fun x => !(x == la)))
theorem res_next {vars : Nat} {s : SS} (h : InvT vars s) {c : List Int} (k : CI s c) {n : Nat} (hn : ∀ l ∈ c, lvF s l = s.level → atF s l < n) (hc : ¬ (lateF s c 0 0).2 < 2) : ∃ r d m, ResN vars s n c (lateF s c 0 0).1 r d m := by
  obtain ⟨h1, h2, h3, ⟨r, ew, d, ed, hr, hwl, hx⟩, h5⟩ := res_step h k hc
  have hla := hn _ h1 h3
  obtain ⟨m, rfl⟩ : ∃ m, n = m + 1 := ⟨n - 1, by omega⟩
  have ef : ∀ y : Int, (c.filter (· ≠ y)) = c.filter fun x => !(x == y) := fun y => by
    congr 1
    funext x
    by_cases e : x = y <;> simp [e]
  have hw : s.t.why[atF s (lateF s c 0 0).1]? = some (r : Int) := by
    rw [List.getD_eq_getElem?_getD, List.getElem?_eq_getElem hwl] at ew
    rw [List.getElem?_eq_getElem hwl]
    exact congrArg some ew
  have hd : s.cls[r]? = some d := by
    rw [List.getD_eq_getElem?_getD, List.getElem?_eq_getElem hr] at ed
    rw [List.getElem?_eq_getElem hr]
    exact congrArg some ed
  have hres : resF s (m + 1) c = resF s m (addF (-(lateF s c 0 0).1) d (c.filter fun x => !(x == (lateF s c 0 0).1))) := by
    conv => lhs; unfold resF
    simp only [if_neg hc]
    rw [ew, Int.toNat_natCast, ed, ef]
  rw [ew, Int.toNat_natCast, ed, ef] at h5
  refine ⟨r, d, m, rfl, h1, k.nz h _ h1, hw, hd, h5, fun l hl hll => ?_, hres⟩
  have hlt : atF s l < atF s (lateF s c 0 0).1 := by
    rcases addF_mem.1 hl with hl | ⟨hl, hne⟩
    · obtain ⟨hl, he⟩ := List.mem_filter.1 hl
      exact Nat.lt_of_le_of_ne (h2 l hl hll) fun e => by simp at he; exact he (at_inj h (k.neg l hl) (k.neg _ h1) e)
    · have q := (hx l hl).resolve_left hne
      exact (mem_take_at h.good (List.mem_of_mem_take q) _).1 q
  omega
theorem resF_end {s : SS} {c : List Int} (hc : (lateF s c 0 0).2 < 2) : ∀ n, resF s n c = c
  | 0 => rfl
  | n + 1 => by unfold resF; simp only [if_pos hc]
end Cd
/-- Integers, all of them. -/
theorem ints_all {w : World} {v : Value} {l : List Int} (h : IsInts w v l) (h0 : 0 < l.length) : ∃ b o cap, v = .slice (some ⟨b, o, none⟩) l.length cap ∧ b < w.heap.size ∧ ∀ i (hi : i < l.length), w.cell? ⟨b, o + i, none⟩ = some (.int .i64 l[i]) := by
  obtain ⟨b, o, cap, e, hb, -⟩ := h.at h0
  refine ⟨b, o, cap, e, hb, fun i hi => ?_⟩
  obtain ⟨b', o', cap', e', hb', hc'⟩ := h.at hi
  rw [e] at e'
  injection e' with q1 q2 q3
  injection q1 with q1
  injection q1 with q1 q2 q3
  subst q1
  subst q2
  exact hc'
end Go.Proofs.YtnndmdfjdodiiaaGreat

namespace Go.Proofs.YtnndmdfjdodiiaaGreat
open Go.ChangeShapes Go.WideShapes Go.RowKit Go.Maps
set_option linter.unusedVariables false
set_option linter.unusedSimpArgs false

section
variable {P : Nat → Prop} {w0 w w' : World} {vars : Nat} {ph : Bool} {bS b gm : Nat} {vc vl vw vlev vlr : Value} {s : Cd.SS}
theorem CSr.lvA (h : CSr P w0 w vars ph bS b gm vc vl vw vlev vlr s) (hlv : ∀ a ∈ s.levels, a ≤ 1000) (hle : s.levels.length = s.t.lits.length) (h0 : s.t.lits ≠ []) : ∃ bv ov cv, vlev = .slice (some ⟨bv, ov, none⟩) s.t.lits.length cv ∧ bv < w.heap.size ∧ ∀ l : Int, -l ∈ s.t.lits → w.cell? ⟨bv, ov + Cd.atF s l, none⟩ = some (.int .i64 (Cd.lvF s l : Int)) ∧ Cd.atF s l < s.t.lits.length := by
  have hp : 0 < s.t.lits.length := List.length_pos_iff.2 h0
  obtain ⟨bv, ov, cv, e, hb, hx⟩ := ints_all (h.lev.ints (lv_64 fun a ha => Nat.le_trans (hlv a ha) (by omega))) (by rw [lvI_len, hle]; exact hp)
  rw [lvI_len, hle] at e
  refine ⟨bv, ov, cv, e, hb, fun l hl => ?_⟩
  have ha := Cd.at_lt hl
  have hi : Cd.atF s l < s.levels.length := by rw [hle]; exact ha
  refine ⟨?_, ha⟩
  rw [hx _ (by rw [lvI_len]; exact hi)]
  have e1 : (lvI s.levels)[Cd.atF s l]'(by rw [lvI_len]; exact hi) = (s.levels[Cd.atF s l] : Int) := by simp [lvI]
  rw [e1]
  unfold Cd.lvF
  rw [List.getD_eq_getElem?_getD, List.getElem?_eq_getElem hi]
  rfl
end
theorem canA (a : Array Value) (w : World) : Sem.run Tryz.prog (callFunc 110 a) w = .ok (.enter 110 a) w := by kernel_rfl
theorem canB (a : Array Value) (w : World) : Sem.run Tryz.prog (callFunc 112 a) w = .ok (.enter 112 a) w := by kernel_rfl
set_option maxRecDepth 100000 in
theorem canal1_any (w : World) (g : Nat) (la l : Int) (h : w.cell? ⟨g, 0, none⟩ = some (.int .i64 la)) (hl : g < w.heap.size) : Calls Tryz.prog 110 #[.int .i64 l, .pointer (some ⟨g, 0, none⟩)] w fun e w' => e = .returned (.bool (l == la)) ∧ Keep NoS w w' := by
  go_enter Tryz.func110, Tryz.ntmps110
  go_wp2
  go_ret
  exact ⟨rfl, by (repeat' (with_reducible first | assumption | exact HK.out | exact keR | refine keA ?_ | refine keS ?_ fun h => absurd h (by omega) | refine keN ?_ | refine keD ?_))⟩
set_option maxRecDepth 100000 in
set_option maxHeartbeats 8000000 in
theorem canal2_any (P : Nat → Prop) (w0 w : World) (vars : Nat) (ph : Bool) (bS b gm : Nat) (vc vl vw vlev vlr : Value) (s : Cd.SS) (h : CSr P w0 w vars ph bS b gm vc vl vw vlev vlr s) (hv : vars ≤ 1000) (hg : Cd.GoodT vars s.t.lits) (hlv : ∀ a ∈ s.levels, a ≤ 1000) (hle : s.levels.length = s.t.lits.length) (bs : Nat) (hbs : w.cell? ⟨bs, 0, none⟩ = some (.pointer (some ⟨bS, 0, none⟩))) (hbl : bs < w.heap.size) (l : Int) (hl : -l ∈ s.t.lits) :
    Calls Tryz.prog 112 #[.int .i64 l, .pointer (some ⟨bs, 0, none⟩)] w fun e w' => e = .returned (.bool (decide (Cd.lvF s l = 0))) ∧ Keep NoS w w' := by
  have hx : I64 l ∧ I64 (-l) := by have := good_64 hv hg _ hl; rw [Int.neg_neg] at this; exact this.symm
  have CX := fun w' (k : Keep NoS w w') => Lib.hid (at_anyC P w0 w' vars ph bS b gm vc vl vw vlev vlr s (h.keep k) hv hg l hx.1 hx.2)
  rw [if_pos hl] at CX
  obtain ⟨x0, x1, x2, x3, x4, x5, x6, f3, f4, f5, f6, xl⟩ := csG_cells h.blk
  obtain ⟨bv, ov, cv, rfl, y1, y2⟩ := h.lvA hlv hle (List.ne_nil_of_mem hl)
  obtain ⟨y3, y4⟩ := y2 l hl
  have h1 : (Cd.atF s l : Int) < (s.t.lits.length : Int) := by omega
  have h2 : ¬ (Cd.atF s l : Int) < 0 := by omega
  have HR : Hid (((Cd.lvF s l : Int) == 0) = decide (Cd.lvF s l = 0)) := Lib.hid (by by_cases e : Cd.lvF s l = 0 <;> simp [e])
  generalize Cd.atF s l = i at *
  generalize Cd.lvF s l = q at *
  clear h hg hlv hle hx hl y2 y4
  go_enter Tryz.func112, Tryz.ntmps112
  go_upto_region 1 with fail
  refine wp_region_by (fun w' => Keep NoS w w') [] [([0, 1, 2, 3, 4, 5], 6)] [7, 8, 9, 10] (by kernel_rfl) (by kernel_rfl) (Keep.refl _ _).drew ?_
  intro X W hne hF hcl
  have HCL := Lib.hid hcl
  have z0 := fun x => ((hF x).cell hbl).trans hbs
  have z4 := fun x => ((hF x).cell xl).trans x4
  have z5 := fun x => ((hF x).cell y1).trans y3
  have zl := fun x => Nat.lt_of_lt_of_le xl (hF x).size
  have zm := fun x => Nat.lt_of_lt_of_le hbl (hF x).size
  have zn := fun x => Nat.lt_of_lt_of_le y1 (hF x).size
  clear hF hcl
  simp only [wpPlan, pickOps, List.getElem?_toArray, List.getElem?_cons_zero, List.getElem?_cons_succ, clsOf, Bool.false_eq_true, if_false]
  (repeat (quiet_step (fail))); refine wpQuiet_nil ?_
  refine wpAt rfl rfl fun K hK => ?_
  go_simp
  refine (CX _ (Keep.refl _ _).drew).out.mono ?_
  rintro e w3 ⟨rfl, hk3⟩
  have k3 : Keep NoS w w3 := Keep.both (Keep.refl _ _).drew hk3
  refine hK _ _ ⟨fun _ => HCL.out _ k3, ?_⟩
  have y3 := (k3.cell y1).trans y3
  have y1 := Nat.lt_of_lt_of_le y1 k3.size
  clear hK K hk3
  (repeat (quiet_step (fail))); refine wpQuiet_nil ?_
  refine NoPanic.normal ?_
  go_wp2
  go_ret
  exact ⟨by rw [HR.out]; rfl, k3⟩
section
variable {P : Nat → Prop} {w0 w w' : World} {vars : Nat} {ph : Bool} {bS b gm : Nat} {vc vl vw vlev vlr : Value} {s : Cd.SS}
theorem CSr.clA (h : CSr P w0 w vars ph bS b gm vc vl vw vlev vlr s) (h0 : s.cls ≠ []) : ∃ bc oc cc, vc = .slice (some ⟨bc, oc, none⟩) s.cls.length cc ∧ bc < w.heap.size ∧ ∀ (r : Nat) (d : List Int), s.cls[r]? = some d → ∃ od cd, w.cell? ⟨bc, oc + r, none⟩ = some (.slice od d.length cd) ∧ IsInts w (.slice od d.length cd) d ∧ r < s.cls.length := by
  obtain ⟨oa, cap, h1, h2, h3, h4⟩ := h.cls
  obtain ⟨bc, oc, e, hb, -, hx⟩ := h4 h0
  refine ⟨bc, oc, cap, by rw [h1, e], hb, fun r d hd => ?_⟩
  obtain ⟨sv, p1, p2, -⟩ := hx r d hd
  have p3 := p2.ints
  obtain ⟨od, cd, rfl, -⟩ := p2
  exact ⟨od, cd, p1, p3, (List.getElem?_eq_some_iff.1 hd).1⟩
theorem CSr.whA (h : CSr P w0 w vars ph bS b gm vc vl vw vlev vlr s) (hw : Cd.WhyT s.cls s.t) (hcl : s.cls.length ≤ 10000) (h0 : s.t.lits ≠ []) : ∃ bw ow cw, vw = .slice (some ⟨bw, ow, none⟩) s.t.lits.length cw ∧ bw < w.heap.size ∧ ∀ (i : Nat) (y : Int), s.t.why[i]? = some y → w.cell? ⟨bw, ow + i, none⟩ = some (.int .i64 y) := by
  have hp : 0 < s.t.lits.length := List.length_pos_iff.2 h0
  have h64 : ∀ y ∈ s.t.why, I64 y := fun y hy => by
    obtain ⟨i, hi⟩ := List.mem_iff_getElem?.1 hy
    have hil := (List.getElem?_eq_some_iff.1 hi).1
    rw [hw.1] at hil
    obtain ⟨y', e, hy'⟩ := hw.2 i _ (List.getElem?_eq_getElem hil)
    rw [hi] at e
    cases e
    rcases hy' with rfl | ⟨k, rfl, c, hc, -⟩
    · unfold I64; omega
    · have := (List.getElem?_eq_some_iff.1 hc).1
      unfold I64
      omega
  obtain ⟨bw, ow, cw, e, hb, hx⟩ := ints_all (h.tr.y.ints h64) (by rw [hw.1]; exact hp)
  rw [hw.1] at e
  refine ⟨bw, ow, cw, e, hb, fun i y hy => ?_⟩
  obtain ⟨hi, e⟩ := List.getElem?_eq_some_iff.1 hy
  rw [hx i hi, e]
end
namespace Cd
theorem ci_start {vars : Nat} {s : SS} (h : InvT vars s) (hl : 1 ≤ s.level) {k : Nat} {c : List Int} (hk : s.cls[k]? = some c) (hc : ∀ l ∈ c, -l ∈ s.t.lits) : CI s c := by
  obtain ⟨ec, hcm⟩ := mem_getD hk
  obtain ⟨j, hj, hjl⟩ := h.all s.level hl (Nat.le_refl _)
  obtain ⟨b0, hb0, _, hlt, hcl⟩ := h.dec j hj
  rw [hjl] at hb0
  cases hb0
  have hcn : c.Nodup := nodup_of_map (h.ok c hcm).1
  have hone : ∃ l ∈ c, lvF s l = s.level := by
    apply Classical.byContradiction
    intro hno
    refine closed_not hcl hcm fun l hlc => (mem_take_at h.good (hc l hlc) j).2 ?_
    have h1 := one_level h (hc l hlc)
    have h2 : lvF s l ≠ s.level := fun e => hno ⟨l, hlc, e⟩
    apply Classical.byContradiction
    intro hge
    have := h.mono j _ _ _ (Nat.le_of_not_lt hge) hjl (h.lv (hc l hlc))
    omega
  exact ⟨hcn, hc, fun T hT hf => closed_not hT hcm hf, hone⟩
end Cd
theorem keepG_n {w a b : World} {g : Nat} (h : Keep NoS w a) (k : Keep (fun n _ => n = g) a b) (hg : w.heap.size ≤ g) : Keep NoS w b := h.trans k fun n o hn e => absurd e (by omega)
theorem keepG_blk {a b : World} {g n : Nat} {A : Array Value} (k : Keep (fun n _ => n = g) a b) (h : Blk a n A) (hn : n ≠ g) : Blk b n A := by
  obtain ⟨t, ht⟩ := h
  exact ⟨t, (k.block n (lt_of_heap ht) fun o e => hn e).trans ht⟩
theorem keepG_own {a b : World} {g base : Nat} {v : Value} {l : List Int} (k : Keep (fun n _ => n = g) a b) (h : OwnI a base v l) (hn : ∀ q, v.ownBlock = some q → q ≠ g) : OwnI b base v l := h.same fun q hq => k.block q (h.ltT q hq) fun o e => hn q hq e
namespace Cd
theorem late_step {s : SS} {d : List Int} {i : Nat} (hi : i < d.length) : lateF s (d.take (i + 1)) 0 0 = if lvF s d[i] = s.level then (if (lateF s (d.take i) 0 0).1 = 0 ∨ atF s (lateF s (d.take i) 0 0).1 < atF s d[i] then d[i] else (lateF s (d.take i) 0 0).1, (lateF s (d.take i) 0 0).2 + 1) else ((lateF s (d.take i) 0 0).1, (lateF s (d.take i) 0 0).2) := by
  rw [List.take_succ_eq_append_getElem hi, lateF_app]
  simp only [lateF]
theorem late_in {s : SS} {c d : List Int} (hs : ∀ l ∈ d, l ∈ c) : (lateF s d 0 0).1 = 0 ∨ (lateF s d 0 0).1 ∈ c := by
  rcases (lateF_told (s := s) d 0 0).2.1 with h | h
  · exact .inl h
  · exact .inr (hs _ h.1)
theorem top_step {s : SS} {d : List Int} {i : Nat} (hi : i < d.length) : topF s (d.take (i + 1)) 0 = if lvF s d[i] < s.level then max (topF s (d.take i) 0) (lvF s d[i]) else topF s (d.take i) 0 := by
  rw [List.take_succ_eq_append_getElem hi, topF_app]
  simp only [topF]
theorem top_le {s : SS} {m : Nat} (h : ∀ l, lvF s l ≤ m) : ∀ (c : List Int) (b : Nat), b ≤ m → topF s c b ≤ m
  | [], b, hb => hb
  | l :: c, b, hb => by
    simp only [topF]
    refine top_le h c _ ?_
    have := h l
    split <;> omega
theorem cls_len {vars : Nat} {s : SS} (h : InvT vars s) {r : Nat} {d : List Int} (hd : s.cls[r]? = some d) : d.length ≤ vars := by
  obtain ⟨h1, h2⟩ := h.ok d (List.mem_of_getElem? hd)
  have := nodup_le (n := vars) h1 fun x hx => by
    obtain ⟨l, hl, rfl⟩ := List.mem_map.1 hx
    have := h2 l hl
    omega
  simpa using this
theorem add_step {x : Int} {d c : List Int} {i : Nat} (hi : i < d.length) : addF x (d.take (i + 1)) c = if d[i] ≠ x ∧ d[i] ∉ addF x (d.take i) c then addF x (d.take i) c ++ [d[i]] else addF x (d.take i) c := by
  rw [List.take_succ_eq_append_getElem hi, addF_app]
  simp only [addF]
theorem late_le {s : SS} (d : List Int) : (lateF s d 0 0).2 ≤ d.length := by
  rw [(lateF_told (s := s) d 0 0).1, Nat.zero_add]
  exact List.length_filter_le _ _
end Cd
end Go.Proofs.YtnndmdfjdodiiaaGreat
