/- Package solve: a form of free atoms is decided. Package reasons: the closure of Least. Package reasons: part. Clauses hold together just if the words say so. -/
import Derived.Test.YtnndmdfjdodiiaaGreatTtVM
import Derived.Test.YtnndmdfjdodiiaaGreatTtSk
import Derived.Test.YtnndmdfjdodiiaaGreatTtVa
import Derived.Test.YtnndmdfjdodiiaaGreatTtWE
namespace Go.Proofs.YtnndmdfjdodiiaaGreat
open Go.ChangeShapes Go.WideShapes Go.RowKit Go.Maps
set_option linter.unusedVariables false
set_option linter.unusedSimpArgs false

/-- An assignment makes all clauses hold. -/
def SatN (cls : List (List Int)) (a : Nat → Bool) : Prop := ∀ c ∈ cls, ∃ l ∈ c, a l.natAbs = decide (0 < l)
def freeF (n : Nat) (cls : List (List Int)) : Sv.Frm := ⟨[], List.replicate n ⟨1, 0, 0⟩, cls⟩
theorem freeF_ok {n : Nat} {cls : List (List Int)} (hn : n ≤ 5) (hc : ∀ c ∈ cls, ValidC n c) (hl : cls.length ≤ 20) : Sv.FreeOK (freeF n cls) :=
  ⟨rfl, fun a ha => by rw [(List.mem_replicate.1 ha).2], fun c h => by have := hc c h; unfold freeF; rw [List.length_replicate]; exact this, by unfold freeF; rw [List.length_replicate]; exact hn, hl⟩
theorem cnf_free {n : Nat} {cls : List (List Int)} (hn : n ≤ 5) (hc : ∀ c ∈ cls, ValidC n c) (hl : cls.length ≤ 20) : CnfOK n cls :=
  ⟨by omega, by omega, fun c h => ⟨hc c h, by have := (hc c h).le; omega⟩⟩
theorem freeF_fm {n : Nat} {cls : List (List Int)} (hn : n ≤ 5) (hc : ∀ c ∈ cls, ValidC n c) (hl : cls.length ≤ 20) : FmOK (freeF n cls) :=
  ⟨⟨by simp [freeF], fun i h => absurd h (by simp [freeF])⟩, by simp only [freeF, List.length_replicate]; omega, fun a ha => by rw [(List.mem_replicate.1 ha).2]; exact .inl ⟨rfl, rfl, rfl⟩, by unfold freeF; rw [List.length_replicate]; exact cnf_free hn hc hl⟩
theorem free_viol {f : Sv.Frm} (h : Sv.FreeOK f) (hs : List Bool) : Sv.violF f hs = none := by
  unfold Sv.violF
  simp only
  rw [List.find?_eq_none.2 fun i hi => ?_]
  · rfl
  · have hi := List.mem_range.1 hi
    have : (f.atoms.getD i ⟨0, 0, 0⟩).kind = 1 := by
      rw [List.getD_eq_getElem?_getD, List.getElem?_eq_getElem hi]
      exact h.at' _ (List.getElem_mem hi)
    unfold Sv.violB
    rw [this]
    simp
theorem sat_of_holds {cls : List (List Int)} {hs : List Bool} (h : (cls.all fun c => c.any (Sv.litB hs)) = true) : ∃ a, SatN cls a := by
  refine ⟨fun v => hs.getD (v - 1) false, fun c hc => ?_⟩
  obtain ⟨l, hl, hb⟩ := List.any_eq_true.1 (List.all_eq_true.1 h c hc)
  unfold Sv.litB at hb
  exact ⟨l, hl, by simpa using hb⟩
theorem unsat_of_T {n : Nat} {cls : List (List Int)} (hv : ∀ c ∈ cls, ∀ l ∈ c, l ≠ 0 ∧ l.natAbs ≤ n) (h : ∀ T : List Int, (∀ l, l ∈ T → -l ∈ T → False) → (∀ v : Nat, 1 ≤ v → v ≤ n → (v : Int) ∈ T ∨ -(v : Int) ∈ T) → ∃ c ∈ cls, ∀ l ∈ c, l ∉ T) : ¬ ∃ a, SatN cls a := by
  rintro ⟨a, ha⟩
  have hm : ∀ l : Int, l ∈ ((List.range n).map fun v => if a (v + 1) then ((v + 1 : Nat) : Int) else -((v + 1 : Nat) : Int)) ↔ l ≠ 0 ∧ l.natAbs ≤ n ∧ a l.natAbs = decide (0 < l) := fun l => by
    constructor
    · intro hl
      obtain ⟨v, hv, rfl⟩ := List.mem_map.1 hl
      have hv := List.mem_range.1 hv
      by_cases hb : a (v + 1) = true
      · rw [if_pos hb, Int.natAbs_natCast, hb]
        exact ⟨by omega, by omega, by symm; rw [decide_eq_true_iff]; omega⟩
      · rw [if_neg hb, Int.natAbs_neg, Int.natAbs_natCast]
        refine ⟨by omega, by omega, ?_⟩
        rw [decide_eq_false (by omega)]
        simpa using hb
    · rintro ⟨h0, h1, h2⟩
      refine List.mem_map.2 ⟨l.natAbs - 1, List.mem_range.2 (by omega), ?_⟩
      rw [show l.natAbs - 1 + 1 = l.natAbs by omega, h2]
      by_cases hp : 0 < l
      · rw [decide_eq_true hp, if_pos rfl]; omega
      · rw [decide_eq_false hp, if_neg (by simp)]; omega
  obtain ⟨c, hc, hno⟩ := h _ (fun l h1 h2 => by
      have h1 := (hm l).1 h1
      have h2 := (hm (-l)).1 h2
      rw [Int.natAbs_neg, h1.2.2] at h2
      have := h2.2.2
      rw [decide_eq_decide] at this
      omega) (fun v h1 h2 => by
      rcases hb : a v with _ | _
      · exact .inr ((hm _).2 ⟨by omega, by omega, by rw [Int.natAbs_neg, Int.natAbs_natCast, hb]; symm; rw [decide_eq_false_iff_not]; omega⟩)
      · exact .inl ((hm _).2 ⟨by omega, by omega, by rw [Int.natAbs_natCast, hb]; symm; rw [decide_eq_true_iff]; omega⟩))
  obtain ⟨l, hl, hal⟩ := ha c hc
  exact hno l hl ((hm l).2 ⟨(hv c hc l hl).1, (hv c hc l hl).2, hal⟩)
/-- What the solver tells of free clauses. -/
theorem free_runF {f : Sv.Frm} (h : Sv.FreeOK f) (ph : Bool) : (runS f ph 2000 1 ⟨f.cls, [], 0⟩ = 1 ∧ ∃ a, SatN f.cls a) ∨ (runS f ph 2000 1 ⟨f.cls, [], 0⟩ = 2 ∧ ¬ ∃ a, SatN f.cls a) := by
  have hfs := Sv.free_solved h (ph := ph)
  have hv : ∀ c ∈ f.cls, ∀ l ∈ c, l ≠ 0 ∧ l.natAbs ≤ f.atoms.length := fun c hc => (h.ok c hc).2
  have hR : runS f ph 2000 1 ⟨f.cls, [], 0⟩ = match roundF f 2000 ⟨f.cls, [], 0⟩ (Sv.doC f.atoms.length ph 2000 f.cls) with | .done st => st | .next s' => runS f ph 2000 0 s' := rfl
  rw [hR]
  clear hR
  unfold Sv.solveV Sv.solveF at hfs
  rw [if_neg (by have := h.cl; simp; omega), Nat.sub_zero] at hfs
  rcases hd : Sv.doC f.atoms.length ph 2000 f.cls with ⟨T, u⟩ | ⟨st, u⟩ | u
  · rw [hd] at hfs
    simp only [free_viol h] at hfs
    unfold roundF
    simp only [free_viol h]
    by_cases hh : Sv.holdsF f (Sv.holdsT f.atoms.length T) (Sv.classOf f (Sv.holdsT f.atoms.length T)) = true
    · rw [if_pos hh] at hfs ⊢
      rcases hfs with ⟨a, b, c, e, hsat, -⟩ | ⟨a, b, e, -⟩
      · injection e with e1 e2 e3
        rw [← e1] at hsat
        exact .inl ⟨rfl, sat_of_holds hsat⟩
      · cases e
    · rw [if_neg hh] at hfs
      rcases hfs with ⟨a, b, c, e, -⟩ | ⟨a, b, e, -⟩ <;> cases e
  · rw [hd] at hfs
    simp only [List.nil_append] at hfs
    unfold roundF stepsA
    simp only [List.nil_append]
    by_cases hh : (st.map fun c => (⟨1, c⟩ : Sv.Stp)).length ≤ 3000 ∧ Sv.takeJ f (st.map fun c => (⟨1, c⟩ : Sv.Stp)) = true
    · rw [if_pos hh] at hfs
      rw [if_pos hh.2]
      rcases hfs with ⟨a, b, c, e, -⟩ | ⟨a, b, e, hno⟩
      · cases e
      · exact .inr ⟨rfl, unsat_of_T hv hno⟩
    · rw [if_neg hh] at hfs
      rcases hfs with ⟨a, b, c, e, -⟩ | ⟨a, b, e, -⟩ <;> cases e
  · rw [hd] at hfs
    simp only at hfs
    rcases hfs with ⟨a, b, c, e, -⟩ | ⟨a, b, e, -⟩ <;> cases e
/-- The solver begins, and ends, with a round. -/
def IFr (cls : List (List Int)) : Nat → Sv.SvS → Prop
  | 1, s => s = ⟨cls, [], 0⟩
  | _, _ => False
theorem IFr_ok {n : Nat} {cls : List (List Int)} (hn : n ≤ 5) (hc : ∀ c ∈ cls, ValidC n c) (hl : cls.length ≤ 20) (ph : OpO) (hph : ph.OK) : ∀ k s, IFr cls k s → ∃ j, k = j + 1 ∧ RndI (freeF n cls) ph 2000 s ∧ ∀ s', roundF (freeF n cls) (2000 : Int).toNat s (Sv.doC (freeF n cls).atoms.length (ph.d == 1) ((2000 : Int).toNat - s.used) s.cls) = .next s' → IFr cls j s' := by
  have e2 : (2000 : Int).toNat = 2000 := rfl
  have hlen : (freeF n cls).atoms.length = n := by unfold freeF; exact List.length_replicate ..
  have h5 : 3 ^ n ≤ 243 := Nat.le_trans (Nat.pow_le_pow_right (by omega) hn) (by decide)
  have hok := freeF_ok hn hc hl
  intro k s h
  match k, h with
  | 1, h =>
    obtain rfl : s = ⟨cls, [], 0⟩ := h
    have hT := Sv.doC_told (vars := n) (ph := ph.d == 1) (fuel := 2000) (cls := cls) (fun c h => hc c h) (by omega)
    refine ⟨0, rfl, ⟨by show cls.length ≤ 400; omega, by simp, fun x hx => (by cases hx), by simp, ?_, ?_⟩, fun s' hs => ?_⟩
    · rw [hlen, e2, Nat.sub_zero]
      show (∃ T u, Sv.doC n (ph.d == 1) 2000 cls = .yes T u ∧ u ≤ 2000) ∨ ∃ st u, Sv.doC n (ph.d == 1) 2000 cls = .no st u ∧ u ≤ 2000 ∧ (∀ c ∈ st, ValidC n c) ∧ st.length ≤ 1000
      rcases hd : Sv.doC n (ph.d == 1) 2000 cls with ⟨T, u⟩ | ⟨st, u⟩ | u
      · rw [hd] at hT
        exact .inl ⟨T, u, rfl, by have := hT.2.2.2; omega⟩
      · rw [hd] at hT
        obtain ⟨h1, h2, -, h4, -⟩ := hT
        exact .inr ⟨st, u, rfl, by omega, fun c hcs => h4 c hcs, by omega⟩
      · rw [hd] at hT
        exact hT.elim
    · intro w' oc cc h
      have := cdclDo_any n w' oc cc cls ph.a ph.b ph.c ph.d 2000 h (cnf_free hn hc hl) hph.1 hph.2.1 hph.2.2.1 hph.2.2.2 (by omega) (by rw [e2]; omega)
      rw [hlen, Nat.sub_zero]
      exact this
    · rw [hlen, e2, Nat.sub_zero] at hs
      exfalso
      revert hs
      show roundF (freeF n cls) 2000 ⟨cls, [], 0⟩ (Sv.doC n (ph.d == 1) 2000 cls) = .next s' → False
      rcases hd : Sv.doC n (ph.d == 1) 2000 cls with ⟨T, u⟩ | ⟨st, u⟩ | u
      · unfold roundF
        simp only [free_viol hok]
        split <;> (intro h; cases h)
      · unfold roundF
        simp only
        split <;> (intro h; cases h)
      · intro h; cases h
/-- The solver's answer on free clauses. -/
theorem solveFree_any (w : World) (L : FmL) (n : Nat) (cls : List (List Int)) (ph : OpO) (hph : ph.OK) (hF : IsForm w L (freeF n cls)) (hn : n ≤ 5) (hc : ∀ c ∈ cls, ValidC n c) (hl : cls.length ≤ 20) :
    Calls Tryz.prog 7 #[L.v (freeF n cls), .agg #[.int .i64 ph.a, .int .i64 ph.b, .int .i64 ph.c, .int .i64 ph.d], .int .i64 2000] w fun e w' => (∃ (st : Int) (p1 : Option Addr) (p2 p3 : Nat) (q1 : Option Addr) (q2 q3 : Nat) (r1 : Option Addr) (r2 r3 : Nat) (u : Int), e = .returned (.tuple #[.agg #[.int .i64 st, .slice p1 p2 p3, .slice q1 q2 q3, .slice none 0 0, .slice r1 r2 r3, .int .i64 u], fa0]) ∧ ((st = 1 ∧ ∃ a, SatN cls a) ∨ (st = 2 ∧ ¬ ∃ a, SatN cls a))) ∧ Keep NoS w w' := by
  refine (solve_any w L (freeF n cls) ph 2000 1 (IFr cls) hF (freeF_fm hn hc hl) hph (by omega) rfl (IFr_ok hn hc hl ph hph)).mono ?_
  rintro e w' ⟨⟨p1, p2, p3, q1, q2, q3, r1, r2, r3, u, he⟩, hk⟩
  exact ⟨⟨_, p1, p2, p3, q1, q2, q3, r1, r2, r3, u, he, free_runF (freeF_ok hn hc hl) (ph.d == 1)⟩, hk⟩
end Go.Proofs.YtnndmdfjdodiiaaGreat

namespace Go.Proofs.YtnndmdfjdodiiaaGreat
open Go.ChangeShapes Go.WideShapes Go.RowKit Go.Maps
set_option linter.unusedVariables false
set_option linter.unusedSimpArgs false

theorem lsA (a : Array Value) (w : World) : Sem.run Tryz.prog (callFunc 36 a) w = .ok (.enter 36 a) w := by kernel_rfl
set_option maxRecDepth 100000 in
theorem least1_any (w : World) (g : Nat) (la l : Int) (h : w.cell? ⟨g, 0, none⟩ = some (.int .i64 la)) (hl : g < w.heap.size) : Calls Tryz.prog 36 #[.int .i64 l, .pointer (some ⟨g, 0, none⟩)] w fun e w' => e = .returned (.bool (l == la)) ∧ Keep NoS w w' := by
  go_enter Tryz.func36, Tryz.ntmps36
  go_wp2
  go_ret
  exact ⟨rfl, by (repeat' (with_reducible first | assumption | exact HK.out | exact keR | refine keA ?_ | refine keS ?_ fun h => absurd h (by omega) | refine keN ?_ | refine keD ?_))⟩
end Go.Proofs.YtnndmdfjdodiiaaGreat

namespace Go.Proofs.YtnndmdfjdodiiaaGreat
open Go.ChangeShapes Go.WideShapes Go.RowKit Go.Maps
set_option linter.unusedVariables false
set_option linter.unusedSimpArgs false

def pickC (cls : List (List Int)) (S : List Nat) : List (List Int) := S.map fun i => cls.getD i []
abbrev TFmS : TypeId := 28
set_option maxRecDepth 100000 in
set_option maxHeartbeats 16000000 in
theorem part_any (w : World) (ot : Option Addr) (ct : Nat) (oa : Option Addr) (ca : Nat) (oc : Option Addr) (cc : Nat) (cls : List (List Int)) (ph : OpO) (hph : ph.OK) (hF : IsForm w ⟨ot, ct, oa, ca, oc, cc⟩ (freeF 5 cls)) (hv : ∀ c ∈ cls, ValidC 5 c) (hl : cls.length ≤ 20) (v : Value) (S : List Nat) (hS : IsInts w v (S.map Int.ofNat)) (hSl : ∀ i ∈ S, i < cls.length) (hSn : S.length ≤ 20) :
    Calls Tryz.prog 34 #[.agg #[.slice ot 0 ct, .slice none 0 0, .slice oa 5 ca, .slice oc cls.length cc], v, .agg #[.int .i64 ph.a, .int .i64 ph.b, .int .i64 ph.c, .int .i64 ph.d], .int .i64 2000] w fun e w' => ∃ st : Int, e = .returned (.int .i64 st) ∧ ((st = 1 ∧ ∃ a, SatN (pickC cls S) a) ∨ (st = 2 ∧ ¬ ∃ a, SatN (pickC cls S) a)) ∧ Keep NoS w w' := by
  have hPV : ∀ c ∈ pickC cls S, ValidC 5 c := fun c hc => by
    obtain ⟨i, hi, rfl⟩ := List.mem_map.1 hc
    have := hSl i hi
    rw [List.getD_eq_getElem?_getD, List.getElem?_eq_getElem this]
    exact hv _ (List.getElem_mem this)
  have hPL : (pickC cls S).length = S.length := List.length_map ..
  have CS := Lib.hid (fun w' (k : Keep NoS w w') o' c' (h : IsCls w' (.slice o' (pickC cls S).length c') (pickC cls S)) => solveFree_any w' ⟨ot, ct, oa, ca, o', c'⟩ 5 (pickC cls S) ph hph ⟨hF.t.keep k, hF.a.keep k, h⟩ (by omega) hPV (by omega))
  have HFC : Hid (IsCls w (.slice oc cls.length cc) cls) := Lib.hid hF.c
  have HS := Lib.hid hS
  have HSL := Lib.hid hSl
  have HSN := Lib.hid hSn
  have HPL := Lib.hid hPL
  obtain ⟨os, cs, rfl, hsm⟩ := hS.len
  rw [List.length_map] at *
  obtain ⟨w2, hw2⟩ : ∃ w2 : World, w2 = ((w.alloc (.cells #[.slice ot 0 ct, .slice none 0 0, .slice oa 5 ca, .slice oc cls.length cc] TFmS)).alloc (.cells #[.int .i64 ph.a, .int .i64 ph.b, .int .i64 ph.c, .int .i64 ph.d] TOp)).alloc (.cells #[.slice ot 0 ct, .slice none 0 0, .slice oa 5 ca, .slice oc cls.length cc] TFmS) := ⟨_, rfl⟩
  have K2 : Hid (Keep NoS w w2) := Lib.hid (by rw [hw2]; exact (((Keep.refl _ _).alloc _).alloc _).alloc _)
  have B1 : Hid (w2.heap[w.heap.size]? = some (.cells #[.slice ot 0 ct, .slice none 0 0, .slice oa 5 ca, .slice oc cls.length cc] TFmS (0, 0))) := Lib.hid (by rw [hw2, heap_alloc_old _ _ _ (by simp; omega), heap_alloc_old _ _ _ (by simp)]; exact heap_alloc_at _ _ _ rfl)
  have B2 : Hid (w2.heap[w.heap.size + 1]? = some (.cells #[.int .i64 ph.a, .int .i64 ph.b, .int .i64 ph.c, .int .i64 ph.d] TOp (0, 0))) := Lib.hid (by rw [hw2, heap_alloc_old _ _ _ (by simp)]; exact heap_alloc_at _ _ _ (by simp))
  have B3 : Hid (w2.heap[w.heap.size + 1 + 1]? = some (.cells #[.slice ot 0 ct, .slice none 0 0, .slice oa 5 ca, .slice oc cls.length cc] TFmS (0, 0))) := Lib.hid (by rw [hw2]; exact heap_alloc_at _ _ _ (by simp))
  clear hS hSl hSn hF hv hPV hPL hph
  go_enter Tryz.func34, Tryz.ntmps34
  go_upto_region 2 with fail
  rw [← hw2]
  clear hw2
  generalize hg1 : w.heap.size = g1 at *
  have HG1 := Lib.hid hg1
  clear hg1
  have b3 : Blk w2 (g1 + 1 + 1) #[.slice ot 0 ct, .slice none 0 0, .slice oa 5 ca, .slice oc cls.length cc] := ⟨_, B3.out⟩
  have y3 : w2.cell? ⟨g1 + 1 + 1, 3, none⟩ = some (.slice oc cls.length cc) := b3.cell 3
  have f3 := b3.free 3
  have yl := b3.lt
  have HK3 := Lib.hid (keep_at K2.out (b := g1 + 1 + 1) (i := 3) (.slice none 0 0) (by have := HG1.out; omega))
  have H93 : Hid ((w2.setCell ⟨g1 + 1 + 1, 3, none⟩ (.slice none 0 0)).heap[g1 + 1 + 1]? = some (.cells #[.slice ot 0 ct, .slice none 0 0, .slice oa 5 ca, .slice none 0 0] TFmS (0, 0))) := Lib.hid (by rw [Go.Joins.block_setCell B3.out _]; rfl)
  have B13 := Lib.hid ((heap_setCell_other w2 ⟨g1 + 1 + 1, 3, none⟩ (.slice none 0 0) g1 (show g1 ≠ g1 + 1 + 1 by omega)).trans B1.out)
  have B23 := Lib.hid ((heap_setCell_other w2 ⟨g1 + 1 + 1, 3, none⟩ (.slice none 0 0) (g1 + 1) (show g1 + 1 ≠ g1 + 1 + 1 by omega)).trans B2.out)
  clear b3
  go_upto_region 3 with fail
  clear y3 f3 yl
  generalize w2.setCell ⟨g1 + 1 + 1, 3, none⟩ (.slice none 0 0) = w3 at *
  generalize hm : S.length = n at *
  have HM := Lib.hid hm
  clear hm
  go_wp2
  go_loopw [18] (fun t wr => ∃ (i : Nat) (v : Value), t = .int .i64 (i : Int) ∧ i ≤ n ∧ wr.heap[g1 + 1 + 1]? = some (.cells #[.slice ot 0 ct, .slice none 0 0, .slice oa 5 ca, v] TFmS (0, 0)) ∧ OwnCls w wr v (pickC cls (S.take i)) ∧ Keep NoS w wr ∧ wr.heap[g1]? = some (.cells #[.slice ot 0 ct, .slice none 0 0, .slice oa 5 ca, .slice oc cls.length cc] TFmS (0, 0)) ∧ wr.heap[g1 + 1]? = some (.cells #[.int .i64 ph.a, .int .i64 ph.b, .int .i64 ph.c, .int .i64 ph.d] TOp (0, 0))) (fun t _ => (n - intOf t).toNat)
  case atStart => exact ⟨0, _, rfl, by omega, H93.out, ⟨[], rfl, OwnG.nil _ _, fun i x c h => by simp at h⟩, HK3.out, B13.out, B23.out⟩
  case round =>
    clear B13 B23 H93 HK3
    obtain ⟨i, v, rfl, hi, h9, ho, hkr, b1, b2⟩ := hrel
    have H9 := Lib.hid h9
    have HO := Lib.hid ho
    have HKR := Lib.hid hkr
    have BR1 := Lib.hid b1
    have BR2 := Lib.hid b2
    have b1 : Blk wr g1 #[.slice ot 0 ct, .slice none 0 0, .slice oa 5 ca, .slice oc cls.length cc] := ⟨_, b1⟩
    have b2 : Blk wr (g1 + 1) #[.int .i64 ph.a, .int .i64 ph.b, .int .i64 ph.c, .int .i64 ph.d] := ⟨_, b2⟩
    have hn20 := HSN.out
    have hpl : (pickC cls (S.take i)).length = i := by unfold pickC; rw [List.length_map, List.length_take, HM.out]; omega
    obtain ⟨ov, cv, hvv, -, -⟩ := ho.len
    rw [hpl] at hvv
    subst hvv
    have b9 : Blk wr (g1 + 1 + 1) #[.slice ot 0 ct, .slice none 0 0, .slice oa 5 ca, .slice ov i cv] := ⟨_, h9⟩
    have HPLI := Lib.hid hpl
    clear h9 ho hkr hpl
    by_cases hin : i < n
    case neg =>
      have hlt : ¬ (i : Int) < (n : Int) := by omega
      have hd : decide ((i : Int) < (n : Int)) = false := decide_eq_false hlt
      obtain rfl : i = n := by omega
      have ht : S.take i = S := List.take_of_length_le (by rw [HM.out]; omega)
      rw [ht] at HO
      have y0 : wr.cell? ⟨g1 + 1 + 1, 0, none⟩ = some (.slice ot 0 ct) := b9.cell 0
      have y1 : wr.cell? ⟨g1 + 1 + 1, 1, none⟩ = some (.slice none 0 0) := b9.cell 1
      have y2 : wr.cell? ⟨g1 + 1 + 1, 2, none⟩ = some (.slice oa 5 ca) := b9.cell 2
      have y3 : wr.cell? ⟨g1 + 1 + 1, 3, none⟩ = some (.slice ov i cv) := b9.cell 3
      have yl := b9.lt
      have x0 : wr.cell? ⟨g1 + 1, 0, none⟩ = some (.int .i64 ph.a) := b2.cell 0
      have x1 : wr.cell? ⟨g1 + 1, 1, none⟩ = some (.int .i64 ph.b) := b2.cell 1
      have x2 : wr.cell? ⟨g1 + 1, 2, none⟩ = some (.int .i64 ph.c) := b2.cell 2
      have x3 : wr.cell? ⟨g1 + 1, 3, none⟩ = some (.int .i64 ph.d) := b2.cell 3
      have xl := b2.lt
      have hcl := HO.out.cls HKR.out
      have CS := CS.out wr HKR.out ov cv (by rw [HPL.out]; exact hcl)
      rw [show FmL.v ⟨ot, ct, oa, ca, ov, cv⟩ (freeF 5 (pickC cls S)) = .agg #[.slice ot 0 ct, .slice none 0 0, .slice oa 5 ca, .slice ov (pickC cls S).length cv] from rfl, HPL.out] at CS
      have CS := Lib.hid CS
      clear b1 b2 b9 hcl ht
      go_wp2_with fail
      refine CS.out.mono ?_
      rintro e w9 ⟨⟨st, p1, p2, p3, q1, q2, q3, r1, r2, r3, u, rfl, hst⟩, hk9⟩
      have HK9 := Lib.hid (HKR.out.both hk9)
      clear hk9 CS y0 y1 y2 y3 yl x0 x1 x2 x3 xl
      have HST := Lib.hid hst
      clear hst
      unfold fa0
      go_wp2
      refine bodyPost_ret (by simp [results, Tryz.results34, go_sem]; rfl) rfl ?_
      exact ⟨st, rfl, HST.out, by first | exact ((HK9.out.alloc _).alloc _) | (repeat' (with_reducible first | assumption | exact HK.out | exact keR | refine keA ?_ | refine keS ?_ fun h => absurd h (by omega) | refine keN ?_ | refine keD ?_))⟩
    case pos =>
      have hlt : (i : Int) < (n : Int) := by omega
      have hd : decide ((i : Int) < (n : Int)) = true := decide_eq_true hlt
      have hiS : i < S.length := by rw [HM.out]; exact hin
      obtain ⟨bs, os', cs', es, ls, ps⟩ := (HS.out.keep HKR.out).at (k := i) (by rw [List.length_map]; exact hiS)
      rw [List.getElem_map] at ps
      injection es with q1 q2 q3
      subst q1
      clear q2 q3
      have hsl := HSL.out _ (List.getElem_mem hiS)
      obtain ⟨bc, oc', od, cd, ec, lc, pc, pI, pl1, pl2⟩ := HFC.out.at hsl
      subst ec
      have pc := (HKR.out.cell lc).trans pc
      have lc := Nat.lt_of_lt_of_le lc HKR.out.size
      have HPS : Hid (pickC cls (S.take (i + 1)) = pickC cls (S.take i) ++ [cls[S[i]]]) := Lib.hid (by
        unfold pickC
        rw [List.take_succ_eq_append_getElem hiS, List.map_append]
        simp [hsl])
      have hsi : Int.ofNat S[i] = (S[i] : Int) := rfl
      rw [hsi] at ps
      have hk1 : (S[i] : Int) < (cls.length : Int) := by omega
      have hk2 : ¬ (S[i] : Int) < 0 := by omega
      generalize cls[S[i]] = c at *
      generalize S[i] = si at *
      have HPI : Hid (IsInts w (.slice od c.length cd) c ∧ CapS (.slice od c.length cd)) := Lib.hid ⟨pI, ⟨od, c.length, cd, rfl, pl1, pl2⟩⟩
      have y3 : wr.cell? ⟨g1 + 1 + 1, 3, none⟩ = some (.slice ov i cv) := b9.cell 3
      have yl := b9.lt
      have x3 : wr.cell? ⟨g1, 3, none⟩ = some (.slice (some ⟨bc, oc', none⟩) cls.length cc) := b1.cell 3
      have xl := b1.lt
      clear b1 b2 b9 pI pl1 pl2 hsl hiS
      go_upto_region 6 with fail
      refine wp_region_by (fun w' => Keep NoS wr w') [8, 9, 10] [([0, 1, 2, 3, 4, 5, 6], 7), ([], 8), ([9], 10)] [] (by kernel_rfl) (by kernel_rfl) (Keep.refl _ _).drew ?_
      intro X W hne hF hcl
      have HCL := Lib.hid hcl
      have z3 := fun x => ((hF x).cell yl).trans y3
      have z4 := fun x => ((hF x).cell xl).trans x3
      have z5 := fun x => ((hF x).cell lc).trans pc
      have zl := fun x => Nat.lt_of_lt_of_le yl (hF x).size
      have zm := fun x => Nat.lt_of_lt_of_le xl (hF x).size
      have zn := fun x => Nat.lt_of_lt_of_le lc (hF x).size
      clear hF hcl
      simp only [wpPlan, pickOps, List.getElem?_toArray, List.getElem?_cons_zero, List.getElem?_cons_succ, clsOf, Bool.false_eq_true, if_false]
      (repeat (quiet_step (fail))); refine wpQuiet_nil ?_
      refine wpAt rfl rfl fun K hK => ?_
      go_simp
      have k8 : Keep NoS wr (wr.alloc (.cells #[.slice od c.length cd] TLi)).drew := ((Keep.refl _ _).alloc _).drew
      refine hK _ _ ⟨fun _ => HCL.out _ k8, ?_⟩
      clear hK K
      (repeat (quiet_step (fail))); refine wpQuiet_nil ?_
      refine wpAt rfl rfl fun K hK => ?_
      have hcl9 := HPLI.out
      have hHS := HKR.out.size
      obtain ⟨v9, w9, hr9, ho9, hg9, hb9⟩ := (HO.out.keep k8).app (b := wr.heap.size) (Blk.keep (blk_at (w := wr) #[.slice od c.length cd] TLi rfl) (Keep.refl _ _).drew) HPI.out.1 HPI.out.2 (by omega) (HKR.out.both k8).size
      have hty : ∀ q, (Value.slice ov i cv).ownBlock = some q → ∃ A, wr.heap[q]? = some (.cells A TLi (0, 0)) := fun q hq => by
        obtain ⟨vs, -, hv2, -⟩ := HO.out
        exact own_atT hv2 hq
      have hne : ∀ (k : Nat) (A : Array Value) (t : TypeId), wr.heap[k]? = some (.cells A t (0, 0)) → t ≠ TLi → w9.heap[k]? = some (.cells A t (0, 0)) := fun k A t hk ht => by
        have h1 := (k8.block k (lt_of_heap hk) fun _ h => h).trans hk
        exact (hg9.block k (lt_of_heap h1) fun e => by obtain ⟨B, hB⟩ := hty k e.symm; exact ty_ne hB hk (fun h => ht h.symm) rfl).trans h1
      have h99 := hne _ _ TFmS H9.out (by decide)
      obtain ⟨o9, c9, hv9, -, -⟩ := ho9.len
      have hl9 : (pickC cls (S.take i) ++ [c]).length = i + 1 := by rw [List.length_append, hcl9]; rfl
      rw [hl9] at hv9
      subst hv9
      have hk9 : Keep NoS w w9 := (HKR.out.both k8).grown hg9 fun q hq => (HO.out.block q hq).1
      have H9N : Hid ((w9.setCell ⟨g1 + 1 + 1, 3, none⟩ (.slice o9 (i + 1) c9)).heap[g1 + 1 + 1]? = some (.cells #[.slice ot 0 ct, .slice none 0 0, .slice oa 5 ca, .slice o9 (i + 1) c9] TFmS (0, 0))) := Lib.hid (by rw [Go.Joins.block_setCell h99 _]; rfl)
      have HKN := Lib.hid (keep_at hk9 (b := g1 + 1 + 1) (i := 3) (.slice o9 (i + 1) c9) (by have := HG1.out; omega))
      have HON : Hid (OwnCls w (w9.setCell ⟨g1 + 1 + 1, 3, none⟩ (.slice o9 (i + 1) c9)) (.slice o9 (i + 1) c9) (pickC cls (S.take i) ++ [c])) := Lib.hid (by
        obtain ⟨vs, a1, a2, a3⟩ := ho9
        refine ⟨vs, a1, World.ownsRow_set_other a2 fun q hq => ?_, a3⟩
        obtain ⟨A, hA⟩ := own_atT a2 hq
        exact ty_ne hA h99 (by decide))
      have HN1 := Lib.hid ((heap_setCell_other w9 ⟨g1 + 1 + 1, 3, none⟩ (.slice o9 (i + 1) c9) g1 (show g1 ≠ g1 + 1 + 1 by omega)).trans (hne _ _ TFmS BR1.out (by decide)))
      have HN2 := Lib.hid ((heap_setCell_other w9 ⟨g1 + 1 + 1, 3, none⟩ (.slice o9 (i + 1) c9) (g1 + 1) (show g1 + 1 ≠ g1 + 1 + 1 by omega)).trans (hne _ _ TOp BR2.out (by decide)))
      have B9 : Blk w9 (g1 + 1 + 1) #[.slice ot 0 ct, .slice none 0 0, .slice oa 5 ca, .slice ov i cv] := ⟨_, h99⟩
      have f9 := B9.free 3
      have g9 : w9.cell? ⟨g1 + 1 + 1, 3, none⟩ = some (.slice ov i cv) := B9.cell 3
      have gl := B9.lt
      clear ho9 hg9 hb9 hty hne h99 hl9 hk9 B9 hcl9
      refine wp_app_run _ _ 26 _ _ rfl rfl rfl hr9 ?_
      refine hK _ _ ⟨fun h => (by simp at h), ?_⟩
      clear hr9 hK HCL z3 z4 z5 zl zm zn y3 yl x3 xl pc lc ps ls k8
      (repeat (quiet_step (fail))); refine wpQuiet_nil ?_
      refine wpAt rfl rfl fun K hK => ?_
      go_simp
      refine hK _ _ ⟨fun h => (by simp at h), ?_⟩
      clear hK
      (repeat (quiet_step (fail))); refine wpQuiet_nil ?_
      refine NoPanic.normal ?_
      go_wp2
      go_roundw
      case rel => exact ⟨i + 1, _, by go_num, by omega, H9N.out, by rw [HPS.out]; exact HON.out, HKN.out, HN1.out, HN2.out⟩
      case measure => simp [intOf]; omega
end Go.Proofs.YtnndmdfjdodiiaaGreat

namespace Go.Proofs.YtnndmdfjdodiiaaGreat
open Go.ChangeShapes Go.WideShapes Go.RowKit Go.Maps
set_option linter.unusedVariables false
set_option linter.unusedSimpArgs false

theorem asgL_at {j v : Nat} (h1 : 1 ≤ v) (h5 : v ≤ 5) : (asgL j).getD (v - 1) false = j.testBit (5 - v) := by
  unfold asgL
  rw [List.getD_eq_getElem?_getD, List.getElem?_map, List.getElem?_range (by omega)]
  show j.testBit (4 - (v - 1)) = _
  rw [show 4 - (v - 1) = 5 - v by omega]
theorem satK_iff {c : List Int} (hv : ValidC 5 c) (j : Nat) : satK c j = true ↔ ∃ l ∈ c, j.testBit (5 - l.natAbs) = decide (0 < l) := by
  unfold satK
  rw [List.any_eq_true]
  constructor
  · rintro ⟨l, hl, hb⟩
    have := hv.2 l hl
    unfold Sv.litB at hb
    rw [asgL_at (by omega) this.2] at hb
    exact ⟨l, hl, by simpa using hb⟩
  · rintro ⟨l, hl, hb⟩
    have := hv.2 l hl
    refine ⟨l, hl, ?_⟩
    unfold Sv.litB
    rw [asgL_at (by omega) this.2]
    simpa using hb
/-- For each assignment there is a number. -/
theorem asg_of (a : Nat → Bool) : ∃ j, j < 32 ∧ ∀ v, 1 ≤ v → v ≤ 5 → j.testBit (5 - v) = a v := by
  refine ⟨maskN (fun i => a (5 - i)) 5, maskN_lt _ 5, fun v h1 h5 => ?_⟩
  rw [maskN_bit, decide_eq_true (by omega), Bool.true_and]
  show a (5 - (5 - v)) = a v
  rw [show 5 - (5 - v) = v by omega]
theorem open_sat {cls : List (List Int)} (hv : ∀ c ∈ cls, ValidC 5 c) (q : Nat → Bool) : openK cls q = true ↔ ∃ a, SatN (pickC cls (lstQ q cls.length)) a := by
  have hw : (wordsK cls).length = cls.length := List.length_map ..
  have hk : ∀ k, (hkl : k < cls.length) → ∀ j, j < 32 → ((wordsK cls).getD k 0).testBit j = satK cls[k] j := fun k hkl j hj => by
    unfold wordsK
    rw [List.getD_eq_getElem?_getD, List.getElem?_map, List.getElem?_eq_getElem hkl]
    show (maskN (satK cls[k]) 32).testBit j = _
    rw [maskN_bit, decide_eq_true hj, Bool.true_and]
  unfold openK openB
  rw [List.any_eq_true]
  constructor
  · rintro ⟨j, hj, ha⟩
    have hj := List.mem_range.1 hj
    unfold allK at ha
    rw [List.all_eq_true, hw] at ha
    refine ⟨fun v => j.testBit (5 - v), fun c hc => ?_⟩
    obtain ⟨k, hk1, rfl⟩ := List.mem_map.1 hc
    obtain ⟨hk2, hk3⟩ := List.mem_filter.1 hk1
    have hkl := List.mem_range.1 hk2
    have h1 := ha k hk2
    rw [hk3, hk k hkl j hj] at h1
    have h2 : satK cls[k] j = true := by simpa using h1
    rw [List.getD_eq_getElem?_getD, List.getElem?_eq_getElem hkl]
    exact (satK_iff (hv _ (List.getElem_mem hkl)) j).1 h2
  · rintro ⟨a, ha⟩
    obtain ⟨j, hj, hb⟩ := asg_of a
    refine ⟨j, List.mem_range.2 hj, ?_⟩
    unfold allK
    rw [List.all_eq_true, hw]
    intro k hk2
    have hkl := List.mem_range.1 hk2
    rw [hk k hkl j hj]
    rcases hq : q k with _ | _
    · simp
    · have hm : cls[k] ∈ pickC cls (lstQ q cls.length) := List.mem_map.2 ⟨k, List.mem_filter.2 ⟨hk2, hq⟩, by rw [List.getD_eq_getElem?_getD, List.getElem?_eq_getElem hkl]; rfl⟩
      obtain ⟨l, hl, he⟩ := ha _ hm
      have hv1 := (hv _ (List.getElem_mem hkl)).2 l hl
      have : satK cls[k] j = true := (satK_iff (hv _ (List.getElem_mem hkl)) j).2 ⟨l, hl, by rw [hb l.natAbs (by omega) hv1.2]; exact he⟩
      rw [this]; simp
theorem lstQ_all (n : Nat) : lstQ (fun _ => true) n = List.range n := by unfold lstQ; simp
theorem lst_del (q : Nat → Bool) (n i : Nat) : ((lstQ q n).map Int.ofNat).filter (fun x => !(x == (i : Int))) = (lstQ (fun j => q j && j != i) n).map Int.ofNat := by
  unfold lstQ
  rw [List.filter_map, List.filter_filter]
  congr 1
  apply List.filter_congr
  intro j hj
  simp only [Function.comp]
  by_cases e : j = i
  · subst e; simp
  · have h1 : ((Int.ofNat j) == (i : Int)) = false := by
      rw [beq_eq_false_iff_ne]
      intro h
      have h : (j : Int) = (i : Int) := h
      omega
    have h2 : (j != i) = true := by rw [bne_iff_ne]; exact e
    rw [h1, h2]
    simp
end Go.Proofs.YtnndmdfjdodiiaaGreat
