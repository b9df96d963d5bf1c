/- Package judge: Take. Package cdcl: options; the search as it lies. Package cdcl: propagate at level 0. Package cdcl: decide where all variables have values. -/
import Derived.Test.YtnndmdfjdodiiaaGreatTtJh
namespace Go.Proofs.YtnndmdfjdodiiaaGreat
open Go.ChangeShapes Go.WideShapes Go.RowKit Go.Maps
set_option linter.unusedVariables false
set_option linter.unusedSimpArgs false

set_option maxRecDepth 100000 in
set_option maxHeartbeats 16000000 in
theorem jtake_any (w : World) (L : FmL) (f : Sv.Frm) (v : Value) (l : List Sv.Stp) (hf : IsForm w L f) (hok : FmOK f) (hv : IsSteps w v l) (hs : ∀ x ∈ l, StOK f.atoms.length x) (hcl : f.cls.length + l.length ≤ 100000) (hln : l.length ≤ 3000) :
    Calls Tryz.prog 10 #[L.v f, v] w fun e w' => e = .returned (.tuple #[.bool (Sv.takeJ f l), .agg #[.int .i64 0, .int .i64 0]]) ∧ Keep NoS w w' := by
  have CW := Lib.hid (fun w' (k : Keep NoS w w') => jwhy_any w' L f v l (hf.keep k) hok (hv.keep k) hs hcl hln)
  obtain ⟨os, cs, rfl, _⟩ := hv.len
  unfold Sv.takeJ
  generalize Sv.whyJ f l 0 f.cls = z at *
  obtain ⟨w2, hw2⟩ : ∃ w2 : World, w2 = (w.alloc (.cells #[.slice L.ot f.terms.length L.ct, .slice none 0 0, .slice L.oa f.atoms.length L.ca, .slice L.oc f.cls.length L.cc] TFm)).alloc (.cells #[.int .i64 0, .int .i64 0] TFa) := ⟨_, rfl⟩
  have K2 : Hid (Keep NoS w w2) := Lib.hid (by rw [hw2]; exact ((Keep.refl _ _).alloc _).alloc _)
  have B1 : Hid (Blk w2 w.heap.size #[.slice L.ot f.terms.length L.ct, .slice none 0 0, .slice L.oa f.atoms.length L.ca, .slice L.oc f.cls.length L.cc]) := Lib.hid (by rw [hw2]; exact Blk.old (blk_at _ _ rfl) _)
  have B2 : Hid (Blk w2 (w.heap.size + 1) #[.int .i64 0, .int .i64 0]) := Lib.hid (by rw [hw2]; exact blk_at _ _ (by simp))
  unfold FmL.v at CW ⊢
  clear hf hok hv hs hcl hln
  go_enter Tryz.func10, Tryz.ntmps10
  go_upto_region 1 with fail
  rw [← hw2]
  clear hw2
  generalize hg1 : w.heap.size = g1 at *
  have HG1 := Lib.hid hg1
  clear hg1
  have x0 := B1.out.cell 0
  have x1 := B1.out.cell 1
  have x2 := B1.out.cell 2
  have x3 := B1.out.cell 3
  have xl := B1.out.lt
  simp at x0 x1 x2 x3
  have CW := Lib.hid (CW.out w2 K2.out)
  go_wp2_with fail
  refine CW.out.mono ?_
  rintro e w3 ⟨rfl, hk3⟩
  have K4 : Keep NoS w2 (w3.alloc (.cells #[.int .i64 0, .int .i64 0] TFa)) := Keep.both hk3 ((Keep.refl _ _).alloc _)
  have B3 := B2.out.keep hk3
  have c0 := B3.cell 0
  have c1 := B3.cell 1
  have f0 := B3.free 0
  have f1 := B3.free 1
  have rl := B3.lt
  simp at c0 c1
  have K5 := Lib.hid (K2.out.both hk3)
  clear K4 hk3 CW B3 x0 x1 x2 x3 xl
  by_cases hz : z = -1
  case pos =>
    subst hz
    go_wp2
    refine bodyPost_ret (by simp [results, Tryz.results10, go_sem, c0, c1, rl]; rfl) rfl ?_
    exact ⟨rfl, ((K5.out.setCell _ fun hh => absurd hh (by have := HG1.out; omega)).setCell _ fun hh => absurd hh (by have := HG1.out; omega)).alloc _⟩
  case neg =>
    have hd : decide (z = -1) = false := decide_eq_false hz
    go_wp2
    refine bodyPost_ret (by simp [results, Tryz.results10, go_sem, c0, c1, rl]; rfl) rfl ?_
    exact ⟨by rw [show (z == -1) = decide (z = -1) by rw [Bool.eq_iff_iff]; simp], ((K5.out.setCell _ fun hh => absurd hh (by have := HG1.out; omega)).setCell _ fun hh => absurd hh (by have := HG1.out; omega)).alloc _⟩
end Go.Proofs.YtnndmdfjdodiiaaGreat

namespace Go.Proofs.YtnndmdfjdodiiaaGreat
open Go.ChangeShapes Go.WideShapes Go.RowKit Go.Maps
set_option linter.unusedVariables false
set_option linter.unusedSimpArgs false

abbrev TOp : TypeId := 53
theorem copt1_any (w : World) (x m : Int) (h0 : 0 ≤ x) (h1 : x ≤ m) : Calls Tryz.prog 50 #[.int .i64 x, .int .i64 m] w fun e w' => e = .returned (.bool true) ∧ Keep NoS w w' := by
  have d0 : decide (0 ≤ x) = true := decide_eq_true h0
  have d1 : decide (x ≤ m) = true := decide_eq_true h1
  go_enter Tryz.func50, Tryz.ntmps50
  go_wp2
  go_ret
  exact ⟨rfl, by (repeat' (with_reducible first | assumption | exact HK.out | exact keR | refine keA ?_ | refine keS ?_ fun h => absurd h (by omega) | refine keN ?_ | refine keD ?_))⟩
set_option maxRecDepth 100000 in
set_option maxHeartbeats 8000000 in
theorem copts_any (w : World) (a b c d fuel : Int) (ha : 0 ≤ a ∧ a ≤ 1000) (hb : 0 ≤ b ∧ b ≤ 1000000) (hc : 0 ≤ c ∧ c ≤ 1000000) (hd : 0 ≤ d ∧ d ≤ 2) (hf : 0 ≤ fuel ∧ fuel ≤ 2000) :
    Calls Tryz.prog 23 #[.agg #[.int .i64 a, .int .i64 b, .int .i64 c, .int .i64 d], .int .i64 fuel] w fun e w' => e = .returned (.agg #[.int .i64 0, .int .i64 0]) ∧ Keep NoS w w' := by
  have Ca := fun w' => Lib.hid (copt1_any w' a 1000 ha.1 ha.2)
  have Cb := fun w' => Lib.hid (copt1_any w' b 1000000 hb.1 hb.2)
  have Cc := fun w' => Lib.hid (copt1_any w' c 1000000 hc.1 hc.2)
  have Cd := fun w' => Lib.hid (copt1_any w' d 2 hd.1 hd.2)
  have Cf := fun w' => Lib.hid (copt1_any w' fuel 2000 hf.1 hf.2)
  obtain ⟨w2, hw2⟩ : ∃ w2 : World, w2 = (w.alloc (.cells #[.int .i64 a, .int .i64 b, .int .i64 c, .int .i64 d] TOp)).alloc (.cells #[.int .i64 0, .int .i64 0] TFa) := ⟨_, rfl⟩
  have K2 : Hid (Keep NoS w w2) := Lib.hid (by rw [hw2]; exact ((Keep.refl _ _).alloc _).alloc _)
  have B1 : Hid (Blk w2 w.heap.size #[.int .i64 a, .int .i64 b, .int .i64 c, .int .i64 d]) := Lib.hid (by rw [hw2]; exact Blk.old (blk_at _ _ rfl) _)
  have B2 : Hid (Blk w2 (w.heap.size + 1) #[.int .i64 0, .int .i64 0]) := Lib.hid (by rw [hw2]; exact blk_at _ _ (by simp))
  clear ha hb hc hd hf
  go_enter Tryz.func23, Tryz.ntmps23
  go_upto_region 1 with fail
  rw [← hw2]
  clear hw2
  generalize hg1 : w.heap.size = g1 at *
  have HG1 := Lib.hid hg1
  clear hg1
  have x0 : w2.cell? ⟨g1, 0, none⟩ = some (.int .i64 a) := B1.out.cell 0
  have xl := B1.out.lt
  go_wp2_with fail
  refine (Ca _).out.mono ?_
  rintro e w3 ⟨rfl, hk3⟩
  have B13 := Lib.hid (B1.out.keep hk3)
  have x1 : w3.cell? ⟨g1, 1, none⟩ = some (.int .i64 b) := B13.out.cell 1
  have xl := B13.out.lt
  go_wp2_with fail
  refine (Cb _).out.mono ?_
  rintro e w4 ⟨rfl, hk4⟩
  have B14 := Lib.hid (B13.out.keep hk4)
  have x2 : w4.cell? ⟨g1, 2, none⟩ = some (.int .i64 c) := B14.out.cell 2
  have xl := B14.out.lt
  go_wp2_with fail
  refine (Cc _).out.mono ?_
  rintro e w5 ⟨rfl, hk5⟩
  have B15 := Lib.hid (B14.out.keep hk5)
  have x3 : w5.cell? ⟨g1, 3, none⟩ = some (.int .i64 d) := B15.out.cell 3
  have xl := B15.out.lt
  go_wp2_with fail
  refine (Cd _).out.mono ?_
  rintro e w6 ⟨rfl, hk6⟩
  go_wp2_with fail
  refine (Cf _).out.mono ?_
  rintro e w7 ⟨rfl, hk7⟩
  have K7 := Lib.hid ((((hk3.both hk4).both hk5).both hk6).both hk7)
  have B8 := B2.out.keep K7.out
  have c0 : w7.cell? ⟨g1 + 1, 0, none⟩ = some (.int .i64 0) := B8.cell 0
  have c1 : w7.cell? ⟨g1 + 1, 1, none⟩ = some (.int .i64 0) := B8.cell 1
  have f0 := B8.free 0
  have f1 := B8.free 1
  have rl := B8.lt
  clear hk3 hk4 hk5 hk6 hk7 x0 x1 x2 x3 xl B8
  go_wp2
  refine bodyPost_ret (by simp [results, Tryz.results23, go_sem, c0, c1, rl]; rfl) rfl ?_
  exact ⟨rfl, ((K2.out.both K7.out).setCell _ fun hh => absurd hh (by have := HG1.out; omega)).setCell _ fun hh => absurd hh (by have := HG1.out; omega)⟩
end Go.Proofs.YtnndmdfjdodiiaaGreat

namespace Go.Proofs.YtnndmdfjdodiiaaGreat
open Go.ChangeShapes Go.WideShapes Go.RowKit Go.Maps
set_option linter.unusedVariables false
set_option linter.unusedSimpArgs false

abbrev TSe : TypeId := 136
/-- The search's cells at level 0. -/
def csC (vars : Nat) (ph : Bool) (b : Nat) (vlev : Value) : Array Value := #[.int .i64 (vars : Int), .slice none 0 0, .bool ph, .pointer (some ⟨b, 0, none⟩), vlev, .int .i64 0, .slice none 0 0]
theorem own_same {w w' : World} {base : Nat} {e : TypeId} {size : Nat} {v : Value} {n : Nat} {xs : List Value} (h : w.ownsRow base e size v n xs) (hb : ∀ k, v.ownBlock = some k → w'.heap[k]? = w.heap[k]?) : w'.ownsRow base e size v n xs := by
  obtain ⟨hl, h | ⟨g, cap, cur, hv, hb', hg, hl', hm, hs, ht⟩⟩ := h
  · exact ⟨hl, .inl h⟩
  · exact ⟨hl, .inr ⟨g, cap, cur, hv, hb', by rw [hb g (by rw [hv]; rfl)]; exact hg, hl', hm, hs, ht⟩⟩
theorem LTr.fr {w0 w w' : World} {b gm : Nat} {vc vl vw : Value} {t : Cd.Tr} (h : LTr w0 w b gm vc vl vw t) {c : Nat} (k : Fr (fun n => n = c) w w') (hc : ¬ TrS b gm vl vw c) (hk : Keep NoS w0 w') : LTr w0 w' b gm vc vl vw t := by
  have hx : ∀ n, n < w.heap.size → n ≠ c → w'.heap[n]? = w.heap[n]? := fun n hn hne => k.block n hn hne
  unfold TrS at hc
  exact ⟨hk, h.hb, h.hm, (hx b (lt_of_heap h.tb) (by rintro rfl; exact hc (.inl rfl))).trans h.tb, own_same h.l fun q hq => hx q (World.ownsRow.lt h.l q hq).2 (by rintro rfl; exact hc (.inr (.inr (.inl hq)))), own_same h.y fun q hq => hx q (World.ownsRow.lt h.y q hq).2 (by rintro rfl; exact hc (.inr (.inr (.inr hq)))), h.m.same (hx gm h.m.lt (by rintro rfl; exact hc (.inr (.inl rfl)))), h.ap⟩
end Go.Proofs.YtnndmdfjdodiiaaGreat

namespace Go.Proofs.YtnndmdfjdodiiaaGreat
open Go.ChangeShapes Go.WideShapes Go.RowKit Go.Maps
set_option linter.unusedVariables false
set_option linter.unusedSimpArgs false
end Go.Proofs.YtnndmdfjdodiiaaGreat
