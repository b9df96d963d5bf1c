/- Package form: Holds. -/
import Derived.Test.YtnndmdfjdodiiaaGreatTtFd
namespace Go.Proofs.YtnndmdfjdodiiaaGreat
open Go.ChangeShapes Go.WideShapes Go.RowKit Go.Maps
set_option linter.unusedVariables false
set_option linter.unusedSimpArgs false

set_option maxRecDepth 100000 in
set_option maxHeartbeats 16000000 in
theorem fholds_any (w : World) (L : FmL) (M : MdL) (f : Sv.Frm) (holds : List Bool) (th : List Int) (h : IsForm w L f) (hok : FmOK f) (hm : IsMd w M f holds th) :
    Calls Tryz.prog 56 #[L.v f, M.v f.atoms.length f.terms.length] w fun e w' => e = .returned (.tuple #[.bool (Sv.holdsF f holds th), .agg #[.int .i64 0, .int .i64 0]]) ∧ Keep NoS w w' := by
  have CF := Lib.hid (fun w' (k : Keep NoS w w') => fits_any w' L M f holds th (h.keep k) hok (hm.keep k))
  have CA := Lib.hid (fun w' (k : Keep NoS w w') => fatoms_any w' L M f holds th (h.keep k) hok (hm.keep k))
  have CU := Lib.hid (fun w' (k : Keep NoS w w') => ffuncs_any w' L M f holds th (h.keep k) hok (hm.keep k))
  have CC := Lib.hid (fun w' (k : Keep NoS w w') => all_any w' _ _ f.cls holds (h.c.keep k) (hm.h.keep k) (fun c hc x hx => by have := (hok.c.c c hc).1.2 x hx; rw [hm.hl]; exact this) (by rw [hm.hl]; have := hok.n; omega))
  unfold Sv.holdsF
  unfold FmL.v MdL.v at CF CA CU ⊢
  obtain ⟨ot, ct, oa, ca, oc, cc⟩ := L
  obtain ⟨oh, ch, g, cg, on, cn⟩ := M
  simp only at CF CA CU CC ⊢
  generalize (f.cls.all fun c => c.any (Sv.litB holds)) = r1 at *
  generalize Sv.atomsB th f.atoms holds = r2 at *
  generalize Sv.funsL th f.terms f.terms 0 = r3 at *
  generalize f.terms.length = n at *
  generalize f.atoms.length = m at *
  generalize f.cls.length = q at *
  clear h hok hm
  obtain ⟨w2, hw2⟩ : ∃ w2 : World, w2 = ((w.alloc (.cells #[.slice ot n ct, .slice none 0 0, .slice oa m ca, .slice oc q cc] TFm)).alloc (.cells #[.slice oh m ch, .slice (some ⟨g, 0, none⟩) n cg, .slice on 0 cn] TMd)).alloc (.cells #[.int .i64 0, .int .i64 0] TFa) := ⟨_, rfl⟩
  obtain ⟨b2, hb2⟩ : ∃ b2, b2 = w.heap.size + 1 := ⟨_, rfl⟩
  obtain ⟨b3, hb3⟩ : ∃ b3, b3 = b2 + 1 := ⟨_, rfl⟩
  have K2 : Hid (Keep NoS w w2) := Lib.hid (by rw [hw2]; exact (((Keep.refl _ _).alloc _).alloc _).alloc _)
  have HB1 : Hid (w2.heap[w.heap.size]? = some (.cells #[.slice ot n ct, .slice none 0 0, .slice oa m ca, .slice oc q cc] TFm (0, 0))) := Lib.hid (by rw [hw2, heap_alloc_old _ _ _ (by simp; omega), heap_alloc_old _ _ _ (by simp)]; exact heap_alloc_at _ _ _ rfl)
  have HB2 : Hid (w2.heap[b2]? = some (.cells #[.slice oh m ch, .slice (some ⟨g, 0, none⟩) n cg, .slice on 0 cn] TMd (0, 0))) := Lib.hid (by rw [hw2, hb2, heap_alloc_old _ _ _ (by simp)]; exact heap_alloc_at _ _ _ (by simp))
  have HB3 : Hid (w2.heap[b3]? = some (.cells #[.int .i64 0, .int .i64 0] TFa (0, 0))) := Lib.hid (by rw [hw2, hb3, hb2]; exact heap_alloc_at _ _ _ (by simp))
  go_enter Tryz.func56, Tryz.ntmps56
  go_upto_region 1 with fail
  rw [← hw2, ← hb2, ← hb3]
  have HLW : Hid (w.heap.size ≤ b3) := Lib.hid (by omega)
  clear hw2 hb2 hb3
  generalize hg1 : w.heap.size = b1 at *
  have HG1 := Lib.hid hg1
  clear hg1
  have KZ : Hid (Keep NoS w2 w2) := Lib.hid (Keep.refl _ _)
  have x0 := (KZ.out.cell (i := 0) (lt_of_heap HB1.out)).trans (cell_of_heap (o := 0) HB1.out rfl)
  have x1 := (KZ.out.cell (i := 1) (lt_of_heap HB1.out)).trans (cell_of_heap (o := 1) HB1.out rfl)
  have x2 := (KZ.out.cell (i := 2) (lt_of_heap HB1.out)).trans (cell_of_heap (o := 2) HB1.out rfl)
  have x3 := (KZ.out.cell (i := 3) (lt_of_heap HB1.out)).trans (cell_of_heap (o := 3) HB1.out rfl)
  have y0 := (KZ.out.cell (i := 0) (lt_of_heap HB2.out)).trans (cell_of_heap (o := 0) HB2.out rfl)
  have y1 := (KZ.out.cell (i := 1) (lt_of_heap HB2.out)).trans (cell_of_heap (o := 1) HB2.out rfl)
  have y2 := (KZ.out.cell (i := 2) (lt_of_heap HB2.out)).trans (cell_of_heap (o := 2) HB2.out rfl)
  have xl := Nat.lt_of_lt_of_le (lt_of_heap HB1.out) KZ.out.size
  have yl := Nat.lt_of_lt_of_le (lt_of_heap HB2.out) KZ.out.size
  have CF := Lib.hid (CF.out w2 K2.out)
  go_wp2_with fail
  refine CF.out.mono ?_
  rintro e w3 ⟨rfl, hk3⟩
  have K4 : Hid (Keep NoS w2 (w3.alloc (.cells #[.int .i64 0, .int .i64 0] TFa))) := Lib.hid (Keep.both hk3 ((Keep.refl _ _).alloc _))
  clear hk3 CF x0 x1 x2 x3 y0 y1 y2 xl yl KZ
  have x0 := (K4.out.cell (i := 0) (lt_of_heap HB1.out)).trans (cell_of_heap (o := 0) HB1.out rfl)
  have x1 := (K4.out.cell (i := 1) (lt_of_heap HB1.out)).trans (cell_of_heap (o := 1) HB1.out rfl)
  have x2 := (K4.out.cell (i := 2) (lt_of_heap HB1.out)).trans (cell_of_heap (o := 2) HB1.out rfl)
  have x3 := (K4.out.cell (i := 3) (lt_of_heap HB1.out)).trans (cell_of_heap (o := 3) HB1.out rfl)
  have y0 := (K4.out.cell (i := 0) (lt_of_heap HB2.out)).trans (cell_of_heap (o := 0) HB2.out rfl)
  have y1 := (K4.out.cell (i := 1) (lt_of_heap HB2.out)).trans (cell_of_heap (o := 1) HB2.out rfl)
  have y2 := (K4.out.cell (i := 2) (lt_of_heap HB2.out)).trans (cell_of_heap (o := 2) HB2.out rfl)
  have xl := Nat.lt_of_lt_of_le (lt_of_heap HB1.out) K4.out.size
  have yl := Nat.lt_of_lt_of_le (lt_of_heap HB2.out) K4.out.size
  go_wp2
  go_loopw [19] (fun s wr => s = .int .i64 0 ∧ Keep NoS w2 wr) (fun _ _ => 0)
  case atStart => exact ⟨rfl, K4.out⟩
  case round =>
  obtain ⟨rfl, hk⟩ := hrel
  have K5 := Lib.hid hk
  clear hk x0 x1 x2 x3 y0 y1 y2 xl yl
  have x0 := (K5.out.cell (i := 0) (lt_of_heap HB1.out)).trans (cell_of_heap (o := 0) HB1.out rfl)
  have x1 := (K5.out.cell (i := 1) (lt_of_heap HB1.out)).trans (cell_of_heap (o := 1) HB1.out rfl)
  have x2 := (K5.out.cell (i := 2) (lt_of_heap HB1.out)).trans (cell_of_heap (o := 2) HB1.out rfl)
  have x3 := (K5.out.cell (i := 3) (lt_of_heap HB1.out)).trans (cell_of_heap (o := 3) HB1.out rfl)
  have y0 := (K5.out.cell (i := 0) (lt_of_heap HB2.out)).trans (cell_of_heap (o := 0) HB2.out rfl)
  have y1 := (K5.out.cell (i := 1) (lt_of_heap HB2.out)).trans (cell_of_heap (o := 1) HB2.out rfl)
  have y2 := (K5.out.cell (i := 2) (lt_of_heap HB2.out)).trans (cell_of_heap (o := 2) HB2.out rfl)
  have xl := Nat.lt_of_lt_of_le (lt_of_heap HB1.out) K5.out.size
  have yl := Nat.lt_of_lt_of_le (lt_of_heap HB2.out) K5.out.size
  have CC := Lib.hid (CC.out wr (K2.out.both K5.out))
  go_wp2_with fail
  refine CC.out.mono ?_
  rintro e w6 ⟨rfl, hk6⟩
  have K6 := Lib.hid (K5.out.both hk6)
  clear hk6 CC x0 x1 x2 x3 y0 y1 y2 xl yl
  have x0 := (K6.out.cell (i := 0) (lt_of_heap HB1.out)).trans (cell_of_heap (o := 0) HB1.out rfl)
  have x1 := (K6.out.cell (i := 1) (lt_of_heap HB1.out)).trans (cell_of_heap (o := 1) HB1.out rfl)
  have x2 := (K6.out.cell (i := 2) (lt_of_heap HB1.out)).trans (cell_of_heap (o := 2) HB1.out rfl)
  have x3 := (K6.out.cell (i := 3) (lt_of_heap HB1.out)).trans (cell_of_heap (o := 3) HB1.out rfl)
  have y0 := (K6.out.cell (i := 0) (lt_of_heap HB2.out)).trans (cell_of_heap (o := 0) HB2.out rfl)
  have y1 := (K6.out.cell (i := 1) (lt_of_heap HB2.out)).trans (cell_of_heap (o := 1) HB2.out rfl)
  have y2 := (K6.out.cell (i := 2) (lt_of_heap HB2.out)).trans (cell_of_heap (o := 2) HB2.out rfl)
  have xl := Nat.lt_of_lt_of_le (lt_of_heap HB1.out) K6.out.size
  have yl := Nat.lt_of_lt_of_le (lt_of_heap HB2.out) K6.out.size
  cases r1
  case false =>
    have HB3e := Lib.hid ((K6.out.block b3 (lt_of_heap HB3.out) fun _ h => h).trans HB3.out)
    have t0 := cell_of_heap (o := 0) HB3e.out rfl
    have t1 := cell_of_heap (o := 1) HB3e.out rfl
    have f0 := Blk.free (A := _) ⟨_, HB3e.out⟩ 0
    have f1 := Blk.free (A := _) ⟨_, HB3e.out⟩ 1
    have tl := lt_of_heap HB3e.out
    go_wp2
    refine bodyPost_ret (by simp [results, Tryz.results56, go_sem, t0, t1, tl]; rfl) rfl ?_
    exact ⟨rfl, keep_at (keep_at (K2.out.both K6.out) _ (by rw [HG1.out]; exact HLW.out)) _ (by rw [HG1.out]; exact HLW.out)⟩
  case true =>
  have CA := Lib.hid (CA.out w6 (K2.out.both K6.out))
  go_wp2_with fail
  refine CA.out.mono ?_
  rintro e w7 ⟨rfl, hk7⟩
  have K7 := Lib.hid (K6.out.both hk7)
  clear hk7 CA x0 x1 x2 x3 y0 y1 y2 xl yl
  have x0 := (K7.out.cell (i := 0) (lt_of_heap HB1.out)).trans (cell_of_heap (o := 0) HB1.out rfl)
  have x1 := (K7.out.cell (i := 1) (lt_of_heap HB1.out)).trans (cell_of_heap (o := 1) HB1.out rfl)
  have x2 := (K7.out.cell (i := 2) (lt_of_heap HB1.out)).trans (cell_of_heap (o := 2) HB1.out rfl)
  have x3 := (K7.out.cell (i := 3) (lt_of_heap HB1.out)).trans (cell_of_heap (o := 3) HB1.out rfl)
  have y0 := (K7.out.cell (i := 0) (lt_of_heap HB2.out)).trans (cell_of_heap (o := 0) HB2.out rfl)
  have y1 := (K7.out.cell (i := 1) (lt_of_heap HB2.out)).trans (cell_of_heap (o := 1) HB2.out rfl)
  have y2 := (K7.out.cell (i := 2) (lt_of_heap HB2.out)).trans (cell_of_heap (o := 2) HB2.out rfl)
  have xl := Nat.lt_of_lt_of_le (lt_of_heap HB1.out) K7.out.size
  have yl := Nat.lt_of_lt_of_le (lt_of_heap HB2.out) K7.out.size
  cases r2
  case false =>
    have HB3e := Lib.hid ((K7.out.block b3 (lt_of_heap HB3.out) fun _ h => h).trans HB3.out)
    have t0 := cell_of_heap (o := 0) HB3e.out rfl
    have t1 := cell_of_heap (o := 1) HB3e.out rfl
    have f0 := Blk.free (A := _) ⟨_, HB3e.out⟩ 0
    have f1 := Blk.free (A := _) ⟨_, HB3e.out⟩ 1
    have tl := lt_of_heap HB3e.out
    go_wp2
    refine bodyPost_ret (by simp [results, Tryz.results56, go_sem, t0, t1, tl]; rfl) rfl ?_
    exact ⟨rfl, keep_at (keep_at (K2.out.both K7.out) _ (by rw [HG1.out]; exact HLW.out)) _ (by rw [HG1.out]; exact HLW.out)⟩
  case true =>
  have CU := Lib.hid (CU.out w7 (K2.out.both K7.out))
  go_wp2_with fail
  refine CU.out.mono ?_
  rintro e w8 ⟨rfl, hk8⟩
  have K8 := Lib.hid (K7.out.both hk8)
  clear hk8 CU x0 x1 x2 x3 y0 y1 y2 xl yl
  have HB3e := Lib.hid ((K8.out.block b3 (lt_of_heap HB3.out) fun _ h => h).trans HB3.out)
  have t0 := cell_of_heap (o := 0) HB3e.out rfl
  have t1 := cell_of_heap (o := 1) HB3e.out rfl
  have f0 := Blk.free (A := _) ⟨_, HB3e.out⟩ 0
  have f1 := Blk.free (A := _) ⟨_, HB3e.out⟩ 1
  have tl := lt_of_heap HB3e.out
  go_wp2
  refine bodyPost_ret (by simp [results, Tryz.results56, go_sem, t0, t1, tl]; rfl) rfl ?_
  exact ⟨rfl, keep_at (keep_at (K2.out.both K8.out) _ (by rw [HG1.out]; exact HLW.out)) _ (by rw [HG1.out]; exact HLW.out)⟩
end Go.Proofs.YtnndmdfjdodiiaaGreat
