/- Package form: atoms. -/
import Derived.Test.YtnndmdfjdodiiaaGreatTtFb
namespace Go.Proofs.YtnndmdfjdodiiaaGreat
open Go.ChangeShapes Go.WideShapes Go.RowKit Go.Maps
set_option linter.unusedVariables false
set_option linter.unusedSimpArgs false

theorem atomsB_at {th : List Int} {l : List Sv.At} {hs : List Bool} {k : Nat} (hk : k < l.length) (hh : k < hs.length) : Sv.atomsB th (l.drop k) (hs.drop k) = (Sv.atomB th l[k] hs[k] && Sv.atomsB th (l.drop (k + 1)) (hs.drop (k + 1))) := by
  rw [List.drop_eq_getElem_cons hk, List.drop_eq_getElem_cons hh]; rfl
theorem atomB_two {th : List Int} {a : Sv.At} {is : Bool} (h : a.kind = 2) : Sv.atomB th a is = (decide (Cl.clAt th a.a = Cl.clAt th a.b) == is) := by unfold Sv.atomB; rw [if_pos h]
theorem atomB_one {th : List Int} {a : Sv.At} {is : Bool} (h : a.kind = 1) : Sv.atomB th a is = true := by unfold Sv.atomB; rw [if_neg (by rw [h]; decide)]
set_option maxRecDepth 100000 in
set_option maxHeartbeats 16000000 in
theorem fatoms_any (w : World) (L : FmL) (M : MdL) (f : Sv.Frm) (holds : List Bool) (th : List Int) (h : IsForm w L f) (hok : FmOK f) (hm : IsMd w M f holds th) :
    Calls Tryz.prog 91 #[L.v f, M.v f.atoms.length f.terms.length] w fun e w' => e = .returned (.bool (Sv.atomsB th f.atoms holds)) ∧ Keep NoS w w' := by
  have HA := Lib.hid h.a
  have HH := Lib.hid hm.h
  have HHL := Lib.hid hm.hl
  have HAO := Lib.hid hok.a
  have HG := Lib.hid hm.t
  have HTL := Lib.hid hm.tk.len
  have hm20 := hok.n
  have hn := hm.tn
  unfold FmL.v MdL.v
  obtain ⟨ot, ct, oa, ca, oc, cc⟩ := L
  obtain ⟨oh, ch, g, cg, on, cn⟩ := M
  simp only at HA HH HG ⊢
  obtain ⟨m, hm'⟩ : ∃ m, f.atoms.length = m := ⟨_, rfl⟩
  have HM := Lib.hid hm'
  rw [hm'] at HA HH HHL hm20 ⊢
  generalize f.terms.length = n at *
  generalize f.cls.length = q at *
  clear h hok hm hm'
  obtain ⟨w2, hw2⟩ : ∃ w2 : World, w2 = (w.alloc (.cells #[.slice ot n ct, .slice none 0 0, .slice oa m ca, .slice oc q cc] TFm)).alloc (.cells #[.slice oh m ch, .slice (some ⟨g, 0, none⟩) n cg, .slice on 0 cn] TMd) := ⟨_, rfl⟩
  obtain ⟨b2, hb2⟩ : ∃ b2, b2 = w.heap.size + 1 := ⟨_, rfl⟩
  have K2 : Hid (Keep NoS w w2) := Lib.hid (by rw [hw2]; exact ((Keep.refl _ _).alloc _).alloc _)
  have HB1 : Hid (w2.heap[w.heap.size]? = some (.cells #[.slice ot n ct, .slice none 0 0, .slice oa m ca, .slice oc q cc] TFm (0, 0))) := Lib.hid (by rw [hw2, heap_alloc_old _ _ _ (by simp)]; exact heap_alloc_at _ _ _ rfl)
  have HB2 : Hid (w2.heap[b2]? = some (.cells #[.slice oh m ch, .slice (some ⟨g, 0, none⟩) n cg, .slice on 0 cn] TMd (0, 0))) := Lib.hid (by rw [hw2, hb2]; exact heap_alloc_at _ _ _ (by simp))
  go_enter Tryz.func91, Tryz.ntmps91
  go_upto_region 1 with fail
  rw [← hw2, ← hb2]
  clear hw2 hb2
  generalize hg1 : w.heap.size = b1 at *
  clear hg1
  have x2 := cell_of_heap (o := 2) HB1.out rfl
  have xl := lt_of_heap HB1.out
  go_wp2
  clear x2 xl
  go_loopw [11] (fun s wr => ∃ k : Nat, k ≤ m ∧ s = .int .i64 k ∧ Keep NoS w2 wr ∧ Sv.atomsB th f.atoms holds = Sv.atomsB th (f.atoms.drop k) (holds.drop k)) (fun s _ => (m - intOf s).toNat)
  case atStart => exact ⟨0, by omega, rfl, by (repeat' (with_reducible first | assumption | exact HK.out | exact keR | refine keA ?_ | refine keS ?_ fun h => absurd h (by omega) | refine keN ?_ | refine keD ?_)), rfl⟩
  case round =>
  obtain ⟨k, hk, rfl, hkr, hst⟩ := hrel
  have KR := Lib.hid hkr
  have HST := Lib.hid hst
  clear hkr hst
  by_cases hkl : k < m
  case neg =>
    have hlt : ¬ (k : Int) < (m : Int) := by omega
    have HE : Hid (Sv.atomsB th f.atoms holds = true) := Lib.hid (HST.out.trans (by rw [List.drop_eq_nil_of_le (by rw [HM.out]; omega)]; rfl))
    go_wp2
    go_ret
    exact ⟨by rw [HE.out]; rfl, K2.out.both KR.out⟩
  case pos =>
  have hlt : (k : Int) < (m : Int) := by omega
  have hkm : k < f.atoms.length := by rw [HM.out]; exact hkl
  have hkh : k < holds.length := by rw [HHL.out]; exact hkl
  obtain ⟨ba, fa, rfl, hba, p0, p1, p2, p3, p4, p5⟩ := (HA.out.keep (K2.out.both KR.out)).at hkm
  have ho := HAO.out _ (List.getElem_mem hkm)
  have HSS := Lib.hid (HST.out.trans (atomsB_at hkm hkh))
  have ka : Keep NoS wr (wr.alloc (.cells #[.int .i64 (f.atoms[k]).kind, .int .i64 (f.atoms[k]).a, .int .i64 (f.atoms[k]).b, .slice none 0 0, .int .i64 0, .int .i64 0] TAt)) := (Keep.refl _ _).alloc _
  have HBA : Hid ((wr.alloc (.cells #[.int .i64 (f.atoms[k]).kind, .int .i64 (f.atoms[k]).a, .int .i64 (f.atoms[k]).b, .slice none 0 0, .int .i64 0, .int .i64 0] TAt)).heap[wr.heap.size]? = some (.cells #[.int .i64 (f.atoms[k]).kind, .int .i64 (f.atoms[k]).a, .int .i64 (f.atoms[k]).b, .slice none 0 0, .int .i64 0, .int .i64 0] TAt (0, 0))) := Lib.hid (heap_alloc_at _ _ _ rfl)
  obtain ⟨bh, fh, rfl, hbh, h0⟩ := (HH.out.keep ((K2.out.both KR.out).both ka)).at hkh
  have K6 := Lib.hid (KR.out.both ka)
  generalize f.atoms[k] = a at *
  generalize holds[k] = is at *
  obtain ⟨kd, x, y⟩ := a
  simp only at p0 p1 p2 K6 HBA h0 hbh
  clear HST ka
  go_upto_region 4 with fail
  generalize wr.alloc (.cells #[.int .i64 kd, .int .i64 x, .int .i64 y, .slice none 0 0, .int .i64 0, .int .i64 0] TAt) = w6 at *
  generalize wr.heap.size = b6 at *
  clear p0 p1 p2 p3 p4 p5 hba
  have y0 := (K6.out.cell (i := 0) (lt_of_heap HB2.out)).trans (cell_of_heap (o := 0) HB2.out rfl)
  have y1 := (K6.out.cell (i := 1) (lt_of_heap HB2.out)).trans (cell_of_heap (o := 1) HB2.out rfl)
  have yl := Nat.lt_of_lt_of_le (lt_of_heap HB2.out) K6.out.size
  have a0 := cell_of_heap (o := 0) HBA.out rfl
  have a1 := cell_of_heap (o := 1) HBA.out rfl
  have a2 := cell_of_heap (o := 2) HBA.out rfl
  have al := lt_of_heap HBA.out
  rcases ho with ⟨g1, g2, g3⟩ | ⟨g1, g2, g3, g4⟩
  · simp only at g1
    subst g1
    have HE := Lib.hid (HSS.out.trans (by rw [atomB_one rfl, Bool.true_and]))
    have e1 : (is != is) = false := by simp
    clear HSS g2 g3
    go_wp2
    go_roundw
    case rel => exact ⟨k + 1, by omega, by go_num, K6.out, HE.out⟩
    case measure => simp [intOf]; omega
  · simp only at g1 g2 g3 g4
    subst g1
    obtain ⟨ix, rfl⟩ : ∃ i : Nat, x = i := ⟨x.toNat, by omega⟩
    obtain ⟨iy, rfl⟩ : ∃ i : Nat, y = i := ⟨y.toNat, by omega⟩
    have hix : ix < n := by omega
    have hiy : iy < n := by omega
    have hixI : (ix : Int) < (n : Int) := by omega
    have hiyI : (iy : Int) < (n : Int) := by omega
    have HSA := Lib.hid (HSS.out.trans (by rw [atomB_two rfl]))
    have hgr := ((K2.out.both K6.out).block g (lt_of_heap HG.out) fun _ h => h).trans HG.out
    have c0 := blk_cl hgr HTL.out hix
    have c1 := blk_cl hgr HTL.out hiy
    have gl := lt_of_heap hgr
    simp only at HSA
    generalize Cl.clAt th (ix : Int) = u at *
    generalize Cl.clAt th (iy : Int) = v at *
    clear HSS g2 g3 g4 hgr
    have HQ : ∃ r, (u == v) = r ∧ decide (u = v) = r := ⟨u == v, rfl, by rw [Bool.eq_iff_iff]; simp⟩
    obtain ⟨r, e1, e2⟩ := HQ
    rw [e2] at HSA
    clear e2
    cases r <;> cases is
    · have HE := Lib.hid (HSA.out.trans (Bool.true_and _))
      clear HSA
      go_upto_region 7 with fail
      go_quiet (fail)
      have K9 : Hid (Keep NoS w2 (w6.drewN nq)) := Lib.hid (K6.out.both (Keep.drewN (Keep.refl _ _) _))
      have y0 := ((Keep.drewN (Keep.refl NoS w6) nq).cell yl).trans y0
      have h0 := ((Keep.drewN (Keep.refl NoS w6) nq).cell hbh).trans h0
      have yl : b2 < (w6.drewN nq).heap.size := yl
      have hbh : bh < (w6.drewN nq).heap.size := hbh
      clear c0 c1 gl a0 a1 a2 al y1
      generalize w6.drewN nq = w9 at *
      go_wp2
      go_roundw
      case rel => exact ⟨k + 1, by omega, by go_num, K9.out, HE.out⟩
      case measure => simp [intOf]; omega
    · have HE := Lib.hid (HSA.out.trans (Bool.false_and _))
      clear HSA
      go_upto_region 7 with fail
      go_quiet (fail)
      have K9 : Hid (Keep NoS w2 (w6.drewN nq)) := Lib.hid (K6.out.both (Keep.drewN (Keep.refl _ _) _))
      have y0 := ((Keep.drewN (Keep.refl NoS w6) nq).cell yl).trans y0
      have h0 := ((Keep.drewN (Keep.refl NoS w6) nq).cell hbh).trans h0
      have yl : b2 < (w6.drewN nq).heap.size := yl
      have hbh : bh < (w6.drewN nq).heap.size := hbh
      clear c0 c1 gl a0 a1 a2 al y1
      generalize w6.drewN nq = w9 at *
      go_wp2
      go_ret
      exact ⟨by rw [HE.out]; rfl, K2.out.both K9.out⟩
    · have HE := Lib.hid (HSA.out.trans (Bool.false_and _))
      clear HSA
      go_upto_region 7 with fail
      go_quiet (fail)
      have K9 : Hid (Keep NoS w2 (w6.drewN nq)) := Lib.hid (K6.out.both (Keep.drewN (Keep.refl _ _) _))
      have y0 := ((Keep.drewN (Keep.refl NoS w6) nq).cell yl).trans y0
      have h0 := ((Keep.drewN (Keep.refl NoS w6) nq).cell hbh).trans h0
      have yl : b2 < (w6.drewN nq).heap.size := yl
      have hbh : bh < (w6.drewN nq).heap.size := hbh
      clear c0 c1 gl a0 a1 a2 al y1
      generalize w6.drewN nq = w9 at *
      go_wp2
      go_ret
      exact ⟨by rw [HE.out]; rfl, K2.out.both K9.out⟩
    · have HE := Lib.hid (HSA.out.trans (Bool.true_and _))
      clear HSA
      go_upto_region 7 with fail
      go_quiet (fail)
      have K9 : Hid (Keep NoS w2 (w6.drewN nq)) := Lib.hid (K6.out.both (Keep.drewN (Keep.refl _ _) _))
      have y0 := ((Keep.drewN (Keep.refl NoS w6) nq).cell yl).trans y0
      have h0 := ((Keep.drewN (Keep.refl NoS w6) nq).cell hbh).trans h0
      have yl : b2 < (w6.drewN nq).heap.size := yl
      have hbh : bh < (w6.drewN nq).heap.size := hbh
      clear c0 c1 gl a0 a1 a2 al y1
      generalize w6.drewN nq = w9 at *
      go_wp2
      go_roundw
      case rel => exact ⟨k + 1, by omega, by go_num, K9.out, HE.out⟩
      case measure => simp [intOf]; omega
end Go.Proofs.YtnndmdfjdodiiaaGreat
