/- TopCores: the walk of the law. -/
import Derived.Test.YtnndmdfjdodiiaaGreatTtWn
import Derived.Test.YtnndmdfjdodiiaaGreatTtWO
namespace Go.Proofs.YtnndmdfjdodiiaaGreat
open Go.ChangeShapes Go.WideShapes Go.RowKit Go.Maps
set_option linter.unusedVariables false
set_option linter.unusedSimpArgs false

theorem pick_all (cls : List (List Int)) : pickC cls (lstQ (fun _ => true) cls.length) = cls := by
  rw [lstQ_all]
  unfold pickC
  apply List.ext_getElem?
  intro i
  rw [List.getElem?_map]
  by_cases hi : i < cls.length
  · rw [List.getElem?_range hi, List.getElem?_eq_getElem hi]
    simp [hi]
  · rw [List.getElem?_eq_none (by simp; omega), List.getElem?_eq_none (by omega)]
    rfl
set_option maxRecDepth 100000 in
set_option maxHeartbeats 16000000 in
theorem topCores_any (w : World) (vr : Value) (raw : List Int) (o : Int) (hr : IsInts w vr raw) (ho : I64 o) :
    Calls Tryz.prog 4 #[vr, .int .i64 o] w fun e w' => e = .returned (.bool true) ∧ Keep NoS w w' := by
  have CC := Lib.hid (cnfOf_any w vr raw hr)
  obtain ⟨ro, rc, rfl, -⟩ := hr.len
  have COP := Lib.hid (fun w' => options_any w' o ho)
  have CSU := Lib.hid (fun w' => clSure_any w')
  clear hr ho
  go_enter Tryz.func4, Tryz.ntmps4
  go_wp2_with fail
  refine CC.out.mono ?_
  rintro e w1 ⟨oc, cc, cls, rfl, hcl, hv, hl, hk1⟩
  obtain ⟨w2, hw2⟩ : ∃ w2 : World, w2 = w1.alloc (.cells #[.int .i64 5, .slice oc cls.length cc] TCn) := ⟨_, rfl⟩
  have k2 : Keep NoS w1 w2 := by rw [hw2]; exact (Keep.refl _ _).alloc _
  have B2 : Hid (Blk w2 w1.heap.size #[.int .i64 5, .slice oc cls.length cc]) := Lib.hid (by rw [hw2]; exact blk_at _ _ rfl)
  have HCL := Lib.hid (hcl.keep k2)
  have HV := Lib.hid hv
  have HL := Lib.hid hl
  have HK2 := Lib.hid (hk1.both k2)
  have CFC := Lib.hid (fun w' (k : Keep NoS w2 w') => fewCore_any w' oc cc cls (HCL.out.keep k) hv (by omega))
  have CFR := Lib.hid (fun w' => free_any w' oc cls.length cc)
  have CLE := Lib.hid (fun w' (k : Keep NoS w2 w') oa ca ph (hph : ph.OK) (hA : IsAtoms w' (.slice oa 5 ca) (List.replicate 5 ⟨1, 0, 0⟩)) => least_any w' none 0 oa ca oc cc cls ph hph ⟨⟨none, 0, rfl, Nat.le_refl _, by unfold maxLen; omega, fun h => absurd rfl h⟩, hA, HCL.out.keep k⟩ hv (by omega))
  have CMO := Lib.hid (fun w' (k : Keep NoS w2 w') => models_any w' oc cc cls (HCL.out.keep k) hv (by omega))
  have HSA := Lib.hid (open_sat hv (fun _ => true))
  rw [pick_all] at HSA
  clear hcl hv hl hk1 k2 CC
  have y0 : w2.cell? ⟨w1.heap.size, 0, none⟩ = some (.int .i64 5) := B2.out.cell 0
  have y1 : w2.cell? ⟨w1.heap.size, 1, none⟩ = some (.slice oc cls.length cc) := B2.out.cell 1
  have yl := B2.out.lt
  go_upto_region 2 with fail
  rw [← hw2]
  clear hw2
  generalize w1.heap.size = g at *
  generalize hn : cls.length = n at *
  have HN := Lib.hid hn
  clear hn
  have CF := CFC.out w2 (Keep.refl _ _)
  by_cases hok : openK cls (fun _ => true) = true
  case pos =>
    simp only [hok, if_true] at CF
    have CF := Lib.hid CF
    have HS := Lib.hid (HSA.out.1 hok)
    clear HSA CFC
    go_wp2_with fail
    refine CF.out.mono ?_
    rintro e w3 ⟨rfl, hk3⟩
    have K3 := Lib.hid hk3
    have z0 := (hk3.cell yl).trans y0
    have z1 := (hk3.cell yl).trans y1
    have zl := Nat.lt_of_lt_of_le yl hk3.size
    clear hk3 CF y0 y1 yl
    go_upto_region 3 with fail
    have K4 : Hid (Keep NoS w2 (w3.alloc (.cells #[.int .i64 11, .int .i64 0] TFa))) := Lib.hid (K3.out.alloc _)
    have F4 : Hid (Blk (w3.alloc (.cells #[.int .i64 11, .int .i64 0] TFa)) w3.heap.size #[.int .i64 11, .int .i64 0]) := Lib.hid (blk_at _ _ rfl)
    clear z0 z1 zl
    generalize w3.alloc (.cells #[.int .i64 11, .int .i64 0] TFa) = w4 at *
    generalize w3.heap.size = f1 at *
    have B4 := B2.out.keep K4.out
    have z0 : w4.cell? ⟨g, 0, none⟩ = some (.int .i64 5) := B4.cell 0
    have z1 : w4.cell? ⟨g, 1, none⟩ = some (.slice oc n cc) := B4.cell 1
    have zl := B4.lt
    clear B4
    go_wp2_with fail
    refine (CFR.out _).mono ?_
    rintro e w5 ⟨oa, ca, rfl, hA, hk5⟩
    clear z0 z1 zl
    go_wp2_with fail
    refine (COP.out _).mono ?_
    rintro e w6 ⟨ph, hph, rfl, hk6⟩
    have K6 := Lib.hid ((K4.out.both hk5).both hk6)
    have F6 := Lib.hid ((F4.out.keep hk5).keep hk6)
    have CL := CLE.out w6 K6.out oa ca ph hph (hA.keep hk6)
    simp only [hok, if_true] at CL
    have CL := Lib.hid CL
    clear hA hph hk5 hk6 CLE
    go_wp2_with fail
    refine CL.out.mono ?_
    rintro e w7 ⟨rfl, hk7⟩
    have K7 := Lib.hid (K6.out.both hk7)
    have F7 := Lib.hid (F6.out.keep hk7)
    clear hk7 CL
    go_upto_region 4 with fail
    have K8 : Hid (Keep NoS w2 (w7.alloc (.cells #[.int .i64 11, .int .i64 0] TFa))) := Lib.hid (K7.out.alloc _)
    have F8 := Lib.hid (F7.out.keep ((Keep.refl NoS w7).alloc (.cells #[.int .i64 11, .int .i64 0] TFa)))
    have G8 : Hid (Blk (w7.alloc (.cells #[.int .i64 11, .int .i64 0] TFa)) w7.heap.size #[.int .i64 11, .int .i64 0]) := Lib.hid (blk_at _ _ rfl)
    generalize w7.alloc (.cells #[.int .i64 11, .int .i64 0] TFa) = w8 at *
    generalize w7.heap.size = f2 at *
    have B8 := B2.out.keep K8.out
    have z0 : w8.cell? ⟨g, 0, none⟩ = some (.int .i64 5) := B8.cell 0
    have z1 : w8.cell? ⟨g, 1, none⟩ = some (.slice oc n cc) := B8.cell 1
    have zl := B8.lt
    have a0 : w8.cell? ⟨f1, 0, none⟩ = some (.int .i64 11) := F8.out.cell 0
    have al := F8.out.lt
    have b0 : w8.cell? ⟨f2, 0, none⟩ = some (.int .i64 11) := G8.out.cell 0
    have bl := G8.out.lt
    have CM := Lib.hid (CMO.out w8 K8.out)
    clear B8
    go_wp2_with fail
    refine CM.out.mono ?_
    rintro e w9 ⟨m, rfl, hm, hk9⟩
    have K9 := Lib.hid (K8.out.both hk9)
    have hm0 : (m : Int) > 0 := by have := hm.2 HS.out; omega
    have hm1 : decide ((m : Int) > 0) = true := decide_eq_true hm0
    have hm2 : (0 : Int) < (m : Int) := hm0
    clear hm hk9 CM z0 z1 zl a0 al b0 bl
    go_wp2_with fail
    refine (CSU.out _).mono ?_
    rintro e w10 ⟨rfl, hk10⟩
    have K10 := Lib.hid (K9.out.both hk10)
    clear hk10
    go_wp2
    refine bodyPost_ret (by simp [results, Tryz.results4, go_sem]; rfl) rfl ?_
    exact ⟨rfl, HK2.out.both K10.out⟩
  case neg =>
    have hok2 : openK cls (fun _ => true) = false := by simpa using hok
    simp only [hok2, Bool.false_eq_true, if_false] at CF
    have CF := Lib.hid CF
    have HS : Hid (¬ ∃ a, SatN cls a) := Lib.hid fun h => hok (HSA.out.2 h)
    clear HSA CFC
    have HX := Lib.hid (ofNat_64 (l := lstQ (qF (openK cls) n) n) lstQ_lt (by have := HL.out; omega))
    generalize (lstQ (qF (openK cls) n) n).map Int.ofNat = LL at *
    go_wp2_with fail
    refine CF.out.mono ?_
    rintro e w3 ⟨⟨v6, rfl, ho6⟩, hk3⟩
    have HI3 := Lib.hid (ho6.ints HX.out)
    obtain ⟨o6, c6, rfl⟩ := ho6.len
    have K3 := Lib.hid hk3
    have z0 := (hk3.cell yl).trans y0
    have z1 := (hk3.cell yl).trans y1
    have zl := Nat.lt_of_lt_of_le yl hk3.size
    clear hk3 CF y0 y1 yl ho6
    go_upto_region 3 with fail
    have K4 : Hid (Keep NoS w2 (w3.alloc (.cells #[.int .i64 0, .int .i64 0] TFa))) := Lib.hid (K3.out.alloc _)
    have F4 : Hid (Blk (w3.alloc (.cells #[.int .i64 0, .int .i64 0] TFa)) w3.heap.size #[.int .i64 0, .int .i64 0]) := Lib.hid (blk_at _ _ rfl)
    have HI4 := Lib.hid (HI3.out.keep ((Keep.refl NoS w3).alloc (.cells #[.int .i64 0, .int .i64 0] TFa)))
    clear z0 z1 zl
    generalize w3.alloc (.cells #[.int .i64 0, .int .i64 0] TFa) = w4 at *
    generalize w3.heap.size = f1 at *
    have B4 := B2.out.keep K4.out
    have z0 : w4.cell? ⟨g, 0, none⟩ = some (.int .i64 5) := B4.cell 0
    have z1 : w4.cell? ⟨g, 1, none⟩ = some (.slice oc n cc) := B4.cell 1
    have zl := B4.lt
    clear B4
    go_wp2_with fail
    refine (CFR.out _).mono ?_
    rintro e w5 ⟨oa, ca, rfl, hA, hk5⟩
    clear z0 z1 zl
    go_wp2_with fail
    refine (COP.out _).mono ?_
    rintro e w6 ⟨ph, hph, rfl, hk6⟩
    have K6 := Lib.hid ((K4.out.both hk5).both hk6)
    have F6 := Lib.hid ((F4.out.keep hk5).keep hk6)
    have HI6 := Lib.hid ((HI4.out.keep hk5).keep hk6)
    have CL := CLE.out w6 K6.out oa ca ph hph (hA.keep hk6)
    simp only [hok2, Bool.false_eq_true, if_false] at CL
    have CL := Lib.hid CL
    clear hA hph hk5 hk6 CLE
    go_wp2_with fail
    refine CL.out.mono ?_
    rintro e w7 ⟨⟨v8, rfl, ho8⟩, hk7⟩
    have HJ7 := Lib.hid (ho8.ints HX.out)
    obtain ⟨o8, c8, rfl⟩ := ho8.len
    have HI7 := Lib.hid (HI6.out.keep hk7)
    have K7 := Lib.hid (K6.out.both hk7)
    have F7 := Lib.hid (F6.out.keep hk7)
    clear hk7 CL ho8
    go_upto_region 4 with fail
    have ka : Keep NoS w7 (w7.alloc (.cells #[.int .i64 0, .int .i64 0] TFa)) := (Keep.refl _ _).alloc _
    have K8 := Lib.hid (K7.out.both ka)
    have F8 := Lib.hid (F7.out.keep ka)
    have HI8 := Lib.hid (HI7.out.keep ka)
    have HJ8 := Lib.hid (HJ7.out.keep ka)
    have G8 : Hid (Blk (w7.alloc (.cells #[.int .i64 0, .int .i64 0] TFa)) w7.heap.size #[.int .i64 0, .int .i64 0]) := Lib.hid (blk_at _ _ rfl)
    clear ka
    generalize w7.alloc (.cells #[.int .i64 0, .int .i64 0] TFa) = w8 at *
    generalize w7.heap.size = f2 at *
    have a0 : w8.cell? ⟨f1, 0, none⟩ = some (.int .i64 0) := F8.out.cell 0
    have al := F8.out.lt
    have b0 : w8.cell? ⟨f2, 0, none⟩ = some (.int .i64 0) := G8.out.cell 0
    have bl := G8.out.lt
    go_wp2_with fail
    refine (CSU.out _).mono ?_
    rintro e w9 ⟨rfl, hk9⟩
    have K9 := Lib.hid (K8.out.both hk9)
    have CI := Lib.hid (sameInts_any w9 _ _ LL (HI8.out.keep hk9) (HJ8.out.keep hk9))
    clear a0 al b0 bl hk9
    go_wp2_with fail
    refine CI.out.mono ?_
    rintro e w10 ⟨rfl, hk10⟩
    have K10 := Lib.hid (K9.out.both hk10)
    have B10 := B2.out.keep K10.out
    have z0 : w10.cell? ⟨g, 0, none⟩ = some (.int .i64 5) := B10.cell 0
    have z1 : w10.cell? ⟨g, 1, none⟩ = some (.slice oc n cc) := B10.cell 1
    have zl := B10.lt
    have CM := Lib.hid (CMO.out w10 K10.out)
    clear B10 hk10 CI
    go_wp2_with fail
    refine CM.out.mono ?_
    rintro e w11 ⟨m, rfl, hm, hk11⟩
    have K11 := Lib.hid (K10.out.both hk11)
    obtain rfl : m = 0 := by
      rcases Nat.eq_zero_or_pos m with h | h
      · exact h
      · exact absurd (hm.1 h) HS.out
    clear hm hk11 CM z0 z1 zl
    go_wp2
    refine bodyPost_ret (by simp [results, Tryz.results4, go_sem]; rfl) rfl ?_
    exact ⟨rfl, HK2.out.both K11.out⟩
end Go.Proofs.YtnndmdfjdodiiaaGreat
