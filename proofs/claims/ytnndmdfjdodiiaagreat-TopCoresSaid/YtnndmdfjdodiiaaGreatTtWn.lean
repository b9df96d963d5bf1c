/- Package reasons: Least. -/
import Derived.Test.YtnndmdfjdodiiaaGreatTtWL
namespace Go.Proofs.YtnndmdfjdodiiaaGreat
open Go.ChangeShapes Go.WideShapes Go.RowKit Go.Maps
set_option linter.unusedVariables false
set_option linter.unusedSimpArgs false

theorem ofNat_64 {n : Nat} {l : List Nat} (h : ∀ i ∈ l, i < n) (hn : n ≤ 1000) : ∀ x ∈ l.map Int.ofNat, I64 x := fun x hx => by
  obtain ⟨i, hi, rfl⟩ := List.mem_map.1 hx
  have := h i hi
  have e : Int.ofNat i = (i : Int) := rfl
  rw [e]
  unfold I64
  omega
theorem lstQ_lt {q : Nat → Bool} {n : Nat} : ∀ i ∈ lstQ q n, i < n := fun i hi => List.mem_range.1 (List.mem_filter.1 hi).1
theorem lstQ_len (q : Nat → Bool) (n : Nat) : (lstQ q n).length ≤ n := by
  have := List.length_filter_le q (List.range n)
  rw [List.length_range] at this
  exact this
theorem fa_cells {w : World} {b : Nat} (h : w.heap[b]? = some (.cells #[.int .i64 0, .int .i64 0] TFa (0, 0))) : w.cell? ⟨b, 0, none⟩ = some (.int .i64 0) ∧ w.cell? ⟨b, 1, none⟩ = some (.int .i64 0) ∧ w.frozen? ⟨b, 0, none⟩ = false ∧ w.frozen? ⟨b, 1, none⟩ = false ∧ b < w.heap.size :=
  ⟨cell_of_heap (o := 0) h rfl, cell_of_heap (o := 1) h rfl, free_of_heap h, free_of_heap h, lt_of_heap h⟩
set_option maxRecDepth 100000 in
set_option maxHeartbeats 16000000 in
theorem least_any (w : World) (ot : Option Addr) (ct : Nat) (oa : Option Addr) (ca : Nat) (oc : Option Addr) (cc : Nat) (cls : List (List Int)) (ph : OpO) (hph : ph.OK) (hF : IsForm w ⟨ot, ct, oa, ca, oc, cc⟩ (freeF 5 cls)) (hv : ∀ c ∈ cls, ValidC 5 c) (hl : cls.length ≤ 20) :
    Calls Tryz.prog 13 #[.agg #[.slice ot 0 ct, .slice none 0 0, .slice oa 5 ca, .slice oc cls.length cc], .agg #[.int .i64 ph.a, .int .i64 ph.b, .int .i64 ph.c, .int .i64 ph.d], .int .i64 2000] w fun e w' => (if openK cls (fun _ => true) then e = .returned (.tuple #[.slice none 0 0, .agg #[.int .i64 11, .int .i64 0]]) else ∃ v', e = .returned (.tuple #[v', .agg #[.int .i64 0, .int .i64 0]]) ∧ OwnI w' w.heap.size v' ((lstQ (qF (openK cls) cls.length) cls.length).map Int.ofNat)) ∧ Keep NoS w w' := by
  have CFC := Lib.hid (fun w' (k : Keep NoS w w') => show Calls Tryz.prog 22 #[.agg #[.slice ot 0 ct, .slice none 0 0, .slice oa 5 ca, .slice oc cls.length cc]] w' fun e w'' => e = .returned (.agg #[.int .i64 0, .int .i64 0]) ∧ Keep NoS w' w'' from fcheck_any w' ⟨ot, ct, oa, ca, oc, cc⟩ (freeF 5 cls) (hF.keep k) (freeF_fm (by omega) hv hl))
  have CO := fun w' => Lib.hid (copts_any w' ph.a ph.b ph.c ph.d 2000 hph.1 hph.2.1 hph.2.2.1 hph.2.2.2 (by omega))
  have CP := Lib.hid (fun w' (k : Keep NoS w w') v q (hS : IsInts w' v ((lstQ q cls.length).map Int.ofNat)) => part_any w' ot ct oa ca oc cc cls ph hph (hF.keep k) hv hl v (lstQ q cls.length) hS lstQ_lt (Nat.le_trans (lstQ_len q _) hl))
  have HSAT := Lib.hid (fun q => open_sat hv q)
  obtain ⟨w2, hw2⟩ : ∃ w2 : World, w2 = ((w.alloc (.cells #[.slice ot 0 ct, .slice none 0 0, .slice oa 5 ca, .slice oc cls.length cc] TFmS)).alloc (.cells #[.int .i64 ph.a, .int .i64 ph.b, .int .i64 ph.c, .int .i64 ph.d] TOp)).alloc (.cells #[.int .i64 0, .int .i64 0] TFa) := ⟨_, rfl⟩
  have K2 : Hid (Keep NoS w w2) := Lib.hid (by rw [hw2]; exact (((Keep.refl _ _).alloc _).alloc _).alloc _)
  have B1 : Hid (Blk w2 w.heap.size #[.slice ot 0 ct, .slice none 0 0, .slice oa 5 ca, .slice oc cls.length cc]) := Lib.hid (by rw [hw2]; exact Blk.old (Blk.old (blk_at _ _ rfl) _) _)
  have B2 : Hid (Blk w2 (w.heap.size + 1) #[.int .i64 ph.a, .int .i64 ph.b, .int .i64 ph.c, .int .i64 ph.d]) := Lib.hid (by rw [hw2]; exact Blk.old (blk_at _ _ (by simp)) _)
  have B3 : Hid (w2.heap[w.heap.size + 1 + 1]? = some (.cells #[.int .i64 0, .int .i64 0] TFa (0, 0))) := Lib.hid (by rw [hw2]; exact heap_alloc_at _ _ _ (by simp))
  obtain ⟨R, hR⟩ : ∃ R : Ending → World → Prop, R = fun e w' => (if openK cls (fun _ => true) then e = .returned (.tuple #[.slice none 0 0, .agg #[.int .i64 11, .int .i64 0]]) else ∃ v', e = .returned (.tuple #[v', .agg #[.int .i64 0, .int .i64 0]]) ∧ OwnI w' w.heap.size v' ((lstQ (qF (openK cls) cls.length) cls.length).map Int.ofNat)) ∧ Keep NoS w w' := ⟨_, rfl⟩
  rw [← hR]
  have HR := Lib.hid (fun e w' => congrFun (congrFun hR e) w')
  clear hR
  have HLN := Lib.hid hl
  have HPL := Lib.hid (fun q => show (pickC cls (lstQ q cls.length)) = pickC cls (lstQ q cls.length) from rfl)
  clear hF hv hph HPL
  generalize hn : cls.length = n at *
  have HN := Lib.hid hn
  clear hn
  go_enter Tryz.func13, Tryz.ntmps13
  go_upto_region 1 with fail
  rw [← hw2]
  clear hw2
  generalize hg1 : w.heap.size = g1 at *
  have HG1 := Lib.hid hg1
  clear hg1
  have x0 : w2.cell? ⟨g1, 0, none⟩ = some (.slice ot 0 ct) := B1.out.cell 0
  have x1 : w2.cell? ⟨g1, 1, none⟩ = some (.slice none 0 0) := B1.out.cell 1
  have x2 : w2.cell? ⟨g1, 2, none⟩ = some (.slice oa 5 ca) := B1.out.cell 2
  have x3 : w2.cell? ⟨g1, 3, none⟩ = some (.slice oc n cc) := B1.out.cell 3
  have xl := B1.out.lt
  have CFC := Lib.hid (CFC.out w2 K2.out)
  go_wp2_with fail
  refine CFC.out.mono ?_
  rintro e w3 ⟨rfl, hk3⟩
  have K4 : Hid (Keep NoS w2 (w3.alloc (.cells #[.int .i64 0, .int .i64 0] TFa))) := Lib.hid (hk3.alloc _)
  have B24 := B2.out.keep K4.out
  have o0 : (w3.alloc (.cells #[.int .i64 0, .int .i64 0] TFa)).cell? ⟨g1 + 1, 0, none⟩ = some (.int .i64 ph.a) := B24.cell 0
  have o1 : (w3.alloc (.cells #[.int .i64 0, .int .i64 0] TFa)).cell? ⟨g1 + 1, 1, none⟩ = some (.int .i64 ph.b) := B24.cell 1
  have o2 : (w3.alloc (.cells #[.int .i64 0, .int .i64 0] TFa)).cell? ⟨g1 + 1, 2, none⟩ = some (.int .i64 ph.c) := B24.cell 2
  have o3 : (w3.alloc (.cells #[.int .i64 0, .int .i64 0] TFa)).cell? ⟨g1 + 1, 3, none⟩ = some (.int .i64 ph.d) := B24.cell 3
  have ol := B24.lt
  clear hk3 CFC x0 x1 x2 x3 xl B24
  go_upto_region 4 with fail
  generalize w3.alloc (.cells #[.int .i64 0, .int .i64 0] TFa) = w4 at *
  go_wp2_with fail
  refine (CO _).out.mono ?_
  rintro e w5 ⟨rfl, hk5⟩
  have K6 : Hid (Keep NoS w2 (w5.alloc (.cells #[.int .i64 0, .int .i64 0] TFa))) := Lib.hid ((K4.out.both hk5).alloc _)
  clear hk5 CO o0 o1 o2 o3 ol
  go_upto_region 7 with fail
  generalize w5.alloc (.cells #[.int .i64 0, .int .i64 0] TFa) = w6 at *
  have B16 := B1.out.keep K6.out
  have x3 : w6.cell? ⟨g1, 3, none⟩ = some (.slice oc n cc) := B16.cell 3
  have xl := B16.lt
  clear B16 K4
  go_wp2
  clear x3 xl
  go_loopw [10, 30] (fun v t wr => ∃ i : Nat, t = .int .i64 (i : Int) ∧ i ≤ n ∧ OwnI wr w2.heap.size v ((List.range i).map Int.ofNat) ∧ Keep NoS w2 wr) (fun _ t _ => (n - intOf t).toNat)
  case atStart => exact ⟨0, rfl, by omega, OwnI.nil _ _, K6.out⟩
  case round =>
    clear K6
    obtain ⟨i, rfl, hi, ho, hkr⟩ := hrel
    have HKR := Lib.hid hkr
    have HO := Lib.hid ho
    have hll : ((List.range i).map Int.ofNat).length = i := by simp
    obtain ⟨ov, cv, hvv⟩ := ho.len
    rw [hll] at hvv
    subst hvv
    have hn20 := HLN.out
    clear ho hkr
    by_cases hin : i < n
    case pos =>
      have hlt : (i : Int) < (n : Int) := by omega
      have hd : decide ((i : Int) < (n : Int)) = true := decide_eq_true hlt
      have KA : Keep NoS wr (wr.alloc (.cells #[.int .i64 (i : Int)] TI)) := (Keep.refl _ _).alloc _
      obtain ⟨v13, w13, hr13, ho13, hg13, hv13⟩ := app_oneI (b := wr.heap.size) (x := (i : Int)) (OwnI.keep HO.out KA) (blk_at _ _ rfl) (by rw [hll]; omega) (HKR.out.both KA).size
      have HKN : Hid (Keep NoS w2 w13) := Lib.hid ((HKR.out.both KA).grown hg13 fun p hp => OwnI.block HO.out p hp)
      have HON : Hid (OwnI w13 w2.heap.size v13 ((List.range (i + 1)).map Int.ofNat)) := Lib.hid (by rw [List.range_succ, List.map_append]; exact ho13)
      clear KA ho13 hg13 hv13 hll
      go_wp2_with (at_builtin; refine wpList_app_run _ _ 22 _ _ rfl rfl rfl rfl hr13 ?_)
      go_roundw
      case rel => exact ⟨i + 1, by go_num, by omega, HON.out, HKN.out⟩
      case measure => simp [intOf]; omega
    case neg =>
      have hlt : ¬ (i : Int) < (n : Int) := by omega
      have hd : decide ((i : Int) < (n : Int)) = false := decide_eq_false hlt
      obtain rfl : i = n := by omega
      have HO0 : Hid (OwnI wr w2.heap.size (.slice ov i cv) ((lstQ (qF (openK cls) 0) i).map Int.ofNat)) := Lib.hid (by
        rw [show qF (openK cls) 0 = fun _ => true from rfl, lstQ_all]
        exact HO.out)
      have HT : Hid (lstQ (fun _ => true) i = lstQ (qF (openK cls) 0) i) := Lib.hid rfl
      have B1R := B1.out.keep HKR.out
      have B2R := B2.out.keep HKR.out
      have x0 : wr.cell? ⟨g1, 0, none⟩ = some (.slice ot 0 ct) := B1R.cell 0
      have x1 : wr.cell? ⟨g1, 1, none⟩ = some (.slice none 0 0) := B1R.cell 1
      have x2 : wr.cell? ⟨g1, 2, none⟩ = some (.slice oa 5 ca) := B1R.cell 2
      have x3 : wr.cell? ⟨g1, 3, none⟩ = some (.slice oc i cc) := B1R.cell 3
      have xl := B1R.lt
      have o0 : wr.cell? ⟨g1 + 1, 0, none⟩ = some (.int .i64 ph.a) := B2R.cell 0
      have o1 : wr.cell? ⟨g1 + 1, 1, none⟩ = some (.int .i64 ph.b) := B2R.cell 1
      have o2 : wr.cell? ⟨g1 + 1, 2, none⟩ = some (.int .i64 ph.c) := B2R.cell 2
      have o3 : wr.cell? ⟨g1 + 1, 3, none⟩ = some (.int .i64 ph.d) := B2R.cell 3
      have ol := B2R.lt
      have CP0 := Lib.hid (CP.out wr (K2.out.both HKR.out) (.slice ov i cv) (qF (openK cls) 0) (HO0.out.ints (ofNat_64 lstQ_lt (by omega))))
      have HS0 := Lib.hid (HSAT.out (fun _ => true))
      rw [show lstQ (fun _ => true) i = lstQ (qF (openK cls) 0) i from rfl] at HS0
      clear B1R B2R hll HO
      go_wp2_with fail
      refine CP0.out.mono ?_
      rintro e w9 ⟨st, rfl, hst, hk9⟩
      have HK9 := Lib.hid (HKR.out.both hk9)
      have hB39 := (HK9.out.block (g1 + 1 + 1) (lt_of_heap B3.out) fun _ h => h).trans B3.out
      have HB39 := Lib.hid hB39
      rcases hst with ⟨rfl, hsat⟩ | ⟨rfl, hno⟩
      · have hok := HS0.out.2 hsat
        obtain ⟨d0, d1, e0, e1, dl⟩ := fa_cells hB39
        clear hB39 hk9 CP0 hsat HS0 x0 x1 x2 x3 xl o0 o1 o2 o3 ol
        have HOK := Lib.hid hok
        clear hok
        go_wp2
        refine bodyPost_ret (by simp [results, Tryz.results13, go_sem, d0, d1, dl]; rfl) rfl ?_
        rw [HR.out]
        have hg1 := HG1.out
        exact ⟨by rw [if_pos HOK.out], keep2 (K2.out.both HK9.out) (by omega) _ _⟩
      · have hok : ¬ openK cls (fun _ => true) = true := fun h => hno (HS0.out.1 h)
        have HOK := Lib.hid hok
        have HO9 := Lib.hid (OwnI.keep HO0.out hk9)
        have x3' := (hk9.cell xl).trans x3
        have xl' := Nat.lt_of_lt_of_le xl hk9.size
        clear hB39 HB39 hk9 CP0 hno HS0 x0 x1 x2 x3 xl o0 o1 o2 o3 ol hok HT HO0
        go_wp2
        clear x3' xl'
        go_loopw [10, 52] (fun v t wr => ∃ j : Nat, t = .int .i64 (j : Int) ∧ j ≤ i ∧ OwnI wr w2.heap.size v ((lstQ (qF (openK cls) j) i).map Int.ofNat) ∧ Keep NoS w2 wr) (fun _ t _ => (i - intOf t).toNat)
        case atStart => exact ⟨0, rfl, by omega, HO9.out, HK9.out⟩
        case round =>
          clear HO9 HK9 HKR
          obtain ⟨j, rfl, hj, ho, hkr⟩ := hrel
          have HKR := Lib.hid hkr
          have HO := Lib.hid ho
          obtain ⟨ov, cv, hvv⟩ := ho.len
          have hlq := lstQ_len (qF (openK cls) j) i
          rw [List.length_map] at hvv
          generalize hlen : (lstQ (qF (openK cls) j) i).length = m at *
          subst hvv
          clear ho hkr
          by_cases hin : j < i
          case neg =>
            have hlt : ¬ (j : Int) < (i : Int) := by omega
            have hd : decide ((j : Int) < (i : Int)) = false := decide_eq_false hlt
            obtain rfl : j = i := by omega
            have hB39 := (HKR.out.block (g1 + 1 + 1) (lt_of_heap B3.out) fun _ h => h).trans B3.out
            have HB39 := Lib.hid hB39
            obtain ⟨d0, d1, e0, e1, dl⟩ := fa_cells hB39
            clear hB39 hlen
            go_wp2
            refine bodyPost_ret (by simp [results, Tryz.results13, go_sem, d0, d1, dl]; rfl) rfl ?_
            rw [HR.out, if_neg HOK.out]
            have hg1 := HG1.out
            have hne : ∀ q, (Value.slice ov m cv).ownBlock = some q → q ≠ g1 + 1 + 1 := fun q hq => by
              obtain ⟨A, hA⟩ := own_atT HO.out hq
              exact ty_ne hA HB39.out (by decide)
            exact ⟨⟨_, rfl, World.ownsRow_set_other (World.ownsRow_set_other (World.ownsRow_mono HO.out (by have := K2.out.size; omega)) hne) hne⟩, keep2 (K2.out.both HKR.out) (by omega) _ _⟩
          case pos =>
            have hlt : (j : Int) < (i : Int) := by omega
            have hd : decide ((j : Int) < (i : Int)) = true := decide_eq_true hlt
            have HQ1 : Hid (qF (openK cls) (j + 1) = if openK cls (fun k => qF (openK cls) j k && k != j) then qF (openK cls) j else fun k => qF (openK cls) j k && k != j) := Lib.hid rfl
            have HDL := Lib.hid (lst_del (qF (openK cls) j) i j)
            have HX64 := Lib.hid (ofNat_64 (l := lstQ (qF (openK cls) j) i) lstQ_lt (by omega))
            have hml : m ≤ 20 := by omega
            have HML : Hid (((lstQ (qF (openK cls) j) i).map Int.ofNat).length ≤ 10000) := Lib.hid (by rw [List.length_map, hlen]; omega)
            generalize hq1 : qF (openK cls) (j + 1) = q1 at *
            have HQ1E := Lib.hid hq1
            clear hq1 hlen hlq
            generalize qF (openK cls) j = q at *
            generalize hq2 : (fun k => q k && k != j) = q2 at *
            have HQ2 := Lib.hid hq2
            clear hq2
            generalize hLL : (lstQ q i).map Int.ofNat = L at *
            have HLL := Lib.hid hLL
            clear hLL
            have KA : Keep NoS wr (wr.alloc (.cells #[.int .i64 (j : Int)] TI)) := (Keep.refl _ _).alloc _
            obtain ⟨wa, hwa⟩ : ∃ wa : World, wa = wr.alloc (.cells #[.int .i64 (j : Int)] TI) := ⟨_, rfl⟩
            have HGA : Hid (wa.heap[wr.heap.size]? = some (.cells #[.int .i64 (j : Int)] TI (0, 0))) := Lib.hid (by rw [hwa]; exact heap_alloc_at _ _ _ rfl)
            have hsz : wa.heap.size = wr.heap.size + 1 := by rw [hwa]; exact Array.size_push ..
            rw [← hwa] at KA
            have HKA := Lib.hid (HKR.out.both KA)
            have HOA := Lib.hid (OwnI.keep HO.out KA)
            have CL := Lib.hid (vClone_any wa _ L (HOA.out.ints HX64.out) HML.out)
            have hgw : w2.heap.size ≤ wr.heap.size := HKR.out.size
            clear KA HO HKR
            go_upto_region 21 with fail
            rw [← hwa]
            clear hwa
            generalize wr.heap.size = gl at *
            go_wp2_with fail
            refine CL.out.mono ?_
            rintro e wb ⟨vb, rfl, hob, hkb⟩
            have hgb : gl < wa.heap.size := by omega
            obtain ⟨ob, cb, rfl⟩ := hob.len
            have HBL : Hid (∀ q, (Value.slice ob L.length cb).ownBlock = some q → wa.heap.size ≤ q) := Lib.hid (fun q hq => OwnI.block hob q hq)
            have hgbb := Nat.lt_of_lt_of_le hgb hkb.size
            have g0 : wb.cell? ⟨gl, 0, none⟩ = some (.int .i64 (j : Int)) := (hkb.cell hgb).trans (cell_of_heap (o := 0) HGA.out rfl)
            have CD := Lib.hid (delFunc_any 36 #[.pointer (some ⟨gl, 0, none⟩)] lsA (fun l => l == (j : Int)) wa.heap.size wb _ L hob HX64.out fun w' kw x hx => by
              refine least1_any w' gl (j : Int) x ?_ (Nat.lt_of_lt_of_le hgbb kw.size)
              rw [World.cell?_of_block (kw.block gl hgbb fun o e => absurd (HBL.out gl e) (by omega))]
              exact g0)
            have HKB := Lib.hid (HKA.out.both hkb)
            have HOB := Lib.hid (OwnI.keep HOA.out hkb)
            have HOL : Hid (∀ q, (Value.slice ov m cv).ownBlock = some q → q < wa.heap.size) := Lib.hid (fun q hq => HOA.out.ltT q hq)
            clear hob hkb g0 CL
            go_wp2_with fail
            refine CD.out.mono ?_
            rintro e wc ⟨vc, rfl, hoc, hbc, hkc⟩
            rw [HDL.out] at hoc
            have HKC : Hid (Keep NoS w2 wc) := Lib.hid (HKB.out.trans hkc fun p o hp e => absurd (HBL.out p e) (by have := HKA.out.size; omega))
            have HOC : Hid (OwnI wc w2.heap.size (.slice ov m cv) L) := Lib.hid (HOB.out.same fun p hp => hkc.block p (HOB.out.ltT p hp) fun o e => absurd (HBL.out p e) (by have := HOL.out p hp; omega))
            have HOV : Hid (OwnI wc w2.heap.size vc ((lstQ q2 i).map Int.ofNat)) := Lib.hid (World.ownsRow_mono hoc HKA.out.size)
            obtain ⟨od, cd, hvd⟩ := hoc.len
            rw [List.length_map] at hvd
            generalize hm2 : (lstQ q2 i).length = m2 at *
            subst hvd
            clear hoc hbc hkc CD hm2
            have B1R := B1.out.keep HKC.out
            have B2R := B2.out.keep HKC.out
            have x0 : wc.cell? ⟨g1, 0, none⟩ = some (.slice ot 0 ct) := B1R.cell 0
            have x1 : wc.cell? ⟨g1, 1, none⟩ = some (.slice none 0 0) := B1R.cell 1
            have x2 : wc.cell? ⟨g1, 2, none⟩ = some (.slice oa 5 ca) := B1R.cell 2
            have x3 : wc.cell? ⟨g1, 3, none⟩ = some (.slice oc i cc) := B1R.cell 3
            have xl := B1R.lt
            have o0 : wc.cell? ⟨g1 + 1, 0, none⟩ = some (.int .i64 ph.a) := B2R.cell 0
            have o1 : wc.cell? ⟨g1 + 1, 1, none⟩ = some (.int .i64 ph.b) := B2R.cell 1
            have o2 : wc.cell? ⟨g1 + 1, 2, none⟩ = some (.int .i64 ph.c) := B2R.cell 2
            have o3 : wc.cell? ⟨g1 + 1, 3, none⟩ = some (.int .i64 ph.d) := B2R.cell 3
            have ol := B2R.lt
            have CP1 := Lib.hid (CP.out wc (K2.out.both HKC.out) _ q2 (HOV.out.ints (ofNat_64 lstQ_lt (by omega))))
            have HS1 := Lib.hid (HSAT.out q2)
            clear B1R B2R
            go_wp2_with fail
            refine CP1.out.mono ?_
            rintro e wd ⟨st, rfl, hst, hkd⟩
            have HKD := Lib.hid (HKC.out.both hkd)
            have HOCD := Lib.hid (OwnI.keep HOC.out hkd)
            have HOVD := Lib.hid (OwnI.keep HOV.out hkd)
            clear hkd CP1 x0 x1 x2 x3 xl o0 o1 o2 o3 ol HOC HOV HOB HKC HKB HKA HOA
            rcases hst with ⟨rfl, hsat⟩ | ⟨rfl, hno⟩
            · have HQE := Lib.hid (HQ1E.out.trans (HQ1.out.trans (if_pos (HS1.out.2 hsat))))
              clear hsat
              go_wp2
              go_roundw
              case rel => exact ⟨j + 1, by go_num, by omega, by rw [HQE.out, HLL.out]; exact HOCD.out, HKD.out⟩
              case measure => simp [intOf]; omega
            · have HQE := Lib.hid (HQ1E.out.trans (HQ1.out.trans (if_neg fun h => hno (HS1.out.1 h))))
              clear hno
              go_wp2
              go_roundw
              case rel => exact ⟨j + 1, by go_num, by omega, by rw [HQE.out]; exact HOVD.out, HKD.out⟩
              case measure => simp [intOf]; omega
end Go.Proofs.YtnndmdfjdodiiaaGreat
