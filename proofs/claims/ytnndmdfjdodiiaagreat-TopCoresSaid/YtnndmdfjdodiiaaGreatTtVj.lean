/- Package cdcl: analysed. -/
import Derived.Test.YtnndmdfjdodiiaaGreatTtVB
import Derived.Deep.LoopGhost
namespace Go.Proofs.YtnndmdfjdodiiaaGreat
open Go.ChangeShapes Go.WideShapes Go.RowKit Go.Maps
set_option linter.unusedVariables false
set_option linter.unusedSimpArgs false

set_option maxRecDepth 100000 in
set_option maxHeartbeats 16000000 in
theorem canal_any (P : Nat → Prop) (w0 w : World) (vars : Nat) (ph : Bool) (bS b gm : Nat) (vc vl vw vlev vlr : Value) (s : Cd.SS) (h : CSr P w0 w vars ph bS b gm vc vl vw vlev vlr s) (hI : Cd.InvT vars s) (hv : vars ≤ 1000) (hlv : ∀ a ∈ s.levels, a ≤ 1000) (hcl : s.cls.length ≤ 10000) (k : Nat) (c : List Int) (hk : s.cls[k]? = some c) (hc : ∀ l ∈ c, -l ∈ s.t.lits) (hl1 : 1 ≤ s.level) :
    Calls Tryz.prog 72 #[.pointer (some ⟨bS, 0, none⟩), .int .i64 (k : Int)] w fun e w' => ∃ v', e = .returned (.tuple #[v', .int .i64 ((Cd.anF s k).2 : Int)]) ∧ OwnI w' w.heap.size v' (Cd.anF s k).1 ∧ Keep NoS w w' := by
  have hci := Cd.ci_start hI hl1 hk hc
  have hX : ∀ l, -l ∈ s.t.lits → I64 l ∧ I64 (-l) := fun l hl => by
    have := good_64 hv hI.good _ hl
    rw [Int.neg_neg] at this
    exact this.symm
  have CX := Lib.hid (fun w' (k : Keep NoS w w') (l : Int) (hl : -l ∈ s.t.lits) => show Calls Tryz.prog 109 #[.pointer (some ⟨bS, 0, none⟩), .int .i64 l] w' fun e w'' => e = .returned (.int .i64 (Cd.atF s l : Int)) ∧ Keep NoS w' w'' by
    have := at_anyC P w0 w' vars ph bS b gm vc vl vw vlev vlr s (h.keep k) hv hI.good l (hX l hl).1 (hX l hl).2
    rw [if_pos hl] at this
    exact this)
  have CB := Lib.hid (fun bs w' (k : Keep NoS w w') (hbs : w'.cell? ⟨bs, 0, none⟩ = some (.pointer (some ⟨bS, 0, none⟩))) (hbl : bs < w'.heap.size) (l : Int) (hl : -l ∈ s.t.lits) => canal2_any P w0 w' vars ph bS b gm vc vl vw vlev vlr s (h.keep k) hv hI.good hlv hI.len bs hbs hbl l hl)
  have hne : s.t.lits ≠ [] := by
    obtain ⟨l, hl, -⟩ := hci.one
    exact List.ne_nil_of_mem (hci.neg l hl)
  have hcn : s.cls ≠ [] := fun e => by rw [e] at hk; cases hk
  obtain ⟨bv, ov, cv, rfl, hbv, hLV⟩ := h.lvA hlv hI.len hne
  obtain ⟨bc, oc, cc, rfl, hbc, hCL⟩ := h.clA hcn
  obtain ⟨bw, ow, cw, rfl, hbw, hWH⟩ := h.whA hI.why hcl hne
  obtain ⟨x0, x1, x2, x3, x4, x5, x6, f3, f4, f5, f6, xl⟩ := csG_cells h.blk
  have y0 : w.cell? ⟨b, 0, none⟩ = some (.slice (some ⟨bc, oc, none⟩) s.cls.length cc) := cell_of_heap (o := 0) h.tr.tb rfl
  have y2 : w.cell? ⟨b, 2, none⟩ = some (.slice (some ⟨bw, ow, none⟩) s.t.lits.length cw) := cell_of_heap (o := 2) h.tr.tb rfl
  have yl := lt_of_heap h.tr.tb
  obtain ⟨oC, cC, p0, pI, hkl⟩ := hCL k c hk
  have hkl1 : (k : Int) < (s.cls.length : Int) := by omega
  have hkl2 : ¬ (k : Int) < 0 := by omega
  obtain ⟨w2, hw2⟩ : ∃ w2 : World, w2 = w.alloc (.cells #[.pointer (some ⟨bS, 0, none⟩)] 132) := ⟨_, rfl⟩
  have K2 : Keep NoS w w2 := by rw [hw2]; exact (Keep.refl _ _).alloc _
  have B1 : Hid (Blk w2 w.heap.size #[.pointer (some ⟨bS, 0, none⟩)]) := Lib.hid (by rw [hw2]; exact blk_at _ _ rfl)
  have hw2s : w2.heap.size = w.heap.size + 1 := by rw [hw2]; exact Array.size_push ..
  have HK2 := Lib.hid K2
  have CC := Lib.hid (vClone_any w2 _ c (pI.keep K2) (by have := hci.len hI; omega))
  have HXX := Lib.hid hX
  have HLV := Lib.hid hLV
  have HCL := Lib.hid hCL
  have HWH := Lib.hid hWH
  have HCI := Lib.hid hci
  have HI := Lib.hid hI
  have HNX := Lib.hid (fun (c : List Int) (k : Cd.CI s c) (n : Nat) (hn : ∀ l ∈ c, Cd.lvF s l = s.level → Cd.atF s l < n) hc => Cd.res_next hI k hn hc)
  have HLE := Lib.hid (fun (c : List Int) (k : Cd.CI s c) => k.len hI)
  have hlb0 : ∀ l, Cd.lvF s l ≤ 1000 := fun l => by
    unfold Cd.lvF
    rw [List.getD_eq_getElem?_getD]
    rcases hg : s.levels[Cd.atF s l]? with _ | a
    · exact Nat.zero_le _
    · exact hlv a (List.mem_of_getElem? hg)
  have HLB := Lib.hid hlb0
  have HTB := Lib.hid (fun c => Cd.top_le (s := s) hlb0 c 0 (by omega))
  have HDC := Lib.hid (fun (r : Nat) (d : List Int) (hd : s.cls[r]? = some d) => Cd.cls_len hI hd)
  have HEC : Hid (Cd.anF s k = ((Cd.resF s (s.t.lits.length + 1) c).filter (Cd.lvF s · ≠ 0), Cd.topF s ((Cd.resF s (s.t.lits.length + 1) c).filter (Cd.lvF s · ≠ 0)) 0)) := Lib.hid (by
    unfold Cd.anF
    rw [(Cd.mem_getD hk).1])
  generalize Cd.anF s k = an at *
  generalize hN : s.t.lits.length + 1 = N at *
  have HNN := Lib.hid hN
  have HS := Lib.hid h
  have HVV := Lib.hid hv
  clear h hI hlv hlb0 hcl hk hc hci hX hne hcn hLV hCL hWH pI K2 hN hkl hv
  go_enter Tryz.func72, Tryz.ntmps72
  go_upto_region 1 with fail
  rw [← hw2]
  clear hw2
  have hbs1 : w.heap.size < w2.heap.size := by omega
  have q1 := B1.out.cell 0
  simp at q1
  go_upto_region 1 with fail
  have x30 := x3
  have y00 := y0
  have y20 := y2
  have yl0 := yl
  have x40 := x4
  have x50 := x5
  have xl0 := xl
  have x3 := (HK2.out.cell (i := 3) xl).trans x3
  have x4 := (HK2.out.cell (i := 4) xl).trans x4
  have x5 := (HK2.out.cell (i := 5) xl).trans x5
  have y0 := (HK2.out.cell (i := 0) yl).trans y0
  have y2 := (HK2.out.cell (i := 2) yl).trans y2
  have p0 := (HK2.out.cell hbc).trans p0
  have xl := Nat.lt_of_lt_of_le xl HK2.out.size
  have yl := Nat.lt_of_lt_of_le yl HK2.out.size
  have hbc := Nat.lt_of_lt_of_le hbc HK2.out.size
  go_wp2_with fail
  refine CC.out.mono ?_
  rintro e w3 ⟨v3, rfl, ho3, hk3⟩
  rw [hw2s] at ho3
  obtain ⟨o3, c3, rfl⟩ := ho3.len
  have HO3 := Lib.hid ho3
  have HK3 : Hid (Keep NoS w w3) := Lib.hid (HK2.out.both hk3)
  have B3 := Lib.hid (B1.out.keep hk3)
  have HLN := Lib.hid (fun l (h : l ∈ c) => (Nat.lt_succ_of_lt (Cd.at_lt (HCI.out.neg l h))))
  clear ho3 hk3 CC p0 x3 x4 x5 y0 y2 xl yl hbc q1 hbs1 hw2s B1 HK2
  generalize hbs : w.heap.size = bs at *
  have HBS := Lib.hid hbs
  clear hbs
  go_wp2
  go_loopg [6] N (fun gk v wr => ∃ d : List Int, Keep NoS w wr ∧ Blk wr bs #[.pointer (some ⟨bS, 0, none⟩)] ∧ OwnI wr (bs + 1) v d ∧ Cd.CI s d ∧ (∀ l ∈ d, Cd.lvF s l = s.level → Cd.atF s l < gk) ∧ Cd.resF s gk d = Cd.resF s N c)
  case atStart => exact ⟨c, HK3.out, B3.out, HO3.out, HCI.out, fun l hl _ => by rw [← HNN.out]; exact HLN.out l hl, rfl⟩
  case round =>
  obtain ⟨d, hkr, hbr, hod, hcd, hld, hrd⟩ := hrel
  have KR := Lib.hid hkr
  have BR := Lib.hid hbr
  have HOD := Lib.hid hod
  have HCD := Lib.hid hcd
  have HLD := Lib.hid hld
  have HRD := Lib.hid hrd
  have HDL := Lib.hid (HLE.out d hcd)
  obtain ⟨od, cd, rfl⟩ := hod.len
  clear hkr hbr hod hcd hld hrd
  go_upto_region 3 with fail
  obtain ⟨w5, hw5⟩ : ∃ w5 : World, w5 = wr.alloc (.cells #[.int .i64 0] TI) := ⟨_, rfl⟩
  rw [← hw5]
  have K5 : Keep NoS wr w5 := by rw [hw5]; exact (Keep.refl _ _).alloc _
  have HG5 : Hid (w5.heap[wr.heap.size]? = some (.cells #[.int .i64 0] TI (0, 0))) := Lib.hid (by rw [hw5]; exact heap_alloc_at _ _ _ rfl)
  have HN5 : Hid (∀ q, (Value.slice od d.length cd).ownBlock = some q → bs + 1 ≤ q ∧ q < wr.heap.size) := Lib.hid (fun q hq => ⟨OwnI.block HOD.out q hq, HOD.out.ltT q hq⟩)
  have hbg : bs < wr.heap.size := BR.out.lt
  have HK5 := Lib.hid (KR.out.both K5)
  have HB5 := Lib.hid (BR.out.keep K5)
  have HO5 := Lib.hid (OwnI.keep HOD.out K5)
  clear KR BR HOD K5 hw5
  generalize wr.heap.size = gl at *
  have hwg : w.heap.size ≤ gl := by have := HBS.out; omega
  go_wp2
  go_loopw [8, 30] (fun a t wz => ∃ i : Nat, i ≤ d.length ∧ t = .int .i64 i ∧ a = .int .i64 ((Cd.lateF s (d.take i) 0 0).2 : Int) ∧ Keep (fun k _ => k = gl) w5 wz ∧ wz.heap[gl]? = some (.cells #[.int .i64 (Cd.lateF s (d.take i) 0 0).1] TI (0, 0))) (fun _ t _ => (d.length - intOf t).toNat)
  case atStart => exact ⟨0, by omega, rfl, rfl, Keep.refl _ _, HG5.out⟩
  case round =>
    obtain ⟨i, hin, rfl, rfl, hkz, hgz⟩ := hrel
    have HKZ := Lib.hid hkz
    have HGZ := Lib.hid hgz
    have HZ : Hid (Keep NoS w wr) := Lib.hid (keepG_n HK5.out hkz hwg)
    have BZ := Lib.hid (keepG_blk hkz HB5.out (by omega))
    have OZ := Lib.hid (keepG_own hkz HO5.out fun q hq => by have := HN5.out q hq; omega)
    clear hkz hgz
    by_cases hil : i < d.length
    case neg =>
      have hlt : ¬ (i : Int) < (d.length : Int) := by omega
      have hd : decide ((i : Int) < (d.length : Int)) = false := decide_eq_false hlt
      have ht : d.take i = d := List.take_of_length_le (by omega)
      rw [ht] at HGZ ⊢
      clear ht
      have HLC := Lib.hid (Cd.late_le (s := s) d)
      have HEND := Lib.hid (fun h => Cd.resF_end (s := s) (c := d) h)
      have HNX := Lib.hid (HNX.out d HCD.out _ HLD.out)
      have HDN := HDL.out
      have HVVn := HVV.out
      have hcn : (Cd.lateF s d 0 0).2 ≤ 1000 := by have := HLC.out; omega
      generalize Cd.lateF s d 0 0 = pp at *
      obtain ⟨la, cnt⟩ := pp
      simp only at HGZ hcn HEND HNX ⊢
      have g0 : wr.cell? ⟨gl, 0, none⟩ = some (.int .i64 la) := cell_of_heap (o := 0) HGZ.out rfl
      have gL := lt_of_heap HGZ.out
      have q1 := BZ.out.cell 0
      simp at q1
      have ql := BZ.out.lt
      by_cases hc2 : cnt < 2
      case pos =>
        have hc3 : (cnt : Int) < 2 := by omega
        have hc4 : decide ((cnt : Int) < 2) = true := decide_eq_true hc3
        have HRD := Lib.hid ((HEND.out hc2 _).symm.trans HRD.out)
        clear HNX HEND hc2 g0 gL HLC
        have CD := Lib.hid (delFunc_any 112 #[.pointer (some ⟨bs, 0, none⟩)] canB (fun l => decide (Cd.lvF s l = 0)) (bs + 1) wr _ d OZ.out (fun l hl => (HXX.out l (HCD.out.neg l hl)).1) fun w' kw x hx => by
          have kn : Keep NoS w w' := HZ.out.trans kw fun n o hn e => absurd (HN5.out n e).1 (by have := HBS.out; omega)
          refine CB.out bs w' kn ?_ (Nat.lt_of_lt_of_le ql kw.size) x (HCD.out.neg x hx)
          rw [World.cell?_of_block (kw.block bs ql fun o e => absurd (HN5.out bs e).1 (by omega))]
          exact q1)
        go_wp2_with fail
        refine CD.out.mono ?_
        rintro e w9 ⟨v9, rfl, ho9, hb9, hk9⟩
        have HEQ : Hid (d.filter (fun x => !decide (Cd.lvF s x = 0)) = an.1 ∧ Cd.topF s an.1 0 = an.2) := Lib.hid (by
          have h1 := HEC.out
          rw [← HRD.out] at h1
          have h2 : d.filter (fun x => !decide (Cd.lvF s x = 0)) = d.filter (Cd.lvF s · ≠ 0) := by
            congr 1
            funext x
            simp
          rw [h1, h2]
          exact ⟨rfl, rfl⟩)
        have HSUB : Hid (∀ l ∈ an.1, -l ∈ s.t.lits) := Lib.hid (fun l hl => HCD.out.neg l (by rw [← HEQ.out.1] at hl; exact (List.mem_filter.1 hl).1))
        have HAL : Hid (an.1.length ≤ 1000) := Lib.hid (by
          rw [← HEQ.out.1]
          have := List.length_filter_le (fun x => !decide (Cd.lvF s x = 0)) d
          have := HDL.out
          omega)
        have HTOP := Lib.hid HEQ.out.2
        rw [HEQ.out.1] at ho9
        obtain ⟨ae, at'⟩ := an
        simp only at ho9 HSUB HAL HTOP ⊢
        obtain ⟨o9, c9, rfl⟩ := ho9.len
        have HO9 := Lib.hid ho9
        have HN9 : Hid (Keep NoS w w9) := Lib.hid (HZ.out.trans hk9 fun n o hn e => absurd (HN5.out n e).1 (by have := HBS.out; omega))
        have B9 : Hid (Blk w9 bs #[.pointer (some ⟨bS, 0, none⟩)]) := Lib.hid (by
          obtain ⟨t, hb⟩ := BZ.out
          exact ⟨t, (hk9.block bs ql fun o e => absurd (HN5.out bs e).1 (by omega)).trans hb⟩)
        clear ho9 hb9 hk9 CD HZ BZ OZ HGZ HKZ q1 ql
        go_wp2
        go_loopw [13, 114] (fun a t wz => ∃ i : Nat, i ≤ ae.length ∧ t = .int .i64 i ∧ a = .int .i64 (Cd.topF s (ae.take i) 0 : Int) ∧ Keep NoS w9 wz) (fun _ t _ => (ae.length - intOf t).toNat)
        case atStart => exact ⟨0, by omega, rfl, rfl, Keep.refl _ _⟩
        case round =>
          obtain ⟨i, hin, rfl, rfl, hkz⟩ := hrel
          have HKZ := Lib.hid hkz
          have HZ := Lib.hid (HN9.out.both hkz)
          have BZ := Lib.hid (B9.out.keep hkz)
          have OZ := Lib.hid (OwnI.keep HO9.out hkz)
          clear hkz
          by_cases hil : i < ae.length
          case neg =>
            have hlt : ¬ (i : Int) < (ae.length : Int) := by omega
            have hd : decide ((i : Int) < (ae.length : Int)) = false := decide_eq_false hlt
            have ht : ae.take i = ae := List.take_of_length_le (by omega)
            rw [ht, HTOP.out]
            go_wp2
            refine bodyPost_ret (by simp [results, Tryz.results72, go_sem]; rfl) rfl ?_
            exact ⟨_, rfl, World.ownsRow_mono OZ.out (by rw [HBS.out]; omega), HZ.out⟩
          case pos =>
            have hlt : (i : Int) < (ae.length : Int) := by omega
            have hd : decide ((i : Int) < (ae.length : Int)) = true := decide_eq_true hlt
            have hxd : ∀ l ∈ ae, I64 l := fun l hl => (HXX.out l (HSUB.out l hl)).1
            obtain ⟨b1, o1, c1, e1, l1, p1⟩ := (OZ.out.ints hxd).at hil
            injection e1 with q1 q2 q3
            subst q1
            clear q2 q3 hxd
            have hal := HAL.out
            have HST := Lib.hid (Cd.top_step (s := s) hil)
            have hxn := HSUB.out _ (List.getElem_mem hil)
            have HXN := Lib.hid hxn
            have htb : Cd.topF s (ae.take i) 0 ≤ 1000 := HTB.out _
            have hlb : Cd.lvF s ae[i] ≤ 1000 := HLB.out _
            generalize Cd.topF s (ae.take i) 0 = tb at *
            generalize ae[i] = x at *
            have q1 := BZ.out.cell 0
            simp at q1
            have ql := BZ.out.lt
            have xw : bS < w.heap.size := by rw [HBS.out]; exact xl0
            have vw1 : bv < w.heap.size := by rw [HBS.out]; exact hbv
            have u4 := (HZ.out.cell (i := 4) xw).trans x40
            have u5 := (HZ.out.cell (i := 5) xw).trans x50
            have ul := Nat.lt_of_lt_of_le xw HZ.out.size
            obtain ⟨v1, v2⟩ := HLV.out x hxn
            have v1 := (HZ.out.cell vw1).trans v1
            have vl := Nat.lt_of_lt_of_le vw1 HZ.out.size
            have hat1 : (Cd.atF s x : Int) < (s.t.lits.length : Int) := by omega
            have hat2 : ¬ (Cd.atF s x : Int) < 0 := by omega
            have C1 := Lib.hid (fun w' (k : Keep NoS wr w') => CX.out w' (HZ.out.both k) x HXN.out)
            clear hxn xw vw1
            go_upto_region 24 with fail
            refine wp_region_by (fun w' => Keep NoS wr w') [] [([0, 1, 2, 3, 4, 5], 6)] [7, 8, 9] (by kernel_rfl) (by kernel_rfl) (Keep.refl _ _).drew ?_
            intro X W hne hF hcl
            have HCL := Lib.hid hcl
            have z0 := fun x => ((hF x).cell ql).trans q1
            have z4 := fun x => ((hF x).cell ul).trans u4
            have z6 := fun x => ((hF x).cell vl).trans v1
            have zn := fun x => Nat.lt_of_lt_of_le vl (hF x).size
            have zl := fun x => Nat.lt_of_lt_of_le ul (hF x).size
            have zm := fun x => Nat.lt_of_lt_of_le ql (hF x).size
            clear hF hcl
            simp only [wpPlan, pickOps, List.getElem?_toArray, List.getElem?_cons_zero, List.getElem?_cons_succ, clsOf, Bool.false_eq_true, if_false]
            (repeat (quiet_step (fail))); refine wpQuiet_nil ?_
            refine wpAt rfl rfl fun K hK => ?_
            go_simp
            refine (C1.out _ (Keep.refl _ _).drew).mono ?_
            rintro e w6 ⟨rfl, hk6⟩
            have k6 : Keep NoS wr w6 := Keep.both (Keep.refl _ _).drew hk6
            refine hK _ _ ⟨fun _ => HCL.out _ k6, ?_⟩
            clear hK K hk6
            have v16 := (k6.cell vl).trans v1
            have vl6 := Nat.lt_of_lt_of_le vl k6.size
            (repeat (quiet_step (fail))); refine wpQuiet_nil ?_
            refine NoPanic.normal ?_
            have q16 := (k6.cell ql).trans q1
            have ql6 := Nat.lt_of_lt_of_le ql k6.size
            have u56 := (k6.cell ul).trans u5
            have ul6 := Nat.lt_of_lt_of_le ul k6.size
            have HK6 : Hid (Keep NoS w9 w6) := Lib.hid (HKZ.out.both k6)
            clear z0 z4 z6 zl zm zn HCL q1 ql u4 u5 ul v1 v2 vl k6 v16 vl6 p1 l1 C1
            by_cases hlv : Cd.lvF s x < s.level
            case neg =>
              have e1 : ¬ (Cd.lvF s x : Int) < (s.level : Int) := by omega
              have e2 : decide ((Cd.lvF s x : Int) < (s.level : Int)) = false := decide_eq_false e1
              have HST := Lib.hid (HST.out.trans (if_neg hlv))
              clear hlv
              go_wp2
              go_roundw
              case rel => exact ⟨i + 1, by omega, by go_num, by rw [HST.out], HK6.out⟩
              case measure => simp [intOf]; omega
            case pos =>
              have e1 : (Cd.lvF s x : Int) < (s.level : Int) := by omega
              have e2 : decide ((Cd.lvF s x : Int) < (s.level : Int)) = true := decide_eq_true e1
              have HST := Lib.hid (HST.out.trans (if_pos hlv))
              clear hlv
              go_wp2
              go_roundw
              case rel => exact ⟨i + 1, by omega, by go_num, by rw [HST.out]; exact congrArg (Value.int .i64) (by omega), HK6.out⟩
              case measure => simp [intOf]; omega
      case neg =>
        have hc3 : ¬ (cnt : Int) < 2 := by omega
        have hc4 : decide ((cnt : Int) < 2) = false := decide_eq_false hc3
        obtain ⟨r, dd, m, hR⟩ := HNX.out hc2
        have HR := Lib.hid hR
        have hln := HCD.out.neg _ hR.mem
        have HLNG := Lib.hid hln
        have CD := Lib.hid (delFunc_any 110 #[.pointer (some ⟨gl, 0, none⟩)] canA (fun l => l == la) (bs + 1) wr _ d OZ.out (fun l hl => (HXX.out l (HCD.out.neg l hl)).1) fun w' kw x hx => by
          refine canal1_any w' gl la x ?_ (Nat.lt_of_lt_of_le gL kw.size)
          rw [World.cell?_of_block (kw.block gl gL fun o e => absurd (HN5.out gl e).2 (by omega))]
          exact g0)
        clear HNX HEND hc2 HLC hR
        go_wp2_with fail
        refine CD.out.mono ?_
        rintro e w9 ⟨v9, rfl, ho9, hb9, hk9⟩
        have HL9 : Hid ((d.filter fun x => !(x == la)).length ≤ 1000) := Lib.hid (by
          have := List.length_filter_le (fun x => !(x == la)) d
          omega)
        have HO9 := Lib.hid ho9
        have HV9 : Hid (∀ q, v9.ownBlock = some q → q ≠ gl) := Lib.hid (fun q hq => by rw [hb9] at hq; have := HN5.out q hq; omega)
        have HZ9 : Hid (Keep NoS w w9) := Lib.hid (HZ.out.trans hk9 fun n o hn e => absurd (HN5.out n e).1 (by have := HBS.out; omega))
        have B9 : Hid (Blk w9 bs #[.pointer (some ⟨bS, 0, none⟩)]) := Lib.hid (by
          obtain ⟨t, hb⟩ := BZ.out
          exact ⟨t, (hk9.block bs ql fun o e => absurd (HN5.out bs e).1 (by omega)).trans hb⟩)
        have HG9 : Hid (w9.heap[gl]? = some (.cells #[.int .i64 la] TI (0, 0))) := Lib.hid ((hk9.block gl gL fun o e => absurd (HN5.out gl e).2 (by omega)).trans HGZ.out)
        obtain ⟨o9, c9, rfl⟩ := ho9.len
        clear ho9 hb9 hk9 CD HZ BZ OZ HGZ HKZ q1 ql g0 gL
        have xw : bS < w.heap.size := by rw [HBS.out]; exact xl0
        have yw : b < w.heap.size := by rw [HBS.out]; exact yl0
        have cw' : bc < w.heap.size := by rw [HBS.out]; exact hbc
        have ww : bw < w.heap.size := by rw [HBS.out]; exact hbw
        have q1 := B9.out.cell 0
        simp at q1
        have ql := B9.out.lt
        have u3 := (HZ9.out.cell (i := 3) xw).trans x30
        have ul := Nat.lt_of_lt_of_le xw HZ9.out.size
        have u0 := (HZ9.out.cell (i := 0) yw).trans y00
        have u2 := (HZ9.out.cell (i := 2) yw).trans y20
        have uy := Nat.lt_of_lt_of_le yw HZ9.out.size
        have g0 : w9.cell? ⟨gl, 0, none⟩ = some (.int .i64 la) := cell_of_heap (o := 0) HG9.out rfl
        have gL := lt_of_heap HG9.out
        obtain ⟨-, v2⟩ := HLV.out la hln
        have v1 := (HZ9.out.cell ww).trans (HWH.out _ _ HR.out.why)
        have vl := Nat.lt_of_lt_of_le ww HZ9.out.size
        obtain ⟨od2, cd2, t1, t2, t3⟩ := HCL.out r dd HR.out.cls
        have HT2 := Lib.hid t2
        have t1 := (HZ9.out.cell cw').trans t1
        have tl := Nat.lt_of_lt_of_le cw' HZ9.out.size
        have hat1 : (Cd.atF s la : Int) < (s.t.lits.length : Int) := by omega
        have hat2 : ¬ (Cd.atF s la : Int) < 0 := by omega
        have hr1 : (r : Int) < (s.cls.length : Int) := by omega
        have hr2 : ¬ (r : Int) < 0 := by omega
        have C1 := Lib.hid (fun w' (k : Keep NoS w9 w') => CX.out w' (HZ9.out.both k) la HLNG.out)
        clear hln xw yw cw' ww t2
        go_upto_region 13 with fail
        refine wp_region_by (fun w' => Keep NoS w9 w') [] [([0, 1, 2, 3, 4, 5, 6, 7, 8, 9, 10, 11, 12, 13, 14, 15, 22], 16)] [17, 18, 19, 20, 21] (by kernel_rfl) (by kernel_rfl) (Keep.refl _ _).drew ?_
        intro X W hne hF hcl
        have HCL' := Lib.hid hcl
        have z0 := fun x => ((hF x).cell ql).trans q1
        have z1 := fun x => ((hF x).cell ul).trans u3
        have z2 := fun x => ((hF x).cell uy).trans u0
        have z3 := fun x => ((hF x).cell uy).trans u2
        have z4 := fun x => ((hF x).cell gL).trans g0
        have z5 := fun x => ((hF x).cell vl).trans v1
        have z6 := fun x => ((hF x).cell tl).trans t1
        have m0 := fun x => Nat.lt_of_lt_of_le ql (hF x).size
        have m1 := fun x => Nat.lt_of_lt_of_le ul (hF x).size
        have m2 := fun x => Nat.lt_of_lt_of_le uy (hF x).size
        have m3 := fun x => Nat.lt_of_lt_of_le gL (hF x).size
        have m4 := fun x => Nat.lt_of_lt_of_le vl (hF x).size
        have m5 := fun x => Nat.lt_of_lt_of_le tl (hF x).size
        clear hF hcl
        simp only [wpPlan, pickOps, List.getElem?_toArray, List.getElem?_cons_zero, List.getElem?_cons_succ, clsOf, Bool.false_eq_true, if_false]
        (repeat (quiet_step (fail))); refine wpQuiet_nil ?_
        refine wpAt rfl rfl fun K hK => ?_
        go_simp
        refine (C1.out _ (Keep.refl _ _).drew).mono ?_
        rintro e w10 ⟨rfl, hk10⟩
        have k10 : Keep NoS w9 w10 := Keep.both (Keep.refl _ _).drew hk10
        refine hK _ _ ⟨fun _ => HCL'.out _ k10, ?_⟩
        clear hK K hk10
        (repeat (quiet_step (fail))); refine wpQuiet_nil ?_
        refine NoPanic.normal ?_
        have HZ10 := Lib.hid (HZ9.out.both k10)
        have B10 := Lib.hid (B9.out.keep k10)
        have HO10 := Lib.hid (OwnI.keep HO9.out k10)
        have HG10 : Hid (w10.heap[gl]? = some (.cells #[.int .i64 la] TI (0, 0))) := Lib.hid ((k10.block gl gL fun _ h => h).trans HG9.out)
        clear z0 z1 z2 z3 z4 z5 z6 m0 m1 m2 m3 m4 m5 HCL' q1 ql u3 ul u0 u2 uy g0 gL v1 v2 vl t1 tl k10 C1 HZ9 B9 HO9 HG9
        have HDD : Hid (dd.length ≤ 1000) := Lib.hid (Nat.le_trans (HDC.out _ _ HR.out.cls) HVV.out)
        have HDX : Hid (∀ y ∈ dd, I64 y) := Lib.hid HT2.out.all
        have hla64 := HXX.out la HLNG.out
        have hwn := IntWalk.i64_in _ hla64.2
        generalize hc1 : (d.filter fun x => !(x == la)) = c1 at *
        have HC1 := Lib.hid hc1
        clear hc1
        go_wp2
        go_loopw [6, 90] (fun v t wz => ∃ i : Nat, i ≤ dd.length ∧ t = .int .i64 i ∧ Keep NoS w wz ∧ Blk wz bs #[.pointer (some ⟨bS, 0, none⟩)] ∧ wz.heap[gl]? = some (.cells #[.int .i64 la] TI (0, 0)) ∧ OwnI wz (bs + 1) v (Cd.addF (-la) (dd.take i) c1) ∧ ∀ q, v.ownBlock = some q → q ≠ gl) (fun _ t _ => (dd.length - intOf t).toNat)
        case atStart => exact ⟨0, by omega, rfl, HZ10.out, B10.out, HG10.out, HO10.out, HV9.out⟩
        case round =>
          obtain ⟨i, hin, rfl, hkz, hbz, hgz, hoz, hvz⟩ := hrel
          have HZ := Lib.hid hkz
          have BZ := Lib.hid hbz
          have HGZ := Lib.hid hgz
          have OZ := Lib.hid hoz
          have HVZ := Lib.hid hvz
          obtain ⟨oz, cz, rfl⟩ := hoz.len
          clear hkz hbz hgz hoz hvz HZ10 B10 HG10 HO10 HV9
          by_cases hil : i < dd.length
          case neg =>
            have hlt : ¬ (i : Int) < (dd.length : Int) := by omega
            have hd : decide ((i : Int) < (dd.length : Int)) = false := decide_eq_false hlt
            have ht : dd.take i = dd := List.take_of_length_le (by omega)
            rw [ht] at OZ HVZ ⊢
            have hgm := HR.out.eq
            subst hgm
            have HNEW : Hid (Cd.CI s (Cd.addF (-la) dd c1) ∧ (∀ l ∈ Cd.addF (-la) dd c1, Cd.lvF s l = s.level → Cd.atF s l < m) ∧ Cd.resF s m (Cd.addF (-la) dd c1) = Cd.resF s N c) := Lib.hid (by rw [← HC1.out]; exact ⟨HR.out.ci, HR.out.lt, HR.out.res.symm.trans HRD.out⟩)
            go_wp2
            go_roundg m
            case measure => omega
            case rel => exact ⟨_, HZ.out, BZ.out, OZ.out, HNEW.out⟩
          case pos =>
            have hlt : (i : Int) < (dd.length : Int) := by omega
            have hd : decide ((i : Int) < (dd.length : Int)) = true := decide_eq_true hlt
            obtain ⟨b1, o1, cx1, e1, l1, p1⟩ := (HT2.out.keep HZ.out).at hil
            injection e1 with q1 q2 q3
            subst q1
            clear q2 q3
            have hddn := HDD.out
            have HST := Lib.hid (Cd.add_step (x := -la) (c := c1) hil)
            have hy64 := HDX.out _ (List.getElem_mem hil)
            have hlen : (Cd.addF (-la) (dd.take i) c1).length ≤ 2000 := by
              have := Cd.addF_len (x := -la) (dd.take i) c1
              have := HL9.out
              rw [List.length_take] at *
              omega
            have hcx : ∀ l ∈ Cd.addF (-la) (dd.take i) c1, I64 l := fun l hl => by
              rcases Cd.addF_mem.1 hl with h | h
              · rw [← HC1.out] at h
                exact (HXX.out l (HCD.out.neg l (List.mem_filter.1 h).1)).1
              · exact HDX.out l (List.mem_of_mem_take h.1)
            generalize Cd.addF (-la) (dd.take i) c1 = cur at *
            generalize dd[i] = y at *
            have CN := Lib.hid (fun w' (k : Keep NoS wr w') => vContains_any w' _ cur y ((OZ.out.ints hcx).keep k))
            have g0 : wr.cell? ⟨gl, 0, none⟩ = some (.int .i64 la) := cell_of_heap (o := 0) HGZ.out rfl
            have gL := lt_of_heap HGZ.out
            clear hcx
            by_cases hy : y = -la
            case pos =>
              have e1 : (y == -la) = true := by rw [beq_iff_eq]; exact hy
              have e2 : (y != -la) = false := by rw [bne, e1]; rfl
              have HST := Lib.hid (HST.out.trans (if_neg fun h => h.1 hy))
              clear hy
              go_wp2
              go_roundw
              case rel => exact ⟨i + 1, by omega, by go_num, HZ.out, BZ.out, HGZ.out, by rw [HST.out]; exact OZ.out, HVZ.out⟩
              case measure => simp [intOf]; omega
            case neg =>
              have e1 : (y == -la) = false := by rw [beq_eq_false_iff_ne]; exact hy
              have e2 : (y != -la) = true := by rw [bne, e1]; rfl
              go_wp2_with fail
              refine (CN.out _ (by (repeat' (with_reducible first | assumption | exact HK.out | exact keR | refine keA ?_ | refine keS ?_ fun h => absurd h (by omega) | refine keN ?_ | refine keD ?_)))).mono ?_
              rintro e w11 ⟨rfl, hk11⟩
              have k11 : Keep NoS wr w11 := Keep.both (by (repeat' (with_reducible first | assumption | exact HK.out | exact keR | refine keA ?_ | refine keS ?_ fun h => absurd h (by omega) | refine keN ?_ | refine keD ?_))) hk11
              have HZ1 := Lib.hid (HZ.out.both k11)
              have BZ1 := Lib.hid (BZ.out.keep k11)
              have HG1 : Hid (w11.heap[gl]? = some (.cells #[.int .i64 la] TI (0, 0))) := Lib.hid ((k11.block gl gL fun _ h => h).trans HGZ.out)
              have OZ1 := Lib.hid (OwnI.keep OZ.out k11)
              clear g0 gL p1 l1 k11 hk11 HZ BZ OZ HGZ CN
              by_cases hyc : y ∈ cur
              case pos =>
                have HST := Lib.hid (HST.out.trans (if_neg fun h => h.2 hyc))
                rw [decide_eq_true hyc]
                clear hy hyc
                go_wp2
                go_roundw
                case rel => exact ⟨i + 1, by omega, by go_num, HZ1.out, BZ1.out, HG1.out, by rw [HST.out]; exact OZ1.out, HVZ.out⟩
                case measure => simp [intOf]; omega
              case neg =>
                have HST := Lib.hid (HST.out.trans (if_pos ⟨hy, hyc⟩))
                rw [decide_eq_false hyc]
                clear hy hyc
                obtain ⟨v13, w13, hr13, ho13, hg13, hv13⟩ := app_oneI (b := w11.heap.size) (x := y) (OwnI.keep OZ1.out ((Keep.refl NoS w11).alloc (.cells #[.int .i64 y] TI))) (blk_at _ _ rfl) (by omega) (by have := BZ1.out.lt; have : w11.heap.size ≤ (w11.alloc (.cells #[.int .i64 y] TI)).heap.size := ((Keep.refl NoS w11).alloc (.cells #[.int .i64 y] TI)).size; omega)
                have KA : Keep NoS w11 (w11.alloc (.cells #[.int .i64 y] TI)) := (Keep.refl _ _).alloc _
                have hoB : ∀ q, (Value.slice oz cur.length cz).ownBlock = some q → bs + 1 ≤ q := fun q hq => OwnI.block OZ1.out q hq
                have HZ2 : Hid (Keep NoS w w13) := Lib.hid ((HZ1.out.both KA).grown hg13 fun q hq => by have := hoB q hq; have := HBS.out; omega)
                have BZ2 : Hid (Blk w13 bs #[.pointer (some ⟨bS, 0, none⟩)]) := Lib.hid (by
                  obtain ⟨t, hb⟩ := BZ1.out.keep KA
                  exact ⟨t, (hg13.block bs (lt_of_heap hb) fun e => by have := hoB bs e.symm; omega).trans hb⟩)
                have HG2 : Hid (w13.heap[gl]? = some (.cells #[.int .i64 la] TI (0, 0))) := Lib.hid (by
                  have hb := (KA.block gl (lt_of_heap HG1.out) fun _ h => h).trans HG1.out
                  exact (hg13.block gl (lt_of_heap hb) fun e => HVZ.out gl e.symm rfl).trans hb)
                have HV2 : Hid (∀ q, v13.ownBlock = some q → q ≠ gl) := Lib.hid (fun q hq => by
                  rcases hv13 with e | e
                  · exact HVZ.out q (e ▸ hq)
                  · rw [e] at hq
                    cases hq
                    have := lt_of_heap HG1.out
                    have := KA.size
                    omega)
                have HO2 := Lib.hid ho13
                clear ho13 hg13 hv13 KA hoB
                go_wp2_with (at_builtin; refine wpList_app_run _ _ 22 _ _ rfl rfl rfl rfl hr13 ?_)
                go_roundw
                case rel => exact ⟨i + 1, by omega, by go_num, HZ2.out, BZ2.out, HG2.out, by rw [HST.out]; exact HO2.out, HV2.out⟩
                case measure => simp [intOf]; omega
    case pos =>
      have hlt : (i : Int) < (d.length : Int) := by omega
      have hd : decide ((i : Int) < (d.length : Int)) = true := decide_eq_true hlt
      have hxd : ∀ l ∈ d, I64 l := fun l hl => (HXX.out l (HCD.out.neg l hl)).1
      obtain ⟨b1, o1, c1, e1, l1, p1⟩ := (OZ.out.ints hxd).at hil
      injection e1 with q1 q2 q3
      subst q1
      clear q2 q3 hxd
      have HST := Lib.hid (Cd.late_step (s := s) hil)
      have hxn := HCD.out.neg _ (List.getElem_mem hil)
      have HXN := Lib.hid hxn
      have HLA := Lib.hid (Cd.late_in (s := s) (c := d) (d := d.take i) fun l hl => List.mem_of_mem_take hl)
      have HLC := Lib.hid (Cd.late_le (s := s) (d.take i))
      have HDN := HDL.out
      have HVVn := HVV.out
      have hcn : (Cd.lateF s (d.take i) 0 0).2 ≤ 1000 := by have := HLC.out; rw [List.length_take] at this; omega
      generalize Cd.lateF s (d.take i) 0 0 = pp at *
      obtain ⟨la, cnt⟩ := pp
      simp only at HST HLA HGZ hcn ⊢
      generalize d[i] = x at *
      have g0 : wr.cell? ⟨gl, 0, none⟩ = some (.int .i64 la) := cell_of_heap (o := 0) HGZ.out rfl
      have gf : wr.frozen? ⟨gl, 0, none⟩ = false := by simp [World.frozen?, HGZ.out]
      have gL := lt_of_heap HGZ.out
      have q1 := BZ.out.cell 0
      simp at q1
      have ql := BZ.out.lt
      have xw : bS < w.heap.size := by rw [HBS.out]; exact xl0
      have vw1 : bv < w.heap.size := by rw [HBS.out]; exact hbv
      have u4 := (HZ.out.cell (i := 4) xw).trans x40
      have u5 := (HZ.out.cell (i := 5) xw).trans x50
      have ul := Nat.lt_of_lt_of_le xw HZ.out.size
      obtain ⟨v1, v2⟩ := HLV.out x hxn
      have v1 := (HZ.out.cell vw1).trans v1
      have vl := Nat.lt_of_lt_of_le vw1 HZ.out.size
      have hat1 : (Cd.atF s x : Int) < (s.t.lits.length : Int) := by omega
      have hat2 : ¬ (Cd.atF s x : Int) < 0 := by omega
      have C1 := Lib.hid (fun w' (k : Keep NoS wr w') => CX.out w' (HZ.out.both k) x HXN.out)
      clear hxn HLC xw vw1
      go_upto_region 6 with fail
      refine wp_region_by (fun w' => Keep NoS wr w') [] [([0, 1, 2, 3, 4, 5, 9, 10, 11, 12], 6)] [7, 8, 13] (by kernel_rfl) (by kernel_rfl) (Keep.refl _ _).drew ?_
      intro X W hne hF hcl
      have HCL := Lib.hid hcl
      have z0 := fun x => ((hF x).cell ql).trans q1
      have z4 := fun x => ((hF x).cell ul).trans u4
      have z5 := fun x => ((hF x).cell ul).trans u5
      have z6 := fun x => ((hF x).cell vl).trans v1
      have zl := fun x => Nat.lt_of_lt_of_le ul (hF x).size
      have zm := fun x => Nat.lt_of_lt_of_le ql (hF x).size
      have zn := fun x => Nat.lt_of_lt_of_le vl (hF x).size
      clear hF hcl
      simp only [wpPlan, pickOps, List.getElem?_toArray, List.getElem?_cons_zero, List.getElem?_cons_succ, clsOf, Bool.false_eq_true, if_false]
      (repeat (quiet_step (fail))); refine wpQuiet_nil ?_
      refine wpAt rfl rfl fun K hK => ?_
      go_simp
      refine (C1.out _ (Keep.refl _ _).drew).mono ?_
      rintro e w6 ⟨rfl, hk6⟩
      have k6 : Keep NoS wr w6 := Keep.both (Keep.refl _ _).drew hk6
      refine hK _ _ ⟨fun _ => HCL.out _ k6, ?_⟩
      clear hK K hk6
      have v16 := (k6.cell vl).trans v1
      have vl6 := Nat.lt_of_lt_of_le vl k6.size
      (repeat (quiet_step (fail))); refine wpQuiet_nil ?_
      refine NoPanic.normal ?_
      have g06 := (k6.cell gL).trans g0
      have gf6 : w6.frozen? ⟨gl, 0, none⟩ = false := (k6.frozen gL).trans gf
      have gL6 := Nat.lt_of_lt_of_le gL k6.size
      have q16 := (k6.cell ql).trans q1
      have ql6 := Nat.lt_of_lt_of_le ql k6.size
      have HK6 : Hid (Keep (fun n _ => n = gl) w5 w6) := Lib.hid (HKZ.out.trans (S' := NoS) k6 fun _ _ _ h => h.elim)
      have HG6 : Hid (w6.heap[gl]? = some (.cells #[.int .i64 la] TI (0, 0))) := Lib.hid ((k6.block gl gL fun _ h => h).trans HGZ.out)
      have HZ6 : Hid (Keep NoS w w6) := Lib.hid (HZ.out.both k6)
      clear z0 z4 z5 z6 zl zm zn HCL g0 gf gL q1 ql u4 u5 ul v1 v2 vl k6 v16 vl6 p1 l1 C1
      by_cases hlv : Cd.lvF s x = s.level
      case neg =>
        have e1 : ((Cd.lvF s x : Int) == (s.level : Int)) = false := by rw [beq_eq_false_iff_ne]; omega
        have HST := Lib.hid (HST.out.trans (if_neg hlv))
        clear hlv
        go_wp2
        go_roundw
        case rel => exact ⟨i + 1, by omega, by go_num, by rw [HST.out], HK6.out, by rw [HST.out]; exact HG6.out⟩
        case measure => simp [intOf]; omega
      case pos =>
        have e1 : ((Cd.lvF s x : Int) == (s.level : Int)) = true := by rw [beq_iff_eq]; omega
        have HST := Lib.hid (HST.out.trans (if_pos hlv))
        clear hlv
        have HSX : Hid (Keep (fun n _ => n = gl) w5 (w6.setCell ⟨gl, 0, none⟩ (.int .i64 x)) ∧ (w6.setCell ⟨gl, 0, none⟩ (.int .i64 x)).heap[gl]? = some (.cells #[.int .i64 x] TI (0, 0))) := Lib.hid ⟨HK6.out.setCell _ fun _ => rfl, by rw [Go.Joins.block_setCell HG6.out _]; rfl⟩
        go_upto_region 8 with fail
        by_cases hla : la = 0
        case pos =>
          subst hla
          have HST := Lib.hid (HST.out.trans (by rw [if_pos (.inl rfl)]))
          refine wp_region_by (fun w' => Keep NoS w6 w') [] [([0, 1, 2, 3, 4, 6, 7], 5), ([], 8)] [9, 10] (by kernel_rfl) (by kernel_rfl) (Keep.refl _ _).drew ?_
          intro X W hne hF hcl
          have HCL := Lib.hid hcl
          have z0 := fun x => ((hF x).cell gL6).trans g06
          have z1 := fun x => ((hF x).cell ql6).trans q16
          have zl := fun x => Nat.lt_of_lt_of_le gL6 (hF x).size
          have zm := fun x => Nat.lt_of_lt_of_le ql6 (hF x).size
          clear hF hcl
          simp only [wpPlan, pickOps, List.getElem?_toArray, List.getElem?_cons_zero, List.getElem?_cons_succ, clsOf, Bool.false_eq_true, if_false]
          (repeat (go_big_quiet_step (fail))); refine wpQuiet_nil ?_
          refine wpOp_unwanted (by simp only [List.getElem?_toArray, List.getElem?_cons_zero, List.getElem?_cons_succ]; rfl) (by rfl) ?_
          simp only [Act.put, List.setIfInBounds_toArray, List.set_cons_zero, List.set_cons_succ]
          refine ⟨fun _ => HCL.out _ (Keep.refl NoS w6).drew, ?_⟩
          (repeat (go_big_quiet_step (fail))); refine wpQuiet_nil ?_
          refine wpOp_unwanted (by simp only [List.getElem?_toArray, List.getElem?_cons_zero, List.getElem?_cons_succ]; rfl) (by rfl) ?_
          simp only [Act.put, List.setIfInBounds_toArray, List.set_cons_zero, List.set_cons_succ]
          refine ⟨fun _ => HCL.out _ (Keep.refl NoS w6).drew, ?_⟩
          (repeat (go_big_quiet_step (fail))); refine wpQuiet_nil ?_
          refine NoPanic.normal ?_
          have HSX : Hid (Keep (fun n _ => n = gl) w5 (w6.drew.setCell ⟨gl, 0, none⟩ (.int .i64 x)) ∧ (w6.drew.setCell ⟨gl, 0, none⟩ (.int .i64 x)).heap[gl]? = some (.cells #[.int .i64 x] TI (0, 0))) := Lib.hid ⟨HK6.out.drew.setCell _ fun _ => rfl, by rw [Go.Joins.block_setCell (w := w6.drew) HG6.out _]; rfl⟩
          have g06 : w6.drew.cell? ⟨gl, 0, none⟩ = some (.int .i64 0) := g06
          have gf6 : w6.drew.frozen? ⟨gl, 0, none⟩ = false := gf6
          have gL6 : gl < w6.drew.heap.size := gL6
          clear HCL z0 z1 zl zm
          go_wp2
          go_roundw
          case rel => exact ⟨i + 1, by omega, by go_num, by rw [HST.out]; go_num, HSX.out.1, by rw [HST.out]; exact HSX.out.2⟩
          case measure => simp [intOf]; omega
        case neg =>
          have HMA := HLA.out.resolve_left hla
          have HMN := Lib.hid (HCD.out.neg _ HMA)
          have hz1 : (la == 0) = false := by rw [beq_eq_false_iff_ne]; exact hla
          have C1 := Lib.hid (fun w' (k : Keep NoS w6 w') => CX.out w' (HZ6.out.both k) x HXN.out)
          have C2 := Lib.hid (fun w' (k : Keep NoS w6 w') => CX.out w' (HZ6.out.both k) la HMN.out)
          refine wp_region_by (fun w' => Keep NoS w6 w') [] [([0, 1, 2, 3, 4, 6, 7], 5), ([], 8)] [9, 10] (by kernel_rfl) (by kernel_rfl) (Keep.refl _ _).drew ?_
          intro X W hne hF hcl
          have HCL := Lib.hid hcl
          have z0 := fun x => ((hF x).cell gL6).trans g06
          have z1 := fun x => ((hF x).cell ql6).trans q16
          have zl := fun x => Nat.lt_of_lt_of_le gL6 (hF x).size
          have zm := fun x => Nat.lt_of_lt_of_le ql6 (hF x).size
          clear hF hcl
          simp only [wpPlan, pickOps, List.getElem?_toArray, List.getElem?_cons_zero, List.getElem?_cons_succ, clsOf, Bool.false_eq_true, if_false]
          (repeat (go_big_quiet_step (fail))); refine wpQuiet_nil ?_
          refine wpWa rfl rfl fun K hK => ?_
          go_simp
          refine (C1.out _ (Keep.refl _ _).drew).mono ?_
          rintro e w7 ⟨rfl, hk7⟩
          have k7 : Keep NoS w6 w7 := Keep.both (Keep.refl _ _).drew hk7
          refine hK _ _ ⟨fun _ => HCL.out _ k7, ?_⟩
          clear hK K hk7
          (repeat (go_big_quiet_step (fail))); refine wpQuiet_nil ?_
          refine wpWa rfl rfl fun K hK => ?_
          go_simp
          refine (C2.out _ k7).mono ?_
          rintro e w8 ⟨rfl, hk8⟩
          have k8 : Keep NoS w6 w8 := k7.both hk8
          refine hK _ _ ⟨fun _ => HCL.out _ k8, ?_⟩
          clear hK K hk8 k7
          (repeat (go_big_quiet_step (fail))); refine wpQuiet_nil ?_
          refine NoPanic.normal ?_
          have HK8 : Hid (Keep (fun n _ => n = gl) w5 w8) := Lib.hid (HK6.out.trans (S' := NoS) k8 fun _ _ _ h => h.elim)
          have HG8 : Hid (w8.heap[gl]? = some (.cells #[.int .i64 la] TI (0, 0))) := Lib.hid ((k8.block gl gL6 fun _ h => h).trans HG6.out)
          have gf8 : w8.frozen? ⟨gl, 0, none⟩ = false := (k8.frozen gL6).trans gf6
          have g08 := (k8.cell gL6).trans g06
          have gL8 := Nat.lt_of_lt_of_le gL6 k8.size
          have HSX : Hid (Keep (fun n _ => n = gl) w5 (w8.setCell ⟨gl, 0, none⟩ (.int .i64 x)) ∧ (w8.setCell ⟨gl, 0, none⟩ (.int .i64 x)).heap[gl]? = some (.cells #[.int .i64 x] TI (0, 0))) := Lib.hid ⟨HK8.out.setCell _ fun _ => rfl, by rw [Go.Joins.block_setCell HG8.out _]; rfl⟩
          clear HCL z0 z1 zl zm k8 g06 gf6 gL6 C1 C2
          by_cases hlt2 : Cd.atF s la < Cd.atF s x
          case pos =>
            have e3 : decide ((Cd.atF s la : Int) < (Cd.atF s x : Int)) = true := decide_eq_true (by omega)
            have e4 : (Cd.atF s la : Int) < (Cd.atF s x : Int) := by omega
            have HST := Lib.hid (HST.out.trans (by rw [if_pos (.inr hlt2)]))
            clear hlt2 hla
            go_wp2
            go_roundw
            case rel => exact ⟨i + 1, by omega, by go_num, by rw [HST.out]; go_num, HSX.out.1, by rw [HST.out]; exact HSX.out.2⟩
            case measure => simp [intOf]; omega
          case neg =>
            have e3 : decide ((Cd.atF s la : Int) < (Cd.atF s x : Int)) = false := decide_eq_false (by omega)
            have e4 : ¬ (Cd.atF s la : Int) < (Cd.atF s x : Int) := by omega
            have HST := Lib.hid (HST.out.trans (by rw [if_neg (fun h => h.elim hla hlt2)]))
            clear hlt2 hla
            go_wp2
            go_roundw
            case rel => exact ⟨i + 1, by omega, by go_num, by rw [HST.out]; go_num, HK8.out, by rw [HST.out]; exact HG8.out⟩
            case measure => simp [intOf]; omega
end Go.Proofs.YtnndmdfjdodiiaaGreat
