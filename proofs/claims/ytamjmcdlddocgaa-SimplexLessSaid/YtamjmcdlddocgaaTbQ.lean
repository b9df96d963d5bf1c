/- Package tableau's New: the walk. -/
import Derived.Test.YtamjmcdlddocgaaTbP
namespace Go.Proofs.Ytamjmcdlddocgaa
open Go.ChangeShapes Go.WideShapes Go.RowKit Go.Maps
set_option linter.unusedVariables false
set_option linter.unusedSimpArgs false

theorem NS.init {w w2 : World} {n m : Nat} {A : Array Value} {t : TypeId} (hn2 : NumBlk w2 (w.heap.size + 1) (flatP (List.replicate (n + m) pr0))) (hk2 : Keep NoS (w.alloc (.map #[] 0)) w2) :
    NS w (w2.alloc (.cells A t)) w2.heap.size w.heap.size (w.heap.size + 1) n m 0 0 (.slice none 0 0) (.slice none 0 0) [] := by
  have k3 : Keep NoS (w.alloc (.map #[] 0)) (w2.alloc (.cells A t)) := hk2.alloc _
  have hlt := hn2.lt
  have hm : MBlk (w.alloc (.map #[] 0)) w.heap.size 0 ((List.range 0).map fun i => n + i) := ⟨.map [], World.ownsMap_made (H := Unit) w Try.prog 3 (plainElem Try.prog 3), fun i hi => absurd hi (by simp)⟩
  refine ⟨((Keep.refl _ _).alloc _).both k3, OwnI.nil _ _, OwnG.nil _ _, by simp, List.Pairwise.nil, hn2.keep ((Keep.refl _ _).alloc _), hm.keep k3, apart_nil _, by simp, ?_, ?_, ⟨by omega, by omega, by omega⟩, ⟨by omega, by omega, Nat.le_refl _⟩, by simp⟩
  · exact ⟨by simp [Value.ownBlock], by simp [Value.ownBlock], by simp [Value.ownBlock]⟩
  · exact ⟨by simp [Value.ownBlock], by simp [Value.ownBlock], by simp [Value.ownBlock]⟩

set_option maxRecDepth 100000 in
set_option maxHeartbeats 32000000 in
theorem tabNew_any (w : World) (vr : Value) (rows : List Rw) (n : Nat) (hr : IsRows w vr rows) (hok : ∀ r ∈ rows, RowOK r n) (hn : n ≤ 12) (h40 : rows.length ≤ 40) :
    Calls Try.prog 30 #[vr, .int .i64 (n : Int)] w fun e w' => ∃ bT, e = .returned (.pointer (some ⟨bT, 0, none⟩)) ∧ IsT w w' bT rows.length (TS.start n rows) := by
  have HR := Lib.hid hr
  have HOK := Lib.hid hok
  obtain ⟨oa, ca, hvr, _, _⟩ := hr.len
  obtain ⟨m, hm⟩ : ∃ m, rows.length = m := ⟨_, rfl⟩
  obtain ⟨KN, hK⟩ : ∃ KN, n + m = KN := ⟨_, rfl⟩
  have HMM := Lib.hid hm
  have HKK := Lib.hid hK
  have HKE : Hid (KN = n + m) := Lib.hid hK.symm
  have hK52 : KN ≤ 52 := by omega
  have hm40 : m ≤ 40 := by omega
  rw [hm] at hvr
  have HVR := Lib.hid hvr
  subst hvr
  have eK : (n : Int) + (m : Int) = (KN : Int) := by omega
  have ew : IntKind.i64.wrap (KN : Int) = (KN : Int) := Go.IntWalk.i64_in _ (by omega)
  clear hr hok hm h40
  have hmk : (Instr.makeMap 109 none).run Try.prog w = .ok (.map (some w.heap.size)) (w.alloc (.map #[] 0)) := rfl
  obtain ⟨w2, hr2, hn2, hk2⟩ := make_vals (w.alloc (.map #[] 0)) KN (by omega)
  rw [show (w.alloc (.map #[] 0)).heap.size = w.heap.size + 1 by simp] at hr2 hn2
  rw [← hK] at hn2
  have HI := Lib.hid (NS.init (A := #[.int .i64 n, .slice oa m ca, .slice none 0 0, .map (some w.heap.size), .slice none 0 0, .slice (some ⟨w.heap.size + 1, 0, none⟩) KN KN, .slice none 0 0]) (t := 112) hn2 hk2)
  have HT := Lib.hid (show TBlk (w2.alloc (.cells #[.int .i64 n, .slice oa m ca, .slice none 0 0, .map (some w.heap.size), .slice none 0 0, .slice (some ⟨w.heap.size + 1, 0, none⟩) KN KN, .slice none 0 0] 112)) w2.heap.size n (.slice oa m ca) (.slice none 0 0) (.map (some w.heap.size)) (.slice none 0 0) (.slice (some ⟨w.heap.size + 1, 0, none⟩) KN KN) (.slice none 0 0) from blk_at _ _ rfl)
  clear hn2 hk2 hK
  go_enter Try.func30, Try.ntmps30
  go_upto_region 2 with fail
  clear hr2 hmk
  generalize w2.alloc (.cells #[.int .i64 n, .slice oa m ca, .slice none 0 0, .map (some w.heap.size), .slice none 0 0, .slice (some ⟨w.heap.size + 1, 0, none⟩) KN KN, .slice none 0 0] 112) = w3 at *
  generalize w2.heap.size = bT at *
  generalize hgm : w.heap.size = gm at *
  have HWG := Lib.hid hgm
  clear hgm
  go_wp2
  go_loopw [23] (fun s wr => ∃ (k : Nat) (vb vc : Value) (xs : List NmV), k ≤ m ∧ s = .int .i64 k ∧ NS w wr bT gm (gm + 1) n m k k vb vc xs ∧ xs.map NmV.q = (TS.start n rows).cells.take k ∧ TBlk wr bT n (.slice oa m ca) vb (.map (some gm)) vc (.slice (some ⟨gm + 1, 0, none⟩) KN KN) (.slice none 0 0)) (fun s _ => (m - intOf s).toNat)
  case atStart => exact ⟨0, _, _, [], by omega, rfl, HI.out, by simp, HT.out⟩
  case round =>
    obtain ⟨k, vb, vc, xs, hk, rfl, hns, hxs, htb⟩ := hrel
    have HNS := Lib.hid hns
    have HXS := Lib.hid hxs
    have HTB := Lib.hid htb
    clear hns hxs htb HI HT
    by_cases hkm : k < m
    case neg =>
      have hlt : ¬ (k : Int) < (m : Int) := by omega
      obtain rfl : k = m := by omega
      have HRES : Hid (IsT w wr bT rows.length (TS.start n rows)) := Lib.hid (by
        have hm := HMM.out
        have hkn := HKK.out
        have h1 := HNS.out
        have h2 := HXS.out
        have h3 := HTB.out
        have h4 := HVR.out
        clear HNS HXS HTB
        subst hm
        subst hkn
        rw [List.take_of_length_le (by simp [TS.start])] at h2
        exact h1.done h2 h3 HR.out hn hm40)
      go_wp2
      go_ret
      exact ⟨bT, rfl, HRES.out⟩
    case pos =>
      have hlt : (k : Int) < (m : Int) := by omega
      have hkr : k < rows.length := by have := HMM.out; omega
      obtain ⟨b, o, rfl, hbl, hrow⟩ := HR.out.at hkr
      have hok := HOK.out _ (List.getElem_mem hkr)
      have HTK := Lib.hid (start_take (n := n) hkr)
      generalize rows[k] = r at *
      obtain ⟨os, cs, p0, p1, p2, hrow⟩ := hrow.row
      have p0 := (HNS.out.k.cell hbl).trans p0
      have p1 := (HNS.out.k.cell hbl).trans p1
      have p2 := (HNS.out.k.cell hbl).trans p2
      have hblr := Nat.lt_of_lt_of_le hbl HNS.out.k.size
      have hrlen : r.of.length ≤ n := by have := hok.len; omega
      have HFT := Lib.hid hok.fit
      have HIR := Lib.hid hrow
      clear hok hrow
      have ka : Keep NoS wr (wr.alloc (.cells #[.slice os r.of.length cs, .int .i64 r.kind, .int .i64 r.to] 42)) := (Keep.refl _ _).alloc _
      have HB7 : Hid (Blk (wr.alloc (.cells #[.slice os r.of.length cs, .int .i64 r.kind, .int .i64 r.to] 42)) wr.heap.size #[.slice os r.of.length cs, .int .i64 r.kind, .int .i64 r.to]) := Lib.hid (blk_at _ _ rfl)
      go_upto_region 5 with fail
      have HNS := Lib.hid (HNS.out.keep ka)
      have HTB := Lib.hid (HTB.out.keep ka)
      clear ka p0 p1 p2 hblr
      generalize wr.alloc (.cells #[.slice os r.of.length cs, .int .i64 r.kind, .int .i64 r.to] 42) = wa at *
      generalize wr.heap.size = b7 at *
      obtain ⟨wb, hrb, hnb, hkb⟩ := make_nums wa KN (by omega)
      go_upto_region 6 with fail
      clear hrb
      have HB7 := Lib.hid (HB7.out.keep hkb)
      have HCG := Lib.hid (And.intro (HNS.out.fresh (Nat.le_refl wa.heap.size)) (And.intro (show wa.heap.size ≠ bT by have := HNS.out.lt; omega) (show w.heap.size ≤ wa.heap.size from HNS.out.k.size)))
      have HNS := Lib.hid (HNS.out.keep hkb)
      have HTB := Lib.hid (HTB.out.keep hkb)
      have HQ : Hid (NumBlk wb wa.heap.size (lineK r.of KN 0)) := Lib.hid (by rw [lineK_zero]; exact hnb)
      clear hnb hkb
      generalize wa.heap.size = g at *
      obtain ⟨s0, s1, s2, _, _, _, l7⟩ := HB7.out.three
      go_wp2
      clear s0 s1 s2 l7
      have HIN : Hid (IsInts w (.slice os r.of.length cs) r.of) := Lib.hid (by obtain ⟨sv, hsv, h, _⟩ := HIR.out; cases hsv; exact h)
      go_loopw [36] (fun s wr => ∃ j : Nat, j ≤ r.of.length ∧ s = .int .i64 j ∧ NS w wr bT gm (gm + 1) n m k k vb vc xs ∧ TBlk wr bT n (.slice (some ⟨b, o, none⟩) m ca) vb (.map (some gm)) vc (.slice (some ⟨gm + 1, 0, none⟩) KN KN) (.slice none 0 0) ∧ NumBlk wr g (lineK r.of KN j)) (fun s _ => (r.of.length - intOf s).toNat)
      case atStart => exact ⟨0, by omega, rfl, HNS.out, HTB.out, HQ.out⟩
      case round =>
        obtain ⟨j, hj, rfl, hns, htb, hq⟩ := hrel
        clear HNS HTB HQ HB7
        have HNS := Lib.hid hns
        have HTB := Lib.hid htb
        have HQ := Lib.hid hq
        clear hns htb hq
        by_cases hjl : j < r.of.length
        case pos =>
          have hltj : (j : Int) < (r.of.length : Int) := by omega
          have hjK : j < KN := by have := HKE.out; omega
          have hjKI : (j : Int) < (KN : Int) := by omega
          obtain ⟨bi, oi, ci, hsl, hbi, hc⟩ := HIN.out.at hjl
          cases hsl
          have p0 := (HNS.out.k.cell hbi).trans hc
          have hbir := Nat.lt_of_lt_of_le hbi HNS.out.k.size
          have hfx := HFT.out _ (List.getElem_mem hjl)
          have HST := Lib.hid (lineK_step hjl hjK)
          generalize r.of[j] = x at *
          unfold fitI at hfx
          have CI := fun w => Lib.hid (exInt_any w x (by omega) (by omega))
          obtain ⟨⟨xb, xS, xc, xU⟩, hx, hxn⟩ := numInt x
          rw [hx] at CI
          unfold NV.v at CI
          simp only at CI
          have HXN := Lib.hid hxn
          clear hx hxn hc
          go_wp2_with fail
          refine (CI _).out.mono ?_
          rintro e w2' ⟨rfl, hk2⟩
          have HNS := Lib.hid (HNS.out.keep hk2)
          have HTB := Lib.hid (HTB.out.keep hk2)
          have HQ := Lib.hid (HQ.out.keep hk2)
          clear hk2 CI p0 hbir
          obtain ⟨_, _, _, _, g0, g1, g2, g3, _, f0, f1, f2, f3⟩ := HQ.out.at (k := j) (by rw [lineK_len]; exact hjK)
          have hg6 := HQ.out.lt
          go_wp2
          have HQ2 : Hid (NumBlk (w4 w2' g (j * 4) ⟨xb, xS, xc, xU⟩) g (lineK r.of KN (j + 1))) := Lib.hid (by rw [← HST.out]; exact HQ.out.set4 HXN.out)
          have HO : ∀ b, b ≠ g → (w4 w2' g (j * 4) ⟨xb, xS, xc, xU⟩).heap[b]? = w2'.heap[b]? := fun b hb => w4_other hb
          have hk4 : Keep NoS w (w4 w2' g (j * 4) ⟨xb, xS, xc, xU⟩) := w4_keep HNS.out.k HCG.out.2.2
          have HNS2 := Lib.hid (HNS.out.other hk4 (by simp [w4]) (fun b _ hb => HO b hb) HCG.out.1)
          have HTB2 := Lib.hid (Blk.same HTB.out (HO bT HCG.out.2.1.symm))
          clear HO hk4
          rw [show ((((w2'.setCell ⟨g, j * 4, none⟩ (.bool xb)).setCell ⟨g, j * 4 + 1, none⟩ (.string xS)).setCell ⟨g, j * 4 + 2, none⟩ (.bool xc)).setCell ⟨g, j * 4 + 3, none⟩ (.string xU)) = w4 w2' g (j * 4) ⟨xb, xS, xc, xU⟩ from rfl]
          go_roundw
          case rel => exact ⟨j + 1, by omega, by go_num, HNS2.out, HTB2.out, HQ2.out⟩
          case measure => simp [intOf]; omega
        case neg =>
          have hltj : ¬ (j : Int) < (r.of.length : Int) := by omega
          obtain rfl : j = r.of.length := by omega
          have hxl : xs.length = k := by
            have := congrArg List.length HXS.out
            rw [List.length_map, List.length_take] at this
            have h2 : (TS.start n rows).cells.length = rows.length := by simp [TS.start]
            omega
          have HXL := Lib.hid hxl
          obtain ⟨c, hc⟩ : ∃ c, n + k = c := ⟨_, rfl⟩
          have HCC := Lib.hid hc
          have ec : (n : Int) + (k : Int) = (c : Int) := by omega
          have ecw : IntKind.i64.wrap (c : Int) = (c : Int) := Go.IntWalk.i64_in _ (by omega)
          have hc52 : c ≤ 52 := by omega
          have ka : Keep NoS wr (wr.alloc (.cells #[.slice (some ⟨g, 0, none⟩) KN KN] 66)) := (Keep.refl _ _).alloc _
          have hb0 : Blk (wr.alloc (.cells #[.slice (some ⟨g, 0, none⟩) KN KN] 66)) wr.heap.size #[.slice (some ⟨g, 0, none⟩) KN KN] := blk_at _ _ rfl
          obtain ⟨vc', w5, hr1, hns1, hg1⟩ := (HNS.out.keep ka).line (HQ.out.keep ka) HCG.out.1 HCG.out.2.1 HCG.out.2.2 (b0 := wr.heap.size) (by rw [lineK_len]; exact hb0) (by omega)
          obtain ⟨oc', lc', cc', rfl⟩ : ∃ o l c, vc' = .slice o l c := by obtain ⟨o, c, h, _⟩ := hns1.c.len; exact ⟨o, _, c, h⟩
          have HNS1 := Lib.hid hns1
          have HTB1 := Lib.hid (Blk.same (HTB.out.keep ka) (hg1.block bT (Blk.lt (HTB.out.keep ka)) fun e => HNS.out.nc.2.2 e.symm))
          obtain ⟨_, _, _, _, t4, _, _, tl⟩ := HTB.out.seven
          obtain ⟨_, _, _, _, q4, _, _, ql⟩ := HTB1.out.seven
          have qf := HTB1.out.free 4
          obtain ⟨ov, cv, hvc, _, _⟩ := HNS.out.c.len
          clear hns1 hg1 hb0 hxl hc ka
          have hkS : Keep NoS w (w5.setCell ⟨bT, 4, none⟩ (.slice oc' lc' cc')) := HNS1.out.k.setCell _ fun hh => absurd hh (Nat.not_lt.2 HNS1.out.own.1)
          have HNS2 := Lib.hid (HNS1.out.other hkS (by simp) (fun b _ hb => heap_setCell_other _ _ _ _ hb) HNS1.out.clearT)
          have HTB2 : Hid (TBlk (w5.setCell ⟨bT, 4, none⟩ (.slice oc' lc' cc')) bT n (.slice (some ⟨b, o, none⟩) m ca) vb (.map (some gm)) (.slice oc' lc' cc') (.slice (some ⟨gm + 1, 0, none⟩) KN KN) (.slice none 0 0)) := Lib.hid (HTB1.out.set 4 (.slice oc' lc' cc'))
          have ka : Keep NoS (w5.setCell ⟨bT, 4, none⟩ (.slice oc' lc' cc')) ((w5.setCell ⟨bT, 4, none⟩ (.slice oc' lc' cc')).alloc (.cells #[.int .i64 (c : Int)] 3)) := (Keep.refl _ _).alloc _
          have hb0 : Blk ((w5.setCell ⟨bT, 4, none⟩ (.slice oc' lc' cc')).alloc (.cells #[.int .i64 (c : Int)] 3)) (w5.setCell ⟨bT, 4, none⟩ (.slice oc' lc' cc')).heap.size #[.int .i64 (c : Int)] := blk_at _ _ rfl
          obtain ⟨vb', w7, hr2, hns2, hg2⟩ := (HNS2.out.keep ka).basic (b0 := (w5.setCell ⟨bT, 4, none⟩ (.slice oc' lc' cc')).heap.size) (by rw [HCC.out]; exact hb0) (by have := HCC.out; omega)
          obtain ⟨ob', lb', cb', rfl⟩ : ∃ o l c, vb' = .slice o l c := by obtain ⟨o, c, h⟩ := hns2.b.len; exact ⟨o, _, c, h⟩
          have HNS3 := Lib.hid hns2
          have HTB3 := Lib.hid (Blk.same (HTB2.out.keep ka) (hg2.block bT (Blk.lt (HTB2.out.keep ka)) fun e => HNS2.out.nb.2.2 e.symm))
          obtain ⟨_, _, u2, _, _, _, _, ul⟩ := HTB2.out.seven
          obtain ⟨_, _, q2, _, _, _, _, ql'⟩ := HTB3.out.seven
          have qf2 := HTB3.out.free 2
          have hkS : Keep NoS w (w7.setCell ⟨bT, 2, none⟩ (.slice ob' lb' cb')) := HNS3.out.k.setCell _ fun hh => absurd hh (Nat.not_lt.2 HNS3.out.own.1)
          have HNS4 := Lib.hid (HNS3.out.other hkS (by simp) (fun b _ hb => heap_setCell_other _ _ _ _ hb) HNS3.out.clearT)
          have HTB4 : Hid (TBlk (w7.setCell ⟨bT, 2, none⟩ (.slice ob' lb' cb')) bT n (.slice (some ⟨b, o, none⟩) m ca) (.slice ob' lb' cb') (.map (some gm)) (.slice oc' lc' cc') (.slice (some ⟨gm + 1, 0, none⟩) KN KN) (.slice none 0 0)) := Lib.hid (HTB3.out.set 2 (.slice ob' lb' cb'))
          obtain ⟨_, _, _, v3, _, _, _, vl⟩ := HTB4.out.seven
          obtain ⟨D, hown, hat⟩ := HNS4.out.mp
          have HAT := Lib.hid hat
          have hown0 := Lib.hid hown.isMap
          have law : Keyed Try.prog 3 := int_keyed Try.underlying3
          have hkc : keyOf Try.prog 3 (.int .i64 (c : Int)) = some (.int .i64 (c : Int)) := keyOf_int_mk Try.underlying3 (WalkArith.wf_i64 (by omega))
          have hval : plainElem Try.prog 3 (.int .i64 (k : Int)) = some (.lit (.int .i64 (k : Int)), []) := plainElem_int (H := Unit) Try.underlying3 (a := (k : Int)) (WalkArith.wf_i64 (by omega))
          have hszS : (w5.setCell ⟨bT, 4, none⟩ (.slice oc' lc' cc')).heap.size = w5.heap.size := by simp
          rw [hszS] at hr2
          have hkx : k < maxLen := by unfold maxLen; omega
          clear hat hns2 hg2 hb0 ka hkS hszS hvc HTB3 HNS3 HTB2 HNS2
          go_wp2_with (first | (at_builtin; first | refine wpList_app_run _ _ 87 _ _ rfl rfl rfl rfl hr1 ?_ | refine wpList_app_run _ _ 40 _ _ rfl rfl rfl rfl hr2 ?_) | (at_mapUpdate; refine wpList_mapUpdate_own _ rfl _ _ _ 109 rfl 3 3 law Try.underlying109 _ gm k D rfl hown hkx _ _ (.int .i64 (c : Int)) rfl rfl hkc (.lit (.int .i64 (k : Int))) [] hval ?_; intro w9 hown1 hgrow1))
          have HNS5 := Lib.hid (HNS4.out.mapped HAT.out hown0.out (by rw [HCC.out]; exact hown1) hgrow1)
          have HTB5 := Lib.hid (Blk.same HTB4.out (hgrow1.block bT vl fun e => HNS4.out.ap.2.1 (Option.some.inj e)))
          have HX5 : Hid ((xs ++ [⟨g, lineK r.of KN r.of.length⟩] : List NmV).map NmV.q = (TS.start n rows).cells.take (k + 1)) := Lib.hid (by
            rw [HTK.out, List.map_append, HXS.out, HMM.out, ← HKE.out]; rfl)
          go_roundw
          case rel => exact ⟨k + 1, _, _, _, by omega, by go_num, HNS5.out, HX5.out, HTB5.out⟩
          case measure => simp [intOf]; omega
end Go.Proofs.Ytamjmcdlddocgaa
