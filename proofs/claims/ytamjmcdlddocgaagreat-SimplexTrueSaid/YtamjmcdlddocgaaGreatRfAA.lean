/- The reference's Column. The reference's Strict. The reference's ToNone. -/
import Derived.Test.YtamjmcdlddocgaaGreatFkAA
import Derived.Test.YtamjmcdlddocgaaGreatPtAA
import Derived.Test.YtamjmcdlddocgaaGreatExAA
namespace Go.Proofs.YtamjmcdlddocgaaGreat
open Go.ChangeShapes Go.WideShapes Go.RowKit
set_option linter.unusedVariables false
set_option linter.unusedSimpArgs false
def cellZ (r : Rw) (N k : Nat) : Int := if k < N then r.of.getD k 0 else r.to
def refCol (rows : List Rw) (ts : List Rat) (N k i : Nat) : Rat := if k < N then colK rows ts k i else toK rows ts i
theorem refCol_zero {rows : List Rw} {ts : List Rat} {N k : Nat} : refCol rows ts N k 0 = 0 := by unfold refCol; split <;> rfl
theorem refCol_succ {rows : List Rw} {ts : List Rat} {N k i : Nat} : refCol rows ts N k (i + 1) = refCol rows ts N k i + ts.getD i 0 * (cellZ (rows.getD i nilRw) N k : Rat) := by
 unfold refCol cellZ
 split
 ·simp only [colK]; rw [Rat.mul_comm]
 ·simp only [toK]; rw [Rat.mul_comm]
theorem nb_refCol {rows : List Rw} {ts : List Rat} {N k : Nat} {n : Int} (hr : ∀ r ∈ rows, RowOK r n) (ht : ∀ q ∈ ts, NB 1 q) (i : Nat) : NB (3 * i + 1) (refCol rows ts N k i) := by
 unfold refCol
 split
 ·exact nb_col hr ht k i
 ·exact nb_to hr ht i
set_option maxRecDepth 100000 in
set_option maxHeartbeats 16000000 in
theorem refCol_any (w : World) (v : Value) (rows : List Rw) (N k : Nat) (vt : Value) (times : List Fq) (h : IsRows w v rows) (ht : IsFracs w vt times) (hok : ∀ r ∈ rows, RowOK r N) (h40 : rows.length ≤ 40) (hlen : times.length = rows.length) (hfr : ∀ g ∈ times, FracOK g.N g.D) :
  Calls Tryz.prog 37 #[v, .int .i64 (N : Int), vt, .int .i64 (k : Int)] w (NewR (refCol rows (times.map Fq.q) N k rows.length) w) := by
 have HR := Lib.hid h
 have HT := Lib.hid ht
 have HOK := Lib.hid hok
 have HFR := Lib.hid hfr
 have HLEN := Lib.hid hlen
 have hnt : ∀ q ∈ times.map Fq.q, NB 1 q := by
  intro q hq
  obtain ⟨g, hg, rfl⟩ := List.mem_map.1 hq
  exact nb_frac (hfr g hg)
 have HNTS := Lib.hid hnt
 obtain ⟨oa, ca, rfl, _, hma⟩ := h.len
 obtain ⟨ot, ct, rfl, _, hmt⟩ := ht.len
 unfold maxLen at hma hmt
 clear h ht hok hfr hlen hnt
 go_enter Tryz.func37, Tryz.ntmps37
 go_wp2_with fail
 refine (newRat_any _ 0 1 (by omega) (by omega) (by omega) (by omega) (by omega)).mono ?_
 rintro e w1 ⟨b1, hb1, rfl, hk1, hi1⟩
 have HK1 := Lib.hid hk1
 have HI1 : Hid (IsRat w1 b1 0 (refCol rows (times.map Fq.q) N k 0)) := Lib.hid (by rw [refCol_zero]; rw [divInt_one] at hi1; exact hi1)
 have HB1 := Lib.hid hb1
 clear hk1 hi1 hb1
 go_wp2
 go_loopw [9, 10] (fun s t wr => ∃ i b : Nat, i ≤ rows.length ∧ t = .int .i64 i ∧ s = .pointer (some ⟨b, 0, none⟩) ∧ w.heap.size ≤ b ∧ Keep NoS w wr ∧ IsRat wr b 0 (refCol rows (times.map Fq.q) N k i)) (fun _ t _ => (rows.length - intOf t).toNat)
 case atStart => exact ⟨0, b1, by omega, rfl, rfl, HB1.out, HK1.out, HI1.out⟩
 case round =>
  obtain ⟨i, b, hi, rfl, rfl, hb, hkr, hsum⟩ := hrel
  have HKR := Lib.hid hkr
  have HSU := Lib.hid hsum
  have HB := Lib.hid hb
  clear hkr hsum hb HK1 HI1 HB1
  by_cases hil : i < rows.length
  case neg =>
   have hlt : ¬ (i : Int) < (rows.length : Int) := by omega
   obtain rfl : i = rows.length := by omega
   go_wp2
   go_ret
   exact ⟨b, HB.out, rfl, HKR.out, HSU.out⟩
  case pos =>
   have hlt : (i : Int) < (rows.length : Int) := by omega
   have hit : i < times.length := by have := HLEN.out; omega
   have hltt : (i : Int) < (times.length : Int) := by omega
   obtain ⟨br, o, rfl, hbl, hrow⟩ := HR.out.at hil
   obtain ⟨os, cs, r0, r1, r2, hrow⟩ := hrow.row
   obtain ⟨bt, ot', rfl, hbt, p0, p1⟩ := HT.out.at hit
   have r0 := (HKR.out.cell hbl).trans r0
   have r2 := (HKR.out.cell hbl).trans r2
   have p0 := (HKR.out.cell hbt).trans p0
   have p1 := (HKR.out.cell hbt).trans p1
   have hblr := Nat.lt_of_lt_of_le hbl HKR.out.size
   have hbtr := Nat.lt_of_lt_of_le hbt HKR.out.size
   have hokr := HOK.out _ (List.getElem_mem hil)
   have hfk := HFR.out _ (List.getElem_mem hit)
   have HSTEP : Hid (refCol rows (times.map Fq.q) N k i + (times[i]).q * (cellZ rows[i] N k : Rat) = refCol rows (times.map Fq.q) N k (i + 1)) := Lib.hid (by rw [refCol_succ, row_getD hil, map_getD hit])
   have HNS := Lib.hid ((nb_refCol (N := N) (k := k) HOK.out HNTS.out i).mono (k := 2000) (by omega))
   have hfc : fitI (cellZ rows[i] N k) := by
    unfold cellZ
    split
    ·have := (row_fit HOK.out i k).1; rwa [row_getD hil] at this
    ·exact hokr.fto
   have HNT := Lib.hid ((nb_frac hfk).mono (k := 2000) (by omega))
   have HNC := Lib.hid ((nb_fitI hfc).mono (k := 2000) (by omega))
   have HNP := Lib.hid (((nb_frac hfk).mul (nb_fitI hfc)).mono (k := 2000) (by omega))
   have hcz : cellZ rows[i] N k = if k < N then (rows[i]).of.getD k 0 else (rows[i]).to := rfl
   generalize rows[i] = r at *
   obtain ⟨sv, hsv, hint, _⟩ := hrow
   cases hsv
   have HIN := Lib.hid hint
   generalize cellZ r N k = c at *
   unfold fitI at hfc
   obtain ⟨d1, d2, d3, d4, _⟩ := hfk
   have HTQ : Hid ((times[i]).q = Rat.divInt times[i].N times[i].D) := Lib.hid rfl
   rw [HTQ.out] at HSTEP HNT HNP
   generalize times[i].N = gn at *
   generalize times[i].D = gd at *
   clear hint hokr HTQ
   by_cases hkn : k < N
   case neg =>
    have e1 : ¬ (k : Int) < (N : Int) := by omega
    rw [if_neg hkn] at hcz
    rw [← hcz] at r2
    clear hcz hkn
    go_wp2_with fail
    have ka : Keep NoS wr (wr.alloc (.cells ratCells 62)) := (Keep.refl _ _).alloc _
    have kb : Keep NoS (wr.alloc (.cells ratCells 62)) ((wr.alloc (.cells ratCells 62)).alloc (.cells ratCells 62)) := (Keep.refl _ _).alloc _
    refine (refRat_any gn gd _ (by omega) (by omega) (by omega) (by omega) (by omega)).mono ?_
    rintro e w3 ⟨b1, hb1, rfl, hk3, hi1⟩
    have ka3 := Lib.hid (kb.both hk3)
    have HH5 := Lib.hid ((rhdr_new (wr.alloc (.cells ratCells 62))).ofNewer hk3)
    rw [show (wr.alloc (.cells ratCells 62)).heap.size = wr.heap.size + 1 from by simp] at HH5
    have HI1 := Lib.hid hi1
    clear kb hk3 hi1 p0 p1 r0 r1 r2
    go_wp2_with fail
    refine (newRat_any _ c 1 (by omega) (by omega) (by omega) (by omega) (by omega)).mono ?_
    rintro e w4 ⟨b2, hb2, rfl, hk4, hi2⟩
    have ka4 := Lib.hid (ka3.out.both hk4)
    have HH5 := Lib.hid (HH5.out.ofNewer hk4)
    have HI1 := Lib.hid (HI1.out.ofNewer hk4)
    have HI2 := Lib.hid hi2
    rw [divInt_one] at HI2
    clear hk4 hi2 ka3
    go_wp2_with fail
    refine (wMul_any w4 (wr.heap.size + 1) 0 b1 0 b2 0 _ _ HH5.out HI1.out HI2.out HNT.out HNC.out).mono ?_
    rintro e w5 ⟨rfl, hk5, hi5⟩
    have ka5 := Lib.hid (ka4.out.newerR hk5 (by simp))
    have K5 := Lib.hid (ka.both ka5.out)
    have HH3 := Lib.hid ((rhdr_new wr).ofNewer ka5.out)
    have HI5 := Lib.hid hi5
    clear hk5 hi5 ka4 HH5 HI1 HI2
    go_wp2_with fail
    refine (wAdd_any w5 wr.heap.size 0 b 0 (wr.heap.size + 1) 0 _ _ HH3.out (HSU.out.ofNewer K5.out) HI5.out HNS.out HNP.out).mono ?_
    rintro e w6 ⟨rfl, hk6, hi6⟩
    have K6 := Lib.hid (K5.out.newerR hk6 (Nat.le_refl _))
    rw [HSTEP.out] at hi6
    have HI6 := Lib.hid hi6
    clear hk6 hi6 HH3 HI5
    go_wp2
    go_roundw
    case rel => exact ⟨i + 1, _, by omega, by go_num, rfl, HKR.out.size, HKR.out.both K6.out, HI6.out⟩
    case measure => simp [intOf]; omega
   case pos =>
    have e1 : (k : Int) < (N : Int) := by omega
    rw [if_pos hkn] at hcz
    by_cases hkl : k < r.of.length
    case neg =>
     have e2 : ¬ (k : Int) < (r.of.length : Int) := by omega
     rw [getD_out (by omega)] at hcz
     subst hcz
     go_wp2_with fail
     have ka : Keep NoS wr (wr.alloc (.cells ratCells 62)) := (Keep.refl _ _).alloc _
     have kb : Keep NoS (wr.alloc (.cells ratCells 62)) ((wr.alloc (.cells ratCells 62)).alloc (.cells ratCells 62)) := (Keep.refl _ _).alloc _
     refine (refRat_any gn gd _ (by omega) (by omega) (by omega) (by omega) (by omega)).mono ?_
     rintro e w3 ⟨b1, hb1, rfl, hk3, hi1⟩
     have ka3 := Lib.hid (kb.both hk3)
     have HH5 := Lib.hid ((rhdr_new (wr.alloc (.cells ratCells 62))).ofNewer hk3)
     rw [show (wr.alloc (.cells ratCells 62)).heap.size = wr.heap.size + 1 from by simp] at HH5
     have HI1 := Lib.hid hi1
     clear kb hk3 hi1 p0 p1 r0 r1 r2
     go_wp2_with fail
     refine (newRat_any _ 0 1 (by omega) (by omega) (by omega) (by omega) (by omega)).mono ?_
     rintro e w4 ⟨b2, hb2, rfl, hk4, hi2⟩
     have ka4 := Lib.hid (ka3.out.both hk4)
     have HH5 := Lib.hid (HH5.out.ofNewer hk4)
     have HI1 := Lib.hid (HI1.out.ofNewer hk4)
     have HI2 := Lib.hid hi2
     rw [divInt_one] at HI2
     clear hk4 hi2 ka3
     go_wp2_with fail
     refine (wMul_any w4 (wr.heap.size + 1) 0 b1 0 b2 0 _ _ HH5.out HI1.out HI2.out HNT.out HNC.out).mono ?_
     rintro e w5 ⟨rfl, hk5, hi5⟩
     have ka5 := Lib.hid (ka4.out.newerR hk5 (by simp))
     have K5 := Lib.hid (ka.both ka5.out)
     have HH3 := Lib.hid ((rhdr_new wr).ofNewer ka5.out)
     have HI5 := Lib.hid hi5
     clear hk5 hi5 ka4 HH5 HI1 HI2
     go_wp2_with fail
     refine (wAdd_any w5 wr.heap.size 0 b 0 (wr.heap.size + 1) 0 _ _ HH3.out (HSU.out.ofNewer K5.out) HI5.out HNS.out HNP.out).mono ?_
     rintro e w6 ⟨rfl, hk6, hi6⟩
     have K6 := Lib.hid (K5.out.newerR hk6 (Nat.le_refl _))
     rw [HSTEP.out] at hi6
     have HI6 := Lib.hid hi6
     clear hk6 hi6 HH3 HI5
     go_wp2
     go_roundw
     case rel => exact ⟨i + 1, _, by omega, by go_num, rfl, HKR.out.size, HKR.out.both K6.out, HI6.out⟩
     case measure => simp [intOf]; omega
    case pos =>
     have e2 : (k : Int) < (r.of.length : Int) := by omega
     obtain ⟨bi, oi, cp, hsl, hbi, hxi0⟩ := HIN.out.at hkl
     simp at hsl
     obtain ⟨rfl, rfl⟩ := hsl
     have hxi := (HKR.out.cell hbi).trans hxi0
     clear hxi0
     have hbir := Nat.lt_of_lt_of_le hbi HKR.out.size
     rw [List.getD_eq_getElem?_getD, List.getElem?_eq_getElem hkl] at hcz
     have hcz' : c = r.of[k] := hcz
     clear hcz
     subst hcz'
     go_wp2_with fail
     have ka : Keep NoS wr (wr.alloc (.cells ratCells 62)) := (Keep.refl _ _).alloc _
     have kb : Keep NoS (wr.alloc (.cells ratCells 62)) ((wr.alloc (.cells ratCells 62)).alloc (.cells ratCells 62)) := (Keep.refl _ _).alloc _
     refine (refRat_any gn gd _ (by omega) (by omega) (by omega) (by omega) (by omega)).mono ?_
     rintro e w3 ⟨b1, hb1, rfl, hk3, hi1⟩
     have ka3 := Lib.hid (kb.both hk3)
     have HH5 := Lib.hid ((rhdr_new (wr.alloc (.cells ratCells 62))).ofNewer hk3)
     rw [show (wr.alloc (.cells ratCells 62)).heap.size = wr.heap.size + 1 from by simp] at HH5
     have HI1 := Lib.hid hi1
     clear kb hk3 hi1 p0 p1 r0 r1 r2 hxi
     go_wp2_with fail
     refine (newRat_any _ _ 1 (by omega) (by omega) (by omega) (by omega) (by omega)).mono ?_
     rintro e w4 ⟨b2, hb2, rfl, hk4, hi2⟩
     have ka4 := Lib.hid (ka3.out.both hk4)
     have HH5 := Lib.hid (HH5.out.ofNewer hk4)
     have HI1 := Lib.hid (HI1.out.ofNewer hk4)
     have HI2 := Lib.hid hi2
     rw [divInt_one] at HI2
     clear hk4 hi2 ka3
     go_wp2_with fail
     refine (wMul_any w4 (wr.heap.size + 1) 0 b1 0 b2 0 _ _ HH5.out HI1.out HI2.out HNT.out HNC.out).mono ?_
     rintro e w5 ⟨rfl, hk5, hi5⟩
     have ka5 := Lib.hid (ka4.out.newerR hk5 (by simp))
     have K5 := Lib.hid (ka.both ka5.out)
     have HH3 := Lib.hid ((rhdr_new wr).ofNewer ka5.out)
     have HI5 := Lib.hid hi5
     clear hk5 hi5 ka4 HH5 HI1 HI2
     go_wp2_with fail
     refine (wAdd_any w5 wr.heap.size 0 b 0 (wr.heap.size + 1) 0 _ _ HH3.out (HSU.out.ofNewer K5.out) HI5.out HNS.out HNP.out).mono ?_
     rintro e w6 ⟨rfl, hk6, hi6⟩
     have K6 := Lib.hid (K5.out.newerR hk6 (Nat.le_refl _))
     rw [HSTEP.out] at hi6
     have HI6 := Lib.hid hi6
     clear hk6 hi6 HH3 HI5
     go_wp2
     go_roundw
     case rel => exact ⟨i + 1, _, by omega, by go_num, rfl, HKR.out.size, HKR.out.both K6.out, HI6.out⟩
     case measure => simp [intOf]; omega
end Go.Proofs.YtamjmcdlddocgaaGreat
namespace Go.Proofs.YtamjmcdlddocgaaGreat
open Go.ChangeShapes Go.WideShapes Go.RowKit
set_option linter.unusedVariables false
set_option linter.unusedSimpArgs false
theorem q_zeroS {g : Fq} (h : FracOK g.N g.D) : g.q = 0 ↔ g.N = 0 := by
 have hd := h.1
 show Rat.divInt g.N g.D = 0 ↔ g.N = 0
 constructor
 ·intro h
  rw [← Rat.zero_divInt g.D, Rat.divInt_eq_divInt_iff (by omega) (by omega), Int.zero_mul] at h
  rcases Int.mul_eq_zero.1 h with h | h
  ·exact h
  ·omega
 ·intro h; rw [h, Rat.zero_divInt]
theorem strK_mono {rows : List Rw} {ts : List Rat} {k : Nat} (h : strK rows ts k = true) : ∀ j, strK rows ts (k + j) = true
 | 0 => h
 | j + 1 => by show strK rows ts (k + j + 1) = true; simp only [strK]; rw [strK_mono h j]; rfl
set_option maxRecDepth 100000 in
set_option maxHeartbeats 8000000 in
theorem refStrict_any (w : World) (v : Value) (rows : List Rw) (vt : Value) (times : List Fq) (h : IsRows w v rows) (ht : IsFracs w vt times) (hlen : times.length = rows.length) (hfr : ∀ g ∈ times, FracOK g.N g.D) :
  Calls Tryz.prog 38 #[v, vt] w fun e w' => e = .returned (.bool (strK rows (times.map Fq.q) rows.length)) ∧ Keep NoS w w' := by
 have HR := Lib.hid h
 have HT := Lib.hid ht
 have HFR := Lib.hid hfr
 have HLEN := Lib.hid hlen
 obtain ⟨oa, ca, rfl, _, hma⟩ := h.len
 obtain ⟨ot, ct, rfl, _, hmt⟩ := ht.len
 unfold maxLen at hma hmt
 clear h ht hfr hlen
 go_enter Tryz.func38, Tryz.ntmps38
 go_wp2
 go_loopw [5] (fun s wr => ∃ k : Nat, k ≤ rows.length ∧ s = .int .i64 k ∧ strK rows (times.map Fq.q) k = false ∧ Keep NoS w wr) (fun s _ => (rows.length - intOf s).toNat)
 case atStart => exact ⟨0, by omega, rfl, rfl, Keep.refl _ _⟩
 case round =>
  obtain ⟨k, hk, rfl, hs, hkr⟩ := hrel
  have HS := Lib.hid hs
  have HKR := Lib.hid hkr
  clear hs hkr
  by_cases hkl : k < rows.length
  case neg =>
   have hlt : ¬ (k : Int) < (rows.length : Int) := by omega
   obtain rfl : k = rows.length := by omega
   go_wp2
   go_ret
   exact ⟨by rw [HS.out]; rfl, HKR.out⟩
  case pos =>
   have hlt : (k : Int) < (rows.length : Int) := by omega
   have hkt : k < times.length := by have := HLEN.out; omega
   have hltt : (k : Int) < (times.length : Int) := by omega
   obtain ⟨b, o, rfl, hbl, hrow⟩ := HR.out.at hkl
   obtain ⟨os, cs, p0, p1, p2, hrow⟩ := hrow.row
   obtain ⟨b', o', rfl, hbl', c0, c1⟩ := HT.out.at hkt
   have p0 := (HKR.out.cell hbl).trans p0
   have p1 := (HKR.out.cell hbl).trans p1
   have p2 := (HKR.out.cell hbl).trans p2
   have c0 := (HKR.out.cell hbl').trans c0
   have c1 := (HKR.out.cell hbl').trans c1
   have hblr := Nat.lt_of_lt_of_le hbl HKR.out.size
   have hblr' := Nat.lt_of_lt_of_le hbl' HKR.out.size
   have hst : strK rows (times.map Fq.q) (k + 1) = (decide (rows[k].kind = 2) && decide ((times[k]).q ≠ 0)) := by
    simp only [strK]
    rw [HS.out, row_getD hkl, map_getD hkt, Bool.false_or]
   have hqz := q_zeroS (HFR.out _ (List.getElem_mem hkt))
   simp only [ne_eq, hqz] at hst
   generalize rows[k] = r at *
   obtain ⟨rof, rkd, rto⟩ := r
   generalize (times[k]).N = gn at *
   generalize (times[k]).D = gd at *
   simp only at p0 p1 p2 hst
   clear hrow hqz
   by_cases h2 : rkd = 2
   case neg =>
    have e1 : (rkd == 2) = false := by rw [beq_eq_false_iff_ne]; exact h2
    have HST : Hid (strK rows (times.map Fq.q) (k + 1) = false) := Lib.hid (by rw [hst]; simp [h2])
    clear hst h2
    go_wp2
    go_roundw
    case rel => exact ⟨k + 1, by omega, by go_num, HST.out, HKR.out⟩
    case measure => simp [intOf]; omega
   case pos =>
    have e1 : (rkd == 2) = true := by rw [beq_iff_eq]; exact h2
    by_cases hg : gn = 0
    case pos =>
     have e2 : (gn != 0) = false := by rw [bne_eq_false_iff_eq]; exact hg
     have HST : Hid (strK rows (times.map Fq.q) (k + 1) = false) := Lib.hid (by rw [hst]; simp [hg])
     clear hst hg h2
     go_wp2
     go_roundw
     case rel => exact ⟨k + 1, by omega, by go_num, HST.out, HKR.out⟩
     case measure => simp [intOf]; omega
    case neg =>
     have e2 : (gn != 0) = true := by rw [bne_iff_ne]; exact hg
     have HST : Hid (strK rows (times.map Fq.q) rows.length = true) := Lib.hid (by
      have h0 : strK rows (times.map Fq.q) (k + 1) = true := by rw [hst]; simp [hg, h2]
      have := strK_mono h0 (rows.length - (k + 1))
      rwa [show k + 1 + (rows.length - (k + 1)) = rows.length by omega] at this)
     clear hst hg h2
     go_wp2
     go_ret
     exact ⟨by rw [HST.out]; rfl, HKR.out⟩
end Go.Proofs.YtamjmcdlddocgaaGreat
namespace Go.Proofs.YtamjmcdlddocgaaGreat
open Go.ChangeShapes Go.WideShapes Go.RowKit
set_option linter.unusedVariables false
set_option linter.unusedSimpArgs false
theorem zeroK_mono {rows : List Rw} {ts : List Rat} {k : Nat} (h : zeroK rows ts k = false) : ∀ j, zeroK rows ts (k + j) = false
 | 0 => h
 | j + 1 => by show zeroK rows ts (k + j + 1) = false; simp only [zeroK]; rw [zeroK_mono h j]; rfl
set_option maxRecDepth 100000 in
set_option maxHeartbeats 16000000 in
theorem refToNone_any (w : World) (v : Value) (rows : List Rw) (N : Nat) (vt : Value) (times : List Fq) (h : IsRows w v rows) (ht : IsFracs w vt times) (hok : ∀ r ∈ rows, RowOK r N) (h40 : rows.length ≤ 40) (hN : N ≤ 12) (hlen : times.length = rows.length) (hfr : ∀ g ∈ times, FracOK g.N g.D) :
  Calls Tryz.prog 13 #[v, .int .i64 (N : Int), vt] w fun e w' => e = .returned (.bool (refB rows (times.map Fq.q) N)) ∧ Keep NoS w w' := by
 have CC0 := fun w' (k : Keep NoS w w') j => refCol_any w' v rows N j vt times (h.keep k) (ht.keep k) hok h40 hlen hfr
 have CC0 := Lib.hid CC0
 have CS := fun w' (k : Keep NoS w w') => Lib.hid (refStrict_any w' v rows vt times (h.keep k) (ht.keep k) hlen hfr)
 have HR := Lib.hid h
 have HT := Lib.hid ht
 have HOK := Lib.hid hok
 have HFR := Lib.hid hfr
 have HLEN := Lib.hid hlen
 have HRC := Lib.hid (fun k (hk : k < N) => show refCol rows (times.map Fq.q) N k rows.length = colK rows (times.map Fq.q) k rows.length from by unfold refCol; rw [if_pos hk])
 have HRT := Lib.hid (show refCol rows (times.map Fq.q) N N rows.length = toK rows (times.map Fq.q) rows.length from by unfold refCol; rw [if_neg (by omega)])
 have HTE := Lib.hid (show refB rows (times.map Fq.q) N = (posK rows (times.map Fq.q) rows.length && (zeroK rows (times.map Fq.q) N && endB rows (times.map Fq.q))) from rfl)
 generalize refB rows (times.map Fq.q) N = tb at *
 obtain ⟨oa, ca, rfl, _, hma⟩ := h.len
 obtain ⟨ot, ct, rfl, _, hmt⟩ := ht.len
 unfold maxLen at hma hmt
 clear h ht hok hfr hlen
 go_enter Tryz.func13, Tryz.ntmps13
 go_wp2
 go_loopw [7] (fun s wr => ∃ k : Nat, k ≤ rows.length ∧ s = .int .i64 k ∧ posK rows (times.map Fq.q) k = true ∧ Keep NoS w wr) (fun s _ => (rows.length - intOf s).toNat)
 case atStart => exact ⟨0, by omega, rfl, rfl, Keep.refl _ _⟩
 case round =>
  obtain ⟨k, hk, rfl, hp, hkr⟩ := hrel
  have HP := Lib.hid hp
  have HKR := Lib.hid hkr
  clear hp hkr
  by_cases hkl : k < rows.length
  case pos =>
   have hlt : (k : Int) < (rows.length : Int) := by omega
   have hkt : k < times.length := by have := HLEN.out; omega
   have hltt : (k : Int) < (times.length : Int) := by omega
   obtain ⟨b, o, rfl, hbl, hrow⟩ := HR.out.at hkl
   obtain ⟨os, cs, p0, p1, p2, hrow⟩ := hrow.row
   obtain ⟨b', o', rfl, hbl', c0, c1⟩ := HT.out.at hkt
   have p1 := (HKR.out.cell hbl).trans p1
   have c0 := (HKR.out.cell hbl').trans c0
   have hblr := Nat.lt_of_lt_of_le hbl HKR.out.size
   have hblr' := Nat.lt_of_lt_of_le hbl' HKR.out.size
   have hst : posK rows (times.map Fq.q) (k + 1) = (decide (rows[k].kind = 3) || decide (0 ≤ (times[k]).N)) := by
    simp only [posK]
    rw [HP.out, row_getD hkl, map_getD hkt]
    simp only [frac_nonneg (HFR.out _ (List.getElem_mem hkt)), Bool.true_and]
   generalize rows[k] = r at *
   obtain ⟨rof, rkd, rto⟩ := r
   generalize (times[k]).N = gn at *
   generalize (times[k]).D = gd at *
   simp only at p1 hst
   clear hrow p0 p2
   by_cases h3 : rkd = 3
   case pos =>
    have e1 : (rkd != 3) = false := by rw [bne_eq_false_iff_eq]; exact h3
    have HST : Hid (posK rows (times.map Fq.q) (k + 1) = true) := Lib.hid (by rw [hst]; simp [h3])
    clear hst h3
    go_wp2
    go_roundw
    case rel => exact ⟨k + 1, by omega, by go_num, HST.out, HKR.out⟩
    case measure => simp [intOf]; omega
   case neg =>
    have e1 : (rkd != 3) = true := by rw [bne_iff_ne]; exact h3
    by_cases hg : gn < 0
    ·have HST : Hid (posK rows (times.map Fq.q) rows.length = false) := Lib.hid (by
      have h0 : posK rows (times.map Fq.q) (k + 1) = false := by rw [hst]; simp [h3]; omega
      have := posK_mono h0 (rows.length - (k + 1))
      rwa [show k + 1 + (rows.length - (k + 1)) = rows.length by omega] at this)
     have hgd : decide (gn < 0) = true := dec_t hg
     have HTB := HTE.out
     rw [HST.out, Bool.false_and] at HTB
     subst HTB
     clear hst HTE h3
     go_wp2
     go_ret
     exact ⟨rfl, HKR.out⟩
    ·have HST : Hid (posK rows (times.map Fq.q) (k + 1) = true) := Lib.hid (by rw [hst]; simp; omega)
     have hgd : decide (gn < 0) = false := dec_f hg
     clear hst h3
     go_wp2
     go_roundw
     case rel => exact ⟨k + 1, by omega, by go_num, HST.out, HKR.out⟩
     case measure => simp [intOf]; omega
  case neg =>
   have hlt : ¬ (k : Int) < (rows.length : Int) := by omega
   obtain rfl : k = rows.length := by omega
   have HTE := Lib.hid (show tb = (zeroK rows (times.map Fq.q) N && endB rows (times.map Fq.q)) from by rw [HTE.out, HP.out, Bool.true_and])
   clear HP
   go_wp2
   have HK1 := HKR
   clear HKR
   go_loopw [8] (fun s wr => ∃ k : Nat, k ≤ N ∧ s = .int .i64 k ∧ zeroK rows (times.map Fq.q) k = true ∧ Keep NoS w wr) (fun s _ => (N - intOf s).toNat)
   case atStart => exact ⟨0, by omega, rfl, rfl, HK1.out⟩
   case round =>
    obtain ⟨k, hk, rfl, hz, hkr⟩ := hrel
    have HZ := Lib.hid hz
    have HKR := Lib.hid hkr
    clear hz hkr HK1
    by_cases hkn : k < N
    case pos =>
     have hlt : (k : Int) < (N : Int) := by omega
     have CC := fun w' (k' : Keep NoS _ w') => Lib.hid (CC0.out w' (HKR.out.both k') k)
     rw [HRC.out k hkn] at CC
     have hst : zeroK rows (times.map Fq.q) (k + 1) = decide (colK rows (times.map Fq.q) k rows.length = 0) := by simp only [zeroK]; rw [HZ.out, Bool.true_and]
     generalize colK rows (times.map Fq.q) k rows.length = q at CC hst
     go_wp2_with fail
     refine (CC _ (Keep.refl _ _)).out.mono ?_
     rintro e w3 ⟨b3, hb3, rfl, hk3, hi3⟩
     have K3 := Lib.hid (HKR.out.both hk3)
     have HI3 := Lib.hid hi3
     clear hk3 hi3 hb3 CC
     by_cases hq : q = 0
     ·have HST : Hid (zeroK rows (times.map Fq.q) (k + 1) = true) := Lib.hid (by rw [hst]; simp [hq])
      have HSG := Lib.hid (num_zero_of hq)
      clear hst hq
      go_wp2_with fail
      refine (ratSign_any w3 b3 0 q HI3.out).mono ?_
      rintro e w4 ⟨rfl, rfl⟩
      rw [HSG.out]
      clear HI3
      go_wp2
      go_roundw
      case rel => exact ⟨k + 1, by omega, by go_num, HST.out, K3.out⟩
      case measure => simp [intOf]; omega
     ·have HST : Hid (zeroK rows (times.map Fq.q) N = false) := Lib.hid (by
       have h0 : zeroK rows (times.map Fq.q) (k + 1) = false := by rw [hst]; simp [hq]
       have := zeroK_mono h0 (N - (k + 1))
       rwa [show k + 1 + (N - (k + 1)) = N by omega] at this)
      have HTB := HTE.out
      rw [HST.out, Bool.false_and] at HTB
      subst HTB
      have hsg : (q.num.sign != 0) = true := by rw [bne_iff_ne]; exact num_sign_ne hq
      clear hst hq HTE
      go_wp2_with fail
      refine (ratSign_any w3 b3 0 q HI3.out).mono ?_
      rintro e w4 ⟨rfl, rfl⟩
      generalize q.num.sign = sg at *
      clear HI3
      go_wp2
      go_ret
      exact ⟨rfl, K3.out⟩
    case neg =>
     have hlt : ¬ (k : Int) < (N : Int) := by omega
     obtain rfl : k = N := by omega
     have HTE := Lib.hid (show tb = (decide (toK rows (times.map Fq.q) rows.length < 0) || (decide (toK rows (times.map Fq.q) rows.length = 0) && strK rows (times.map Fq.q) rows.length)) from by rw [HTE.out, HZ.out, Bool.true_and]; rfl)
     have CC := fun w' (k' : Keep NoS _ w') => Lib.hid (CC0.out w' (HKR.out.both k') k)
     rw [HRT.out] at CC
     generalize toK rows (times.map Fq.q) rows.length = q at CC HTE
     generalize strK rows (times.map Fq.q) rows.length = sb at CS HTE
     clear HZ
     go_wp2_with fail
     refine (CC _ (Keep.refl _ _)).out.mono ?_
     rintro e w3 ⟨b3, hb3, rfl, hk3, hi3⟩
     have K3 := Lib.hid (HKR.out.both hk3)
     have HI3 := Lib.hid hi3
     clear hk3 hi3 hb3 CC
     go_wp2_with fail
     refine (ratSign_any w3 b3 0 q HI3.out).mono ?_
     rintro e w4 ⟨rfl, rfl⟩
     by_cases hs : q < 0
     case pos =>
      rw [sign_neg hs]
      have HZ := HTE.out
      rw [decide_eq_true hs, Bool.true_or] at HZ
      subst HZ
      clear HTE hs HI3
      go_wp2
      go_ret
      exact ⟨rfl, K3.out⟩
     case neg =>
      have hZ0 : tb = (decide (q = 0) && sb) := by rw [HTE.out, decide_eq_false hs, Bool.false_or]
      by_cases hs0 : q = 0
      case pos =>
       rw [num_zero_of hs0]
       rw [decide_eq_true hs0, Bool.true_and] at hZ0
       subst hZ0
       clear HTE hs hs0 HI3
       go_wp2_with fail
       refine (CS _ K3.out).out.mono ?_
       rintro e w5 ⟨rfl, hk5⟩
       have K5 := Lib.hid (K3.out.both hk5)
       clear hk5 CS
       go_wp2
       go_ret
       exact ⟨rfl, K5.out⟩
      case neg =>
       rw [sign_pos' (q := q) (by grind)]
       rw [decide_eq_false hs0, Bool.false_and] at hZ0
       subst hZ0
       clear HTE hs hs0 HI3
       go_wp2
       go_ret
       exact ⟨rfl, K3.out⟩
end Go.Proofs.YtamjmcdlddocgaaGreat
