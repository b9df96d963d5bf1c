/- The reference's ToNone. -/
import Derived.Test.YtihcbmkjfacooaaRfC
import Derived.Test.YtihcbmkjfacooaaRfS
namespace Go.Proofs.Ytihcbmkjfacooaa
open Go.ChangeShapes Go.WideShapes Go.RowKit
set_option linter.unusedVariables false
set_option linter.unusedSimpArgs false

theorem zeroK_mono {rows : List Rw} {ts : List Rat} {k : Nat} (h : zeroK rows ts k = false) : ∀ j, zeroK rows ts (k + j) = false
  | 0 => h
  | j + 1 => by show zeroK rows ts (k + j + 1) = false; simp only [zeroK]; rw [zeroK_mono h j]; rfl

set_option maxRecDepth 100000 in
set_option maxHeartbeats 16000000 in
theorem refToNone_any (w : World) (v : Value) (rows : List Rw) (N : Nat) (vt : Value) (times : List Fq) (h : IsRows w v rows) (ht : IsFracs w vt times) (hok : ∀ r ∈ rows, RowOK r N) (h40 : rows.length ≤ 40) (hN : N ≤ 12) (hlen : times.length = rows.length) (hfr : ∀ g ∈ times, FracOK g.N g.D) :
    Calls Try.prog 44 #[v, .int .i64 (N : Int), vt] w fun e w' => e = .returned (.bool (refB rows (times.map Fq.q) N)) ∧ Keep NoS w w' := by
  have CC0 := fun w' (k : Keep NoS w w') j => refCol_any w' v rows N j vt times (h.keep k) (ht.keep k) hok h40 hlen hfr
  have CC0 := Lib.hid CC0
  have CS := fun w' (k : Keep NoS w w') => Lib.hid (refStrict_any w' v rows vt times (h.keep k) (ht.keep k) hlen hfr)
  have HR := Lib.hid h
  have HT := Lib.hid ht
  have HOK := Lib.hid hok
  have HFR := Lib.hid hfr
  have HLEN := Lib.hid hlen
  have HRC := Lib.hid (fun k (hk : k < N) => show refCol rows (times.map Fq.q) N k rows.length = colK rows (times.map Fq.q) k rows.length from by unfold refCol; rw [if_pos hk])
  have HRT := Lib.hid (show refCol rows (times.map Fq.q) N N rows.length = toK rows (times.map Fq.q) rows.length from by unfold refCol; rw [if_neg (by omega)])
  have HTE := Lib.hid (show refB rows (times.map Fq.q) N = (posK rows (times.map Fq.q) rows.length && (zeroK rows (times.map Fq.q) N && endB rows (times.map Fq.q))) from rfl)
  generalize refB rows (times.map Fq.q) N = tb at *
  obtain ⟨oa, ca, rfl, _, hma⟩ := h.len
  obtain ⟨ot, ct, rfl, _, hmt⟩ := ht.len
  unfold maxLen at hma hmt
  clear h ht hok hfr hlen
  go_enter Try.func44, Try.ntmps44
  go_wp2
  go_loopw [7] (fun s wr => ∃ k : Nat, k ≤ rows.length ∧ s = .int .i64 k ∧ posK rows (times.map Fq.q) k = true ∧ Keep NoS w wr) (fun s _ => (rows.length - intOf s).toNat)
  case atStart => exact ⟨0, by omega, rfl, rfl, Keep.refl _ _⟩
  case round =>
    obtain ⟨k, hk, rfl, hp, hkr⟩ := hrel
    have HP := Lib.hid hp
    have HKR := Lib.hid hkr
    clear hp hkr
    by_cases hkl : k < rows.length
    case pos =>
      have hlt : (k : Int) < (rows.length : Int) := by omega
      have hkt : k < times.length := by have := HLEN.out; omega
      have hltt : (k : Int) < (times.length : Int) := by omega
      obtain ⟨b, o, rfl, hbl, hrow⟩ := HR.out.at hkl
      obtain ⟨os, cs, p0, p1, p2, hrow⟩ := hrow.row
      obtain ⟨b', o', rfl, hbl', c0, c1⟩ := HT.out.at hkt
      have p1 := (HKR.out.cell hbl).trans p1
      have c0 := (HKR.out.cell hbl').trans c0
      have hblr := Nat.lt_of_lt_of_le hbl HKR.out.size
      have hblr' := Nat.lt_of_lt_of_le hbl' HKR.out.size
      have hst : posK rows (times.map Fq.q) (k + 1) = (decide (rows[k].kind = 3) || decide (0 ≤ (times[k]).N)) := by
        simp only [posK]
        rw [HP.out, row_getD hkl, map_getD hkt]
        simp only [frac_nonneg (HFR.out _ (List.getElem_mem hkt)), Bool.true_and]
      generalize rows[k] = r at *
      obtain ⟨rof, rkd, rto⟩ := r
      generalize (times[k]).N = gn at *
      generalize (times[k]).D = gd at *
      simp only at p1 hst
      clear hrow p0 p2
      by_cases h3 : rkd = 3
      case pos =>
        have e1 : (rkd != 3) = false := by rw [bne_eq_false_iff_eq]; exact h3
        have HST : Hid (posK rows (times.map Fq.q) (k + 1) = true) := Lib.hid (by rw [hst]; simp [h3])
        clear hst h3
        go_wp2
        go_roundw
        case rel => exact ⟨k + 1, by omega, by go_num, HST.out, HKR.out⟩
        case measure => simp [intOf]; omega
      case neg =>
        have e1 : (rkd != 3) = true := by rw [bne_iff_ne]; exact h3
        by_cases hg : gn < 0
        · have HST : Hid (posK rows (times.map Fq.q) rows.length = false) := Lib.hid (by
            have h0 : posK rows (times.map Fq.q) (k + 1) = false := by rw [hst]; simp [h3]; omega
            have := posK_mono h0 (rows.length - (k + 1))
            rwa [show k + 1 + (rows.length - (k + 1)) = rows.length by omega] at this)
          have hgd : decide (gn < 0) = true := dec_t hg
          have HTB := HTE.out
          rw [HST.out, Bool.false_and] at HTB
          subst HTB
          clear hst HTE h3
          go_wp2
          go_ret
          exact ⟨rfl, HKR.out⟩
        · have HST : Hid (posK rows (times.map Fq.q) (k + 1) = true) := Lib.hid (by rw [hst]; simp; omega)
          have hgd : decide (gn < 0) = false := dec_f hg
          clear hst h3
          go_wp2
          go_roundw
          case rel => exact ⟨k + 1, by omega, by go_num, HST.out, HKR.out⟩
          case measure => simp [intOf]; omega
    case neg =>
      have hlt : ¬ (k : Int) < (rows.length : Int) := by omega
      obtain rfl : k = rows.length := by omega
      have HTE := Lib.hid (show tb = (zeroK rows (times.map Fq.q) N && endB rows (times.map Fq.q)) from by rw [HTE.out, HP.out, Bool.true_and])
      clear HP
      go_wp2
      have HK1 := HKR
      clear HKR
      go_loopw [8] (fun s wr => ∃ k : Nat, k ≤ N ∧ s = .int .i64 k ∧ zeroK rows (times.map Fq.q) k = true ∧ Keep NoS w wr) (fun s _ => (N - intOf s).toNat)
      case atStart => exact ⟨0, by omega, rfl, rfl, HK1.out⟩
      case round =>
        obtain ⟨k, hk, rfl, hz, hkr⟩ := hrel
        have HZ := Lib.hid hz
        have HKR := Lib.hid hkr
        clear hz hkr HK1
        by_cases hkn : k < N
        case pos =>
          have hlt : (k : Int) < (N : Int) := by omega
          have CC := fun w' (k' : Keep NoS _ w') => Lib.hid (CC0.out w' (HKR.out.both k') k)
          rw [HRC.out k hkn] at CC
          have hst : zeroK rows (times.map Fq.q) (k + 1) = decide (colK rows (times.map Fq.q) k rows.length = 0) := by simp only [zeroK]; rw [HZ.out, Bool.true_and]
          generalize colK rows (times.map Fq.q) k rows.length = q at CC hst
          go_wp2_with fail
          refine (CC _ (Keep.refl _ _)).out.mono ?_
          rintro e w3 ⟨b3, hb3, rfl, hk3, hi3⟩
          have K3 := Lib.hid (HKR.out.both hk3)
          have HI3 := Lib.hid hi3
          clear hk3 hi3 hb3 CC
          by_cases hq : q = 0
          · have HST : Hid (zeroK rows (times.map Fq.q) (k + 1) = true) := Lib.hid (by rw [hst]; simp [hq])
            have HSG := Lib.hid (num_zero_of hq)
            clear hst hq
            go_wp2_with fail
            refine (ratSign_any w3 b3 0 q HI3.out).mono ?_
            rintro e w4 ⟨rfl, rfl⟩
            rw [HSG.out]
            clear HI3
            go_wp2
            go_roundw
            case rel => exact ⟨k + 1, by omega, by go_num, HST.out, K3.out⟩
            case measure => simp [intOf]; omega
          · have HST : Hid (zeroK rows (times.map Fq.q) N = false) := Lib.hid (by
              have h0 : zeroK rows (times.map Fq.q) (k + 1) = false := by rw [hst]; simp [hq]
              have := zeroK_mono h0 (N - (k + 1))
              rwa [show k + 1 + (N - (k + 1)) = N by omega] at this)
            have HTB := HTE.out
            rw [HST.out, Bool.false_and] at HTB
            subst HTB
            have hsg : (q.num.sign != 0) = true := by rw [bne_iff_ne]; exact num_sign_ne hq
            clear hst hq HTE
            go_wp2_with fail
            refine (ratSign_any w3 b3 0 q HI3.out).mono ?_
            rintro e w4 ⟨rfl, rfl⟩
            generalize q.num.sign = sg at *
            clear HI3
            go_wp2
            go_ret
            exact ⟨rfl, K3.out⟩
        case neg =>
          have hlt : ¬ (k : Int) < (N : Int) := by omega
          obtain rfl : k = N := by omega
          have HTE := Lib.hid (show tb = (decide (toK rows (times.map Fq.q) rows.length < 0) || (decide (toK rows (times.map Fq.q) rows.length = 0) && strK rows (times.map Fq.q) rows.length)) from by rw [HTE.out, HZ.out, Bool.true_and]; rfl)
          have CC := fun w' (k' : Keep NoS _ w') => Lib.hid (CC0.out w' (HKR.out.both k') k)
          rw [HRT.out] at CC
          generalize toK rows (times.map Fq.q) rows.length = q at CC HTE
          generalize strK rows (times.map Fq.q) rows.length = sb at CS HTE
          clear HZ
          go_wp2_with fail
          refine (CC _ (Keep.refl _ _)).out.mono ?_
          rintro e w3 ⟨b3, hb3, rfl, hk3, hi3⟩
          have K3 := Lib.hid (HKR.out.both hk3)
          have HI3 := Lib.hid hi3
          clear hk3 hi3 hb3 CC
          go_wp2_with fail
          refine (ratSign_any w3 b3 0 q HI3.out).mono ?_
          rintro e w4 ⟨rfl, rfl⟩
          by_cases hs : q < 0
          case pos =>
            rw [sign_neg hs]
            have HZ := HTE.out
            rw [decide_eq_true hs, Bool.true_or] at HZ
            subst HZ
            clear HTE hs HI3
            go_wp2
            go_ret
            exact ⟨rfl, K3.out⟩
          case neg =>
            have hZ0 : tb = (decide (q = 0) && sb) := by rw [HTE.out, decide_eq_false hs, Bool.false_or]
            by_cases hs0 : q = 0
            case pos =>
              rw [num_zero_of hs0]
              rw [decide_eq_true hs0, Bool.true_and] at hZ0
              subst hZ0
              clear HTE hs hs0 HI3
              go_wp2_with fail
              refine (CS _ K3.out).out.mono ?_
              rintro e w5 ⟨rfl, hk5⟩
              have K5 := Lib.hid (K3.out.both hk5)
              clear hk5 CS
              go_wp2
              go_ret
              exact ⟨rfl, K5.out⟩
            case neg =>
              rw [sign_pos' (q := q) (by grind)]
              rw [decide_eq_false hs0, Bool.false_and] at hZ0
              subst hZ0
              clear HTE hs hs0 HI3
              go_wp2
              go_ret
              exact ⟨rfl, K3.out⟩
end Go.Proofs.Ytihcbmkjfacooaa
