/- The law FarkasScale: its walk. -/
import Derived.Test.YtihcbmkjfacooaaFarkasSoundW
import Derived.Test.YtihcbmkjfacooaaFkS
import Derived.Test.YtihcbmkjfacooaaFracTwo
namespace Go.Proofs.Ytihcbmkjfacooaa
open Go.ChangeShapes Go.WideShapes Go.RowKit
set_option linter.unusedVariables false
set_option linter.unusedSimpArgs false

theorem lessK_succ {rows : List Rw} {ts : List Rat} {i : Nat} : lessK rows ts (i + 1) = if ts.getD i 0 = 0 then lessK rows ts i else lessK rows ts i ++ [rows.getD i nilRw] := rfl
theorem leftG_succ {times : List Fq} {i : Nat} : leftG times (i + 1) = if (times.map Fq.q).getD i 0 = 0 then leftG times i else leftG times i ++ [times.getD i ⟨0, 0⟩] := rfl
theorem mulG_take {c : Int} {times : List Fq} {k : Nat} (h : k < times.length) : (times.take (k + 1)).map (mulG c) = (times.take k).map (mulG c) ++ [mulG c times[k]] := by
  rw [List.take_succ_eq_append_getElem h, List.map_append]; rfl
theorem fits_take {c : Int} {times : List Fq} {k : Nat} (h : k < times.length) (h1 : ∀ g ∈ times.take k, Fits (g.q * (c : Rat))) (h2 : Fits (times[k].q * (c : Rat))) : ∀ g ∈ times.take (k + 1), Fits (g.q * (c : Rat)) := by
  intro g hg
  rw [List.take_succ_eq_append_getElem h] at hg
  rcases List.mem_append.1 hg with hg | hg
  · exact h1 g hg
  · rw [List.mem_singleton] at hg; rw [hg]; exact h2

set_option maxRecDepth 100000 in
set_option maxHeartbeats 16000000 in
theorem farkasScale_walk (w : World) (v : Value) (rows : List Rw) (n : Int) (vt : Value) (times : List Fq) (c : Int) (h : IsRows w v rows) (hn : I64 n) (ht : IsFracs w vt times) (hc64 : I64 c) :
    Calls Try.prog 7 #[v, .int .i64 n, vt, .int .i64 c] w fun e w' => e = .returned (.bool true) ∧ Below w.heap.size w w' := by
  suffices hk : Calls Try.prog 7 #[v, .int .i64 n, vt, .int .i64 c] w fun e w' => e = .returned (.bool true) ∧ Keep NoS w w' from hk.mono fun e w' ⟨h1, h2⟩ => ⟨h1, h2.below (Nat.le_refl _) fun _ _ h => h.elim⟩
  have CT := fun w' (k : Keep NoS w w') => Lib.hid (takeFk_any w' v rows n vt times (h.keep k) hn (ht.keep k))
  have CM := fun w' (k : Keep NoS w w') vm ts (hm : IsFracs w' vm ts) => Lib.hid (takeFk_any w' v rows n vm ts (h.keep k) hn hm)
  have HR := Lib.hid h
  have HT := Lib.hid ht
  obtain ⟨oa, ca, rfl, _, hma⟩ := h.len
  obtain ⟨ot, ct, rfl, _, hmt⟩ := ht.len
  unfold maxLen at hma hmt
  clear h ht
  by_cases hc : c < 1 ∨ 100 < c
  · by_cases hc1 : c < 1
    · have e1 : decide (c < 1) = true := dec_t hc1
      clear CT CM
      go_enter Try.func7, Try.ntmps7
      go_wp2_with fail
      refine (farkasTold_any _).mono ?_
      rintro e w0 ⟨rfl, hk0⟩
      go_wp2
      go_ret
      exact ⟨rfl, hk0⟩
    · have e1 : decide (c < 1) = false := dec_f hc1
      have e2 : decide (100 < c) = true := dec_t (by omega)
      clear CT CM
      go_enter Try.func7, Try.ntmps7
      go_wp2_with fail
      refine (farkasTold_any _).mono ?_
      rintro e w0 ⟨rfl, hk0⟩
      go_wp2
      go_ret
      exact ⟨rfl, hk0⟩
  have e1 : decide (c < 1) = false := dec_f (by omega)
  have e2 : decide (100 < c) = false := dec_f (by omega)
  have c1 : 1 ≤ c := by omega
  have c2 : c ≤ 100 := by omega
  clear hc
  by_cases hc : (farkF rows n times).1 = 0
  case neg =>
    have htb : fkB rows times n = false := by unfold fkB; rw [if_neg hc]
    rw [htb] at CT
    generalize farkF rows n times = f at *
    obtain ⟨f1, f2⟩ := f
    simp only at hc
    unfold fV at CT
    simp only at CT
    have e3 : (f1 != 0) = true := by rw [bne_iff_ne]; exact hc
    clear CM htb
    go_enter Try.func7, Try.ntmps7
    go_wp2_with fail
    refine (farkasTold_any _).mono ?_
    rintro e w0 ⟨rfl, hk0⟩
    have K0 := Lib.hid hk0
    clear hk0
    go_wp2_with fail
    refine (CT _ K0.out).out.mono ?_
    rintro e w1 ⟨rfl, hk1⟩
    have K1 := Lib.hid (K0.out.both hk1)
    have HK := K1
    clear hk1 CT
    go_wp2
    go_ret
    exact ⟨rfl, by (repeat' (first | (with_reducible assumption) | (with_reducible exact HK.out) | (with_reducible exact Keep.refl _ _) | (with_reducible refine Keep.alloc ?_ _) | (with_reducible refine Keep.setCell ?_ _ (fun h => absurd h (by omega))) | (with_reducible refine Keep.drewN ?_ _) | (with_reducible refine Keep.drew ?_)))⟩
  case pos =>
    obtain ⟨hc0, hl0, hlen, hfr⟩ := farkF_ok hc
    obtain ⟨hn0, hn12, h40, hok⟩ := listF_ok hl0
    have HSC := Lib.hid (fun hf => scale_take hc c1 hf)
    have HLS := Lib.hid (less_take hc)
    have HFR := Lib.hid hfr
    have HOK := Lib.hid hok
    have HL40 := Lib.hid h40
    have HLEN := Lib.hid hlen
    have hz := fun (k : Nat) (hk : k < times.length) => q_zero (hfr _ (List.getElem_mem hk))
    have HZ := Lib.hid hz
    rw [hc0] at CT
    generalize fkB rows times n = tb at *
    unfold fV at CT
    simp only at CT
    clear hc hc0 hl0 hfr hn0 hn12 hok hz hlen h40
    go_enter Try.func7, Try.ntmps7
    go_wp2_with fail
    refine (farkasTold_any _).mono ?_
    rintro e w0 ⟨rfl, hk0⟩
    have K0 := Lib.hid hk0
    clear hk0
    go_wp2_with fail
    refine (CT _ K0.out).out.mono ?_
    rintro e w1 ⟨rfl, hk1⟩
    have K1 := Lib.hid ((K0.out.both hk1).alloc (.cells #[.int .i64 0, .int .i64 0] 26))
    clear hk1 K0 CT
    go_wp2
    generalize w1.alloc (.cells #[.int .i64 0, .int .i64 0] 26) = w2 at *
    go_loopw [11, 12, 13, 14] (fun s1 s2 s3 s4 wr => ∃ k : Nat, k ≤ times.length ∧ s4 = .int .i64 k ∧ Keep NoS w wr ∧ (∀ g ∈ times.take k, Fits (g.q * (c : Rat))) ∧ OwnF wr w.heap.size s1 ((times.take k).map (mulG c)) ∧ OwnF wr w.heap.size s2 (leftG times k) ∧ OwnR w wr w.heap.size s3 (lessK rows (times.map Fq.q) k) ∧ Apart s1 s2 ∧ Apart s1 s3 ∧ Apart s2 s3) (fun _ _ _ s _ => (times.length - intOf s).toNat)
    case atStart => exact ⟨0, by omega, rfl, K1.out, by simp, OwnG.nil _ _, OwnG.nil _ _, OwnR.nil _ _ _, apart_nil _, apart_nil _, apart_nil _⟩
    case round =>
      obtain ⟨k, hk, rfl, hkr, hft, ho1, ho2, ho3, ha12, ha13, ha23⟩ := hrel
      have HKR := Lib.hid hkr
      have HFT := Lib.hid hft
      have HO1 := Lib.hid ho1
      have HO2 := Lib.hid ho2
      have HO3 := Lib.hid ho3
      have HAP := Lib.hid (And.intro ha12 (And.intro ha13 ha23))
      have hl1 : ((times.take k).map (mulG c)).length = k := by rw [List.length_map, List.length_take]; omega
      obtain ⟨o1, d1, hs1, hd1, _⟩ := ho1.len
      rw [hl1] at hs1
      subst hs1
      have HL1 := Lib.hid hl1
      clear hl1 hd1
      obtain ⟨o2, d2, rfl, _⟩ := ho2.len
      obtain ⟨o3, d3, rfl, _⟩ := ho3.len
      clear hkr hft ho1 ho2 ho3 ha12 ha13 ha23 K1
      by_cases hkl : k < times.length
      case neg =>
        have hlt : ¬ (k : Int) < (times.length : Int) := by omega
        obtain rfl : k = times.length := by omega
        have hft : ∀ g ∈ times, Fits (g.q * (c : Rat)) := by have := HFT.out; rwa [List.take_length] at this
        have hl1 := HL1.out
        have ho1 := HO1.out
        rw [List.take_length] at ho1
        have hsc := HSC.out hft
        have hls := HLS.out
        rw [← HLEN.out] at hls
        have hi1 : ∀ g ∈ times.map (mulG c), I64 g.N ∧ I64 g.D := fun g hg => by
          obtain ⟨y, hy, rfl⟩ := List.mem_map.1 hg
          exact fracOK_i64 (fits_ok (hft y hy))
        have hi2 : ∀ g ∈ leftG times times.length, I64 g.N ∧ I64 g.D := fun g hg => fracOK_i64 (HFR.out g (leftG_mem _ (Nat.le_refl _) g hg))
        have HF1 := Lib.hid (OwnG.fracs ho1 hi1)
        have HF2 := Lib.hid (HO2.out.fracs hi2)
        have HR3 := Lib.hid (HO3.out.rows HKR.out)
        have C1 := fun w' (k : Keep NoS wr w') => Lib.hid (takeFk_any w' _ rows n _ (times.map (mulG c)) (HR.out.keep (HKR.out.both k)) hn (HF1.out.keep k))
        have C2 := fun w' (k : Keep NoS wr w') => Lib.hid (takeFk_any w' _ (lessK rows (times.map Fq.q) times.length) n _ (leftG times times.length) (HR3.out.keep k) hn (HF2.out.keep k))
        rw [hsc.1, hsc.2] at C1
        rw [hls.1, hls.2] at C2
        unfold fV at C1 C2
        simp only at C1 C2
        clear hft hl1 ho1 hsc hls hi1 hi2 CM
        go_wp2_with fail
        refine (C1 _ (Keep.refl _ _)).out.mono ?_
        rintro e w3 ⟨rfl, hk3⟩
        have K3 := Lib.hid (HKR.out.both hk3)
        have B18 := fun (w' : World) (k : Keep NoS (w3.alloc (.cells #[.int .i64 0, .int .i64 0] 26)) w') => Blk.keep (blk_at (w := w3) #[.int .i64 0, .int .i64 0] 26 rfl) k
        have hk18 := hk3.alloc (.cells #[.int .i64 0, .int .i64 0] 26)
        clear hk3 C1
        go_wp2_with fail
        refine (C2 _ hk18).out.mono ?_
        rintro e w4 ⟨rfl, hk4⟩
        have K4 := Lib.hid ((K3.out.alloc (.cells #[.int .i64 0, .int .i64 0] 26)).both hk4)
        have HB18 := Lib.hid (B18 _ hk4)
        have hlt18 := HB18.out.lt
        have hn18 : ¬ w3.heap.size = w4.heap.size := by omega
        clear hk4 C2 hk18 B18
        generalize w3.heap.size = b18 at *
        obtain ⟨q0, q1, _, _, ql⟩ := HB18.out.two
        have HK := K4
        cases tb
        · go_wp2
          go_ret
          exact ⟨rfl, by (repeat' (first | (with_reducible assumption) | (with_reducible exact HK.out) | (with_reducible exact Keep.refl _ _) | (with_reducible refine Keep.alloc ?_ _) | (with_reducible refine Keep.setCell ?_ _ (fun h => absurd h (by omega))) | (with_reducible refine Keep.drewN ?_ _) | (with_reducible refine Keep.drew ?_)))⟩
        · go_wp2
          go_ret
          exact ⟨rfl, by (repeat' (first | (with_reducible assumption) | (with_reducible exact HK.out) | (with_reducible exact Keep.refl _ _) | (with_reducible refine Keep.alloc ?_ _) | (with_reducible refine Keep.setCell ?_ _ (fun h => absurd h (by omega))) | (with_reducible refine Keep.drewN ?_ _) | (with_reducible refine Keep.drew ?_)))⟩
      case pos =>
        have hlt : (k : Int) < (times.length : Int) := by omega
        have hL40 : times.length ≤ 40 := by have := HLEN.out; have := HL40.out; omega
        have hlr : (k : Int) < (rows.length : Int) := by have := HLEN.out; omega
        have hkr' : k < rows.length := by omega
        obtain ⟨b, o, rfl, hbl, p0, p1⟩ := HT.out.at hkl
        obtain ⟨b', o', rfl, hbl', hrow⟩ := HR.out.at hkr'
        obtain ⟨os, cs, r0, r1, r2, hrow⟩ := hrow.row
        have HROW := Lib.hid hrow
        have HP := Lib.hid (And.intro hbl (And.intro p0 p1))
        have HQ := Lib.hid (And.intro hbl' (And.intro r0 (And.intro r1 r2)))
        have hfk := HFR.out _ (List.getElem_mem hkl)
        have hq := two_mul times[k].N times[k].D c 1
        have HM := Lib.hid (mulG_take (c := c) hkl)
        have HFK := Lib.hid (fits_take (c := c) hkl HFT.out)
        have HZK := Lib.hid (HZ.out k hkl)
        have HL := Lib.hid (leftG_succ (times := times) (i := k))
        have HS := Lib.hid (lessK_succ (rows := rows) (ts := times.map Fq.q) (i := k))
        rw [map_getD hkl, fq_getD hkl] at HL
        rw [map_getD hkl, row_getD hkr'] at HS
        have C2 := fun w => Lib.hid (two_mul times[k].N times[k].D c 1 w hfk (by_frac c1 c2))
        rw [op_made (by have := hfk.1; omega) hfk (by_frac c1 c2), mul_by (by have := hfk.1; omega)] at C2
        have HMD := Lib.hid (show fracMadeV (times[k].q * (c : Rat)) = if Fits (times[k].q * (c : Rat)) then .tuple #[.agg #[.int .i64 (mulG c times[k]).N, .int .i64 (mulG c times[k]).D], .agg #[.int .i64 0, .int .i64 0]] else .tuple #[.agg #[.int .i64 0, .int .i64 0], .agg #[.int .i64 10, .int .i64 0]] from rfl)
        have C2 : ∀ w, Hid (Calls Try.prog 35 #[.int .i64 3, .agg #[.int .i64 times[k].N, .int .i64 times[k].D], .agg #[.int .i64 c, .int .i64 1]] w fun e w' => e = .returned (fracMadeV (times[k].q * (c : Rat))) ∧ Keep NoS w w') := C2
        rw [HMD.out] at C2
        generalize times[k] = g at *
        generalize rows[k] = r at *
        generalize HX : mulG c g = m at *
        clear HX HMD hq hrow
        obtain ⟨gn, gd⟩ := g
        obtain ⟨mn, md⟩ := m
        simp only at C2 p0 p1 HP HZK
        by_cases hfit : Fits ((⟨gn, gd⟩ : Fq).q * (c : Rat))
        case neg =>
          rw [if_neg hfit] at C2
          have p0 := (HKR.out.cell hbl).trans p0
          have p1 := (HKR.out.cell hbl).trans p1
          have hblr := Nat.lt_of_lt_of_le hbl HKR.out.size
          clear HP HQ r0 r1 r2 HM HFK HZK HL HS hfit hfk
          go_wp2_with fail
          refine (C2 _).out.mono ?_
          rintro e w3 ⟨rfl, hk3⟩
          have K3 := Lib.hid (HKR.out.both hk3)
          have HK := K3
          clear hk3 p0 p1
          go_wp2
          go_ret
          exact ⟨rfl, by (repeat' (first | (with_reducible assumption) | (with_reducible exact HK.out) | (with_reducible exact Keep.refl _ _) | (with_reducible refine Keep.alloc ?_ _) | (with_reducible refine Keep.setCell ?_ _ (fun h => absurd h (by omega))) | (with_reducible refine Keep.drewN ?_ _) | (with_reducible refine Keep.drew ?_)))⟩
        case pos =>
          rw [if_pos hfit] at C2
          have HFK := Lib.hid (HFK.out hfit)
          have p0 := (HKR.out.cell hbl).trans p0
          have p1 := (HKR.out.cell hbl).trans p1
          have hblr := Nat.lt_of_lt_of_le hbl HKR.out.size
          clear hfit hfk r0 r1 r2
          by_cases hz : gn = 0
          case pos =>
            have e5 : (gn != 0) = false := by rw [bne_eq_false_iff_eq]; exact hz
            have hq0 := HZK.out.2 hz
            have hL := HL.out
            have hS := HS.out
            rw [if_pos hq0] at hL hS
            have HL2 := Lib.hid hL
            have HS2 := Lib.hid hS
            clear hL hS HL HS hq0 hz HZK
            go_wp2_with fail
            refine (C2 _).out.mono ?_
            rintro e w3 ⟨rfl, hk3⟩
            have k4 : Keep NoS wr (((w3.alloc (.cells #[.int .i64 mn, .int .i64 md] TF)).alloc (.cells #[.int .i64 0, .int .i64 0] 26)).alloc (.cells #[.int .i64 mn, .int .i64 md] TF)) := by have HK := Lib.hid hk3; (repeat' (first | (with_reducible assumption) | (with_reducible exact HK.out) | (with_reducible exact Keep.refl _ _) | (with_reducible refine Keep.alloc ?_ _) | (with_reducible refine Keep.setCell ?_ _ (fun h => absurd h (by omega))) | (with_reducible refine Keep.drewN ?_ _) | (with_reducible refine Keep.drew ?_)))
            have hb4 : Blk (((w3.alloc (.cells #[.int .i64 mn, .int .i64 md] TF)).alloc (.cells #[.int .i64 0, .int .i64 0] 26)).alloc (.cells #[.int .i64 mn, .int .i64 md] TF)) (w3.heap.size + 1 + 1) #[.int .i64 mn, .int .i64 md] := by (repeat (first | (refine blk_at _ _ ?_; simp; done) | (refine Blk.old ?_ _)))
            have hs4 : w.heap.size ≤ (((w3.alloc (.cells #[.int .i64 mn, .int .i64 md] TF)).alloc (.cells #[.int .i64 0, .int .i64 0] 26)).alloc (.cells #[.int .i64 mn, .int .i64 md] TF)).heap.size := Nat.le_trans HKR.out.size k4.size
            obtain ⟨v1, w5, hr1, ho1, hg1, hv1⟩ := app_frac (g := ⟨mn, md⟩) (HO1.out.keep k4) hb4 (by rw [HL1.out]; omega) hs4
            have K5 := Lib.hid ((HKR.out.both k4).grown hg1 fun k hk => HO1.out.block k hk)
            have HO1' := Lib.hid (show OwnF w5 w.heap.size v1 ((times.take (k + 1)).map (mulG c)) from by rw [HM.out]; exact ho1)
            have hlt1 := (HO2.out.keep k4).lt
            have hlt2 := (HO3.out.keep k4).lt
            have HO2' := Lib.hid ((HO2.out.keep k4).grown0 hg1 HAP.out.1.symm.row)
            have HO3' := Lib.hid ((HO3.out.keep k4).grown0 hg1 HAP.out.2.1.symm.row)
            have HAP' := Lib.hid (And.intro (HAP.out.1.symm.step hlt1 hv1).symm (And.intro (HAP.out.2.1.symm.step hlt2 hv1).symm HAP.out.2.2))
            obtain ⟨o1', d1', hs1, _⟩ := ho1.len
            rw [List.length_append, HL1.out, List.length_singleton] at hs1
            subst hs1
            clear hk3 k4 hb4 hs4 ho1 hg1 hlt1 hlt2 hv1 p0 p1
            have HAP := HAP'
            have HO1 := HO1'
            have HO2 := HO2'
            have HO3 := HO3'
            clear HAP' HO1' HO2' HO3' HM
            have p0 := (K5.out.cell hbl).trans HP.out.2.1
            have p1 := (K5.out.cell hbl).trans HP.out.2.2
            have hb5 := Nat.lt_of_lt_of_le hbl K5.out.size
            go_wp2_with (at_builtin; refine wpList_app_run _ _ 39 _ _ rfl rfl rfl rfl hr1 ?_)
            go_roundw
            case rel => exact ⟨k + 1, by omega, by go_num, K5.out, HFK.out, HO1.out, by rw [HL2.out]; exact HO2.out, by rw [HS2.out]; exact HO3.out, HAP.out⟩
            case measure => simp [intOf]; omega
          case neg =>
            have e5 : (gn != 0) = true := by rw [bne_iff_ne]; exact hz
            have hq0 : ¬ (⟨gn, gd⟩ : Fq).q = 0 := fun h => hz (HZK.out.1 h)
            have hL := HL.out
            have hS := HS.out
            rw [if_neg hq0] at hL hS
            have HL2 := Lib.hid hL
            have HS2 := Lib.hid hS
            clear hL hS HL HS hq0 hz HZK
            go_wp2_with fail
            refine (C2 _).out.mono ?_
            rintro e w3 ⟨rfl, hk3⟩
            have k4 : Keep NoS wr (((w3.alloc (.cells #[.int .i64 mn, .int .i64 md] TF)).alloc (.cells #[.int .i64 0, .int .i64 0] 26)).alloc (.cells #[.int .i64 mn, .int .i64 md] TF)) := by have HK := Lib.hid hk3; (repeat' (first | (with_reducible assumption) | (with_reducible exact HK.out) | (with_reducible exact Keep.refl _ _) | (with_reducible refine Keep.alloc ?_ _) | (with_reducible refine Keep.setCell ?_ _ (fun h => absurd h (by omega))) | (with_reducible refine Keep.drewN ?_ _) | (with_reducible refine Keep.drew ?_)))
            have hb4 : Blk (((w3.alloc (.cells #[.int .i64 mn, .int .i64 md] TF)).alloc (.cells #[.int .i64 0, .int .i64 0] 26)).alloc (.cells #[.int .i64 mn, .int .i64 md] TF)) (w3.heap.size + 1 + 1) #[.int .i64 mn, .int .i64 md] := by (repeat (first | (refine blk_at _ _ ?_; simp; done) | (refine Blk.old ?_ _)))
            have hs4 : w.heap.size ≤ (((w3.alloc (.cells #[.int .i64 mn, .int .i64 md] TF)).alloc (.cells #[.int .i64 0, .int .i64 0] 26)).alloc (.cells #[.int .i64 mn, .int .i64 md] TF)).heap.size := Nat.le_trans HKR.out.size k4.size
            obtain ⟨v1, w5, hr1, ho1, hg1, hv1⟩ := app_frac (g := ⟨mn, md⟩) (HO1.out.keep k4) hb4 (by rw [HL1.out]; omega) hs4
            have K5 := Lib.hid ((HKR.out.both k4).grown hg1 fun k hk => HO1.out.block k hk)
            have HO1' := Lib.hid (show OwnF w5 w.heap.size v1 ((times.take (k + 1)).map (mulG c)) from by rw [HM.out]; exact ho1)
            have hlt1 := (HO2.out.keep k4).lt
            have hlt2 := (HO3.out.keep k4).lt
            have HO2' := Lib.hid ((HO2.out.keep k4).grown0 hg1 HAP.out.1.symm.row)
            have HO3' := Lib.hid ((HO3.out.keep k4).grown0 hg1 HAP.out.2.1.symm.row)
            have HAP' := Lib.hid (And.intro (HAP.out.1.symm.step hlt1 hv1).symm (And.intro (HAP.out.2.1.symm.step hlt2 hv1).symm HAP.out.2.2))
            obtain ⟨o1', d1', hs1, _⟩ := ho1.len
            rw [List.length_append, HL1.out, List.length_singleton] at hs1
            subst hs1
            clear hk3 k4 hb4 hs4 ho1 hg1 hlt1 hlt2 hv1 p0 p1
            have HAP := HAP'
            have HO1 := HO1'
            have HO2 := HO2'
            have HO3 := HO3'
            clear HAP' HO1' HO2' HO3' HM
            have p0 := (K5.out.cell hbl).trans HP.out.2.1
            have p1 := (K5.out.cell hbl).trans HP.out.2.2
            have hb5 := Nat.lt_of_lt_of_le hbl K5.out.size
            have k6 : Keep NoS w5 (w5.alloc (.cells #[.int .i64 gn, .int .i64 gd] TF)) := (Keep.refl _ _).alloc _
            have hb6 : Blk (w5.alloc (.cells #[.int .i64 gn, .int .i64 gd] TF)) w5.heap.size #[.int .i64 gn, .int .i64 gd] := blk_at _ _ rfl
            obtain ⟨v2, w6, hr2, ho2, hg2, hv2⟩ := app_frac (g := ⟨gn, gd⟩) (HO2.out.keep k6) hb6 (by have := leftG_le (times := times) k; omega) (Nat.le_trans K5.out.size k6.size)
            have K6 := Lib.hid ((K5.out.both k6).grown hg2 fun k hk => HO2.out.block k hk)
            have HO2' := Lib.hid (show OwnF w6 w.heap.size v2 (leftG times (k + 1)) from by rw [HL2.out]; exact ho2)
            have HO1' := Lib.hid ((HO1.out.keep k6).grown0 hg2 HAP.out.1.row)
            have HO3' := Lib.hid ((HO3.out.keep k6).grown0 hg2 HAP.out.2.2.symm.row)
            have HAP' := Lib.hid (And.intro (HAP.out.1.step (HO1.out.keep k6).lt hv2) (And.intro HAP.out.2.1 (HAP.out.2.2.symm.step (HO3.out.keep k6).lt hv2).symm))
            obtain ⟨o2', d2', hs2, _⟩ := ho2.len
            rw [List.length_append, List.length_singleton] at hs2
            subst hs2
            clear k6 hb6 ho2 hg2 hv2
            have HAP := HAP'
            have HO1 := HO1'
            have HO2 := HO2'
            have HO3 := HO3'
            clear HAP' HO1' HO2' HO3'
            have k7 : Keep NoS w6 (w6.alloc (.cells #[.slice os r.of.length cs, .int .i64 r.kind, .int .i64 r.to] TRw)) := (Keep.refl _ _).alloc _
            have hb7 : Blk (w6.alloc (.cells #[.slice os r.of.length cs, .int .i64 r.kind, .int .i64 r.to] TRw)) w6.heap.size #[.slice os r.of.length cs, .int .i64 r.kind, .int .i64 r.to] := blk_at _ _ rfl
            obtain ⟨sv, hsv, hri⟩ := HROW.out
            cases hsv
            have hlk := less_le (rows := rows) (ts := times.map Fq.q) k
            obtain ⟨v3, w7, hr3, ho3, hg3, hv3⟩ := app_row (r := r) (HO3.out.keep k7) hb7 hri (by omega) (Nat.le_trans K6.out.size k7.size)
            have K7 := Lib.hid ((K6.out.both k7).grown hg3 fun k hk => HO3.out.block k hk)
            have HO3' := Lib.hid (show OwnR w w7 w.heap.size v3 (lessK rows (times.map Fq.q) (k + 1)) from by rw [HS2.out]; exact ho3)
            have HO1' := Lib.hid ((HO1.out.keep k7).grown0 hg3 HAP.out.2.1.row)
            have HO2' := Lib.hid ((HO2.out.keep k7).grown0 hg3 HAP.out.2.2.row)
            have HAP' := Lib.hid (And.intro HAP.out.1 (And.intro (HAP.out.2.1.step (HO1.out.keep k7).lt hv3) (HAP.out.2.2.step (HO2.out.keep k7).lt hv3)))
            obtain ⟨o3', d3', hs3, _⟩ := ho3.len
            rw [List.length_append, List.length_singleton] at hs3
            subst hs3
            have r0 := (K6.out.cell hbl').trans HQ.out.2.1
            have r1 := (K6.out.cell hbl').trans HQ.out.2.2.1
            have r2 := (K6.out.cell hbl').trans HQ.out.2.2.2
            have hb6 := Nat.lt_of_lt_of_le hbl' K6.out.size
            clear k7 hb7 ho3 hg3 hv3 hri hlk HROW HQ HP
            have HAP := HAP'
            have HO1 := HO1'
            have HO2 := HO2'
            have HO3 := HO3'
            clear HAP' HO1' HO2' HO3'
            go_wp2_with (at_builtin; first | refine wpList_app_run _ _ 39 _ _ rfl rfl rfl rfl hr1 ?_ | refine wpList_app_run _ _ 39 _ _ rfl rfl rfl rfl hr2 ?_ | refine wpList_app_run _ _ 42 _ _ rfl rfl rfl rfl hr3 ?_)
            go_roundw
            case rel => exact ⟨k + 1, by omega, by go_num, K7.out, HFK.out, HO1.out, HO2.out, HO3.out, HAP.out⟩
            case measure => simp [intOf]; omega
end Go.Proofs.Ytihcbmkjfacooaa
