/- Package simplex's checkCells: what is wrong with a table. -/
import Derived.Test.YtamjmcdlddocgaaGreatPtAA
import Derived.Test.YtamjmcdlddocgaaGreatFkAA
namespace Go.Proofs.YtamjmcdlddocgaaGreat
open Go.ChangeShapes Go.WideShapes Go.RowKit
set_option linter.unusedVariables false
set_option linter.unusedSimpArgs false
def okLine (l : List Fq) : Bool := l.all fun g => decide (FracOK g.N g.D)
def firstLine (m : Nat) : List (List Fq) → Nat → Int × Int
 | [], _ => (0, 0)
 | l :: r, i => if l.length ≠ m then (9, i) else if okLine l = true then firstLine m r (i + 1) else (5, i)
theorem firstLine_in {m : Nat} {t : List (List Fq)} {k i : Nat} (hk : k < t.length) (h : t[k].length = m) (ho : okLine t[k] = true) : firstLine m (t.drop k) i = firstLine m (t.drop (k + 1)) (i + 1) := by
 rw [List.drop_eq_getElem_cons hk, firstLine, if_neg (by simp [h]), if_pos ho]
theorem firstLine_size {m : Nat} {t : List (List Fq)} {k i : Nat} (hk : k < t.length) (h : t[k].length ≠ m) : firstLine m (t.drop k) i = (9, (i : Int)) := by
 rw [List.drop_eq_getElem_cons hk, firstLine, if_pos h]
theorem firstLine_form {m : Nat} {t : List (List Fq)} {k i : Nat} (hk : k < t.length) (h : t[k].length = m) (ho : okLine t[k] = false) : firstLine m (t.drop k) i = (5, (i : Int)) := by
 rw [List.drop_eq_getElem_cons hk, firstLine, if_neg (by simp [h]), if_neg (by simp [ho])]
theorem firstLine_end {m : Nat} {t : List (List Fq)} {k i : Nat} (hk : t.length ≤ k) : firstLine m (t.drop k) i = (0, 0) := by
 rw [List.drop_eq_nil_of_le hk]; rfl
def headLen (t : List (List Fq)) : Nat := (t.getD 0 []).length
def tabF (t : List (List Fq)) : Int × Int := if 40 < t.length ∨ 0 < t.length ∧ 12 < headLen t then (2, 0) else firstLine (headLen t) t 0
theorem okLine_drop {l : List Fq} {k : Nat} (hk : k < l.length) : (l.drop k).all (fun g => decide (FracOK g.N g.D)) = (decide (FracOK (l[k]).N (l[k]).D) && (l.drop (k + 1)).all fun g => decide (FracOK g.N g.D)) := by
 rw [List.drop_eq_getElem_cons hk, List.all_cons]
set_option maxRecDepth 100000 in
set_option maxHeartbeats 16000000 in
theorem chkCells_any (w : World) (v : Value) (t : List (List Fq)) (h : IsTab w v t) :
  Calls Tryz.prog 20 #[v] w fun e w' => e = .returned (fV (tabF t)) ∧ Keep NoS w w' := by
 have HT := Lib.hid h
 obtain ⟨oa, ca, rfl, _, hma⟩ := h.len
 unfold maxLen at hma
 clear h
 have HS2 : Hid (w.heap.size ≤ w.heap.size) := Lib.hid (Nat.le_refl _)
 unfold tabF fV
 by_cases h40 : 40 < t.length
 case pos =>
  rw [if_pos (.inl h40)]
  have e1 : (40 : Int) < (t.length : Int) := by omega
  go_enter Tryz.func20, Tryz.ntmps20
  go_wp2
  refine bodyPost_ret (by simp [results, Tryz.results20, go_sem]; rfl) rfl ?_
  exact ⟨rfl, by (repeat' (with_reducible first | assumption | exact HK.out | exact keR | refine keA ?_ | refine keS ?_ fun h => absurd h (by omega) | refine keN ?_ | refine keD ?_))⟩
 case neg =>
  have e1 : ¬ (40 : Int) < (t.length : Int) := by omega
  by_cases h0 : 0 < t.length
  case neg =>
   obtain rfl : t = [] := List.eq_nil_of_length_eq_zero (by omega)
   rw [if_neg (by simp)]
   clear e1 h40 h0 HT
   go_enter Tryz.func20, Tryz.ntmps20
   go_wp2_with fail
   have HB2 : Hid (Blk (w.alloc (.cells #[.int .i64 0, .int .i64 0] 26)) w.heap.size #[.int .i64 0, .int .i64 0]) := Lib.hid (blk_at _ _ rfl)
   have HK0 : Hid (Keep NoS w (w.alloc (.cells #[.int .i64 0, .int .i64 0] 26))) := Lib.hid (by (repeat' (with_reducible first | assumption | exact HK.out | exact keR | refine keA ?_ | refine keS ?_ fun h => absurd h (by omega) | refine keN ?_ | refine keD ?_)))
   generalize w.alloc (.cells #[.int .i64 0, .int .i64 0] 26) = w2 at *
   generalize hb2 : w.heap.size = b2 at HB2 ⊢
   have HS2 : Hid (w.heap.size ≤ b2) := Lib.hid (by omega)
   clear hb2
   go_loopw [25] (fun s wr => s = .int .i64 0 ∧ Keep NoS w wr ∧ Blk wr b2 #[.int .i64 0, .int .i64 0]) (fun _ _ => 0)
   case atStart => exact ⟨rfl, HK0.out, HB2.out⟩
   case round =>
    obtain ⟨rfl, hkr, hb2⟩ := hrel
    have HKR := Lib.hid hkr
    clear hkr HK0 HB2
    obtain ⟨r0, r1, f0, f1, rl⟩ := hb2.two
    go_wp2
    refine bodyPost_ret (by simp [results, Tryz.results20, go_sem, r0, r1, rl]; rfl) rfl ?_
    exact ⟨rfl, keep_set2 HKR.out HS2.out _ _⟩
  case pos =>
   have e2 : (0 : Int) < (t.length : Int) := by omega
   obtain ⟨b, o, sv, rfl, hb, hcell, hfr⟩ := HT.out.at h0
   have hcell : w.cell? ⟨b, o, none⟩ = some sv := by simpa using hcell
   have hhl : headLen t = t[0].length := by unfold headLen; rw [List.getD_eq_getElem?_getD, List.getElem?_eq_getElem h0]; rfl
   obtain ⟨oh, ch, rfl, _⟩ := hfr.len
   rw [← hhl] at hcell
   generalize headLen t = m at *
   by_cases h12 : 12 < m
   case pos =>
    rw [if_pos (.inr ⟨h0, h12⟩)]
    have e3 : (12 : Int) < (m : Int) := by omega
    clear hfr hhl HT
    go_enter Tryz.func20, Tryz.ntmps20
    go_wp2
    refine bodyPost_ret (by simp [results, Tryz.results20, go_sem]; rfl) rfl ?_
    exact ⟨rfl, by (repeat' (with_reducible first | assumption | exact HK.out | exact keR | refine keA ?_ | refine keS ?_ fun h => absurd h (by omega) | refine keN ?_ | refine keD ?_))⟩
   case neg =>
    rw [if_neg (by omega)]
    have e3 : ¬ (12 : Int) < (m : Int) := by omega
    have HC := Lib.hid hcell
    clear hfr hhl h40 h12
    go_enter Tryz.func20, Tryz.ntmps20
    go_wp2
    have HB2 : Hid (Blk (w.alloc (.cells #[.int .i64 0, .int .i64 0] 26)) w.heap.size #[.int .i64 0, .int .i64 0]) := Lib.hid (blk_at _ _ rfl)
    have HK0 : Hid (Keep NoS w (w.alloc (.cells #[.int .i64 0, .int .i64 0] 26))) := Lib.hid (by (repeat' (with_reducible first | assumption | exact HK.out | exact keR | refine keA ?_ | refine keS ?_ fun h => absurd h (by omega) | refine keN ?_ | refine keD ?_)))
    generalize w.alloc (.cells #[.int .i64 0, .int .i64 0] 26) = w2 at *
    generalize hb2 : w.heap.size = b2 at HB2 ⊢
    have HS2 : Hid (w.heap.size ≤ b2) := Lib.hid (by omega)
    clear hb2
    go_loopw [25] (fun s wr => ∃ k : Nat, k ≤ t.length ∧ s = .int .i64 k ∧ firstLine m t 0 = firstLine m (t.drop k) k ∧ Keep NoS w wr ∧ Blk wr b2 #[.int .i64 0, .int .i64 0]) (fun s _ => (t.length - intOf s).toNat)
    case atStart => exact ⟨0, by omega, rfl, rfl, HK0.out, HB2.out⟩
    case round =>
     obtain ⟨k, hk, rfl, hf, hkr, hb2⟩ := hrel
     have HF := Lib.hid hf
     have HKR := Lib.hid hkr
     have HB2 := Lib.hid hb2
     clear hf hkr hb2 HK0
     by_cases hkl : k < t.length
     case neg =>
      have hlt : ¬ (k : Int) < (t.length : Int) := by omega
      have HNX := Lib.hid (HF.out.trans (firstLine_end (i := k) (by omega)))
      obtain ⟨r0, r1, f0, f1, rl⟩ := HB2.out.two
      clear HF
      go_wp2
      refine bodyPost_ret (by simp [results, Tryz.results20, go_sem, r0, r1, rl]; rfl) rfl ?_
      exact ⟨by rw [HNX.out], keep_set2 HKR.out HS2.out _ _⟩
     case pos =>
      have hlt : (k : Int) < (t.length : Int) := by omega
      obtain ⟨b', o', sv', hbo, hb', hcell', hfr'⟩ := HT.out.at hkl
      cases hbo
      obtain ⟨ol, cl, rfl, _, hml⟩ := hfr'.len
      have HFR := Lib.hid hfr'
      have hc0 := (HKR.out.cell hb).trans HC.out
      have hc1 := (HKR.out.cell hb).trans hcell'
      have hbr := Nat.lt_of_lt_of_le hb HKR.out.size
      have hIN := fun h ho => firstLine_in (m := m) (i := k) hkl h ho
      have hSZ := fun h => firstLine_size (m := m) (i := k) hkl h
      have hFM := fun h ho => firstLine_form (m := m) (i := k) hkl h ho
      generalize t[k] = l at *
      clear hcell hcell' hfr'
      by_cases hm : l.length = m
      case neg =>
       have e5 : ((l.length : Int) != (m : Int)) = true := by rw [bne_iff_ne]; omega
       have HNX := Lib.hid (HF.out.trans (hSZ hm))
       obtain ⟨r0, r1, f0, f1, rl⟩ := HB2.out.two
       clear HF hIN hSZ hFM hm
       go_wp2
       refine bodyPost_ret (by simp [results, Tryz.results20, go_sem, r0, r1, rl]; rfl) rfl ?_
       exact ⟨by rw [HNX.out], keep_set2 HKR.out HS2.out _ _⟩
      case pos =>
       have e5 : ((l.length : Int) != (m : Int)) = false := by rw [bne_eq_false_iff_eq]; omega
       have HIN := Lib.hid (hIN hm)
       have HFM := Lib.hid (hFM hm)
       clear hIN hSZ hFM hm
       unfold maxLen at hml
       go_wp2
       have HKO := HKR
       have HBO := HB2
       clear hc0 hc1 hbr e5
       go_loopw [41] (fun s wr => ∃ j : Nat, j ≤ l.length ∧ s = .int .i64 j ∧ okLine l = (l.drop j).all (fun g => decide (FracOK g.N g.D)) ∧ Keep NoS w wr ∧ Blk wr b2 #[.int .i64 0, .int .i64 0]) (fun s _ => (l.length - intOf s).toNat)
       case atStart => exact ⟨0, by omega, rfl, rfl, HKO.out, HBO.out⟩
       case round =>
        obtain ⟨j, hj, rfl, ho, hkr, hb2⟩ := hrel
        have HOL := Lib.hid ho
        have HKX := Lib.hid hkr
        have HB2 := Lib.hid hb2
        clear ho hkr hb2 HKO HBO
        by_cases hjl : j < l.length
        case neg =>
         have hltj : ¬ (j : Int) < (l.length : Int) := by omega
         have HNX := Lib.hid (HF.out.trans (HIN.out (HOL.out.trans (by rw [List.drop_eq_nil_of_le (by omega)]; rfl))))
         clear HF HIN HFM HOL
         go_wp2
         go_roundw
         case rel => exact ⟨k + 1, by omega, by go_num, HNX.out, HKX.out, HB2.out⟩
         case measure => simp [intOf]; omega
        case pos =>
         have hltj : (j : Int) < (l.length : Int) := by omega
         obtain ⟨bl, oo, rfl, hbl, p0, p1⟩ := (HFR.out.keep HKX.out).at hjl
         have HA := Lib.hid (okLine_drop hjl)
         generalize l[j] = g at *
         obtain ⟨gn, gd⟩ := g
         simp only at p0 p1 HA
         by_cases hx : FracOK gn gd
         ·have CC := fun w => Lib.hid (check_ok gn gd w hx)
          have HNX := Lib.hid (HOL.out.trans (HA.out.trans (by rw [decide_eq_true hx, Bool.true_and])))
          clear hx HA HOL
          go_wp2_with fail
          refine (CC _).out.mono ?_
          rintro e w4 ⟨rfl, hb4⟩
          have k4 : Keep NoS wr w4 := Keep.trans (by (repeat' (with_reducible first | assumption | exact HK.out | exact keR | refine keA ?_ | refine keS ?_ fun h => absurd h (by omega) | refine keN ?_ | refine keD ?_))) (Keep.of_below hb4 (Nat.le_refl _)) fun _ _ _ h => h
          have K4 := Lib.hid (HKX.out.both k4)
          have HB4 := Lib.hid (HB2.out.keep k4)
          clear hb4 k4 p0 p1 CC
          go_wp2
          go_roundw
          case rel => exact ⟨j + 1, by omega, by go_num, HNX.out, K4.out, HB4.out⟩
          case measure => simp [intOf]; omega
         ·have CC := fun w => Lib.hid (check_no gn gd w hx)
          have HNX := Lib.hid (HF.out.trans (HFM.out (HOL.out.trans (HA.out.trans (by rw [decide_eq_false hx, Bool.false_and])))))
          clear hx HA HOL HF HIN HFM
          go_wp2_with fail
          refine (CC _).out.mono ?_
          rintro e w4 ⟨rfl, hb4⟩
          have k4 : Keep NoS wr w4 := Keep.trans (by (repeat' (with_reducible first | assumption | exact HK.out | exact keR | refine keA ?_ | refine keS ?_ fun h => absurd h (by omega) | refine keN ?_ | refine keD ?_))) (Keep.of_below hb4 (Nat.le_refl _)) fun _ _ _ h => h
          have K4 := Lib.hid (HKX.out.both k4)
          have HB4 := Lib.hid (HB2.out.keep k4)
          clear hb4 k4 p0 p1 CC
          obtain ⟨r0, r1, f0, f1, rl⟩ := HB4.out.two
          go_wp2
          refine bodyPost_ret (by simp [results, Tryz.results20, go_sem, r0, r1, rl]; rfl) rfl ?_
          exact ⟨by rw [HNX.out], keep_set2 K4.out HS2.out _ _⟩
end Go.Proofs.YtamjmcdlddocgaaGreat
