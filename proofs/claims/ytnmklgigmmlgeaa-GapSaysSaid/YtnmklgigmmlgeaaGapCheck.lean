/- gap.Check, and the document's answer to it. -/
import Derived.Test.YtnmklgigmmlgeaaOpenS
import Derived.Test.YtnmklgigmmlgeaaFracFact
import Derived.Deep.DeepCutAuto
namespace Go.Proofs.Ytnmklgigmmlgeaa
open Go.ChangeShapes Go.WideShapes Go.RowKit
set_option linter.unusedVariables false
set_option linter.unusedSimpArgs false

def gc (n : Int) (g : Gp) : Int := if g.A < 0 ∨ n ≤ g.A ∨ g.B < 0 ∨ n ≤ g.B then 6 else if g.By < -1000000 ∨ 1000000 < g.By then 3 else 0
def gapChk (n : Int) : List Gp → Nat → Int × Int
  | [], _ => (0, 0)
  | g :: t, i => if gc n g = 0 then gapChk n t (i + 1) else (gc n g, i)
def gapsW (n : Int) (l : List Gp) : Int × Int := if n < 0 ∨ 12 < n then (3, -1) else if 60 < l.length then (2, 0) else gapChk n l 0

theorem gapChk_drop (n : Int) (l : List Gp) (k : Nat) (h : k < l.length) : gapChk n (l.drop k) k = if gc n l[k] = 0 then gapChk n (l.drop (k + 1)) (k + 1) else (gc n l[k], (k : Int)) := by
  rw [List.drop_eq_getElem_cons h, gapChk]

theorem IsGaps.at {w : World} {v : Value} {l : List Gp} (h : IsGaps w v l) {k : Nat} (hk : k < l.length) : ∃ b o cap, v = .slice (some ⟨b, o, none⟩) l.length cap ∧ b < w.heap.size ∧
    w.cell? ⟨b, o + k * 3, none⟩ = some (.int .i64 l[k].A) ∧ w.cell? ⟨b, o + k * 3 + 1, none⟩ = some (.int .i64 l[k].B) ∧ w.cell? ⟨b, o + k * 3 + 2, none⟩ = some (.int .i64 l[k].By) := by
  obtain ⟨oa, cap, h1, h2, h3, h4⟩ := h
  obtain ⟨b, o, rfl, hb, hc⟩ := h4 (by rintro rfl; simp at hk)
  exact ⟨b, o, cap, h1, hb, hc k _ (List.getElem?_eq_getElem hk)⟩

theorem gc6 {n A B By : Int} (h : A < 0 ∨ n ≤ A ∨ B < 0 ∨ n ≤ B) : gc n ⟨A, B, By⟩ = 6 := by unfold gc; rw [if_pos h]
theorem gc3 {n A B By : Int} (h : ¬ (A < 0 ∨ n ≤ A ∨ B < 0 ∨ n ≤ B)) (h' : By < -1000000 ∨ 1000000 < By) : gc n ⟨A, B, By⟩ = 3 := by unfold gc; rw [if_neg h, if_pos h']
theorem gc0 {n A B By : Int} (h : ¬ (A < 0 ∨ n ≤ A ∨ B < 0 ∨ n ≤ B)) (h' : ¬ (By < -1000000 ∨ 1000000 < By)) : gc n ⟨A, B, By⟩ = 0 := by unfold gc; rw [if_neg h, if_neg h']
theorem chk_no {n : Int} {l : List Gp} {k : Nat} {g : Gp} {c : Int} (h : gapChk n l 0 = gapChk n (l.drop k) k) (hx : gapChk n (l.drop k) k = if gc n g = 0 then gapChk n (l.drop (k + 1)) (k + 1) else (gc n g, (k : Int))) (hc : gc n g = c) (h0 : c ≠ 0) : gapChk n l 0 = (c, (k : Int)) := by
  rw [h, hx, hc, if_neg h0]
theorem ret_fault {p q : Int × Int} (h : p = q) : Ending.returned (faultV p.1 p.2) = .returned (faultV q.1 q.2) := by rw [h]
theorem chk_go {n : Int} {l : List Gp} {k : Nat} {g : Gp} (h : gapChk n l 0 = gapChk n (l.drop k) k) (hx : gapChk n (l.drop k) k = if gc n g = 0 then gapChk n (l.drop (k + 1)) (k + 1) else (gc n g, (k : Int))) (hc : gc n g = 0) : gapChk n l 0 = gapChk n (l.drop (k + 1)) (k + 1) := by
  rw [h, hx, if_pos hc]

set_option maxRecDepth 100000 in
set_option maxHeartbeats 16000000 in
theorem gapCheck_any (w : World) (n : Int) (v : Value) (l : List Gp) (h : IsGaps w v l) :
    Calls Try.prog 39 #[.int .i64 n, v] w fun e w' => e = .returned (faultV (gapsW n l).1 (gapsW n l).2) ∧ Keep NoS w w' := by
  have HG := Lib.hid h
  obtain ⟨oa, cap, rfl, hm, hr, _⟩ := h
  have HR := Lib.hid hr; clear hr
  unfold maxLen at hm
  by_cases h1 : n < 0
  · have hv : gapsW n l = (3, -1) := by unfold gapsW; rw [if_pos (.inl h1)]
    rw [hv]
    have e1 := dec_t h1
    go_enter Try.func39, Try.ntmps39
    go_wp2
    go_returns
    exact ⟨rfl, by (repeat' (first | (with_reducible assumption) | (with_reducible exact HK.out) | (with_reducible exact Keep.refl _ _) | (with_reducible refine Keep.alloc ?_ _) | (with_reducible refine Keep.setCell ?_ _ (fun h => absurd h (by omega))) | (with_reducible refine Keep.drewN ?_ _) | (with_reducible refine Keep.drew ?_)))⟩
  have e1 := dec_f h1
  by_cases h2 : 12 < n
  · have hv : gapsW n l = (3, -1) := by unfold gapsW; rw [if_pos (.inr h2)]
    rw [hv]
    have e2 := dec_t h2
    go_enter Try.func39, Try.ntmps39
    go_wp2
    go_returns
    exact ⟨rfl, by (repeat' (first | (with_reducible assumption) | (with_reducible exact HK.out) | (with_reducible exact Keep.refl _ _) | (with_reducible refine Keep.alloc ?_ _) | (with_reducible refine Keep.setCell ?_ _ (fun h => absurd h (by omega))) | (with_reducible refine Keep.drewN ?_ _) | (with_reducible refine Keep.drew ?_)))⟩
  have e2 := dec_f h2
  by_cases h3 : 60 < l.length
  · have hv : gapsW n l = (2, 0) := by unfold gapsW; rw [if_neg (by omega), if_pos h3]
    rw [hv]
    have e3 : (60 : Int) < (l.length : Int) := by omega
    go_enter Try.func39, Try.ntmps39
    go_wp2
    go_returns
    exact ⟨rfl, by (repeat' (first | (with_reducible assumption) | (with_reducible exact HK.out) | (with_reducible exact Keep.refl _ _) | (with_reducible refine Keep.alloc ?_ _) | (with_reducible refine Keep.setCell ?_ _ (fun h => absurd h (by omega))) | (with_reducible refine Keep.drewN ?_ _) | (with_reducible refine Keep.drew ?_)))⟩
  have e3 : ¬ (60 : Int) < (l.length : Int) := by omega
  have hv : gapsW n l = gapChk n l 0 := by unfold gapsW; rw [if_neg (by omega), if_neg h3]
  rw [hv]
  clear hv
  go_enter Try.func39, Try.ntmps39
  go_wp2
  go_loopw [22] (fun s wr => ∃ k : Nat, k ≤ l.length ∧ s = .int .i64 k ∧ gapChk n l 0 = gapChk n (l.drop k) k ∧ Keep NoS (w.alloc (.cells #[.int .i64 0, .int .i64 0] 25)) wr) (fun s _ => (l.length - intOf s).toNat)
  case atStart => exact ⟨0, by omega, rfl, rfl, Keep.refl _ _⟩
  case round =>
    obtain ⟨k, hk, rfl, hdr, hkp⟩ := hrel
    have HD := Lib.hid hdr; clear hdr
    have KW : Keep NoS w wr := (Keep.refl NoS w).alloc _ |>.trans hkp fun _ _ _ h => h
    have BW : Blk wr w.heap.size #[.int .i64 0, .int .i64 0] := Blk.keep (blk_at _ _ rfl) hkp
    obtain ⟨c0, c1, f0, f1, l0⟩ := BW.two
    have m0 : ¬ wr.heap.size = w.heap.size := by omega
    by_cases hkl : k < l.length
    · have hlt : (k : Int) < (l.length : Int) := by omega
      obtain ⟨b, o, cp, hsl, hb, g0, g1, g2⟩ := (HG.out.keep KW).at hkl
      cases hsl
      have hbb : ¬ wr.heap.size = b := by omega
      have hx := gapChk_drop n l k hkl
      generalize l[k] = g at *
      obtain ⟨A, B, By⟩ := g
      simp only at g0 g1 g2
      have HX := Lib.hid hx; clear hx
      by_cases p1 : A < 0
      · have q_p1 := dec_t p1
        have E := Lib.hid (chk_no HD.out HX.out (gc6 (.inl p1)) (by omega))
        clear HX
        go_wp2
        refine bodyPost_ret (by simp [results, Try.results39, go_sem, c0, c1, f0, f1, m0, l0]; rfl) rfl ?_
        exact ⟨ret_fault E.out.symm, by (repeat' (first | (with_reducible assumption) | (with_reducible exact HK.out) | (with_reducible exact Keep.refl _ _) | (with_reducible refine Keep.alloc ?_ _) | (with_reducible refine Keep.setCell ?_ _ (fun h => absurd h (by omega))) | (with_reducible refine Keep.drewN ?_ _) | (with_reducible refine Keep.drew ?_)))⟩
      have q_p1 := dec_f p1
      by_cases p2 : n ≤ A
      · have q_p2 := dec_t p2
        have E := Lib.hid (chk_no HD.out HX.out (gc6 (.inr (.inl p2))) (by omega))
        clear HX
        go_wp2
        refine bodyPost_ret (by simp [results, Try.results39, go_sem, c0, c1, f0, f1, m0, l0]; rfl) rfl ?_
        exact ⟨ret_fault E.out.symm, by (repeat' (first | (with_reducible assumption) | (with_reducible exact HK.out) | (with_reducible exact Keep.refl _ _) | (with_reducible refine Keep.alloc ?_ _) | (with_reducible refine Keep.setCell ?_ _ (fun h => absurd h (by omega))) | (with_reducible refine Keep.drewN ?_ _) | (with_reducible refine Keep.drew ?_)))⟩
      have q_p2 := dec_f p2
      by_cases p3 : B < 0
      · have q_p3 := dec_t p3
        have E := Lib.hid (chk_no HD.out HX.out (gc6 (.inr (.inr (.inl p3)))) (by omega))
        clear HX
        go_wp2
        refine bodyPost_ret (by simp [results, Try.results39, go_sem, c0, c1, f0, f1, m0, l0]; rfl) rfl ?_
        exact ⟨ret_fault E.out.symm, by (repeat' (first | (with_reducible assumption) | (with_reducible exact HK.out) | (with_reducible exact Keep.refl _ _) | (with_reducible refine Keep.alloc ?_ _) | (with_reducible refine Keep.setCell ?_ _ (fun h => absurd h (by omega))) | (with_reducible refine Keep.drewN ?_ _) | (with_reducible refine Keep.drew ?_)))⟩
      have q_p3 := dec_f p3
      by_cases p4 : n ≤ B
      · have q_p4 := dec_t p4
        have E := Lib.hid (chk_no HD.out HX.out (gc6 (.inr (.inr (.inr p4)))) (by omega))
        clear HX
        go_wp2
        refine bodyPost_ret (by simp [results, Try.results39, go_sem, c0, c1, f0, f1, m0, l0]; rfl) rfl ?_
        exact ⟨ret_fault E.out.symm, by (repeat' (first | (with_reducible assumption) | (with_reducible exact HK.out) | (with_reducible exact Keep.refl _ _) | (with_reducible refine Keep.alloc ?_ _) | (with_reducible refine Keep.setCell ?_ _ (fun h => absurd h (by omega))) | (with_reducible refine Keep.drewN ?_ _) | (with_reducible refine Keep.drew ?_)))⟩
      have q_p4 := dec_f p4
      by_cases p5 : By < -1000000
      · have q_p5 := dec_t p5
        have E := Lib.hid (chk_no HD.out HX.out (gc3 (by omega) (.inl p5)) (by omega))
        clear HX
        go_wp2
        refine bodyPost_ret (by simp [results, Try.results39, go_sem, c0, c1, f0, f1, m0, l0]; rfl) rfl ?_
        exact ⟨ret_fault E.out.symm, by (repeat' (first | (with_reducible assumption) | (with_reducible exact HK.out) | (with_reducible exact Keep.refl _ _) | (with_reducible refine Keep.alloc ?_ _) | (with_reducible refine Keep.setCell ?_ _ (fun h => absurd h (by omega))) | (with_reducible refine Keep.drewN ?_ _) | (with_reducible refine Keep.drew ?_)))⟩
      have q_p5 := dec_f p5
      by_cases p6 : 1000000 < By
      · have q_p6 := dec_t p6
        have E := Lib.hid (chk_no HD.out HX.out (gc3 (by omega) (.inr p6)) (by omega))
        clear HX
        go_wp2
        refine bodyPost_ret (by simp [results, Try.results39, go_sem, c0, c1, f0, f1, m0, l0]; rfl) rfl ?_
        exact ⟨ret_fault E.out.symm, by (repeat' (first | (with_reducible assumption) | (with_reducible exact HK.out) | (with_reducible exact Keep.refl _ _) | (with_reducible refine Keep.alloc ?_ _) | (with_reducible refine Keep.setCell ?_ _ (fun h => absurd h (by omega))) | (with_reducible refine Keep.drewN ?_ _) | (with_reducible refine Keep.drew ?_)))⟩
      have q_p6 := dec_f p6
      have HY := Lib.hid (chk_go HD.out HX.out (gc0 (by omega) (by omega)))
      clear HX
      go_wp2
      go_roundw
      case rel => exact ⟨k + 1, by omega, by go_num, HY.out, hkp.trans (by (repeat' (first | (with_reducible assumption) | (with_reducible exact HK.out) | (with_reducible exact Keep.refl _ _) | (with_reducible refine Keep.alloc ?_ _) | (with_reducible refine Keep.setCell ?_ _ (fun h => absurd h (by omega))) | (with_reducible refine Keep.drewN ?_ _) | (with_reducible refine Keep.drew ?_)))) fun _ _ _ h => h⟩
      case measure => simp [intOf]; omega
    · have hlt : ¬ (k : Int) < (l.length : Int) := by omega
      obtain rfl : k = l.length := by omega
      have E := Lib.hid (by rw [HD.out, List.drop_length]; rfl : gapChk n l 0 = (0, 0))
      go_wp2
      refine bodyPost_ret (by simp [results, Try.results39, go_sem, c0, c1, f0, f1, m0, l0]; rfl) rfl ?_
      exact ⟨ret_fault E.out.symm, by (repeat' (first | (with_reducible assumption) | (with_reducible exact HK.out) | (with_reducible exact Keep.refl _ _) | (with_reducible refine Keep.alloc ?_ _) | (with_reducible refine Keep.setCell ?_ _ (fun h => absurd h (by omega))) | (with_reducible refine Keep.drewN ?_ _) | (with_reducible refine Keep.drew ?_)))⟩
end Go.Proofs.Ytnmklgigmmlgeaa
