/- The law's lines0. -/
import Derived.Test.YtamjmcdlddocgaaGreatRatV
import Derived.Test.YtamjmcdlddocgaaGreatRegVV
import Derived.Test.YtamjmcdlddocgaaGreatSpL
namespace Go.Proofs.YtamjmcdlddocgaaGreat
open Go.ChangeShapes Go.WideShapes Go.RowKit
set_option linter.unusedVariables false
set_option linter.unusedSimpArgs false
def fqAtM (l : List Fq) (i : Nat) : Rat := (l.getD i ⟨0, 0⟩).q
def PFrL (t : Bool) (g : Nat) (v : Value) (w : World) : Prop := ∃ b, v = .pointer (some ⟨b, 0, none⟩) ∧ g ≤ b ∧ b < w.heap.size ∧ (t = false → Fresh w b)
theorem PFrL.keepM {S : Nat → Bool} {d e g : Nat} {v : Value} {w w' : World} (h : PFrL (S d) g v w) (k : Keep NoS w w') : PFrL (mark S e d) g v w' := by
 obtain ⟨b, e1, h1, h2, h3⟩ := h
 exact ⟨b, e1, h1, Nat.lt_of_lt_of_le h2 k.size, fun hm => (h3 (markS_false hm)).keep k⟩
theorem PFrL.offM {S : Nat → Bool} {d e g bz : Nat} {v : Value} {w w' : World} (h : PFrL (S d) g v w) (hne : v ≠ .pointer (some ⟨bz, 0, none⟩)) (k : Keep (AtR bz 0) w w') : PFrL (mark S e d) g v w' := by
 obtain ⟨b, e1, h1, h2, h3⟩ := h
 refine ⟨b, e1, h1, Nat.lt_of_lt_of_le h2 k.size, fun hm => (h3 (markS_false hm)).off (fun h => hne ?_) k⟩
 rw [e1, h]
theorem PFrL.used {b t : Bool} {g bz : Nat} {v : Value} {w w' : World} (h : PFrL b g v w) (ht : t = true) (k : Keep (AtR bz 0) w w') : PFrL t g v w' := by
 obtain ⟨b, e1, h1, h2, h3⟩ := h
 exact ⟨b, e1, h1, Nat.lt_of_lt_of_le h2 k.size, fun hm => by rw [ht] at hm; cases hm⟩
theorem relOL {S : Nat → Bool} {σ : Nat → Value} {e i j : Nat} {v : Value} (h0 : i ≠ e) (h9 : j ≠ e) (h : S i = true → S j = true → σ i ≠ σ j) : mark S e i = true → mark S e j = true → upd σ e v i ≠ upd σ e v j := by
 intro a b
 rw [markS_other h0] at a
 rw [markS_other h9] at b
 unfold upd
 rw [if_neg h0, if_neg h9]
 exact h a b
theorem relLL {S : Nat → Bool} {σ : Nat → Value} {i j n : Nat} (hij : j ≠ i) (h : S j = true → ∃ b, σ j = .pointer (some ⟨b, 0, none⟩) ∧ b < n) : mark S i i = true → mark S i j = true → upd σ i (.pointer (some ⟨n, 0, none⟩)) i ≠ upd σ i (.pointer (some ⟨n, 0, none⟩)) j := by
 intro _ hj e
 rw [markS_other hij] at hj
 obtain ⟨b, e1, hb⟩ := h hj
 unfold upd at e
 rw [if_pos rfl, if_neg hij, e1] at e
 cases e
 omega
theorem relRL {S : Nat → Bool} {σ : Nat → Value} {i j n : Nat} (hij : j ≠ i) (h : S j = true → ∃ b, σ j = .pointer (some ⟨b, 0, none⟩) ∧ b < n) : mark S i j = true → mark S i i = true → upd σ i (.pointer (some ⟨n, 0, none⟩)) j ≠ upd σ i (.pointer (some ⟨n, 0, none⟩)) i := fun a b e => relLL hij h b a e.symm
def pstL8 (g : Nat) (st si sp : Value) (ii ki : Int) (pi pk pp fx fp ps : Value) (qx qp qs : Rat) (S : Nat → Bool) : Nat → Value → World → Prop
 | 0, v, w => PFrL (S 17) g v w
 | 1, v, _ => v = ps
 | 2, v, w => PFrL (S 16) g v w
 | 3, v, _ => v = st
 | 4, v, _ => v = .int .i64 ii
 | 5, v, _ => v = pi
 | 6, v, _ => v = si
 | 7, v, _ => v = .int .i64 ki
 | 8, v, _ => v = pk
 | 9, v, _ => v = fx
 | 10, v, w => PRat g qx v w
 | 11, v, _ => v = sp
 | 12, v, _ => v = .int .i64 ki
 | 13, v, _ => v = pp
 | 14, v, _ => v = fp
 | 15, v, w => PRat g qp v w
 | 16, v, w => PRat g (qx * qp) v w
 | 17, v, w => PRat g (qs + qx * qp) v w
 | 18, v, w => PRat g (qs + qx * qp) v w
 | _, _, _ => True
theorem pstL8_keep {g : Nat} {st si sp : Value} {ii ki : Int} {pi pk pp fx fp ps : Value} {qx qp qs : Rat} {S : Nat → Bool} {w w' : World} {e : Nat} (he : True) (k : Keep NoS w w') : ∀ (d : Nat) (v : Value), pstL8 g st si sp ii ki pi pk pp fx fp ps qx qp qs S d v w → pstL8 g st si sp ii ki pi pk pp fx fp ps qx qp qs (mark S e) d v w'
 | 0, v, h => h.keepM k
 | 1, v, h => h
 | 2, v, h => h.keepM k
 | 3, v, h => h
 | 4, v, h => h
 | 5, v, h => h
 | 6, v, h => h
 | 7, v, h => h
 | 8, v, h => h
 | 9, v, h => h
 | 10, v, h => h.keep k
 | 11, v, h => h
 | 12, v, h => h
 | 13, v, h => h
 | 14, v, h => h
 | 15, v, h => h.keep k
 | 16, v, h => h.keep k
 | 17, v, h => h.keep k
 | 18, v, h => h.keep k
 | n + 19, v, h => trivial
theorem pstL8_mul {g : Nat} {st si sp : Value} {ii ki : Int} {pi pk pp fx fp ps : Value} {qx qp qs : Rat} {S : Nat → Bool} {w w' : World} {bz : Nat} (hz : Fresh w bz) (k : Keep (AtR bz 0) w w') : ∀ (d : Nat) (v : Value), d ≠ 16 → (d = 0 → v ≠ .pointer (some ⟨bz, 0, none⟩)) → pstL8 g st si sp ii ki pi pk pp fx fp ps qx qp qs S d v w → pstL8 g st si sp ii ki pi pk pp fx fp ps qx qp qs (mark S 16) d v w'
 | 0, v, hd, hn, h => h.offM (hn rfl) k
 | 1, v, hd, hn, h => h
 | 2, v, hd, hn, h => h.used (markS_self _ _) k
 | 3, v, hd, hn, h => h
 | 4, v, hd, hn, h => h
 | 5, v, hd, hn, h => h
 | 6, v, hd, hn, h => h
 | 7, v, hd, hn, h => h
 | 8, v, hd, hn, h => h
 | 9, v, hd, hn, h => h
 | 10, v, hd, hn, h => h.off hz k
 | 11, v, hd, hn, h => h
 | 12, v, hd, hn, h => h
 | 13, v, hd, hn, h => h
 | 14, v, hd, hn, h => h
 | 15, v, hd, hn, h => h.off hz k
 | 16, v, hd, hn, h => absurd rfl hd
 | 17, v, hd, hn, h => h.off hz k
 | 18, v, hd, hn, h => h.off hz k
 | n + 19, v, hd, hn, h => trivial
theorem pstL8_add {g : Nat} {st si sp : Value} {ii ki : Int} {pi pk pp fx fp ps : Value} {qx qp qs : Rat} {S : Nat → Bool} {w w' : World} {bz : Nat} (hz : Fresh w bz) (k : Keep (AtR bz 0) w w') (h16 : S 16 = true) : ∀ (d : Nat) (v : Value), d ≠ 17 → pstL8 g st si sp ii ki pi pk pp fx fp ps qx qp qs S d v w → pstL8 g st si sp ii ki pi pk pp fx fp ps qx qp qs (mark S 17) d v w'
 | 0, v, hd, h => h.used (markS_self _ _) k
 | 1, v, hd, h => h
 | 2, v, hd, h => h.used (by rw [markS_other (by omega)]; exact h16) k
 | 3, v, hd, h => h
 | 4, v, hd, h => h
 | 5, v, hd, h => h
 | 6, v, hd, h => h
 | 7, v, hd, h => h
 | 8, v, hd, h => h
 | 9, v, hd, h => h
 | 10, v, hd, h => h.off hz k
 | 11, v, hd, h => h
 | 12, v, hd, h => h
 | 13, v, hd, h => h
 | 14, v, hd, h => h
 | 15, v, hd, h => h.off hz k
 | 16, v, hd, h => h.off hz k
 | 17, v, hd, h => absurd rfl hd
 | 18, v, hd, h => h.off hz k
 | n + 19, v, hd, h => trivial
def zB (t : List (List Fq)) (pt : List Fq) (m n : Nat) : Bool := (List.range n).all fun i => decide (dotN (fun k => tq t i k) (fun k => fqAtM pt k) m = 0)
theorem zB_succ (t : List (List Fq)) (pt : List Fq) (m n : Nat) : zB t pt m (n + 1) = (zB t pt m n && decide (dotN (fun k => tq t n k) (fun k => fqAtM pt k) m = 0)) := by
 unfold zB
 rw [List.range_succ, List.all_append]
 simp
theorem zB_no {t : List (List Fq)} {pt : List Fq} {m n i : Nat} (hi : i < n) (h : dotN (fun k => tq t i k) (fun k => fqAtM pt k) m ≠ 0) : zB t pt m n = false := by
 rw [Bool.eq_false_iff]
 intro hz
 unfold zB at hz
 rw [List.all_eq_true] at hz
 exact h (of_decide_eq_true (hz i (List.mem_range.2 hi)))
theorem zB_yes {t : List (List Fq)} {pt : List Fq} {m n : Nat} : zB t pt m n = true ↔ ∀ i, i < n → dotN (fun k => tq t i k) (fun k => fqAtM pt k) m = 0 := by
 unfold zB
 rw [List.all_eq_true]
 exact ⟨fun h i hi => of_decide_eq_true (h i (List.mem_range.2 hi)), fun h i hi => decide_eq_true (h i (List.mem_range.1 hi))⟩
theorem nb_dot {f p : Nat → Rat} (hf : ∀ k, NB 1 (f k)) (hp : ∀ k, NB 1 (p k)) : ∀ k, NB (3 * k + 1) (dotN f p k)
 | 0 => nb_zero
 | k + 1 => ((nb_dot hf hp k).add ((hf k).mul (hp k))).mono (by omega)
theorem nb_fqAt {l : List Fq} (h : ∀ g ∈ l, FracOK g.N g.D) (i : Nat) : NB 1 (fqAtM l i) := by
 unfold fqAtM
 by_cases hi : i < l.length
 ·rw [List.getD_eq_getElem?_getD, List.getElem?_eq_getElem hi]
  exact nb_frac (h _ (List.getElem_mem hi))
 ·rw [List.getD_eq_getElem?_getD, List.getElem?_eq_none (by omega)]
  exact nb_zero
theorem nb_tqA {t : List (List Fq)} (h : ∀ l ∈ t, ∀ g ∈ l, FracOK g.N g.D) (i k : Nat) : NB 1 (tq t i k) := by
 unfold tq
 by_cases hi : i < t.length
 ·have e : t.getD i [] = t[i] := by rw [List.getD_eq_getElem?_getD, List.getElem?_eq_getElem hi]; rfl
  rw [e]
  exact nb_fqAt (h _ (List.getElem_mem hi)) k
 ·have e : t.getD i [] = [] := by rw [List.getD_eq_getElem?_getD, List.getElem?_eq_none (by omega)]; rfl
  rw [e]
  exact nb_zero
theorem okI {g : Fq} (h : FracOK g.N g.D) : g.D ≠ 0 ∧ -9223372036854775808 ≤ g.N ∧ g.N ≤ 9223372036854775807 ∧ -9223372036854775808 ≤ g.D ∧ g.D ≤ 9223372036854775807 := by
 obtain ⟨h1, h2, h3, h4, _⟩ := h
 refine ⟨by omega, by omega, by omega, by omega, by omega⟩
set_option maxRecDepth 100000 in
set_option maxHeartbeats 32000000 in
theorem lines0_any (w : World) (v : Value) (t : List (List Fq)) (vp : Value) (pt : List Fq) (m : Nat) (h : IsTab w v t) (hp : IsFracs w vp pt) (hm : m ≤ 12) (hl : ∀ l ∈ t, l.length = m) (hlp : pt.length = m) (hok : ∀ l ∈ t, ∀ g ∈ l, FracOK g.N g.D) (hpk : ∀ g ∈ pt, FracOK g.N g.D) :
  Calls Tryz.prog 10 #[v, vp] w fun e w' => e = .returned (.bool (zB t pt m t.length)) ∧ Keep NoS w w' := by
 have HT := Lib.hid h
 have HP := Lib.hid hp
 obtain ⟨oa, ca, rfl, _, hma⟩ := h.len
 obtain ⟨ox, cp, rfl, _, hmp⟩ := hp.len
 unfold maxLen at hma hmp
 have HL := Lib.hid hl
 have HLP := Lib.hid hlp
 rw [hlp]
 have HOK := Lib.hid hok
 have HPK := Lib.hid hpk
 clear h hp hl hlp hok hpk
 go_enter Tryz.func10, Tryz.ntmps10
 go_wp2
 go_loopw [5] (fun s wr => ∃ i : Nat, i ≤ t.length ∧ s = .int .i64 i ∧ zB t pt m i = true ∧ Keep NoS w wr) (fun s _ => (t.length - intOf s).toNat)
 case atStart => exact ⟨0, by omega, rfl, rfl, Keep.refl _ _⟩
 case round =>
  obtain ⟨i, hi, rfl, hz, hk⟩ := hrel
  have HZ := Lib.hid hz
  have HK := Lib.hid hk
  clear hz hk
  by_cases hil : i < t.length
  case neg =>
   have hlt : ¬ (i : Int) < (t.length : Int) := by omega
   obtain rfl : i = t.length := by omega
   go_wp2
   go_ret
   exact ⟨by rw [HZ.out]; rfl, HK.out⟩
  case pos =>
   have hlt : (i : Int) < (t.length : Int) := by omega
   go_wp2_with fail
   refine (newRat_any _ 0 1 (by omega) (by omega) (by omega) (by omega) (by omega)).mono ?_
   rintro e w1 ⟨b1, hb1, rfl, hk1, hi1⟩
   have K1 := Lib.hid (HK.out.both hk1)
   have HI1 : Hid (IsRat w1 b1 0 (dotN (fun k => tq t i k) (fun k => fqAtM pt k) 0)) := Lib.hid (by rw [divInt_one] at hi1; exact hi1)
   have HB1 : Hid (w.heap.size ≤ b1) := Lib.hid (Nat.le_trans HK.out.size hb1)
   clear hk1 hi1 hb1
   obtain ⟨b, o, sv, rfl, hb, hcell, hfr⟩ := HT.out.at hil
   obtain ⟨oi, ci, rfl, _, hmi⟩ := hfr.len
   unfold maxLen at hmi
   have hli := HL.out _ (List.getElem_mem hil)
   have HFR := Lib.hid hfr
   have HOKI := Lib.hid (HOK.out _ (List.getElem_mem hil))
   have HTQ : Hid (∀ k (hk : k < (t[i]).length), tq t i k = ((t[i])[k]).q) := Lib.hid (fun k hk => by
    unfold tq
    have e : t.getD i [] = t[i] := by rw [List.getD_eq_getElem?_getD, List.getElem?_eq_getElem hil]; rfl
    rw [e, List.getD_eq_getElem?_getD, List.getElem?_eq_getElem hk]; rfl)
   rw [hli] at hcell
   have HCELL := Lib.hid hcell
   have HLI := Lib.hid hli
   clear hcell hfr hli
   generalize t[i] = l at *
   go_wp2_with fail
   go_loopw [6, 7] (fun s s7 wr => ∃ k bs : Nat, k ≤ m ∧ s7 = .int .i64 k ∧ s = .pointer (some ⟨bs, 0, none⟩) ∧ w.heap.size ≤ bs ∧ Keep NoS w wr ∧ IsRat wr bs 0 (dotN (fun k => tq t i k) (fun k => fqAtM pt k) k)) (fun _ s7 _ => (m - intOf s7).toNat)
   case atStart => exact ⟨0, b1, by omega, rfl, rfl, HB1.out, K1.out, HI1.out⟩
   case round =>
    obtain ⟨k, bs, hk, rfl, rfl, hbs, hkr, hs⟩ := hrel
    have HBS := Lib.hid hbs
    have HKR := Lib.hid hkr
    have HSU := Lib.hid hs
    clear hbs hkr hs K1 HI1 HB1
    have hc0 := (HKR.out.cell hb).trans HCELL.out
    have hbx := Nat.lt_of_lt_of_le hb HKR.out.size
    by_cases hkm : k < m
    case neg =>
     have hltk : ¬ (k : Int) < (m : Int) := by omega
     obtain rfl : k = m := by omega
     go_wp2_with fail
     refine (ratSign_any wr bs 0 _ HSU.out).mono ?_
     rintro e w2 ⟨rfl, rfl⟩
     obtain ⟨q, hq⟩ : ∃ q, dotN (fun k => tq t i k) (fun k => fqAtM pt k) k = q := ⟨_, rfl⟩
     have HQ := Lib.hid hq
     rw [hq]
     obtain ⟨sg, hsg⟩ : ∃ sg, q.num.sign = sg := ⟨_, rfl⟩
     have HSG := Lib.hid hsg
     rw [hsg]
     clear hq hsg hc0
     by_cases h0 : sg = 0
     case pos =>
      subst h0
      have HZ2 : Hid (zB t pt k (i + 1) = true) := Lib.hid (by
       rw [zB_succ, HZ.out, HQ.out, Bool.true_and]
       have := HSG.out
       rw [Int.sign_eq_zero_iff_zero, Rat.num_eq_zero] at this
       exact decide_eq_true this)
      go_wp2
      go_roundw
      case rel => exact ⟨i + 1, by omega, by go_num, HZ2.out, HKR.out⟩
      case measure => simp [intOf]; omega
     case neg =>
      have e1 : (sg != 0) = true := by rw [bne_iff_ne]; exact h0
      have HZ2 : Hid (zB t pt k t.length = false) := Lib.hid (zB_no hil (by rw [HQ.out]; intro hx; exact h0 (by rw [← HSG.out, hx]; rfl)))
      clear h0
      go_wp2
      go_ret
      exact ⟨by rw [HZ2.out]; rfl, HKR.out⟩
    case pos =>
     have hltk : (k : Int) < (m : Int) := by omega
     obtain ⟨bi, oi', rfl, hbi, c0, c1⟩ := HFR.out.at (k := k) (by rw [HLI.out]; exact hkm)
     obtain ⟨bp, op, hox, hbp, d0, d1⟩ := HP.out.at (k := k) (by rw [HLP.out]; exact hkm)
     subst hox
     have HGX := Lib.hid (okI (HOKI.out _ (List.getElem_mem (l := l) (n := k) (by rw [HLI.out]; exact hkm))))
     have HGP := Lib.hid (okI (HPK.out _ (List.getElem_mem (l := pt) (n := k) (by rw [HLP.out]; exact hkm))))
     have HNX := Lib.hid ((nb_frac (HOKI.out _ (List.getElem_mem (l := l) (n := k) (by rw [HLI.out]; exact hkm)))).mono (k := 2000) (by omega))
     have HNP := Lib.hid ((nb_frac (HPK.out _ (List.getElem_mem (l := pt) (n := k) (by rw [HLP.out]; exact hkm)))).mono (k := 2000) (by omega))
     have HNS := Lib.hid ((nb_dot (fun k => nb_tqA HOK.out i k) (fun k => nb_fqAt HPK.out k) k).mono (k := 2000) (by omega))
     have HTX := Lib.hid (HTQ.out k (by rw [HLI.out]; exact hkm))
     have HPX : Hid (fqAtM pt k = (pt[k]'(by rw [HLP.out]; exact hkm)).q) := Lib.hid (by
      unfold fqAtM
      rw [List.getD_eq_getElem?_getD, List.getElem?_eq_getElem (by rw [HLP.out]; exact hkm)]; rfl)
     generalize l[k]'(by rw [HLI.out]; exact hkm) = gx at *
     generalize pt[k]'(by rw [HLP.out]; exact hkm) = gp at *
     have HNZ : Hid (NB 2000 (gx.q * gp.q)) := Lib.hid (by
      have h1 := nb_tqA HOK.out i k
      have h2 := nb_fqAt HPK.out k
      rw [HTX.out] at h1
      rw [HPX.out] at h2
      exact (h1.mul h2).mono (by omega))
     have hbix := Nat.lt_of_lt_of_le hbi HKR.out.size
     have hbpx := Nat.lt_of_lt_of_le hbp HKR.out.size
     have HM := Lib.hid (And.intro hc0 (And.intro ((HKR.out.cell hbi).trans c0) (And.intro ((HKR.out.cell hbi).trans c1) (And.intro ((HKR.out.cell hbp).trans d0) ((HKR.out.cell hbp).trans d1)))))
     clear c0 c1 d0 d1
     go_upto_region 8 with fail
     clear hc0
     refine wp_region_rel (fun S σ w' => Keep NoS wr w' ∧ (S 0 = true → S 2 = true → σ 0 ≠ σ 2)) (pstL8 wr.heap.size (.slice (some ⟨b, o, none⟩) t.length ca) (.slice (some ⟨bi, oi', none⟩) m ci) (.slice (some ⟨bp, op, none⟩) m cp) i k (.pointer (some ⟨b, o + i, none⟩)) (.pointer (some ⟨bi, oi' + k * 2, none⟩)) (.pointer (some ⟨bp, op + k * 2, none⟩)) (.agg #[.int .i64 gx.N, .int .i64 gx.D]) (.agg #[.int .i64 gp.N, .int .i64 gp.D]) (.pointer (some ⟨bs, 0, none⟩)) gx.q gp.q (dotN (fun k => tq t i k) (fun k => fqAtM pt k) k)) (by kernel_rfl) (by kernel_rfl) (by kernel_rfl) (by kernel_rfl) (fun S σ hS => ⟨by (repeat' (with_reducible first | assumption | exact HK.out | exact keR | refine keA ?_ | refine keS ?_ fun h => absurd h (by omega) | refine keN ?_ | refine keD ?_)), fun h => by rw [hS 0] at h; cases h⟩) _ (fun σ => by
      show putAll _ σ [0, 1, 2, 3, 4, 5, 6, 7, 8, 9, 10, 11, 12, 13, 14, 15, 16, 17, 18] _ = _
      simp only [putAll, List.getElem?_toArray, List.getElem?_cons_zero, List.getElem?_cons_succ, Act.put, List.setIfInBounds_toArray, List.set_cons_zero, List.set_cons_succ]
      rfl) ?_ ?_
     ·intro S σ w1 hCC hall e he HK
      have he : e < 19 := he
      obtain ⟨hC, hR⟩ := hCC
      obtain rfl | rfl | rfl | rfl | rfl | rfl | rfl | rfl | rfl | rfl | rfl | rfl | rfl | rfl | rfl | rfl | rfl | rfl | rfl : e = 0 ∨ e = 1 ∨ e = 2 ∨ e = 3 ∨ e = 4 ∨ e = 5 ∨ e = 6 ∨ e = 7 ∨ e = 8 ∨ e = 9 ∨ e = 10 ∨ e = 11 ∨ e = 12 ∨ e = 13 ∨ e = 14 ∨ e = 15 ∨ e = 16 ∨ e = 17 ∨ e = 18 := by omega
      ·refine wpAt rfl rfl fun K hK => ?_
       go_simp
       exact hK _ _ ⟨_, ⟨hC.alloc _, relLL (by omega) fun hs => (by
        obtain ⟨b, e1, _, e2, _⟩ := (show PFrL (S 16) wr.heap.size (σ 2) w1 from hall 2 hs)
        exact ⟨b, e1, e2⟩)⟩, fun d hd hs h => pstL8_keep trivial ((Keep.refl _ _).alloc _) d _ h, rfl, ⟨w1.heap.size, rfl, hC.size, by simp, fun _ => Fresh.new w1⟩⟩
      ·have h18 : σ 18 = Value.pointer (some ⟨bs, 0, none⟩) := HK.init 18 (HK.down 18 (by kernel_rfl))
       rw [h18]
       refine wpAt rfl rfl fun K hK => ?_
       go_simp
       exact hK _ _ ⟨_, ⟨hC, relOL (by omega) (by omega) hR⟩, fun d hd hs h => pstL8_keep trivial (Keep.refl _ _) d _ h, rfl, rfl⟩
      ·refine wpAt rfl rfl fun K hK => ?_
       go_simp
       exact hK _ _ ⟨_, ⟨hC.alloc _, relRL (by omega) fun hs => (by
        obtain ⟨b, e1, _, e2, _⟩ := (show PFrL (S 17) wr.heap.size (σ 0) w1 from hall 0 hs)
        exact ⟨b, e1, e2⟩)⟩, fun d hd hs h => pstL8_keep trivial ((Keep.refl _ _).alloc _) d _ h, rfl, ⟨w1.heap.size, rfl, hC.size, by simp, fun _ => Fresh.new w1⟩⟩
      ·refine wpAt rfl rfl fun K hK => ?_
       go_simp
       exact hK _ _ ⟨_, ⟨hC, relOL (by omega) (by omega) hR⟩, fun d hd hs h => pstL8_keep trivial (Keep.refl _ _) d _ h, rfl, rfl⟩
      ·refine wpAt rfl rfl fun K hK => ?_
       go_simp
       exact hK _ _ ⟨_, ⟨hC, relOL (by omega) (by omega) hR⟩, fun d hd hs h => pstL8_keep trivial (Keep.refl _ _) d _ h, rfl, rfl⟩
      ·have h3 : σ 3 = Value.slice (some ⟨b, o, none⟩) t.length ca := HK.post 3 (by kernel_rfl)
       rw [h3]
       have h4 : σ 4 = Value.int .i64 i := HK.post 4 (by kernel_rfl)
       rw [h4]
       refine wpAt rfl rfl fun K hK => ?_
       go_simp
       exact hK _ _ ⟨_, ⟨hC, relOL (by omega) (by omega) hR⟩, fun d hd hs h => pstL8_keep trivial (Keep.refl _ _) d _ h, rfl, rfl⟩
      ·have h5 : σ 5 = Value.pointer (some ⟨b, o + i, none⟩) := HK.post 5 (by kernel_rfl)
       rw [h5]
       have m0 := (hC.cell hbx).trans HM.out.1
       refine wpAt rfl rfl fun K hK => ?_
       go_simp
       exact hK _ _ ⟨_, ⟨hC, relOL (by omega) (by omega) hR⟩, fun d hd hs h => pstL8_keep trivial (Keep.refl _ _) d _ h, rfl, rfl⟩
      ·refine wpAt rfl rfl fun K hK => ?_
       go_simp
       exact hK _ _ ⟨_, ⟨hC, relOL (by omega) (by omega) hR⟩, fun d hd hs h => pstL8_keep trivial (Keep.refl _ _) d _ h, rfl, rfl⟩
      ·have h6 : σ 6 = Value.slice (some ⟨bi, oi', none⟩) m ci := HK.post 6 (by kernel_rfl)
       rw [h6]
       have h7 : σ 7 = Value.int .i64 k := HK.post 7 (by kernel_rfl)
       rw [h7]
       refine wpAt rfl rfl fun K hK => ?_
       go_simp
       exact hK _ _ ⟨_, ⟨hC, relOL (by omega) (by omega) hR⟩, fun d hd hs h => pstL8_keep trivial (Keep.refl _ _) d _ h, rfl, rfl⟩
      ·have h8 : σ 8 = Value.pointer (some ⟨bi, oi' + k * 2, none⟩) := HK.post 8 (by kernel_rfl)
       rw [h8]
       have m0 := (hC.cell hbix).trans HM.out.2.1
       have m1 := (hC.cell hbix).trans HM.out.2.2.1
       refine wpAt rfl rfl fun K hK => ?_
       go_simp
       exact hK _ _ ⟨_, ⟨hC, relOL (by omega) (by omega) hR⟩, fun d hd hs h => pstL8_keep trivial (Keep.refl _ _) d _ h, rfl, rfl⟩
      ·have h9 : σ 9 = Value.agg #[.int .i64 gx.N, .int .i64 gx.D] := HK.post 9 (by kernel_rfl)
       rw [h9]
       obtain ⟨f1, f2, f3, f4, _⟩ := HGX.out
       refine wpAt rfl rfl fun K hK => ?_
       go_simp
       refine (refRat_any gx.N gx.D _ (by omega) (by omega) (by omega) (by omega) (by omega)).mono ?_
       rintro e w2 ⟨b2, hb2, rfl, hk2, hi2⟩
       exact hK _ _ ⟨_, ⟨hC.both hk2, relOL (by omega) (by omega) hR⟩, fun d hd hs h => pstL8_keep trivial hk2 d _ h, rfl, ⟨b2, rfl, Nat.le_trans hC.size hb2, hi2⟩⟩
      ·refine wpAt rfl rfl fun K hK => ?_
       go_simp
       exact hK _ _ ⟨_, ⟨hC, relOL (by omega) (by omega) hR⟩, fun d hd hs h => pstL8_keep trivial (Keep.refl _ _) d _ h, rfl, rfl⟩
      ·refine wpAt rfl rfl fun K hK => ?_
       go_simp
       exact hK _ _ ⟨_, ⟨hC, relOL (by omega) (by omega) hR⟩, fun d hd hs h => pstL8_keep trivial (Keep.refl _ _) d _ h, rfl, rfl⟩
      ·have h11 : σ 11 = Value.slice (some ⟨bp, op, none⟩) m cp := HK.post 11 (by kernel_rfl)
       rw [h11]
       have h12 : σ 12 = Value.int .i64 k := HK.post 12 (by kernel_rfl)
       rw [h12]
       refine wpAt rfl rfl fun K hK => ?_
       go_simp
       exact hK _ _ ⟨_, ⟨hC, relOL (by omega) (by omega) hR⟩, fun d hd hs h => pstL8_keep trivial (Keep.refl _ _) d _ h, rfl, rfl⟩
      ·have h13 : σ 13 = Value.pointer (some ⟨bp, op + k * 2, none⟩) := HK.post 13 (by kernel_rfl)
       rw [h13]
       have m0 := (hC.cell hbpx).trans HM.out.2.2.2.1
       have m1 := (hC.cell hbpx).trans HM.out.2.2.2.2
       refine wpAt rfl rfl fun K hK => ?_
       go_simp
       exact hK _ _ ⟨_, ⟨hC, relOL (by omega) (by omega) hR⟩, fun d hd hs h => pstL8_keep trivial (Keep.refl _ _) d _ h, rfl, rfl⟩
      ·have h14 : σ 14 = Value.agg #[.int .i64 gp.N, .int .i64 gp.D] := HK.post 14 (by kernel_rfl)
       rw [h14]
       obtain ⟨f1, f2, f3, f4, _⟩ := HGP.out
       refine wpAt rfl rfl fun K hK => ?_
       go_simp
       refine (refRat_any gp.N gp.D _ (by omega) (by omega) (by omega) (by omega) (by omega)).mono ?_
       rintro e w2 ⟨b2, hb2, rfl, hk2, hi2⟩
       exact hK _ _ ⟨_, ⟨hC.both hk2, relOL (by omega) (by omega) hR⟩, fun d hd hs h => pstL8_keep trivial hk2 d _ h, rfl, ⟨b2, rfl, Nat.le_trans hC.size hb2, hi2⟩⟩
      ·obtain ⟨bz, ez, hgz, _, hz⟩ := (show PFrL (S 16) wr.heap.size (σ 2) w1 from HK.post 2 (by kernel_rfl))
       have hz := hz HK.self
       obtain ⟨bx, ex, hgx, hx⟩ := (show PRat wr.heap.size gx.q (σ 10) w1 from HK.post 10 (by kernel_rfl))
       obtain ⟨by', ey, hgy, hy⟩ := (show PRat wr.heap.size gp.q (σ 15) w1 from HK.post 15 (by kernel_rfl))
       rw [ez, ex, ey]
       have hn0 : ∀ d, S d = true → d = 0 → σ d ≠ .pointer (some ⟨bz, 0, none⟩) := fun d hs h0 => by
        subst h0
        rw [← ez]
        exact hR hs (HK.up 2 (by kernel_rfl))
       refine wpAt rfl rfl fun K hK => ?_
       go_simp
       refine (wMul_any w1 bz 0 bx 0 by' 0 _ _ hz.rhdr hx hy HNX.out HNP.out).mono ?_
       rintro e w2 ⟨rfl, hk2, hi2⟩
       exact hK _ _ ⟨_, ⟨hC.newerR hk2 hgz, relOL (by omega) (by omega) hR⟩, fun d hd hs h => pstL8_mul hz hk2 d _ hd (hn0 d hs) h, rfl, ⟨bz, rfl, hgz, hi2⟩⟩
      ·obtain ⟨bz, ez, hgz, _, hz⟩ := (show PFrL (S 17) wr.heap.size (σ 0) w1 from HK.post 0 (by kernel_rfl))
       have hz := hz HK.self
       have hps : σ 1 = Value.pointer (some ⟨bs, 0, none⟩) := HK.post 1 (by kernel_rfl)
       obtain ⟨bt, et, hgt, ht⟩ := (show PRat wr.heap.size (gx.q * gp.q) (σ 16) w1 from HK.post 16 (by kernel_rfl))
       rw [ez, hps, et]
       refine wpAt rfl rfl fun K hK => ?_
       go_simp
       refine (wAdd_any w1 bz 0 bs 0 bt 0 _ _ hz.rhdr (HSU.out.ofNewer hC) ht HNS.out HNZ.out).mono ?_
       rintro e w2 ⟨rfl, hk2, hi2⟩
       exact hK _ _ ⟨_, ⟨hC.newerR hk2 hgz, relOL (by omega) (by omega) hR⟩, fun d hd hs h => pstL8_add hz hk2 (HK.up 16 (by kernel_rfl)) d _ hd h, rfl, ⟨bz, rfl, hgz, hi2⟩⟩
      ·obtain ⟨bx, ex, hgx, hx⟩ := (show PRat wr.heap.size ((dotN (fun k => tq t i k) (fun k => fqAtM pt k) k) + gx.q * gp.q) (σ 17) w1 from HK.post 17 (by kernel_rfl))
       rw [ex]
       refine wpAt rfl rfl fun K hK => ?_
       go_simp
       exact hK _ _ ⟨_, ⟨hC, relOL (by omega) (by omega) hR⟩, fun d hd hs h => pstL8_keep trivial (Keep.refl _ _) d _ h, rfl, ⟨bx, rfl, hgx, hx⟩⟩
     ·intro S σ w5 hCC hS hP8
      obtain ⟨hC, _⟩ := hCC
      obtain ⟨bx, e18, hgx, hx⟩ := (show PRat wr.heap.size ((dotN (fun k => tq t i k) (fun k => fqAtM pt k) k) + gx.q * gp.q) (σ 18) w5 from hP8 18 (by decide))
      rw [e18]
      refine NoPanic.normal ?_
      have K5 := Lib.hid (HKR.out.both hC)
      have HX5 : Hid (IsRat w5 bx 0 (dotN (fun k => tq t i k) (fun k => fqAtM pt k) (k + 1))) := Lib.hid (by
       show IsRat w5 bx 0 ((dotN (fun k => tq t i k) (fun k => fqAtM pt k) k) + tq t i k * fqAtM pt k)
       rw [HTX.out, HPX.out]
       exact hx)
      have HG5 : Hid (w.heap.size ≤ bx) := Lib.hid (Nat.le_trans HKR.out.size hgx)
      clear hP8 hS hC e18 hgx hx
      go_wp2
      go_roundw
      case rel => exact ⟨k + 1, bx, by omega, by go_num, rfl, HG5.out, K5.out, HX5.out⟩
      case measure => simp [intOf]; omega
end Go.Proofs.YtamjmcdlddocgaaGreat
